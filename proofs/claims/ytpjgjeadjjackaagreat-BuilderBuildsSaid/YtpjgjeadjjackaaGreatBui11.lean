/- Lemmas. -/
import Derived.Test.YtpjgjeadjjackaaGreatBui3
import Derived.Test.YtpjgjeadjjackaaGreatBui7
import Derived.Test.YtpjgjeadjjackaaGreatBui2
import Derived.Test.YtpjgjeadjjackaaGreatBui4
import Derived.Deep.DeepCutAuto
import Derived.Laws.Rows
import Derived.Lib.AppendStr
import Derived.Laws.IdiomStrings
import Derived.IntWalk
import Derived.BigQuiet
import Derived.KernelRfl
set_option linter.unusedVariables false
set_option linter.unusedSimpArgs false
set_option maxHeartbeats 64000000
set_option maxRecDepth 100000
namespace Go.Proofs.YtpjgjeadjjackaaGreat
open Go.RowKit
open Go.Proofs.Tryz renaming prog->asq
open _root_.Bool renaming and_eq_true->pJ,or_assoc->DY,eq_iff_iff->Rq
open Go renaming heap_alloc_new->ah2,wpList_store_row->Bv,setRow_other->cu,setRow_heap->TL,wpAny_of_held->P8,wpAnyH_done->E5,bodyPost_ret->qE,results_cell_row->tT,heap_alloc_old->dX
open Go.IntKind renaming wrap_i64->BX
open Go.Lib renaming frozen_of_heap->vV,cell_of_heap->aV
open Go.RowKit.Below renaming refl->PZ,heap_setCell->nK
open Go.World renaming size_alloc->lW,block_lt_of_cell?->fD
open _root_.List renaming length_append->Kk,getElem?_eq_getElem->gP,take_succ_eq_append_getElem->wC,getD_eq_getElem?_getD->tK,mem_cons->Y1,getElem?_eq_some_iff->Sm,not_mem_nil->nW,mem_of_getElem?->dH,length_cons->oF,take_of_length_le->dh,map_append->A7,getElem?_cons_succ->Y6,append_assoc->Sq,take_succ_cons->DZ,length_take->og,length_map->BR,mem_of_mem_take->Ub,map_cons->Sn,findIdx?_cons->dz,take_length->dF,cons_append->Aa,mem_append->D5,length_nil->aR,map_nil->aaT
open _root_.Nat renaming le_refl->oD,le_trans->eG,zero_le->alg,lt_or_ge->oG,le_of_lt->qx,lt_of_lt_of_le->akb,min_eq_left->JW
open _root_.Option.some renaming inj->qY
open _root_.Or renaming inl->aH,inr->aZ
variable {p q:aA}{e a b u:Int}{s:aM}{arT aG:List UInt8}{l:List bF}{i B pb:Nat}{v:bG}{w:World}{sv:bN}
def gu (a b:Int):Int:=if a=0 then b else a
def fF (p q:aA) (e:Int):Prop:=gu p.asj e=q.asj
theorem BJ (a b c:Int):gu (gu a b) c=gu a (gu b c):=by
 unfold gu;by_cases h:a=0
 ·rw[if_pos h,if_pos h]
 ·rw[if_neg h,if_neg h,if_neg h]
theorem ab2 (a:Int):gu a 0=a:=by unfold gu;split<;>omega
theorem fF.refl (p:aA):fF p p 0:=ab2 _
theorem fF.trans {r:aA} {x:Int} (h:fF p q e) (k:fF q r x):fF p r (gu e x):=by
 unfold fF at *;rw[<-BJ,h,k]
theorem BM (p:aA) (b:Bool) (c:Int):fF p (p.dm b c) (if b=true then c else 0):=by
 unfold fF gu aA.dm aA.fail
 cases b with
 | false=>simp only[Bool.false_eq_true,if_false];split<;>omega
 | true=>
  simp only[if_true];by_cases h:p.asj=0
  ·rw[if_pos h,if_pos h]
  ·rw[if_neg h,if_neg h]
theorem fF.same {q':aA} (h:fF p q e) (hq:q'.asj=q.asj):fF p q' e:=by
 unfold fF at *;rw[h,hq]
theorem fF.zero (h:fF p q e) (hp:p.asj=0):e=q.asj:=by
 unfold fF gu at h;rw[if_pos hp]at h;exact h
def qN (u:Int):Int:=if u=0 then 4 else if u=1 then 2 else if u=2 then 5 else u
theorem aiC (ha:0<=a/\a<=3) (hb:0<=b/\b<=3) (h:qN a=qN b):a=b:=by
 unfold qN at h
 repeat' split at h
 all_goals omega
def oL (c:Int × Int):Int × Int:=(qN c.1,c.2)
def Gc (l:List (Int × Int)):Prop:=∀c∈l,0<=c.1/\c.1<=3
theorem Gc.place {l:List (Int × Int)} {s:Int} (h:Gc l) (hu:0<=u/\u<=3):Gc (fE l (u,s)).1:=by
 unfold fE
 split
 ·exact h
 ·intro c hc
  rcases D5.1 hc with h1 | h1
  ·exact h c h1
  ·simp at h1;subst h1;exact hu
theorem JP {α:Type} {f g:α->Bool}:∀ {l:List α},(∀x∈l,f x=g x)->l.findIdx? f=l.findIdx? g
 | [],_=>rfl
 | x :: l,h=>by
  rw[dz,dz,h x arG,JP (l:=l) (fun y hy=>h y (by simp[hy]))]
theorem TM {l:List (Int × Int)} {s:Int} (h:Gc l) (hu:0<=u/\u<=3):(l.map oL).findIdx? (fun y=>decide (y=(qN u,s)))=l.findIdx? (fun y=>decide (y=(u,s))):=by
 rw[findIdx?_map];refine JP fun x hx=> ?_
 have hx:=h x hx;obtain⟨a,b⟩:=x;rw[decide_eq_decide];constructor
 ·intro e
  obtain⟨e1,e2⟩:=Prod.mk.inj e;have e3:a=u:=aiC hx hu e1;have e4:b=s:=e2;rw[e3,e4]
 ·rintro e
  obtain⟨e1,e2⟩:=Prod.mk.inj e;rw[show oL (a,b)=(qN a,b)from rfl,e1,e2]
theorem ab3 {l:List (Int × Int)} {s:Int} (h:Gc l) (hu:0<=u/\u<=3):((fE l (u,s)).1).map oL=(fE (l.map oL) (qN u,s)).1:=by
 unfold fE;rw[TM h hu]
 cases l.findIdx? (fun y=>decide (y=(u,s)))with
 | some i=>rfl
 | none=>simp[oL]
def oM (arT aG:List UInt8) (l:List bF):Int:=match l.findIdx? (dD arT aG)with | some i=>(i:Int) | none=> -1
theorem oN (h:l.findIdx? (dD arT aG)=some i):oM arT aG l=i:=by unfold oM;rw[h]
def kw (k:Int):Int:=if k=1 then 1 else if k=3 then 2 else if k=4 then 3 else if k=2 then 4 else 0
def iC (a:Int):List Int:=if a=1 then [1] else if a=2∨a=3 then [3] else [2,1]
theorem adB {s:bF} (h:bC s=true):s.ar3=1∨s.ar3=2∨s.ar3=3:=by
 unfold bC at h;simp only[pJ,arI]at h;omega
theorem acG (s:bF):(!decide (s.ar3=1)|| !bC s)=(!decide (s.ar3∈[1])|| !bC s):=arG
theorem Ik (s:bF):(!decide (s.ar3=3)|| !bC s)=(!decide (s.ar3∈[3])|| !bC s):=arG
theorem aaC (s:bF):(decide (s.ar3=3)|| !bC s)=(!decide (s.ar3∈[2,1])|| !bC s):=by
 cases hr:bC s with
 | false=>simp
 | true=>
  rcases adB hr with h | h | h<;>simp[h]
def fC (fs:List eH) (n:Nat):Int:=bO ((fs.take n).flatMap (·.ar5))
theorem KH:∀(fs:List eH) (at_:Int) (i:Nat),i<fs.length->(jD at_ fs)[i]? =some (at_+fC fs i)
 | f :: r,at_,0,_=>by simp[jD,fC,bO]
 | f :: r,at_,i+1,h=>by
  have ih:=KH r (at_+bO f.ar5) i (by simpa using h);rw[jD,Y6,ih];simp only[fC,DZ,List.flatMap_cons,mX]
  congr 1;omega
theorem KI:∀(fs:List eH) (at_:Int),(jD at_ fs).length=fs.length
 | [],_=>rfl
 | f :: r,at_=>by simp[jD,KI r]
theorem X9 (fs:List eH):kQ 0 fs=fC fs fs.length:=by
 rw[Be,fC,dF];omega
theorem TN {fs:List eH} {f:eH} (h:fs[i]? =some f):fC fs (i+1)=fC fs i+bO f.ar5:=by
 obtain⟨hi,rfl⟩:=Sm.1 h;unfold fC;rw[wC hi,List.flatMap_append,mX];simp
theorem adC (fs:List eH):fC fs 0=0:=by simp[fC,bO]
theorem kW:∀l:List dw,0<=bO l/\bO l<=24*l.length
 | []=>⟨Int.le_refl _,by simp[bO]⟩
 | x :: l=>by
  have ih:=kW l;unfold bO jZ;rw[oF]
  split<;>omega
def jh:List dx->Int
 | []=>0
 | v :: r=>(if v.sym.ar3=3 then 0 else 8*v.ar8.length)+jh r
def kJ:List dx->Int
 | []=>0
 | v :: r=>(if v.sym.ar3=3 then 8*v.ar8.length else 0)+kJ r
theorem OJ:∀a b:List dx,jh (a++b)=jh a+jh b
 | [],b=>by simp[jh]
 | x :: a,b=>by simp only[Aa,jh,OJ a b];omega
theorem QP:∀a b:List dx,kJ (a++b)=kJ a+kJ b
 | [],b=>by simp[kJ]
 | x :: a,b=>by simp only[Aa,kJ,QP a b];omega
theorem KJ:∀(vs:List dx) (d t:Int),(jg d t vs).2=(d+jh vs,t+kJ vs)
 | [],d,t=>by simp[jg,jh,kJ]
 | v :: r,d,t=>by
  unfold jg jh kJ;by_cases h:v.sym.ar3=3
  ·rw[if_pos h,if_pos h,if_pos h]
   simp only[KJ r]
   congr 1<;>omega
  ·rw[if_neg h,if_neg h,if_neg h]
   simp only[KJ r]
   congr 1<;>omega
theorem aaD:∀(vs:List dx) (d t:Int),(jg d t vs).1.length=vs.length
 | [],_,_=>rfl
 | v :: r,d,t=>by
  unfold jg
  split<;>simp[aaD r]
def aiD (d:Int) (vs:List dx) (n:Nat):Int:=match vs[n]? with
 | some v=>if v.sym.ar3=3 then kJ (vs.take n) else d+jh (vs.take n)
 | none=>d+jh (vs.take n)
theorem RJ:∀(vs:List dx) (d t:Int) (i:Nat) (v:dx),vs[i]? =some v->(jg d t vs).1[i]? =some (if v.sym.ar3=3 then t+kJ (vs.take i) else d+jh (vs.take i))
 | x :: r,d,t,0,v,h=>by
  obtain rfl:=qY h;unfold jg;by_cases hk:x.sym.ar3=3
  ·rw[if_pos hk];simp[hk,kJ]
  ·rw[if_neg hk];simp[hk,jh]
 | x :: r,d,t,i+1,v,h=>by
  have h:r[i]? =some v:=h;unfold jg;by_cases hk:x.sym.ar3=3
  ·rw[if_pos hk]
   simp only[Y6,RJ r _ _ i v h,DZ,jh,kJ,if_pos hk]
   congr 1;split<;>omega
  ·rw[if_neg hk]
   simp only[Y6,RJ r _ _ i v h,DZ,jh,kJ,if_neg hk]
   congr 1;split<;>omega
theorem akT {v:dx} (h:s.vars[i]? =some v):(aN s p).vars.getD i 0=aiD ((aN s p).bW+8*p.ar7.length) s.vars i:=by
 unfold aN aiD;simp only[tK,RJ _ _ _ i v h,h,Option.getD_some]
 split<;>omega
theorem aaE (s:aM) (p:aA):(aN s p).data=(aN s p).bW+8*p.ar7.length+jh s.vars:=by
 unfold aN;simp only[KJ]
theorem acH (s:aM) (p:aA):(aN s p).bf=kJ s.vars:=by
 unfold aN;simp only[KJ];omega
theorem aaF (h:i<s.ar2.length):(aN s p).ar2.getD i 0=fC s.ar2 i:=by
 unfold aN;simp only[tK,KH s.ar2 0 i h,Option.getD_some];omega
theorem OL (s:aM) (p:aA):(aN s p).aS=fC s.ar2 s.ar2.length:=X9 s.ar2
theorem acI (s:aM) (p:aA):(aN s p).got=if fC s.ar2 s.ar2.length+24*p.ar7.length=0 then 64 else ny (fC s.ar2 s.ar2.length+24*p.ar7.length):=by
 have h0:=kW ((s.ar2.take s.ar2.length).flatMap (·.ar5));have h1:0<=fC s.ar2 s.ar2.length:=h0.1;unfold aN;simp only[X9]
 split
 ·rename_i h;rw[h];decide
 ·congr 1;omega
def wG (sv:bN) (s:aM) (v:bG):List Value:=kL sv s++[v.av,v.cells,v.ar7]
structure gM (B pb:Nat) (w:World) (sv:bN) (s:aM) (v:bG) (p:aA):Prop where
 ex:w.heap[pb]? =some (.cells (wG sv s v).toArray 103 (0,0))
 base:B<=pb
 av:aX 54 gq B (fun b=>b=pb∨v.cells.ownBlock=some b∨v.ar7.ownBlock=some b) w v.av p.av
 cells:aX 156 qC B (fun b=>b=pb∨v.av.ownBlock=some b∨v.ar7.ownBlock=some b) w v.cells (p.cells.map oL)
 ar7:aX 3 dJ B (fun b=>b=pb∨v.av.ownBlock=some b∨v.cells.ownBlock=some b) w v.ar7 p.ar7
 uses:Gc p.cells
 spec:gB (·<B) w sv s
section
variable {B pb : Nat} {w w' : World} {sv : bN} {s : aM} {v v' : bG} {p q : aA}
theorem gM.lt (h:gM B pb w sv s v p):pb<w:=by
 rcases oG pb w.heap.size with h' | h'
 ·exact h'
 ·have:=h.ex;rw[Array.getElem?_eq_none h']at this;cases this
theorem gM.qf (h:gM B pb w sv s v p) {b:Nat} (hb:v.has b):B<=b/\b<w/\b≠pb:=by
 rcases hb with h1 | h1 | h1
 ·have:=h.av.lt b h1;exact⟨this.1,this.2,fun e=>h.av.notE b h1 (aH e)⟩
 ·have:=h.cells.lt b h1;exact⟨this.1,this.2,fun e=>h.cells.notE b h1 (aH e)⟩
 ·have:=h.ar7.lt b h1;exact⟨this.1,this.2,fun e=>h.ar7.notE b h1 (aH e)⟩
theorem gM.same (h:gM B pb w sv s v p) (h1:q.av=p.av) (h2:q.cells=p.cells) (h3:q.ar7=p.ar7):gM B pb w sv s v q:=
 ⟨h.ex,h.base,by rw[h1];exact h.av,by rw[h2];exact h.cells,by rw[h3];exact h.ar7,by rw[h2];exact h.uses,h.spec⟩
theorem gM.below (h:gM B pb w sv s v p) (hB:B<=w) (hb:Below w w w'):gM B pb w' sv s v p:=
 ⟨(hb.block pb h.lt).trans h.ex,h.base,h.av.below hb,h.cells.below hb,h.ar7.below hb,h.uses,h.spec.asa (fun b hb'=>hb.block b (akb hb' hB))⟩
theorem aU.aoh (h:aU pb v v' w w') (hM:gM B pb w sv s v p) (hB:B<=w):Below B w w':=by
 refine(h.step.imp (S':=(·<B)) fun b hb=>⟨?_,?_,fun hh=> ?_⟩).below
 ·have hb:b<B:=hb;omega
 ·have hb:b<B:=hb;have:=hM.base;omega
 ·have hb:b<B:=hb;have:=(hM.qf hh).1;omega
theorem gM.cell (h:gM B pb w sv s v p) (i:Nat) (u:Value) (hu:(wG sv s v)[i]? =some u):w.cell? (ak pb i)=some u:=by
 rw[aV h.ex];simpa using hu
theorem gM.c4 (h:gM B pb w sv s v p):w.cell? (ak pb 4)=some sv.ar2:=h.cell 4 _ rfl
theorem gM.c5 (h:gM B pb w sv s v p):w.cell? (ak pb 5)=some sv.vars:=h.cell 5 _ rfl
theorem gM.c6 (h:gM B pb w sv s v p):w.cell? (ak pb 6)=some sv.ar1:=h.cell 6 _ rfl
theorem gM.c9 (h:gM B pb w sv s v p):w.cell? (ak pb 9)=some v.av:=h.cell 9 _ rfl
theorem gM.c10 (h:gM B pb w sv s v p):w.cell? (ak pb 10)=some v.cells:=h.cell 10 _ rfl
theorem gM.c11 (h:gM B pb w sv s v p):w.cell? (ak pb 11)=some v.ar7:=h.cell 11 _ rfl
end
theorem adD:(Tryz.prog.info? 156).map (fun i=>(i.zero,i.size,i.bytes))=some (some (.agg #[ah 0,ah 0]),2,16):=TA
section
variable {B pb : Nat} {w w' : World} {sv : bN} {s : aM} {v : bG} {p : aA} {u : Value}
theorem gM.putCells {l:List (Int × Int)} (hM:gM B pb w sv s v p) (hst:Step (fun b=>b<w/\v.cells.ownBlock≠some b) w w') (hown:aX 156 qC B (fun _=>False) w' u (l.map oL)) (hu:Gc l)
  (hnew:∀b,u.ownBlock=some b->v.cells.ownBlock=some b∨w.heap.size<=b):
  gM B pb (w'.setCell ⟨pb,10,none⟩ u) sv s {v with cells:=u } {p with cells:=l }/\aU pb v {v with cells:=u } w (w'.setCell ⟨pb,10,none⟩ u):=by
 have hpl:=hM.lt;have hpc:v.cells.ownBlock≠some pb:=fun e=>hM.cells.notE pb e (aH rfl)
 have FL:u.ownBlock≠some pb:=fun e=>by rcases hnew pb e with h | h;exact hpc h;omega
 have hex:w'.heap[pb]? =some (.cells (wG sv s v).toArray 103 (0,0)):=(hst.block pb ⟨hpl,hpc⟩).trans hM.ex
 have hs:aX 54 gq B (fun b=>b=pb∨u.ownBlock=some b∨v.ar7.ownBlock=some b) w' v.av p.av:=
  (hM.av.step hst (fun b hb hE=>⟨hb,fun h=>hE (aZ (aH h))⟩)).fJ ig (fun g hg h=>by
   rcases h with h | h | h
   ·exact hM.av.notE g hg (aH h)
   ·rcases hnew g h with h' | h'
    ·exact hM.av.notE g hg (aZ (aH h'))
    ·have:=(hM.av.lt g hg).2;omega
   ·exact hM.av.notE g hg (aZ (aZ h)))
 have hj:aX 3 dJ B (fun b=>b=pb∨v.av.ownBlock=some b∨u.ownBlock=some b) w' v.ar7 p.ar7:=
  (hM.ar7.step hst (fun b hb hE=>⟨hb,fun h=>hE (aZ (aZ h))⟩)).fJ dN (fun g hg h=>by
   rcases h with h | h | h
   ·exact hM.ar7.notE g hg (aH h)
   ·exact hM.ar7.notE g hg (aZ (aH h))
   ·rcases hnew g h with h' | h'
    ·exact hM.ar7.notE g hg (aZ (aZ h'))
    ·have:=(hM.ar7.lt g hg).2;omega)
 have hc:aX 156 qC B (fun b=>b=pb∨v.av.ownBlock=some b∨v.ar7.ownBlock=some b) w' u (l.map oL):=hown.fJ kY (fun g hg h=>by
  rcases h with h | h | h
  ·exact FL (h ▸ hg)
  ·rcases hnew g hg with h' | h'
   ·exact hM.av.notE g h (aZ (aH h'))
   ·have:=(hM.av.lt g h).2;omega
  ·rcases hnew g hg with h' | h'
   ·exact hM.ar7.notE g h (aZ (aZ h'))
   ·have:=(hM.ar7.lt g h).2;omega)
 refine⟨⟨eu hex 10 u,hM.base,hs.setOther (aH rfl) 10 u,hc.setOther (aH rfl) 10 u,hj.setOther (aH rfl) 10 u,hu,hM.spec.asa (fun b hb=>by
  have hb:b<B:=hb;have:=hM.base;exact(nK _ _ _ _ (by show b≠pb;omega)).trans (hst.block b ⟨wP,fun e=>by have:=(hM.cells.lt b e).1;omega⟩))⟩,⟨(hst.imp (fun b hb=>⟨hb.1,fun h=>hb.2.2 (aZ (aH h))⟩)).setCell (fun h=>h.2.1 rfl) u,fun b hb=> ?_⟩⟩
 rcases hb with h | h | h
 ·exact aH (aH h)
 ·rcases hnew b h with h' | h'
  ·exact aH (aZ (aH h'))
  ·exact aZ h'
 ·exact aH (aZ (aZ h))
theorem gM.Rt {l:List Int} (hM:gM B pb w sv s v p) (hst:Step (fun b=>b<w/\v.ar7.ownBlock≠some b) w w') (hown:aX 3 dJ B (fun _=>False) w' u l)
  (hnew:∀b,u.ownBlock=some b->v.ar7.ownBlock=some b∨w.heap.size<=b):
  gM B pb (w'.setCell ⟨pb,11,none⟩ u) sv s {v with ar7:=u } {p with ar7:=l }/\aU pb v {v with ar7:=u } w (w'.setCell ⟨pb,11,none⟩ u):=by
 have hpl:=hM.lt;have hpc:v.ar7.ownBlock≠some pb:=fun e=>hM.ar7.notE pb e (aH rfl)
 have FL:u.ownBlock≠some pb:=fun e=>by rcases hnew pb e with h | h;exact hpc h;omega
 have hex:w'.heap[pb]? =some (.cells (wG sv s v).toArray 103 (0,0)):=(hst.block pb ⟨hpl,hpc⟩).trans hM.ex
 have hs:aX 54 gq B (fun b=>b=pb∨v.cells.ownBlock=some b∨u.ownBlock=some b) w' v.av p.av:=
  (hM.av.step hst (fun b hb hE=>⟨hb,fun h=>hE (aZ (aZ h))⟩)).fJ ig (fun g hg h=>by
   rcases h with h | h | h
   ·exact hM.av.notE g hg (aH h)
   ·exact hM.av.notE g hg (aZ (aH h))
   ·rcases hnew g h with h' | h'
    ·exact hM.av.notE g hg (aZ (aZ h'))
    ·have:=(hM.av.lt g hg).2;omega)
 have hc:aX 156 qC B (fun b=>b=pb∨v.av.ownBlock=some b∨u.ownBlock=some b) w' v.cells (p.cells.map oL):=
  (hM.cells.step hst (fun b hb hE=>⟨hb,fun h=>hE (aZ (aZ h))⟩)).fJ kY (fun g hg h=>by
   rcases h with h | h | h
   ·exact hM.cells.notE g hg (aH h)
   ·exact hM.cells.notE g hg (aZ (aH h))
   ·rcases hnew g h with h' | h'
    ·exact hM.cells.notE g hg (aZ (aZ h'))
    ·have:=(hM.cells.lt g hg).2;omega)
 have hj:aX 3 dJ B (fun b=>b=pb∨v.av.ownBlock=some b∨v.cells.ownBlock=some b) w' u l:=hown.fJ dN (fun g hg h=>by
  rcases h with h | h | h
  ·exact FL (h ▸ hg)
  ·rcases hnew g hg with h' | h'
   ·exact hM.av.notE g h (aZ (aZ h'))
   ·have:=(hM.av.lt g h).2;omega
  ·rcases hnew g hg with h' | h'
   ·exact hM.cells.notE g h (aZ (aZ h'))
   ·have:=(hM.cells.lt g h).2;omega)
 refine⟨⟨eu hex 11 u,hM.base,hs.setOther (aH rfl) 11 u,hc.setOther (aH rfl) 11 u,hj.setOther (aH rfl) 11 u,hM.uses,hM.spec.asa (fun b hb=>by
  have hb:b<B:=hb;have:=hM.base;exact(nK _ _ _ _ (by show b≠pb;omega)).trans (hst.block b ⟨wP,fun e=>by have:=(hM.ar7.lt b e).1;omega⟩))⟩,⟨(hst.imp (fun b hb=>⟨hb.1,fun h=>hb.2.2 (aZ (aZ h))⟩)).setCell (fun h=>h.2.1 rfl) u,fun b hb=> ?_⟩⟩
 rcases hb with h | h | h
 ·exact aH (aH h)
 ·exact aH (aZ (aH h))
 ·rcases hnew b h with h' | h'
  ·exact aH (aZ (aZ h'))
  ·exact aZ h'
theorem gM.Aw (hM:gM B pb w sv s v p) (hst:Step (fun b=>b<w/\v.av.ownBlock≠some b) w w') (hown:aX 54 gq B (fun _=>False) w' u l)
  (hnew:∀b,u.ownBlock=some b->v.av.ownBlock=some b∨w.heap.size<=b):
  gM B pb (w'.setCell ⟨pb,9,none⟩ u) sv s {v with av:=u } {p with av:=l }/\aU pb v {v with av:=u } w (w'.setCell ⟨pb,9,none⟩ u):=by
 have hpl:=hM.lt;have hpc:v.av.ownBlock≠some pb:=fun e=>hM.av.notE pb e (aH rfl)
 have FL:u.ownBlock≠some pb:=fun e=>by rcases hnew pb e with h | h;exact hpc h;omega
 have hex:w'.heap[pb]? =some (.cells (wG sv s v).toArray 103 (0,0)):=(hst.block pb ⟨hpl,hpc⟩).trans hM.ex
 have hc:aX 156 qC B (fun b=>b=pb∨u.ownBlock=some b∨v.ar7.ownBlock=some b) w' v.cells (p.cells.map oL):=
  (hM.cells.step hst (fun b hb hE=>⟨hb,fun h=>hE (aZ (aH h))⟩)).fJ kY (fun g hg h=>by
   rcases h with h | h | h
   ·exact hM.cells.notE g hg (aH h)
   ·rcases hnew g h with h' | h'
    ·exact hM.cells.notE g hg (aZ (aH h'))
    ·have:=(hM.cells.lt g hg).2;omega
   ·exact hM.cells.notE g hg (aZ (aZ h)))
 have hj:aX 3 dJ B (fun b=>b=pb∨u.ownBlock=some b∨v.cells.ownBlock=some b) w' v.ar7 p.ar7:=
  (hM.ar7.step hst (fun b hb hE=>⟨hb,fun h=>hE (aZ (aH h))⟩)).fJ dN (fun g hg h=>by
   rcases h with h | h | h
   ·exact hM.ar7.notE g hg (aH h)
   ·rcases hnew g h with h' | h'
    ·exact hM.ar7.notE g hg (aZ (aH h'))
    ·have:=(hM.ar7.lt g hg).2;omega
   ·exact hM.ar7.notE g hg (aZ (aZ h)))
 have hs:aX 54 gq B (fun b=>b=pb∨v.cells.ownBlock=some b∨v.ar7.ownBlock=some b) w' u l:=hown.fJ ig (fun g hg h=>by
  rcases h with h | h | h
  ·exact FL (h ▸ hg)
  ·rcases hnew g hg with h' | h'
   ·exact hM.cells.notE g h (aZ (aH h'))
   ·have:=(hM.cells.lt g h).2;omega
  ·rcases hnew g hg with h' | h'
   ·exact hM.ar7.notE g h (aZ (aH h'))
   ·have:=(hM.ar7.lt g h).2;omega)
 refine⟨⟨eu hex 9 u,hM.base,hs.setOther (aH rfl) 9 u,hc.setOther (aH rfl) 9 u,hj.setOther (aH rfl) 9 u,hM.uses,hM.spec.asa (fun b hb=>by
  have hb:b<B:=hb;have:=hM.base;exact(nK _ _ _ _ (by show b≠pb;omega)).trans (hst.block b ⟨wP,fun e=>by have:=(hM.av.lt b e).1;omega⟩))⟩,⟨(hst.imp (fun b hb=>⟨hb.1,fun h=>hb.2.2 (aH h)⟩)).setCell (fun h=>h.2.1 rfl) u,fun b hb=> ?_⟩⟩
 rcases hb with h | h | h
 ·rcases hnew b h with h' | h'
  ·exact aH (aH h')
  ·exact aZ h'
 ·exact aH (aZ (aH h))
 ·exact aH (aZ (aZ h))
end
theorem dR (w:World) (a b:Int):Calls asq 23 #[ah a,ah b] w fun e w'=>e=.returned (ah (gu a b))/\w'=w:=by
 by_cases h:a=0
 ·have hb:(a != 0)=false:=by simp[h]
  have HR:Hid (gu a b=b):=aj (if_pos h);clear h;go_enter Tryz.func23,Tryz.ntmps23;go_wp2;go_ret;exact⟨by rw[HR.af];rfl,rfl⟩
 ·have hb:(a != 0)=true:=by simp[h]
  have HR:Hid (gu a b=a):=aj (if_neg h);clear h;go_enter Tryz.func23,Tryz.ntmps23;go_wp2;go_ret;exact⟨by rw[HR.af];rfl,rfl⟩
theorem lQ (w:World) (b:Bool) (c:Int):Calls asq 25 #[.bool b,ah c] w fun e w'=>e=.returned (ah (if b=true then c else 0))/\w'=w:=by
 cases b with
 | true=>
  go_enter Tryz.func25,Tryz.ntmps25;go_wp2;go_ret;exact⟨rfl,rfl⟩
 | false=>
  go_enter Tryz.func25,Tryz.ntmps25;go_wp2;go_ret;exact⟨rfl,rfl⟩
theorem aha (w:World) (x:dw):Calls asq 77 #[.agg (Au x).toArray] w fun e w'=>e=.returned (ah (jZ x*8))/\Below w w w':=by
 unfold Au;have F0:=aj (ah2 w (aB (arL x) 60));have B0:=aj ((PZ w.heap.size w).alloc (oD _) (aB (arL x) 60));have HK:Hid (jZ x=if x.ar3=3∨x.ar3=4 then 3 else 1):=aj rfl;go_enter Tryz.func77,Tryz.ntmps77;go_upto_region 1 with fail
 generalize w.alloc (aB (arL x) 60)=w1 at *;have c0:w1.cell? (ak w 0)=some (ah x.ar3):=aL F0.af rfl;by_cases h3:x.ar3=3
 ·have hb3:(x.ar3==3)=true:=by simp[h3]
  have HR:Hid (jZ x*8=24):=aj (by rw[HK.af,if_pos (aH h3)];rfl);clear h3 HK;go_wp2;go_ret;exact⟨by rw[HR.af];rfl,B0.af⟩
 ·have hb3:(x.ar3==3)=false:=by simp[h3]
  by_cases h4:x.ar3=4
  ·have hb4:(x.ar3==4)=true:=by simp[h4]
   have HR:Hid (jZ x*8=24):=aj (by rw[HK.af,if_pos (aZ h4)];rfl);clear h3 h4 HK;go_wp2;go_ret;exact⟨by rw[HR.af];rfl,B0.af⟩
  ·have hb4:(x.ar3==4)=false:=by simp[h4]
   have HR:Hid (jZ x*8=8):=aj (by rw[HK.af,if_neg wP];rfl);clear h3 h4 HK;go_wp2;go_ret;exact⟨by rw[HR.af];rfl,B0.af⟩
theorem adE (w:World) (x:dw):Calls asq 120 #[.agg (Au x).toArray] w fun e w'=>e=.returned (.agg #[ax x.arT,ax x.aG,ah (kw x.ar3)])/\Below w w w':=by
 unfold Au;have F0:Hid ((((w.alloc (aB (arL x) 60)).alloc (aB #[aK,aK,ah 0] 197)).alloc (aB #[aK,aK,ah 0] 197)).heap[w.heap.size]? =some (aB (arL x) 60)):=aj ((dX _ _ (by simp;omega)).trans ((dX _ _ arG).trans (ah2 w _)));have F1:Hid ((((w.alloc (aB (arL x) 60)).alloc (aB #[aK,aK,ah 0] 197)).alloc (aB #[aK,aK,ah 0] 197)).heap[w.heap.size+1]? =some (aB #[aK,aK,ah 0] 197)):=aj (by have h:=ah2 (w.alloc (aB (arL x) 60)) (aB #[aK,aK,ah 0] 197);rw[lW]at h;exact(dX _ _ arG).trans h);have F2:Hid ((((w.alloc (aB (arL x) 60)).alloc (aB #[aK,aK,ah 0] 197)).alloc (aB #[aK,aK,ah 0] 197)).heap[w.heap.size+2]? =some (aB #[aK,aK,ah 0] 197)):=aj (by have h:=ah2 ((w.alloc (aB (arL x) 60)).alloc (aB #[aK,aK,ah 0] 197)) (aB #[aK,aK,ah 0] 197);rw[lW,lW]at h;exact h);have B0:Hid (Below w w (((w.alloc (aB (arL x) 60)).alloc (aB #[aK,aK,ah 0] 197)).alloc (aB #[aK,aK,ah 0] 197))):=aj ((((PZ _ w).alloc (oD _) _).alloc arG _).alloc (by simp;omega) _);have E0:Hid (((w.alloc (aB (arL x) 60)).alloc (aB #[aK,aK,ah 0] 197)).heap[w.heap.size]? =some (aB (arL x) 60)):=aj ((dX _ _ arG).trans (ah2 w _));have g7:((w.alloc (aB (arL x) 60)).alloc (aB #[aK,aK,ah 0] 197)).cell? (ak w 7)=some (ax x.arT):=aL E0.af rfl;have g8:((w.alloc (aB (arL x) 60)).alloc (aB #[aK,aK,ah 0] 197)).cell? (ak w 8)=some (ax x.aG):=aL E0.af rfl;go_enter Tryz.func120,Tryz.ntmps120;go_upto_region 2 with (refine Bv rfl 197 (.tmp 3) (.tmp 8) rfl (w.heap.size+2) (#[ax x.arT,ax x.aG,.int .i64 0]) rfl rfl _ _ F2.af TA rfl (by simp[Value.oneCell']) ?_)
 clear g7 g8 E0;have hs:Step (fun b=>b≠w.heap.size+2) (((w.alloc (aB (arL x) 60)).alloc (aB #[aK,aK,ah 0] 197)).alloc (aB #[aK,aK,ah 0] 197)) ((((w.alloc (aB (arL x) 60)).alloc (aB #[aK,aK,ah 0] 197)).alloc (aB #[aK,aK,ah 0] 197)).setRow (w.heap.size+2) #[ax x.arT,ax x.aG,ah 0]):=⟨rfl,rfl,rfl,arG,fun b hb=>cu _ _ _ _ hb⟩;have G0:=aj ((hs.block w.heap.size wP).trans F0.af);have G1:=aj ((hs.block (w.heap.size+1) wP).trans F1.af);have G2:=aj (TL _ (w.heap.size+2) _ (#[ax x.arT,ax x.aG,ah 0]) _ _ F2.af);have B1:=aj (((Step.of_below B0.af).trans (hs.imp (fun b h=>by have h:b<w:=h;show b≠_;omega))).below);clear hs F0 F1 F2 B0;generalize (((w.alloc (aB (arL x) 60)).alloc (aB #[aK,aK,ah 0] 197)).alloc (aB #[aK,aK,ah 0] 197)).setRow (w.heap.size+2) #[ax x.arT,ax x.aG,ah 0]=w4 at *;have c0:w4.cell? (ak w 0)=some (ah x.ar3):=aL G0.af rfl;by_cases h1:x.ar3=1
 ·have hb1:(x.ar3==1)=true:=by simp[h1]
  have HW:Hid (kw x.ar3=1):=aj (by rw[h1];rfl);clear h1;have cA:w4.cell? (ak (w+2) 2)=some (ah 0):=aL G2.af rfl;have fA:w4.frozen? (ak (w+2) 2)=false:=vV G2.af 2;go_upto_region 11 with fail
  have hs:Step (fun b=>b≠w.heap.size+2) w4 (w4.setCell ⟨w.heap.size+2,2,none⟩ (ah 1)):=(Step.refl _ w4).setCell (fun h=>h rfl) _;have J1:=aj ((hs.block (w.heap.size+1) wP).trans G1.af);have J2:Hid ((w4.setCell ⟨w.heap.size+2,2,none⟩ (ah 1)).heap[w.heap.size+2]? =some (aB #[ax x.arT,ax x.aG,ah 1] 197)):=aj (eu G2.af 2 (ah 1));have B2:=aj (((Step.of_below B1.af).trans (hs.imp (fun b h=>by have h:b<w:=h;show b≠_;omega))).below);clear hs cA fA c0 G0 G1 G2 B1;generalize w4.setCell ⟨w.heap.size+2,2,none⟩ (ah 1)=w5 at *;have k0:w5.cell? (ak (w+2) 0)=some (ax x.arT):=aL J2.af rfl;have k1:w5.cell? (ak (w+2) 1)=some (ax x.aG):=aL J2.af rfl;have k2:w5.cell? (ak (w+2) 2)=some (ah 1):=aL J2.af rfl;go_wp2_with (refine Bv rfl 197 (.tmp 2) (.tmp 23) rfl (w.heap.size+1) (#[ax x.arT,ax x.aG,.int .i64 1]) rfl rfl _ _ J1.af TA rfl (by simp[Value.oneCell']) ?_);have FR:=aj (TL _ (w.heap.size+1) _ (#[ax x.arT,ax x.aG,ah 1]) _ _ J1.af);have B3:=aj (((Step.of_below B2.af).trans ((show Step (fun b=>b≠w.heap.size+1) w5 (w5.setRow (w.heap.size+1) #[ax x.arT,ax x.aG,ah 1])from⟨rfl,rfl,rfl,arG,fun b hb=>cu _ _ _ _ hb⟩).imp (fun b h=>by have h:b<w:=h;show b≠_;omega))).below);go_wp2_with fail;refine qE (tT rfl _ _ (w.heap.size+1) _ _ _ _ rfl FR.af Tryz.underlying197 rfl TA) rfl ?_;exact⟨by rw[HW.af],B3.af⟩
 have hb1:(x.ar3==1)=false:=by simp[h1]
 by_cases h3:x.ar3=3
 ·have hb3:(x.ar3==3)=true:=by simp[h3]
  have HW:Hid (kw x.ar3=2):=aj (by rw[h3];rfl);clear h1 h3;have cA:w4.cell? (ak (w+2) 2)=some (ah 0):=aL G2.af rfl;have fA:w4.frozen? (ak (w+2) 2)=false:=vV G2.af 2;go_upto_region 11 with fail
  have hs:Step (fun b=>b≠w.heap.size+2) w4 (w4.setCell ⟨w.heap.size+2,2,none⟩ (ah 2)):=(Step.refl _ w4).setCell (fun h=>h rfl) _;have J1:=aj ((hs.block (w.heap.size+1) wP).trans G1.af);have J2:Hid ((w4.setCell ⟨w.heap.size+2,2,none⟩ (ah 2)).heap[w.heap.size+2]? =some (aB #[ax x.arT,ax x.aG,ah 2] 197)):=aj (eu G2.af 2 (ah 2));have B2:=aj (((Step.of_below B1.af).trans (hs.imp (fun b h=>by have h:b<w:=h;show b≠_;omega))).below);clear hs cA fA c0 G0 G1 G2 B1;generalize w4.setCell ⟨w.heap.size+2,2,none⟩ (ah 2)=w5 at *;have k0:w5.cell? (ak (w+2) 0)=some (ax x.arT):=aL J2.af rfl;have k1:w5.cell? (ak (w+2) 1)=some (ax x.aG):=aL J2.af rfl;have k2:w5.cell? (ak (w+2) 2)=some (ah 2):=aL J2.af rfl;go_wp2_with (refine Bv rfl 197 (.tmp 2) (.tmp 23) rfl (w.heap.size+1) (#[ax x.arT,ax x.aG,.int .i64 2]) rfl rfl _ _ J1.af TA rfl (by simp[Value.oneCell']) ?_);have FR:=aj (TL _ (w.heap.size+1) _ (#[ax x.arT,ax x.aG,ah 2]) _ _ J1.af);have B3:=aj (((Step.of_below B2.af).trans ((show Step (fun b=>b≠w.heap.size+1) w5 (w5.setRow (w.heap.size+1) #[ax x.arT,ax x.aG,ah 2])from⟨rfl,rfl,rfl,arG,fun b hb=>cu _ _ _ _ hb⟩).imp (fun b h=>by have h:b<w:=h;show b≠_;omega))).below);go_wp2_with fail;refine qE (tT rfl _ _ (w.heap.size+1) _ _ _ _ rfl FR.af Tryz.underlying197 rfl TA) rfl ?_;exact⟨by rw[HW.af],B3.af⟩
 have hb3:(x.ar3==3)=false:=by simp[h3]
 by_cases h4:x.ar3=4
 ·have hb4:(x.ar3==4)=true:=by simp[h4]
  have HW:Hid (kw x.ar3=3):=aj (by rw[h4];rfl);clear h1 h3 h4;have cA:w4.cell? (ak (w+2) 2)=some (ah 0):=aL G2.af rfl;have fA:w4.frozen? (ak (w+2) 2)=false:=vV G2.af 2;go_upto_region 11 with fail
  have hs:Step (fun b=>b≠w.heap.size+2) w4 (w4.setCell ⟨w.heap.size+2,2,none⟩ (ah 3)):=(Step.refl _ w4).setCell (fun h=>h rfl) _;have J1:=aj ((hs.block (w.heap.size+1) wP).trans G1.af);have J2:Hid ((w4.setCell ⟨w.heap.size+2,2,none⟩ (ah 3)).heap[w.heap.size+2]? =some (aB #[ax x.arT,ax x.aG,ah 3] 197)):=aj (eu G2.af 2 (ah 3));have B2:=aj (((Step.of_below B1.af).trans (hs.imp (fun b h=>by have h:b<w:=h;show b≠_;omega))).below);clear hs cA fA c0 G0 G1 G2 B1;generalize w4.setCell ⟨w.heap.size+2,2,none⟩ (ah 3)=w5 at *;have k0:w5.cell? (ak (w+2) 0)=some (ax x.arT):=aL J2.af rfl;have k1:w5.cell? (ak (w+2) 1)=some (ax x.aG):=aL J2.af rfl;have k2:w5.cell? (ak (w+2) 2)=some (ah 3):=aL J2.af rfl;go_wp2_with (refine Bv rfl 197 (.tmp 2) (.tmp 23) rfl (w.heap.size+1) (#[ax x.arT,ax x.aG,.int .i64 3]) rfl rfl _ _ J1.af TA rfl (by simp[Value.oneCell']) ?_);have FR:=aj (TL _ (w.heap.size+1) _ (#[ax x.arT,ax x.aG,ah 3]) _ _ J1.af);have B3:=aj (((Step.of_below B2.af).trans ((show Step (fun b=>b≠w.heap.size+1) w5 (w5.setRow (w.heap.size+1) #[ax x.arT,ax x.aG,ah 3])from⟨rfl,rfl,rfl,arG,fun b hb=>cu _ _ _ _ hb⟩).imp (fun b h=>by have h:b<w:=h;show b≠_;omega))).below);go_wp2_with fail;refine qE (tT rfl _ _ (w.heap.size+1) _ _ _ _ rfl FR.af Tryz.underlying197 rfl TA) rfl ?_;exact⟨by rw[HW.af],B3.af⟩
 have hb4:(x.ar3==4)=false:=by simp[h4]
 by_cases h2:x.ar3=2
 ·have hb2:(x.ar3==2)=true:=by simp[h2]
  have HW:Hid (kw x.ar3=4):=aj (by rw[h2];rfl);clear h1 h3 h4 h2;have cA:w4.cell? (ak (w+2) 2)=some (ah 0):=aL G2.af rfl;have fA:w4.frozen? (ak (w+2) 2)=false:=vV G2.af 2;go_upto_region 11 with fail
  have hs:Step (fun b=>b≠w.heap.size+2) w4 (w4.setCell ⟨w.heap.size+2,2,none⟩ (ah 4)):=(Step.refl _ w4).setCell (fun h=>h rfl) _;have J1:=aj ((hs.block (w.heap.size+1) wP).trans G1.af);have J2:Hid ((w4.setCell ⟨w.heap.size+2,2,none⟩ (ah 4)).heap[w.heap.size+2]? =some (aB #[ax x.arT,ax x.aG,ah 4] 197)):=aj (eu G2.af 2 (ah 4));have B2:=aj (((Step.of_below B1.af).trans (hs.imp (fun b h=>by have h:b<w:=h;show b≠_;omega))).below);clear hs cA fA c0 G0 G1 G2 B1;generalize w4.setCell ⟨w.heap.size+2,2,none⟩ (ah 4)=w5 at *;have k0:w5.cell? (ak (w+2) 0)=some (ax x.arT):=aL J2.af rfl;have k1:w5.cell? (ak (w+2) 1)=some (ax x.aG):=aL J2.af rfl;have k2:w5.cell? (ak (w+2) 2)=some (ah 4):=aL J2.af rfl;go_wp2_with (refine Bv rfl 197 (.tmp 2) (.tmp 23) rfl (w.heap.size+1) (#[ax x.arT,ax x.aG,.int .i64 4]) rfl rfl _ _ J1.af TA rfl (by simp[Value.oneCell']) ?_);have FR:=aj (TL _ (w.heap.size+1) _ (#[ax x.arT,ax x.aG,ah 4]) _ _ J1.af);have B3:=aj (((Step.of_below B2.af).trans ((show Step (fun b=>b≠w.heap.size+1) w5 (w5.setRow (w.heap.size+1) #[ax x.arT,ax x.aG,ah 4])from⟨rfl,rfl,rfl,arG,fun b hb=>cu _ _ _ _ hb⟩).imp (fun b h=>by have h:b<w:=h;show b≠_;omega))).below);go_wp2_with fail;refine qE (tT rfl _ _ (w.heap.size+1) _ _ _ _ rfl FR.af Tryz.underlying197 rfl TA) rfl ?_;exact⟨by rw[HW.af],B3.af⟩
 have hb2:(x.ar3==2)=false:=by simp[h2]
 have HW:Hid (kw x.ar3=0):=aj (by unfold kw;rw[if_neg h1,if_neg h3,if_neg h4,if_neg h2]);clear h1 h2 h3 h4;go_upto_region 11 with fail
 have J1:=G1;have J2:=G2;have B2:=B1;clear c0 G0 G1 G2 B1;obtain ⟨w5,hw5⟩:=aiG w4;rw[<-hw5]at J1 J2 B2 ⊢;clear hw5;have k0:w5.cell? (ak (w+2) 0)=some (ax x.arT):=aL J2.af rfl;have k1:w5.cell? (ak (w+2) 1)=some (ax x.aG):=aL J2.af rfl;have k2:w5.cell? (ak (w+2) 2)=some (ah 0):=aL J2.af rfl;go_wp2_with (refine Bv rfl 197 (.tmp 2) (.tmp 23) rfl (w.heap.size+1) (#[ax x.arT,ax x.aG,.int .i64 0]) rfl rfl _ _ J1.af TA rfl (by simp[Value.oneCell']) ?_);have FR:=aj (TL _ (w.heap.size+1) _ (#[ax x.arT,ax x.aG,ah 0]) _ _ J1.af);have B3:=aj (((Step.of_below B2.af).trans ((show Step (fun b=>b≠w.heap.size+1) w5 (w5.setRow (w.heap.size+1) #[ax x.arT,ax x.aG,ah 0])from⟨rfl,rfl,rfl,arG,fun b hb=>cu _ _ _ _ hb⟩).imp (fun b h=>by have h:b<w:=h;show b≠_;omega))).below);go_wp2_with fail;refine qE (tT rfl _ _ (w.heap.size+1) _ _ _ _ rfl FR.af Tryz.underlying197 rfl TA) rfl ?_;exact⟨by rw[HW.af],B3.af⟩
theorem Il (n:List UInt8) (hM:gM B pb w sv s v p):
  Calls asq 149 #[aQ pb,ax n] w fun e w'=>e=.returned (.bool (decide (n∈s.ar1)))/\w'=w:=by
 have c6:=hM.c6;obtain⟨a,b,off,cap,hf,hm,_,hat⟩:=hM.spec.ar1.at;have dP:=aj hat;have ha:=hat.addr;rw[hf]at c6;generalize s.ar1=l at *;obtain ⟨m,hmm⟩:=aiG l.length;have Hm:=aj hmm;rw[<-hmm]at hm ha c6;clear hM hf hat hmm;go_enter Tryz.func149,Tryz.ntmps149;go_wp2;go_loop [5] (fun i=>∃k:Nat,i=ah k/\k<=m/\¬n∈l.take k) (fun i=>m-(intOf i).toNat);exact⟨0,rfl,alg _,arG⟩;obtain⟨k,rfl,hk,hf⟩:=hrel;have Hf:=aj hf;clear hf;by_cases hlt:k<m
 ·obtain rfl:=ha wP
  obtain⟨y,hy⟩:∃y,l[k]? =some y:=⟨_,gP (by rw[<-Hm.af];exact hlt)⟩;have hc:=(dP.af.I7 k y hy).1;have Hy:=aj hy;have hk2:(k:Int)<(m:Int):=wP;clear hy;by_cases hxy:y=n
  ·have HR:Hid (decide (n∈l)=true):=aj (by rw[<-hxy];exact decide_eq_true (dH Hy.af))
   have hb:(y==n)=true:=by simp[hxy]
   clear hxy;go_wp2;go_ret;exact⟨by rw[HR.af];rfl,rfl⟩
  ·have HN:Hid (¬n∈l.take (k+1)):=aj (by
    rw[List.take_add_one,Hy.af];intro h;rcases D5.1 h with h | h
    ·exact Hf.af h
    ·simp at h;exact hxy h.symm)
   have hb:(y==n)=false:=by simp[hxy]
   clear hxy;go_wp2;go_round;exact⟨k+1,arH,wP,HN.af⟩;simp[intOf];omega
 ·have HR:Hid (decide (n∈l)=false):=aj (decide_eq_false (by have h:=Hf.af;rwa [show k=l.length by have:=Hm.af;omega,dF]at h))
  go_wp2;go_ret;exact⟨by rw[HR.af];rfl,rfl⟩
theorem OM {k:Nat} {x:bF} (hf:(l.take k).findIdx? (dD arT aG)=none) (hx:l[k]? =some x) (h:dD arT aG x=true):oM arT aG l=k:=oN (vZ hf hx h)
theorem BN (h:l.findIdx? (dD arT aG)=none):oM arT aG l= -1:=by unfold oM;rw[h]
theorem wH (arT aG:List UInt8) (hM:gM B pb w sv s v p) (hB:B<=w) (hl:p.av.length<=1000000):
  Calls asq 75 #[aQ pb,ax arT,ax aG] w fun e w'=>e=.returned (ah (oM arT aG p.av))/\Below w w w':=by
 obtain⟨a,b,off,cap,hf,hm,_,hat⟩:=hM.av.lb.at;have dP:=aj hat;have ha:=hat.addr;have HM:=aj hM;have hc9:=hM.c9;rw[hf]at hc9;have hpl:=hM.lt;have zk:Hid (0<p.av.length->b<w):=aj (fun h=>(hat.mG h).1);generalize p.av=l at *;obtain ⟨n,hn⟩:=aiG l.length;have Hn:=aj hn;rw[<-hn]at hm ha hl hc9 zk;have Hc9:Hid (∀wr,Below w w wr->wr.cell? (ak pb 9)=some (.slice a n cap)):=aj (fun wr hb=>(hb.cell (p:=(ak pb 9)) hpl).trans hc9);clear hM hf hat hn hc9;go_enter Tryz.func75,Tryz.ntmps75;go_wp2;go_loopw [7] (fun i wr=>∃k:Nat,i=ah k/\k<=n/\(l.take k).findIdx? (dD arT aG)=none/\Below w w wr) (fun i _=>n-(intOf i).toNat);exact⟨0,rfl,alg _,qZ _ _,PZ _ _⟩;obtain⟨k,rfl,hk,hf,hbw⟩:=hrel;have Hf:=aj hf;have Hb:=aj hbw;have c9:=Hc9.af wr hbw;have AB:=hbw.size;clear hf hbw;by_cases hlt:k<n
 ·obtain rfl:=ha wP
  obtain⟨x,hx⟩:∃x,l[k]? =some x:=⟨_,gP (by rw[<-Hn.af];exact hlt)⟩;obtain⟨_,g0,g1,g2,g3,g4,g5,g6,g7,g8⟩:=dP.af.rR k x hx;have hbl:=zk.af wP;have Hx:=aj hx;have hk2:(k:Int)<(n:Int):=wP;replace g0:=(Hb.af.cell (p:=(ak b (off+k*9))) hbl).trans g0;replace g1:=(Hb.af.cell (p:=(ak b (off+k*9+1))) hbl).trans g1;replace g2:=(Hb.af.cell (p:=(ak b (off+k*9+2))) hbl).trans g2;replace g3:=(Hb.af.cell (p:=(ak b (off+k*9+3))) hbl).trans g3;replace g4:=(Hb.af.cell (p:=(ak b (off+k*9+4))) hbl).trans g4;replace g5:=(Hb.af.cell (p:=(ak b (off+k*9+5))) hbl).trans g5;replace g6:=(Hb.af.cell (p:=(ak b (off+k*9+6))) hbl).trans g6;replace g7:=(Hb.af.cell (p:=(ak b (off+k*9+7))) hbl).trans g7;replace g8:=(Hb.af.cell (p:=(ak b (off+k*9+8))) hbl).trans g8;have FA:=aj (ah2 wr (aB arQ 54));clear hx;go_upto_region 5 with (refine Bv rfl 54 (.tmp 8) (.tmp 25) rfl wr.heap.size (#[ax x.arT,ax x.asc,.bool x.old,.int .i64 x.ar3,.bool x.ar1,.int .i64 x.bq,.bool x.asg,.int .i64 x.value,.int .i64 x.size]) rfl rfl _ _ FA.af TA rfl (by simp[Value.oneCell']) ?_)
  have FS:=aj (TL _ wr.heap.size _ ((arK x)) _ _ FA.af);have Hb2:Hid (Below w w ((wr.alloc (aB arQ 54)).setRow wr.heap.size ((arK x)))):=aj (((Step.of_below (Hb.af.alloc AB _)).trans ((show Step (fun c=>c≠wr.heap.size) (wr.alloc (aB arQ 54)) ((wr.alloc (aB arQ 54)).setRow wr.heap.size ((arK x)))from⟨rfl,rfl,rfl,arG,fun c hc=>cu _ _ _ _ hc⟩).imp (fun c h=>by have h:c<w:=h;show c≠_;omega))).below);clear g0 g1 g2 g3 g4 g5 g6 g7 g8 FA Hb c9;generalize (wr.alloc (aB arQ 54)).setRow wr.heap.size ((arK x))=w2 at *;generalize wr.heap.size=sb at *;have e0:w2.cell? (ak sb 0)=some (ax x.arT):=aL FS.af rfl;have e1:w2.cell? (ak sb 1)=some (ax x.asc):=aL FS.af rfl;have e2:w2.cell? (ak sb 2)=some (.bool x.old):=aL FS.af rfl;have e6:w2.cell? (ak sb 6)=some (.bool x.asg):=aL FS.af rfl;clear FS
  cases hd:x.asg with
  | false=>
   rw[hd]at e6;by_cases hnm:x.arT=arT
   ·have hbn:(x.arT==arT)=true:=by simp[hnm]
    by_cases yM:x.asc=aG
    ·have hbq:(x.asc==aG)=true:=by simp[yM]
     have HV:Hid (dD arT aG x=true):=aj (by unfold dD;simp[hd,hnm,yM]);clear hnm yM hd;have HR:=aj (OM Hf.af Hx.af HV.af);go_wp2;go_ret;exact⟨by rw[HR.af];rfl,Hb2.af⟩
    ·have hbq:(x.asc==aG)=false:=by simp[yM]
     have HV:Hid (dD arT aG x=false):=aj (by unfold dD;simp[hd,hnm,yM]);clear hnm yM hd;have HN:=aj (lM Hf.af Hx.af HV.af);go_wp2;go_roundw;exact⟨k+1,arH,wP,HN.af,Hb2.af⟩;simp[intOf];omega
   ·have hbn:(x.arT==arT)=false:=by simp[hnm]
    have HV:Hid (dD arT aG x=false):=aj (by unfold dD;simp[hnm]);clear hnm hd;have HN:=aj (lM Hf.af Hx.af HV.af);go_wp2;go_roundw;exact⟨k+1,arH,wP,HN.af,Hb2.af⟩;simp[intOf];omega
  | true=>
   rw[hd]at e6;by_cases Im:aG=[]
   ·have hbv:(aG==[])=true:=by simp[Im]
    cases ho:x.old with
    | false=>
     rw[ho]at e2;by_cases hnm:x.arT=arT
     ·have hbn:(x.arT==arT)=true:=by simp[hnm]
      have HV:Hid (dD arT aG x=true):=aj (by unfold dD;simp[hd,hnm,Im,ho]);clear hnm hd Im ho;have HR:=aj (OM Hf.af Hx.af HV.af);go_wp2;go_ret;exact⟨by rw[HR.af];rfl,Hb2.af⟩
     ·have hbn:(x.arT==arT)=false:=by simp[hnm]
      have HV:Hid (dD arT aG x=false):=aj (by unfold dD;simp[hnm]);clear hnm hd Im ho;have HN:=aj (lM Hf.af Hx.af HV.af);go_wp2;go_roundw;exact⟨k+1,arH,wP,HN.af,Hb2.af⟩;simp[intOf];omega
    | true=>
     rw[ho]at e2;by_cases hnm:x.arT=arT
     ·have hbn:(x.arT==arT)=true:=by simp[hnm]
      have HV:Hid (dD arT aG x=false):=aj (by unfold dD;simp[hd,hnm,Im,ho]);clear hnm hd Im ho;have HN:=aj (lM Hf.af Hx.af HV.af);go_wp2;go_roundw;exact⟨k+1,arH,wP,HN.af,Hb2.af⟩;simp[intOf];omega
     ·have hbn:(x.arT==arT)=false:=by simp[hnm]
      have HV:Hid (dD arT aG x=false):=aj (by unfold dD;simp[hnm]);clear hnm hd Im ho;have HN:=aj (lM Hf.af Hx.af HV.af);go_wp2;go_roundw;exact⟨k+1,arH,wP,HN.af,Hb2.af⟩;simp[intOf];omega
   ·have hbv:(aG==[])=false:=by simp[Im]
    by_cases yM:x.asc=aG
    ·have hbq:(x.asc==aG)=true:=by simp[yM]
     by_cases hnm:x.arT=arT
     ·have hbn:(x.arT==arT)=true:=by simp[hnm]
      have HV:Hid (dD arT aG x=true):=aj (by unfold dD;simp[hd,hnm,Im,yM]);clear hnm hd Im yM;have HR:=aj (OM Hf.af Hx.af HV.af);go_wp2;go_ret;exact⟨by rw[HR.af];rfl,Hb2.af⟩
     ·have hbn:(x.arT==arT)=false:=by simp[hnm]
      have HV:Hid (dD arT aG x=false):=aj (by unfold dD;simp[hnm]);clear hnm hd Im yM;have HN:=aj (lM Hf.af Hx.af HV.af);go_wp2;go_roundw;exact⟨k+1,arH,wP,HN.af,Hb2.af⟩;simp[intOf];omega
    ·have hbq:(x.asc==aG)=false:=by simp[yM]
     by_cases hnm:x.arT=arT
     ·have hbn:(x.arT==arT)=true:=by simp[hnm]
      have HV:Hid (dD arT aG x=false):=aj (by unfold dD;simp[hd,hnm,Im,yM]);clear hnm hd Im yM;have HN:=aj (lM Hf.af Hx.af HV.af);go_wp2;go_roundw;exact⟨k+1,arH,wP,HN.af,Hb2.af⟩;simp[intOf];omega
     ·have hbn:(x.arT==arT)=false:=by simp[hnm]
      have HV:Hid (dD arT aG x=false):=aj (by unfold dD;simp[hnm]);clear hnm hd Im yM;have HN:=aj (lM Hf.af Hx.af HV.af);go_wp2;go_roundw;exact⟨k+1,arH,wP,HN.af,Hb2.af⟩;simp[intOf];omega
 ·have HR:Hid (oM arT aG l= -1):=aj (BN (wh (by have:=Hf.af;rwa [show k=l.length by have:=Hn.af;omega]at this)))
  go_wp2;go_ret;exact⟨by rw[HR.af];rfl,Hb.af⟩
theorem ahb (x:Int) (hM:gM B pb w sv s v p) (hB:B<=w) (hl:p.ar7.length<=1000000):
  Calls asq 122 #[aQ pb,ah x] w fun e w'=>∃v',e=.returned (.tuple #[])/\gM B pb w' sv s v' (p.jump x)/\aU pb v v' w w':=by
 have HM:=aj hM;obtain⟨jT,b,off,jU,hf,hm,_,hat⟩:=hM.ar7.lb.at;have dP:=aj hat;have ha:=hat.addr;have c_:=hM.c11;rw[hf]at c_;have mg:=aj hf;have HJ:Hid (p.jump x={p with ar7:=(fE p.ar7 x).1 }):=aj rfl;obtain ⟨n,hn⟩:=aiG p.ar7.length;have Hn:=aj hn;rw[<-hn]at hm ha hl c_;rw[<-hn]at mg;clear hM hf hat hn;go_enter Tryz.func122,Tryz.ntmps122;go_wp2;go_loop [4] (fun i=>∃k:Nat,i=ah k/\k<=n/\(p.ar7.take k).findIdx? (fun y=>decide (y=x))=none) (fun i=>n-(intOf i).toNat);exact⟨0,rfl,alg _,qZ _ _⟩;obtain⟨k,rfl,hk,hf⟩:=hrel;have Hf:=aj hf;clear hf;by_cases hlt:k<n
 ·obtain rfl:=ha wP
  obtain⟨y,hy⟩:∃y,p.ar7[k]? =some y:=⟨_,gP (by rw[<-Hn.af];exact hlt)⟩;have hc:=dP.af.oC k y hy;have Hy:=aj hy;have hk2:(k:Int)<(n:Int):=wP;clear hy;by_cases hxy:y=x
  ·have Hh:=aj (vZ Hf.af Hy.af (f:=fun y=>decide (y=x)) (by simp[hxy]))
   have hb:(y==x)=true:=by simp[hxy]
   clear hxy;go_wp2;refine qE (results_none rfl _ _ _) rfl ?_;exact⟨rfl,v,by rw[HJ.af,wX Hh.af];exact HM.af,aU.refl _ _ _⟩
  ·have Hh:=aj (lM Hf.af Hy.af (f:=fun y=>decide (y=x)) (by simp[hxy]))
   have hb:(y==x)=false:=by simp[hxy]
   clear hxy;go_wp2;go_round;exact⟨k+1,arH,wP,Hh.af⟩;simp[intOf];omega
 ·have Hh:Hid (p.ar7.findIdx? (fun y=>decide (y=x))=none):=aj (wh (by have:=Hf.af;rwa [show k=p.ar7.length by have:=Hn.af;omega]at this))
  have HP:Hid (p.jump x={p with ar7:=p.ar7++[x]}):=aj (by rw[HJ.af];unfold fE;rw[Hh.af]);clear dP ha HJ Hf;go_upto_region 4 with fail
  have OO:=HM.af.lt;have ko:=aj (HM.af.below hB ((PZ _ w).alloc (oD _) (aB #[ah x] 3)));have JQ:=aj (aU.below (pb:=pb) (v:=v) ((PZ _ w).alloc (oD _) (aB #[ah x] 3)));have NN:=aj (ah2 w (aB #[ah x] 3));have zn:B<=(w.alloc (aB #[ah x] 3)):=by simp;omega
  have aaG:pb<(w.alloc (aB #[ah x] 3)):=by simp;omega
  have AO:=aj (ko.af.ar7.fJ dN (E':=fun b=>b<(w.alloc (aB #[ah x] 3))/\¬v.ar7.ownBlock=some b) (fun g hg h=>h.2 hg));rw[mg.af]at AO;have hpn:(Value.slice jT n jU).ownBlock≠some pb:=fun e=>ko.af.ar7.notE pb (by rw[mg.af];exact e) (aH rfl)
  have cn_:(w.alloc (aB #[ah x] 3)).cell? (ak pb 11)=some (.slice jT n jU):=(((PZ _ w).alloc (oD _) (aB #[ah x] 3)).cell (p:=(ak pb 11)) OO).trans c_;have pq:Hid (dJ.R (fun b=>b<(w.alloc (aB #[ah x] 3))/\¬(b<(w.alloc (aB #[ah x] 3))/\¬(Value.slice jT n jU).ownBlock=some b)/\(Value.slice jT n jU).ownBlock≠some b) (w.alloc (aB #[ah x] 3)) x [ah x]):=aj rfl
  have wI:Hid (∀u∈([.int .i64 x]:List Value),u.oneCell'=true):=aj (by
   intro u hu;simp only[Y1,nW,or_false]at hu;rcases hu with rfl<;>rfl)
  have Hcn:=aj cn_;clear cn_;go_wp2_with (at_builtin;go_loud (refine fZ (K:=dJ) (v:=.slice jT n jU) (e:=3) (B:=B) (E:=fun b=>b<(w.alloc (aB #[ah x] 3))/\¬(Value.slice jT n jU).ownBlock=some b) 41 (ah 0) 8 Tryz.underlying41 qg rfl abD rfl (.tmp 27) (.tmp 29) rfl n Hn.af.symm rfl AO.af (fun b hb=>hb.1) w.heap.size x [ah x] rfl (aD NN.af) wI.af pq.af (by have:=Hn.af.symm;omega) (by have:=Hn.af.symm;omega) zn ?_));intro g7 c7 w7 fG hs7 uf;have nE:Step (fun b=>b<(w.alloc (aB #[ah x] 3))/\(Value.slice jT n jU).ownBlock≠some b) (w.alloc (aB #[ah x] 3)) w7:=hs7.imp (fun b hb=>⟨by have h:=hb.1;rwa [lW]at h,hb.2⟩);have jK:=aj ((nE.block pb ⟨aaG,hpn⟩).trans ko.af.ex);have HR:=aj (ko.af.Rt (u:=.slice (some ⟨g7,0,none⟩) (n+1) c7) (by rw[mg.af];exact nE) (fG.less (fun b hb=>hb.elim)) (by rw[mg.af,lW];exact fG.FK));have cs_:=(nE.cell (p:=(ak pb 11)) ⟨aaG,hpn⟩).trans Hcn.af;have fz_:w7.frozen? (ak pb 11)=false:=vV jK.af 11;clear fG hs7 nE uf;go_wp2;go_end0;exact⟨_,rfl,by rw[HP.af];exact HR.af.1,JQ.af.trans HR.af.2⟩
theorem aiE (u0 x:Int) (hu0:0<=u0/\u0<=3) (hM:gM B pb w sv s v p) (hB:B<=w) (hl:p.cells.length<=1000000):
  Calls asq 123 #[aQ pb,ah (qN u0),ah x] w fun e w'=>∃v',e=.returned (.tuple #[])/\gM B pb w' sv s v' (p.cell u0 x).1/\aU pb v v' w w':=by
 have HM:=aj hM;obtain⟨jT,b,off,jU,hf,hm,_,hat⟩:=hM.cells.lb.at;have dP:=aj hat;have ha:=hat.addr;have c_:=hM.c10;rw[hf]at c_;have mg:=aj hf;have HJ:Hid ((p.cell u0 x).1={p with cells:=(fE p.cells (u0,x)).1 }):=aj rfl;have HU:=aj hM.uses;have Cj:=aj (ab3 (s:=x) hM.uses hu0);have HUp:=aj (hM.uses.place (s:=x) hu0);obtain ⟨L,hL⟩:=aiG (p.cells.map oL);have HL:=aj hL;rw[<-hL]at hf hm ha mg c_ dP Cj;have hll:L.length<=1000000:=by rw[hL,BR];exact hl
 generalize qN u0=q at *;obtain ⟨n,hn⟩:=aiG L.length;have Hn:=aj hn;rw[<-hn]at hm ha hll c_ mg;clear hM hf hat hn hL hl hu0;go_enter Tryz.func123,Tryz.ntmps123;go_wp2;go_loop [6] (fun i=>∃k:Nat,i=ah k/\k<=n/\(L.take k).findIdx? (fun y=>decide (y=(q,x)))=none) (fun i=>n-(intOf i).toNat);exact⟨0,rfl,alg _,qZ _ _⟩;obtain⟨k,rfl,hk,hf⟩:=hrel;have Hf:=aj hf;clear hf;by_cases hlt:k<n
 ·obtain rfl:=ha wP
  obtain⟨y,hy⟩:∃y,L[k]? =some y:=⟨_,gP (by rw[<-Hn.af];exact hlt)⟩;obtain⟨hc1,hc2⟩:=dP.af.SA k y hy;have Hy:=aj hy;have hk2:(k:Int)<(n:Int):=wP;obtain⟨y1,y2⟩:=y;simp only at hc1 hc2;clear hy;by_cases hxy:(y1,y2)=(q,x)
  ·have Hh:=aj (vZ Hf.af Hy.af (f:=fun y=>decide (y=(q,x))) (by simp[hxy]))
   obtain⟨h1,h2⟩:=Prod.mk.inj hxy;have hb1:(y1==q)=true:=by simp[h1]
   have hb2:(y2==x)=true:=by simp[h2]
   have HPc:Hid ((fE p.cells (u0,x)).1.map oL=p.cells.map oL):=aj (by rw[Cj.af,wX Hh.af,HL.af])
   have hcl:(fE p.cells (u0,x)).1=p.cells:=by
    have h3:=congrArg List.length HPc.af;rw[BR,BR]at h3;exact((Cu p.cells (u0,x)).eq_of_length h3.symm).symm
   have ZO:=aj hcl;clear hxy h1 h2 hcl;go_wp2;refine qE (results_none rfl _ _ _) rfl ?_;exact⟨rfl,v,by rw[HJ.af,ZO.af];exact HM.af,aU.refl _ _ _⟩
  ·have Hh:=aj (lM Hf.af Hy.af (f:=fun y=>decide (y=(q,x))) (by simp[hxy]))
   by_cases h1:y1=q
   ·have hb1:(y1==q)=true:=by simp[h1]
    have hb2:(y2==x)=false:=by
     rw[arM];exact fun e=>hxy (by rw[h1,e])
    clear hxy h1;go_wp2;go_round;exact⟨k+1,arH,wP,Hh.af⟩;simp[intOf];omega
   ·have hb1:(y1==q)=false:=by simp[h1]
    clear hxy h1;go_wp2;go_round;exact⟨k+1,arH,wP,Hh.af⟩;simp[intOf];omega
 ·have Hh:Hid (L.findIdx? (fun y=>decide (y=(q,x)))=none):=aj (wh (by have:=Hf.af;rwa [show k=L.length by have:=Hn.af;omega]at this))
  have HPc:Hid ((fE p.cells (u0,x)).1.map oL=L++[(q,x)]):=aj (by rw[Cj.af];unfold fE;rw[Hh.af]);clear dP ha Hf;go_upto_region 4 with fail
  have OO:=HM.af.lt;have ko:=aj (HM.af.below hB ((PZ _ w).alloc (oD _) (aB #[ah q,ah x] 156)));have JQ:=aj (aU.below (pb:=pb) (v:=v) ((PZ _ w).alloc (oD _) (aB #[ah q,ah x] 156)));have NN:=aj (ah2 w (aB #[ah q,ah x] 156));have zn:B<=(w.alloc (aB #[ah q,ah x] 156)):=by simp;omega
  have aaG:pb<(w.alloc (aB #[ah q,ah x] 156)):=by simp;omega
  have AO:=aj (ko.af.cells.fJ kY (E':=fun b=>b<(w.alloc (aB #[ah q,ah x] 156))/\¬v.cells.ownBlock=some b) (fun g hg h=>h.2 hg));rw[mg.af]at AO;have hpn:(Value.slice jT n jU).ownBlock≠some pb:=fun e=>ko.af.cells.notE pb (by rw[mg.af];exact e) (aH rfl)
  have cn_:(w.alloc (aB #[ah q,ah x] 156)).cell? (ak pb 10)=some (.slice jT n jU):=(((PZ _ w).alloc (oD _) (aB #[ah q,ah x] 156)).cell (p:=(ak pb 10)) OO).trans c_;have pq:Hid (qC.R (fun b=>b<(w.alloc (aB #[ah q,ah x] 156))/\¬(b<(w.alloc (aB #[ah q,ah x] 156))/\¬(Value.slice jT n jU).ownBlock=some b)/\(Value.slice jT n jU).ownBlock≠some b) (w.alloc (aB #[ah q,ah x] 156)) (q,x) [ah q,ah x]):=aj rfl
  have wI:Hid (∀u∈([.int .i64 q,.int .i64 x]:List Value),u.oneCell'=true):=aj (by
   intro u hu;simp only[Y1,nW,or_false]at hu;rcases hu with rfl | rfl<;>rfl)
  have Hcn:=aj cn_;clear cn_;go_wp2_with (at_builtin;go_loud (refine fZ (K:=qC) (v:=.slice jT n jU) (e:=156) (B:=B) (E:=fun b=>b<(w.alloc (aB #[ah q,ah x] 156))/\¬(Value.slice jT n jU).ownBlock=some b) 101 (.agg #[ah 0,ah 0]) 16 Tryz.underlying101 adD rfl abD rfl (.tmp 31) (.tmp 35) rfl n (by rw[<-HL.af];exact Hn.af.symm:(p.cells.map oL).length=n) rfl AO.af (fun b hb=>hb.1) w.heap.size (q,x) [ah q,ah x] rfl (aD NN.af) wI.af pq.af (by have:=(by rw[<-HL.af];exact Hn.af.symm:(p.cells.map oL).length=n);omega) (by have:=(by rw[<-HL.af];exact Hn.af.symm:(p.cells.map oL).length=n);omega) zn ?_));intro g7 c7 w7 fG hs7 uf;have nE:Step (fun b=>b<(w.alloc (aB #[ah q,ah x] 156))/\(Value.slice jT n jU).ownBlock≠some b) (w.alloc (aB #[ah q,ah x] 156)) w7:=hs7.imp (fun b hb=>⟨by have h:=hb.1;rwa [lW]at h,hb.2⟩);have jK:=aj ((nE.block pb ⟨aaG,hpn⟩).trans ko.af.ex);have HR:=aj (ko.af.putCells (u:=.slice (some ⟨g7,0,none⟩) (n+1) c7) (by rw[mg.af];exact nE) (by rw[HPc.af,HL.af];exact fG.less (fun b hb=>hb.elim)) HUp.af (by rw[mg.af,lW];exact fG.FK));have cs_:=(nE.cell (p:=(ak pb 10)) ⟨aaG,hpn⟩).trans Hcn.af;have fz_:w7.frozen? (ak pb 10)=false:=vV jK.af 10;clear fG hs7 nE uf;go_wp2;go_end0;exact⟨_,rfl,by rw[HJ.af];exact HR.af.1,JQ.af.trans HR.af.2⟩
theorem xK (w:World) (s:bF) (hs:lJ s):
  Calls asq 135 #[.agg (arK s)] w fun e w'=>e=.returned (.bool (bC s))/\Below w w w':=by
 have hz1:=hs.arT;have hz2:=hs.asc;have hsz1:=size_mk s.arT;have hsz2:=size_mk s.asc;have B1:=aj ((PZ w.heap.size w).alloc (oD _) (aB (arK s) 54));have F1:=aj (ah2 w (aB (arK s) 54));have Hx:Hid (∀b:Bool,bC s=b->Ending.returned (.bool b)=.returned (.bool (bC s))):=aj (fun b h=>by rw[h]);go_enter Tryz.func135,Tryz.ntmps135;go_wp2_with fail;generalize w.alloc (aB (arK s) 54)=w1 at *;obtain⟨c0,c1,c2,c3,c4,c5,c6,c7,c8⟩:=lK F1.af;refine(GX _ s.arT hz1).mono ?_;rintro e w2 ⟨rfl,rfl⟩
 cases hn:iN s.arT with
 | false=>
  go_wp2;go_ret;exact⟨Hx.af _ (by simp[bC,hn]),B1.af⟩
 | true=>
  have Hn:=aj hn
  cases hq:s.asc.isEmpty with
  | true=>
   have Hv:=aj (List.isEmpty_iff.1 hq)
   cases hd:s.asg
   all_goals
    have Hd:=aj hd;rw[hd]at c6
    cases ho:s.old
    all_goals
     have Dj:=aj ho;rw[ho]at c2;clear ho;go_wp2
     all_goals go_ret
     all_goals (try simp only[arM,bne_eq_false_iff_eq,bne_iff_ne,beq_iff_eq,ne_eq]at *)
     all_goals first
      | (refine ⟨Hx.af _ ?_,B1.af⟩;simp[bC,Hn.af,Hv.af,Hd.af,Dj.af];done)
      | (refine ⟨Hx.af _ ?_,B1.af⟩;simp[bC,Hn.af,Hv.af,Hd.af,Dj.af];intros;omega)
      | (refine ⟨Hx.af _ ?_,B1.af⟩;rw[Rq];simp[bC,Hn.af,Hv.af,Hd.af,Dj.af];omega)
  | false=>
   have Hv:Hid (decide (s.asc=[])=false):=aj (by rw[arN];intro e;rw[e]at hq;simp at hq);go_wp2_with fail;refine(GX _ s.asc hz2).mono ?_;rintro e w3 ⟨rfl,rfl⟩
   cases hv2:iN s.asc with
   | false=>
    go_wp2;go_ret;exact⟨Hx.af _ (by simp[bC,Hv.af,hv2]),B1.af⟩
   | true=>
    have vF:=aj hv2
    cases hd:s.asg
    all_goals
     have Hd:=aj hd;rw[hd]at c6
     cases ho:s.old
     all_goals
      have Dj:=aj ho;rw[ho]at c2;clear ho;go_wp2
      all_goals go_ret
      all_goals (try simp only[arM,bne_eq_false_iff_eq,bne_iff_ne,beq_iff_eq,ne_eq]at *)
      all_goals first
       | (refine ⟨Hx.af _ ?_,B1.af⟩;simp[bC,Hn.af,Hv.af,vF.af,Hd.af,Dj.af];done)
       | (refine ⟨Hx.af _ ?_,B1.af⟩;simp[bC,Hn.af,Hv.af,vF.af,Hd.af,Dj.af];intros;omega)
       | (refine ⟨Hx.af _ ?_,B1.af⟩;rw[Rq];simp[bC,Hn.af,Hv.af,vF.af,Hd.af,Dj.af];omega)
theorem aaH (x:bF) (hx:lJ x) (hM:gM B pb w sv s v p) (hB:B<=w) (hl:p.av.length<=1000000):
  Calls asq 119 #[aQ pb,.agg (arK x)] w fun e w'=>∃v',e=.returned (ah (if (!bC (cB x)||p.av.any fun t=>gT t (cB x))=true then 100 else 0))/\gM B pb w' sv s v' {p with av:=p.av++[cB x]}/\aU pb v v' w w':=by
 obtain ⟨cd,hcd⟩:=aiG (if (!bC (cB x)||p.av.any fun t=>gT t (cB x))=true then 100 else 0:Int);rw[<-hcd];have DJ:=aj hcd;clear hcd;have j6:=aj hM;have yA:=aj (fun w=>xK w (cB x) (Ib hx));have Nl:=aj (Ib hx);obtain⟨jT,b,off,jU,hf,hm,_,hat⟩:=hM.av.lb.at;have dP:=aj hat;have ha:=hat.addr;have c9:=hM.c9;rw[hf]at c9;have hpl:=hM.lt;have zk:Hid (0<p.av.length->b<w):=aj (fun h=>(hat.mG h).1);have mg:=aj hf;have iZ:Hid (∀g,v.av.ownBlock=some g->g<w.heap.size):=aj (fun g hg=>(hM.av.lt g hg).2);obtain ⟨l,hll⟩:=aiG p.av;have Hll:=aj hll;obtain ⟨n,hn⟩:=aiG p.av.length;have Hn:=aj hn;rw[<-hn]at hm ha hl c9 mg zk;rw[<-hll]at dP;have Hc9:Hid (∀wr,Below w w wr->wr.cell? (ak pb 9)=some (.slice jT n jU)):=aj (fun wr hb=>(hb.cell (p:=(ak pb 9)) hpl).trans c9);have lI:Hid (l.length=n):=aj (by rw[hll,hn]);clear hM hx hf hat hn c9 hll;have FS0:=aj (ah2 w (aB (arK x) 54));have B0:=aj ((PZ w.heap.size w).alloc (oD _) (aB (arK x) 54));have wJ:w.heap.size<(w.alloc (aB (arK x) 54)):=arG;go_enter Tryz.func119,Tryz.ntmps119;go_upto_region 1 with fail
 generalize w.alloc (aB (arK x) 54)=w1 at *;have cS:w1.cell? (ak w 6)=some (.bool x.asg):=aL FS0.af rfl;have fS:w1.frozen? (ak w 6)=false:=vV FS0.af 6;go_upto_region 2 with fail
 have FS1:Hid ((w1.setCell ⟨w.heap.size,6,none⟩ (.bool true)).heap[w.heap.size]? =some (aB #[ax x.arT,ax x.asc,.bool x.old,ah x.ar3,.bool x.ar1,ah x.bq,.bool true,ah x.value,ah x.size] 54)):=aj (eu FS0.af 6 (.bool true));have B1:=aj (B0.af.setCell (p:=(ak w 6)) (oD _) (.bool true));have hlt1:w.heap.size<(w1.setCell ⟨w.heap.size,6,none⟩ (.bool true)):=by simpa using wJ
 clear cS fS FS0 B0 wJ;generalize w1.setCell ⟨w.heap.size,6,none⟩ (.bool true)=w2 at *;have cS:w2.cell? (ak w 7)=some (ah x.value):=aL FS1.af rfl;have fS:w2.frozen? (ak w 7)=false:=vV FS1.af 7;go_upto_region 3 with fail
 have FS2:Hid ((w2.setCell ⟨w.heap.size,7,none⟩ (ah 0)).heap[w.heap.size]? =some (aB #[ax x.arT,ax x.asc,.bool x.old,ah x.ar3,.bool x.ar1,ah x.bq,.bool true,ah 0,ah x.size] 54)):=aj (eu FS1.af 7 (ah 0));have B2:=aj (B1.af.setCell (p:=(ak w 7)) (oD _) (ah 0));have hlt2:w.heap.size<(w2.setCell ⟨w.heap.size,7,none⟩ (ah 0)):=by simpa using hlt1
 clear cS fS FS1 B1 hlt1;generalize w2.setCell ⟨w.heap.size,7,none⟩ (ah 0)=w3 at *;have cS:w3.cell? (ak w 8)=some (ah x.size):=aL FS2.af rfl;have fS:w3.frozen? (ak w 8)=false:=vV FS2.af 8;go_upto_region 4 with fail
 have OP:Hid ((w3.setCell ⟨w.heap.size,8,none⟩ (ah 0)).heap[w.heap.size]? =some (aB (arX x) 54)):=aj (eu FS2.af 8 (ah 0));have B3:=aj (B2.af.setCell (p:=(ak w 8)) (oD _) (ah 0));have hlt3:w.heap.size<(w3.setCell ⟨w.heap.size,8,none⟩ (ah 0)):=by simpa using hlt2
 clear cS fS FS2 B2 hlt2;generalize w3.setCell ⟨w.heap.size,8,none⟩ (ah 0)=w4 at *;have d0:w4.cell? (ak w 0)=some (ax x.arT):=aL OP.af rfl;have d1:w4.cell? (ak w 1)=some (ax x.asc):=aL OP.af rfl;have d2:w4.cell? (ak w 2)=some (.bool x.old):=aL OP.af rfl;have d3:w4.cell? (ak w 3)=some (ah x.ar3):=aL OP.af rfl;have d4:w4.cell? (ak w 4)=some (.bool x.ar1):=aL OP.af rfl;have d5:w4.cell? (ak w 5)=some (ah x.bq):=aL OP.af rfl;have d6:w4.cell? (ak w 6)=some (.bool true):=aL OP.af rfl;have d7:w4.cell? (ak w 7)=some (ah 0):=aL OP.af rfl;have d8:w4.cell? (ak w 8)=some (ah 0):=aL OP.af rfl;go_wp2_with fail;refine(yA.af w4).mono ?_;rintro e w5 ⟨rfl,hb5⟩;have FS5:Hid (w5.heap[w.heap.size]? =some (aB (arX x) 54)):=aj ((hb5.block _ hlt3).trans OP.af);have B5:=aj (B3.af.trans (hb5.mono (qx hlt3)));have adF:w.heap.size<w5:=by have:=hb5.size;omega
 obtain ⟨b0,hb0⟩:=aiG (bC (cB x));have Hb0:=aj hb0;rw[<-hb0];clear hb0 hb5 OP B3 yA hlt3 d0 d1 d2 d3 d4 d5 d6 d7 d8;obtain ⟨sb,hsb⟩:=aiG w.heap.size;have Hsb:=aj hsb;have FSb:Hid (w5.heap[sb]? =some (aB (arX x) 54)):=aj (by rw[hsb];exact FS5.af);have alI:sb<w5:=wP;rw[<-hsb];clear hsb FS5 adF;go_wp2_with fail;go_loopw [5,6] (fun bad i wr=>∃k:Nat,bad=.bool ((!b0)||(l.take k).any fun t=>gT t (cB x))/\i=ah k/\k<=n/\Below w5 w5 wr) (fun _ i _=>n-(intOf i).toNat);exact⟨0,arG,rfl,alg _,PZ _ _⟩;obtain⟨k,rfl,rfl,hk,hbr⟩:=hrel;have AB:=hbr.size;have Hbr:=aj hbr;have Hb:=aj (B5.af.trans (hbr.mono B5.af.size));have c_:=Hc9.af wr Hb.af;have Gd:=aj ((hbr.block sb alI).trans FSb.af);clear hbr;obtain ⟨bv,hbv⟩:=aiG (((!b0)||(l.take k).any fun t=>gT t (cB x)));have Hbv:=aj hbv;rw[<-hbv];clear hbv;by_cases hlt:k<n
 ·obtain rfl:=ha wP
  obtain⟨t,ht⟩:∃t,l[k]? =some t:=⟨_,gP (by rw[lI.af];exact hlt)⟩;obtain⟨_,g0,g1,g2,g3,g4,g5,g6,g7,g8⟩:=dP.af.rR k t ht;have hbl:=zk.af wP;have HN:=aj (Nc (f:=fun t=>gT t (cB x)) ht);have hk2:(k:Int)<(n:Int):=wP;clear ht;replace g0:=(Hb.af.cell (p:=(ak b (off+k*9))) hbl).trans g0;replace g1:=(Hb.af.cell (p:=(ak b (off+k*9+1))) hbl).trans g1;replace g2:=(Hb.af.cell (p:=(ak b (off+k*9+2))) hbl).trans g2;replace g3:=(Hb.af.cell (p:=(ak b (off+k*9+3))) hbl).trans g3;replace g4:=(Hb.af.cell (p:=(ak b (off+k*9+4))) hbl).trans g4;replace g5:=(Hb.af.cell (p:=(ak b (off+k*9+5))) hbl).trans g5;replace g6:=(Hb.af.cell (p:=(ak b (off+k*9+6))) hbl).trans g6;replace g7:=(Hb.af.cell (p:=(ak b (off+k*9+7))) hbl).trans g7;replace g8:=(Hb.af.cell (p:=(ak b (off+k*9+8))) hbl).trans g8;have FA:=aj (ah2 wr (aB arQ 54));go_upto_region 9 with (refine Bv rfl 54 (.tmp 7) (.tmp 29) rfl wr.heap.size (#[ax t.arT,ax t.asc,.bool t.old,.int .i64 t.ar3,.bool t.ar1,.int .i64 t.bq,.bool t.asg,.int .i64 t.value,.int .i64 t.size]) rfl rfl _ _ FA.af TA rfl (by simp[Value.oneCell']) ?_)
  have FT:=aj (TL _ wr.heap.size _ ((arK t)) _ _ FA.af);have WN:Hid (Below w5 w5 ((wr.alloc (aB arQ 54)).setRow wr.heap.size ((arK t)))):=aj (((Step.of_below (Hbr.af.alloc AB _)).trans ((show Step (fun c=>c≠wr.heap.size) (wr.alloc (aB arQ 54)) ((wr.alloc (aB arQ 54)).setRow wr.heap.size ((arK t)))from⟨rfl,rfl,rfl,arG,fun c hc=>cu _ _ _ _ hc⟩).imp (fun c h=>by have h:c<w5:=h;show c≠_;omega))).below);clear g0 g1 g2 g3 g4 g5 g6 g7 g8 FA Hb c_ Gd Hbr;generalize (wr.alloc (aB arQ 54)).setRow wr.heap.size ((arK t))=w2 at *;generalize wr.heap.size=tb at *;have Gd:=aj ((WN.af.block sb alI).trans FSb.af);have e0:w2.cell? (ak tb 0)=some (ax t.arT):=aL FT.af rfl;have e1:w2.cell? (ak tb 1)=some (ax t.asc):=aL FT.af rfl;have e2:w2.cell? (ak tb 2)=some (.bool t.old):=aL FT.af rfl;have d0:w2.cell? (ak sb 0)=some (ax x.arT):=aL Gd.af rfl;have d1:w2.cell? (ak sb 1)=some (ax x.asc):=aL Gd.af rfl;have d2:w2.cell? (ak sb 2)=some (.bool x.old):=aL Gd.af rfl;clear FT Gd
  cases bv with
  | true=>
   have HV:Hid (true=((!b0)||(l.take (k+1)).any fun t=>gT t (cB x))):=aj (by rw[HN.af,<-DY,<-Hbv.af];rfl);go_wp2;go_roundw;exact⟨k+1,by rw[<-HV.af],arH,wP,WN.af⟩;simp[intOf];omega
  | false=>
   by_cases h1:t.arT=x.arT
   ·have hb1:(t.arT==x.arT)=true:=by simp[h1]
    by_cases h2:t.asc=x.asc
    ·have hb2:(t.asc==x.asc)=true:=by simp[h2]
     have HV:Hid (true=((!b0)||(l.take (k+1)).any fun t=>gT t (cB x))):=aj (by rw[HN.af,<-DY,<-Hbv.af];rw[QC (s:=cB x) h1 h2];rfl);clear h1 h2;go_wp2;go_roundw;exact⟨k+1,by rw[<-HV.af],arH,wP,WN.af⟩;simp[intOf];omega
    ·have hb2:(t.asc==x.asc)=false:=by simp[h2]
     cases ho:t.old with
     | true=>
      rw[ho]at e2;have HV:Hid (false=((!b0)||(l.take (k+1)).any fun t=>gT t (cB x))):=aj (by rw[HN.af,<-DY,<-Hbv.af];rw[Je (s:=cB x) h1 h2,ho];rfl);clear h1 h2 ho;go_wp2;go_roundw;exact⟨k+1,by rw[<-HV.af],arH,wP,WN.af⟩;simp[intOf];omega
     | false=>
      rw[ho]at e2;have HV:Hid ((!x.old)=((!b0)||(l.take (k+1)).any fun t=>gT t (cB x))):=aj (by rw[HN.af,<-DY,<-Hbv.af];rw[Je (s:=cB x) h1 h2,ho];rfl);clear h1 h2 ho;go_wp2;go_roundw;exact⟨k+1,by rw[<-HV.af],arH,wP,WN.af⟩;simp[intOf];omega
   ·have hb1:(t.arT==x.arT)=false:=by simp[h1]
    have HV:Hid (false=((!b0)||(l.take (k+1)).any fun t=>gT t (cB x))):=aj (by rw[HN.af,<-DY,<-Hbv.af];rw[Oj (s:=cB x) h1];rfl);clear h1;go_wp2;go_roundw;exact⟨k+1,by rw[<-HV.af],arH,wP,WN.af⟩;simp[intOf];omega
 ·have HBE:Hid (bv=(!bC (cB x)||p.av.any fun t=>gT t (cB x))):=aj (by
   have h:=Hbv.af;rw[dh (by have:=lI.af;omega)]at h;rw[h,Hb0.af,Hll.af])
  have HM:=aj (j6.af.below hB Hb.af);have hB0:=hB;have hwr:w.heap.size<=wr:=Hb.af.size;have PS0:=aj (aU.below (pb:=pb) (v:=v) Hb.af);have hsv:(Value.slice jT n jU).ownBlock≠some sb:=fun e=>by have:=iZ.af sb (by rw[mg.af];exact e);have:=Hsb.af;omega
  have aqE:sb<wr:=wP;replace hB:B<=wr:=wP;clear Hbv Hb0 dP ha zk Hc9 j6;have hwn:=fun w=>lQ w bv 100
  have hcb:(if bv=true then (100:Int) else 0)=cd:=by rw[HBE.af];exact DJ.af.symm
  rw[hcb]at hwn;have iR:=aj hwn;clear hwn hcb;go_upto_region 10 with fail
  have d0:wr.cell? (ak sb 0)=some (ax x.arT):=aL Gd.af rfl;have d1:wr.cell? (ak sb 1)=some (ax x.asc):=aL Gd.af rfl;have d2:wr.cell? (ak sb 2)=some (.bool x.old):=aL Gd.af rfl;have d3:wr.cell? (ak sb 3)=some (ah x.ar3):=aL Gd.af rfl;have d4:wr.cell? (ak sb 4)=some (.bool x.ar1):=aL Gd.af rfl;have d5:wr.cell? (ak sb 5)=some (ah x.bq):=aL Gd.af rfl;have d6:wr.cell? (ak sb 6)=some (.bool true):=aL Gd.af rfl;have d7:wr.cell? (ak sb 7)=some (ah 0):=aL Gd.af rfl;have d8:wr.cell? (ak sb 8)=some (ah 0):=aL Gd.af rfl;have OO:=HM.af.lt;have TP:=aj (HM.af.av.fJ ig (E':=fun _=>False) (fun _ _ h=>h));refine bA 8 TA TA ?_;simp only[ji];refine P8 (S:=fun w':World=>w'.cell? (ak pb 9)=some (.slice jT n jU)/\w'.cell? (ak sb 0)=some (ax x.arT)/\w'.cell? (ak sb 1)=some (ax x.asc)/\w'.cell? (ak sb 2)=some (.bool x.old)/\w'.cell? (ak sb 3)=some (ah x.ar3)/\w'.cell? (ak sb 4)=some (.bool x.ar1)/\w'.cell? (ak sb 5)=some (ah x.bq)/\w'.cell? (ak sb 6)=some (.bool true)/\w'.cell? (ak sb 7)=some (ah 0)/\w'.cell? (ak sb 8)=some (ah 0)) _ _ _ _ ?_;have ay:(fun w':World=>w'.cell? (ak pb 9)=some (.slice jT n jU)/\w'.cell? (ak sb 0)=some (ax x.arT)/\w'.cell? (ak sb 1)=some (ax x.asc)/\w'.cell? (ak sb 2)=some (.bool x.old)/\w'.cell? (ak sb 3)=some (ah x.ar3)/\w'.cell? (ak sb 4)=some (.bool x.ar1)/\w'.cell? (ak sb 5)=some (ah x.bq)/\w'.cell? (ak sb 6)=some (.bool true)/\w'.cell? (ak sb 7)=some (ah 0)/\w'.cell? (ak sb 8)=some (ah 0)) (World.drew wr):=⟨c_,d0,d1,d2,d3,d4,d5,d6,d7,d8⟩;refine asr ?_;have rG:=aj (HM.af.below hB ((PZ wr.heap.size wr).drew));have TQ:=aj (aU.below (pb:=pb) (v:=v) ((PZ wr.heap.size wr).drew));have hBd:B<=(World.drew wr):=hB;have hzd:wr.heap.size<=(World.drew wr):=oD _;clear TP;generalize (World.drew wr)=wd at *;refine arO [0,1,2,3,4,5] ay ?_;simp only[ast]
  iterate 6 (refine arP ?_;try simp only[bP])
  have ko:=aj (rG.af.below hBd ((PZ _ wd).alloc (oD _) (aB (arX x) 54)));have JQ:=aj (TQ.af.trans (aU.below (pb:=pb) (v:=v) ((PZ _ wd).alloc (oD _) (aB (arX x) 54))));have NN:=aj (ah2 wd (aB (arX x) 54));have zn:B<=(wd.alloc (aB (arX x) 54)):=by simp;omega
  have adG:wd.heap.size<(wd.alloc (aB (arX x) 54)):=arG;refine cO 6 fun K hK=> ?_
  go_simp;refine hK.af _ _ ⟨dB ay.1,dB ay.2.1,dB ay.2.2.1,dB ay.2.2.2.1,dB ay.2.2.2.2.1,dB ay.2.2.2.2.2.1,dB ay.2.2.2.2.2.2.1,dB ay.2.2.2.2.2.2.2.1,dB ay.2.2.2.2.2.2.2.2.1,dB ay.2.2.2.2.2.2.2.2.2⟩ (fun ay=> ?_);clear hK K;try simp only[bV]
  generalize wd.alloc (aB (arX x) 54)=wn at *;have pq:Hid (gq.R (fun b=>b<wn/\¬False/\(Value.slice jT n jU).ownBlock≠some b) wn (cB x) [ax x.arT,ax x.asc,.bool x.old,ah x.ar3,.bool x.ar1,ah x.bq,.bool true,ah 0,ah 0]):=aj ⟨rfl,Nl.af⟩
  have wI:Hid (∀u∈([ax x.arT,ax x.asc,.bool x.old,.int .i64 x.ar3,.bool x.ar1,.int .i64 x.bq,.bool true,.int .i64 0,.int .i64 0]:List Value),u.oneCell'=true):=aj (by
   intro u hu;simp only[Y1,nW,or_false]at hu;rcases hu with rfl | rfl | rfl | rfl | rfl | rfl | rfl | rfl | rfl<;>rfl)
  have AO:=aj (ko.af.av.fJ ig (E':=fun _=>False) (fun _ _ h=>h));rw[mg.af]at AO;have hpn:(Value.slice jT n jU).ownBlock≠some pb:=fun e=>ko.af.av.notE pb (by rw[mg.af];exact e) (aH rfl)
  refine cO 7 fun K hK=> ?_
  rw[if_pos (by rfl)];simp only[rz];refine lV (K:=gq) (v:=.slice jT n jU) (e:=54) (B:=B) (E:=fun _=>False) 32 (.agg arQ) 88 Tryz.underlying32 yE rfl abD (.tmp 59) (.tmp 61) rfl n Hn.af.symm rfl AO.af (fun b hb=>hb.elim) wd.heap.size (cB x) [ax x.arT,ax x.asc,.bool x.old,ah x.ar3,.bool x.ar1,ah x.bq,.bool true,ah 0,ah 0] rfl (aD NN.af) wI.af pq.af (by have:=Hn.af.symm;omega) (by have:=Hn.af.symm;omega) zn ?_;rintro g7 c7 w7 fG hs7 uf wK;have hx7:=(hs7.block pb ⟨ko.af.lt,hpn⟩).trans ko.af.ex;have jK:=aj hx7
  have HR:=aj (ko.af.Aw (u:=.slice (some ⟨g7,0,none⟩) (n+1) c7) (by rw[mg.af];exact hs7) fG (fun b hb=>by
   rw[mg.af];by_cases h1:(Value.slice jT n jU).ownBlock=some b
   ·exact aH h1
   ·right
    rcases oG b wn.heap.size with h2 | h2
    ·exact absurd (qY hb).symm (wK b h2 h1)
    ·exact h2))
  refine hK.af _ _ ⟨(hs7.cell (p:=(ak pb 9)) ⟨ko.af.lt,hpn⟩).trans ay.1,(hs7.cell (p:=(ak sb 0)) ⟨by show sb<_;omega,hsv⟩).trans ay.2.1,(hs7.cell (p:=(ak sb 1)) ⟨by show sb<_;omega,hsv⟩).trans ay.2.2.1,(hs7.cell (p:=(ak sb 2)) ⟨by show sb<_;omega,hsv⟩).trans ay.2.2.2.1,(hs7.cell (p:=(ak sb 3)) ⟨by show sb<_;omega,hsv⟩).trans ay.2.2.2.2.1,(hs7.cell (p:=(ak sb 4)) ⟨by show sb<_;omega,hsv⟩).trans ay.2.2.2.2.2.1,(hs7.cell (p:=(ak sb 5)) ⟨by show sb<_;omega,hsv⟩).trans ay.2.2.2.2.2.2.1,(hs7.cell (p:=(ak sb 6)) ⟨by show sb<_;omega,hsv⟩).trans ay.2.2.2.2.2.2.2.1,(hs7.cell (p:=(ak sb 7)) ⟨by show sb<_;omega,hsv⟩).trans ay.2.2.2.2.2.2.2.2.1,(hs7.cell (p:=(ak sb 8)) ⟨by show sb<_;omega,hsv⟩).trans ay.2.2.2.2.2.2.2.2.2⟩ (fun ay=> ?_);clear hK K fG hs7 uf wK hx7;try simp only[bV]
  refine E5 TA ?_ _;simp only[dU];have cs_:=ay.1;have fz_:w7.frozen? (ak pb 9)=false:=vV jK.af 9;clear ay;go_wp2_with fail;refine(iR.af _).mono ?_;rintro e w9 ⟨rfl,rfl⟩;go_wp2;go_ret;exact⟨_,rfl,HR.af.1,PS0.af.trans (JQ.af.trans HR.af.2)⟩
theorem Ya {ar1:List (List UInt8)} {ks:List Int}:(p.asked ar1 arT aG e ks).1=((p.sym ar1 arT aG (ks.headD 0)).1).dm (!decide (((p.sym ar1 arT aG (ks.headD 0)).1.av.getD (p.sym ar1 arT aG (ks.headD 0)).2 iX).ar3∈ks)|| !bC ((p.sym ar1 arT aG (ks.headD 0)).1.av.getD (p.sym ar1 arT aG (ks.headD 0)).2 iX)) e:=rfl
theorem Io {ar1:List (List UInt8)} {ar3:Int}:
  (∃i:Nat,p.av.findIdx? (dD arT aG)=some i/\p.sym ar1 arT aG ar3=(p,i)/\i<p.av.length)∨(p.av.findIdx? (dD arT aG)=none/\p.sym ar1 arT aG ar3=({p with av:=p.av++[iP ar1 arT aG ar3]},p.av.length)):=by
 cases h:p.av.findIdx? (dD arT aG)with
 | some i=>exact aH ⟨i,rfl,fw h,(List.findIdx?_eq_some_iff_findIdx_eq.1 h).1⟩
 | none=>exact aZ ⟨rfl,aai h⟩
theorem adH (arT aG:List UInt8) (e:Int) (hn:gU arT) (hv:gU aG) (hM:gM B pb w sv s v p) (hB:B<=w) (hl:p.av.length<=999999):
  Calls asq 121 #[aQ pb,.agg #[ax arT,ax aG,ah 1],ah e] w fun r w'=>∃v',r=.returned (ah (if (!decide (((p.sym s.ar1 arT aG 1).1.av.getD (p.sym s.ar1 arT aG 1).2 iX).ar3∈[1])|| !bC ((p.sym s.ar1 arT aG 1).1.av.getD (p.sym s.ar1 arT aG 1).2 iX))=true then e else 0))/\gM B pb w' sv s v' (p.sym s.ar1 arT aG 1).1/\aU pb v v' w w':=by
 obtain ⟨cd,hcd⟩:=aiG ((if (!decide (((p.sym s.ar1 arT aG 1).1.av.getD (p.sym s.ar1 arT aG 1).2 iX).ar3∈[1])|| !bC ((p.sym s.ar1 arT aG 1).1.av.getD (p.sym s.ar1 arT aG 1).2 iX))=true then e else 0):Int);rw[<-hcd];have DJ:=aj hcd;clear hcd;have j6:=aj hM;have hpl:=hM.lt;have pg:=aj (fun w' (hb:Below w w w')=>wH arT aG (hM.below hB hb) (eG hB hb.size) (eG hl abD));have Gf:lJ (iP s.ar1 arT aG 1):=Dt hn hv ⟨abD,abD⟩;have RN:=aj Gf;have HW:=aj (Io (ar1:=s.ar1) (arT:=arT) (aG:=aG) (ar3:=1) (p:=p));obtain ⟨Q,hQ⟩:=aiG (p.sym s.ar1 arT aG 1);rw[<-hQ]at DJ HW ⊢
 have yN:Hid (Q.1.av.length<=1000000/\Q.2<Q.1.av.length):=aj (by
  rcases HW.af with ⟨i,_,h2,h3⟩ | ⟨_,h2⟩
  ·rw[h2];exact⟨(by omega:p.av.length<=1000000),h3⟩
  ·rw[h2]
   show(p.av++[iP s.ar1 arT aG 1]).length<=1000000/\p.av.length<(p.av++[iP s.ar1 arT aG 1]).length;rw[Kk];simp;omega)
 have BO:=aj (ah2 w (aB #[ax arT,ax aG,ah 1] 197));have B0:=aj ((PZ w.heap.size w).alloc (oD _) (aB #[ax arT,ax aG,ah 1] 197));have wJ:w.heap.size<(w.alloc (aB #[ax arT,ax aG,ah 1] 197)):=arG;clear hM hQ Gf hn hv;go_enter Tryz.func121,Tryz.ntmps121;go_upto_region 1 with fail
 generalize w.alloc (aB #[ax arT,ax aG,ah 1] 197)=w1 at *;have a0:w1.cell? (ak w 0)=some (ax arT):=aL BO.af rfl;have a1:w1.cell? (ak w 1)=some (ax aG):=aL BO.af rfl;go_wp2_with fail;refine(pg.af w1 B0.af).mono ?_;rintro r w2 ⟨rfl,hb2⟩;have ve:=aj ((hb2.block w.heap.size wJ).trans BO.af);have B2:=aj (B0.af.trans (hb2.mono (qx wJ)));have hlt2:w.heap.size<w2:=by have:=hb2.size;omega
 obtain ⟨mk,hmk⟩:=aiG (oM arT aG p.av);rw[<-hmk];have yO:=aj hmk;clear hmk hb2 pg BO B0 a0 a1;go_upto_if 18 with fail
 go_cut [7]from 8 to 54 (fun k wx=>k=ah (Q.2:Int)/\∃v1,gM B pb wx sv s v1 Q.1/\aU pb v v1 w wx/\wx.heap[w.heap.size]? =some (aB #[ax arT,ax aG,ah 1] 197)/\w.heap.size<wx)
 case first=>
  have HM:=aj (j6.af.below hB B2.af);have hB0:=hB;replace hB:B<=w2:=eG hB B2.af.size;rcases HW.af with ⟨i,h1,h2,h3⟩ | ⟨h1,h2⟩
  ·have hm:mk=(i:Int):=yO.af.trans (oN h1)
   have hd:decide ((i:Int)<0)=false:=by rw[arN];omega
   have H2:=aj h2;subst hm;clear h1 h2 HW yO;go_wp2_with fail;go_meet;exact⟨by rw[H2.af],v,by rw[H2.af];exact HM.af,aU.below B2.af,ve.af,hlt2⟩
  ·have hm:mk= -1:=yO.af.trans (BN h1)
   have H2:=aj h2;subst hm;obtain⟨jT,jU,hf⟩:=HM.af.av.form;have c_:=HM.af.c9;rw[hf]at c_;have mg:=aj hf;have iZ:Hid (∀g,v.av.ownBlock=some g->g<w.heap.size):=aj (fun g hg=>(j6.af.av.lt g hg).2);obtain ⟨n,hn⟩:=aiG p.av.length;have Hn:=aj hn;rw[<-hn]at c_ mg hl;have hal:(Value.slice jT n jU).ownBlock≠some w.heap.size:=fun e=>by have:=iZ.af w.heap.size (by rw[mg.af];exact e);omega
   clear h1 h2 HW yO hf hn;have a0:w2.cell? (ak w 0)=some (ax arT):=aL ve.af rfl;have a1:w2.cell? (ak w 1)=some (ax aG):=aL ve.af rfl;have a2:w2.cell? (ak w 2)=some (ah 1):=aL ve.af rfl;go_upto_region 8 with fail
   have OO:=HM.af.lt;have TP:=aj (HM.af.av.fJ ig (E':=fun _=>False) (fun _ _ h=>h));refine bA 17 TA TA ?_;simp only[ji];refine P8 (S:=fun w':World=>w'.cell? (ak pb 9)=some (.slice jT n jU)/\w'.cell? (ak w 0)=some (ax arT)/\w'.cell? (ak w 1)=some (ax aG)) _ _ _ _ ?_;have ay:(fun w':World=>w'.cell? (ak pb 9)=some (.slice jT n jU)/\w'.cell? (ak w 0)=some (ax arT)/\w'.cell? (ak w 1)=some (ax aG)) (World.drew w2):=⟨c_,a0,a1⟩;refine asr ?_;have rG:=aj (HM.af.below hB ((PZ w2.heap.size w2).drew));have TQ:=aj (aU.below (pb:=pb) (v:=v) ((PZ w2.heap.size w2).drew));have hBd:B<=(World.drew w2):=hB;have hzd:w2.heap.size<=(World.drew w2):=oD _;clear TP;generalize (World.drew w2)=wd at *;refine arO [0,1,2,3,4,5,6,7,8,9,10,11,12] ay ?_;simp only[ast]
   iterate 13 (refine arP ?_;try simp only[bP])
   refine cO 13 fun K hK=> ?_
   go_simp;refine(Il arT rG.af).mono ?_;rintro r wq ⟨rfl,hwq⟩;rw[hwq];clear hwq wq;refine hK.af _ _ ay (fun ay=> ?_);clear hK K;try simp only[bV]
   refine arO [14] ay ?_;simp only[ast]
   iterate 1 (refine arP ?_;try simp only[bP])
   have ko:=aj (rG.af.below hBd ((PZ _ wd).alloc (oD _) (aB #[ax arT,ax aG,.bool false,ah 1,.bool (decide (arT∈s.ar1)),ah 0,.bool false,ah 0,ah 0] 54)));have JQ:=aj (TQ.af.trans (aU.below (pb:=pb) (v:=v) ((PZ _ wd).alloc (oD _) (aB #[ax arT,ax aG,.bool false,ah 1,.bool (decide (arT∈s.ar1)),ah 0,.bool false,ah 0,ah 0] 54))));have NN:=aj (ah2 wd (aB #[ax arT,ax aG,.bool false,ah 1,.bool (decide (arT∈s.ar1)),ah 0,.bool false,ah 0,ah 0] 54));have zn:B<=(wd.alloc (aB #[ax arT,ax aG,.bool false,ah 1,.bool (decide (arT∈s.ar1)),ah 0,.bool false,ah 0,ah 0] 54)).heap.size:=by simp;omega
   have adG:wd.heap.size<(wd.alloc (aB #[ax arT,ax aG,.bool false,ah 1,.bool (decide (arT∈s.ar1)),ah 0,.bool false,ah 0,ah 0] 54)).heap.size:=arG;refine cO 15 fun K hK=> ?_
   go_simp;refine hK.af _ _ ⟨dB ay.1,dB ay.2.1,dB ay.2.2⟩ (fun ay=> ?_);clear hK K;try simp only[bV]
   generalize wd.alloc (aB #[ax arT,ax aG,.bool false,ah 1,.bool (decide (arT∈s.ar1)),ah 0,.bool false,ah 0,ah 0] 54)=wn at *;have pq:Hid (gq.R (fun b=>b<wn/\¬False/\(Value.slice jT n jU).ownBlock≠some b) wn (iP s.ar1 arT aG 1) [ax arT,ax aG,.bool false,ah 1,.bool (decide (arT∈s.ar1)),ah 0,.bool false,ah 0,ah 0]):=aj ⟨rfl,RN.af⟩
   have wI:Hid (∀u∈([ax arT,ax aG,.bool false,.int .i64 1,.bool (decide (arT∈s.ar1)),.int .i64 0,.bool false,.int .i64 0,.int .i64 0]:List Value),u.oneCell'=true):=aj (by
    intro u hu;simp only[Y1,nW,or_false]at hu;rcases hu with rfl | rfl | rfl | rfl | rfl | rfl | rfl | rfl | rfl<;>rfl)
   have AO:=aj (ko.af.av.fJ ig (E':=fun _=>False) (fun _ _ h=>h));rw[mg.af]at AO;have hpn:(Value.slice jT n jU).ownBlock≠some pb:=fun e=>ko.af.av.notE pb (by rw[mg.af];exact e) (aH rfl)
   refine cO 16 fun K hK=> ?_
   rw[if_pos (by rfl)];simp only[rz];refine lV (K:=gq) (v:=.slice jT n jU) (e:=54) (B:=B) (E:=fun _=>False) 32 (.agg arQ) 88 Tryz.underlying32 yE rfl abD (.tmp 34) (.tmp 45) rfl n Hn.af.symm rfl AO.af (fun b hb=>hb.elim) wd.heap.size (iP s.ar1 arT aG 1) [ax arT,ax aG,.bool false,ah 1,.bool (decide (arT∈s.ar1)),ah 0,.bool false,ah 0,ah 0] rfl (aD NN.af) wI.af pq.af (by have:=Hn.af.symm;omega) (by have:=Hn.af.symm;omega) zn ?_;rintro g7 c7 w7 fG hs7 uf wK;have hx7:=(hs7.block pb ⟨ko.af.lt,hpn⟩).trans ko.af.ex;have jK:=aj hx7
   have HR:=aj (ko.af.Aw (u:=.slice (some ⟨g7,0,none⟩) (n+1) c7) (by rw[mg.af];exact hs7) fG (fun b hb=>by
    rw[mg.af];by_cases h1:(Value.slice jT n jU).ownBlock=some b
    ·exact aH h1
    ·right
     rcases oG b wn.heap.size with h2 | h2
     ·exact absurd (qY hb).symm (wK b h2 h1)
     ·exact h2))
   refine hK.af _ _ ⟨(hs7.cell (p:=(ak pb 9)) ⟨ko.af.lt,hpn⟩).trans ay.1,(hs7.cell (p:=(ak w 0)) ⟨by show w.heap.size<_;omega,hal⟩).trans ay.2.1,(hs7.cell (p:=(ak w 1)) ⟨by show w.heap.size<_;omega,hal⟩).trans ay.2.2⟩ (fun ay=> ?_);clear hK K fG hs7 uf wK hx7;try simp only[bV]
   refine E5 TA ?_ _;simp only[dU];have cs_:=ay.1;have fz_:w7.frozen? (ak pb 9)=false:=vV jK.af 9;clear ay;have k9:(w7.setCell ⟨pb,9,none⟩ (.slice (some ⟨g7,0,none⟩) (n+1) c7)).cell? (ak pb 9)=some (.slice (some ⟨g7,0,none⟩) (n+1) c7):=HR.af.1.c9;have Gg:=aj (JQ.af.trans HR.af.2);have FA9:=aj ((Gg.af.step.block w.heap.size ⟨hlt2,wP,fun h=>by have:=(j6.af.qf h).2.1;omega⟩).trans ve.af);have OQ:=Gg.af.step.size;go_wp2_with fail;go_meet;exact⟨by rw[H2.af];have:=Hn.af;go_num,_,by rw[H2.af];exact HR.af.1,(aU.below B2.af).trans Gg.af,FA9.af,wP⟩
 case rest=>
  obtain⟨rfl,v1,hM1,hs1,hA1,hlt1⟩:=hcut;rename World=>w3
  obtain⟨jT,b,off,jU,hf,hm,_,hat⟩:=hM1.av.lb.at;have c9:=hM1.c9;rw[hf]at c9;obtain⟨x,hx⟩:∃x,Q.1.av[Q.2]? =some x:=⟨_,gP yN.af.2⟩;have hxd:Q.1.av.getD Q.2 iX=x:=by rw[tK,hx];rfl
  obtain⟨Ag,g0,g1,g2,g3,g4,g5,g6,g7,g8⟩:=hat.rR Q.2 x hx;obtain rfl:=hat.addr (by have:=yN.af.2;omega);have aiF:=aj Ag;have yA:=aj (fun w=>xK w x Ag);have Ah:=aj DJ.af;rw[hxd]at Ah;obtain ⟨q,hq⟩:=aiG Q.2;obtain ⟨n,hn⟩:=aiG Q.1.av.length;have hqn:q<n:=by have:=yN.af.2;omega
  have hn1:n<=1000000:=by have:=yN.af.1;omega
  have hqi:(q:Int)<(n:Int):=wP;rw[<-hn]at c9 hm;rw[<-hq]at g0 g1 g2 g3 g4 g5 g6 g7 g8 ⊢;have iU:=aj hM1;have kM:=aj hs1;have HA1:=aj hA1;have hB1:B<=w3:=wP;clear hM1 hs1 hA1 hf hat hx hxd Ag hq hn DJ yN HW yO ve B2;have Gh:=aj (ah2 w3 (aB arQ 54));go_upto_region 11 with (refine Bv rfl 54 (.tmp 9) (.tmp 61) rfl w3.heap.size (#[ax x.arT,ax x.asc,.bool x.old,.int .i64 x.ar3,.bool x.ar1,.int .i64 x.bq,.bool x.asg,.int .i64 x.value,.int .i64 x.size]) rfl rfl _ _ Gh.af TA rfl (by simp[Value.oneCell']) ?_)
  have FT:=aj (TL _ w3.heap.size _ ((arK x)) _ _ Gh.af);have hb4:Below w3 w3 ((w3.alloc (aB arQ 54)).setRow w3.heap.size ((arK x))):=((Step.of_below ((PZ _ w3).alloc (oD _) (aB arQ 54))).trans ((show Step (fun c=>c≠w3.heap.size) (w3.alloc (aB arQ 54)) ((w3.alloc (aB arQ 54)).setRow w3.heap.size ((arK x)))from⟨rfl,rfl,rfl,arG,fun c hc=>cu _ _ _ _ hc⟩).imp (fun c h=>by have h:c<w3:=h;show c≠_;omega))).below;have sS:=aj (iU.af.below hB1 hb4);have qH:=aj (kM.af.trans (aU.below hb4));have JR:=aj ((hb4.block w.heap.size hlt1).trans HA1.af);clear hb4 iU kM HA1 Gh g0 g1 g2 g3 g4 g5 g6 g7 g8 c9;generalize (w3.alloc (aB arQ 54)).setRow w3.heap.size ((arK x))=w4 at *;generalize w3.heap.size=sb at *;have a2:w4.cell? (ak w 2)=some (ah 1):=aL JR.af rfl;have e0:w4.cell? (ak sb 0)=some (ax x.arT):=aL FT.af rfl;have e1:w4.cell? (ak sb 1)=some (ax x.asc):=aL FT.af rfl;have e2:w4.cell? (ak sb 2)=some (.bool x.old):=aL FT.af rfl;have e3:w4.cell? (ak sb 3)=some (ah x.ar3):=aL FT.af rfl;have e4:w4.cell? (ak sb 4)=some (.bool x.ar1):=aL FT.af rfl;have e5:w4.cell? (ak sb 5)=some (ah x.bq):=aL FT.af rfl;have e6:w4.cell? (ak sb 6)=some (.bool x.asg):=aL FT.af rfl;have e7:w4.cell? (ak sb 7)=some (ah x.value):=aL FT.af rfl;have e8:w4.cell? (ak sb 8)=some (ah x.size):=aL FT.af rfl;by_cases hk:x.ar3=1
  ·have hb1:(x.ar3==1)=true:=by simp[hk]
   have hb2:(x.ar3 != 1)=false:=by simp[hk]
   have hcb:(if (!bC x)=true then e else 0)=cd:=by
    rw[Ah.af,<-acG];simp[hk]
   have hwn:=fun w=>lQ w (!bC x) e
   rw[hcb]at hwn;have iR:=aj hwn;clear hwn hcb hk;go_wp2_with fail;refine(yA.af w4).mono ?_;rintro r w5 ⟨rfl,hb5⟩;have Hb5:=aj hb5;have qo:=aj (sS.af.below (by have:=qH.af.step.size;omega) hb5);clear hb5;go_wp2_with fail;refine(iR.af _).mono ?_;rintro r w9 ⟨rfl,rfl⟩;go_wp2;go_ret;exact⟨_,rfl,qo.af,qH.af.trans (aU.below Hb5.af)⟩
  ·have hb1:(x.ar3==1)=false:=by simp[hk]
   have hb2:(x.ar3 != 1)=true:=by simp[hk]
   have hcb:(if true=true then e else 0)=cd:=by
    rw[Ah.af,<-acG];simp[hk]
   have hwn:=fun w=>lQ w true e
   rw[hcb]at hwn;have iR:=aj hwn;clear hwn hcb hk;go_wp2_with fail;refine(iR.af _).mono ?_;rintro r w9 ⟨rfl,rfl⟩;go_wp2;go_ret;exact⟨_,rfl,sS.af,qH.af⟩
theorem adI (arT aG:List UInt8) (e:Int) (hn:gU arT) (hv:gU aG) (hM:gM B pb w sv s v p) (hB:B<=w) (hl:p.av.length<=999999):
  Calls asq 121 #[aQ pb,.agg #[ax arT,ax aG,ah 2],ah e] w fun r w'=>∃v',r=.returned (ah (if (!decide (((p.sym s.ar1 arT aG 3).1.av.getD (p.sym s.ar1 arT aG 3).2 iX).ar3∈[3])|| !bC ((p.sym s.ar1 arT aG 3).1.av.getD (p.sym s.ar1 arT aG 3).2 iX))=true then e else 0))/\gM B pb w' sv s v' (p.sym s.ar1 arT aG 3).1/\aU pb v v' w w':=by
 obtain ⟨cd,hcd⟩:=aiG ((if (!decide (((p.sym s.ar1 arT aG 3).1.av.getD (p.sym s.ar1 arT aG 3).2 iX).ar3∈[3])|| !bC ((p.sym s.ar1 arT aG 3).1.av.getD (p.sym s.ar1 arT aG 3).2 iX))=true then e else 0):Int);rw[<-hcd];have DJ:=aj hcd;clear hcd;have j6:=aj hM;have hpl:=hM.lt;have pg:=aj (fun w' (hb:Below w w w')=>wH arT aG (hM.below hB hb) (eG hB hb.size) (eG hl abD));have Gf:lJ (iP s.ar1 arT aG 3):=Dt hn hv ⟨abD,abD⟩;have RN:=aj Gf;have HW:=aj (Io (ar1:=s.ar1) (arT:=arT) (aG:=aG) (ar3:=3) (p:=p));obtain ⟨Q,hQ⟩:=aiG (p.sym s.ar1 arT aG 3);rw[<-hQ]at DJ HW ⊢
 have yN:Hid (Q.1.av.length<=1000000/\Q.2<Q.1.av.length):=aj (by
  rcases HW.af with ⟨i,_,h2,h3⟩ | ⟨_,h2⟩
  ·rw[h2];exact⟨(by omega:p.av.length<=1000000),h3⟩
  ·rw[h2]
   show(p.av++[iP s.ar1 arT aG 3]).length<=1000000/\p.av.length<(p.av++[iP s.ar1 arT aG 3]).length;rw[Kk];simp;omega)
 have BO:=aj (ah2 w (aB #[ax arT,ax aG,ah 2] 197));have B0:=aj ((PZ w.heap.size w).alloc (oD _) (aB #[ax arT,ax aG,ah 2] 197));have wJ:w.heap.size<(w.alloc (aB #[ax arT,ax aG,ah 2] 197)):=arG;clear hM hQ Gf hn hv;go_enter Tryz.func121,Tryz.ntmps121;go_upto_region 1 with fail
 generalize w.alloc (aB #[ax arT,ax aG,ah 2] 197)=w1 at *;have a0:w1.cell? (ak w 0)=some (ax arT):=aL BO.af rfl;have a1:w1.cell? (ak w 1)=some (ax aG):=aL BO.af rfl;go_wp2_with fail;refine(pg.af w1 B0.af).mono ?_;rintro r w2 ⟨rfl,hb2⟩;have ve:=aj ((hb2.block w.heap.size wJ).trans BO.af);have B2:=aj (B0.af.trans (hb2.mono (qx wJ)));have hlt2:w.heap.size<w2:=by have:=hb2.size;omega
 obtain ⟨mk,hmk⟩:=aiG (oM arT aG p.av);rw[<-hmk];have yO:=aj hmk;clear hmk hb2 pg BO B0 a0 a1;go_upto_if 18 with fail
 go_cut [7]from 8 to 54 (fun k wx=>k=ah (Q.2:Int)/\∃v1,gM B pb wx sv s v1 Q.1/\aU pb v v1 w wx/\wx.heap[w.heap.size]? =some (aB #[ax arT,ax aG,ah 2] 197)/\w.heap.size<wx)
 case first=>
  have HM:=aj (j6.af.below hB B2.af);have hB0:=hB;replace hB:B<=w2:=eG hB B2.af.size;rcases HW.af with ⟨i,h1,h2,h3⟩ | ⟨h1,h2⟩
  ·have hm:mk=(i:Int):=yO.af.trans (oN h1)
   have hd:decide ((i:Int)<0)=false:=by rw[arN];omega
   have H2:=aj h2;subst hm;clear h1 h2 HW yO;go_wp2_with fail;go_meet;exact⟨by rw[H2.af],v,by rw[H2.af];exact HM.af,aU.below B2.af,ve.af,hlt2⟩
  ·have hm:mk= -1:=yO.af.trans (BN h1)
   have H2:=aj h2;subst hm;obtain⟨jT,jU,hf⟩:=HM.af.av.form;have c_:=HM.af.c9;rw[hf]at c_;have mg:=aj hf;have iZ:Hid (∀g,v.av.ownBlock=some g->g<w.heap.size):=aj (fun g hg=>(j6.af.av.lt g hg).2);obtain ⟨n,hn⟩:=aiG p.av.length;have Hn:=aj hn;rw[<-hn]at c_ mg hl;have hal:(Value.slice jT n jU).ownBlock≠some w.heap.size:=fun e=>by have:=iZ.af w.heap.size (by rw[mg.af];exact e);omega
   clear h1 h2 HW yO hf hn;have a0:w2.cell? (ak w 0)=some (ax arT):=aL ve.af rfl;have a1:w2.cell? (ak w 1)=some (ax aG):=aL ve.af rfl;have a2:w2.cell? (ak w 2)=some (ah 2):=aL ve.af rfl;go_upto_region 8 with fail
   have OO:=HM.af.lt;have TP:=aj (HM.af.av.fJ ig (E':=fun _=>False) (fun _ _ h=>h));refine bA 17 TA TA ?_;simp only[ji];refine P8 (S:=fun w':World=>w'.cell? (ak pb 9)=some (.slice jT n jU)/\w'.cell? (ak w 0)=some (ax arT)/\w'.cell? (ak w 1)=some (ax aG)) _ _ _ _ ?_;have ay:(fun w':World=>w'.cell? (ak pb 9)=some (.slice jT n jU)/\w'.cell? (ak w 0)=some (ax arT)/\w'.cell? (ak w 1)=some (ax aG)) (World.drew w2):=⟨c_,a0,a1⟩;refine asr ?_;have rG:=aj (HM.af.below hB ((PZ w2.heap.size w2).drew));have TQ:=aj (aU.below (pb:=pb) (v:=v) ((PZ w2.heap.size w2).drew));have hBd:B<=(World.drew w2):=hB;have hzd:w2.heap.size<=(World.drew w2):=oD _;clear TP;generalize (World.drew w2)=wd at *;refine arO [0,1,2,3,4,5,6,7,8,9,10,11,12] ay ?_;simp only[ast]
   iterate 13 (refine arP ?_;try simp only[bP])
   refine cO 13 fun K hK=> ?_
   go_simp;refine(Il arT rG.af).mono ?_;rintro r wq ⟨rfl,hwq⟩;rw[hwq];clear hwq wq;refine hK.af _ _ ay (fun ay=> ?_);clear hK K;try simp only[bV]
   refine arO [14] ay ?_;simp only[ast]
   iterate 1 (refine arP ?_;try simp only[bP])
   have ko:=aj (rG.af.below hBd ((PZ _ wd).alloc (oD _) (aB #[ax arT,ax aG,.bool false,ah 3,.bool (decide (arT∈s.ar1)),ah 0,.bool false,ah 0,ah 0] 54)));have JQ:=aj (TQ.af.trans (aU.below (pb:=pb) (v:=v) ((PZ _ wd).alloc (oD _) (aB #[ax arT,ax aG,.bool false,ah 3,.bool (decide (arT∈s.ar1)),ah 0,.bool false,ah 0,ah 0] 54))));have NN:=aj (ah2 wd (aB #[ax arT,ax aG,.bool false,ah 3,.bool (decide (arT∈s.ar1)),ah 0,.bool false,ah 0,ah 0] 54));have zn:B<=(wd.alloc (aB #[ax arT,ax aG,.bool false,ah 3,.bool (decide (arT∈s.ar1)),ah 0,.bool false,ah 0,ah 0] 54)).heap.size:=by simp;omega
   have adG:wd.heap.size<(wd.alloc (aB #[ax arT,ax aG,.bool false,ah 3,.bool (decide (arT∈s.ar1)),ah 0,.bool false,ah 0,ah 0] 54)).heap.size:=arG;refine cO 15 fun K hK=> ?_
   go_simp;refine hK.af _ _ ⟨dB ay.1,dB ay.2.1,dB ay.2.2⟩ (fun ay=> ?_);clear hK K;try simp only[bV]
   generalize wd.alloc (aB #[ax arT,ax aG,.bool false,ah 3,.bool (decide (arT∈s.ar1)),ah 0,.bool false,ah 0,ah 0] 54)=wn at *;have pq:Hid (gq.R (fun b=>b<wn/\¬False/\(Value.slice jT n jU).ownBlock≠some b) wn (iP s.ar1 arT aG 3) [ax arT,ax aG,.bool false,ah 3,.bool (decide (arT∈s.ar1)),ah 0,.bool false,ah 0,ah 0]):=aj ⟨rfl,RN.af⟩
   have wI:Hid (∀u∈([ax arT,ax aG,.bool false,.int .i64 3,.bool (decide (arT∈s.ar1)),.int .i64 0,.bool false,.int .i64 0,.int .i64 0]:List Value),u.oneCell'=true):=aj (by
    intro u hu;simp only[Y1,nW,or_false]at hu;rcases hu with rfl | rfl | rfl | rfl | rfl | rfl | rfl | rfl | rfl<;>rfl)
   have AO:=aj (ko.af.av.fJ ig (E':=fun _=>False) (fun _ _ h=>h));rw[mg.af]at AO;have hpn:(Value.slice jT n jU).ownBlock≠some pb:=fun e=>ko.af.av.notE pb (by rw[mg.af];exact e) (aH rfl)
   refine cO 16 fun K hK=> ?_
   rw[if_pos (by rfl)];simp only[rz];refine lV (K:=gq) (v:=.slice jT n jU) (e:=54) (B:=B) (E:=fun _=>False) 32 (.agg arQ) 88 Tryz.underlying32 yE rfl abD (.tmp 34) (.tmp 45) rfl n Hn.af.symm rfl AO.af (fun b hb=>hb.elim) wd.heap.size (iP s.ar1 arT aG 3) [ax arT,ax aG,.bool false,ah 3,.bool (decide (arT∈s.ar1)),ah 0,.bool false,ah 0,ah 0] rfl (aD NN.af) wI.af pq.af (by have:=Hn.af.symm;omega) (by have:=Hn.af.symm;omega) zn ?_;rintro g7 c7 w7 fG hs7 uf wK;have hx7:=(hs7.block pb ⟨ko.af.lt,hpn⟩).trans ko.af.ex;have jK:=aj hx7
   have HR:=aj (ko.af.Aw (u:=.slice (some ⟨g7,0,none⟩) (n+1) c7) (by rw[mg.af];exact hs7) fG (fun b hb=>by
    rw[mg.af];by_cases h1:(Value.slice jT n jU).ownBlock=some b
    ·exact aH h1
    ·right
     rcases oG b wn.heap.size with h2 | h2
     ·exact absurd (qY hb).symm (wK b h2 h1)
     ·exact h2))
   refine hK.af _ _ ⟨(hs7.cell (p:=(ak pb 9)) ⟨ko.af.lt,hpn⟩).trans ay.1,(hs7.cell (p:=(ak w 0)) ⟨by show w.heap.size<_;omega,hal⟩).trans ay.2.1,(hs7.cell (p:=(ak w 1)) ⟨by show w.heap.size<_;omega,hal⟩).trans ay.2.2⟩ (fun ay=> ?_);clear hK K fG hs7 uf wK hx7;try simp only[bV]
   refine E5 TA ?_ _;simp only[dU];have cs_:=ay.1;have fz_:w7.frozen? (ak pb 9)=false:=vV jK.af 9;clear ay;have k9:(w7.setCell ⟨pb,9,none⟩ (.slice (some ⟨g7,0,none⟩) (n+1) c7)).cell? (ak pb 9)=some (.slice (some ⟨g7,0,none⟩) (n+1) c7):=HR.af.1.c9;have Gg:=aj (JQ.af.trans HR.af.2);have FA9:=aj ((Gg.af.step.block w.heap.size ⟨hlt2,wP,fun h=>by have:=(j6.af.qf h).2.1;omega⟩).trans ve.af);have OQ:=Gg.af.step.size;go_wp2_with fail;go_meet;exact⟨by rw[H2.af];have:=Hn.af;go_num,_,by rw[H2.af];exact HR.af.1,(aU.below B2.af).trans Gg.af,FA9.af,wP⟩
 case rest=>
  obtain⟨rfl,v1,hM1,hs1,hA1,hlt1⟩:=hcut;rename World=>w3
  obtain⟨jT,b,off,jU,hf,hm,_,hat⟩:=hM1.av.lb.at;have c9:=hM1.c9;rw[hf]at c9;obtain⟨x,hx⟩:∃x,Q.1.av[Q.2]? =some x:=⟨_,gP yN.af.2⟩;have hxd:Q.1.av.getD Q.2 iX=x:=by rw[tK,hx];rfl
  obtain⟨Ag,g0,g1,g2,g3,g4,g5,g6,g7,g8⟩:=hat.rR Q.2 x hx;obtain rfl:=hat.addr (by have:=yN.af.2;omega);have aiF:=aj Ag;have yA:=aj (fun w=>xK w x Ag);have Ah:=aj DJ.af;rw[hxd]at Ah;obtain ⟨q,hq⟩:=aiG Q.2;obtain ⟨n,hn⟩:=aiG Q.1.av.length;have hqn:q<n:=by have:=yN.af.2;omega
  have hn1:n<=1000000:=by have:=yN.af.1;omega
  have hqi:(q:Int)<(n:Int):=wP;rw[<-hn]at c9 hm;rw[<-hq]at g0 g1 g2 g3 g4 g5 g6 g7 g8 ⊢;have iU:=aj hM1;have kM:=aj hs1;have HA1:=aj hA1;have hB1:B<=w3:=wP;clear hM1 hs1 hA1 hf hat hx hxd Ag hq hn DJ yN HW yO ve B2;have Gh:=aj (ah2 w3 (aB arQ 54));go_upto_region 11 with (refine Bv rfl 54 (.tmp 9) (.tmp 61) rfl w3.heap.size (#[ax x.arT,ax x.asc,.bool x.old,.int .i64 x.ar3,.bool x.ar1,.int .i64 x.bq,.bool x.asg,.int .i64 x.value,.int .i64 x.size]) rfl rfl _ _ Gh.af TA rfl (by simp[Value.oneCell']) ?_)
  have FT:=aj (TL _ w3.heap.size _ ((arK x)) _ _ Gh.af);have hb4:Below w3 w3 ((w3.alloc (aB arQ 54)).setRow w3.heap.size ((arK x))):=((Step.of_below ((PZ _ w3).alloc (oD _) (aB arQ 54))).trans ((show Step (fun c=>c≠w3.heap.size) (w3.alloc (aB arQ 54)) ((w3.alloc (aB arQ 54)).setRow w3.heap.size ((arK x)))from⟨rfl,rfl,rfl,arG,fun c hc=>cu _ _ _ _ hc⟩).imp (fun c h=>by have h:c<w3:=h;show c≠_;omega))).below;have sS:=aj (iU.af.below hB1 hb4);have qH:=aj (kM.af.trans (aU.below hb4));have JR:=aj ((hb4.block w.heap.size hlt1).trans HA1.af);clear hb4 iU kM HA1 Gh g0 g1 g2 g3 g4 g5 g6 g7 g8 c9;generalize (w3.alloc (aB arQ 54)).setRow w3.heap.size ((arK x))=w4 at *;generalize w3.heap.size=sb at *;have a2:w4.cell? (ak w 2)=some (ah 2):=aL JR.af rfl;have e0:w4.cell? (ak sb 0)=some (ax x.arT):=aL FT.af rfl;have e1:w4.cell? (ak sb 1)=some (ax x.asc):=aL FT.af rfl;have e2:w4.cell? (ak sb 2)=some (.bool x.old):=aL FT.af rfl;have e3:w4.cell? (ak sb 3)=some (ah x.ar3):=aL FT.af rfl;have e4:w4.cell? (ak sb 4)=some (.bool x.ar1):=aL FT.af rfl;have e5:w4.cell? (ak sb 5)=some (ah x.bq):=aL FT.af rfl;have e6:w4.cell? (ak sb 6)=some (.bool x.asg):=aL FT.af rfl;have e7:w4.cell? (ak sb 7)=some (ah x.value):=aL FT.af rfl;have e8:w4.cell? (ak sb 8)=some (ah x.size):=aL FT.af rfl;by_cases hk:x.ar3=3
  ·have hb1:(x.ar3==3)=true:=by simp[hk]
   have hb2:(x.ar3 != 3)=false:=by simp[hk]
   have hcb:(if (!bC x)=true then e else 0)=cd:=by
    rw[Ah.af,<-Ik];simp[hk]
   have hwn:=fun w=>lQ w (!bC x) e
   rw[hcb]at hwn;have iR:=aj hwn;clear hwn hcb hk;go_wp2_with fail;refine(yA.af w4).mono ?_;rintro r w5 ⟨rfl,hb5⟩;have Hb5:=aj hb5;have qo:=aj (sS.af.below (by have:=qH.af.step.size;omega) hb5);clear hb5;go_wp2_with fail;refine(iR.af _).mono ?_;rintro r w9 ⟨rfl,rfl⟩;go_wp2;go_ret;exact⟨_,rfl,qo.af,qH.af.trans (aU.below Hb5.af)⟩
  ·have hb1:(x.ar3==3)=false:=by simp[hk]
   have hb2:(x.ar3 != 3)=true:=by simp[hk]
   have hcb:(if true=true then e else 0)=cd:=by
    rw[Ah.af,<-Ik];simp[hk]
   have hwn:=fun w=>lQ w true e
   rw[hcb]at hwn;have iR:=aj hwn;clear hwn hcb hk;go_wp2_with fail;refine(iR.af _).mono ?_;rintro r w9 ⟨rfl,rfl⟩;go_wp2;go_ret;exact⟨_,rfl,sS.af,qH.af⟩
theorem adJ (arT aG:List UInt8) (e:Int) (hn:gU arT) (hv:gU aG) (hM:gM B pb w sv s v p) (hB:B<=w) (hl:p.av.length<=999999):
  Calls asq 121 #[aQ pb,.agg #[ax arT,ax aG,ah 3],ah e] w fun r w'=>∃v',r=.returned (ah (if (!decide (((p.sym s.ar1 arT aG 3).1.av.getD (p.sym s.ar1 arT aG 3).2 iX).ar3∈[3])|| !bC ((p.sym s.ar1 arT aG 3).1.av.getD (p.sym s.ar1 arT aG 3).2 iX))=true then e else 0))/\gM B pb w' sv s v' (p.sym s.ar1 arT aG 3).1/\aU pb v v' w w':=by
 obtain ⟨cd,hcd⟩:=aiG ((if (!decide (((p.sym s.ar1 arT aG 3).1.av.getD (p.sym s.ar1 arT aG 3).2 iX).ar3∈[3])|| !bC ((p.sym s.ar1 arT aG 3).1.av.getD (p.sym s.ar1 arT aG 3).2 iX))=true then e else 0):Int);rw[<-hcd];have DJ:=aj hcd;clear hcd;have j6:=aj hM;have hpl:=hM.lt;have pg:=aj (fun w' (hb:Below w w w')=>wH arT aG (hM.below hB hb) (eG hB hb.size) (eG hl abD));have Gf:lJ (iP s.ar1 arT aG 3):=Dt hn hv ⟨abD,abD⟩;have RN:=aj Gf;have HW:=aj (Io (ar1:=s.ar1) (arT:=arT) (aG:=aG) (ar3:=3) (p:=p));obtain ⟨Q,hQ⟩:=aiG (p.sym s.ar1 arT aG 3);rw[<-hQ]at DJ HW ⊢
 have yN:Hid (Q.1.av.length<=1000000/\Q.2<Q.1.av.length):=aj (by
  rcases HW.af with ⟨i,_,h2,h3⟩ | ⟨_,h2⟩
  ·rw[h2];exact⟨(by omega:p.av.length<=1000000),h3⟩
  ·rw[h2]
   show(p.av++[iP s.ar1 arT aG 3]).length<=1000000/\p.av.length<(p.av++[iP s.ar1 arT aG 3]).length;rw[Kk];simp;omega)
 have BO:=aj (ah2 w (aB #[ax arT,ax aG,ah 3] 197));have B0:=aj ((PZ w.heap.size w).alloc (oD _) (aB #[ax arT,ax aG,ah 3] 197));have wJ:w.heap.size<(w.alloc (aB #[ax arT,ax aG,ah 3] 197)):=arG;clear hM hQ Gf hn hv;go_enter Tryz.func121,Tryz.ntmps121;go_upto_region 1 with fail
 generalize w.alloc (aB #[ax arT,ax aG,ah 3] 197)=w1 at *;have a0:w1.cell? (ak w 0)=some (ax arT):=aL BO.af rfl;have a1:w1.cell? (ak w 1)=some (ax aG):=aL BO.af rfl;go_wp2_with fail;refine(pg.af w1 B0.af).mono ?_;rintro r w2 ⟨rfl,hb2⟩;have ve:=aj ((hb2.block w.heap.size wJ).trans BO.af);have B2:=aj (B0.af.trans (hb2.mono (qx wJ)));have hlt2:w.heap.size<w2:=by have:=hb2.size;omega
 obtain ⟨mk,hmk⟩:=aiG (oM arT aG p.av);rw[<-hmk];have yO:=aj hmk;clear hmk hb2 pg BO B0 a0 a1;go_upto_if 18 with fail
 go_cut [7]from 8 to 54 (fun k wx=>k=ah (Q.2:Int)/\∃v1,gM B pb wx sv s v1 Q.1/\aU pb v v1 w wx/\wx.heap[w.heap.size]? =some (aB #[ax arT,ax aG,ah 3] 197)/\w.heap.size<wx)
 case first=>
  have HM:=aj (j6.af.below hB B2.af);have hB0:=hB;replace hB:B<=w2:=eG hB B2.af.size;rcases HW.af with ⟨i,h1,h2,h3⟩ | ⟨h1,h2⟩
  ·have hm:mk=(i:Int):=yO.af.trans (oN h1)
   have hd:decide ((i:Int)<0)=false:=by rw[arN];omega
   have H2:=aj h2;subst hm;clear h1 h2 HW yO;go_wp2_with fail;go_meet;exact⟨by rw[H2.af],v,by rw[H2.af];exact HM.af,aU.below B2.af,ve.af,hlt2⟩
  ·have hm:mk= -1:=yO.af.trans (BN h1)
   have H2:=aj h2;subst hm;obtain⟨jT,jU,hf⟩:=HM.af.av.form;have c_:=HM.af.c9;rw[hf]at c_;have mg:=aj hf;have iZ:Hid (∀g,v.av.ownBlock=some g->g<w.heap.size):=aj (fun g hg=>(j6.af.av.lt g hg).2);obtain ⟨n,hn⟩:=aiG p.av.length;have Hn:=aj hn;rw[<-hn]at c_ mg hl;have hal:(Value.slice jT n jU).ownBlock≠some w.heap.size:=fun e=>by have:=iZ.af w.heap.size (by rw[mg.af];exact e);omega
   clear h1 h2 HW yO hf hn;have a0:w2.cell? (ak w 0)=some (ax arT):=aL ve.af rfl;have a1:w2.cell? (ak w 1)=some (ax aG):=aL ve.af rfl;have a2:w2.cell? (ak w 2)=some (ah 3):=aL ve.af rfl;go_upto_region 8 with fail
   have OO:=HM.af.lt;have TP:=aj (HM.af.av.fJ ig (E':=fun _=>False) (fun _ _ h=>h));refine bA 17 TA TA ?_;simp only[ji];refine P8 (S:=fun w':World=>w'.cell? (ak pb 9)=some (.slice jT n jU)/\w'.cell? (ak w 0)=some (ax arT)/\w'.cell? (ak w 1)=some (ax aG)) _ _ _ _ ?_;have ay:(fun w':World=>w'.cell? (ak pb 9)=some (.slice jT n jU)/\w'.cell? (ak w 0)=some (ax arT)/\w'.cell? (ak w 1)=some (ax aG)) (World.drew w2):=⟨c_,a0,a1⟩;refine asr ?_;have rG:=aj (HM.af.below hB ((PZ w2.heap.size w2).drew));have TQ:=aj (aU.below (pb:=pb) (v:=v) ((PZ w2.heap.size w2).drew));have hBd:B<=(World.drew w2):=hB;have hzd:w2.heap.size<=(World.drew w2):=oD _;clear TP;generalize (World.drew w2)=wd at *;refine arO [0,1,2,3,4,5,6,7,8,9,10,11,12] ay ?_;simp only[ast]
   iterate 13 (refine arP ?_;try simp only[bP])
   refine cO 13 fun K hK=> ?_
   go_simp;refine(Il arT rG.af).mono ?_;rintro r wq ⟨rfl,hwq⟩;rw[hwq];clear hwq wq;refine hK.af _ _ ay (fun ay=> ?_);clear hK K;try simp only[bV]
   refine arO [14] ay ?_;simp only[ast]
   iterate 1 (refine arP ?_;try simp only[bP])
   have ko:=aj (rG.af.below hBd ((PZ _ wd).alloc (oD _) (aB #[ax arT,ax aG,.bool false,ah 3,.bool (decide (arT∈s.ar1)),ah 0,.bool false,ah 0,ah 0] 54)));have JQ:=aj (TQ.af.trans (aU.below (pb:=pb) (v:=v) ((PZ _ wd).alloc (oD _) (aB #[ax arT,ax aG,.bool false,ah 3,.bool (decide (arT∈s.ar1)),ah 0,.bool false,ah 0,ah 0] 54))));have NN:=aj (ah2 wd (aB #[ax arT,ax aG,.bool false,ah 3,.bool (decide (arT∈s.ar1)),ah 0,.bool false,ah 0,ah 0] 54));have zn:B<=(wd.alloc (aB #[ax arT,ax aG,.bool false,ah 3,.bool (decide (arT∈s.ar1)),ah 0,.bool false,ah 0,ah 0] 54)).heap.size:=by simp;omega
   have adG:wd.heap.size<(wd.alloc (aB #[ax arT,ax aG,.bool false,ah 3,.bool (decide (arT∈s.ar1)),ah 0,.bool false,ah 0,ah 0] 54)).heap.size:=arG;refine cO 15 fun K hK=> ?_
   go_simp;refine hK.af _ _ ⟨dB ay.1,dB ay.2.1,dB ay.2.2⟩ (fun ay=> ?_);clear hK K;try simp only[bV]
   generalize wd.alloc (aB #[ax arT,ax aG,.bool false,ah 3,.bool (decide (arT∈s.ar1)),ah 0,.bool false,ah 0,ah 0] 54)=wn at *;have pq:Hid (gq.R (fun b=>b<wn/\¬False/\(Value.slice jT n jU).ownBlock≠some b) wn (iP s.ar1 arT aG 3) [ax arT,ax aG,.bool false,ah 3,.bool (decide (arT∈s.ar1)),ah 0,.bool false,ah 0,ah 0]):=aj ⟨rfl,RN.af⟩
   have wI:Hid (∀u∈([ax arT,ax aG,.bool false,.int .i64 3,.bool (decide (arT∈s.ar1)),.int .i64 0,.bool false,.int .i64 0,.int .i64 0]:List Value),u.oneCell'=true):=aj (by
    intro u hu;simp only[Y1,nW,or_false]at hu;rcases hu with rfl | rfl | rfl | rfl | rfl | rfl | rfl | rfl | rfl<;>rfl)
   have AO:=aj (ko.af.av.fJ ig (E':=fun _=>False) (fun _ _ h=>h));rw[mg.af]at AO;have hpn:(Value.slice jT n jU).ownBlock≠some pb:=fun e=>ko.af.av.notE pb (by rw[mg.af];exact e) (aH rfl)
   refine cO 16 fun K hK=> ?_
   rw[if_pos (by rfl)];simp only[rz];refine lV (K:=gq) (v:=.slice jT n jU) (e:=54) (B:=B) (E:=fun _=>False) 32 (.agg arQ) 88 Tryz.underlying32 yE rfl abD (.tmp 34) (.tmp 45) rfl n Hn.af.symm rfl AO.af (fun b hb=>hb.elim) wd.heap.size (iP s.ar1 arT aG 3) [ax arT,ax aG,.bool false,ah 3,.bool (decide (arT∈s.ar1)),ah 0,.bool false,ah 0,ah 0] rfl (aD NN.af) wI.af pq.af (by have:=Hn.af.symm;omega) (by have:=Hn.af.symm;omega) zn ?_;rintro g7 c7 w7 fG hs7 uf wK;have hx7:=(hs7.block pb ⟨ko.af.lt,hpn⟩).trans ko.af.ex;have jK:=aj hx7
   have HR:=aj (ko.af.Aw (u:=.slice (some ⟨g7,0,none⟩) (n+1) c7) (by rw[mg.af];exact hs7) fG (fun b hb=>by
    rw[mg.af];by_cases h1:(Value.slice jT n jU).ownBlock=some b
    ·exact aH h1
    ·right
     rcases oG b wn.heap.size with h2 | h2
     ·exact absurd (qY hb).symm (wK b h2 h1)
     ·exact h2))
   refine hK.af _ _ ⟨(hs7.cell (p:=(ak pb 9)) ⟨ko.af.lt,hpn⟩).trans ay.1,(hs7.cell (p:=(ak w 0)) ⟨by show w.heap.size<_;omega,hal⟩).trans ay.2.1,(hs7.cell (p:=(ak w 1)) ⟨by show w.heap.size<_;omega,hal⟩).trans ay.2.2⟩ (fun ay=> ?_);clear hK K fG hs7 uf wK hx7;try simp only[bV]
   refine E5 TA ?_ _;simp only[dU];have cs_:=ay.1;have fz_:w7.frozen? (ak pb 9)=false:=vV jK.af 9;clear ay;have k9:(w7.setCell ⟨pb,9,none⟩ (.slice (some ⟨g7,0,none⟩) (n+1) c7)).cell? (ak pb 9)=some (.slice (some ⟨g7,0,none⟩) (n+1) c7):=HR.af.1.c9;have Gg:=aj (JQ.af.trans HR.af.2);have FA9:=aj ((Gg.af.step.block w.heap.size ⟨hlt2,wP,fun h=>by have:=(j6.af.qf h).2.1;omega⟩).trans ve.af);have OQ:=Gg.af.step.size;go_wp2_with fail;go_meet;exact⟨by rw[H2.af];have:=Hn.af;go_num,_,by rw[H2.af];exact HR.af.1,(aU.below B2.af).trans Gg.af,FA9.af,wP⟩
 case rest=>
  obtain⟨rfl,v1,hM1,hs1,hA1,hlt1⟩:=hcut;rename World=>w3
  obtain⟨jT,b,off,jU,hf,hm,_,hat⟩:=hM1.av.lb.at;have c9:=hM1.c9;rw[hf]at c9;obtain⟨x,hx⟩:∃x,Q.1.av[Q.2]? =some x:=⟨_,gP yN.af.2⟩;have hxd:Q.1.av.getD Q.2 iX=x:=by rw[tK,hx];rfl
  obtain⟨Ag,g0,g1,g2,g3,g4,g5,g6,g7,g8⟩:=hat.rR Q.2 x hx;obtain rfl:=hat.addr (by have:=yN.af.2;omega);have aiF:=aj Ag;have yA:=aj (fun w=>xK w x Ag);have Ah:=aj DJ.af;rw[hxd]at Ah;obtain ⟨q,hq⟩:=aiG Q.2;obtain ⟨n,hn⟩:=aiG Q.1.av.length;have hqn:q<n:=by have:=yN.af.2;omega
  have hn1:n<=1000000:=by have:=yN.af.1;omega
  have hqi:(q:Int)<(n:Int):=wP;rw[<-hn]at c9 hm;rw[<-hq]at g0 g1 g2 g3 g4 g5 g6 g7 g8 ⊢;have iU:=aj hM1;have kM:=aj hs1;have HA1:=aj hA1;have hB1:B<=w3:=wP;clear hM1 hs1 hA1 hf hat hx hxd Ag hq hn DJ yN HW yO ve B2;have Gh:=aj (ah2 w3 (aB arQ 54));go_upto_region 11 with (refine Bv rfl 54 (.tmp 9) (.tmp 61) rfl w3.heap.size (#[ax x.arT,ax x.asc,.bool x.old,.int .i64 x.ar3,.bool x.ar1,.int .i64 x.bq,.bool x.asg,.int .i64 x.value,.int .i64 x.size]) rfl rfl _ _ Gh.af TA rfl (by simp[Value.oneCell']) ?_)
  have FT:=aj (TL _ w3.heap.size _ ((arK x)) _ _ Gh.af);have hb4:Below w3 w3 ((w3.alloc (aB arQ 54)).setRow w3.heap.size ((arK x))):=((Step.of_below ((PZ _ w3).alloc (oD _) (aB arQ 54))).trans ((show Step (fun c=>c≠w3.heap.size) (w3.alloc (aB arQ 54)) ((w3.alloc (aB arQ 54)).setRow w3.heap.size ((arK x)))from⟨rfl,rfl,rfl,arG,fun c hc=>cu _ _ _ _ hc⟩).imp (fun c h=>by have h:c<w3:=h;show c≠_;omega))).below;have sS:=aj (iU.af.below hB1 hb4);have qH:=aj (kM.af.trans (aU.below hb4));have JR:=aj ((hb4.block w.heap.size hlt1).trans HA1.af);clear hb4 iU kM HA1 Gh g0 g1 g2 g3 g4 g5 g6 g7 g8 c9;generalize (w3.alloc (aB arQ 54)).setRow w3.heap.size ((arK x))=w4 at *;generalize w3.heap.size=sb at *;have a2:w4.cell? (ak w 2)=some (ah 3):=aL JR.af rfl;have e0:w4.cell? (ak sb 0)=some (ax x.arT):=aL FT.af rfl;have e1:w4.cell? (ak sb 1)=some (ax x.asc):=aL FT.af rfl;have e2:w4.cell? (ak sb 2)=some (.bool x.old):=aL FT.af rfl;have e3:w4.cell? (ak sb 3)=some (ah x.ar3):=aL FT.af rfl;have e4:w4.cell? (ak sb 4)=some (.bool x.ar1):=aL FT.af rfl;have e5:w4.cell? (ak sb 5)=some (ah x.bq):=aL FT.af rfl;have e6:w4.cell? (ak sb 6)=some (.bool x.asg):=aL FT.af rfl;have e7:w4.cell? (ak sb 7)=some (ah x.value):=aL FT.af rfl;have e8:w4.cell? (ak sb 8)=some (ah x.size):=aL FT.af rfl;by_cases hk:x.ar3=3
  ·have hb1:(x.ar3==3)=true:=by simp[hk]
   have hb2:(x.ar3 != 3)=false:=by simp[hk]
   have hcb:(if (!bC x)=true then e else 0)=cd:=by
    rw[Ah.af,<-Ik];simp[hk]
   have hwn:=fun w=>lQ w (!bC x) e
   rw[hcb]at hwn;have iR:=aj hwn;clear hwn hcb hk;go_wp2_with fail;refine(yA.af w4).mono ?_;rintro r w5 ⟨rfl,hb5⟩;have Hb5:=aj hb5;have qo:=aj (sS.af.below (by have:=qH.af.step.size;omega) hb5);clear hb5;go_wp2_with fail;refine(iR.af _).mono ?_;rintro r w9 ⟨rfl,rfl⟩;go_wp2;go_ret;exact⟨_,rfl,qo.af,qH.af.trans (aU.below Hb5.af)⟩
  ·have hb1:(x.ar3==3)=false:=by simp[hk]
   have hb2:(x.ar3 != 3)=true:=by simp[hk]
   have hcb:(if true=true then e else 0)=cd:=by
    rw[Ah.af,<-Ik];simp[hk]
   have hwn:=fun w=>lQ w true e
   rw[hcb]at hwn;have iR:=aj hwn;clear hwn hcb hk;go_wp2_with fail;refine(iR.af _).mono ?_;rintro r w9 ⟨rfl,rfl⟩;go_wp2;go_ret;exact⟨_,rfl,sS.af,qH.af⟩
theorem adK (arT aG:List UInt8) (e:Int) (hn:gU arT) (hv:gU aG) (hM:gM B pb w sv s v p) (hB:B<=w) (hl:p.av.length<=999999):
  Calls asq 121 #[aQ pb,.agg #[ax arT,ax aG,ah 4],ah e] w fun r w'=>∃v',r=.returned (ah (if (!decide (((p.sym s.ar1 arT aG 2).1.av.getD (p.sym s.ar1 arT aG 2).2 iX).ar3∈[2,1])|| !bC ((p.sym s.ar1 arT aG 2).1.av.getD (p.sym s.ar1 arT aG 2).2 iX))=true then e else 0))/\gM B pb w' sv s v' (p.sym s.ar1 arT aG 2).1/\aU pb v v' w w':=by
 obtain ⟨cd,hcd⟩:=aiG ((if (!decide (((p.sym s.ar1 arT aG 2).1.av.getD (p.sym s.ar1 arT aG 2).2 iX).ar3∈[2,1])|| !bC ((p.sym s.ar1 arT aG 2).1.av.getD (p.sym s.ar1 arT aG 2).2 iX))=true then e else 0):Int);rw[<-hcd];have DJ:=aj hcd;clear hcd;have j6:=aj hM;have hpl:=hM.lt;have pg:=aj (fun w' (hb:Below w w w')=>wH arT aG (hM.below hB hb) (eG hB hb.size) (eG hl abD));have Gf:lJ (iP s.ar1 arT aG 2):=Dt hn hv ⟨abD,abD⟩;have RN:=aj Gf;have HW:=aj (Io (ar1:=s.ar1) (arT:=arT) (aG:=aG) (ar3:=2) (p:=p));obtain ⟨Q,hQ⟩:=aiG (p.sym s.ar1 arT aG 2);rw[<-hQ]at DJ HW ⊢
 have yN:Hid (Q.1.av.length<=1000000/\Q.2<Q.1.av.length):=aj (by
  rcases HW.af with ⟨i,_,h2,h3⟩ | ⟨_,h2⟩
  ·rw[h2];exact⟨(by omega:p.av.length<=1000000),h3⟩
  ·rw[h2]
   show(p.av++[iP s.ar1 arT aG 2]).length<=1000000/\p.av.length<(p.av++[iP s.ar1 arT aG 2]).length;rw[Kk];simp;omega)
 have BO:=aj (ah2 w (aB #[ax arT,ax aG,ah 4] 197));have B0:=aj ((PZ w.heap.size w).alloc (oD _) (aB #[ax arT,ax aG,ah 4] 197));have wJ:w.heap.size<(w.alloc (aB #[ax arT,ax aG,ah 4] 197)):=arG;clear hM hQ Gf hn hv;go_enter Tryz.func121,Tryz.ntmps121;go_upto_region 1 with fail
 generalize w.alloc (aB #[ax arT,ax aG,ah 4] 197)=w1 at *;have a0:w1.cell? (ak w 0)=some (ax arT):=aL BO.af rfl;have a1:w1.cell? (ak w 1)=some (ax aG):=aL BO.af rfl;go_wp2_with fail;refine(pg.af w1 B0.af).mono ?_;rintro r w2 ⟨rfl,hb2⟩;have ve:=aj ((hb2.block w.heap.size wJ).trans BO.af);have B2:=aj (B0.af.trans (hb2.mono (qx wJ)));have hlt2:w.heap.size<w2:=by have:=hb2.size;omega
 obtain ⟨mk,hmk⟩:=aiG (oM arT aG p.av);rw[<-hmk];have yO:=aj hmk;clear hmk hb2 pg BO B0 a0 a1;go_upto_if 18 with fail
 go_cut [7]from 8 to 54 (fun k wx=>k=ah (Q.2:Int)/\∃v1,gM B pb wx sv s v1 Q.1/\aU pb v v1 w wx/\wx.heap[w.heap.size]? =some (aB #[ax arT,ax aG,ah 4] 197)/\w.heap.size<wx)
 case first=>
  have HM:=aj (j6.af.below hB B2.af);have hB0:=hB;replace hB:B<=w2:=eG hB B2.af.size;rcases HW.af with ⟨i,h1,h2,h3⟩ | ⟨h1,h2⟩
  ·have hm:mk=(i:Int):=yO.af.trans (oN h1)
   have hd:decide ((i:Int)<0)=false:=by rw[arN];omega
   have H2:=aj h2;subst hm;clear h1 h2 HW yO;go_wp2_with fail;go_meet;exact⟨by rw[H2.af],v,by rw[H2.af];exact HM.af,aU.below B2.af,ve.af,hlt2⟩
  ·have hm:mk= -1:=yO.af.trans (BN h1)
   have H2:=aj h2;subst hm;obtain⟨jT,jU,hf⟩:=HM.af.av.form;have c_:=HM.af.c9;rw[hf]at c_;have mg:=aj hf;have iZ:Hid (∀g,v.av.ownBlock=some g->g<w.heap.size):=aj (fun g hg=>(j6.af.av.lt g hg).2);obtain ⟨n,hn⟩:=aiG p.av.length;have Hn:=aj hn;rw[<-hn]at c_ mg hl;have hal:(Value.slice jT n jU).ownBlock≠some w.heap.size:=fun e=>by have:=iZ.af w.heap.size (by rw[mg.af];exact e);omega
   clear h1 h2 HW yO hf hn;have a0:w2.cell? (ak w 0)=some (ax arT):=aL ve.af rfl;have a1:w2.cell? (ak w 1)=some (ax aG):=aL ve.af rfl;have a2:w2.cell? (ak w 2)=some (ah 4):=aL ve.af rfl;go_upto_region 8 with fail
   have OO:=HM.af.lt;have TP:=aj (HM.af.av.fJ ig (E':=fun _=>False) (fun _ _ h=>h));refine bA 17 TA TA ?_;simp only[ji];refine P8 (S:=fun w':World=>w'.cell? (ak pb 9)=some (.slice jT n jU)/\w'.cell? (ak w 0)=some (ax arT)/\w'.cell? (ak w 1)=some (ax aG)) _ _ _ _ ?_;have ay:(fun w':World=>w'.cell? (ak pb 9)=some (.slice jT n jU)/\w'.cell? (ak w 0)=some (ax arT)/\w'.cell? (ak w 1)=some (ax aG)) (World.drew w2):=⟨c_,a0,a1⟩;refine asr ?_;have rG:=aj (HM.af.below hB ((PZ w2.heap.size w2).drew));have TQ:=aj (aU.below (pb:=pb) (v:=v) ((PZ w2.heap.size w2).drew));have hBd:B<=(World.drew w2):=hB;have hzd:w2.heap.size<=(World.drew w2):=oD _;clear TP;generalize (World.drew w2)=wd at *;refine arO [0,1,2,3,4,5,6,7,8,9,10,11,12] ay ?_;simp only[ast]
   iterate 13 (refine arP ?_;try simp only[bP])
   refine cO 13 fun K hK=> ?_
   go_simp;refine(Il arT rG.af).mono ?_;rintro r wq ⟨rfl,hwq⟩;rw[hwq];clear hwq wq;refine hK.af _ _ ay (fun ay=> ?_);clear hK K;try simp only[bV]
   refine arO [14] ay ?_;simp only[ast]
   iterate 1 (refine arP ?_;try simp only[bP])
   have ko:=aj (rG.af.below hBd ((PZ _ wd).alloc (oD _) (aB #[ax arT,ax aG,.bool false,ah 2,.bool (decide (arT∈s.ar1)),ah 0,.bool false,ah 0,ah 0] 54)));have JQ:=aj (TQ.af.trans (aU.below (pb:=pb) (v:=v) ((PZ _ wd).alloc (oD _) (aB #[ax arT,ax aG,.bool false,ah 2,.bool (decide (arT∈s.ar1)),ah 0,.bool false,ah 0,ah 0] 54))));have NN:=aj (ah2 wd (aB #[ax arT,ax aG,.bool false,ah 2,.bool (decide (arT∈s.ar1)),ah 0,.bool false,ah 0,ah 0] 54));have zn:B<=(wd.alloc (aB #[ax arT,ax aG,.bool false,ah 2,.bool (decide (arT∈s.ar1)),ah 0,.bool false,ah 0,ah 0] 54)).heap.size:=by simp;omega
   have adG:wd.heap.size<(wd.alloc (aB #[ax arT,ax aG,.bool false,ah 2,.bool (decide (arT∈s.ar1)),ah 0,.bool false,ah 0,ah 0] 54)).heap.size:=arG;refine cO 15 fun K hK=> ?_
   go_simp;refine hK.af _ _ ⟨dB ay.1,dB ay.2.1,dB ay.2.2⟩ (fun ay=> ?_);clear hK K;try simp only[bV]
   generalize wd.alloc (aB #[ax arT,ax aG,.bool false,ah 2,.bool (decide (arT∈s.ar1)),ah 0,.bool false,ah 0,ah 0] 54)=wn at *;have pq:Hid (gq.R (fun b=>b<wn/\¬False/\(Value.slice jT n jU).ownBlock≠some b) wn (iP s.ar1 arT aG 2) [ax arT,ax aG,.bool false,ah 2,.bool (decide (arT∈s.ar1)),ah 0,.bool false,ah 0,ah 0]):=aj ⟨rfl,RN.af⟩
   have wI:Hid (∀u∈([ax arT,ax aG,.bool false,.int .i64 2,.bool (decide (arT∈s.ar1)),.int .i64 0,.bool false,.int .i64 0,.int .i64 0]:List Value),u.oneCell'=true):=aj (by
    intro u hu;simp only[Y1,nW,or_false]at hu;rcases hu with rfl | rfl | rfl | rfl | rfl | rfl | rfl | rfl | rfl<;>rfl)
   have AO:=aj (ko.af.av.fJ ig (E':=fun _=>False) (fun _ _ h=>h));rw[mg.af]at AO;have hpn:(Value.slice jT n jU).ownBlock≠some pb:=fun e=>ko.af.av.notE pb (by rw[mg.af];exact e) (aH rfl)
   refine cO 16 fun K hK=> ?_
   rw[if_pos (by rfl)];simp only[rz];refine lV (K:=gq) (v:=.slice jT n jU) (e:=54) (B:=B) (E:=fun _=>False) 32 (.agg arQ) 88 Tryz.underlying32 yE rfl abD (.tmp 34) (.tmp 45) rfl n Hn.af.symm rfl AO.af (fun b hb=>hb.elim) wd.heap.size (iP s.ar1 arT aG 2) [ax arT,ax aG,.bool false,ah 2,.bool (decide (arT∈s.ar1)),ah 0,.bool false,ah 0,ah 0] rfl (aD NN.af) wI.af pq.af (by have:=Hn.af.symm;omega) (by have:=Hn.af.symm;omega) zn ?_;rintro g7 c7 w7 fG hs7 uf wK;have hx7:=(hs7.block pb ⟨ko.af.lt,hpn⟩).trans ko.af.ex;have jK:=aj hx7
   have HR:=aj (ko.af.Aw (u:=.slice (some ⟨g7,0,none⟩) (n+1) c7) (by rw[mg.af];exact hs7) fG (fun b hb=>by
    rw[mg.af];by_cases h1:(Value.slice jT n jU).ownBlock=some b
    ·exact aH h1
    ·right
     rcases oG b wn.heap.size with h2 | h2
     ·exact absurd (qY hb).symm (wK b h2 h1)
     ·exact h2))
   refine hK.af _ _ ⟨(hs7.cell (p:=(ak pb 9)) ⟨ko.af.lt,hpn⟩).trans ay.1,(hs7.cell (p:=(ak w 0)) ⟨by show w.heap.size<_;omega,hal⟩).trans ay.2.1,(hs7.cell (p:=(ak w 1)) ⟨by show w.heap.size<_;omega,hal⟩).trans ay.2.2⟩ (fun ay=> ?_);clear hK K fG hs7 uf wK hx7;try simp only[bV]
   refine E5 TA ?_ _;simp only[dU];have cs_:=ay.1;have fz_:w7.frozen? (ak pb 9)=false:=vV jK.af 9;clear ay;have k9:(w7.setCell ⟨pb,9,none⟩ (.slice (some ⟨g7,0,none⟩) (n+1) c7)).cell? (ak pb 9)=some (.slice (some ⟨g7,0,none⟩) (n+1) c7):=HR.af.1.c9;have Gg:=aj (JQ.af.trans HR.af.2);have FA9:=aj ((Gg.af.step.block w.heap.size ⟨hlt2,wP,fun h=>by have:=(j6.af.qf h).2.1;omega⟩).trans ve.af);have OQ:=Gg.af.step.size;go_wp2_with fail;go_meet;exact⟨by rw[H2.af];have:=Hn.af;go_num,_,by rw[H2.af];exact HR.af.1,(aU.below B2.af).trans Gg.af,FA9.af,wP⟩
 case rest=>
  obtain⟨rfl,v1,hM1,hs1,hA1,hlt1⟩:=hcut;rename World=>w3
  obtain⟨jT,b,off,jU,hf,hm,_,hat⟩:=hM1.av.lb.at;have c9:=hM1.c9;rw[hf]at c9;obtain⟨x,hx⟩:∃x,Q.1.av[Q.2]? =some x:=⟨_,gP yN.af.2⟩;have hxd:Q.1.av.getD Q.2 iX=x:=by rw[tK,hx];rfl
  obtain⟨Ag,g0,g1,g2,g3,g4,g5,g6,g7,g8⟩:=hat.rR Q.2 x hx;obtain rfl:=hat.addr (by have:=yN.af.2;omega);have aiF:=aj Ag;have yA:=aj (fun w=>xK w x Ag);have Ah:=aj DJ.af;rw[hxd]at Ah;obtain ⟨q,hq⟩:=aiG Q.2;obtain ⟨n,hn⟩:=aiG Q.1.av.length;have hqn:q<n:=by have:=yN.af.2;omega
  have hn1:n<=1000000:=by have:=yN.af.1;omega
  have hqi:(q:Int)<(n:Int):=wP;rw[<-hn]at c9 hm;rw[<-hq]at g0 g1 g2 g3 g4 g5 g6 g7 g8 ⊢;have iU:=aj hM1;have kM:=aj hs1;have HA1:=aj hA1;have hB1:B<=w3:=wP;clear hM1 hs1 hA1 hf hat hx hxd Ag hq hn DJ yN HW yO ve B2;have Gh:=aj (ah2 w3 (aB arQ 54));go_upto_region 11 with (refine Bv rfl 54 (.tmp 9) (.tmp 61) rfl w3.heap.size (#[ax x.arT,ax x.asc,.bool x.old,.int .i64 x.ar3,.bool x.ar1,.int .i64 x.bq,.bool x.asg,.int .i64 x.value,.int .i64 x.size]) rfl rfl _ _ Gh.af TA rfl (by simp[Value.oneCell']) ?_)
  have FT:=aj (TL _ w3.heap.size _ ((arK x)) _ _ Gh.af);have hb4:Below w3 w3 ((w3.alloc (aB arQ 54)).setRow w3.heap.size ((arK x))):=((Step.of_below ((PZ _ w3).alloc (oD _) (aB arQ 54))).trans ((show Step (fun c=>c≠w3.heap.size) (w3.alloc (aB arQ 54)) ((w3.alloc (aB arQ 54)).setRow w3.heap.size ((arK x)))from⟨rfl,rfl,rfl,arG,fun c hc=>cu _ _ _ _ hc⟩).imp (fun c h=>by have h:c<w3:=h;show c≠_;omega))).below;have sS:=aj (iU.af.below hB1 hb4);have qH:=aj (kM.af.trans (aU.below hb4));have JR:=aj ((hb4.block w.heap.size hlt1).trans HA1.af);clear hb4 iU kM HA1 Gh g0 g1 g2 g3 g4 g5 g6 g7 g8 c9;generalize (w3.alloc (aB arQ 54)).setRow w3.heap.size ((arK x))=w4 at *;generalize w3.heap.size=sb at *;have a2:w4.cell? (ak w 2)=some (ah 4):=aL JR.af rfl;have e0:w4.cell? (ak sb 0)=some (ax x.arT):=aL FT.af rfl;have e1:w4.cell? (ak sb 1)=some (ax x.asc):=aL FT.af rfl;have e2:w4.cell? (ak sb 2)=some (.bool x.old):=aL FT.af rfl;have e3:w4.cell? (ak sb 3)=some (ah x.ar3):=aL FT.af rfl;have e4:w4.cell? (ak sb 4)=some (.bool x.ar1):=aL FT.af rfl;have e5:w4.cell? (ak sb 5)=some (ah x.bq):=aL FT.af rfl;have e6:w4.cell? (ak sb 6)=some (.bool x.asg):=aL FT.af rfl;have e7:w4.cell? (ak sb 7)=some (ah x.value):=aL FT.af rfl;have e8:w4.cell? (ak sb 8)=some (ah x.size):=aL FT.af rfl;by_cases hk:x.ar3=3
  ·have hb1:(x.ar3==3)=true:=by simp[hk]
   have hb2:(x.ar3 != 3)=false:=by simp[hk]
   have hcb:(if true=true then e else 0)=cd:=by
    rw[Ah.af,<-aaC];simp[hk]
   have hwn:=fun w=>lQ w true e
   rw[hcb]at hwn;have iR:=aj hwn;clear hwn hcb hk;go_wp2_with fail;refine(iR.af _).mono ?_;rintro r w9 ⟨rfl,rfl⟩;go_wp2;go_ret;exact⟨_,rfl,sS.af,qH.af⟩
  ·have hb1:(x.ar3==3)=false:=by simp[hk]
   have hb2:(x.ar3 != 3)=true:=by simp[hk]
   have hcb:(if (!bC x)=true then e else 0)=cd:=by
    rw[Ah.af,<-aaC];simp[hk]
   have hwn:=fun w=>lQ w (!bC x) e
   rw[hcb]at hwn;have iR:=aj hwn;clear hwn hcb hk;go_wp2_with fail;refine(yA.af w4).mono ?_;rintro r w5 ⟨rfl,hb5⟩;have Hb5:=aj hb5;have qo:=aj (sS.af.below (by have:=qH.af.step.size;omega) hb5);clear hb5;go_wp2_with fail;refine(iR.af _).mono ?_;rintro r w9 ⟨rfl,rfl⟩;go_wp2;go_ret;exact⟨_,rfl,qo.af,qH.af.trans (aU.below Hb5.af)⟩
theorem ahc (arT aG:List UInt8) (fr e:Int) (hfr:fr=1∨fr=2∨fr=3∨fr=4) (hn:gU arT) (hv:gU aG) (hM:gM B pb w sv s v p) (hB:B<=w) (hl:p.av.length<=999999):
  Calls asq 121 #[aQ pb,.agg #[ax arT,ax aG,ah fr],ah e] w fun r w'=>∃code v',r=.returned (ah code)/\fF p (p.asked s.ar1 arT aG e (iC fr)).1 code/\gM B pb w' sv s v' (p.asked s.ar1 arT aG e (iC fr)).1/\aU pb v v' w w':=by
 have key:∀(ks:List Int) (r:Ending) (w':World),(∃v',r=.returned (ah (if (!decide (((p.sym s.ar1 arT aG (ks.headD 0)).1.av.getD (p.sym s.ar1 arT aG (ks.headD 0)).2 iX).ar3∈ks)|| !bC ((p.sym s.ar1 arT aG (ks.headD 0)).1.av.getD (p.sym s.ar1 arT aG (ks.headD 0)).2 iX))=true then e else 0))/\gM B pb w' sv s v' (p.sym s.ar1 arT aG (ks.headD 0)).1/\aU pb v v' w w')->
   ∃code v',r=.returned (ah code)/\fF p (p.asked s.ar1 arT aG e ks).1 code/\gM B pb w' sv s v' (p.asked s.ar1 arT aG e ks).1/\aU pb v v' w w':=by
  rintro ks r w' ⟨v',rfl,h1,h2⟩;refine⟨_,v',rfl,?_,?_,h2⟩
  ·have h:=BM (p.sym s.ar1 arT aG (ks.headD 0)).1 (!decide (((p.sym s.ar1 arT aG (ks.headD 0)).1.av.getD (p.sym s.ar1 arT aG (ks.headD 0)).2 iX).ar3∈ks)|| !bC ((p.sym s.ar1 arT aG (ks.headD 0)).1.av.getD (p.sym s.ar1 arT aG (ks.headD 0)).2 iX)) e
   rw[Ya];unfold fF at h ⊢;rw[XC]at h;exact h
  ·rw[Ya]
   exact h1.same arG arG arG
 rcases hfr with rfl | rfl | rfl | rfl
 ·exact(adH arT aG e hn hv hM hB hl).mono (key [1])
 ·exact(adI arT aG e hn hv hM hB hl).mono (key [3])
 ·exact(adJ arT aG e hn hv hM hB hl).mono (key [3])
 ·exact(adK arT aG e hn hv hM hB hl).mono (key [2,1])
theorem OT (size:Nat) (n:Int) (i:Nat) (h:i<size):(bD size n).take (i+1)=(bD size n).take i++[UInt8.ofNat ((n%18446744073709551616).toNat/256 ^ i)]:=by
 have hl:i<(bD size n).length:=by rw[dA];exact h
 rw[wC hl]
 congr 2
 simp[bD]
theorem adL (size:Nat) (ns:List Int) (k:Nat) (n:Int) (hn:ns[k]? =some n):numsL size (ns.take (k+1))=numsL size (ns.take k)++bD size n:=by
 obtain⟨h,rfl⟩:=Sm.1 hn;rw[numsL,wC h,A7,List.flatten_append];simp[numsL]
theorem eF (size:Nat) (ns:List Int):(numsL size ns).length=size*ns.length:=by
 induction ns with
 | nil=>simp[numsL]
 | cons n ns ih=>
  have:numsL size (n :: ns)=bD size n++numsL size ns:=by simp[numsL]
  rw[this,Kk,ih,dA,oF,Nat.mul_succ,Nat.add_comm]
theorem Step.later {S:Nat->Prop} {w':World} (h:Below w w w') (hS:∀x,S x->x<w.heap.size):Step S w w':=(Step.of_below h).imp hS
theorem adM (w:World) (ns:List Int) (hl:ns.length<=9223372036854775807):LB dJ (fun x=>x=w.heap.size) (w.alloc (.cells (ns.map (Value.int .i64)).toArray 3 (0,0))) (.slice (some ⟨w.heap.size,0,none⟩) ns.length ns.length) ns:=by
 refine⟨some (ak w 0),w.heap.size,0,_,rfl,hl,fun _=>rfl,⟨oD _,fun h=>by cases h⟩,fun _=>rfl,fun i x hx=>⟨_,rfl,fun j u hu=> ?_⟩⟩
 match j,hu with
 | 0,hu=>
  simp at hu;subst hu;rw[aV (ah2 w _)];simp[dJ,hx]
 | j+1,hu=>simp at hu
theorem adN (w:World) (ss:List (List UInt8)) (hl:ss.length<=9223372036854775807) (hz:∀s∈ss,s.length<=9223372036854775807):LB lG (fun x=>x=w.heap.size) (w.alloc (.cells (ss.map (fun s=>Value.string ⟨s.toArray⟩)).toArray 9 (0,0))) (.slice (some ⟨w.heap.size,0,none⟩) ss.length ss.length) ss:=by
 refine⟨some (ak w 0),w.heap.size,0,_,rfl,hl,fun _=>rfl,⟨oD _,fun h=>by cases h⟩,fun _=>rfl,fun i x hx=>⟨_,⟨rfl,hz x (dH hx)⟩,fun j u hu=> ?_⟩⟩
 match j,hu with
 | 0,hu=>
  simp at hu;subst hu;rw[aV (ah2 w _)];simp[lG,hx]
 | j+1,hu=>simp at hu
theorem ab4 (ss:List (List UInt8)) (k:Nat) (s:List UInt8) (hs:ss[k]? =some s):jH (ss.take (k+1))=jH (ss.take k)++(bD 2 s.length++s):=by
 obtain⟨h,rfl⟩:=Sm.1 hs;rw[jH,wC h,A7,List.flatten_append];simp[jH,pF]
theorem wL (ss:List (List UInt8)) (h:∀s∈ss,s.length<=4096):(jH ss).length<=4098*ss.length:=by
 induction ss with
 | nil=>simp[jH]
 | cons s ss ih=>
  have e:jH (s :: ss)=pF s++jH ss:=by simp[jH]
  have h1:=ih (fun x hx=>h x (by simp[hx]));have h2:=h s arG;rw[e,Kk,oF,pF,Kk,dA];omega
theorem ahd (size:Nat) (n:Int):numsL size [n]=bD size n:=by simp[numsL]
theorem WO {size:Nat} {n:Int} (hs:size=1∨size=2∨size=4∨size=8) (h:nS size n): -9223372036854775808<=n/\n<=9223372036854775807:=by
 have p1:(256:Int) ^ 1=256:=abD;have p2:(256:Int) ^ 2=65536:=abD;have p4:(256:Int) ^ 4=4294967296:=abD;unfold nS at h;rcases hs with rfl | rfl | rfl | rfl
 ·rw[if_neg abD]at h;simp only[p1]at h;omega
 ·rw[if_neg abD]at h;simp only[p2]at h;omega
 ·rw[if_neg abD]at h;simp only[p4]at h;omega
 ·rw[if_pos rfl]at h;omega
theorem all1 {P:Int->Prop} (ha:P a):∀n∈[a],P n:=fun n hn=>by simp at hn;subst hn;exact ha
theorem all2 {P:Int->Prop} (ha:P a) (hb:P b):∀n∈[a,b],P n:=fun n hn=>by
 rcases Y1.1 hn with rfl | hn
 ·exact ha
 ·exact all1 hb n hn
theorem aiH {P:Int->Prop} {c:Int} (ha:P a) (hb:P b) (hc:P c):∀n∈[a,b,c],P n:=fun n hn=>by
 rcases Y1.1 hn with rfl | hn
 ·exact ha
 ·exact all2 hb hc n hn
theorem aoi {P:Int->Prop} {c d:Int} (ha:P a) (hb:P b) (hc:P c) (hd:P d) (he:P e):∀n∈[a,b,c,d,e],P n:=fun n hn=>by
 rcases Y1.1 hn with rfl | hn
 ·exact ha
 ·rcases Y1.1 hn with rfl | hn
  ·exact hb
  ·exact aiH hc hd he n hn
theorem ts1 {P:List UInt8->Prop} {a:List UInt8} (ha:P a):∀n∈[a],P n:=fun n hn=>by simp at hn;subst hn;exact ha
theorem ts2 {P:List UInt8->Prop} {a b:List UInt8} (ha:P a) (hb:P b):∀n∈[a,b],P n:=fun n hn=>by
 rcases Y1.1 hn with rfl | hn
 ·exact ha
 ·exact ts1 hb n hn
theorem Yb {α:Type} (f:α->List UInt8) (m:Nat):∀l:List α,(∀x∈l,(f x).length<=m)->(l.map f).flatten.length<=m*l.length
 | [],_=>arG
 | x :: l,h=>by
  have h1:=Yb f m l (fun y hy=>h y (by simp[hy]));have h2:=h x arG;rw[Sn,List.flatten_cons,Kk,oF,Nat.mul_succ];omega
theorem yP {α:Type} (f:α->List UInt8) (l:List α) (k:Nat) (x:α) (hx:l[k]? =some x):((l.take (k+1)).map f).flatten=((l.take k).map f).flatten++f x:=by
 obtain⟨h,rfl⟩:=Sm.1 hx;rw[wC h,A7,List.flatten_append];simp
theorem qO {α:Type} (f:α->List UInt8) (m n:Nat) (l:List α) (k:Nat) (h:∀x∈l,(f x).length<=m) (hk:k<=n):((l.take k).map f).flatten.length<=m*n:=by
 have h1:=Yb f m (l.take k) (fun x hx=>h x (Ub hx));have h2:=List.length_take_le k l;exact eG h1 (Nat.mul_le_mul_left _ wP)
theorem aiI {s:lS} (h:aj7 s):(Ei s).length<=1048589:=by
 unfold Ei wU;simp only[Kk,dA];have:=h.2.2.2;omega
theorem ahe {n:AX} (h:agP n):(zS n).length<=1053187:=by
 have h1:=wL n.asi h.2.2;have h2:n.asi.length<256:=h.2.1;unfold zS pF;simp only[Kk,dA];have:=h.1;omega
theorem aiJ {s:bF} (h:aj8 s):(Ej s).length<=8217:=by
 unfold Ej pF;simp only[Kk,dA];have:=h.1;have:=h.2.1;omega
theorem adO {c:List Int} (h:mJ 2 c.length):(wV c).length<=131074:=by
 have h2:c.length<65536:=h;unfold wV;simp only[Kk,dA,eF];omega
theorem aiK (r:iE):(El r).length<=25:=by unfold El;simp only[Kk,dA];omega
theorem ahf (r:kV):(zT r).length<=12:=by unfold zT;simp only[Kk,dA];omega
theorem aaI (x:Int):bD 8 (IntKind.i64.wrap x)=bD 8 x:=by
 unfold bD;rw[BX];have:((x+9223372036854775808)%18446744073709551616-9223372036854775808)%18446744073709551616=x%18446744073709551616:=wP;rw[this]
structure Few (im:bK):Prop where
 aI:im.aI.length<=8
 ar6:im.ar6.length<=16
 aF:im.aF.length<=16
 av:im.av.length<=512
 ar9:im.ar9.length<=512
 ar8:im.ar8.length<=64
 aO:im.aO.length<=512
 asf:im.asf.length<=128
 asb:im.asb.length<=8
 aP:im.aP.length<=8
theorem akU {im:bK} (h:kH im=0):Few im:=by
 obtain⟨hh,hg,ht,hs,htb,hr,hsl,hi,hf⟩:=XJ h;simp only[mH,pJ,arI]at hh;simp only[jL,pJ,arI]at hg;simp only[jE,pJ,arI]at hs;simp only[nA,pJ,arI]at htb;simp only[jk,pJ,arI]at hr;simp only[kP,pJ,arI]at hsl;simp only[jr,pJ,arI]at hi hf;have hsv:=htb.1.1.2;simp only[oz,pJ,Bool.or_eq_true,arI]at hsv;exact⟨hg.1.2,hh.1.1.1.2,hh.1.1.2,hs.1,htb.1.1.1.2,wP,hr.1,hsl.1,hi.1,hf.1⟩
def zb (im:bK) (k:Nat):List UInt8:=((([im.asb,im.aP]:List (List Int)).take k).map fun l=>bD 1 l.length++numsL 4 l).flatten
theorem ahg (im:bK) (q:Nat) (h:aj9 im):(zb im q).length<=2050:=by
 have h1:im.asb.length<256:=h.asb.1;have h2:im.aP.length<256:=h.aP.1
 match q with
 | 0=>simp[zb]
 | 1=>simp[zb,dA,eF];omega
 | q+2=>simp[zb,dA,eF];omega
theorem WP (b:Bool):nS 1 (Ad b):=by cases b<;>simp[nS,Ad]
theorem Yc (x:Int):wrap64 x=IntKind.i64.wrap x:=by rw[BX];unfold wrap64;rfl
theorem WQ (x:Int):bD 8 (wrap64 x)=bD 8 x:=by rw[Yc];exact aaI x
theorem aiL (x:Int):nS 8 (wrap64 x):=by unfold nS;rw[if_pos rfl,Yc,BX];omega
theorem Nn (w:World) (n:Nat) (hn:n=1∨n=2∨n=4∨n=8):
  Calls asq 142 #[ah (n:Int)] w fun e w'=>e=.returned (ah (if n=1 then 255 else if n=2 then 65535 else if n=4 then 4294967295 else 0))/\w'=w:=by
 rcases hn with rfl | rfl | rfl | rfl
 all_goals
  go_enter Tryz.func142,Tryz.ntmps142;go_wp2;go_ret;exact⟨rfl,rfl⟩
theorem adP (w:World) (n:Nat) (hn:n=1∨n=2∨n=4∨n=8):
  Calls asq 92 #[ah (n:Int)] w fun e w'=>e=.returned (.bool true)/\w'=w:=by
 have HG:=aj (Nn w n hn);rcases hn with rfl | rfl | rfl | rfl
 case inr.inr.inr=>
  go_enter Tryz.func92,Tryz.ntmps92;go_wp2;go_ret;exact⟨rfl,rfl⟩
 all_goals
  go_enter Tryz.func92,Tryz.ntmps92;go_wp2_with fail;refine HG.af.mono ?_;rintro e w2 ⟨rfl,rfl⟩;go_wp2;go_ret;exact⟨rfl,rfl⟩
theorem ahh (w:World) (n:Nat) (x:Int) (hn:n=1∨n=2∨n=4∨n=8) (hx:nS n x):
  Calls asq 93 #[ah (n:Int),ah x] w fun e w'=>e=.returned (.bool true)/\w'=w:=by
 have p1:(256:Int) ^ 1=256:=abD;have p2:(256:Int) ^ 2=65536:=abD;have p4:(256:Int) ^ 4=4294967296:=abD;have HG:=aj (Nn w n hn);rcases hn with rfl | rfl | rfl | rfl
 case inr.inr.inr=>
  clear hx p1 p2 p4;go_enter Tryz.func93,Tryz.ntmps93;go_wp2;go_ret;exact⟨rfl,rfl⟩
 all_goals
  unfold nS at hx;rw[if_neg abD]at hx;simp only[p1,p2,p4]at hx;obtain⟨h0,h1⟩:=hx;have hd:decide (0<=x)=true:=by rw[arI];exact h0
  clear p1 p2 p4
 ·have hq:decide (x<=255)=true:=by rw[arI];omega
  go_enter Tryz.func93,Tryz.ntmps93;go_wp2_with fail;refine HG.af.mono ?_;rintro e w2 ⟨rfl,rfl⟩;go_wp2;go_ret;exact⟨rfl,rfl⟩
 ·have hq:decide (x<=65535)=true:=by rw[arI];omega
  go_enter Tryz.func93,Tryz.ntmps93;go_wp2_with fail;refine HG.af.mono ?_;rintro e w2 ⟨rfl,rfl⟩;go_wp2;go_ret;exact⟨rfl,rfl⟩
 ·have hq:decide (x<=4294967295)=true:=by rw[arI];omega
  go_enter Tryz.func93,Tryz.ntmps93;go_wp2_with fail;refine HG.af.mono ?_;rintro e w2 ⟨rfl,rfl⟩;go_wp2;go_ret;exact⟨rfl,rfl⟩
theorem Yd (n:Int):IntKind.u64.wrap n=(((n%18446744073709551616).toNat/256 ^ 0:Nat):Int):=by
 rw[show IntKind.u64.wrap n=n%18446744073709551616 from by simp[IntKind.wrap,IntKind.bits,IntKind.signed],Nat.pow_zero,Nat.div_one];omega
theorem aaJ (M j:Nat):((M/256 ^ j:Nat):Int)/256=((M/256 ^ (j+1):Nat):Int):=by
 rw[Nat.pow_succ,<-Nat.div_div_eq_div_mul];generalize M/256 ^ j=m;omega
theorem aaK (m:Nat):((m:Int)%256)=((UInt8.ofNat m).toNat:Int):=arG
theorem Jh (w:World) (size:Nat) (n:Int) (hs:size=1∨size=2∨size=4∨size=8):
  Calls asq 91 #[ah (size:Int),ah n] w fun e w'=>∃r,e=.returned r/\aX 5 fq w.heap.size (fun _=>False) w' r (bD size n)/\Below w w w':=by
 have nE:1<=size/\size<=8:=wP;clear hs;go_enter Tryz.func91,Tryz.ntmps91;go_wp2_with fail;go_loopw [5,6,7] (fun o u i wr=>∃j:Nat,i=ah j/\j<=size/\u=.int .u64 (((n%18446744073709551616).toNat/256 ^ j:Nat):Int)/\aX 5 fq w.heap.size (fun _=>False) wr o ((bD size n).take j)/\Below w w wr) (fun _ _ i _=>size-(intOf i).toNat);exact⟨0,rfl,alg _,by rw[Yd],by exact aX.nil _ _ _ _ _,PZ _ _⟩;obtain⟨j,rfl,hj,rfl,hown,hbel⟩:=hrel;have hBr:=hbel.size;have iZ:=aj hown;have di:=aj hbel;by_cases hlt:j<size
 ·have X6:=aj (OT size n j hlt)
  have Hn:=aj (aaJ (n%18446744073709551616).toNat j);have hm:(n%18446744073709551616).toNat/256 ^ j<18446744073709551616:=Nat.lt_of_le_of_lt (Nat.div_le_self _ _) wP;obtain⟨m2,hm2⟩:∃m2,(n%18446744073709551616).toNat/256 ^ (j+1)=m2:=⟨_,rfl⟩;have Hm2:=aj hm2;rw[hm2]at Hn;clear hm2;generalize (n%18446744073709551616).toNat/256 ^ j=m at *;have hb:=aaK m;have hn:=Hn.af;obtain⟨cb,hcb⟩:∃cb,UInt8.ofNat m=cb:=⟨_,rfl⟩;rw[hcb]at X6 hb;clear hcb Hn;have hdl:((bD size n).take j).length=j:=by rw[og,dA];omega
  obtain⟨oa,oc,rfl⟩:=hown.form;rw[hdl];rw[hdl]at iZ;have Hdl:=aj hdl;clear hown hbel hdl;go_wp2_with (at_builtin;refine fZ (α:=UInt8) (K:=fq) (e:=5) (B:=w.heap.size) (E:=fun _=>False) 42 (.int .u8 0) 1 Tryz.underlying42 mW rfl abD rfl (.tmp 15) (.tmp 19) rfl j Hdl.af rfl (iZ.af.alloc _) (fun _ h=>h.elim) wr.heap.size cb [.int .u8 cb.toNat] rfl ?c1 ?c2 rfl ?c3 ?c4 ?c5 ?_)
  case c1=>
   intro j u hu
   match j,hu with
   | 0,hu=>simp at hu;subst hu;rw[aV (ah2 wr _)];rfl
   | j+1,hu=>simp at hu
  case c2=>intro u hu;simp at hu;subst hu;rfl
  case c3=>rw[Hdl.af];omega
  case c4=>rw[Hdl.af];omega
  case c5=>simp;omega
  intro g c w3 hown3 oJ _;have Tu:=aj hown3;have hlo:=(iZ.af.alloc (aB #[.int .u8 cb.toNat] 5)).lt;have B3:=aj (((di.af.alloc wP (aB #[.int .u8 cb.toNat] 5)).trans (oJ.imp (S':=(·<w.heap.size)) (fun b hb=>⟨by have h1:b<w:=hb;omega,fun e=>by have:=(hlo b e).1;have h1:b<w:=hb;omega⟩)).below));clear hown3 oJ hlo iZ;go_wp2;go_roundw;exact⟨j+1,arH,wP,by rw[Hm2.af],by rw[X6.af];exact Tu.af,B3.af⟩;simp[intOf];omega
 ·have he:j=size:=wP
  subst he;have Ht:Hid ((bD j n).take j=bD j n):=aj (dh (by rw[dA];omega));rw[Ht.af]at hown;have Ho:=aj hown;clear hown hbel iZ;go_wp2;go_ret;exact⟨_,rfl,Ho.af,di.af⟩
def TR:dw:=⟨1,⟨0,0,0,0,0⟩,0,[103],[]⟩
def ake:bF:=⟨[102],[],false,1,false,0,false,0,0⟩
def nX:eH:=⟨ake,[TR]⟩
def xB (fs:List eH):aM:=⟨[],0,[],[],fs,[],[],[],[]⟩
theorem akV:(gD (xB [nX])).2=0:=TA
theorem aiM:(gD (xB [nX])).1.aI.length=2:=TA
theorem aiN:(gD (xB [nX])).1.aI[0]?.map (·.bytes.length)=some 32:=TA
theorem aiO:(gD (xB [nX])).1.av.length=2:=TA
theorem ahi:(gD (xB [nX])).1.asf=[⟨64,1,24⟩]:=TA
theorem akW:(gD (xB [nX,nX])).2=100:=TA
section
variable {α : Type} {e : TypeId} {K : Kind α} {f : α -> Value} {B : Nat} {E : Nat -> Prop} {w w' : World} {v : Value} {l : List α}
theorem Ji {o:Oper} {a:Act} {C:Act->World->Prop} {Q:Exit->Act->World->Prop} (hp:Plain K f) (t:TypeId) (z:Value) (bytes:Nat) (ht:Tryz.prog.underlying t=some (.slice e)) (hinfo:(Tryz.prog.info? e).map (fun i=>(i.zero,i.size,i.bytes))=some (some z,1,bytes))
  (hzs:z.cells.size=1) (s x:Operand)
  (ho:o.op=.call {callee:=.builtin .append,args:=#[s,x],argTypes:=#[t,t]})
  (hs:a.eval s=v) (hown:aX e K B E w v l) (hE:∀b,E b->b<w.heap.size) {S:Nat->Prop} (u:Value) (m:List α) (hx:a.eval x=u) (hu:LB K S w u m)
  (hlen:(l.length+m.length)*bytes<=140737488355328) (hl63:l.length+m.length<=9223372036854775807) (hB:B<=w)
  (h:∀v' w',aX e K B E w' v' (l++m)->Step (fun b=>b<w/\v.ownBlock≠some b) w w'->(∀b,b<w.heap.size->v.ownBlock≠some b->v'.ownBlock≠some b)->C (a.put o.dst v') w'):o.wp asq a w C Q:=by
 obtain⟨i0,hi,hz0,hz1,hz2⟩:=info_parts hinfo;have h1:=hown.Dl hp;obtain⟨ua,ub,nN,Ct,hv,hm,ha,hcap,hS,hc⟩:=hu
 cases ua with
 | none=>
  have hm0:m=[]:=by
   cases m with
   | nil=>rfl
   | cons y m=>exact absurd (ha arG) arG
  subst hm0;have hc0:=hcap.2 rfl;subst hc0;have hxx:a.eval x=au:=hx.trans hv;have hrun:=run_append_owned_none (P:=asq) (w:=w) B t o.type e i0 1 ht hi v l.length (l.map f) h1;unfold Oper.wp;simp[execOp,ho,resolve,invoke,builtin,hs,hxx,hrun,Result.andThen];exact h v w (by rw[List.append_nil];exact hown) (Step.refl _ _) (fun b _ h=>h)
 | some ad=>
  have hxx:a.eval x=.slice (some ad) m.length Ct:=hx.trans hv
  have hcl:∀j u,(m.map f)[j]? =some u->w.cell? (ad.add j)=some u:=by
   intro j u hj;rw[List.getElem?_map]at hj
   cases GY:m[j]? with
   | none=>rw[GY]at hj;cases hj
   | some y=>
    rw[GY]at hj;have hu:f y=u:=by simpa using hj
    subst hu;have Dm:0<m.length:=by have:=(Sm.1 GY).1;omega
    obtain rfl:ad=(ak ub nN):=by have:=ha Dm;simpa using this
    obtain⟨row,r1,r2⟩:=hc j y GY;have:=hp.into r1;subst this;have:=r2 0 (f y) rfl;rw[hp.one]at this
    simpa [Addr.add_lit] using this
  have hone:∀u∈m.map f,u.oneCell'=true:=by
   intro u hu;simp only[List.mem_map]at hu;obtain⟨y,_,rfl⟩:=hu;exact hp.cell y
  obtain⟨v',w',hr,g1,g2,_,g4⟩:=run_append_own_at (P:=asq) w B t o.type e i0 z 1 bytes ht hi hz0 hz1 hz2 hzs abD v l.length (l.map f) h1 ad m.length Ct (m.map f) arG hcl hone (by unfold maxLen;omega) hlen hB;have hlt:=World.ownsRow.lt h1;have hst:Step (fun b=>b<w/\v.ownBlock≠some b) w w':=Step.rU g2 (fun b hb=>⟨hb.1,hb.2⟩)
  have hfin:=h v' w' (.qJ hp (by rw[Kk,A7];exact g1) (by
    intro g hg yh;rcases g4 with h' | h'
    ·exact hown.notE g (by rw[<-h'];exact hg) yh
    ·have:g=w.heap.size:=by rw[h']at hg;exact(qY hg).symm
     have:=hE _ yh;omega)) hst (by
    intro b hb hne e;rcases g4 with h' | h'
    ·exact hne (by rw[<-h'];exact e)
    ·have:b=w.heap.size:=by rw[h']at e;exact(qY e).symm
     omega)
  unfold Oper.wp execOp;simp only[ho,resolve,invoke,builtin,Sem.run_bind,Sem.run_pure,Result.andThen_ok,List.map_toArray,Sn,aaT,hs,hxx,hr];exact hfin
end
theorem Np {w':World} {t u ty e:TypeId} {i:TypeInfo} (ht:Tryz.prog.underlying t=some (.slice e)) (hu:Tryz.prog.underlying u=some .string) (hi:Tryz.prog.info? e=some i) (hz:i.zero=some (.int .u8 0)) (hsize:i.size=1) (hby:i.bytes=1)
  {v v':Value} {n:Nat} {xs:List Value} (hown:w.ownsRow B e 1 v n xs) {s:ByteArray} (hbytes:n+s.size<=140737488355328)
  (hr:(Builtin.append_ #[t,u] ty #[v,.string s]).run asq w=.ok v' w') (hnil:v'=au↔v=au/\s.size=0):v'.ownBlock=v.ownBlock∨v'.ownBlock=some w.heap.size:=by
 have hxl:xs.length=n:=by simpa using hown.1
 rcases hown.2 with ⟨rfl,rfl⟩ | ⟨g,cap,cur,rfl,hbg,hg,hnc,hcm,hcs,htake⟩
 ·by_cases hm:s.size=0
  ·rw[hnil.2 ⟨rfl,hm⟩];exact aH rfl
  ·have h2:=run_append_nil_string (P:=asq) w t u ty e i (.int .u8 0) ht hu hi hz s wP wP (by rw[hby];omega)
   rw[hr]at h2
   cases h2
   exact aZ rfl
 ·have hcs':cur.size=cap:=by simpa using hcs
  by_cases hroom:n+s.size<=cap
  ·have h2:=Lib.run_append_room_string (P:=asq) w t u ty e i ht hu hi hsize g n cap cur hg s hroom wP
   rw[hr]at h2
   cases h2
   exact aH rfl
  ·have holds:∀j u,xs[j]? =some u->w.cell? (((ak g 0):Addr).add j)=some u:=hown.cells (g:=g) rfl
   have h2:=Lib.run_append_grow_string (P:=asq) w t u ty e i (.int .u8 0) ht hu hi hz (ak g 0) n cap xs (by rw[hsize];simpa using hxl) holds s wP wP (by rw[hby];exact growslice_fits wP wP);rw[hr]at h2
   cases h2
   exact aZ rfl
section
variable {B : Nat} {E : Nat -> Prop} {w w' : World} {v : Value} {l : List UInt8}
theorem YV {o:Oper} {a:Act} {C:Act->World->Prop} {Q:Exit->Act->World->Prop} (s x:Operand)
  (ho:o.op=.call {callee:=.builtin .append,args:=#[s,x],argTypes:=#[42,9]})
  (hs:a.eval s=v) (hown:aX 5 fq B E w v l) (hE:∀b,E b->b<w.heap.size) (m:List UInt8) (hx:a.eval x=ax m)
  (hlen:l.length+m.length<=140737488355328) (hB:B<=w)
  (h:∀v' w',aX 5 fq B E w' v' (l++m)->Step (fun b=>b<w/\v.ownBlock≠some b) w w'->(∀b,b<w.heap.size->v.ownBlock≠some b->v'.ownBlock≠some b)->C (a.put o.dst v') w'):o.wp asq a w C Q:=by
 obtain⟨i0,hi,hz0,hz1,hz2⟩:=info_parts mW;have h1:=hown.Dl nI;have hsz:=size_mk m;obtain⟨v',w',hr,g1,g2,g3⟩:=Lib.run_append_own_string (P:=asq) w B 42 9 o.type 5 i0 Tryz.underlying42 Tryz.underlying9 hi hz0 hz1 hz2 v l.length _ h1 ⟨m.toArray⟩ (by unfold maxLen;omega) wP hB;have g4:=Np Tryz.underlying42 Tryz.underlying9 hi hz0 hz1 hz2 h1 wP hr g3;have hst:Step (fun b=>b<w/\v.ownBlock≠some b) w w':=Step.rU g2 (fun b hb=>⟨hb.1,hb.2⟩);have e1:Lib.strCells ⟨m.toArray⟩=m.map (fun x:UInt8=>Value.int .u8 x.toNat):=by simp[Lib.strCells]
 rw[hsz,e1]at g1
 have hfin:=h v' w' (.qJ nI (by rw[Kk,A7];exact g1) (by
   intro g hg yh;rcases g4 with h' | h'
   ·exact hown.notE g (by rw[<-h'];exact hg) yh
   ·have:g=w.heap.size:=by rw[h']at hg;exact(qY hg).symm
    have:=hE _ yh;omega)) hst (by
   intro b hb hne e;rcases g4 with h' | h'
   ·exact hne (by rw[<-h'];exact e)
   ·have:b=w.heap.size:=by rw[h']at e;exact(qY e).symm
    omega)
 unfold Oper.wp execOp;simp only[ho,resolve,invoke,builtin,Sem.run_bind,Sem.run_pure,Result.andThen_ok,List.map_toArray,Sn,aaT,hs,hx,hr];exact hfin
end
structure WJ (b:Nat) (S:Nat->Prop) (w:World) (l:List UInt8):Prop where
 ex:∃v,w.heap[b]? =some (aB #[v,ah 0] 113)/\aX 5 fq (b+1) (·=b) w v l/\∀x,S x->x<w.heap.size/\x≠b/\v.ownBlock≠some x
section
variable {b : Nat} {S S' : Nat -> Prop} {w w' : World} {l : List UInt8}
theorem WJ.lt (h:WJ b S w l):b<w:=by
 obtain⟨v,h1,_⟩:=h.ex;rcases oG b w.heap.size with h' | h'
 ·exact h'
 ·rw[Array.getElem?_eq_none h']at h1;cases h1
theorem WJ.less (h:WJ b S w l) (hi:∀x,S' x->S x):WJ b S' w l:=by
 obtain⟨v,h1,h2,h3⟩:=h.ex;exact⟨v,h1,h2,fun x hx=>h3 x (hi x hx)⟩
theorem WJ.below (h:WJ b S w l) (hb:Below w w w'):WJ b S w' l:=by
 have hlt:=h.lt;obtain⟨v,h1,h2,h3⟩:=h.ex;exact⟨v,(hb.block b hlt).trans h1,h2.below hb,fun x hx=>⟨akb (h3 x hx).1 hb.size,(h3 x hx).2⟩⟩
theorem WJ.alloc (h:WJ b S w l) (o:Obj):WJ b (fun x=>S x∨x=w.heap.size) (w.alloc o) l:=by
 have hlt:=h.lt;obtain⟨v,h1,h2,h3⟩:=h.ex;refine⟨v,(dX w o hlt).trans h1,h2.alloc o,fun x hx=> ?_⟩;rcases hx with hx | rfl
 ·exact⟨by have:=(h3 x hx).1;rw[lW];omega,(h3 x hx).2⟩
 ·exact⟨arG,wP,fun e=>by have:=(h2.lt _ e).2;omega⟩
theorem WJ.mG (h:WJ b S w l) {x:Nat} (hx:S x):x<w:=by
 obtain⟨v,_,_,h3⟩:=h.ex;exact(h3 x hx).1
theorem WJ.put {v v':Value} (h1:w.heap[b]? =some (aB #[v,ah 0] 113)) (h2:aX 5 fq (b+1) (·=b) w v' l) (h3:∀x,S x->x<w.heap.size/\x≠b/\v'.ownBlock≠some x):WJ b S (w.setCell ⟨b,0,none⟩ v') l:=by
 refine⟨v',by simp[World.setCell,Array.getElem?_modify,h1],h2.step ((Step.refl (fun x=>x≠b) w).setCell (p:=(ak b 0)) arG v') (fun x _ h=>h),fun x hx=> ?_⟩;obtain⟨a1,a2⟩:=h3 x hx;exact⟨by rw[World.size_setCell];exact a1,a2⟩
theorem WJ.sound (h:WJ b S w l):w.cell? (ak b 1)=some (ah 0):=by
 obtain⟨v,h1,_⟩:=h.ex;rw[aV h1];rfl
end
theorem RO (b:Nat) (S:Nat->Prop) (w:World) (l:List UInt8) (size:Nat) (ns:List Int) (u:Value) (h:WJ b S w l) (hu:LB dJ S w u ns) (hs:size=1∨size=2∨size=4∨size=8)
  (hf:∀n∈ns,nS size n) (hr:∀n∈ns,-9223372036854775808<=n/\n<=9223372036854775807) (hlen:l.length+size*ns.length<=1000000000):
  Calls asq 37 #[aQ b,ah (size:Int),u] w fun e w'=>e=.returned (.tuple #[])/\WJ b S w' (l++numsL size ns)/\Step S w w':=by
 obtain⟨ua,ub,nN,Ct,rfl,EH,huc,hat⟩:=hu.at;have dP:=aj hat;have Hf:=aj hf;have Hr:=aj hr;have H:=aj h;have HS:=aj (fun w=>adP w size hs);have HF:=aj (fun w x hx=>ahh w size x hs hx);have HDg:=aj (fun w n=>Jh w size n hs);have nE:1<=size/\size<=8:=wP;have hc1:=h.sound;have hbl:=h.lt;clear hu hat hf hr h hs;go_enter Tryz.func37,Tryz.ntmps37;go_wp2_with fail;refine(HS.af _).mono ?_;rintro e w0 ⟨rfl,rfl⟩;clear hc1;go_wp2_with fail;go_loopw [6] (fun i wr=>∃k:Nat,i=ah k/\k<=ns.length/\WJ b S wr (l++numsL size (ns.take k))/\Step S w0 wr) (fun i _=>ns.length-(intOf i).toNat);exact⟨0,rfl,alg _,by simpa [numsL] using H.af,Step.refl _ _⟩;obtain⟨k,rfl,hk,hw,hst⟩:=hrel;have uV:=aj hst;have hc1:=hw.sound;have hbr:=hw.lt;by_cases hlt:k<ns.length
 ·obtain rfl:=dP.af.addr wP
  obtain⟨n,hn⟩:∃n,ns[k]? =some n:=⟨_,gP hlt⟩;have huS:=dP.af.mG wP;have g:=(uV.af.cell (p:=(ak ub (nN+k))) huS).trans (dP.af.oC k n hn);have hsb:=fD _ _ g;have hfn:=Hf.af n (dH hn);have hrn:=Hr.af n (dH hn);have Hnt:=aj (adL size ns k n hn);have hkl:=eF size (ns.take k);rw[og,JW hk]at hkl;have hmul:size*k+size<=size*ns.length:=by rw[<-Nat.mul_succ];exact Nat.mul_le_mul_left _ hlt
  have HFn:=aj (fun w=>HF.af w n hfn);have hdl:=dA size n;obtain⟨v,hv1,hv2,hv3⟩:=hw.ex;have DK:=aj hv1;have vF:=aj hv2;have EI:=aj hv3;have hc0:wr.cell? (ak b 0)=some v:=aL hv1 rfl;obtain⟨va,vc,hvf⟩:=hv2.form;obtain⟨L,hL⟩:∃L,(l++numsL size (ns.take k)).length=L:=⟨_,rfl⟩;have HL:=aj hL;rw[hL]at hvf;subst hvf;have hLb:L<=1000000000-size:=by rw[<-hL];simp only[Kk];omega
  clear hn hw hst hfn hv1 hv2 hv3 hL hkl hmul;go_wp2_with fail;refine(HFn.af _).mono ?_;rintro e w3 ⟨rfl,rfl⟩;clear hc1;go_wp2_with fail;have fx:w3.frozen? (ak b 0)=false:=vV DK.af 0;refine bA 12 TA TA ?_;simp only[ji];refine P8 (S:=fun w'=>w'.cell? (ak b 0)=some (.slice va L vc)/\w'.cell? (ak ub (nN+k))=some (ah n)) _ _ _ _ ?_;have ay:(fun w':World=>w'.cell? (ak b 0)=some (.slice va L vc)/\w'.cell? (ak ub (nN+k))=some (ah n)) w3.drew:=⟨hc0,g⟩;refine asr ?_;have Cn:=aj vF.af.drew;have OU:Hid (w3.drew.heap[b]? =_):=aj DK.af;have xC:Hid (∀x,S x->x<w3.drew.heap.size/\x≠b/\Value.ownBlock (.slice va L vc)≠some x):=aj EI.af;have oJ:=aj uV.af.drew;have hbd:b<w3.drew:=hbr;have WR:ub<w3.drew:=hsb;generalize w3.drew=wd at *;refine arS 0 ay ?_;simp only[bV];refine arS 1 ay ?_;simp only[bV];refine arS 2 ay ?_;simp only[bV];refine arS 3 ay ?_;simp only[bV];refine arS 4 ay ?_;simp only[bV];refine arS 5 ay ?_;simp only[bV];refine arS 6 ay ?_;simp only[bV];refine arS 7 ay ?_;simp only[bV];refine arS 8 ay ?_;simp only[bV];refine arS 9 ay ?_;simp only[bV];refine cO 10 fun K hK=> ?_
  go_simp;refine(HDg.af _ n).mono ?_;rintro e w4 ⟨r,rfl,hro,hb4⟩;obtain⟨ra,rc,rfl⟩:=hro.form;have H9:=aj hro;have Ip:=aj ((hb4.block b hbd).trans OU.af);have Gi:=aj (Cn.af.below hb4);have Ai:=aj (oJ.af.trans (Step.later hb4 (fun x hx=>(xC.af x hx).1)));have Co:=hb4.size;refine hK.af _ _ (⟨(aV Ip.af 0).trans rfl,(hb4.cell (p:=(ak ub (nN+k))) (by show ub<wd;exact WR)).trans ay.2⟩) (fun ay=> ?_);clear hK K hro hb4;try simp only[bP]
  refine cO 11 fun K hK=> ?_
  rw[if_pos (by rfl)];simp only[rz];refine Ji (B:=b+1) (E:=(·=b)) nI 42 (.int .u8 0) 1 Tryz.underlying42 mW rfl (.tmp 43) (.tmp 49) (by rfl) (by rfl) Gi.af (fun x hx=>by have hx:x=b:=hx;omega) _ (bD size n) (by rfl) H9.af.lb (by rw[HL.af,hdl];omega) (by rw[HL.af,hdl];omega) wP (fun v' w5 hown qw hne=> ?_);obtain⟨BP,Gj,hvf⟩:=hown.form;obtain⟨L',hL'⟩:∃L',(l++numsL size (ns.take k)++bD size n).length=L':=⟨_,rfl⟩;rw[hL']at hvf;clear hL';subst hvf;have hvb:Value.ownBlock (.slice va L vc)≠some b:=fun e=>Gi.af.notE _ e rfl
  have Hb5:=aj ((qw.block b ⟨wP,hvb⟩).trans Ip.af);have KL:=aj (Ai.af.trans (qw.imp (S':=S) (fun x hx=>⟨by have:=(xC.af x hx).1;omega,(xC.af x hx).2.2⟩)))
  have EJ:Hid (∀x,S x->x<w5.heap.size/\x≠b/\Value.ownBlock (.slice BP L' Gj)≠some x):=aj (fun x hx=>by
   obtain⟨a1,a2,a3⟩:=xC.af x hx;exact⟨by have:=qw.size;omega,a2,hne x wP a3⟩)
  have iZ:=aj hown;refine hK.af _ _ (⟨(aV Hb5.af 0).trans rfl,(qw.cell (p:=(ak ub (nN+k))) (by have:=xC.af ub huS;exact⟨by show ub<_;omega,this.2.2⟩)).trans ay.2⟩) (fun ay=> ?_);clear hK K;try simp only[bP]
  refine E5 TA ?_ _;simp only[dU];have hc5:w5.cell? (ak b 0)=some (.slice va L vc):=aL Hb5.af rfl;have fx5:w5.frozen? (ak b 0)=false:=vV Hb5.af 0;have uX:b<w5:=by have:=qw.size;omega
  have oO:=aj (WJ.put Hb5.af iZ.af EJ.af);have Gl:Hid (Step S w0 (w5.setCell ⟨b,0,none⟩ (.slice BP L' Gj))):=aj (KL.af.setCell (p:=(ak b 0)) (fun hS=>(EJ.af b hS).2.1 rfl) _);clear ay hown qw hne hc0 fx OU Cn xC Ip Gi oJ Ai hvb DK vF EI;clear H9;go_wp2;go_roundw
  case rel=>
   refine⟨k+1,arH,wP,?_,Gl.af⟩;have h:=oO.af;rw[Sq,<-Hnt.af]at h;exact h
  simp[intOf];omega
 ·have iT:Hid (ns.take k=ns):=aj (dh wP)
  rw[iT.af]at hw;have ZE:=aj hw;clear hw hst;go_wp2;go_end0;exact⟨rfl,ZE.af,uV.af⟩
theorem jF (b:Nat) (S:Nat->Prop) (w:World) (l:List UInt8) (size:Nat) (ns:List Int) (h:WJ b S w l) (hs:size=1∨size=2∨size=4∨size=8) (hf:∀n∈ns,nS size n) (hlen:l.length+size*ns.length<=1000000000) (hn:ns.length<=1000000):
  Calls asq 37 #[aQ b,ah (size:Int),.slice (some ⟨w.heap.size,0,none⟩) ns.length ns.length] (w.alloc (.cells (ns.map (Value.int .i64)).toArray 3 (0,0))) fun e w'=>e=.returned (.tuple #[])/\WJ b S w' (l++numsL size ns)/\Step S w w':=by
 refine(RO b (fun x=>S x∨x=w.heap.size) _ l size ns _ (h.alloc _) ((adM w ns wP).imp (fun x hx=>aZ hx)) hs hf (fun n hn=>WO hs (hf n hn)) hlen).mono ?_;rintro e w' ⟨he,hw,hs'⟩;exact⟨he,hw.less (fun x hx=>aH hx),(Step.later ((PZ _ w).alloc (oD _) _) (fun x hx=>h.mG hx)).trans (hs'.imp (fun x hx=>aH hx))⟩
theorem RP (w:World) (x:Bool):Calls asq 40 #[.bool x] w fun e w'=>e=.returned (ah (Ad x))/\w'=w:=by
 cases x
 all_goals
  go_enter Tryz.func40,Tryz.ntmps40;go_wp2;go_ret;exact⟨rfl,rfl⟩
theorem adQ (b:Nat) (S:Nat->Prop) (w:World) (l:List UInt8) (h:WJ b S w l):
  Calls asq 41 #[aQ b] w fun e w'=>∃v,e=.returned (.tuple #[v,ah 0])/\aX 5 fq (b+1) (·=b) w v l/\w'=w:=by
 have hc1:=h.sound;have hbl:=h.lt;obtain⟨v,hv1,hv2,hv3⟩:=h.ex;have hc0:w.cell? (ak b 0)=some v:=aL hv1 rfl;obtain⟨va,vc,rfl⟩:=hv2.form;have vF:=aj hv2;clear h hv1 hv2 hv3;go_enter Tryz.func41,Tryz.ntmps41;go_wp2;go_ret2;exact⟨_,rfl,vF.af,rfl⟩
theorem Ye (b:Nat) (S:Nat->Prop) (w:World) (l:List UInt8) (ss:List (List UInt8)) (u:Value) (h:WJ b S w l) (hu:LB lG S w u ss) (hf:∀s∈ss,s.length<=4096) (hlen:l.length+4098*ss.length<=1000000000):
  Calls asq 36 #[aQ b,u] w fun e w'=>e=.returned (.tuple #[])/\WJ b S w' (l++jH ss)/\Step S w w':=by
 obtain⟨ua,ub,nN,Ct,rfl,EH,huc,hat⟩:=hu.at;have dP:=aj hat;have Hf:=aj hf;have H:=aj h;have HDg:=aj (fun w n=>Jh w 2 n abD);have hbl:=h.lt;clear hu hat hf h;go_enter Tryz.func36,Tryz.ntmps36;go_wp2_with fail;go_loopw [4] (fun i wr=>∃k:Nat,i=ah k/\k<=ss.length/\WJ b S wr (l++jH (ss.take k))/\Step S w wr) (fun i _=>ss.length-(intOf i).toNat);exact⟨0,rfl,alg _,by simpa [jH] using H.af,Step.refl _ _⟩;obtain⟨k,rfl,hk,hw,hst⟩:=hrel;have uV:=aj hst;have hc1:=hw.sound;have hbr:=hw.lt;by_cases hlt:k<ss.length
 ·obtain rfl:=dP.af.addr wP
  obtain⟨p,hp⟩:∃p,ss[k]? =some p:=⟨_,gP hlt⟩;have huS:=dP.af.mG wP;obtain⟨g0,hpz⟩:=dP.af.I7 k p hp;have g:=(uV.af.cell (p:=(ak ub (nN+k))) huS).trans g0;have hsb:=fD _ _ g;have hpl:=Hf.af p (dH hp);have hsz:=size_mk p;have Htt:=aj (ab4 ss k p hp);have htl:=wL (ss.take k) (fun s hs=>Hf.af s (Ub hs));rw[og,JW hk]at htl;have hng:¬4096<p.length:=wP;have hdl:=dA 2 (p.length:Int);obtain⟨v,hv1,hv2,hv3⟩:=hw.ex;have DK:=aj hv1;have vF:=aj hv2;have EI:=aj hv3;have hc0:wr.cell? (ak b 0)=some v:=aL hv1 rfl;obtain⟨va,vc,hvf⟩:=hv2.form;obtain⟨L,hL⟩:∃L,(l++jH (ss.take k)).length=L:=⟨_,rfl⟩;have HL:=aj hL;rw[hL]at hvf;subst hvf;have hLb:L<=1000000000-4098:=by rw[<-hL];simp only[Kk];omega
  have hL4:(l++jH (ss.take k)++bD 2 (p.length:Int)).length<=1000000000-4096:=by rw[Kk,hL,hdl];omega
  have Hp:=aj hp;clear hp hw hst hv1 hv2 hv3 hL htl g0;go_wp2_with fail;clear hc1;have fx:wr.frozen? (ak b 0)=false:=vV DK.af 0;refine bA 12 TA TA ?_;simp only[ji];refine P8 (S:=fun w'=>w'.cell? (ak b 0)=some (.slice va L vc)/\w'.cell? (ak ub (nN+k))=some (ax p)) _ _ _ _ ?_;have ay:(fun w':World=>w'.cell? (ak b 0)=some (.slice va L vc)/\w'.cell? (ak ub (nN+k))=some (ax p)) wr.drew:=⟨hc0,g⟩;refine asr ?_;have Cn:=aj vF.af.drew;have OU:Hid (wr.drew.heap[b]? =_):=aj DK.af;have xC:Hid (∀x,S x->x<wr.drew.heap.size/\x≠b/\Value.ownBlock (.slice va L vc)≠some x):=aj EI.af;have oJ:=aj uV.af.drew;have hbd:b<wr.drew:=hbr;have WR:ub<wr.drew:=hsb;generalize wr.drew=wd at *;refine arO [0,1,2,3,4,5,6,7,8,9] ay ?_;simp only[ast]
  iterate 10 (refine arP ?_;try simp only[bP])
  refine cO 10 fun K hK=> ?_
  go_simp;refine(HDg.af _ (p.length:Int)).mono ?_;rintro e w4 ⟨r,rfl,hro,hb4⟩;obtain⟨ra,rc,rfl⟩:=hro.form;have H9:=aj hro;have Ip:=aj ((hb4.block b hbd).trans OU.af);have Gi:=aj (Cn.af.below hb4);have Ai:=aj (oJ.af.trans (Step.later hb4 (fun x hx=>(xC.af x hx).1)));have Co:=hb4.size;refine hK.af _ _ (⟨(aV Ip.af 0).trans rfl,(hb4.cell (p:=(ak ub (nN+k))) (by show ub<wd;exact WR)).trans ay.2⟩) (fun ay=> ?_);clear hK K hro hb4;try simp only[bP]
  refine cO 11 fun K hK=> ?_
  rw[if_pos (by rfl)];simp only[rz];refine Ji (B:=b+1) (E:=(·=b)) nI 42 (.int .u8 0) 1 Tryz.underlying42 mW rfl (.tmp 31) (.tmp 37) (by rfl) (by rfl) Gi.af (fun x hx=>by have hx:x=b:=hx;omega) _ (bD 2 (p.length:Int)) (by rfl) H9.af.lb (by rw[HL.af,hdl];omega) (by rw[HL.af,hdl];omega) wP (fun v' w5 hown qw hne=> ?_);obtain⟨BP,Gj,hvf⟩:=hown.form;obtain⟨L',hL'⟩:∃L',(l++jH (ss.take k)++bD 2 (p.length:Int)).length=L':=⟨_,rfl⟩;rw[hL']at hvf;clear hL';subst hvf;have hvb:Value.ownBlock (.slice va L vc)≠some b:=fun e=>Gi.af.notE _ e rfl
  have Hb5:=aj ((qw.block b ⟨wP,hvb⟩).trans Ip.af);have KL:=aj (Ai.af.trans (qw.imp (S':=S) (fun x hx=>⟨by have:=(xC.af x hx).1;omega,(xC.af x hx).2.2⟩)))
  have EJ:Hid (∀x,S x->x<w5.heap.size/\x≠b/\Value.ownBlock (.slice BP L' Gj)≠some x):=aj (fun x hx=>by
   obtain⟨a1,a2,a3⟩:=xC.af x hx;exact⟨by have:=qw.size;omega,a2,hne x wP a3⟩)
  have iZ:=aj hown;refine hK.af _ _ (⟨(aV Hb5.af 0).trans rfl,(qw.cell (p:=(ak ub (nN+k))) (by have:=xC.af ub huS;exact⟨by show ub<_;omega,this.2.2⟩)).trans ay.2⟩) (fun ay=> ?_);clear hK K;try simp only[bP]
  refine E5 TA ?_ _;simp only[dU];have hc5:w5.cell? (ak b 0)=some (.slice va L vc):=aL Hb5.af rfl;have fx5:w5.frozen? (ak b 0)=false:=vV Hb5.af 0;have uX:b<w5:=by have:=qw.size;omega
  have oO:=aj (WJ.put Hb5.af iZ.af EJ.af);have Gl:Hid (Step S w (w5.setCell ⟨b,0,none⟩ (.slice BP L' Gj))):=aj (KL.af.setCell (p:=(ak b 0)) (fun hS=>(EJ.af b hS).2.1 rfl) _);clear ay hown qw hne hc0 fx OU Cn xC Ip Gi oJ Ai hvb DK vF EI;clear H9;go_wp2_with fail;clear hc5 fx5;obtain ⟨w6,QQ⟩:=aiG (w5.setCell ⟨b,0,none⟩ (.slice BP L' Gj));rw[<-QQ]at oO Gl ⊢;clear QQ;have hw:=oO.af;have uV:=aj Gl.af;have hbr:=hw.lt;have g:=(uV.af.cell (p:=(ak ub (nN+k))) huS).trans (dP.af.I7 k p Hp.af).1;have hsb:=fD _ _ g;clear HL oO Gl iZ Hb5 EJ KL;generalize hLd:l++jH (ss.take k)++bD 2 (p.length:Int)=Ld at *;obtain⟨v,hv1,hv2,hv3⟩:=hw.ex;have DK:=aj hv1;have vF:=aj hv2;have EI:=aj hv3;have hc0:w6.cell? (ak b 0)=some v:=aL hv1 rfl;obtain⟨va,vc,hvf⟩:=hv2.form;obtain⟨L,hL⟩:∃L,(Ld).length=L:=⟨_,rfl⟩;have HL:=aj hL;rw[hL]at hL4;rw[hL]at hvf;subst hvf;clear hw hv1 hv2 hv3;have fx:w6.frozen? (ak b 0)=false:=vV DK.af 0;refine bA 10 TA TA ?_;simp only[ji];refine P8 (S:=fun w'=>w'.cell? (ak b 0)=some (.slice va L vc)/\w'.cell? (ak ub (nN+k))=some (ax p)) _ _ _ _ ?_;have ay:(fun w':World=>w'.cell? (ak b 0)=some (.slice va L vc)/\w'.cell? (ak ub (nN+k))=some (ax p)) w6.drew:=⟨hc0,g⟩;refine asr ?_;have Cn:=aj vF.af.drew;have OU:Hid (w6.drew.heap[b]? =_):=aj DK.af;have xC:Hid (∀x,S x->x<w6.drew.heap.size/\x≠b/\Value.ownBlock (.slice va L vc)≠some x):=aj EI.af;have oJ:=aj uV.af.drew;have hbd:b<w6.drew:=hbr;have WR:ub<w6.drew:=hsb;generalize w6.drew=wd at *;refine arO [0,1,2,3,4,5,6,7,8] ay ?_;simp only[ast]
  iterate 9 (refine arP ?_;try simp only[bP])
  have Ip:=OU;have Gi:=Cn;have Ai:=oJ;have Co:wd.heap.size<=wd:=oD _;refine cO 9 fun K hK=> ?_
  rw[if_pos (by rfl)];simp only[rz];refine YV (B:=b+1) (E:=(·=b)) (.tmp 45) (.tmp 49) (by rfl) (by rfl) Gi.af (fun x hx=>by have hx:x=b:=hx;omega) (p) (by rfl) (by rw[HL.af];omega) wP (fun v' w5 hown qw hne=> ?_);obtain⟨BP,Gj,hvf⟩:=hown.form;obtain⟨L',hL'⟩:∃L',(Ld++p).length=L':=⟨_,rfl⟩;rw[hL']at hvf;clear hL';subst hvf;have hvb:Value.ownBlock (.slice va L vc)≠some b:=fun e=>Gi.af.notE _ e rfl
  have Hb5:=aj ((qw.block b ⟨wP,hvb⟩).trans Ip.af);have KL:=aj (Ai.af.trans (qw.imp (S':=S) (fun x hx=>⟨by have:=(xC.af x hx).1;omega,(xC.af x hx).2.2⟩)))
  have EJ:Hid (∀x,S x->x<w5.heap.size/\x≠b/\Value.ownBlock (.slice BP L' Gj)≠some x):=aj (fun x hx=>by
   obtain⟨a1,a2,a3⟩:=xC.af x hx;exact⟨by have:=qw.size;omega,a2,hne x wP a3⟩)
  have iZ:=aj hown;refine hK.af _ _ (⟨(aV Hb5.af 0).trans rfl,(qw.cell (p:=(ak ub (nN+k))) (by have:=xC.af ub huS;exact⟨by show ub<_;omega,this.2.2⟩)).trans ay.2⟩) (fun ay=> ?_);clear hK K;try simp only[bP]
  refine E5 TA ?_ _;simp only[dU];have hc5:w5.cell? (ak b 0)=some (.slice va L vc):=aL Hb5.af rfl;have fx5:w5.frozen? (ak b 0)=false:=vV Hb5.af 0;have uX:b<w5:=by have:=qw.size;omega
  have oO:=aj (WJ.put Hb5.af iZ.af EJ.af);have Gl:Hid (Step S w (w5.setCell ⟨b,0,none⟩ (.slice BP L' Gj))):=aj (KL.af.setCell (p:=(ak b 0)) (fun hS=>(EJ.af b hS).2.1 rfl) _);clear ay hown qw hne hc0 fx OU Cn xC Ip Gi oJ Ai hvb DK vF EI;go_wp2;go_roundw
  case rel=>
   refine⟨k+1,arH,wP,?_,Gl.af⟩;have h:=oO.af;rw[<-hLd,Sq,Sq,<-Htt.af]at h;exact h
  simp[intOf];omega
 ·have iT:Hid (ss.take k=ss):=aj (dh wP)
  rw[iT.af]at hw;have ZE:=aj hw;clear hw hst;go_wp2;go_end0;exact⟨rfl,ZE.af,uV.af⟩
theorem Jj (b:Nat) (S:Nat->Prop) (w:World) (l:List UInt8) (ss:List (List UInt8)) (h:WJ b S w l) (hf:∀s∈ss,s.length<=4096) (hlen:l.length+4098*ss.length<=1000000000):
  Calls asq 36 #[aQ b,.slice (some ⟨w.heap.size,0,none⟩) ss.length ss.length] (w.alloc (.cells (ss.map (fun s=>Value.string ⟨s.toArray⟩)).toArray 9 (0,0))) fun e w'=>e=.returned (.tuple #[])/\WJ b S w' (l++jH ss)/\Step S w w':=by
 refine(Ye b (fun x=>S x∨x=w.heap.size) _ l ss _ (h.alloc _) ((adN w ss wP (fun s hs=>by have:=hf s hs;omega)).imp (fun x hx=>aZ hx)) hf hlen).mono ?_;rintro e w' ⟨he,hw,hs'⟩;exact⟨he,hw.less (fun x hx=>aH hx),(Step.later ((PZ _ w).alloc (oD _) _) (fun x hx=>h.mG hx)).trans (hs'.imp (fun x hx=>aH hx))⟩
theorem TS (b:Nat) (S:Nat->Prop) (w:World) (l m:List UInt8) (u:Value) (h:WJ b S w l) (hu:LB fq S w u m) (hm:m.length<=1048576) (hlen:l.length+4+m.length<=1000000000):
  Calls asq 38 #[aQ b,u] w fun e w'=>e=.returned (.tuple #[])/\WJ b S w' (l++wU m)/\Step S w w':=by
 obtain⟨ua,uc,rfl⟩:=hu.form;have hng:¬1048576<m.length:=wP;have HU:=aj hu;have HDg:=aj (fun w n=>Jh w 4 n abD);have hdl:=dA 4 (m.length:Int);have hc1:=h.sound;have hbr:=h.lt;have uV:Hid (Step S w w):=aj (Step.refl _ _);obtain⟨v,hv1,hv2,hv3⟩:=h.ex;have DK:=aj hv1;have vF:=aj hv2;have EI:=aj hv3;have hc0:w.cell? (ak b 0)=some v:=aL hv1 rfl;obtain⟨va,vc,hvf⟩:=hv2.form;obtain⟨L,hL⟩:∃L,(l).length=L:=⟨_,rfl⟩;have HL:=aj hL;rw[hL]at hvf;subst hvf;have hLb:L<=1000000000-4-m.length:=by rw[<-hL];omega
 have hL4:(l++bD 4 (m.length:Int)).length+m.length<=1000000000:=by rw[Kk,hL,hdl];omega
 clear h hu hv1 hv2 hv3 hL;go_enter Tryz.func38,Tryz.ntmps38;go_wp2_with fail;clear hc1;have fx:w.frozen? (ak b 0)=false:=vV DK.af 0;refine bA 9 TA TA ?_;simp only[ji];refine P8 (S:=fun w'=>w'.cell? (ak b 0)=some (.slice va L vc)) _ _ _ _ ?_;have ay:(fun w':World=>w'.cell? (ak b 0)=some (.slice va L vc)) w.drew:=hc0;refine asr ?_;have Cn:=aj vF.af.drew;have OU:Hid (w.drew.heap[b]? =_):=aj DK.af;have xC:Hid (∀x,S x->x<w.drew.heap.size/\x≠b/\Value.ownBlock (.slice va L vc)≠some x):=aj EI.af;have oJ:=aj uV.af.drew;have hbd:b<w.drew:=hbr;generalize w.drew=wd at *;refine arO [0,1,2,3,4,5,6] ay ?_;simp only[ast]
 iterate 7 (refine arP ?_;try simp only[bP])
 refine cO 7 fun K hK=> ?_
 go_simp;refine(HDg.af _ (m.length:Int)).mono ?_;rintro e w4 ⟨r,rfl,hro,hb4⟩;obtain⟨ra,rc,rfl⟩:=hro.form;have H9:=aj hro;have Ip:=aj ((hb4.block b hbd).trans OU.af);have Gi:=aj (Cn.af.below hb4);have Ai:=aj (oJ.af.trans (Step.later hb4 (fun x hx=>(xC.af x hx).1)));have Co:=hb4.size;refine hK.af _ _ ((aV Ip.af 0).trans rfl) (fun ay=> ?_);clear hK K hro hb4;try simp only[bP]
 refine cO 8 fun K hK=> ?_
 rw[if_pos (by rfl)];simp only[rz];refine Ji (B:=b+1) (E:=(·=b)) nI 42 (.int .u8 0) 1 Tryz.underlying42 mW rfl (.tmp 19) (.tmp 22) (by rfl) (by rfl) Gi.af (fun x hx=>by have hx:x=b:=hx;omega) _ (bD 4 (m.length:Int)) (by rfl) H9.af.lb (by rw[HL.af,hdl];omega) (by rw[HL.af,hdl];omega) wP (fun v' w5 hown qw hne=> ?_);obtain⟨BP,Gj,hvf⟩:=hown.form;obtain⟨L',hL'⟩:∃L',(l++bD 4 (m.length:Int)).length=L':=⟨_,rfl⟩;rw[hL']at hvf;clear hL';subst hvf;have hvb:Value.ownBlock (.slice va L vc)≠some b:=fun e=>Gi.af.notE _ e rfl
 have Hb5:=aj ((qw.block b ⟨wP,hvb⟩).trans Ip.af);have KL:=aj (Ai.af.trans (qw.imp (S':=S) (fun x hx=>⟨by have:=(xC.af x hx).1;omega,(xC.af x hx).2.2⟩)))
 have EJ:Hid (∀x,S x->x<w5.heap.size/\x≠b/\Value.ownBlock (.slice BP L' Gj)≠some x):=aj (fun x hx=>by
  obtain⟨a1,a2,a3⟩:=xC.af x hx;exact⟨by have:=qw.size;omega,a2,hne x wP a3⟩)
 have iZ:=aj hown;refine hK.af _ _ ((aV Hb5.af 0).trans rfl) (fun ay=> ?_);clear hK K;try simp only[bP]
 refine E5 TA ?_ _;simp only[dU];have hc5:w5.cell? (ak b 0)=some (.slice va L vc):=aL Hb5.af rfl;have fx5:w5.frozen? (ak b 0)=false:=vV Hb5.af 0;have uX:b<w5:=by have:=qw.size;omega
 have oO:=aj (WJ.put Hb5.af iZ.af EJ.af);have Gl:Hid (Step S w (w5.setCell ⟨b,0,none⟩ (.slice BP L' Gj))):=aj (KL.af.setCell (p:=(ak b 0)) (fun hS=>(EJ.af b hS).2.1 rfl) _);clear ay hown qw hne hc0 fx OU Cn xC Ip Gi oJ Ai hvb DK vF EI;clear H9;go_upto_region 4 with fail
 clear hc5 fx5;obtain ⟨w6,QQ⟩:=aiG (w5.setCell ⟨b,0,none⟩ (.slice BP L' Gj));rw[<-QQ]at oO Gl ⊢;clear QQ;have hw:=oO.af;have uV:=aj Gl.af;have hbr:=hw.lt;clear HL oO Gl iZ Hb5 EJ KL;generalize hLd:l++bD 4 (m.length:Int)=Ld at *;obtain⟨v,hv1,hv2,hv3⟩:=hw.ex;have DK:=aj hv1;have vF:=aj hv2;have EI:=aj hv3;have hc0:w6.cell? (ak b 0)=some v:=aL hv1 rfl;obtain⟨va,vc,hvf⟩:=hv2.form;obtain⟨L,hL⟩:∃L,(Ld).length=L:=⟨_,rfl⟩;have HL:=aj hL;rw[hL]at hL4;rw[hL]at hvf;subst hvf;have HU6:=aj (HU.af.step uV.af);clear hw hv1 hv2 hv3;go_wp2_with (at_builtin;refine oH (B:=b+1) (E:=(·=b)) nI 42 (.int .u8 0) 1 Tryz.underlying42 mW rfl rfl (.tmp 30) (.tmp 31) rfl rfl vF.af (fun x hx=>by have hx:x=b:=hx;omega) _ m rfl HU6.af ?c1 ?c2 wP ?_)
 case c1=>omega
 case c2=>omega
 intro v' w4 hown hst hne;obtain⟨BP,Gj,hvf⟩:=hown.form;obtain⟨L',hL'⟩:∃L',(Ld++m).length=L':=⟨_,rfl⟩;rw[hL']at hvf;clear hL';subst hvf;have hvb:Value.ownBlock (.slice va L vc)≠some b:=fun e=>vF.af.notE _ e rfl
 have Hb4:=aj ((hst.block b ⟨hbr,hvb⟩).trans DK.af);have aoj:=aj (uV.af.trans (hst.imp (S':=S) (fun x hx=>⟨(EI.af x hx).1,(EI.af x hx).2.2⟩)))
 have EJ:Hid (∀x,S x->x<w4.heap.size/\x≠b/\Value.ownBlock (.slice BP L' Gj)≠some x):=aj (fun x hx=>by
  obtain⟨a1,a2,a3⟩:=EI.af x hx;exact⟨by have:=hst.size;omega,a2,hne x a1 a3⟩)
 have iZ:=aj hown;have hc4:w4.cell? (ak b 0)=some (.slice va L vc):=aL Hb4.af rfl;have fx4:w4.frozen? (ak b 0)=false:=vV Hb4.af 0;have Co:b<w4:=by have:=hst.size;omega
 clear hown hst hne hc0 hvb vF EI HU6;go_wp2;go_end0;refine⟨rfl,?_,aoj.af.setCell (p:=(ak b 0)) (fun hS=>(EJ.af b hS).2.1 rfl) _⟩;have h:=WJ.put Hb4.af iZ.af EJ.af;rw[<-hLd,Sq]at h;exact h
theorem OV (b:Nat) (S:Nat->Prop) (w:World) (l:List UInt8) (ss:List (List UInt8)) (u:Value) (h:WJ b S w l) (hu:LB lG S w u ss) (hf:∀s∈ss,s.length<=4096) (hc:mJ 1 ss.length) (hlen:l.length+1+4098*ss.length<=1000000000):
  Calls asq 39 #[aQ b,u] w fun e w'=>e=.returned (.tuple #[])/\WJ b S w' (l++numsL 1 [(ss.length:Int)]++jH ss)/\Step S w w':=by
 obtain⟨ua,uc,rfl⟩:=hu.form;have EH:=hu.max;have HU:=aj hu;have HN:=aj (jF b S w l 1 [(ss.length:Int)] h abD (all1 (xH abD hc)) (by simp only[oF,aR];omega) arG);have Hf:=aj hf;have hbl:=h.lt;clear h hu hf;go_enter Tryz.func39,Tryz.ntmps39;go_wp2_with fail;refine HN.af.mono ?_;rintro e w2 ⟨rfl,hw2,hs2⟩;have Hs2:=aj hs2;have hl4:=eF 1 [(ss.length:Int)];simp only[oF,aR]at hl4;have HT:=aj (Ye b S w2 _ ss _ hw2 (HU.af.step hs2) Hf.af (by rw[Kk];omega));clear hw2 hs2 HN;go_wp2_with fail;refine HT.af.mono ?_;rintro e w3 ⟨rfl,hw3,hs3⟩;have Hw3:=aj hw3;have Hs3:=aj (Hs2.af.trans hs3);clear hw3 hs3 HT;go_wp2;go_end0;exact⟨rfl,Hw3.af,Hs3.af⟩
end Go.Proofs.YtpjgjeadjjackaaGreat
