/- Lemmas. -/
import Derived.Test.YtpjgjeadjjackaaGreatBui10
import Derived.Test.YtpjgjeadjjackaaGreatBui3
import Derived.Test.YtpjgjeadjjackaaGreatBui12
import Derived.Test.YtpjgjeadjjackaaGreatBui9
import Derived.Test.YtpjgjeadjjackaaGreatBui6
import Derived.Test.YtpjgjeadjjackaaGreatBui7
import Derived.Test.YtpjgjeadjjackaaGreatBui11
import Derived.Test.YtpjgjeadjjackaaGreatRows
import Derived.ProofKit
import Derived.OpenShut
import Derived.Carry
import Derived.Deep.Matrix
import Derived.Deep.Slices
import Derived.Deep.DeepCutAuto
import Derived.IntWalk
set_option linter.unusedVariables false
set_option linter.unusedSimpArgs false
set_option maxHeartbeats 64000000
set_option maxRecDepth 100000
namespace Go.Proofs.YtpjgjeadjjackaaGreat
open Go.ChangeShapes Go.WideShapes Go.ChangeAt Go.RowKit Go.Deep
open Go.Proofs.Tryz renaming prog->asq
open _root_.Array renaming getElem?_eq_some_iff->ah1
open Go renaming heap_alloc_new->ah2,wpList_store_row->Bv,heap_alloc_old->dX,wpAnyH_done->E5
open Go.DataW renaming trod_struct->BZ
open Go.Lib renaming cell_of_heap->aV,frozen_of_heap->vV
open Go.RowKit.Below renaming refl->PZ
open Go.World renaming block_lt_of_cell?->fD,size_alloc->lW
open _root_.List renaming length_append->Kk,length_cons->oF,length_nil->aR,getElem?_eq_getElem->gP,take_of_length_le->dh,getElem?_cons_succ->Y6,getElem?_cons_zero->yQ,mem_of_getElem?->dH,take_succ_cons->DZ,drop_succ_cons->D7,getElem?_eq_some_iff->Sm,map_cons->Sn,map_nil->aaT,take_zero->JY,drop_zero->ahv,mem_cons_self->oh,length_take->og,mem_append->D5,getD_eq_getElem?_getD->tK,foldl_append->fP,drop_eq_getElem_cons->Cf,getElem?_eq_none->aj5,take_append_drop->jf,flatMap_append->j5,getElem?_map->vW,flatMap_cons->KF,mem_cons->Y1
open _root_.Nat renaming zero_le->alg,two_pow_add_eq_or_of_lt->Ph,le_refl->oD,or_assoc->Pj,min_le_right->Fe,pow_succ->uS,lt_or_ge->oG,zero_add->bE,mul_one->Uh,mod_lt->Ti
open _root_.Or renaming inr->aZ,inl->aH
variable {H:Type}{e t:TypeId}{k fuel B pb:Nat}{c:Value}{v:bG}{w:World}{sv:bN}{s:aM}{p:aA}{f:List UInt8}{S:Nat->Prop}
theorem own:ownKnob Tryz.prog.godebug=none:=TA
theorem laidOut:laidOutB asq=true:=TA
theorem wf_i64 {n:Int} (h:(Lit.int .i64 n).wf=true): -9223372036854775808<=n/\n<=9223372036854775807:=by
 simp[Lit.wf,IntKind.min,IntKind.max,IntKind.signed,IntKind.bits]at h;omega
theorem Um {H:Type}:∀l:List (DataW H),l.length<=Rows.uptoBulkAll l
 | []=>arG
 | d :: l=>by
  have:=Um l
  have h1:1<=Rows.uptoBulk d:=by cases d with
   | lit x=>cases x<;>simp[Rows.uptoBulk]
   | _=>simp[Rows.uptoBulk]
  simp only[Rows.uptoBulkAll,oF];omega
theorem aa0 {H:Type} {d:DataW H}:∀ {l:List (DataW H)},d∈l->Rows.uptoBulk d<=Rows.uptoBulkAll l
 | [],h=>by cases h
 | x :: l,h=>by
  simp only[Rows.uptoBulkAll];rcases Y1.1 h with rfl | h
  ·omega
  ·have:=aa0 h;omega
theorem QW {H:Type} {P:Program} {e:TypeId} {d:DataW H} {k:Nat}:∀ {l:List (DataW H)},d∈l->k∈DataW.weights P e d->k∈DataW.weightsAll P e l
 | [],h,_=>by cases h
 | x :: l,h,hk=>by
  rw[DataW.weightsAll];rcases Y1.1 h with rfl | h
  ·exact List.mem_append_left _ hk
  ·exact List.mem_append_right _ (QW h hk)
section
variable {H : Type} {enc : TypeId × Value -> H} {w : World}
theorem KS {α:Type} {K:Kind α} {P:α->DataW H->Prop} (ht:Tryz.prog.underlying t=some (.slice e)) (hk:Tryz.prog.cellsOf e=K.k) (hk0:0<K.k)
  (el:∀(fuel:Nat) (cs:List Value) (x:DataW H × List MemPlace),cs.length=K.k->DataW.trod enc asq w 0 (fun _=>true) true fuel e cs=some x->∃y,K.R (·<w.heap.size) w y cs/\P y x.1)
  {fuel:Nat} {c:Value} {x:DataW H × List MemPlace} (h:DataW.trod enc asq w 0 (fun _=>true) true fuel t [c]=some x):
  ∃l,LB K (·<w.heap.size) w c l/\l.length<=Rows.uptoBulk x.1/\(0<l.length->∃k∈DataW.weights asq t x.1,l.length*Tryz.prog.bytesOf e<=k)/\∀y∈l,∃d:DataW H,P y d/\Rows.uptoBulk d<=Rows.uptoBulk x.1/\∀k∈DataW.weights asq e d,k∈DataW.weights asq t x.1:=by
 rcases open_slice ht h with ⟨hcs,hx⟩ | ⟨a,n,cap,m,q,D,Pl,hcs,_,hl,hm,hmm,hx,hi⟩
 ·simp at hcs
  subst hcs;exact⟨[],LB.nil _ _ _,arG,fun h=>absurd h arG,fun y hy=>(by cases hy)⟩
 ·simp at hcs
  subst hcs;simp only[if_true]at hmm;subst hmm
  have each:∀i,i<m->∃y,∃row,K.R (·<w.heap.size) w y row/\(∀j u,row[j]? =some u->w.cell? ((a.add (i*K.k)).add j)=some u)/\P y (D i)/\row.length=K.k:=fun i hin=>by
   obtain⟨cs',hc,ht'⟩:=hi i hin;rw[hk]at hc;obtain⟨_,hcl,hat⟩:=World.cells?_some hc;obtain⟨y,hy,hp⟩:=el _ _ _ hcl ht';refine⟨y,cs',hy,fun j u hu=> ?_,hp,hcl⟩;have hj:j<K.k:=by rw[<-hcl];exact(Sm.1 hu).1
   rw[hat j hj];exact hu
  have plain:0<n->a=⟨a.block,a.off,none⟩/\a.block<w:=fun h0=>by
   obtain⟨y,row,_,hat,_,hrl⟩:=each 0 wP;obtain⟨u,hu⟩:∃u,row[0]? =some u:=⟨_,gP wP⟩;have h1:=hat 0 u hu;have h2:=World.cell?_spot h1;have h3:=fD _ _ h1;obtain⟨b,o,s⟩:=a;have:s=none:=by simpa [Addr.add] using h2
   subst this;exact⟨rfl,by simpa [Addr.add] using h3⟩
  let f:Fin n->α:=fun i=>(each i.1 wP).choose
  have hf:∀i:Fin n,∃row,K.R (·<w.heap.size) w (f i) row/\(∀j u,row[j]? =some u->w.cell? ((a.add (i.1*K.k)).add j)=some u)/\P (f i) (D i.1)/\row.length=K.k:=fun i=>(each i.1 wP).choose_spec
  have hx1:x.1=.slice ((List.range n).map D) ((List.range (m-n)).map fun j=>D (n+j)):=congrArg Prod.fst hx
  have hbk:Rows.uptoBulkAll ((List.range n).map D)<Rows.uptoBulk x.1:=by
   rw[hx1,Rows.uptoBulk];omega
  have hwt:DataW.weights asq t x.1=(((List.range n).map D).length+((List.range (m-n)).map fun j=>D (n+j)).length)*Tryz.prog.bytesOf e :: (DataW.weightsAll asq e ((List.range n).map D)++DataW.weightsAll asq e ((List.range (m-n)).map fun j=>D (n+j))):=by
   rw[hx1];simp only[DataW.weights,ht]
  refine⟨List.ofFn f,⟨some a,a.block,a.off,m,arG,by simp;unfold maxLen at hm;omega,fun h0=> ?_,⟨by simpa using hl,fun h=>by cases h⟩,fun h0=> ?_,fun i y hy=> ?_⟩,?_,fun h0=> ?_,fun y hy=> ?_⟩
  ·simp at h0
   exact congrArg some (plain h0).1
  ·simp at h0
   exact(plain h0).2
  ·rw[List.getElem?_ofFn]at hy
   split at hy
   ·rename_i hin
    cases hy
    obtain⟨row,h1,h2,_,_⟩:=hf ⟨i,hin⟩;refine⟨row,h1,fun j u hu=> ?_⟩;have h3:=h2 j u hu;obtain⟨h4,_⟩:=plain wP;rw[h4,Addr.add_lit,Addr.add_lit]at h3;exact h3
   ·cases hy
  ·have:=Um ((List.range n).map D)
   simp at this ⊢;omega
  ·refine⟨_,by rw[hwt];exact oh,?_⟩
   simp only[List.length_ofFn,List.length_map,List.length_range];exact Nat.mul_le_mul_right _ (Nat.le_add_right _ _)
  ·obtain⟨i,rfl⟩:=List.mem_ofFn.1 hy
   obtain⟨_,_,_,hp,_⟩:=hf i;have hm1:D i.1∈(List.range n).map D:=List.mem_map.2 ⟨i.1,arG,rfl⟩;refine⟨D i.1,hp,?_,fun k hk=> ?_⟩
   ·have:=aa0 hm1
    omega
   ·rw[hwt]
    exact List.mem_cons_of_mem _ (List.mem_append_left _ (QW hm1 hk))
theorem open_list {α:Type} {K:Kind α} {P:α->DataW H->Prop} (ht:Tryz.prog.underlying t=some (.slice e)) (hk:Tryz.prog.cellsOf e=K.k) (hk0:0<K.k)
  (el:∀(fuel:Nat) (cs:List Value) (x:DataW H × List MemPlace),cs.length=K.k->DataW.trod enc asq w 0 (fun _=>true) true fuel e cs=some x->∃y,K.R (·<w.heap.size) w y cs/\P y x.1)
  {fuel:Nat} {c:Value} {x:DataW H × List MemPlace} (h:DataW.trod enc asq w 0 (fun _=>true) true fuel t [c]=some x):
  ∃l,LB K (·<w.heap.size) w c l/\l.length<=Rows.uptoBulk x.1/\∀y∈l,∃d:DataW H,P y d/\Rows.uptoBulk d<=Rows.uptoBulk x.1:=by
 obtain⟨l,h1,h2,_,h4⟩:=KS ht hk hk0 el h;exact⟨l,h1,h2,fun y hy=>by obtain⟨d,a,b,_⟩:=h4 y hy;exact⟨d,a,b⟩⟩
theorem sG (ht:Tryz.prog.underlying t=some (.int .i64)) (fuel:Nat) (cs:List Value) (x:DataW H × List MemPlace) (h:DataW.trod enc asq w 0 (fun _=>true) true fuel t cs=some x):∃y:Int,cs=[.int .i64 y]/\lH y:=by
 obtain⟨n,rfl,rfl,hw⟩:=DataW.trod_int ht h;exact⟨n,rfl,wf_i64 hw⟩
theorem zJ (ht:Tryz.prog.underlying t=some .string) (fuel:Nat) (cs:List Value) (x:DataW H × List MemPlace) (h:DataW.trod enc asq w 0 (fun _=>true) true fuel t cs=some x):∃l:List UInt8,cs=[ax l]/\l.length<=9223372036854775807/\l.length<=Rows.uptoBulk x.1:=by
 obtain⟨s,rfl,rfl,hz⟩:=DataW.trod_string ht h;obtain⟨⟨d⟩⟩:=s;exact⟨d,rfl,hz,Nat.le_succ _⟩
theorem Qi (ht:Tryz.prog.underlying t=some .bool) (fuel:Nat) (cs:List Value) (x:DataW H × List MemPlace) (h:DataW.trod enc asq w 0 (fun _=>true) true fuel t cs=some x):∃b,cs=[.bool b]:=by
 obtain⟨b,rfl,rfl⟩:=DataW.trod_bool ht h;exact⟨b,rfl⟩
theorem ad2 {x:DataW H × List MemPlace} (h:DataW.trod enc asq w 0 (fun _=>true) true fuel 41 [c]=some x):∃l,LB dJ (·<w.heap.size) w c l/\l.length<=Rows.uptoBulk x.1/\∀y∈l,lH y:=by
 obtain⟨l,h1,h2,h3⟩:=open_list (K:=dJ) (P:=fun y _=>lH y) Tryz.underlying41 TA abD (fun fuel cs x _ h=>sG Tryz.underlying3 fuel cs x h) h;exact⟨l,h1,h2,fun y hy=>(h3 y hy).choose_spec.1⟩
theorem KT {x:DataW H × List MemPlace} (h:DataW.trod enc asq w 0 (fun _=>true) true fuel 24 [c]=some x):∃l,LB lG (·<w.heap.size) w c l/\l.length<=Rows.uptoBulk x.1:=by
 obtain⟨l,h1,h2,h3⟩:=open_list (K:=lG) (P:=fun y _=>True) Tryz.underlying24 TA abD (fun fuel cs x _ h=>by
  obtain⟨l,rfl,hz,_⟩:=zJ Tryz.underlying9 fuel cs x h;exact⟨l,⟨rfl,hz⟩,trivial⟩) h
 exact⟨l,h1,h2⟩
end
theorem O4:Tryz.prog.cellsOf 3=1:=TA
theorem cStr:Tryz.prog.cellsOf 9=1:=TA
theorem IC:Tryz.prog.cellsOf 4=1:=TA
theorem IE:Tryz.prog.cellsOf 66=1:=TA
theorem D8:Tryz.prog.cellsOf 22=1:=TA
theorem yR:Tryz.prog.cellsOf 51=1:=TA
theorem O5:Tryz.prog.cellsOf 52=1:=TA
theorem ad3:Tryz.prog.cellsOf 120=1:=TA
theorem D9:Tryz.prog.cellsOf 42=1:=TA
theorem yS:Tryz.prog.cellsOf 24=1:=TA
theorem IG:Tryz.prog.cellsOf 41=1:=TA
theorem anw:Tryz.prog.cellsOf 33=1:=TA
theorem alX:Tryz.prog.cellsOf 34=1:=TA
theorem anx:Tryz.prog.cellsOf 31=1:=TA
theorem Ea:Tryz.prog.cellsOf 23=1:=TA
theorem anz:Tryz.prog.cellsOf 32=1:=TA
theorem akY:Tryz.prog.cellsOf 39=1:=TA
theorem alY:Tryz.prog.cellsOf 40=1:=TA
theorem alZ:Tryz.prog.cellsOf 38=3:=TA
theorem akZ:Tryz.prog.cellsOf 36=2:=TA
section
variable {H : Type} {enc : TypeId × Value -> H} {w : World}
theorem ahw (fuel:Nat) (cs:List Value) (x:DataW H × List MemPlace) (hl:cs.length=9) (h:DataW.trod enc asq w 0 (fun _=>true) true fuel 54 cs=some x):∃y,gq.R (·<w.heap.size) w y cs/\True:=by
 match cs,hl with
 | [c0,c1,c2,c3,c4,c5,c6,c7,c8],_=>
  obtain⟨ys,n,_,_,_,hyl,hf⟩:=BZ Tryz.underlying54 h
  match ys,hyl with
  | [y0,y1,y2,y3,y4,y5,y6,y7,y8],_=>
   have f0:=hf 0 _ rfl;have f1:=hf 1 _ rfl;have f2:=hf 2 _ rfl;have f3:=hf 3 _ rfl;have f4:=hf 4 _ rfl;have f5:=hf 5 _ rfl;have f6:=hf 6 _ rfl;have f7:=hf 7 _ rfl;have f8:=hf 8 _ rfl;simp only[O4,cStr,IC,IE,D8,yR,O5,ad3,D9,yS,IG,anw,alX,anx,Ea,anz,akY,alY,alZ,akZ,ahv,DZ,JY,D7,yQ,Y6]at f0 f1 f2 f3 f4 f5 f6 f7 f8;obtain⟨s0,e0,z0,_⟩:=zJ Tryz.underlying9 _ _ _ f0
   cases e0
   obtain⟨s1,e1,z1,_⟩:=zJ Tryz.underlying9 _ _ _ f1
   cases e1
   obtain⟨b2,e2⟩:=Qi Tryz.underlying4 _ _ _ f2
   cases e2
   obtain⟨b4,e4⟩:=Qi Tryz.underlying4 _ _ _ f4
   cases e4
   obtain⟨b6,e6⟩:=Qi Tryz.underlying4 _ _ _ f6
   cases e6
   obtain⟨n3,e3,i3⟩:=sG Tryz.underlying51 _ _ _ f3
   cases e3
   obtain⟨n5,e5,i5⟩:=sG Tryz.underlying52 _ _ _ f5
   cases e5
   obtain⟨n7,e7,i7⟩:=sG Tryz.underlying3 _ _ _ f7
   cases e7
   obtain⟨n8,e8,i8⟩:=sG Tryz.underlying3 _ _ _ f8
   cases e8
   exact⟨⟨s0,s1,b2,n3,b4,n5,b6,n7,n8⟩,⟨rfl,⟨z0,z1,i3,i5,i7,i8⟩⟩,trivial⟩
end
theorem KU:Tryz.prog.cellsOf 54=9:=TA
theorem Gv:Tryz.prog.cellsOf 61=1:=TA
theorem yT:Tryz.prog.cellsOf 55=1:=TA
theorem cOp:Tryz.prog.cellsOf 56=1:=TA
theorem Gw:Tryz.prog.cellsOf 58=5:=TA
theorem KV:Tryz.prog.cellsOf 69=1:=TA
theorem Gx:Tryz.prog.cellsOf 25=1:=TA
theorem KW:Tryz.prog.cellsOf 26=1:=TA
theorem anA:Tryz.prog.cellsOf 28=9:=TA
theorem aoF:Tryz.prog.bytesOf 9=16:=TA
theorem anB:Tryz.prog.bytesOf 81=40:=TA
section
variable {H : Type} {enc : TypeId × Value -> H} {w : World}
theorem Un {x:DataW H × List MemPlace} (h:DataW.trod enc asq w 0 (fun _=>true) true fuel 24 [c]=some x):∃l,LB lG (·<w.heap.size) w c l/\((∀k∈DataW.weights asq 24 x.1,k<=reachBytes)->l.length*16<=140737488355328):=by
 obtain⟨l,h1,h2,h3,_⟩:=KS (K:=lG) (P:=fun y _=>True) Tryz.underlying24 TA abD (fun fuel cs x _ h=>by
  obtain⟨l,rfl,hz,_⟩:=zJ Tryz.underlying9 fuel cs x h;exact⟨l,⟨rfl,hz⟩,trivial⟩) h
 refine⟨l,h1,fun hre=> ?_⟩;rcases Nat.eq_zero_or_pos l.length with h0 | h0
 ·omega
 ·obtain⟨k,hk,hk2⟩:=h3 h0
  have h4:=hre k hk;rw[aoF]at hk2;unfold reachBytes at h4;omega
theorem ai1 (fuel:Nat) (cs:List Value) (x:DataW H × List MemPlace) (hl:cs.length=2) (h:DataW.trod enc asq w 0 (fun _=>true) true fuel 81 cs=some x):∃y,GU.R (·<w.heap.size) w y cs/\((∀k∈DataW.weights asq 81 x.1,k<=reachBytes)->y.asi.length*16<=140737488355328):=by
 match cs,hl with
 | [c0,c1],_=>
  obtain⟨O6,nf,_,hxf,_,Gy,hf⟩:=BZ Tryz.underlying81 h
  match O6,Gy with
  | [y0,y1],_=>
   have f0:=hf 0 _ rfl;have f1:=hf 1 _ rfl;simp only[Value.cells,O4,cStr,IC,IE,D8,yR,O5,D9,yS,IG,Ea,KU,Gv,yT,cOp,Gw,KV,Gx,KW,ahv,DZ,JY,D7,yQ,Y6]at f0 f1;obtain⟨s,e0,hz,_⟩:=zJ Tryz.underlying9 _ _ _ f0
   cases e0
   obtain⟨l,h2,h3⟩:=Un f1;refine⟨⟨s,l⟩,⟨c1,rfl,h2,hz⟩,fun hre=>h3 (fun k hk=>hre k ?_)⟩;have hd:x.1=.agg [y0.1,y1.1]:=congrArg Prod.fst hxf;rw[hd];simp only[DataW.weights,Tryz.underlying81,Sn,aaT,DataW.weightsEach,D5];simp only[hk,true_or,or_true]
theorem ak0 (fuel:Nat) (cs:List Value) (x:DataW H × List MemPlace) (hl:cs.length=9) (h:DataW.trod enc asq w 0 (fun _=>true) true fuel 60 cs=some x):∃y,Kn.R (·<w.heap.size) w y cs/\True:=by
 match cs,hl with
 | [c0,c1,c2,c3,c4,c5,c6,c7,c8],_=>
  obtain⟨O6,nf,_,hxf,_,Gy,hf⟩:=BZ Tryz.underlying60 h
  match O6,Gy with
  | [y0,y1,y2,y3,y4],_=>
   have f0:=hf 0 _ rfl;have f1:=hf 1 _ rfl;have f2:=hf 2 _ rfl;have f3:=hf 3 _ rfl;have f4:=hf 4 _ rfl;simp only[Value.cells,O4,cStr,IC,IE,D8,yR,O5,D9,yS,IG,Ea,KU,Gv,yT,cOp,Gw,KV,Gx,KW,ahv,DZ,JY,D7,yQ,Y6]at f0 f1 f2 f3 f4;obtain⟨n0,e0,i0⟩:=sG Tryz.underlying55 _ _ _ f0
   cases e0
   obtain⟨n6,e6,i6⟩:=sG Tryz.underlying3 _ _ _ f2
   cases e6
   obtain⟨s7,e7,z7,_⟩:=zJ Tryz.underlying9 _ _ _ f3
   cases e7
   obtain⟨s8,e8,z8,_⟩:=zJ Tryz.underlying9 _ _ _ f4
   cases e8
   obtain⟨ysg,ng,_,hxg,_,aoG,hg⟩:=BZ Tryz.underlying58 f1
   match ysg,aoG with
   | [z0,z1,z2,z3,z4],_=>
    have g0:=hg 0 _ rfl;have g1:=hg 1 _ rfl;have g2:=hg 2 _ rfl;have g3:=hg 3 _ rfl;have g4:=hg 4 _ rfl;simp only[Value.cells,O4,cStr,IC,IE,D8,yR,O5,D9,yS,IG,Ea,KU,Gv,yT,cOp,Gw,KV,Gx,KW,ahv,DZ,JY,D7,yQ,Y6]at g0 g1 g2 g3 g4;obtain⟨n1,e1,i1⟩:=sG Tryz.underlying56 _ _ _ g0
    cases e1
    obtain⟨n2,e2,i2⟩:=sG Tryz.underlying3 _ _ _ g1
    cases e2
    obtain⟨n3,e3,i3⟩:=sG Tryz.underlying3 _ _ _ g2
    cases e3
    obtain⟨n4,e4,i4⟩:=sG Tryz.underlying3 _ _ _ g3
    cases e4
    obtain⟨n5,e5,i5⟩:=sG Tryz.underlying3 _ _ _ g4
    cases e5
    exact⟨⟨n0,⟨n1,n2,n3,n4,n5⟩,n6,s7,s8⟩,⟨rfl,⟨i0,⟨i1,i2,i3,i4,i5⟩,i6,z7,z8⟩⟩,trivial⟩
theorem al0 (fuel:Nat) (cs:List Value) (x:DataW H × List MemPlace) (hl:cs.length=4) (h:DataW.trod enc asq w 0 (fun _=>true) true fuel 127 cs=some x):∃y,WE.R (·<w.heap.size) w y cs/\True:=by
 match cs,hl with
 | [c0,c1,c2,c3],_=>
  obtain⟨O6,nf,_,hxf,_,Gy,hf⟩:=BZ Tryz.underlying127 h
  match O6,Gy with
  | [y0,y1,y2,y3],_=>
   have f0:=hf 0 _ rfl;have f1:=hf 1 _ rfl;have f2:=hf 2 _ rfl;have f3:=hf 3 _ rfl;simp only[Value.cells,O4,cStr,IC,IE,D8,yR,O5,D9,yS,IG,Ea,KU,Gv,yT,cOp,Gw,KV,Gx,KW,ahv,DZ,JY,D7,yQ,Y6]at f0 f1 f2 f3;obtain⟨n0,e0,i0⟩:=sG Tryz.underlying3 _ _ _ f0
   cases e0
   obtain⟨s1,e1,z1,_⟩:=zJ Tryz.underlying9 _ _ _ f1
   cases e1
   obtain⟨s2,e2,z2,_⟩:=zJ Tryz.underlying9 _ _ _ f2
   cases e2
   obtain⟨n3,e3,i3⟩:=sG Tryz.underlying3 _ _ _ f3
   cases e3
   exact⟨⟨n0,s1,s2,n3⟩,⟨rfl,i0,i3,z1,z2⟩,trivial⟩
theorem ak1 (fuel:Nat) (cs:List Value) (x:DataW H × List MemPlace) (hl:cs.length=10) (h:DataW.trod enc asq w 0 (fun _=>true) true fuel 63 cs=some x):∃y,G6.R (·<w.heap.size) w y cs/\True:=by
 match cs,hl with
 | [c0,c1,c2,c3,c4,c5,c6,c7,c8,c9],_=>
  obtain⟨O6,nf,_,hxf,_,Gy,hf⟩:=BZ Tryz.underlying63 h
  match O6,Gy with
  | [y0,y1],_=>
   have f0:=hf 0 _ rfl;have f1:=hf 1 _ rfl;simp only[Value.cells,O4,cStr,IC,IE,D8,yR,O5,D9,yS,IG,Ea,KU,Gv,yT,cOp,Gw,KV,Gx,KW,ahv,DZ,JY,D7,yQ,Y6]at f0 f1;obtain⟨ys,⟨hs,hok⟩,_⟩:=ahw _ _ _ rfl f0;obtain⟨l,h2,_,_⟩:=open_list (K:=Kn) (P:=fun _ _=>True) Tryz.underlying61 TA abD (fun fuel cs x hl h=>ak0 fuel cs x hl h) f1;exact⟨⟨ys,l⟩,⟨c9,by rw[<-hs];rfl,h2,hok⟩,trivial⟩
theorem al1 (fuel:Nat) (cs:List Value) (x:DataW H × List MemPlace) (hl:cs.length=12) (h:DataW.trod enc asq w 0 (fun _=>true) true fuel 71 cs=some x):∃y,Zu.R (·<w.heap.size) w y cs/\(∀n∈y.ar8,lH n):=by
 match cs,hl with
 | [c0,c1,c2,c3,c4,c5,c6,c7,c8,c9,c10,c11],_=>
  obtain⟨O6,nf,_,hxf,_,Gy,hf⟩:=BZ Tryz.underlying71 h
  match O6,Gy with
  | [y0,y1,y2,y3],_=>
   have f0:=hf 0 _ rfl;have f1:=hf 1 _ rfl;have f2:=hf 2 _ rfl;have f3:=hf 3 _ rfl;simp only[Value.cells,O4,cStr,IC,IE,D8,yR,O5,D9,yS,IG,Ea,KU,Gv,yT,cOp,Gw,KV,Gx,KW,ahv,DZ,JY,D7,yQ,Y6]at f0 f1 f2 f3;obtain⟨ys,⟨hs,hok⟩,_⟩:=ahw _ _ _ rfl f0;obtain⟨l,h2,_,hr⟩:=ad2 f1;obtain⟨rs,h3,_,_⟩:=open_list (K:=WE) (P:=fun _ _=>True) Tryz.underlying69 TA abD (fun fuel cs x hl h=>al0 fuel cs x hl h) f2;obtain⟨b,eb⟩:=Qi Tryz.underlying4 _ _ _ f3
   cases eb
   exact⟨⟨ys,l,rs,b⟩,⟨c9,c10,by rw[<-hs];rfl,h2,h3,hok⟩,hr⟩
theorem ahx {base:Nat} {v:Value} {d:DataW H} {p:List MemPlace} (hv:Value.okWide asq w .any base 28 v) (h:DataW.Trod enc asq w 0 (fun _=>true) true 28 v d p) (hsz:∀k∈DataW.weights asq 28 d,k<=reachBytes):
  ∃sv s,v=.agg (kL sv s).toArray/\gB (·<w.heap.size) w sv s/\s.aF.length*16<=140737488355328/\s.ar6.length*40<=140737488355328/\(∀n∈s.ar6,n.asi.length*16<=140737488355328)/\∀v∈s.vars,∀n∈v.ar8,lH n:=by
 obtain⟨cs,rfl,hcz⟩:=okWide_struct Tryz.underlying28 hv;obtain⟨l⟩:=cs
 match l,hcz.trans anA with
 | [c0,c1,c2,c3,c4,c5,c6,c7,c8],_=>
  obtain⟨fuel,hf0⟩:=h;obtain⟨O6,nf,_,hxf,_,Gy,hf⟩:=BZ Tryz.underlying28 hf0
  match O6,Gy with
  | [y0,y1,y2,y3,y4,y5,y6,y7,y8],_=>
   have f0:=hf 0 _ rfl;have f1:=hf 1 _ rfl;have f2:=hf 2 _ rfl;have f3:=hf 3 _ rfl;have f4:=hf 4 _ rfl;have f5:=hf 5 _ rfl;have f6:=hf 6 _ rfl;have f7:=hf 7 _ rfl;have f8:=hf 8 _ rfl;simp only[Value.cells,O4,cStr,IC,IE,D8,yR,O5,D9,yS,IG,Ea,KU,Gv,yT,cOp,Gw,KV,Gx,KW,ahv,DZ,JY,D7,yQ,Y6]at f0 f1 f2 f3 f4 f5 f6 f7 f8;have hd:d=.agg [y0.1,y1.1,y2.1,y3.1,y4.1,y5.1,y6.1,y7.1,y8.1]:=congrArg Prod.fst hxf
   have hw2:∀k∈DataW.weights asq 23 y2.1,k<=reachBytes:=fun k hk=>hsz k (by
    rw[hd];simp only[DataW.weights,Tryz.underlying28,Sn,aaT,DataW.weightsEach,D5];simp only[hk,true_or,or_true])
   have hw3:∀k∈DataW.weights asq 24 y3.1,k<=reachBytes:=fun k hk=>hsz k (by
    rw[hd];simp only[DataW.weights,Tryz.underlying28,Sn,aaT,DataW.weightsEach,D5];simp only[hk,true_or,or_true])
   obtain⟨arT,e0,z0,_⟩:=zJ Tryz.underlying9 _ _ _ f0
   cases e0
   obtain⟨ar4,e1,i1⟩:=sG Tryz.underlying22 _ _ _ f1
   cases e1
   obtain⟨needs,h2,_,g2,g2'⟩:=KS (K:=GU) (P:=fun y d=>(∀k∈DataW.weights asq 81 d,k<=reachBytes)->y.asi.length*16<=140737488355328) Tryz.underlying23 TA abD (fun fuel cs x hl h=>ai1 fuel cs x hl h) f2;obtain⟨aF,h3,g3⟩:=Un f3;obtain⟨ar2,h4,_,_⟩:=open_list (K:=G6) (P:=fun _ _=>True) Tryz.underlying25 TA abD (fun fuel cs x hl h=>ak1 fuel cs x hl h) f4;obtain⟨vars,h5,_,g5⟩:=open_list (K:=Zu) (P:=fun y _=>∀n∈y.ar8,lH n) Tryz.underlying26 TA abD (fun fuel cs x hl h=>al1 fuel cs x hl h) f5;obtain⟨ar1,h6,_⟩:=KT f6;obtain⟨asb,h7,_⟩:=KT f7;obtain⟨aP,h8,_⟩:=KT f8;refine⟨⟨c2,c3,c4,c5,c6,c7,c8⟩,⟨arT,ar4,needs,aF,ar2,vars,ar1,asb,aP⟩,rfl,⟨h2,h3,h4,h5,h6,h7,h8,z0,i1⟩,g3 hw3,?_,fun n hn=> ?_,fun v hv=>(g5 v hv).choose_spec.1⟩
   ·show needs.length*40<=_
    rcases Nat.eq_zero_or_pos needs.length with h0 | h0
    ·omega
    ·obtain⟨k,hk,hk2⟩:=g2 h0
     have h9:=hw2 k hk;rw[anB]at hk2;unfold reachBytes at h9;omega
   ·obtain⟨dn,hp,_,hwn⟩:=g2' n hn
    exact hp (fun k hk=>hw2 k (hwn k hk))
end
theorem WU (hM:gM B pb w sv s v p) (hB:B<=w) (hl:p.sz+s.ar2.length<=900000):
  Calls asq 65 #[aQ pb] w fun r w'=>∃code,r=.returned (ah code)/\fF p (s.ar2.foldl (fun p f=>p.func f) p) code/\iV B pb sv s v w [] (s.ar2.foldl (fun p f=>p.func f) p) w':=by
 have HM:=aj hM;obtain⟨fa,fb,fo,fc,hf,hfm,_,hat⟩:=hM.spec.ar2.at;have dP:=aj hat;have ha:=hat.addr;have qm:=aj hf;have HF:=aj (fun (q:aA) (f:eH)=>adR q f);obtain ⟨fs,hfs⟩:=aiG s.ar2;obtain ⟨n,hn⟩:=aiG s.ar2.length;rw[<-hn]at qm hfm ha hl;rw[<-hfs]at dP hn ⊢;have Hn:=aj hn;have ug:Hid (∀ {bs:List (Nat × Obj)} {q:aA} {w1:World},iV B pb sv s v w bs q w1->w1.cell? (ak pb 4)=some (.slice fa n fc)):=aj (fun h=>by rw[h.spec 4 _ rfl,qm.af])
 have lX:Hid (∀k,((fs.take k).foldl (fun p f=>p.func f) p).sz<=900000):=aj (fun k=>by
  have h1:=gm (F:=fun(p:aA) (f:eH)=>p.func f) (c:=1) JM (fs.take k) p;rw[og]at h1;have h2:min k fs.length<=fs.length:=Fe _ _;omega)
 clear hM hf hat hn hfs qm;go_enter Tryz.func65,Tryz.ntmps65;go_wp2;go_loopw [3,4] (fun e i wr=>∃(k:Nat) (c:Int),e=ah c/\i=ah k/\k<=n/\fF p ((fs.take k).foldl (fun p f=>p.func f) p) c/\iV B pb sv s v w [] ((fs.take k).foldl (fun p f=>p.func f) p) wr) (fun _ i _=>n-(intOf i).toNat);exact⟨0,0,rfl,rfl,alg _,fF.refl _,HM.af.Qn⟩;obtain⟨k,c,rfl,rfl,hk,ht,hr⟩:=hrel;have HT:=aj ht;have HR:=aj hr;have c4:=ug.af hr;clear ht hr;by_cases hlt:k<n
 ·obtain rfl:=ha wP
  obtain⟨f,hf⟩:∃f,fs[k]? =some f:=⟨_,gP (by rw[<-Hn.af];exact hlt)⟩;have hkn:(k:Int)<(n:Int):=wP;obtain⟨lv,hlv,hso,g0,g1,g2,g3,g4,g5,g6,g7,g8,g9⟩:=dP.af.xJ (HR.af.low HM.af hB) k f hf;obtain⟨la,lc,rfl⟩:=hlv.form;have tQ:=aj hso;have xS:=aj (jm (F:=fun(p:aA) (f:eH)=>p.func f) hf p);have hz:=lX.af k;obtain ⟨q,hq⟩:=aiG ((fs.take k).foldl (fun p f=>p.func f) p);rw[<-hq]at HR HT xS hz;obtain ⟨m,hm⟩:=aiG f.ar5.length;have O7:=aj (HT.af.trans (HF.af q f));rw[<-hm]at g9 O7;clear hq hf hso hlv hm HT;have FA:=aj (ah2 wr (aB #[aK,aK,.bool false,ah 0,.bool false,ah 0,.bool false,ah 0,ah 0,au] 63));have jC:=aj (HR.af.row hB (#[aK,aK,.bool false,ah 0,.bool false,ah 0,.bool false,ah 0,ah 0,au]) ((arV f la m lc)) 63 rfl);go_upto_region 6 with (refine Bv rfl 63 (.tmp 5) (.tmp 23) rfl wr.heap.size (#[ax f.sym.arT,ax f.sym.asc,.bool f.sym.old,.int .i64 f.sym.ar3,.bool f.sym.ar1,.int .i64 f.sym.bq,.bool f.sym.asg,.int .i64 f.sym.value,.int .i64 f.sym.size,.slice la m lc]) rfl rfl _ _ FA.af TA rfl (by simp[Value.oneCell']) ?_)
  simp only[Act.put];clear g0 g1 g2 g3 g4 g5 g6 g7 g8 g9 FA HR c4;obtain ⟨bx,hbx⟩:=aiG ([(wr.heap.size,.cells ((arV f la m lc)) 63 (0,0))]:List (Nat × Obj));have iY:Hid ((wr.heap.size,Obj.cells ((arV f la m lc)) 63 (0,0))∈bx):=aj (by rw[hbx];exact oh ..);rw[<-hbx]at jC;generalize (wr.alloc (aB #[aK,aK,.bool false,ah 0,.bool false,ah 0,.bool false,ah 0,ah 0,au] 63)).setRow wr.heap.size ((arV f la m lc))=w2 at *;generalize wr.heap.size=QX at *;clear hbx;have l9:w2.cell? (ak QX 9)=some (.slice la m lc):=jC.af.box iY.af 9 _ rfl;obtain ⟨cd,hcd⟩:=aiG (if (rY m)=true then 101 else 0:Int);have HW0:=aj (fun w=>lQ w (rY m) 101);rw[<-hcd]at HW0;rw[<-hcd]at O7;have zk:Hid (rY m=(decide ((m:Int)<1)||decide (256<(m:Int)))):=aj (by unfold rY;congr 1<;>(apply decide_eq_decide.2;omega));clear hcd;go_cut [3]from 6 to 49 (fun e wx=>e=ah (gu c cd)/\wx=w2)
  case first=>
   by_cases h1:m<1
   ·have hd:=Tz h1
    have iR:Hid (∀w,Calls asq 25 #[.bool true,ah 101] w fun e w'=>e=.returned (ah cd)/\w'=w):=aj (by have h:=HW0.af;rw[hd]at h;exact h);clear HW0;go_wp2_with fail;refine(iR.af _).mono ?_;rintro r w9 ⟨rfl,rfl⟩;go_wp2_with fail;refine(dR _ _ _).mono ?_;rintro r w9 ⟨rfl,rfl⟩;go_wp2;go_meet;exact⟨rfl,rfl⟩
   ·have iR:Hid (∀w,Calls asq 25 #[.bool (decide ((m:Int)<1)||decide (256<(m:Int))),ah 101] w fun e w'=>e=.returned (ah cd)/\w'=w):=aj (by have h:=HW0.af;rw[zk.af]at h;exact h)
    clear HW0 zk;go_wp2_with fail;refine(iR.af _).mono ?_;rintro r w9 ⟨rfl,rfl⟩;go_wp2_with fail;refine(dR _ _ _).mono ?_;rintro r w9 ⟨rfl,rfl⟩;go_wp2;go_meet;exact⟨rfl,rfl⟩
  case rest=>
  obtain⟨rfl,rfl⟩:=hcut;rename World=>w2
  clear l9 HW0 zk;have l3:w2.cell? (ak QX 3)=some (ah f.sym.ar3):=jC.af.box iY.af 3 _ rfl;obtain ⟨ce,hce⟩:=aiG (if (!decide (f.sym.ar3=1))=true then 100 else 0:Int);have HW1:=aj (fun w=>lQ w (!decide (f.sym.ar3=1)) 100);rw[<-hce]at HW1;rw[<-hce]at O7;clear hce;go_wp2_with fail;refine(HW1.af _).mono ?_;rintro r w9 ⟨rfl,h9⟩;obtain rfl:w2=w9:=h9.symm;go_wp2_with fail;refine(dR _ _ _).mono ?_;rintro r w9 ⟨rfl,h9⟩;obtain rfl:w2=w9:=h9.symm;clear HW1;have l0:w2.cell? (ak QX 0)=some (ax f.sym.arT):=jC.af.box iY.af 0 _ rfl;have l1:w2.cell? (ak QX 1)=some (ax f.sym.asc):=jC.af.box iY.af 1 _ rfl;have l2:w2.cell? (ak QX 2)=some (.bool f.sym.old):=jC.af.box iY.af 2 _ rfl;have l4:w2.cell? (ak QX 4)=some (.bool f.sym.ar1):=jC.af.box iY.af 4 _ rfl;have l5:w2.cell? (ak QX 5)=some (ah f.sym.bq):=jC.af.box iY.af 5 _ rfl;have l6:w2.cell? (ak QX 6)=some (.bool f.sym.asg):=jC.af.box iY.af 6 _ rfl;have l7:w2.cell? (ak QX 7)=some (ah f.sym.value):=jC.af.box iY.af 7 _ rfl;have l8:w2.cell? (ak QX 8)=some (ah f.sym.size):=jC.af.box iY.af 8 _ rfl;have hD:=jC.af.asg f.sym tQ.af wP hB;obtain ⟨cf,hcf⟩:=aiG (if (!bC (cB f.sym)||q.av.any fun t=>gT t (cB f.sym))=true then 100 else 0:Int);rw[<-hcf]at hD O7;have HD:=aj hD;clear hD hcf;go_wp2_with fail;refine HD.af.mono ?_;rintro r w3 ⟨rfl,h3⟩;have H3:Hid (iV B pb sv s v w [] (q.func f) w3):=aj ((h3.sub (fun b hb=>by cases hb)).same (by rw[XE]) (by unfold aA.func aA.define;simp) (by unfold aA.func aA.define;simp));clear h3 l0 l1 l2 l3 l4 l5 l6 l7 l8;go_wp2_with fail;refine(dR _ _ _).mono ?_;rintro r w9 ⟨rfl,rfl⟩;go_wp2;go_roundw;exact⟨k+1,_,rfl,arH,wP,by rw[xS.af];have h:=O7.af;rwa [<-BJ,<-BJ]at h,by rw[xS.af];exact H3.af⟩;simp[intOf];omega
 ·have HE:Hid (fF p (fs.foldl (fun p f=>p.func f) p) c/\iV B pb sv s v w [] (fs.foldl (fun p f=>p.func f) p) wr):=aj (by
   have h1:=HT.af;have h2:=HR.af;rw[dh (by have:=Hn.af;omega)]at h1 h2;exact⟨h1,h2⟩)
  go_wp2;go_ret;exact⟨c,rfl,HE.af.1,HE.af.2⟩
theorem ak2 (f:Int):(f.tmod 2==0)= !I9 f:=by
 have h:f.tmod 2=0↔f%2=0:=⟨fun h=>Int.emod_eq_zero_of_dvd (Int.dvd_of_tmod_eq_zero h),fun h=>Int.tmod_eq_zero_of_dvd (Int.dvd_of_emod_eq_zero h)⟩;unfold I9;rw[Bool.eq_iff_iff];simp[h];omega
theorem WV (hM:gM B pb w sv s v p) (hB:B<=w) (hl:p.sz+s.vars.length<=900000):
  Calls asq 66 #[aQ pb] w fun r w'=>∃code,r=.returned (ah code)/\fF p (s.vars.foldl (fun p v=>p.var s.ar4 v) p) code/\iV B pb sv s v w [] (s.vars.foldl (fun p v=>p.var s.ar4 v) p) w':=by
 have HM:=aj hM;obtain⟨va,vb,vo,vc,hf,xQ,_,hat⟩:=hM.spec.vars.at;have dP:=aj hat;have ha:=hat.addr;have qm:=aj hf;have HD0:=aj (fun (q:aA) (x:dx)=>ahl q s.ar4 x);obtain ⟨vs,hvs⟩:=aiG s.vars;obtain ⟨n,hn⟩:=aiG s.vars.length;rw[<-hn]at qm xQ ha hl;rw[<-hvs]at dP hn ⊢;have Hn:=aj hn;have DT:Hid (∀ {bs:List (Nat × Obj)} {q:aA} {w1:World},iV B pb sv s v w bs q w1->w1.cell? (ak pb 5)=some (.slice va n vc)):=aj (fun h=>by rw[h.spec 5 _ rfl,qm.af])
 have lX:Hid (∀k,((vs.take k).foldl (fun p v=>p.var s.ar4 v) p).sz<=900000):=aj (fun k=>by
  have h1:=gm (F:=fun(p:aA) (v:dx)=>p.var s.ar4 v) (c:=1) (fun p v=>Ot p s.ar4 v) (vs.take k) p;rw[og]at h1;have h2:min k vs.length<=vs.length:=Fe _ _;omega)
 have Hod:=aj (ak2 s.ar4);clear hM hf hat hn hvs qm;go_enter Tryz.func66,Tryz.ntmps66;go_wp2;go_loopw [3,4] (fun e i wr=>∃(k:Nat) (c:Int),e=ah c/\i=ah k/\k<=n/\fF p ((vs.take k).foldl (fun p v=>p.var s.ar4 v) p) c/\iV B pb sv s v w [] ((vs.take k).foldl (fun p v=>p.var s.ar4 v) p) wr) (fun _ i _=>n-(intOf i).toNat);exact⟨0,0,rfl,rfl,alg _,fF.refl _,HM.af.Qn⟩;rename World=>w1
 obtain⟨k,c,rfl,rfl,hk,ht,hr⟩:=hrel;have HT:=aj ht;have HR:=aj hr;have c5:=DT.af hr;clear ht hr;by_cases hlt:k<n
 ·obtain rfl:=ha wP
  obtain⟨x,hx⟩:∃x,vs[k]? =some x:=⟨_,gP (by rw[<-Hn.af];exact hlt)⟩;have hkn:(k:Int)<(n:Int):=wP;obtain⟨wv,rv,hwv,kD,hso,g0,g1,g2,g3,g4,g5,g6,g7,g8,g9,g10,g11⟩:=dP.af.rZ (HR.af.low HM.af hB) k x hx;obtain⟨wa,wc,rfl⟩:=hwv.form;obtain⟨ra,rb,ro,rc,rfl,hrm,_,j3⟩:=kD.at;have qh:=aj j3;have hra:=j3.addr;have tQ:=aj hso;have xS:=aj (jm (F:=fun(p:aA) (v:dx)=>p.var s.ar4 v) hx p);have hz:=lX.af k;obtain ⟨q,hq⟩:=aiG ((vs.take k).foldl (fun p v=>p.var s.ar4 v) p);rw[<-hq]at HR HT xS hz;have O7:=aj (HT.af.trans (HD0.af q x));obtain ⟨rs,hrs⟩:=aiG x.ash;obtain ⟨m,hm⟩:=aiG x.ar8.length;obtain ⟨n2,hn2⟩:=aiG x.ash.length;have xh:=aj (fun (last:Int) (r:gH)=>(show qp x last r=(decide (r.asl<=last)||decide ((x.ar8.length:Int)<=r.asl)|| !decide (x.sym.ar3=2))from rfl));obtain ⟨od,hod⟩:=aiG ((x.copied&&(!I9 s.ar4|| !decide (x.sym.ar3=2)||decide (0<x.ash.length))));have Nv:Hid (mq s.ar4 x=(decide (m<1)||decide (256<m)||decide (x.sym.ar3=1)||od)):=aj (by rw[hod,hm];rfl);have HVn:Hid (q.var s.ar4 x=gZ x (-1) rs (q.WS s.ar4 x)):=aj (by rw[hrs];rfl);have QY:=aj (fun (j:Nat) (r:gH) (h:rs[j]? =some r)=>ahm x h (q.WS s.ar4 x));rw[<-hm]at g9 xh;rw[<-hn2]at g10 hrm hra hod;rw[<-hrs]at qh hn2;have Hn2:=aj hn2;have RY:=aj hod;clear hq hx hso hwv kD hm hrs hn2 j3 HT hod;have FA:=aj (ah2 w1 (aB arZ 71));have jC:=aj (HR.af.row hB (arZ) ((arU x wa m wc ra n2 rc)) 71 rfl);have sU:=aj (HR.af.low HM.af hB);go_upto_region 6 with (refine Bv rfl 71 (.tmp 5) (.tmp 27) rfl w1.heap.size (#[ax x.sym.arT,ax x.sym.asc,.bool x.sym.old,.int .i64 x.sym.ar3,.bool x.sym.ar1,.int .i64 x.sym.bq,.bool x.sym.asg,.int .i64 x.sym.value,.int .i64 x.sym.size,.slice wa m wc,.slice ra n2 rc,.bool x.copied]) rfl rfl _ _ FA.af TA rfl (by simp[Value.oneCell']) ?_)
  simp only[Act.put];clear g0 g1 g2 g3 g4 g5 g6 g7 g8 g9 g10 g11 FA HR c5;obtain ⟨bx,hbx⟩:=aiG ([(w1.heap.size,.cells ((arU x wa m wc ra n2 rc)) 71 (0,0))]:List (Nat × Obj));have iY:Hid ((w1.heap.size,Obj.cells ((arU x wa m wc ra n2 rc)) 71 (0,0))∈bx):=aj (by rw[hbx];exact oh ..);rw[<-hbx]at jC;generalize (w1.alloc (aB arZ 71)).setRow w1.heap.size ((arU x wa m wc ra n2 rc))=w2 at *;generalize w1.heap.size=xb at *;clear hbx;have l3:w2.cell? (ak xb 3)=some (ah x.sym.ar3):=jC.af.box iY.af 3 _ rfl;have l10:w2.cell? (ak xb 10)=some (.slice ra n2 rc):=jC.af.box iY.af 10 _ rfl;have qj:w2.cell? (ak xb 11)=some (.bool x.copied):=jC.af.box iY.af 11 _ rfl;have c1:w2.cell? (ak pb 1)=some (ah s.ar4):=jC.af.spec 1 _ rfl;go_cut [6]from 10 to 111 (fun o wx=>o=.bool od/\wx=w2)
  case first=>
   clear O7
   cases hcp:x.copied with
   | false=>
    rw[hcp]at qj RY;have HO:Hid (od=false):=aj (by rw[RY.af];rfl);go_wp2;go_meet;exact⟨by rw[HO.af];first | done | rfl | (simp;done) | (simp;omega),rfl⟩
   | true=>
    rw[hcp]at qj RY;have aqR:=aj Hod.af
    cases hof:I9 s.ar4 with
    | false=>
     have HO:Hid (od=true):=aj (by rw[RY.af,hof];rfl);have hre:(s.ar4.tmod 2==0)=true:=by rw[Hod.af,hof];rfl
     go_wp2;go_meet;exact⟨by rw[HO.af];first | done | rfl | (simp;done) | (simp;omega),rfl⟩
    | true=>
     have hre:(s.ar4.tmod 2==0)=false:=by rw[Hod.af,hof];rfl
     by_cases h2:x.sym.ar3=2
     ·have hb:(x.sym.ar3 != 2)=false:=by simp[h2]
      have hO:od=decide (0<n2):=by rw[RY.af,hof];simp[h2]
      clear h2;by_cases h3:0<n2
      ·have HO:Hid (od=true):=aj (by rw[hO];simp[h3])
       have h3i:(0:Int)<(n2:Int):=wP;clear hO;go_wp2;go_meet;exact⟨by rw[HO.af];first | done | rfl | (simp;done) | (simp;omega),rfl⟩
      ·have HO:Hid (od=false):=aj (by rw[hO];simp[h3])
       have h3i:¬(0:Int)<(n2:Int):=wP;clear hO;go_wp2;go_meet;exact⟨by rw[HO.af];first | done | rfl | (simp;done) | (simp;omega),rfl⟩
     ·have hb:(x.sym.ar3 != 2)=true:=by simp[h2]
      have HO:Hid (od=true):=aj (by rw[RY.af,hof];simp[h2]);clear h2;go_wp2;go_meet;exact⟨by rw[HO.af];first | done | rfl | (simp;done) | (simp;omega),rfl⟩
  case rest=>
  obtain⟨rfl,rfl⟩:=hcut;rename World=>w2
  clear l10 qj c1 RY;go_upto_region 7 with fail
  have l9:w2.cell? (ak xb 9)=some (.slice wa m wc):=jC.af.box iY.af 9 _ rfl;obtain ⟨cd,hcd⟩:=aiG (if (mq s.ar4 x)=true then 102 else 0:Int);have HW0:=aj (fun w=>lQ w (mq s.ar4 x) 102);rw[<-hcd]at HW0;rw[<-hcd]at O7;clear hcd;go_cut [3]from 10 to 111 (fun e wx=>e=ah (gu c cd)/\wx=w2)
  case first=>
   by_cases h1:m<1
   ·have hd:mq s.ar4 x=true:=by rw[Nv.af];simp[h1]
    have iR:Hid (∀w,Calls asq 25 #[.bool true,ah 102] w fun e w'=>e=.returned (ah cd)/\w'=w):=aj (by have h:=HW0.af;rw[hd]at h;exact h);clear HW0;go_wp2_with fail;refine(iR.af _).mono ?_;rintro r w9 ⟨rfl,rfl⟩;go_wp2_with fail;refine(dR _ _ _).mono ?_;rintro r w9 ⟨rfl,rfl⟩;go_wp2;go_meet;exact⟨rfl,rfl⟩
   ·by_cases h2:256<m
    ·have hd:mq s.ar4 x=true:=by rw[Nv.af];simp[h2]
     have iR:Hid (∀w,Calls asq 25 #[.bool true,ah 102] w fun e w'=>e=.returned (ah cd)/\w'=w):=aj (by have h:=HW0.af;rw[hd]at h;exact h);clear HW0;go_wp2_with fail;refine(iR.af _).mono ?_;rintro r w9 ⟨rfl,rfl⟩;go_wp2_with fail;refine(dR _ _ _).mono ?_;rintro r w9 ⟨rfl,rfl⟩;go_wp2;go_meet;exact⟨rfl,rfl⟩
    ·by_cases h3:x.sym.ar3=1
     ·have hd:mq s.ar4 x=true:=by rw[Nv.af];simp[h3]
      have hb:(x.sym.ar3==1)=true:=by simp[h3]
      clear h3;have iR:Hid (∀w,Calls asq 25 #[.bool true,ah 102] w fun e w'=>e=.returned (ah cd)/\w'=w):=aj (by have h:=HW0.af;rw[hd]at h;exact h);clear HW0;go_wp2_with fail;refine(iR.af _).mono ?_;rintro r w9 ⟨rfl,rfl⟩;go_wp2_with fail;refine(dR _ _ _).mono ?_;rintro r w9 ⟨rfl,rfl⟩;go_wp2;go_meet;exact⟨rfl,rfl⟩
     ·have hb:(x.sym.ar3==1)=false:=by simp[h3]
      cases od with
      | true=>
       have hd:mq s.ar4 x=true:=by rw[Nv.af];simp
       clear h3;have iR:Hid (∀w,Calls asq 25 #[.bool true,ah 102] w fun e w'=>e=.returned (ah cd)/\w'=w):=aj (by have h:=HW0.af;rw[hd]at h;exact h);clear HW0;go_wp2_with fail;refine(iR.af _).mono ?_;rintro r w9 ⟨rfl,rfl⟩;go_wp2_with fail;refine(dR _ _ _).mono ?_;rintro r w9 ⟨rfl,rfl⟩;go_wp2;go_meet;exact⟨rfl,rfl⟩
      | false=>
       have hd:mq s.ar4 x=false:=by rw[Nv.af];simp[h1,h2,h3]
       have hbl:(decide ((m:Int)<1)||decide (256<(m:Int)))=false:=by simp;omega
       have iR:Hid (∀w,Calls asq 25 #[.bool (decide ((m:Int)<1)||decide (256<(m:Int))),ah 102] w fun e w'=>e=.returned (ah cd)/\w'=w):=aj (by have h:=HW0.af;rw[hd]at h;rw[hbl];exact h);clear HW0 h3 hbl hd;go_wp2_with fail;refine(iR.af _).mono ?_;rintro r w9 ⟨rfl,rfl⟩;go_wp2_with fail;refine(dR _ _ _).mono ?_;rintro r w9 ⟨rfl,rfl⟩;go_wp2;go_meet;exact⟨rfl,rfl⟩
  case rest=>
  obtain⟨rfl,rfl⟩:=hcut;rename World=>w2
  clear l9 HW0 Nv;have l0:w2.cell? (ak xb 0)=some (ax x.sym.arT):=jC.af.box iY.af 0 _ rfl;have l1:w2.cell? (ak xb 1)=some (ax x.sym.asc):=jC.af.box iY.af 1 _ rfl;have l2:w2.cell? (ak xb 2)=some (.bool x.sym.old):=jC.af.box iY.af 2 _ rfl;have l4:w2.cell? (ak xb 4)=some (.bool x.sym.ar1):=jC.af.box iY.af 4 _ rfl;have l5:w2.cell? (ak xb 5)=some (ah x.sym.bq):=jC.af.box iY.af 5 _ rfl;have l6:w2.cell? (ak xb 6)=some (.bool x.sym.asg):=jC.af.box iY.af 6 _ rfl;have l7:w2.cell? (ak xb 7)=some (ah x.sym.value):=jC.af.box iY.af 7 _ rfl;have l8:w2.cell? (ak xb 8)=some (ah x.sym.size):=jC.af.box iY.af 8 _ rfl;have hD:=jC.af.asg x.sym tQ.af wP hB;obtain ⟨cf,hcf⟩:=aiG (if (!bC (cB x.sym)||q.av.any fun t=>gT t (cB x.sym))=true then 100 else 0:Int);rw[<-hcf]at hD O7;have HD:=aj hD;clear hD hcf;go_wp2_with fail;refine HD.af.mono ?_;rintro r w3 ⟨rfl,h3⟩;have H3:=aj h3;clear h3 l0 l1 l2 l3 l4 l5 l6 l7 l8;go_wp2_with fail;refine(dR _ _ _).mono ?_;rintro r w9 ⟨rfl,h9⟩;obtain rfl:w3=w9:=h9.symm;have l3:w3.cell? (ak xb 3)=some (ah x.sym.ar3):=H3.af.box iY.af 3 _ rfl;have l9:w3.cell? (ak xb 9)=some (.slice wa m wc):=H3.af.box iY.af 9 _ rfl;have l10:w3.cell? (ak xb 10)=some (.slice ra n2 rc):=H3.af.box iY.af 10 _ rfl;obtain ⟨c1,hc1⟩:=aiG (gu (gu c cd) cf);have HT1:Hid (fF p (q.WS s.ar4 x) c1):=aj (by have h:=O7.af;rwa [<-BJ,<-hc1]at h);rw[<-hc1];have HQ:Hid (iV B pb sv s v w [] (q.var s.ar4 x) w3):=aj ((H3.af.sub (fun b hb=>by cases hb)).same (by rw[Zz]) (by unfold aA.var;rw[(Eu _ _ _ _).2.1];unfold aA.define;simp) (by unfold aA.var;rw[(Eu _ _ _ _).2.2];unfold aA.define;simp));have aoH:=aj (HQ.af.low HM.af hB);clear hc1 O7 sU;go_wp2_with fail;go_loop [3,7,8] (fun e last i=>∃(j:Nat) (z:Int),e=ah z/\last=ah (lastOf (-1) (rs.take j))/\i=ah j/\j<=n2/\fF p (gZ x (-1) (rs.take j) (q.WS s.ar4 x)) z) (fun _ _ i=>n2-(intOf i).toNat);exact⟨0,c1,rfl,rfl,rfl,alg _,HT1.af⟩;obtain⟨j,z,rfl,rfl,rfl,hj,ht⟩:=hrel;have HT:=aj ht;clear ht;by_cases hjt:j<n2
  ·obtain rfl:=hra wP
   obtain⟨r,hr⟩:∃r,rs[j]? =some r:=⟨_,gP (by rw[<-Hn2.af];exact hjt)⟩;have hjn:(j:Int)<(n2:Int):=wP;obtain⟨-,k0,-,-,-⟩:=(qh.af.below aoH.af).RH j r hr;have HTj:=aj (QY.af j r hr);have HTk:=aj (HT.af.trans HTj.af.1);obtain ⟨la,hla⟩:=aiG (lastOf (-1) (rs.take j));rw[<-hla]at HTk ⊢;have HBj:=aj (xh.af la r);clear hr hla HT;go_upto_region 14 with fail
   obtain ⟨cd,hcd⟩:=aiG (if (qp x la r)=true then 102 else 0:Int);have HW0:=aj (fun w=>lQ w (qp x la r) 102);rw[<-hcd]at HW0;rw[<-hcd]at HTk;clear hcd k0;go_cut [3]from 79 to 111 (fun e wx=>e=ah (gu z cd)/\wx=w3)
   case first=>
    by_cases h1:r.asl<=la
    ·have hd:qp x la r=true:=by rw[HBj.af];simp[h1]
     have iR:Hid (∀w,Calls asq 25 #[.bool true,ah 102] w fun e w'=>e=.returned (ah cd)/\w'=w):=aj (by have h:=HW0.af;rw[hd]at h;exact h);clear HW0;go_wp2_with fail;refine(iR.af _).mono ?_;rintro r w9 ⟨rfl,rfl⟩;go_wp2_with fail;refine(dR _ _ _).mono ?_;rintro r w9 ⟨rfl,rfl⟩;go_wp2;go_meet;exact⟨rfl,rfl⟩
    ·by_cases h2:(m:Int)<=r.asl
     ·have hd:qp x la r=true:=by rw[HBj.af];simp[h2]
      have iR:Hid (∀w,Calls asq 25 #[.bool true,ah 102] w fun e w'=>e=.returned (ah cd)/\w'=w):=aj (by have h:=HW0.af;rw[hd]at h;exact h);clear HW0;go_wp2_with fail;refine(iR.af _).mono ?_;rintro r w9 ⟨rfl,rfl⟩;go_wp2_with fail;refine(dR _ _ _).mono ?_;rintro r w9 ⟨rfl,rfl⟩;go_wp2;go_meet;exact⟨rfl,rfl⟩
     ·by_cases h3:x.sym.ar3=2
      ·have hd:qp x la r=false:=by rw[HBj.af];simp[h1,h2,h3]
       have hb:(x.sym.ar3 != 2)=false:=by simp[h3]
       clear h3;have iR:Hid (∀w,Calls asq 25 #[.bool false,ah 102] w fun e w'=>e=.returned (ah cd)/\w'=w):=aj (by have h:=HW0.af;rw[hd]at h;exact h);clear HW0;go_wp2_with fail;refine(iR.af _).mono ?_;rintro r w9 ⟨rfl,rfl⟩;go_wp2_with fail;refine(dR _ _ _).mono ?_;rintro r w9 ⟨rfl,rfl⟩;go_wp2;go_meet;exact⟨rfl,rfl⟩
      ·have hd:qp x la r=true:=by rw[HBj.af];simp[h3]
       have hb:(x.sym.ar3 != 2)=true:=by simp[h3]
       clear h3;have iR:Hid (∀w,Calls asq 25 #[.bool true,ah 102] w fun e w'=>e=.returned (ah cd)/\w'=w):=aj (by have h:=HW0.af;rw[hd]at h;exact h);clear HW0;go_wp2_with fail;refine(iR.af _).mono ?_;rintro r w9 ⟨rfl,rfl⟩;go_wp2_with fail;refine(dR _ _ _).mono ?_;rintro r w9 ⟨rfl,rfl⟩;go_wp2;go_meet;exact⟨rfl,rfl⟩
   case rest=>
   obtain⟨rfl,rfl⟩:=hcut;go_wp2;go_round;exact⟨j+1,_,rfl,by rw[HTj.af.2],arH,wP,HTk.af⟩;simp[intOf];omega
  ·have HE:Hid (fF p (q.var s.ar4 x) z):=aj (by
    have h:=HT.af;rw[dh (by have:=Hn2.af;omega)]at h;rw[HVn.af];exact h)
   go_wp2;go_roundw;exact⟨k+1,z,rfl,arH,wP,by rw[xS.af];exact HE.af,by rw[xS.af];exact HQ.af⟩;simp[intOf];omega
 ·have HE:Hid (fF p (vs.foldl (fun p v=>p.var s.ar4 v) p) c/\iV B pb sv s v w [] (vs.foldl (fun p v=>p.var s.ar4 v) p) w1):=aj (by
   have h1:=HT.af;have h2:=HR.af;rw[dh (by have:=Hn.af;omega)]at h1 h2;exact⟨h1,h2⟩)
  go_wp2;go_ret;exact⟨c,rfl,HE.af.1,HE.af.2⟩
theorem QZ {i:fu} (h:gJ i=true):∃f,nR[i.op.toNat]? =some f/\0<=i.op/\i.op<=22/\dQ (f.contains 97) 0 15 i.a=true/\dQ (f.contains 98) 0 15 i.b=true/\dQ (f.contains 99) 0 15 i.c=true/\dQ (f.contains 110) (-2147483648) 2147483647 i.bU=true:=by
 unfold gJ at h;rw[Kt,vW]at h
 cases hf:nR[i.op.toNat]? with
 | none=>rw[hf]at h;simp at h
 | some f=>
  rw[hf]at h;simp only[Option.map_some,Bool.and_eq_true,arI]at h;have hl:=(Sm.1 hf).1;have:nR.length=23:=rfl;exact⟨f,rfl,h.1,wP,h.2.1.1.1,h.2.1.1.2,h.2.1.2,h.2.2⟩
theorem qb {b:Bool} {lo hi x:Int} (h:dQ b lo hi x=true):lo<=x/\x<=hi:=by
 simp only[dQ,Bool.and_eq_true,arI]at h;exact⟨h.1.2,h.2⟩
theorem Yn (w:World) (op:Int) (f:List UInt8) (h0:0<=op) (hf:nR[op.toNat]? =some f):
    Calls asq 124 #[ah op] w fun e w'=>(∃nm,e=.returned (.tuple #[.string nm,ax f,.bool true]))/\w'=w:=by
  obtain⟨k,hk⟩:∃k:Nat,op=k:=⟨op.toNat,wP⟩;subst hk;rw[Int.toNat_natCast]at hf;clear h0;unfold nR at hf
  iterate 23
    rcases k with _ | k
    · simp only[yQ,Y6]at hf
      cases hf
      go_enter Tryz.func124,Tryz.ntmps124;go_wp2;go_ret3;exact⟨⟨_,rfl⟩,rfl⟩
    simp only[Y6]at hf
  cases hf
def wR (i:fu) (c:Int):Int:=if c=97 then i.a else if c=98 then i.b else if c=99 then i.c else i.bU
theorem Eb (w:World) (i:fu) (c:Int) (hc:c=97∨c=98∨c=99∨c=110):
    Calls asq 125 #[.agg (arW i),.int .u8 c] w fun e w'=>e=.returned (ah (wR i c))/\Below w w w':=by
  rcases hc with rfl | rfl | rfl | rfl<;>
  (go_enter Tryz.func125,Tryz.ntmps125
   go_wp2;go_ret;exact⟨rfl,(PZ _ _).alloc (oD _) _⟩)
theorem Db (w:World) (c n:Int) (hl:kN c<=n) (hh:n<=jA c):
    Calls asq 127 #[.int .u8 c,ah n] w fun e w'=>e=.returned (.bool true)/\w'=w:=by
  unfold kN at hl;unfold jA at hh;by_cases hc:c=110
  · subst hc
    rw[if_pos rfl]at hl hh;have h1:decide (-2147483648<=n)=true:=decide_eq_true hl;have h2:decide (n<=2147483647)=true:=decide_eq_true hh;go_enter Tryz.func127,Tryz.ntmps127;go_wp2;go_ret;exact⟨rfl,rfl⟩
  · rw[if_neg hc]at hl hh
    have e1:(c==110)=false:=by simp[hc]
    have h1:decide (0<=n)=true:=decide_eq_true hl;have h2:decide (n<=15)=true:=decide_eq_true hh;clear hc;go_enter Tryz.func127,Tryz.ntmps127;go_wp2;go_ret;exact⟨rfl,rfl⟩
theorem Q0 (h:nR[k]? =some f):f.length<=3:=by
  have:∀f∈nR,f.length<=3:=abD;exact this f (dH h)
theorem zK (w:World) (f:List UInt8) (c:UInt8) (cn:Nat) (hcn:c.toNat=cn) (hl:f.length<=3):
    Calls asq 126 #[ax f,.int .u8 cn] w fun e w'=>e=.returned (.bool (f.contains c))/\w'=w:=by
  have hsz:=size_mk f;obtain⟨bb,hbb⟩:∃bb,f.contains c=bb:=⟨_,rfl⟩;rw[hbb];have Hbb:=aj hbb;clear hbb;go_enter Tryz.func126,Tryz.ntmps126;go_wp2;go_loop [5] (fun q=>∃k:Nat,q=ah k/\k<=f.length/\∀x∈f.take k,x≠c) (fun q=>f.length-(intOf q).toNat);exact⟨0,rfl,alg _,arG⟩;obtain⟨k,rfl,hk,hno⟩:=hrel;have Hno:=aj hno;clear hno;by_cases hlt:k<f.length
  · obtain⟨x,hcx⟩:∃x,f[k]=x:=⟨_,rfl⟩
    have hx:(⟨f.toArray⟩:ByteArray)[k]'wP=x:=hcx;have Hs:Hid (f.take (k+1)=f.take k++[x]):=aj (by rw[List.take_succ_eq_append_getElem hlt,hcx]);have Hm:Hid (x∈f):=aj (by rw[<-hcx];exact List.getElem_mem hlt);obtain⟨xn,hxn⟩:∃xn,x.toNat=xn:=⟨_,rfl⟩;have Hxn:=aj hxn;have Hcn:=aj hcn;clear hcx hcn;by_cases he:xn=cn
    · have HE:Hid (bb=true):=aj (by
        rw[<-Hbb.af];have:x=c:=UInt8.toNat_inj.1 (by rw[Hxn.af,Hcn.af,he]);simp only[List.contains_eq_mem,arI];rw[<-this];exact Hm.af)
      have hb:((xn:Int)==(cn:Int))=true:=by simp[he]
      clear he;go_wp2;go_ret;exact⟨by rw[HE.af];rfl,rfl⟩
    · have HE:Hid (∀y∈f.take (k+1),y≠c):=aj (by
        intro y hy;rw[Hs.af,D5]at hy;rcases hy with hy | hy
        · exact Hno.af y hy
        · simp only[List.mem_singleton]at hy
          subst hy;intro e;exact he (by rw[<-Hxn.af,<-Hcn.af,e]))
      have hb:((xn:Int)==(cn:Int))=false:=by
        rw[Bool.eq_false_iff];intro h;simp only[beq_iff_eq]at h;exact he wP
      clear he;go_wp2;go_round;exact⟨k+1,arH,wP,HE.af⟩;simp[intOf];omega
  · have HE:Hid (bb=false):=aj (by
      rw[<-Hbb.af];have h:=Hno.af;rw[dh wP]at h;simp only[List.contains_eq_mem,arN];exact fun hm=>h c hm rfl)
    go_wp2;go_ret;exact⟨by rw[HE.af];rfl,rfl⟩
theorem ai2 (w:World) (i:fu) (h:gJ i=true):
    Calls asq 70 #[.agg (arW i)] w fun e w'=>e=.returned (.bool true)/\Below w w w':=by
  obtain⟨f,hf,h0,h1,ha,hb,hc,hn⟩:=QZ h;have HN:=aj (fun w=>Yn w i.op f h0 hf);have hfl:=Q0 hf;have O8:Hid (∀w:World,Calls asq 126 #[ax f,.int .u8 97] w fun e w'=>e=.returned (.bool (f.contains 97))/\w'=w):=aj (fun w=>zK w f 97 97 rfl hfl);have ad4:Hid (∀w:World,Calls asq 125 #[.agg (arW i),.int .u8 97] w fun e w'=>e=.returned (ah i.a)/\Below w w w'):=aj (fun w=>Eb w i 97 arG);have O9:Hid (∀w:World,Calls asq 126 #[ax f,.int .u8 98] w fun e w'=>e=.returned (.bool (f.contains 98))/\w'=w):=aj (fun w=>zK w f 98 98 rfl hfl);have ad5:Hid (∀w:World,Calls asq 125 #[.agg (arW i),.int .u8 98] w fun e w'=>e=.returned (ah i.b)/\Below w w w'):=aj (fun w=>Eb w i 98 arG);have Pb:Hid (∀w:World,Calls asq 126 #[ax f,.int .u8 99] w fun e w'=>e=.returned (.bool (f.contains 99))/\w'=w):=aj (fun w=>zK w f 99 99 rfl hfl);have ad6:Hid (∀w:World,Calls asq 125 #[.agg (arW i),.int .u8 99] w fun e w'=>e=.returned (ah i.c)/\Below w w w'):=aj (fun w=>Eb w i 99 arG);have II:Hid (∀w:World,Calls asq 126 #[ax f,.int .u8 110] w fun e w'=>e=.returned (.bool (f.contains 110))/\w'=w):=aj (fun w=>zK w f 110 110 rfl hfl);have Zd:Hid (∀w:World,Calls asq 125 #[.agg (arW i),.int .u8 110] w fun e w'=>e=.returned (ah i.bU)/\Below w w w'):=aj (fun w=>Eb w i 110 arG);have aa1:Hid (dQ (f.contains 97) 0 15 i.a=true):=aj ha;have ad7:Hid (∀w:World,Calls asq 127 #[.int .u8 97,ah i.a] w fun e w'=>e=.returned (.bool true)/\w'=w):=aj (fun w=>Db w 97 i.a (qb ha).1 (qb ha).2);have aa2:Hid (dQ (f.contains 98) 0 15 i.b=true):=aj hb;have ad8:Hid (∀w:World,Calls asq 127 #[.int .u8 98,ah i.b] w fun e w'=>e=.returned (.bool true)/\w'=w):=aj (fun w=>Db w 98 i.b (qb hb).1 (qb hb).2);have aa3:Hid (dQ (f.contains 99) 0 15 i.c=true):=aj hc;have ad9:Hid (∀w:World,Calls asq 127 #[.int .u8 99,ah i.c] w fun e w'=>e=.returned (.bool true)/\w'=w):=aj (fun w=>Db w 99 i.c (qb hc).1 (qb hc).2);have Uo:Hid (dQ (f.contains 110) (-2147483648) 2147483647 i.bU=true):=aj hn;have Ze:Hid (∀w:World,Calls asq 127 #[.int .u8 110,ah i.bU] w fun e w'=>e=.returned (.bool true)/\w'=w):=aj (fun w=>Db w 110 i.bU (qb hn).1 (qb hn).2);clear h0 h1 ha hb hc hn h hf hfl;obtain⟨i0,i1,i2,i3,i4⟩:=i;simp only at *;have eT:=aj (ah2 w (aB #[ah i0,ah i1,ah i2,ah i3,ah i4] 58));have HB1:=aj ((PZ w.heap.size w).alloc (oD _) (aB #[ah i0,ah i1,ah i2,ah i3,ah i4] 58));have rW:Hid ((w.alloc (aB #[ah i0,ah i1,ah i2,ah i3,ah i4] 58)).heap.size=w.heap.size+1):=aj arG;go_enter Tryz.func70,Tryz.ntmps70;go_upto_region 1 with fail
  generalize w.alloc (aB #[ah i0,ah i1,ah i2,ah i3,ah i4] 58)=w1 at *;have d0:w1.cell? (ak w 0)=some (ah i0):=aL eT.af rfl;go_wp2_with fail;refine(HN.af _).mono ?_;rintro e w1' ⟨⟨nm,rfl⟩,he1⟩;obtain rfl:w1=w1':=he1.symm;clear d0 HN;have gI:=aj (ah2 w1 (aB #[.int .u8 97,.int .u8 98,.int .u8 99,.int .u8 110] 5));have HB2:=aj (HB1.af.alloc (by have:=rW.af;omega) (aB #[.int .u8 97,.int .u8 98,.int .u8 99,.int .u8 110] 5));have ai3:=aj ((dX w1 (aB #[.int .u8 97,.int .u8 98,.int .u8 99,.int .u8 110] 5) (r:=w.heap.size) (by have:=rW.af;omega)).trans eT.af);have vO:Hid ((w1.alloc (aB #[.int .u8 97,.int .u8 98,.int .u8 99,.int .u8 110] 5)).heap.size=w1.heap.size+1):=aj arG;go_wp2_with fail;obtain ⟨lb,hlb⟩:=aiG w1.heap.size;rw[<-hlb]at gI vO ⊢;have JV:Hid (lb=w.heap.size+1):=aj (by rw[hlb];exact rW.af);generalize w1.alloc (aB #[.int .u8 97,.int .u8 98,.int .u8 99,.int .u8 110] 5)=w2 at *;clear hlb eT HB1 rW;go_loopw [20] (fun q wr=>∃k:Nat,q=ah k/\k<=4/\Below w2 w2 wr) (fun q _=>4-(intOf q).toNat);exact⟨0,rfl,wP,PZ _ _⟩;obtain⟨k,rfl,hk,hbr⟩:=hrel;have xh:=aj hbr;have HW:=aj (HB2.af.trans (hbr.mono HB2.af.size));have hx:=(hbr.block w.heap.size (by have:=vO.af;have:=JV.af;omega)).trans ai3.af;have hy:=(hbr.block lb (by have:=vO.af;omega)).trans gI.af;have d0:wr.cell? (ak w 0)=some (ah i0):=aL hx rfl;have d1:wr.cell? (ak w 1)=some (ah i1):=aL hx rfl;have d2:wr.cell? (ak w 2)=some (ah i2):=aL hx rfl;have d3:wr.cell? (ak w 3)=some (ah i3):=aL hx rfl;have d4:wr.cell? (ak w 4)=some (ah i4):=aL hx rfl;have b0:wr.cell? (ak lb 0)=some (.int .u8 97):=aL hy rfl;have b1:wr.cell? (ak lb 1)=some (.int .u8 98):=aL hy rfl;have b2:wr.cell? (ak lb 2)=some (.int .u8 99):=aL hy rfl;have b3:wr.cell? (ak lb 3)=some (.int .u8 110):=aL hy rfl;clear hbr hx hy;by_cases hlt:k<4
  · rcases (by omega:k=0∨k=1∨k=2∨k=3)with hk' | hk' | hk' | hk'
    · subst hk'
      clear O9 ad5 aa2 ad8 Pb ad6 aa3 ad9 II Zd Uo Ze;obtain⟨st,hst⟩:∃st,f.contains (97:UInt8)=st:=⟨_,rfl⟩;rw[hst]at O8 aa1;clear hst hk hlt;go_wp2_with fail;refine(ad4.af wr).mono ?_;rintro e w4 ⟨rfl,hb4⟩;have ui:=aj (xh.af.trans (hb4.mono xh.af.size));clear hb4 d0 d1 d2 d3 d4 b0 b1 b2 b3
      cases st with
      | true=>
        go_wp2_with fail;refine(O8.af _).mono ?_;rintro e w5 ⟨rfl,rfl⟩;go_wp2_with fail;refine(ad7.af _).mono ?_;rintro e w5 ⟨rfl,rfl⟩;go_wp2_with fail;refine(O8.af _).mono ?_;rintro e w5 ⟨rfl,rfl⟩;go_wp2;go_roundw;exact⟨1,by rfl,wP,ui.af⟩;simp[intOf]
      | false=>
        have hz:i1=0:=by have h:=aa1.af;simp[dQ]at h;exact h.1.1
        have hzb:(i1 != 0)=false:=by simp[hz]
        clear hz;go_wp2_with fail;refine(O8.af _).mono ?_;rintro e w5 ⟨rfl,rfl⟩;go_wp2_with fail;refine(O8.af _).mono ?_;rintro e w5 ⟨rfl,rfl⟩;go_wp2;go_roundw;exact⟨1,by rfl,wP,ui.af⟩;simp[intOf]
    · subst hk'
      clear O8 ad4 aa1 ad7 Pb ad6 aa3 ad9 II Zd Uo Ze;obtain⟨st,hst⟩:∃st,f.contains (98:UInt8)=st:=⟨_,rfl⟩;rw[hst]at O9 aa2;clear hst hk hlt;go_wp2_with fail;refine(ad5.af wr).mono ?_;rintro e w4 ⟨rfl,hb4⟩;have ui:=aj (xh.af.trans (hb4.mono xh.af.size));clear hb4 d0 d1 d2 d3 d4 b0 b1 b2 b3
      cases st with
      | true=>
        go_wp2_with fail;refine(O9.af _).mono ?_;rintro e w5 ⟨rfl,rfl⟩;go_wp2_with fail;refine(ad8.af _).mono ?_;rintro e w5 ⟨rfl,rfl⟩;go_wp2_with fail;refine(O9.af _).mono ?_;rintro e w5 ⟨rfl,rfl⟩;go_wp2;go_roundw;exact⟨2,by rfl,wP,ui.af⟩;simp[intOf]
      | false=>
        have hz:i2=0:=by have h:=aa2.af;simp[dQ]at h;exact h.1.1
        have hzb:(i2 != 0)=false:=by simp[hz]
        clear hz;go_wp2_with fail;refine(O9.af _).mono ?_;rintro e w5 ⟨rfl,rfl⟩;go_wp2_with fail;refine(O9.af _).mono ?_;rintro e w5 ⟨rfl,rfl⟩;go_wp2;go_roundw;exact⟨2,by rfl,wP,ui.af⟩;simp[intOf]
    · subst hk'
      clear O8 ad4 aa1 ad7 O9 ad5 aa2 ad8 II Zd Uo Ze;obtain⟨st,hst⟩:∃st,f.contains (99:UInt8)=st:=⟨_,rfl⟩;rw[hst]at Pb aa3;clear hst hk hlt;go_wp2_with fail;refine(ad6.af wr).mono ?_;rintro e w4 ⟨rfl,hb4⟩;have ui:=aj (xh.af.trans (hb4.mono xh.af.size));clear hb4 d0 d1 d2 d3 d4 b0 b1 b2 b3
      cases st with
      | true=>
        go_wp2_with fail;refine(Pb.af _).mono ?_;rintro e w5 ⟨rfl,rfl⟩;go_wp2_with fail;refine(ad9.af _).mono ?_;rintro e w5 ⟨rfl,rfl⟩;go_wp2_with fail;refine(Pb.af _).mono ?_;rintro e w5 ⟨rfl,rfl⟩;go_wp2;go_roundw;exact⟨3,by rfl,wP,ui.af⟩;simp[intOf]
      | false=>
        have hz:i3=0:=by have h:=aa3.af;simp[dQ]at h;exact h.1.1
        have hzb:(i3 != 0)=false:=by simp[hz]
        clear hz;go_wp2_with fail;refine(Pb.af _).mono ?_;rintro e w5 ⟨rfl,rfl⟩;go_wp2_with fail;refine(Pb.af _).mono ?_;rintro e w5 ⟨rfl,rfl⟩;go_wp2;go_roundw;exact⟨3,by rfl,wP,ui.af⟩;simp[intOf]
    · subst hk'
      clear O8 ad4 aa1 ad7 O9 ad5 aa2 ad8 Pb ad6 aa3 ad9;obtain⟨st,hst⟩:∃st,f.contains (110:UInt8)=st:=⟨_,rfl⟩;rw[hst]at II Uo;clear hst hk hlt;go_wp2_with fail;refine(Zd.af wr).mono ?_;rintro e w4 ⟨rfl,hb4⟩;have ui:=aj (xh.af.trans (hb4.mono xh.af.size));clear hb4 d0 d1 d2 d3 d4 b0 b1 b2 b3
      cases st with
      | true=>
        go_wp2_with fail;refine(II.af _).mono ?_;rintro e w5 ⟨rfl,rfl⟩;go_wp2_with fail;refine(Ze.af _).mono ?_;rintro e w5 ⟨rfl,rfl⟩;go_wp2_with fail;refine(II.af _).mono ?_;rintro e w5 ⟨rfl,rfl⟩;go_wp2;go_roundw;exact⟨4,by rfl,wP,ui.af⟩;simp[intOf]
      | false=>
        have hz:i4=0:=by have h:=Uo.af;simp[dQ]at h;exact h.1.1
        have hzb:(i4 != 0)=false:=by simp[hz]
        clear hz;go_wp2_with fail;refine(II.af _).mono ?_;rintro e w5 ⟨rfl,rfl⟩;go_wp2_with fail;refine(II.af _).mono ?_;rintro e w5 ⟨rfl,rfl⟩;go_wp2;go_roundw;exact⟨4,by rfl,wP,ui.af⟩;simp[intOf]
  · obtain rfl:k=4:=wP
    go_wp2;go_ret;exact⟨rfl,HW.af⟩
def nP (k:Nat):UInt8:=[97,98,99,110].getD k 0
def zq (f:List UInt8) (i:fu) (k:Nat):Bool:=dQ (f.contains (nP k)) (kN (nP k).toNat) (jA (nP k).toNat) (wR i (nP k).toNat)
theorem ai4 {i:fu} (h0:0<=i.op) (hf:nR[i.op.toNat]? =some f):gJ i=(zq f i 0&&zq f i 1&&zq f i 2&&zq f i 3):=by
 have h:NM[i.op.toNat]? =some (f.contains 97,f.contains 98,f.contains 99,f.contains 110):=by rw[Kt,vW,hf];rfl
 unfold gJ;rw[h];simp only[decide_eq_true h0,Bool.true_and]
 rfl
theorem ai5 {i:fu} (h:¬(0<=i.op/\i.op<=22)):gJ i=false:=by
 unfold gJ;by_cases h0:0<=i.op
 ·have h1:NM[i.op.toNat]? =none:=aj5 (by have:NM.length=23:=rfl;omega)
  rw[h1,Bool.and_false]
 ·simp[h0]
theorem ak3 {i:fu} (h:∀j,j<4->zq f i j=true):(zq f i 0&&zq f i 1&&zq f i 2&&zq f i 3)=true:=by rw[h 0 abD,h 1 abD,h 2 abD,h 3 abD];rfl
theorem ak4 {i:fu} (hk:k<4) (h:zq f i k=false):(zq f i 0&&zq f i 1&&zq f i 2&&zq f i 3)=false:=by
 rcases (by omega:k=0∨k=1∨k=2∨k=3)with rfl | rfl | rfl | rfl<;>simp[h]
theorem al2 {i:fu} (h:f.contains (nP k)=true):zq f i k=(decide (kN (nP k).toNat<=wR i (nP k).toNat)&&decide (wR i (nP k).toNat<=jA (nP k).toNat)):=by unfold zq dQ;rw[h];simp
theorem ak5 {i:fu} (h:f.contains (nP k)=false):zq f i k=decide (wR i (nP k).toNat=0):=by
 unfold zq dQ kN jA;rw[h];generalize wR i (nP k).toNat=x;by_cases h0:x=0
 ·subst h0
  rcases (by by_cases h:((nP k).toNat:Int)=110<;>simp[h]:((nP k).toNat:Int)=110∨¬((nP k).toNat:Int)=110)with h1 | h1<;>simp[h1]
 ·simp[h0]
theorem al3 (k:Nat):((nP k).toNat:Int)<=110:=by
 have:∀u∈[(97:UInt8),98,99,110],(u.toNat:Int)<=110:=abD;unfold nP;rcases oG k 4 with h | h
 ·rcases (by omega:k=0∨k=1∨k=2∨k=3)with rfl | rfl | rfl | rfl<;>decide
 ·have h1:[(97:UInt8),98,99,110][k]? =none:=aj5 h
  rw[tK,h1];decide
theorem aa4 (w:World) (c n:Int):
  Calls asq 127 #[.int .u8 c,ah n] w fun e w'=>e=.returned (.bool (decide (kN c<=n)&&decide (n<=jA c)))/\w'=w:=by
 obtain ⟨r,hr⟩:=aiG ((decide (kN c<=n)&&decide (n<=jA c)));rw[<-hr];unfold kN jA at hr;by_cases hc:c=110
 ·subst hc
  rw[if_pos rfl,if_pos rfl]at hr;have Hr:=aj hr;clear hr;by_cases h1: -2147483648<=n
  ·by_cases h2:n<=2147483647
   ·have HR:Hid (r=true):=aj (by rw[Hr.af];simp[h1,h2])
    go_enter Tryz.func127,Tryz.ntmps127;go_wp2;go_ret;exact⟨by rw[HR.af];simp[h2],rfl⟩
   ·have HR:Hid (r=false):=aj (by rw[Hr.af];simp[h2])
    go_enter Tryz.func127,Tryz.ntmps127;go_wp2;go_ret;exact⟨by rw[HR.af];simp[h2],rfl⟩
  ·have HR:Hid (r=false):=aj (by rw[Hr.af];simp[h1])
   go_enter Tryz.func127,Tryz.ntmps127;go_wp2;go_ret;exact⟨by rw[HR.af];first | done | rfl | simp,rfl⟩
 ·rw[if_neg hc,if_neg hc]at hr
  have e1:(c==110)=false:=by simp[hc]
  have Hr:=aj hr;clear hc hr;by_cases h1:0<=n
  ·by_cases h2:n<=15
   ·have HR:Hid (r=true):=aj (by rw[Hr.af];simp[h1,h2])
    go_enter Tryz.func127,Tryz.ntmps127;go_wp2;go_ret;exact⟨by rw[HR.af];simp[h2],rfl⟩
   ·have HR:Hid (r=false):=aj (by rw[Hr.af];simp[h2])
    go_enter Tryz.func127,Tryz.ntmps127;go_wp2;go_ret;exact⟨by rw[HR.af];simp[h2],rfl⟩
  ·have HR:Hid (r=false):=aj (by rw[Hr.af];simp[h1])
   go_enter Tryz.func127,Tryz.ntmps127;go_wp2;go_ret;exact⟨by rw[HR.af];first | done | rfl | simp,rfl⟩
theorem acd (w:World) (op:Int) (h:¬(0<=op/\op<=22)):
  Calls asq 124 #[ah op] w fun e w'=>e=.returned (.tuple #[aK,aK,.bool false])/\w'=w:=by
 have hb:∀j:Int,0<=j->j<=22->(op==j)=false:=fun j h0 h1=>by rw[arM];omega
 have b0:=hb 0 abD abD;have b1:=hb 1 abD abD;have b2:=hb 2 abD abD;have b3:=hb 3 abD abD;have b4:=hb 4 abD abD;have b5:=hb 5 abD abD;have b6:=hb 6 abD abD;have b7:=hb 7 abD abD;have b8:=hb 8 abD abD;have b9:=hb 9 abD abD;have b10:=hb 10 abD abD;have b11:=hb 11 abD abD;have b12:=hb 12 abD abD;have b13:=hb 13 abD abD;have b14:=hb 14 abD abD;have b15:=hb 15 abD abD;have b16:=hb 16 abD abD;have b17:=hb 17 abD abD;have b18:=hb 18 abD abD;have b19:=hb 19 abD abD;have b20:=hb 20 abD abD;have b21:=hb 21 abD abD;have b22:=hb 22 abD abD;clear h hb;go_enter Tryz.func124,Tryz.ntmps124;go_wp2;go_ret3;exact⟨rfl,rfl⟩
theorem ahy (w:World) (i:fu):
  Calls asq 70 #[.agg (arW i)] w fun e w'=>e=.returned (.bool (gJ i))/\Below w w w':=by
 have eT:=aj (ah2 w (aB (arW i) 58));have HB1:=aj ((PZ w.heap.size w).alloc (oD _) (aB (arW i) 58));have rW:Hid ((w.alloc (aB (arW i) 58)).heap.size=w.heap.size+1):=aj arG;by_cases hop:0<=i.op/\i.op<=22
 case neg=>
  have HN:=aj (fun w=>acd w i.op hop);have HR:Hid (gJ i=false):=aj (ai5 hop);clear hop;go_enter Tryz.func70,Tryz.ntmps70;go_upto_region 1 with fail
  generalize w.alloc (aB (arW i) 58)=w1 at *;have d0:w1.cell? (ak w 0)=some (ah i.op):=aL eT.af rfl;go_wp2_with fail;refine(HN.af _).mono ?_;rintro e w9 ⟨rfl,rfl⟩;go_wp2;go_ret;exact⟨by rw[HR.af];rfl,HB1.af⟩
 obtain⟨f,hf⟩:∃f,nR[i.op.toNat]? =some f:=⟨_,gP (by have:nR.length=23:=rfl;omega)⟩;have HN:=aj (fun w=>Yn w i.op f hop.1 hf);have hfl:=Q0 hf;have HS:=aj (fun (w:World) k=>zK w f (nP k) (nP k).toNat rfl hfl);have HI:=aj (ai4 hop.1 hf);obtain ⟨ib,hib⟩:=aiG (gJ i);rw[<-hib]at HI ⊢;clear hf hfl hop hib;go_enter Tryz.func70,Tryz.ntmps70;go_upto_region 1 with fail
 generalize w.alloc (aB (arW i) 58)=w1 at *;have d0:w1.cell? (ak w 0)=some (ah i.op):=aL eT.af rfl;go_wp2_with fail;refine(HN.af _).mono ?_;rintro e w1' ⟨⟨nm,rfl⟩,he1⟩;obtain rfl:w1=w1':=he1.symm;clear d0 HN;have gI:=aj (ah2 w1 (aB #[.int .u8 97,.int .u8 98,.int .u8 99,.int .u8 110] 5));have HB2:=aj (HB1.af.alloc (by have:=rW.af;omega) (aB #[.int .u8 97,.int .u8 98,.int .u8 99,.int .u8 110] 5));have ai3:=aj ((dX w1 (aB #[.int .u8 97,.int .u8 98,.int .u8 99,.int .u8 110] 5) (r:=w.heap.size) (by have:=rW.af;omega)).trans eT.af);have vO:Hid ((w1.alloc (aB #[.int .u8 97,.int .u8 98,.int .u8 99,.int .u8 110] 5)).heap.size=w1.heap.size+1):=aj arG;go_wp2_with fail;obtain ⟨lb,hlb⟩:=aiG w1.heap.size;rw[<-hlb]at gI vO ⊢;have JV:Hid (lb=w.heap.size+1):=aj (by rw[hlb];exact rW.af);generalize w1.alloc (aB #[.int .u8 97,.int .u8 98,.int .u8 99,.int .u8 110] 5)=w2 at *;clear hlb eT HB1 rW;go_loopw [20] (fun q wr=>∃k:Nat,q=ah k/\k<=4/\(∀j,j<k->zq f i j=true)/\Below w2 w2 wr) (fun q _=>4-(intOf q).toNat);exact⟨0,rfl,wP,fun j hj=>absurd hj wP,PZ _ _⟩;obtain⟨k,rfl,hk,hok,hbr⟩:=hrel;have HOk:=aj hok;have xh:=aj hbr;have HW:=aj (HB2.af.trans (hbr.mono HB2.af.size));have hx:=(hbr.block w.heap.size (by have:=vO.af;have:=JV.af;omega)).trans ai3.af;have hy:=(hbr.block lb (by have:=vO.af;omega)).trans gI.af;have d0:wr.cell? (ak w 0)=some (ah i.op):=aL hx rfl;have d1:wr.cell? (ak w 1)=some (ah i.a):=aL hx rfl;have d2:wr.cell? (ak w 2)=some (ah i.b):=aL hx rfl;have d3:wr.cell? (ak w 3)=some (ah i.c):=aL hx rfl;have d4:wr.cell? (ak w 4)=some (ah i.bU):=aL hx rfl;have Hy:=aj hy;clear hbr hx hy hok;by_cases hlt:k<4
 ·have hki:(k:Int)<4:=wP
  have b0:wr.cell? (ak lb k)=some (.int .u8 (nP k).toNat):=by
   rw[aV Hy.af];rcases (by omega:k=0∨k=1∨k=2∨k=3)with rfl | rfl | rfl | rfl<;>rfl
  have HP:Hid (∀w:World,Calls asq 125 #[.agg (arW i),.int .u8 (nP k).toNat] w fun e w'=>e=.returned (ah (wR i (nP k).toNat))/\Below w w w'):=aj (fun w=>Eb w i _ (by
   rcases (by omega:k=0∨k=1∨k=2∨k=3)with rfl | rfl | rfl | rfl<;>simp[nP]))
  have zL:=aj (fun w=>HS.af w k);have HRk:=aj (fun w=>aa4 w (nP k).toNat (wR i (nP k).toNat));have Yo:=aj (al2 (f:=f) (i:=i) (k:=k));have ai6:=aj (ak5 (f:=f) (i:=i) (k:=k));have Yp:Hid (zq f i k=false->ib=false):=aj (fun h=>by rw[HI.af];exact ak4 hlt h)
  have al4:Hid (zq f i k=true->∀j,j<k+1->zq f i j=true):=aj (fun h j hj=>by
   rcases oG j k with h1 | h1
   ·exact HOk.af j h1
   ·obtain rfl:j=k:=wP
    exact h)
  obtain ⟨st,hst⟩:=aiG (f.contains (nP k));obtain ⟨x,hx⟩:=aiG (wR i (nP k).toNat);obtain ⟨rg,hrg⟩:=aiG ((decide (kN (nP k).toNat<=x)&&decide (x<=jA (nP k).toNat)));rw[<-hst]at zL Yo ai6;rw[<-hx]at HP HRk Yo ai6;rw[<-hrg]at HRk Yo;have hu:((nP k).toNat:Int)<=110:=al3 k;generalize (nP k).toNat=lt at *;clear hst hx hrg HS HI HOk;go_wp2_with fail;refine(HP.af wr).mono ?_;rintro e w4 ⟨rfl,hb4⟩;have ui:=aj (xh.af.trans (hb4.mono xh.af.size));have HW4:=aj (HB2.af.trans (ui.af.mono HB2.af.size));clear hb4 d0 d1 d2 d3 d4 b0 Hy HW
  cases st with
  | true=>
   go_wp2_with fail;refine(zL.af _).mono ?_;rintro e w5 ⟨rfl,rfl⟩;go_wp2_with fail;refine(HRk.af _).mono ?_;rintro e w5 ⟨rfl,rfl⟩;have HIk:=aj (Yo.af (by first | rfl | trivial))
   cases rg with
   | true=>
    have HY:=aj (al4.af HIk.af);go_wp2_with fail;refine(zL.af _).mono ?_;rintro e w5 ⟨rfl,rfl⟩;go_wp2;go_roundw;exact⟨k+1,arH,wP,HY.af,ui.af⟩;simp[intOf];omega
   | false=>
    have HF:=aj (Yp.af HIk.af);go_wp2;go_ret;exact⟨by rw[HF.af];rfl,HW4.af⟩
  | false=>
   have HIk:=aj (ai6.af (by first | rfl | trivial));go_wp2_with fail;refine(zL.af _).mono ?_;rintro e w5 ⟨rfl,rfl⟩;by_cases h0:x=0
   ·have hz:(x != 0)=false:=by simp[h0]
    have HY:=aj (al4.af (by rw[HIk.af];simp[h0]));clear h0;go_wp2_with fail;refine(zL.af _).mono ?_;rintro e w5 ⟨rfl,rfl⟩;go_wp2;go_roundw;exact⟨k+1,arH,wP,HY.af,ui.af⟩;simp[intOf];omega
   ·have hz:(x != 0)=true:=by simp[h0]
    have HF:=aj (Yp.af (by rw[HIk.af];simp[h0]));clear h0;go_wp2_with fail;refine(zL.af _).mono ?_;rintro e w5 ⟨rfl,rfl⟩;go_wp2;go_ret;exact⟨by rw[HF.af];rfl,HW4.af⟩
 ·obtain rfl:k=4:=wP
  have HF:Hid (ib=true):=aj (by rw[HI.af];exact ak3 HOk.af);go_wp2;go_ret;exact⟨by rw[HF.af];rfl,HW.af⟩
theorem aea (hM:gM B pb w sv s v p) (hB:B<=w):
  Calls asq 67 #[aQ pb] w fun r w'=>∃code,r=.returned (ah code)/\fF p (s.ar5.foldl (fun p l=>p.line l) p) code/\iV B pb sv s v w [] p w':=by
 have HM:=aj hM;obtain⟨fa,fb,fo,fc,hf,hfm,_,hat⟩:=hM.spec.ar2.at;have dP:=aj hat;have ha:=hat.addr;have qm:=aj hf;have hsl:s.ar5=s.ar2.flatMap (·.ar5):=rfl;rw[hsl];obtain ⟨fs,hfs⟩:=aiG s.ar2;obtain ⟨n,hn⟩:=aiG s.ar2.length;rw[<-hn]at qm hfm ha;rw[<-hfs]at dP hn ⊢;have Hn:=aj hn;have ug:Hid (∀ {bs:List (Nat × Obj)} {q:aA} {w1:World},iV B pb sv s v w bs q w1->w1.cell? (ak pb 4)=some (.slice fa n fc)):=aj (fun h=>by rw[h.spec 4 _ rfl,qm.af]);have HML:=aj (fun w i=>ahy w i);clear hM hf hat hn hfs qm hsl;go_enter Tryz.func67,Tryz.ntmps67;go_wp2;go_loopw [3,4] (fun e i wr=>∃(k:Nat) (c:Int),e=ah c/\i=ah k/\k<=n/\fF p (((fs.take k).flatMap (·.ar5)).foldl (fun p l=>p.line l) p) c/\iV B pb sv s v w [] p wr) (fun _ i _=>n-(intOf i).toNat);exact⟨0,0,rfl,rfl,alg _,fF.refl _,HM.af.Qn⟩;rename World=>w1
 obtain⟨k,c,rfl,rfl,hk,ht,hr⟩:=hrel;have HT:=aj ht;have HR:=aj hr;have c4:=ug.af hr;clear ht hr;by_cases hlt:k<n
 ·obtain rfl:=ha wP
  obtain⟨f,hf⟩:∃f,fs[k]? =some f:=⟨_,gP (by rw[<-Hn.af];exact hlt)⟩;have Hf:=aj hf;have hkn:(k:Int)<(n:Int):=wP;obtain ⟨q,hq⟩:=aiG (((fs.take k).flatMap (·.ar5)).foldl (fun p l=>p.line l) p);have lm:Hid (((fs.take (k+1)).flatMap (·.ar5)).foldl (fun p l=>p.line l) p=f.ar5.foldl (fun p l=>p.line l) q):=aj (by rw[nL hf,fP,hq]);rw[<-hq]at HT;clear hq hf;go_wp2_with fail;go_loopw [3,5] (fun e j w3=>∃(t:Nat) (z:Int),e=ah z/\j=ah t/\t<=f.ar5.length/\fF p ((f.ar5.take t).foldl (fun p l=>p.line l) q) z/\iV B pb sv s v w [] p w3) (fun _ j _=>f.ar5.length-(intOf j).toNat);exact⟨0,c,rfl,rfl,alg _,HT.af,HR.af⟩;obtain⟨t,z,rfl,rfl,ht,htl,hr3⟩:=hrel;have HT3:=aj htl;have HR3:=aj hr3;have c4:=ug.af hr3;have hlo:=hr3.low HM.af hB;obtain⟨lc,hlb,_,g0,g1,g2,g3,g4,g5,g6,g7,g8,g9⟩:=dP.af.xJ hlo k f Hf.af;have Et:=hlb.below hlo;obtain⟨la,lb_,lo,jB,hlf,hlm,_,hlat⟩:=Et.at;have hla:=hlat.addr;subst hlf;have Af:=aj hlat;obtain ⟨ln,hln⟩:=aiG f.ar5.length;have lI:=aj hln;rw[<-hln]at ht hlm hla g9;clear hlb Et hlat g0 g1 g2 g3 g4 g5 g6 g7 g8 hln hr3 htl hlo;by_cases xw:t<ln
  ·obtain rfl:=hla wP
   obtain⟨x,hx⟩:∃x,f.ar5[t]? =some x:=⟨_,gP (by rw[<-lI.af];exact xw)⟩;have hqi:(t:Int)<(ln:Int):=wP;obtain⟨_,k0,k1,k2,k3,k4,k5,k6,k7,k8⟩:=Af.af.E9 t x hx;have vg:=aj (jm (F:=fun(p:aA) (l:dw)=>p.line l) hx q);have zt:=aj (HT3.af.trans (BM ((f.ar5.take t).foldl (fun p l=>p.line l) q) (!mI x) 101));clear hx HT3;have FA:=aj (ah2 wr (aB #[ah 0,ah 0,ah 0,ah 0,ah 0,ah 0,ah 0,aK,aK] 60));have jC:=aj (HR3.af.row hB (#[ah 0,ah 0,ah 0,ah 0,ah 0,ah 0,ah 0,aK,aK]) ((arL x)) 60 rfl);go_upto_region 9 with (refine Bv rfl 60 (.tmp 6) (.tmp 42) rfl wr.heap.size (#[.int .i64 x.ar3,.int .i64 x.inst.op,.int .i64 x.inst.a,.int .i64 x.inst.b,.int .i64 x.inst.c,.int .i64 x.inst.bU,.int .i64 x.a,ax x.arT,ax x.aG]) rfl rfl _ _ FA.af TA rfl (by simp[Value.oneCell']) ?_)
   simp only[Act.put];clear k0 k1 k2 k3 k4 k5 k6 k7 k8 g9 FA HR3 c4;obtain ⟨bx,hbx⟩:=aiG ([(wr.heap.size,.cells ((arL x)) 60 (0,0))]:List (Nat × Obj));have iY:Hid ((wr.heap.size,Obj.cells ((arL x)) 60 (0,0))∈bx):=aj (by rw[hbx];exact oh ..);rw[<-hbx]at jC;generalize (wr.alloc (aB #[ah 0,ah 0,ah 0,ah 0,ah 0,ah 0,ah 0,aK,aK] 60)).setRow wr.heap.size ((arL x))=w2 at *;generalize wr.heap.size=xb at *;clear hbx;have l0:w2.cell? (ak xb 0)=some (ah x.ar3):=jC.af.box iY.af 0 _ rfl;have l1:w2.cell? (ak xb 1)=some (ah x.inst.op):=jC.af.box iY.af 1 _ rfl;have l2:w2.cell? (ak xb 2)=some (ah x.inst.a):=jC.af.box iY.af 2 _ rfl;have l3:w2.cell? (ak xb 3)=some (ah x.inst.b):=jC.af.box iY.af 3 _ rfl;have l4:w2.cell? (ak xb 4)=some (ah x.inst.c):=jC.af.box iY.af 4 _ rfl;have l5:w2.cell? (ak xb 5)=some (ah x.inst.bU):=jC.af.box iY.af 5 _ rfl;have l6:w2.cell? (ak xb 6)=some (ah x.a):=jC.af.box iY.af 6 _ rfl;have sW:Hid (mI x=(decide (0<=x.ar3)&&decide (x.ar3<=4)&&decide (0<=x.a)&&decide (x.a<16)&&(!decide (x.ar3=0)||gJ x.inst))):=aj rfl;obtain ⟨cd,hcd⟩:=aiG (if (!mI x)=true then 101 else 0:Int);have HW0:=aj (fun w=>lQ w (!mI x) 101);rw[<-hcd]at HW0;rw[<-hcd]at zt;clear hcd;have Iu:Hid (iV B pb sv s v w [] p w2):=aj (jC.af.sub (fun b hb=>by cases hb));by_cases h1:x.ar3<0
   ·have hd:(!mI x)=true:=by rw[sW.af];simp;omega
    have iR:Hid (∀w,Calls asq 25 #[.bool true,ah 101] w fun e w'=>e=.returned (ah cd)/\w'=w):=aj (by have h:=HW0.af;rw[hd]at h;exact h);clear HW0;go_wp2_with fail;refine(iR.af _).mono ?_;rintro r w9 ⟨rfl,rfl⟩;go_wp2_with fail;refine(dR _ _ _).mono ?_;rintro r w9 ⟨rfl,rfl⟩;go_wp2;go_roundw;exact⟨t+1,_,rfl,arH,by have:=lI.af;omega,by rw[vg.af];exact zt.af,Iu.af⟩;have:=lI.af;simp[intOf];omega
   by_cases h2:4<x.ar3
   ·have hd:(!mI x)=true:=by rw[sW.af];simp;omega
    have iR:Hid (∀w,Calls asq 25 #[.bool true,ah 101] w fun e w'=>e=.returned (ah cd)/\w'=w):=aj (by have h:=HW0.af;rw[hd]at h;exact h);clear HW0;go_wp2_with fail;refine(iR.af _).mono ?_;rintro r w9 ⟨rfl,rfl⟩;go_wp2_with fail;refine(dR _ _ _).mono ?_;rintro r w9 ⟨rfl,rfl⟩;go_wp2;go_roundw;exact⟨t+1,_,rfl,arH,by have:=lI.af;omega,by rw[vg.af];exact zt.af,Iu.af⟩;have:=lI.af;simp[intOf];omega
   by_cases h3:x.a<0
   ·have hd:(!mI x)=true:=by rw[sW.af];simp;omega
    have iR:Hid (∀w,Calls asq 25 #[.bool true,ah 101] w fun e w'=>e=.returned (ah cd)/\w'=w):=aj (by have h:=HW0.af;rw[hd]at h;exact h);clear HW0;go_wp2_with fail;refine(iR.af _).mono ?_;rintro r w9 ⟨rfl,rfl⟩;go_wp2_with fail;refine(dR _ _ _).mono ?_;rintro r w9 ⟨rfl,rfl⟩;go_wp2;go_roundw;exact⟨t+1,_,rfl,arH,by have:=lI.af;omega,by rw[vg.af];exact zt.af,Iu.af⟩;have:=lI.af;simp[intOf];omega
   by_cases h4:15<x.a
   ·have hd:(!mI x)=true:=by rw[sW.af];simp;omega
    have iR:Hid (∀w,Calls asq 25 #[.bool true,ah 101] w fun e w'=>e=.returned (ah cd)/\w'=w):=aj (by have h:=HW0.af;rw[hd]at h;exact h);clear HW0;go_wp2_with fail;refine(iR.af _).mono ?_;rintro r w9 ⟨rfl,rfl⟩;go_wp2_with fail;refine(dR _ _ _).mono ?_;rintro r w9 ⟨rfl,rfl⟩;go_wp2;go_roundw;exact⟨t+1,_,rfl,arH,by have:=lI.af;omega,by rw[vg.af];exact zt.af,Iu.af⟩;have:=lI.af;simp[intOf];omega
   by_cases h5:x.ar3=0
   ·have hb:(x.ar3==0)=true:=by simp[h5]
    have aeb:=aj (HML.af w2 x.inst);have hib:(!mI x)= !gJ x.inst:=by rw[sW.af];simp[h5];omega
    have Hib:=aj hib;clear hib h5
    cases hi:gJ x.inst with
    | true=>
     rw[hi]at aeb Hib;have HI:=aj hi;clear hi;go_wp2_with fail;refine aeb.af.mono ?_;rintro r w3 ⟨rfl,hb3⟩;have zM:=aj (Iu.af.below hB hb3);clear hb3;have hd:(!mI x)=false:=Hib.af;have iR:Hid (∀w,Calls asq 25 #[.bool false,ah 101] w fun e w'=>e=.returned (ah cd)/\w'=w):=aj (by have h:=HW0.af;rw[hd]at h;exact h);clear HW0;go_wp2_with fail;refine(iR.af _).mono ?_;rintro r w9 ⟨rfl,rfl⟩;go_wp2_with fail;refine(dR _ _ _).mono ?_;rintro r w9 ⟨rfl,rfl⟩;go_wp2;go_roundw;exact⟨t+1,_,rfl,arH,by have:=lI.af;omega,by rw[vg.af];exact zt.af,zM.af⟩;have:=lI.af;simp[intOf];omega
    | false=>
     rw[hi]at aeb Hib;have HI:=aj hi;clear hi;go_wp2_with fail;refine aeb.af.mono ?_;rintro r w3 ⟨rfl,hb3⟩;have zM:=aj (Iu.af.below hB hb3);clear hb3;have hd:(!mI x)=true:=Hib.af;have iR:Hid (∀w,Calls asq 25 #[.bool true,ah 101] w fun e w'=>e=.returned (ah cd)/\w'=w):=aj (by have h:=HW0.af;rw[hd]at h;exact h);clear HW0;go_wp2_with fail;refine(iR.af _).mono ?_;rintro r w9 ⟨rfl,rfl⟩;go_wp2_with fail;refine(dR _ _ _).mono ?_;rintro r w9 ⟨rfl,rfl⟩;go_wp2;go_roundw;exact⟨t+1,_,rfl,arH,by have:=lI.af;omega,by rw[vg.af];exact zt.af,zM.af⟩;have:=lI.af;simp[intOf];omega
   ·have hb:(x.ar3==0)=false:=by simp[h5]
    have hd:(!mI x)=false:=by rw[sW.af];simp[h5];omega
    clear h5;have iR:Hid (∀w,Calls asq 25 #[.bool false,ah 101] w fun e w'=>e=.returned (ah cd)/\w'=w):=aj (by have h:=HW0.af;rw[hd]at h;exact h);clear HW0;go_wp2_with fail;refine(iR.af _).mono ?_;rintro r w9 ⟨rfl,rfl⟩;go_wp2_with fail;refine(dR _ _ _).mono ?_;rintro r w9 ⟨rfl,rfl⟩;go_wp2;go_roundw;exact⟨t+1,_,rfl,arH,by have:=lI.af;omega,by rw[vg.af];exact zt.af,Iu.af⟩;have:=lI.af;simp[intOf];omega
  ·have HE:Hid (fF p (f.ar5.foldl (fun p l=>p.line l) q) z):=aj (by
    have h:=HT3.af
    rwa [dh (by have:=lI.af;omega)]at h)
   go_wp2;go_roundw;exact⟨k+1,z,rfl,arH,wP,by rw[lm.af];exact HE.af,HR3.af⟩;simp[intOf];omega
 ·have HE:Hid (fF p ((fs.flatMap (·.ar5)).foldl (fun p l=>p.line l) p) c):=aj (by
   have h1:=HT.af
   rwa [dh (by have:=Hn.af;omega)]at h1)
  go_wp2;go_ret;exact⟨c,rfl,HE.af,HR.af⟩
theorem ahz (hM:gM B pb w sv s v p) (hB:B<=w) (hl:p.sz+(s.vars.flatMap (·.ash)).length<=900000):
  Calls asq 69 #[aQ pb] w fun r w'=>∃code,r=.returned (ah code)/\fF p (s.vars.foldl (fun p v=>p.ash s.ar1 v) p) code/\iV B pb sv s v w [] (s.vars.foldl (fun p v=>p.ash s.ar1 v) p) w':=by
 rw[Dw];have HM:=aj hM;obtain⟨va,vb,vo,vc,hf,xQ,_,hat⟩:=hM.spec.vars.at;have dP:=aj hat;have ha:=hat.addr;have qm:=aj hf;obtain ⟨vs,hvs⟩:=aiG s.vars;obtain ⟨n,hn⟩:=aiG s.vars.length;rw[<-hn]at qm xQ ha;rw[<-hvs]at dP hn hl ⊢;have Hn:=aj hn;have DT:Hid (∀ {bs:List (Nat × Obj)} {q:aA} {w1:World},iV B pb sv s v w bs q w1->w1.cell? (ak pb 5)=some (.slice va n vc)):=aj (fun h=>by rw[h.spec 5 _ rfl,qm.af])
 have lX:Hid (∀k,(((vs.take k).flatMap (·.ash)).foldl (fun p (r:gH)=>(p.asked s.ar1 r.arT r.aG 102 [2,1]).1) p).sz+((vs.drop k).flatMap (·.ash)).length<=900000):=aj (fun k=>by
  have h1:=gm (F:=(fun p (r:gH)=>(p.asked s.ar1 r.arT r.aG 102 [2,1]).1)) (c:=1) (fun p r=>wE _ _ _ _ _ p) ((vs.take k).flatMap (·.ash)) p;have h2:((vs.take k).flatMap (·.ash)).length+((vs.drop k).flatMap (·.ash)).length=(vs.flatMap (·.ash)).length:=by rw[<-Kk,<-j5,jf]
  omega)
 clear hM hf hat hn hvs qm;go_enter Tryz.func69,Tryz.ntmps69;go_wp2;go_loopw [3,4] (fun e i wr=>∃(k:Nat) (c:Int),e=ah c/\i=ah k/\k<=n/\fF p (((vs.take k).flatMap (·.ash)).foldl (fun p (r:gH)=>(p.asked s.ar1 r.arT r.aG 102 [2,1]).1) p) c/\iV B pb sv s v w [] (((vs.take k).flatMap (·.ash)).foldl (fun p (r:gH)=>(p.asked s.ar1 r.arT r.aG 102 [2,1]).1) p) wr) (fun _ i _=>n-(intOf i).toNat);exact⟨0,0,rfl,rfl,alg _,fF.refl _,HM.af.Qn⟩;rename World=>w1
 obtain⟨k,c,rfl,rfl,hk,ht,hr⟩:=hrel;have HT:=aj ht;have HR:=aj hr;have c5:=DT.af hr;clear ht hr;by_cases hlt:k<n
 ·obtain rfl:=ha wP
  obtain⟨f,hf⟩:∃f,vs[k]? =some f:=⟨_,gP (by rw[<-Hn.af];exact hlt)⟩;have Hf:=aj hf;have hkn:(k:Int)<(n:Int):=wP;have hz0:=lX.af k;obtain ⟨q,hq⟩:=aiG (((vs.take k).flatMap (·.ash)).foldl (fun p (r:gH)=>(p.asked s.ar1 r.arT r.aG 102 [2,1]).1) p);have lm:Hid (((vs.take (k+1)).flatMap (·.ash)).foldl (fun p (r:gH)=>(p.asked s.ar1 r.arT r.aG 102 [2,1]).1) p=f.ash.foldl (fun p (r:gH)=>(p.asked s.ar1 r.arT r.aG 102 [2,1]).1) q):=aj (by rw[Oq hf,fP,hq])
  have hz1:q.sz+f.ash.length<=900000:=by
   rw[<-hq]at hz0;obtain⟨hi,rfl⟩:=Sm.1 hf;rw[Cf hi,KF,Kk]at hz0;omega
  have Ng:Hid (∀t,((f.ash.take t).foldl (fun p (r:gH)=>(p.asked s.ar1 r.arT r.aG 102 [2,1]).1) q).sz<=900000):=aj (fun t=>by
   have h1:=gm (F:=(fun p (r:gH)=>(p.asked s.ar1 r.arT r.aG 102 [2,1]).1)) (c:=1) (fun p r=>wE _ _ _ _ _ p) (f.ash.take t) q;rw[og]at h1;have h2:min t f.ash.length<=f.ash.length:=Fe _ _;omega)
  rw[<-hq]at HT HR;clear hq hf hz0 hz1;go_wp2_with fail;go_loopw [3,5] (fun e j w3=>∃(t:Nat) (z:Int),e=ah z/\j=ah t/\t<=f.ash.length/\fF p ((f.ash.take t).foldl (fun p (r:gH)=>(p.asked s.ar1 r.arT r.aG 102 [2,1]).1) q) z/\iV B pb sv s v w [] ((f.ash.take t).foldl (fun p (r:gH)=>(p.asked s.ar1 r.arT r.aG 102 [2,1]).1) q) w3) (fun _ j _=>f.ash.length-(intOf j).toNat);exact⟨0,c,rfl,rfl,alg _,HT.af,HR.af⟩;obtain⟨t,z,rfl,rfl,ht,htl,hr3⟩:=hrel;have HT3:=aj htl;have HR3:=aj hr3;have c5:=DT.af hr3;have hlo:=hr3.low HM.af hB;obtain⟨wv,rv,_,kD,_,g0,g1,g2,g3,g4,g5,g6,g7,g8,g9,g10,g11⟩:=dP.af.rZ hlo k f Hf.af;have al5:=kD.below hlo;obtain⟨ra,rb,ro,rc,hlf,hrm,_,j3⟩:=al5.at;have hra:=j3.addr;subst hlf;have qh:=aj j3;obtain ⟨ln,hln⟩:=aiG f.ash.length;have lI:=aj hln;rw[<-hln]at ht hrm hra g10;clear kD al5 j3 g0 g1 g2 g3 g4 g5 g6 g7 g8 g9 g11 hln hr3 htl hlo;by_cases xw:t<ln
  ·obtain rfl:=hra wP
   obtain⟨x,hx⟩:∃x,f.ash[t]? =some x:=⟨_,gP (by rw[<-lI.af];exact xw)⟩;have hqi:(t:Int)<(ln:Int):=wP;obtain⟨⟨_,_,hxn,hxv⟩,k0,k1,k2,k3⟩:=qh.af.RH t x hx;have Hxn:=aj hxn;have Hxv:=aj hxv;have vg:=aj (jm (F:=(fun p (r:gH)=>(p.asked s.ar1 r.arT r.aG 102 [2,1]).1)) hx q);have hz:=Ng.af t;obtain ⟨u,hu⟩:=aiG ((f.ash.take t).foldl (fun p (r:gH)=>(p.asked s.ar1 r.arT r.aG 102 [2,1]).1) q);rw[<-hu]at vg hz HT3 HR3;clear hx hu hxn hxv;have FA:=aj (ah2 wr (aB #[ah 0,aK,aK,ah 0] 127));have jC:=aj (HR3.af.row hB (#[ah 0,aK,aK,ah 0]) (#[ah x.asl,ax x.arT,ax x.aG,ah x.add]) 127 rfl);go_upto_region 9 with (refine Bv rfl 127 (.tmp 6) (.tmp 42) rfl wr.heap.size (#[.int .i64 x.asl,ax x.arT,ax x.aG,.int .i64 x.add]) rfl rfl _ _ FA.af TA rfl (by simp[Value.oneCell']) ?_)
   simp only[Act.put];clear k0 k1 k2 k3 g10 FA HR3 c5;obtain ⟨bx,hbx⟩:=aiG ([(wr.heap.size,.cells (#[ah x.asl,ax x.arT,ax x.aG,ah x.add]) 127 (0,0))]:List (Nat × Obj));have iY:Hid ((wr.heap.size,Obj.cells (#[ah x.asl,ax x.arT,ax x.aG,ah x.add]) 127 (0,0))∈bx):=aj (by rw[hbx];exact oh ..);rw[<-hbx]at jC;generalize (wr.alloc (aB #[ah 0,aK,aK,ah 0] 127)).setRow wr.heap.size (#[ah x.asl,ax x.arT,ax x.aG,ah x.add])=w2 at *;generalize wr.heap.size=xb at *;clear hbx;have l1:w2.cell? (ak xb 1)=some (ax x.arT):=jC.af.box iY.af 1 _ rfl;have l2:w2.cell? (ak xb 2)=some (ax x.aG):=jC.af.box iY.af 2 _ rfl;have HA:=aj (jC.af.asks x.arT x.aG 4 102 arG Hxn.af Hxv.af wP hB);go_wp2_with fail;refine HA.af.mono ?_;rintro r w3 ⟨code,rfl,ht3,h3⟩;have H3:=aj (h3.sub (bs':=[]) (fun b hb=>by cases hb));have zt:=aj (HT3.af.trans ht3);clear h3 ht3 l1 l2 HA HT3;go_wp2_with fail;refine(dR _ _ _).mono ?_;rintro r w9 ⟨rfl,rfl⟩;go_wp2;go_roundw;exact⟨t+1,_,rfl,arH,by have:=lI.af;omega,by rw[vg.af];exact zt.af,by rw[vg.af];exact H3.af⟩;have:=lI.af;simp[intOf];omega
  ·have HE:Hid (fF p (f.ash.foldl (fun p (r:gH)=>(p.asked s.ar1 r.arT r.aG 102 [2,1]).1) q) z/\iV B pb sv s v w [] (f.ash.foldl (fun p (r:gH)=>(p.asked s.ar1 r.arT r.aG 102 [2,1]).1) q) wr):=aj (by
    have h:=HT3.af;have h2:=HR3.af;rw[dh (by have:=lI.af;omega)]at h h2;exact⟨h,h2⟩)
   go_wp2;go_roundw;exact⟨k+1,z,rfl,arH,wP,by rw[lm.af];exact HE.af.1,by rw[lm.af];exact HE.af.2⟩;simp[intOf];omega
 ·have HE:Hid (fF p ((vs.flatMap (·.ash)).foldl (fun p (r:gH)=>(p.asked s.ar1 r.arT r.aG 102 [2,1]).1) p) c/\iV B pb sv s v w [] ((vs.flatMap (·.ash)).foldl (fun p (r:gH)=>(p.asked s.ar1 r.arT r.aG 102 [2,1]).1) p) w1):=aj (by
   have h1:=HT.af;have h2:=HR.af;rw[dh (by have:=Hn.af;omega)]at h1 h2;exact⟨h1,h2⟩)
  go_wp2;go_ret;exact⟨c,rfl,HE.af.1,HE.af.2⟩
def aA.kg (ar1:List (List UInt8)) (ad:Bool) (l:dw) (p:aA):aA:=if ad then p.addressed ar1 l else p.called ar1 l
theorem KX (ar1:List (List UInt8)) (ad:Bool) (p:aA) (l:dw):(p.kg ar1 ad l).sz<=p.sz+3:=by
 unfold aA.kg;split
 ·exact BC ar1 p l
 ·exact Dv ar1 p l
theorem aec (ar1:List (List UInt8)) (ad:Bool) (x:dw):
  (kw x.ar3=0/\∀p,aA.kg ar1 ad x p=p)∨
  ((kw x.ar3==0)=false/\(kw x.ar3==4)=false/\ad=true/\∀p,aA.kg ar1 ad x p=p)∨
  (kw x.ar3=4/\ad=false/\∀p,aA.kg ar1 ad x p=p)∨
  (kw x.ar3=1/\ad=false/\∀p,aA.kg ar1 ad x p=(p.asked ar1 x.arT x.aG 101 (iC 1)).1.jump (p.asked ar1 x.arT x.aG 101 (iC 1)).2)∨
  (kw x.ar3=2/\ad=false/\∀p,aA.kg ar1 ad x p=(((p.asked ar1 x.arT x.aG 101 (iC 2)).1.cell 1 (p.asked ar1 x.arT x.aG 101 (iC 2)).2).1.cell 2 (p.asked ar1 x.arT x.aG 101 (iC 2)).2).1)∨
  (kw x.ar3=3/\ad=false/\∀p,aA.kg ar1 ad x p=((p.asked ar1 x.arT x.aG 101 (iC 3)).1.cell 3 (p.asked ar1 x.arT x.aG 101 (iC 3)).2).1)∨
  (kw x.ar3=4/\ad=true/\∀p,aA.kg ar1 ad x p=((p.asked ar1 x.arT x.aG 101 (iC 4)).1.cell 0 (p.asked ar1 x.arT x.aG 101 (iC 4)).2).1):=by
 unfold aA.kg aA.called aA.addressed;by_cases h1:x.ar3=1
 ·rw[h1];cases ad<;>simp[kw,iC]
 by_cases h2:x.ar3=2
 ·rw[h2];cases ad<;>simp[kw,iC]
 by_cases h3:x.ar3=3
 ·rw[h3];cases ad<;>simp[kw,iC]
 by_cases h4:x.ar3=4
 ·rw[h4];cases ad<;>simp[kw,iC]
 left;refine⟨by simp[kw,h1,h2,h3,h4],fun p=> ?_⟩;simp[h1,h2,h3,h4]
theorem Yq (ad:Bool) (hM:gM B pb w sv s v p) (hB:B<=w) (hl:p.sz+3*s.ar5.length<=900000):
  Calls asq 68 #[aQ pb,.bool ad] w fun r w'=>∃code,r=.returned (ah code)/\fF p (s.ar5.foldl (fun p l=>p.kg s.ar1 ad l) p) code/\iV B pb sv s v w [] (s.ar5.foldl (fun p l=>p.kg s.ar1 ad l) p) w':=by
 have HM:=aj hM;obtain⟨fa,fb,fo,fc,hf,hfm,_,hat⟩:=hM.spec.ar2.at;have dP:=aj hat;have ha:=hat.addr;have qm:=aj hf;have hsl:s.ar5=s.ar2.flatMap (·.ar5):=rfl;rw[hsl]at hl ⊢;obtain ⟨fs,hfs⟩:=aiG s.ar2;obtain ⟨n,hn⟩:=aiG s.ar2.length;rw[<-hn]at qm hfm ha;rw[<-hfs]at dP hn hl ⊢;have Hn:=aj hn;have ug:Hid (∀ {bs:List (Nat × Obj)} {q:aA} {w1:World},iV B pb sv s v w bs q w1->w1.cell? (ak pb 4)=some (.slice fa n fc)):=aj (fun h=>by rw[h.spec 4 _ rfl,qm.af])
 have lX:Hid (∀k,(((fs.take k).flatMap (·.ar5)).foldl (fun p l=>p.kg s.ar1 ad l) p).sz+3*((fs.drop k).flatMap (·.ar5)).length<=900000):=aj (fun k=>by
  have h1:=gm (F:=(fun p l=>p.kg s.ar1 ad l)) (c:=3) (fun p l=>KX _ _ p l) ((fs.take k).flatMap (·.ar5)) p;have h2:((fs.take k).flatMap (·.ar5)).length+((fs.drop k).flatMap (·.ar5)).length=(fs.flatMap (·.ar5)).length:=by rw[<-Kk,<-j5,jf]
  omega)
 have Yr:=aj (fun x=>aec s.ar1 ad x);clear hM hf hat hn hfs qm hsl;go_enter Tryz.func68,Tryz.ntmps68;go_wp2;go_loopw [5,6] (fun e i wr=>∃(k:Nat) (c:Int),e=ah c/\i=ah k/\k<=n/\fF p (((fs.take k).flatMap (·.ar5)).foldl (fun p l=>p.kg s.ar1 ad l) p) c/\iV B pb sv s v w [] (((fs.take k).flatMap (·.ar5)).foldl (fun p l=>p.kg s.ar1 ad l) p) wr) (fun _ i _=>n-(intOf i).toNat);exact⟨0,0,rfl,rfl,alg _,fF.refl _,HM.af.Qn⟩;rename World=>w1
 obtain⟨k,c,rfl,rfl,hk,ht,hr⟩:=hrel;have HT:=aj ht;have HR:=aj hr;have c4:=ug.af hr;clear ht hr;by_cases hlt:k<n
 ·obtain rfl:=ha wP
  obtain⟨f,hf⟩:∃f,fs[k]? =some f:=⟨_,gP (by rw[<-Hn.af];exact hlt)⟩;have Hf:=aj hf;have hkn:(k:Int)<(n:Int):=wP;have hz0:=lX.af k;obtain ⟨q,hq⟩:=aiG (((fs.take k).flatMap (·.ar5)).foldl (fun p l=>p.kg s.ar1 ad l) p);have lm:Hid (((fs.take (k+1)).flatMap (·.ar5)).foldl (fun p l=>p.kg s.ar1 ad l) p=f.ar5.foldl (fun p l=>p.kg s.ar1 ad l) q):=aj (by rw[nL hf,fP,hq])
  have hz1:q.sz+3*f.ar5.length<=900000:=by
   rw[<-hq]at hz0;obtain⟨hi,rfl⟩:=Sm.1 hf;rw[Cf hi,KF,Kk]at hz0;omega
  have Ng:Hid (∀t,((f.ar5.take t).foldl (fun p l=>p.kg s.ar1 ad l) q).sz<=900000):=aj (fun t=>by
   have h1:=gm (F:=(fun p l=>p.kg s.ar1 ad l)) (c:=3) (fun p l=>KX _ _ p l) (f.ar5.take t) q;rw[og]at h1;have h2:min t f.ar5.length<=f.ar5.length:=Fe _ _;omega)
  rw[<-hq]at HT HR;clear hq hf hz0 hz1;go_wp2_with fail;go_loopw [5,7] (fun e j w3=>∃(t:Nat) (z:Int),e=ah z/\j=ah t/\t<=f.ar5.length/\fF p ((f.ar5.take t).foldl (fun p l=>p.kg s.ar1 ad l) q) z/\iV B pb sv s v w [] ((f.ar5.take t).foldl (fun p l=>p.kg s.ar1 ad l) q) w3) (fun _ j _=>f.ar5.length-(intOf j).toNat);exact⟨0,c,rfl,rfl,alg _,HT.af,HR.af⟩;obtain⟨t,z,rfl,rfl,ht,htl,hr3⟩:=hrel;have HT3:=aj htl;have HR3:=aj hr3;have c4:=ug.af hr3;have hlo:=hr3.low HM.af hB;obtain⟨lc,hlb,_,g0,g1,g2,g3,g4,g5,g6,g7,g8,g9⟩:=dP.af.xJ hlo k f Hf.af;have Et:=hlb.below hlo;obtain⟨la,lb_,lo,jB,hlf,hlm,_,hlat⟩:=Et.at;have hla:=hlat.addr;subst hlf;have Af:=aj hlat;obtain ⟨ln,hln⟩:=aiG f.ar5.length;have lI:=aj hln;rw[<-hln]at ht hlm hla g9;clear hlb Et hlat g0 g1 g2 g3 g4 g5 g6 g7 g8 hln hr3 htl hlo;by_cases xw:t<ln
  ·obtain rfl:=hla wP
   obtain⟨x,hx⟩:∃x,f.ar5[t]? =some x:=⟨_,gP (by rw[<-lI.af];exact xw)⟩;have hqi:(t:Int)<(ln:Int):=wP;obtain⟨hxo,k0,k1,k2,k3,k4,k5,k6,k7,k8⟩:=Af.af.E9 t x hx;have Hxo:=aj hxo;have vg:=aj (jm (F:=(fun p l=>p.kg s.ar1 ad l)) hx q);have hz:=Ng.af t;obtain ⟨u,hu⟩:=aiG ((f.ar5.take t).foldl (fun p l=>p.kg s.ar1 ad l) q);rw[<-hu]at vg hz HT3 HR3;have Q3:=aj (adE wr x);have JZ:=aj (Yr.af x);obtain ⟨fr,hfr⟩:=aiG (kw x.ar3);rw[<-hfr]at Q3 JZ;obtain ⟨nm,hnm⟩:=aiG x.arT;obtain ⟨vr,Nt⟩:=aiG x.aG;have hsn:gU nm:=by rw[hnm];exact hxo.arT
   have hsv:gU vr:=by rw[Nt];exact hxo.aG
   have yx:=aj hsn;have qm:=aj hsv;rw[<-hnm,<-Nt]at Q3 JZ;have HF:Hid (∀p,aA.kg s.ar1 ad x p=aA.kg s.ar1 ad x p):=aj (fun _=>rfl);clear hx hu hfr hnm Nt hsn hsv hxo;go_wp2_with fail;refine Q3.af.mono ?_;rintro r wa ⟨rfl,hba⟩;have HRa:=aj (HR3.af.below hB hba);have FA:=aj (ah2 wa (aB #[aK,aK,ah 0] 197));have jC:=aj (HRa.af.row hB #[aK,aK,ah 0] #[ax nm,ax vr,ah fr] 197 rfl);clear k0 k1 k2 k3 k4 k5 k6 k7 k8 g9 HR3 c4 hba Q3;go_upto_region 9 with (refine Bv rfl 197 (.tmp 8) (.tmp 46) rfl wa.heap.size #[ax nm,ax vr,.int .i64 fr] rfl rfl _ _ FA.af TA rfl (by simp[Value.oneCell']) ?_)
   simp only[Act.put];clear FA HRa;obtain ⟨bx,hbx⟩:=aiG ([(wa.heap.size,aB #[ax nm,ax vr,ah fr] 197)]:List (Nat × Obj));have iY:Hid ((wa.heap.size,Obj.cells #[ax nm,ax vr,ah fr] 197 (0,0))∈bx):=aj (by rw[hbx];exact oh ..);rw[<-hbx]at jC;generalize (wa.alloc (aB #[aK,aK,ah 0] 197)).setRow wa.heap.size #[ax nm,ax vr,ah fr]=w2 at *;generalize wa.heap.size=xb at *;clear hbx;have l2:w2.cell? (ak xb 2)=some (ah fr):=jC.af.box iY.af 2 _ rfl;rcases JZ.af with ⟨rfl,h⟩ | ⟨h0,h4,rfl,h⟩ | ⟨rfl,rfl,h⟩ | ⟨rfl,rfl,h⟩ | ⟨rfl,rfl,h⟩ | ⟨rfl,rfl,h⟩ | ⟨rfl,rfl,h⟩
   ·have HE:Hid (iV B pb sv s v w [] u w2):=aj (jC.af.sub (fun b hb=>by cases hb))
    have HU:=aj (h u);clear h JZ Yr;go_wp2;go_roundw;exact⟨t+1,z,rfl,arH,by have:=lI.af;omega,by rw[vg.af,HU.af];exact HT3.af,by rw[vg.af,HU.af];exact HE.af⟩;have:=lI.af;simp[intOf];omega
   ·have HE:Hid (iV B pb sv s v w [] u w2):=aj (jC.af.sub (fun b hb=>by cases hb))
    have HU:=aj (h u);clear h JZ Yr;go_wp2;go_roundw;exact⟨t+1,z,rfl,arH,by have:=lI.af;omega,by rw[vg.af,HU.af];exact HT3.af,by rw[vg.af,HU.af];exact HE.af⟩;have:=lI.af;simp[intOf];omega
   ·have HE:Hid (iV B pb sv s v w [] u w2):=aj (jC.af.sub (fun b hb=>by cases hb))
    have HU:=aj (h u);clear h JZ Yr;go_wp2;go_roundw;exact⟨t+1,z,rfl,arH,by have:=lI.af;omega,by rw[vg.af,HU.af];exact HT3.af,by rw[vg.af,HU.af];exact HE.af⟩;have:=lI.af;simp[intOf];omega
   ·have HU:=aj (h u)
    clear h JZ Yr;have l0:w2.cell? (ak xb 0)=some (ax nm):=jC.af.box iY.af 0 _ rfl;have l1:w2.cell? (ak xb 1)=some (ax vr):=jC.af.box iY.af 1 _ rfl;have HA:=aj (jC.af.asks nm vr 1 101 arG yx.af qm.af wP hB);have HAz:=wE s.ar1 nm vr 101 (iC 1) u;have Gz:=aj (C9 (ar1:=s.ar1) (arT:=nm) (aG:=vr) (e:=101) (ks:=iC 1) (p:=u));go_wp2_with fail;refine HA.af.mono ?_;rintro r w3 ⟨code,rfl,ht3,h3⟩;have H3:=aj h3;have zt:=aj (HT3.af.trans ht3);clear h3 ht3 l0 l1 l2 HA HT3;go_wp2_with fail;refine(dR _ _ _).mono ?_;rintro r w9 ⟨rfl,h9⟩;obtain rfl:w3=w9:=h9.symm;obtain ⟨y,hy⟩:=aiG (u.asked s.ar1 nm vr 101 (iC 1));rw[<-hy]at H3 zt HU Gz HAz;clear hy;have l0:w3.cell? (ak xb 0)=some (ax nm):=H3.af.box iY.af 0 _ rfl;have l1:w3.cell? (ak xb 1)=some (ax vr):=H3.af.box iY.af 1 _ rfl;have hme:=H3.af.means nm vr wP hB;rw[Gz.af]at hme;have pg:=aj hme;clear hme Gz;go_wp2_with fail;refine pg.af.mono ?_;rintro r w4 ⟨rfl,h4⟩;have H4:=aj h4;have l2:w4.cell? (ak xb 2)=some (ah 1):=H4.af.box iY.af 2 _ rfl;clear h4 l0 l1 H3 pg;have Ca:=H4.af.jump (y.2:Int) wP hB;have J3:=aj Ca;clear Ca;go_wp2_with fail;refine J3.af.mono ?_;rintro r w5 ⟨rfl,h5⟩;have H5:=aj h5;clear h5 H4 J3 l2;have l2:w5.cell? (ak xb 2)=some (ah 1):=H5.af.box iY.af 2 _ rfl;have HE:Hid (iV B pb sv s v w [] (y.1.jump (y.2:Int)) w5):=aj (H5.af.sub (fun b hb=>by cases hb));have AR:Hid (fF p (y.1.jump (y.2:Int)) (gu z code)):=aj (zt.af.same rfl);clear l2;go_wp2;go_roundw;exact⟨t+1,_,rfl,arH,by have:=lI.af;omega,by rw[vg.af,HU.af];exact AR.af,by rw[vg.af,HU.af];exact HE.af⟩;have:=lI.af;simp[intOf];omega
   ·have HU:=aj (h u)
    clear h JZ Yr;have l0:w2.cell? (ak xb 0)=some (ax nm):=jC.af.box iY.af 0 _ rfl;have l1:w2.cell? (ak xb 1)=some (ax vr):=jC.af.box iY.af 1 _ rfl;have HA:=aj (jC.af.asks nm vr 2 101 arG yx.af qm.af wP hB);have HAz:=wE s.ar1 nm vr 101 (iC 2) u;have Gz:=aj (C9 (ar1:=s.ar1) (arT:=nm) (aG:=vr) (e:=101) (ks:=iC 2) (p:=u));go_wp2_with fail;refine HA.af.mono ?_;rintro r w3 ⟨code,rfl,ht3,h3⟩;have H3:=aj h3;have zt:=aj (HT3.af.trans ht3);clear h3 ht3 l0 l1 l2 HA HT3;go_wp2_with fail;refine(dR _ _ _).mono ?_;rintro r w9 ⟨rfl,h9⟩;obtain rfl:w3=w9:=h9.symm;obtain ⟨y,hy⟩:=aiG (u.asked s.ar1 nm vr 101 (iC 2));rw[<-hy]at H3 zt HU Gz HAz;clear hy;have l0:w3.cell? (ak xb 0)=some (ax nm):=H3.af.box iY.af 0 _ rfl;have l1:w3.cell? (ak xb 1)=some (ax vr):=H3.af.box iY.af 1 _ rfl;have hme:=H3.af.means nm vr wP hB;rw[Gz.af]at hme;have pg:=aj hme;clear hme Gz;go_wp2_with fail;refine pg.af.mono ?_;rintro r w4 ⟨rfl,h4⟩;have H4:=aj h4;have l2:w4.cell? (ak xb 2)=some (ah 2):=H4.af.box iY.af 2 _ rfl;clear h4 l0 l1 H3 pg;have Ca:=H4.af.put 1 (y.2:Int) abD wP hB;rw[show qN 1=2 from rfl]at Ca;have J3:=aj Ca;clear Ca;go_wp2_with fail;refine J3.af.mono ?_;rintro r w5 ⟨rfl,h5⟩;have H5:=aj h5;clear h5 H4 J3 l2;have l2:w5.cell? (ak xb 2)=some (ah 2):=H5.af.box iY.af 2 _ rfl;have HZ6:=aiQ 1 (y.2:Int) y.1;have Yt:=H5.af.put 2 (y.2:Int) abD wP hB;rw[show qN 2=5 from rfl]at Yt;have Yu:=aj Yt;clear Yt;go_wp2_with fail;refine Yu.af.mono ?_;rintro r w6 ⟨rfl,h6⟩;have H6:=aj h6;clear h6 H5 Yu l2;have l2:w6.cell? (ak xb 2)=some (ah 2):=H6.af.box iY.af 2 _ rfl;have HE:Hid (iV B pb sv s v w [] ((y.1.cell 1 (y.2:Int)).1.cell 2 (y.2:Int)).1 w6):=aj (H6.af.sub (fun b hb=>by cases hb));have AR:Hid (fF p ((y.1.cell 1 (y.2:Int)).1.cell 2 (y.2:Int)).1 (gu z code)):=aj (zt.af.same rfl);clear l2;go_wp2;go_roundw;exact⟨t+1,_,rfl,arH,by have:=lI.af;omega,by rw[vg.af,HU.af];exact AR.af,by rw[vg.af,HU.af];exact HE.af⟩;have:=lI.af;simp[intOf];omega
   ·have HU:=aj (h u)
    clear h JZ Yr;have l0:w2.cell? (ak xb 0)=some (ax nm):=jC.af.box iY.af 0 _ rfl;have l1:w2.cell? (ak xb 1)=some (ax vr):=jC.af.box iY.af 1 _ rfl;have HA:=aj (jC.af.asks nm vr 3 101 arG yx.af qm.af wP hB);have HAz:=wE s.ar1 nm vr 101 (iC 3) u;have Gz:=aj (C9 (ar1:=s.ar1) (arT:=nm) (aG:=vr) (e:=101) (ks:=iC 3) (p:=u));go_wp2_with fail;refine HA.af.mono ?_;rintro r w3 ⟨code,rfl,ht3,h3⟩;have H3:=aj h3;have zt:=aj (HT3.af.trans ht3);clear h3 ht3 l0 l1 l2 HA HT3;go_wp2_with fail;refine(dR _ _ _).mono ?_;rintro r w9 ⟨rfl,h9⟩;obtain rfl:w3=w9:=h9.symm;obtain ⟨y,hy⟩:=aiG (u.asked s.ar1 nm vr 101 (iC 3));rw[<-hy]at H3 zt HU Gz HAz;clear hy;have l0:w3.cell? (ak xb 0)=some (ax nm):=H3.af.box iY.af 0 _ rfl;have l1:w3.cell? (ak xb 1)=some (ax vr):=H3.af.box iY.af 1 _ rfl;have hme:=H3.af.means nm vr wP hB;rw[Gz.af]at hme;have pg:=aj hme;clear hme Gz;go_wp2_with fail;refine pg.af.mono ?_;rintro r w4 ⟨rfl,h4⟩;have H4:=aj h4;have l2:w4.cell? (ak xb 2)=some (ah 3):=H4.af.box iY.af 2 _ rfl;clear h4 l0 l1 H3 pg;have Ca:=H4.af.put 3 (y.2:Int) abD wP hB;rw[show qN 3=3 from rfl]at Ca;have J3:=aj Ca;clear Ca;go_wp2_with fail;refine J3.af.mono ?_;rintro r w5 ⟨rfl,h5⟩;have H5:=aj h5;clear h5 H4 J3 l2;have l2:w5.cell? (ak xb 2)=some (ah 3):=H5.af.box iY.af 2 _ rfl;have HE:Hid (iV B pb sv s v w [] (y.1.cell 3 (y.2:Int)).1 w5):=aj (H5.af.sub (fun b hb=>by cases hb));have AR:Hid (fF p (y.1.cell 3 (y.2:Int)).1 (gu z code)):=aj (zt.af.same rfl);clear l2;go_wp2;go_roundw;exact⟨t+1,_,rfl,arH,by have:=lI.af;omega,by rw[vg.af,HU.af];exact AR.af,by rw[vg.af,HU.af];exact HE.af⟩;have:=lI.af;simp[intOf];omega
   ·have HU:=aj (h u)
    clear h JZ Yr;have l0:w2.cell? (ak xb 0)=some (ax nm):=jC.af.box iY.af 0 _ rfl;have l1:w2.cell? (ak xb 1)=some (ax vr):=jC.af.box iY.af 1 _ rfl;have HA:=aj (jC.af.asks nm vr 4 101 arG yx.af qm.af wP hB);have HAz:=wE s.ar1 nm vr 101 (iC 4) u;have Gz:=aj (C9 (ar1:=s.ar1) (arT:=nm) (aG:=vr) (e:=101) (ks:=iC 4) (p:=u));go_wp2_with fail;refine HA.af.mono ?_;rintro r w3 ⟨code,rfl,ht3,h3⟩;have H3:=aj h3;have zt:=aj (HT3.af.trans ht3);clear h3 ht3 l0 l1 l2 HA HT3;go_wp2_with fail;refine(dR _ _ _).mono ?_;rintro r w9 ⟨rfl,h9⟩;obtain rfl:w3=w9:=h9.symm;obtain ⟨y,hy⟩:=aiG (u.asked s.ar1 nm vr 101 (iC 4));rw[<-hy]at H3 zt HU Gz HAz;clear hy;have l0:w3.cell? (ak xb 0)=some (ax nm):=H3.af.box iY.af 0 _ rfl;have l1:w3.cell? (ak xb 1)=some (ax vr):=H3.af.box iY.af 1 _ rfl;have hme:=H3.af.means nm vr wP hB;rw[Gz.af]at hme;have pg:=aj hme;clear hme Gz;go_wp2_with fail;refine pg.af.mono ?_;rintro r w4 ⟨rfl,h4⟩;have H4:=aj h4;have l2:w4.cell? (ak xb 2)=some (ah 4):=H4.af.box iY.af 2 _ rfl;clear h4 l0 l1 H3 pg;have Ca:=H4.af.put 0 (y.2:Int) abD wP hB;rw[show qN 0=4 from rfl]at Ca;have J3:=aj Ca;clear Ca;go_wp2_with fail;refine J3.af.mono ?_;rintro r w5 ⟨rfl,h5⟩;have H5:=aj h5;clear h5 H4 J3 l2;have l2:w5.cell? (ak xb 2)=some (ah 4):=H5.af.box iY.af 2 _ rfl;have HE:Hid (iV B pb sv s v w [] (y.1.cell 0 (y.2:Int)).1 w5):=aj (H5.af.sub (fun b hb=>by cases hb));have AR:Hid (fF p (y.1.cell 0 (y.2:Int)).1 (gu z code)):=aj (zt.af.same rfl);clear l2;go_wp2;go_roundw;exact⟨t+1,_,rfl,arH,by have:=lI.af;omega,by rw[vg.af,HU.af];exact AR.af,by rw[vg.af,HU.af];exact HE.af⟩;have:=lI.af;simp[intOf];omega
  ·have HE:Hid (fF p (f.ar5.foldl (fun p l=>p.kg s.ar1 ad l) q) z/\iV B pb sv s v w [] (f.ar5.foldl (fun p l=>p.kg s.ar1 ad l) q) wr):=aj (by
    have h:=HT3.af;have h2:=HR3.af;rw[dh (by have:=lI.af;omega)]at h h2;exact⟨h,h2⟩)
   go_wp2;go_roundw;exact⟨k+1,z,rfl,arH,wP,by rw[lm.af];exact HE.af.1,by rw[lm.af];exact HE.af.2⟩;simp[intOf];omega
 ·have HE:Hid (fF p ((fs.flatMap (·.ar5)).foldl (fun p l=>p.kg s.ar1 ad l) p) c/\iV B pb sv s v w [] ((fs.flatMap (·.ar5)).foldl (fun p l=>p.kg s.ar1 ad l) p) w1):=aj (by
   have h1:=HT.af;have h2:=HR.af;rw[dh (by have:=Hn.af;omega)]at h1 h2;exact⟨h1,h2⟩)
  go_wp2;go_ret;exact⟨c,rfl,HE.af.1,HE.af.2⟩
theorem or_bit (m k:Nat):m|||2 ^ k=if m/2 ^ k%2=1 then m else m+2 ^ k:=by
  have hp:0<2 ^ k:=Nat.two_pow_pos k;have hr:m%2 ^ k<2 ^ k:=Ti _ hp;have hm:=Nat.div_add_mod m (2 ^ k);have hq:=Nat.div_add_mod (m/2 ^ k) 2
  have h1:∀q,2 ^ k*(2*q+1)=2 ^ (k+1)*q|||2 ^ k:=fun q=>by
    rw[<-Ph (by rw[uS];omega),uS,Nat.mul_add,Uh,Nat.mul_assoc]
  by_cases h:m/2 ^ k%2=1
  · rw[if_pos h]
    have e:m=(2 ^ (k+1)*(m/2 ^ k/2)|||2 ^ k)|||m%2 ^ k:=by
      rw[<-h1,<-Ph hr,show 2*(m/2 ^ k/2)+1=m/2 ^ k by omega,hm]
    rw[e,Pj,Nat.or_comm (m%2 ^ k),<-Pj,Pj _ (2 ^ k) (2 ^ k),Nat.or_self]
  · rw[if_neg h]
    have e:m=2 ^ (k+1)*(m/2 ^ k/2)|||m%2 ^ k:=by
      have h2:2 ^ (k+1)*(m/2 ^ k/2)=2 ^ k*(m/2 ^ k):=by rw[uS,Nat.mul_assoc,show 2*(m/2 ^ k/2)=m/2 ^ k by omega]
      rw[h2,<-Ph hr,hm]
    have e2:m+2 ^ k=(2 ^ (k+1)*(m/2 ^ k/2)|||2 ^ k)|||m%2 ^ k:=by
      rw[<-h1,<-Ph hr,show 2*(m/2 ^ k/2)+1=m/2 ^ k+1 by omega,Nat.mul_add,Uh];omega
    rw[e2]
    conv=>lhs;rw[e]
    rw[Pj,Nat.or_comm (m%2 ^ k),<-Pj]
theorem aa5 {m:Nat} (hm:m<18446744073709551616) (hk:k<=63):m|||2 ^ k<18446744073709551616:=by
  have h2:2 ^ k<2 ^ 64:=Nat.pow_lt_pow_right abD wP
  have h3:m<2 ^ 64:=by
                             have e:(2:Nat) ^ 64=18446744073709551616:=abD;rw[e];exact hm
  have h4:=Nat.or_lt_two_pow h3 h2;have e:(2:Nat) ^ 64=18446744073709551616:=abD;rw[e]at h4;exact h4
theorem Yv (w:World) (m k:Nat) (hm:m<18446744073709551616) (hk:k<=63):
    Calls asq 130 #[.int .u64 m,.int .u32 k] w fun e w'=>e=.returned (.int .u64 ((m|||2 ^ k:Nat):Int))/\w'=w:=by
  have HH:=aj (RA w m k hm hk);have HP:=aj (Tm w k hk);have Hor:=aj (or_bit m k);have hs:=aa5 hm hk;obtain ⟨R,hR⟩:=aiG (m|||2 ^ k);rw[<-hR]at Hor hs ⊢;by_cases h1:m/2 ^ k%2=1
  · have HB:Hid (zz (m:Int) k=true):=aj (ZQ rfl h1)
    have HE:Hid (R=m):=aj (by rw[Hor.af,if_pos h1]);rw[HB.af]at HH;clear h1 hR Hor;go_enter Tryz.func130,Tryz.ntmps130;go_wp2_with fail;refine HH.af.mono ?_;rintro e w2 ⟨rfl,rfl⟩;go_wp2;go_ret;exact⟨by rw[HE.af];rfl,rfl⟩
  · have HB:Hid (zz (m:Int) k=false):=aj (acC rfl h1)
    have hE:R=m+2 ^ k:=by rw[Hor.af,if_neg h1]
    rw[HB.af]at HH;obtain ⟨P,hP⟩:=aiG (2 ^ k);rw[<-hP]at HP hE;have HE:Hid ((m:Int)+(P:Int)=(R:Int)):=aj (by rw[hE];push_cast;rfl);have o1:IntKind.u64.wrap ((m:Int)+(P:Int))=(R:Int):=by rw[HE.af,IntKind.wrap_u64];omega
    clear h1 hR Hor hP hE;go_enter Tryz.func130,Tryz.ntmps130;go_wp2_with fail;refine HH.af.mono ?_;rintro e w2 ⟨rfl,h9⟩;obtain rfl:w=w2:=h9.symm;go_wp2_with fail;refine HP.af.mono ?_;rintro e w2 ⟨rfl,rfl⟩;go_wp2;go_ret;exact⟨rfl,rfl⟩
theorem ahA (w:World) (n:Nat) (hn:n<=1000000):
    Calls asq 80 #[ah (n:Int)] w fun e w'=>e=.returned (ah (qB n:Nat))/\w'=w:=by
  go_enter Tryz.func80,Tryz.ntmps80;go_wp2;go_loop [3] (fun u=>∃k:Nat,u=ah (k:Int)/\(k=1∨k=2∨k=4∨k=8∨k=16∨k=32∨k=64)/\(k=1∨4*k<n)) (fun u=>64-(intOf u).toNat);exact⟨1,rfl,aH rfl,aH rfl⟩;obtain⟨k,rfl,hk,h1⟩:=hrel;have Hk:=aj hk;have H1:=aj h1;have hk0:1<=k/\k<=64:=wP;clear hk h1;by_cases h8:8*k<n
  · have h82:8*(k:Int)<(n:Int):=wP
    by_cases hlt:k<64
    · have hlt2:(k:Int)<64:=wP
      have HN:Hid ((2*k=1∨2*k=2∨2*k=4∨2*k=8∨2*k=16∨2*k=32∨2*k=64)/\(2*k=1∨4*(2*k)<n)):=aj (by have:=Hk.af;omega);go_wp2;go_round;exact⟨2*k,arH,HN.af.1,HN.af.2⟩;simp[intOf];omega
    · have hlt2:¬(k:Int)<64:=wP
      have HE:=aj (KR Hk.af H1.af (aH wP));go_wp2;go_ret;exact⟨by rw[HE.af];rfl,rfl⟩
  · have h82:¬8*(k:Int)<(n:Int):=wP
    have HE:=aj (KR Hk.af H1.af (aZ wP));go_wp2;go_ret;exact⟨by rw[HE.af];rfl,rfl⟩
theorem aed (w:World) (n:Nat) (hn:n<=1000000):
    Calls asq 79 #[ah (n:Int)] w fun e w'=>e=.returned (ah (jy n:Nat))/\w'=w:=by
  by_cases h1:n<1
  · have h1i:(n:Int)<1:=wP
    have HE:Hid (jy n=1):=aj (by unfold jy;omega);go_enter Tryz.func79,Tryz.ntmps79;go_wp2;go_ret;exact⟨by rw[HE.af];rfl,rfl⟩
  · have h1i:¬(n:Int)<1:=wP
    by_cases h2:n%4=0
    · have hb:((n:Int)%4 != 0)=false:=by simp;omega
      have HE:Hid ((jy n:Int)=(n:Int)/4):=aj (by unfold jy;omega);clear h2;go_enter Tryz.func79,Tryz.ntmps79;go_wp2;go_ret;exact⟨by rw[HE.af];rfl,rfl⟩
    · have hb:((n:Int)%4 != 0)=true:=by simp;omega
      have o1:IntKind.i64.wrap ((n:Int)/4+1)=(n:Int)/4+1:=IntWalk.i64_in _ wP;have HE:Hid ((jy n:Int)=(n:Int)/4+1):=aj (by unfold jy;omega);clear h2;go_enter Tryz.func79,Tryz.ntmps79;go_wp2;go_ret;exact⟨by rw[HE.af];rfl,rfl⟩
structure Cb (w0:World) (b0:Nat) (u:Value) (w:World) (r:Value) (l:List Int):Prop where
 e0:w.heap[b0]? =some (aB #[u,ah 6] 36)
 e1:w.heap[b0+1]? =some (aB #[au,ah 0] 36)
 e2:w.heap[b0+2]? =some (aB #[r,ah 6] 36)
 own:aX 119 jQ (b0+3) (fun _=>False) w r l
 low:Below b0 w0 w
section
variable {w0 w w' : World} {b0 : Nat} {u r : Value} {l : List Int}
theorem Cb.lt (h:Cb w0 b0 u w r l):b0+2<w.heap.size:=(ah1.1 h.e2).1
theorem Cb.dW (h:Cb w0 b0 u w r l) (hb:Below w w w'):Cb w0 b0 u w' r l:=by
 have:=h.lt;exact⟨(hb.block b0 wP).trans h.e0,(hb.block (b0+1) wP).trans h.e1,(hb.block (b0+2) h.lt).trans h.e2,h.own.below hb,h.low.trans (hb.mono wP)⟩
theorem Cb.mark {g n c:Nat} (h:Cb w0 b0 u w (.slice (some ⟨g,0,none⟩) n c) l) {q:Nat} {x:Int} (hx:l[q]? =some x) (y:Nat):Cb w0 b0 u (w.setCell ⟨g,q,none⟩ (.int .u64 (y:Int))) (.slice (some ⟨g,0,none⟩) n c) (l.set q (y:Int)):=by
 have hs:Step (fun b=>b≠g) w (w.setCell ⟨g,q,none⟩ (.int .u64 (y:Int))):=(Step.refl _ w).setCell (fun h=>h rfl) _;have hg:=(h.own.lt g rfl).1;refine⟨(hs.block b0 wP).trans h.e0,(hs.block (b0+1) wP).trans h.e1,(hs.block (b0+2) wP).trans h.e2,?_,h.low.setCell (by show b0<=g;omega) _⟩;have h1:=h.own.Qg RX (g:=g) rfl hx (j:=0) (u:=.int .u64 (y:Int)) (x':=(y:Int)) abD rfl trivial
 simpa [jQ] using h1
theorem Cb.Uq {g n c:Nat} (h:Cb w0 b0 u w (.slice (some ⟨g,0,none⟩) n c) l) {i:Nat} {x:Int} (hx:l[i]? =some x):w.cell? (ak g i)=some (.int .u64 x)/\w.frozen? (ak g i)=false:=by
 have hl:=(Sm.1 hx).1;obtain⟨g',c',hv,hfz⟩:=h.own.IB wP;obtain⟨a,b,off,cap,hv2,_,_,hat⟩:=h.own.lb.at;have ha:=hat.addr wP;subst ha
 injection hv with e1 e2 e3
 injection hv2 with f1 f2 f3
 injection e1 with e1
 injection f1 with f1
 injection e1 with e1
 injection f1 with f1 f1'
 subst e1 f1 f1';obtain⟨row,h1,h2⟩:=hat.row i x hx;have h1:row=[.int .u64 x]:=h1;subst h1;have h3:=h2 0 _ rfl;rw[bE]at h3;exact⟨by simpa [jQ] using h3,hfz i⟩
end
theorem ahB {ws:List Int} {h m:Nat} (hx:ws[h/64%ws.length]? =some (m:Int)):(ws.set (h/64%ws.length) ((m|||2 ^ (h%64):Nat):Int)).set (h/64%ws.length) (((m|||2 ^ (h%64))|||2 ^ (h/64%64):Nat):Int)=markT ws h:=by
 have e:(ws.getD (h/64%ws.length) 0).toNat=m:=by rw[tK,hx];rfl
 rw[List.set_set];unfold markT;rw[e,Pj]
def al6 (w:World) (l:List Int) (e:Ending) (w':World):Prop:=∃r,e=.returned (.agg #[r,ah 6])/\aX 119 jQ w.heap.size (fun _=>False) w' r l/\Below w w w'
theorem ai7 (w:World) (u:Value) (ws:List Int) (hu:LB jQ (·<w.heap.size) w u ws) (hr:∀x∈ws,0<=x/\x<18446744073709551616) (hl:1<=ws.length/\ws.length<=64) (h hb:Nat) (hh:h<4294967296) (hhb:w.heap[hb]? =some (aB #[.int .u32 (h:Int)] 134)):
  Calls asq 82 #[.agg #[u,ah 6],.slice (some ⟨hb,0,none⟩) 1 1] w (al6 w (markT ws h)):=by
 obtain⟨ua,uc,rfl⟩:=hu.form;have Hu:=aj hu;have Hr:=aj hr;have hhl:=(ah1.1 hhb).1;have EL:=aj (fun (m:Nat) (hx:ws[h/64%ws.length]? =some (m:Int))=>ahB (h:=h) hx);have hkl:h/64%ws.length<ws.length:=Ti _ wP;obtain⟨x,hx⟩:∃x,ws[h/64%ws.length]? =some x:=⟨_,gP hkl⟩;have AA:=hr x (dH hx);obtain⟨m,rfl⟩:∃m:Nat,x=(m:Int):=⟨x.toNat,wP⟩;have iU:=aj (EL.af m hx);obtain ⟨L,hL⟩:=aiG (markT ws h);rw[<-hL]at iU ⊢;obtain ⟨n,hn⟩:=aiG ws.length;have Hn:=aj hn;rw[<-hn]at hl hkl hx iU Hu ⊢;obtain ⟨k,hk⟩:=aiG (h/64%n);have hki:((h/64:Nat):Int)%(n:Int)=(k:Int):=by rw[hk];push_cast;rfl
 rw[<-hk]at hkl hx iU;have Hx:=aj hx;have hm:m<18446744073709551616:=wP;have Q3:=aj (fun w=>Yv w m (h%64) hm wP);obtain ⟨m1,hm1⟩:=aiG (m|||2 ^ (h%64));have aoI:m1<18446744073709551616:=by rw[hm1];exact aa5 hm wP
 rw[<-hm1]at Q3 iU;have HWb:=aj (fun w=>Yv w m1 (h/64%64) aoI wP);have HSh:=aj (fun w=>Oe w h 6 hh wP);rw[show (2:Nat) ^ 6=64 from rfl]at HSh;obtain ⟨m2,hm2⟩:=aiG (m1|||2 ^ (h/64%64));rw[<-hm2]at HWb iU;obtain ⟨sh,hsh⟩:=aiG (h/64);have Hsh:=aj hsh;rw[<-hsh]at HSh HWb hki;have hq1:(h:Int)/64=(sh:Int):=by rw[hsh];push_cast;rfl
 have hq2:(h:Int)%64=((h%64:Nat):Int):=by push_cast;rfl
 have hq3:(sh:Int)%64=((sh%64:Nat):Int):=by push_cast;rfl
 have hsb:sh<4294967296:=wP;have hnn:(n:Int)≠0:=wP;obtain ⟨b0,hb0⟩:=aiG w.heap.size;have Hb0:=aj hb0;have HX0:Hid (((w.alloc (aB #[.slice ua n uc,ah 6] 36)).alloc (aB #[au,ah 0] 36)).heap[w.heap.size]? =some (aB #[.slice ua n uc,ah 6] 36)):=aj ((dX _ _ arG).trans (ah2 w _))
 have eT:Hid (((w.alloc (aB #[.slice ua n uc,ah 6] 36)).alloc (aB #[au,ah 0] 36)).heap[w.heap.size+1]? =some (aB #[au,ah 0] 36)):=aj (by
  have h:=ah2 (w.alloc (aB #[.slice ua n uc,ah 6] 36)) (aB #[au,ah 0] 36)
  rwa [lW]at h)
 have HB1:Hid (Below w w ((w.alloc (aB #[.slice ua n uc,ah 6] 36)).alloc (aB #[au,ah 0] 36))):=aj (((PZ _ w).alloc (oD _) _).alloc arG _);have rW:Hid (((w.alloc (aB #[.slice ua n uc,ah 6] 36)).alloc (aB #[au,ah 0] 36)).heap.size=w.heap.size+2):=aj arG;have Hhb:=aj hhb;clear hu hr hhb hx hL hn hm1 hm2 hsh hk EL;go_enter Tryz.func82,Tryz.ntmps82;go_upto_region 1 with fail
 generalize ((w.alloc (aB #[.slice ua n uc,ah 6] 36)).alloc (aB #[au,ah 0] 36))=w1 at *;rw[<-hb0]at HX0 eT HB1 rW ⊢;clear hb0;have c1:w1.cell? (ak b0 1)=some (ah 6):=aL HX0.af rfl;have FA:=aj (ah2 w1 (aB #[au,ah 0] 36));go_upto_region 2 with (refine Bv rfl 36 (.tmp 5) (.tmp 11) rfl w1.heap.size (#[au,.int .i64 6]) rfl rfl _ _ FA.af TA rfl (by simp[Value.oneCell']) ?_)
 simp only[Act.put];have FT:=aj (setRow_heap _ w1.heap.size _ (#[au,ah 6]) _ _ FA.af);have hs2:Step (fun b=>b≠w1.heap.size) (w1.alloc (aB #[au,ah 0] 36)) ((w1.alloc (aB #[au,ah 0] 36)).setRow w1.heap.size (#[au,ah 6])):=⟨rfl,rfl,rfl,arG,fun b hb=>setRow_other _ _ _ _ hb⟩;have hb2:Below w1 w1 ((w1.alloc (aB #[au,ah 0] 36)).setRow w1.heap.size (#[au,ah 6])):=((Step.of_below ((PZ _ w1).alloc (oD _) (aB #[au,ah 0] 36))).trans (hs2.imp (fun b h=>by have h:b<w1:=h;show b≠_;omega))).below;have gI:=aj ((hb2.block b0 (by have:=rW.af;omega)).trans HX0.af);have lF:=aj ((hb2.block (b0+1) (by have:=rW.af;omega)).trans eT.af);have HB2:=aj (HB1.af.trans (hb2.mono (by have:=HB1.af.size;have:=Hb0.af;omega)));have hz2:((w1.alloc (aB #[au,ah 0] 36)).setRow w1.heap.size (#[au,ah 6])).heap.size=b0+3:=by simp[rW.af]
 have vO:=aj hz2;clear hs2 hb2 FA HX0 eT HB1 c1 hz2;generalize (w1.alloc (aB #[au,ah 0] 36)).setRow w1.heap.size (#[au,ah 6])=w2 at *;rw[rW.af]at FT ⊢;clear rW;have HU2:=aj (Hu.af.asa (w':=w2) (fun b hb=>HB2.af.block b (by rw[Hb0.af];exact hb)));have aa6:=aj (aX.nil 119 jQ (b0+3) (fun _=>False) w2);have c20:w2.cell? (ak (b0+2) 0)=some (au):=aL FT.af rfl;have c00:w2.cell? (ak b0 0)=some (.slice ua n uc):=aL gI.af rfl;go_wp2_with (at_builtin;go_loud (refine mZ (v:=au) (l:=[]) RX 34 (.int .u64 0) 8 Tryz.underlying34 Fg rfl rfl (.tmp 13) (.tmp 15) rfl rfl aa6.af (fun b hb=>hb.elim) (.slice ua n uc) ws rfl HU2.af (by have:=Hn.af;simp only[aR];omega) (by have:=Hn.af;simp only[aR];omega) (by have:=vO.af;omega) ?_));intro v3 w3 ho3 hs3 hn3;have hk3:∀b,b<b0+3->w3.heap[b]? =w2.heap[b]? :=fun b hb=>hs3.block b ⟨by have:=vO.af;omega,by simp[Value.ownBlock]⟩
 have HY0:=aj ((hk3 b0 wP).trans gI.af);have HY1:=aj ((hk3 (b0+1) wP).trans lF.af);have JX:=aj ((hk3 (b0+2) wP).trans FT.af);have HB3:=aj (HB2.af.trans ((hs3.imp (S':=(·<b0)) (fun b hb=>⟨by have:=vO.af;have hb:b<b0:=hb;omega,by simp[Value.ownBlock]⟩)).below));have oo:Hid (aX 119 jQ (b0+3) (fun _=>False) w3 v3 ws):=aj (by simpa using ho3);obtain⟨g,gc,rfl,-⟩:=oo.af.IB (by rw[<-Hn.af];omega);rw[<-Hn.af]at oo ⊢;clear ho3 hs3 hn3 hk3 c20 c00 gI lF FT HU2 aa6 HB2;have c20:w3.cell? (ak (b0+2) 0)=some (au):=aL JX.af rfl;have f20:w3.frozen? (ak (b0+2) 0)=false:=vV JX.af 0;go_upto_region 3 with fail
 have JR:Hid (Cb w b0 (.slice ua n uc) (w3.setCell ⟨b0+2,0,none⟩ (.slice (some ⟨g,0,none⟩) n gc)) (.slice (some ⟨g,0,none⟩) n gc) ws):=aj (by
  have hs:Step (fun b=>b≠b0+2) w3 (w3.setCell ⟨b0+2,0,none⟩ (.slice (some ⟨g,0,none⟩) n gc)):=(Step.refl _ w3).setCell (fun h=>h rfl) _;exact⟨(hs.block b0 wP).trans HY0.af,(hs.block (b0+1) wP).trans HY1.af,eu JX.af 0 (.slice (some ⟨g,0,none⟩) n gc),oo.af.dS vN (fun g hg=>hs.block g (by have:=(oo.af.lt g hg).1;omega)),HB3.af.setCell (p:=(ak (b0+2) 0)) (by show b0<=b0+2;omega) _⟩)
 clear c20 f20 HY0 HY1 JX HB3 oo;generalize w3.setCell ⟨b0+2,0,none⟩ (.slice (some ⟨g,0,none⟩) n gc)=w4 at *;go_wp2_with fail;go_loopw [6] (fun i wr=>∃j:Nat,i=ah j/\j<=1/\Cb w b0 (.slice ua n uc) wr (.slice (some ⟨g,0,none⟩) n gc) (if j=0 then ws else L)) (fun i _=>1-(intOf i).toNat);exact⟨0,rfl,wP,JR.af⟩;obtain⟨j,rfl,hj,ha⟩:=hrel;rcases (by omega:j=0∨j=1)with rfl | rfl
 ·have ha:Cb w b0 (.slice ua n uc) wr (.slice (some ⟨g,0,none⟩) n gc) ws:=ha
  have HA:=aj ha;have ch:wr.cell? (ak hb 0)=some (.int .u32 (h:Int)):=by rw[aV ((ha.low.block hb (by rw[Hb0.af];exact hhl)).trans Hhb.af)];rfl
  have c20:wr.cell? (ak (b0+2) 0)=some (.slice (some ⟨g,0,none⟩) n gc):=aL ha.e2 rfl;have hkk:(k:Int)<(n:Int):=wP;clear ha JR;go_upto_region 8 with fail
  obtain⟨d0,-⟩:=HA.af.Uq Hx.af;clear ch;refine bA 11 TA TA ?_;simp only[ji];refine wpAny_of_held (S:=fun w':World=>w'.cell? (ak (b0+2) 0)=some (.slice (some ⟨g,0,none⟩) n gc)/\w'.cell? (ak g k)=some (.int .u64 (m:Int))) _ _ _ _ ?_;have ay:(fun w':World=>w'.cell? (ak (b0+2) 0)=some (.slice (some ⟨g,0,none⟩) n gc)/\w'.cell? (ak g k)=some (.int .u64 (m:Int))) (World.drew wr):=⟨c20,d0⟩;refine asr ?_;have HA5:=aj (HA.af.dW ((PZ _ wr).drew));generalize (World.drew wr)=wd at *;refine arO [0,1,2,3,4,5,6,7,8,9] ay ?_;simp only[ast]
  iterate 10 (refine arP ?_;try simp only[bP])
  refine cO 10 fun K hK=> ?_
  go_simp;refine(Q3.af wd).mono ?_;rintro e w5 ⟨rfl,h9⟩;obtain rfl:wd=w5:=h9.symm;refine hK.af _ _ ay (fun ay=> ?_);clear hK K;try simp only[bV]
  refine E5 TA ?_ _;simp only[dU];clear ay c20 d0 h9;obtain⟨d0,f0⟩:=HA5.af.Uq Hx.af;go_upto_region 9 with fail
  have HA6:=aj (HA5.af.mark Hx.af m1)
  have hx1:(ws.set k (m1:Int))[k]? =some (m1:Int):=by
   rw[List.getElem?_set,if_pos rfl,if_pos (Sm.1 Hx.af).1]
  have Jz:=aj hx1;clear d0 f0 HA5 HA hx1;generalize wd.setCell ⟨g,k,none⟩ (.int .u64 (m1:Int))=w6 at *;have c20:w6.cell? (ak (b0+2) 0)=some (.slice (some ⟨g,0,none⟩) n gc):=aL HA6.af.e2 rfl;have c01:w6.cell? (ak b0 1)=some (ah 6):=aL HA6.af.e0 rfl;obtain⟨d0,-⟩:=HA6.af.Uq Jz.af;refine bA 14 TA TA ?_;simp only[ji];refine wpAny_of_held (S:=fun w':World=>w'.cell? (ak (b0+2) 0)=some (.slice (some ⟨g,0,none⟩) n gc)/\w'.cell? (ak g k)=some (.int .u64 (m1:Int))/\w'.cell? (ak b0 1)=some (ah 6)) _ _ _ _ ?_;have ay:(fun w':World=>w'.cell? (ak (b0+2) 0)=some (.slice (some ⟨g,0,none⟩) n gc)/\w'.cell? (ak g k)=some (.int .u64 (m1:Int))/\w'.cell? (ak b0 1)=some (ah 6)) (World.drew w6):=⟨c20,d0,c01⟩;refine asr ?_;have HA7:=aj (HA6.af.dW ((PZ _ w6).drew));generalize (World.drew w6)=w7 at *;refine arO [0,1,2,3,4,5,6,7,8,9,10] ay ?_;simp only[ast]
  iterate 11 (refine arP ?_;try simp only[bP])
  refine cO 11 fun K hK=> ?_
  go_simp;refine(HSh.af w7).mono ?_;rintro e w5 ⟨rfl,h9⟩;obtain rfl:w7=w5:=h9.symm;refine hK.af _ _ ay (fun ay=> ?_);clear hK K;try simp only[bV]
  refine arO [12] ay ?_;simp only[ast]
  iterate 1 (refine arP ?_;try simp only[bP])
  refine cO 13 fun K hK=> ?_
  go_simp;refine(HWb.af w7).mono ?_;rintro e w5 ⟨rfl,h8⟩;obtain rfl:w7=w5:=h8.symm;refine hK.af _ _ ay (fun ay=> ?_);clear hK K;try simp only[bV]
  refine E5 TA ?_ _;simp only[dU];clear ay c20 c01 d0 h9 h8;obtain⟨d0,f0⟩:=HA7.af.Uq Jz.af;have HA8:=aj (HA7.af.mark Jz.af m2);rw[iU.af]at HA8;clear HA6 HA7;go_wp2;go_roundw;exact⟨1,rfl,wP,HA8.af⟩;simp[intOf]
 ·have ha:Cb w b0 (.slice ua n uc) wr (.slice (some ⟨g,0,none⟩) n gc) L:=ha
  have HA:=aj ha;have c20:wr.cell? (ak (b0+2) 0)=some (.slice (some ⟨g,0,none⟩) n gc):=aL ha.e2 rfl;have c21:wr.cell? (ak (b0+2) 1)=some (ah 6):=aL ha.e2 rfl;clear ha JR;go_wp2_with (refine Bv rfl 36 (.tmp 4) (.tmp 62) rfl (b0+1) (#[.slice (some ⟨g,0,none⟩) n gc,.int .i64 6]) rfl rfl _ _ HA.af.e1 TA rfl (by simp[Value.oneCell']) ?_);have FR:=aj (setRow_heap _ (b0+1) _ (#[.slice (some ⟨g,0,none⟩) n gc,ah 6]) _ _ HA.af.e1);have HE:Hid (aX 119 jQ b0 (fun _=>False) (wr.setRow (b0+1) #[.slice (some ⟨g,0,none⟩) n gc,ah 6]) (.slice (some ⟨g,0,none⟩) n gc) L/\Below b0 w (wr.setRow (b0+1) #[.slice (some ⟨g,0,none⟩) n gc,ah 6])):=aj ⟨(HA.af.own.dS vN (fun b hb=>setRow_other _ _ _ _ (by have:=(HA.af.own.lt b hb).1;omega))).mono wP,below_setRow HA.af.low _ _ wP⟩;go_wp2_with fail;refine bodyPost_ret (results_cell_row rfl _ _ (b0+1) _ _ _ _ rfl FR.af Tryz.underlying36 rfl TA) rfl ?_;exact⟨_,rfl,by rw[<-Hb0.af];exact HE.af.1,by rw[<-Hb0.af];exact HE.af.2⟩
def slc:Value->Bool
 | .slice _ _ _=>true
 | _=>false
structure Ec (S:Nat->Prop) (w wr:World):Prop where
 os:wr.os=w.os
 tape:wr.tape=w.tape
 output:wr.output=w.output
 size:wr.heap.size=w.heap.size
 rst:∀b:Nat,¬S b->wr.heap[b]? =w.heap[b]?
 ins:∀(b:Nat) (cur:Array Value) (t:TypeId),w.heap[b]? =some (.cells cur t (0,0))->∃cur':Array Value,wr.heap[b]? =some (.cells cur' t (0,0))/\∀j:Nat,cur'[j]? =cur[j]? ∨∃u u':Value,cur[j]? =some u/\cur'[j]? =some u'/\slc u=false/\slc u'=false
theorem Ec.refl (S:Nat->Prop) (w:World):Ec S w w:=⟨rfl,rfl,rfl,rfl,fun _ _=>rfl,fun _ cur _ h=>⟨cur,h,fun _=>aH rfl⟩⟩
theorem Ec.sl {wr:World} (h:Ec S w wr) {b:Nat} {cur:Array Value} {t:TypeId} (hb:w.heap[b]? =some (.cells cur t (0,0))) {j:Nat} {a:Option Addr} {n c:Nat} (hc:w.cell? (ak b j)=some (.slice a n c)):wr.cell? (ak b j)=some (.slice a n c):=by
 obtain⟨cur',h1,h2⟩:=h.ins b cur t hb;rw[aV hb]at hc;rw[aV h1];rcases h2 j with h3 | ⟨u,u',h3,_,h5,_⟩
 ·rw[h3];exact hc
 ·rw[hc]at h3;obtain rfl:=Option.some.inj h3;exact absurd h5 (by simp[slc])
theorem Ec.set {wr:World} (h:Ec S w wr) {b:Nat} {cur:Array Value} {t:TypeId} (hS:S b) (hb:w.heap[b]? =some (.cells cur t (0,0))) {j:Nat} {u:Value} (hc:w.cell? (ak b j)=some u) (hu:slc u=false) {u':Value} (hu':slc u'=false):
  (∃u0,wr.cell? (ak b j)=some u0)/\wr.frozen? (ak b j)=false/\Ec S w (wr.setCell ⟨b,j,none⟩ u'):=by
 obtain⟨cur',h1,h2⟩:=h.ins b cur t hb;rw[aV hb]at hc
 have hu0:∃u0,cur'[j]? =some u0:=by
  rcases h2 j with h3 | ⟨_,u',_,h4,_⟩
  ·exact⟨u,h3.trans hc⟩
  ·exact⟨u',h4⟩
 refine⟨?_,vV h1 j,?_⟩
 ·rw[aV h1];exact hu0
 ·have hst:Step (fun c=>c≠b) wr (wr.setCell ⟨b,j,none⟩ u'):=(Step.refl _ wr).setCell (fun h=>h rfl) u'
  refine⟨hst.os.trans h.os,hst.tape.trans h.tape,hst.output.trans h.output,by rw[<-h.size];simp,fun c hc=>(hst.block c (fun e=>hc (e ▸ hS))).trans (h.rst c hc),fun c cs t' hcs=> ?_⟩;by_cases hcb:c=b
  ·subst hcb
   rw[hb]at hcs;obtain⟨rfl,rfl⟩:cur=cs/\t=t':=by simpa using hcs
   refine⟨cur'.setIfInBounds j u',by simp[World.setCell,Array.getElem?_modify,h1],fun i=> ?_⟩;by_cases hij:j=i
   ·subst hij
    right;obtain⟨u0,hu0⟩:=hu0;refine⟨u,u',hc,?_,hu,hu'⟩;rw[Array.getElem?_setIfInBounds,if_pos rfl,if_pos (ah1.1 hu0).1]
   ·rw[Array.getElem?_setIfInBounds,if_neg hij];exact h2 i
  ·obtain⟨cs',h3,h4⟩:=h.ins c cs t' hcs
   exact⟨cs',(hst.block c hcb).trans h3,h4⟩
theorem xA.row {α:Type} {K:Kind α} {v:Value} {l:List α} (h:xA e K S w v l):∃a c,v=.slice a l.length c/\l.length<=9223372036854775807/\
  (0<l.length->∃g cur,a=some (ak g 0)/\w.heap[g]? =some (.cells cur e (0,0))/\S g/\∀(i:Nat) (x:α),l[i]? =some x->∃r,K.R S w x r/\∀j u,r[j]? =some u->w.cell? (ak g (i*K.k+j))=some u):=by
 obtain⟨a,b,off,cap,hf,hm,_,hat⟩:=h.1.at;refine⟨a,cap,hf,hm,fun h0=> ?_⟩;rcases h.2 with h1 | ⟨g,c,cur,hv,hg,_⟩
 ·omega
 ·have ha:=hat.addr h0
  rw[hv,ha]at hf;obtain⟨⟨rfl,rfl⟩,rfl⟩:(g=b/\0=off)/\c=cap:=by simpa using hf
  refine⟨g,cur,ha,hg,hat.mG h0,fun i x hx=> ?_⟩;obtain⟨r,h1,h2⟩:=hat.row i x hx;exact⟨r,h1,fun j u hu=>by have h:=h2 j u hu;rwa [bE]at h⟩
theorem ahC (w:World) (v:jv) (im:bK) {S:Nat->Prop} (hI:su S w v im) (hS:∀b,S b->b<w.heap.size):
  Calls asq 9 #[.agg (aW v im)] w fun e w'=>e=.returned (.tuple #[])/\Step (fun b=>b<w/\¬S b) w w':=by
 obtain⟨eO,cK,bR,gF,bS,dK,d9,ek,fM,fO,iH⟩:=v;have eT:=aj (ah2 w (.cells (aW ⟨eO,cK,bR,gF,bS,dK,d9,ek,fM,fO,iH⟩ im) 44 (0,0)));have HI:=aj (hI.asa (w':=w.alloc (.cells (aW ⟨eO,cK,bR,gF,bS,dK,d9,ek,fM,fO,iH⟩ im) 44 (0,0))) (fun b hb=>dX _ _ (hS b hb)));have kE:Hid (Step (fun b=>b<w/\¬S b) w (w.alloc (.cells (aW ⟨eO,cK,bR,gF,bS,dK,d9,ek,fM,fO,iH⟩ im) 44 (0,0)))):=aj ((Step.refl _ w).alloc (fun b hb=>hb.1) _);have lN:=aj hS;unfold aW at eT HI kE ⊢;clear hI hS;go_enter Tryz.func9,Tryz.ntmps9;go_upto_region 1 with fail
 generalize w.alloc _=w1 at *;have hi:=HI.af;obtain⟨sa,sc,mO,hsm,JJ⟩:=hi.aI.row;obtain⟨na,nc,hnf,hnm,hnr⟩:=hi.ar6.row;obtain⟨ra,rc,hrf,hrm,hrr⟩:=hi.aF.row;obtain⟨ya,yc,Q4,hym,hyr⟩:=hi.av.row;obtain⟨ta,tc,Nw,htm,htr⟩:=hi.bf.row;simp only at mO hnf hrf Q4 Nw;subst mO hnf hrf Q4 Nw;have Gr:=aj JJ;have HNr:=aj hnr;have jC:=aj hrr;have HYr:=aj hyr;have QY:=aj htr;obtain ⟨n0,hn0⟩:=aiG im.aI.length;obtain ⟨n1,hn1⟩:=aiG im.ar6.length;obtain ⟨n2,hn2⟩:=aiG im.aF.length;obtain ⟨n3,hn3⟩:=aiG im.av.length;obtain ⟨n4,hn4⟩:=aiG im.bf.length;have H0:=aj hn0;have H1:=aj hn1;have H2:=aj hn2;have H3:=aj hn3;have H4:=aj hn4;rw[<-hn0]at Gr hsm eT;rw[<-hn1]at HNr hnm eT;rw[<-hn2]at jC hrm eT;rw[<-hn3]at HYr hym eT;rw[<-hn4]at QY htm eT;have HB:Hid (∀wr,Ec S w1 wr->wr.heap[w.heap.size]? =w1.heap[w.heap.size]?):=aj (fun wr h=>h.rst _ (fun hs=>by have:=lN.af _ hs;omega));have aoJ:Hid (∀wr,Ec S w1 wr->Step (fun b=>b<w/\¬S b) w wr):=aj (fun wr h=>⟨h.os.trans kE.af.os,h.tape.trans kE.af.tape,h.output.trans kE.af.output,by rw[h.size];exact kE.af.size,fun b hb=>(h.rst b hb.2).trans (kE.af.block b hb)⟩);clear hi JJ hnr hrr hyr htr hn0 hn1 hn2 hn3 hn4 HI kE lN;go_wp2_with fail;go_loopw [2] (fun i wr=>∃k:Nat,i=ah k/\k<=n0/\Ec S w1 wr) (fun i _=>n0-(intOf i).toNat);exact⟨0,rfl,alg _,Ec.refl _ _⟩;rename World=>wa
 obtain⟨k,rfl,hk,hp⟩:=hrel;have b2:wa.cell? (ak w 2)=some (.slice sa n0 sc):=by rw[aV ((HB.af wa hp).trans eT.af)];rfl
 by_cases hlt:k<n0
 ·obtain⟨g,cur,rfl,hg,Pd,hat⟩:=Gr.af wP
  obtain⟨x,hx⟩:∃x,im.aI[k]? =some x:=⟨_,gP (by rw[<-H0.af];exact hlt)⟩;obtain⟨r,⟨c,rfl,hby⟩,hce⟩:=hat k x hx;obtain⟨da,dc,rfl,hdm,hdr⟩:=hby.row;have e2:=hce 2 _ rfl;have e3:=hce 3 _ rfl;replace e2:w1.cell? (ak g (k*4+2))=some (.slice da x.bytes.length dc):=e2;replace e3:w1.cell? (ak g (k*4+3))=some (ah x.perm):=e3;have e2a:=hp.sl hg e2;obtain ⟨nb,hnb⟩:=aiG x.bytes.length;have Hnb:=aj hnb;have Hdr:=aj hdr;rw[<-hnb]at e2 e2a Hdr hdm;have E2:=aj e2;have E3:=aj e3;have Hg:=aj hg;have hkn:(k:Int)<(n0:Int):=wP;clear hat hce hby hx hdr hnb e2 e3 hg;go_wp2_with fail;go_loopw [3] (fun i wr=>∃k:Nat,i=ah k/\k<=nb/\Ec S w1 wr) (fun i _=>nb-(intOf i).toNat);exact⟨0,rfl,alg _,hp⟩;rename World=>wb
  obtain⟨q,rfl,hq,hp⟩:=hrel;have b2:wb.cell? (ak w 2)=some (.slice (some ⟨g,0,none⟩) n0 sc):=by rw[aV ((HB.af wb hp).trans eT.af)];rfl
  have e2:=hp.sl Hg.af E2.af;by_cases hlq:q<nb
  ·obtain⟨g2,aoK,rfl,hg2,ai8,KY⟩:=Hdr.af wP
   obtain⟨y,hy⟩:∃y,x.bytes[q]? =some y:=⟨_,gP (by rw[<-Hnb.af];exact hlq)⟩;obtain⟨r2,hr2,aa7⟩:=KY q y hy;replace hr2:r2=[.int .u8 y.toNat]:=hr2;subst hr2;have f0:=aa7 0 _ rfl;replace f0:w1.cell? (ak g2 q)=some (.int .u8 y.toNat):=by simpa [show fq.k=1 from rfl] using f0
   have hqn:(q:Int)<(nb:Int):=wP;obtain⟨⟨u0,hu0⟩,hfz,hnew⟩:=hp.set ai8 hg2 f0 rfl (u':=.int .u8 77) rfl;clear KY aa7 hy hg2 f0;go_wp2;go_roundw;exact⟨q+1,arH,wP,hnew⟩;simp[intOf];omega
  ·obtain rfl:q=nb:=wP
   obtain⟨⟨u0,hu0⟩,hfz,hnew⟩:=hp.set Pd Hg.af E3.af rfl (u':=ah 0) rfl;clear E3;go_wp2;go_roundw;exact⟨k+1,arH,wP,hnew⟩;simp[intOf];omega
 ·obtain rfl:k=n0:=wP
  go_wp2_with fail;go_loopw [4] (fun i wr=>∃k:Nat,i=ah k/\k<=n1/\Ec S w1 wr) (fun i _=>n1-(intOf i).toNat);exact⟨0,rfl,alg _,hp⟩;rename World=>wc
  obtain⟨j,rfl,hj,hp⟩:=hrel;have b3:wc.cell? (ak w 3)=some (.slice na n1 nc):=by rw[aV ((HB.af wc hp).trans eT.af)];rfl
  by_cases hlt:j<n1
  ·obtain⟨g,cur,rfl,hg,Pd,hat⟩:=HNr.af wP
   obtain⟨x,hx⟩:∃x,im.ar6[j]? =some x:=⟨_,gP (by rw[<-H1.af];exact hlt)⟩;obtain⟨r,⟨c,rfl,hby,-⟩,hce⟩:=hat j x hx;obtain⟨da,dc,rfl,hdm,hdr⟩:=hby.row;have e0:=hce 0 _ rfl;have e1:=hce 1 _ rfl;replace e0:w1.cell? (ak g (j*2))=some (ax x.arT):=e0;replace e1:w1.cell? (ak g (j*2+1))=some (.slice da x.asi.length dc):=e1;have e1a:=hp.sl hg e1;obtain ⟨nb,hnb⟩:=aiG x.asi.length;have Hnb:=aj hnb;have Hdr:=aj hdr;rw[<-hnb]at e1 e1a Hdr hdm;have E1:=aj e1;have E0:=aj e0;have Hg:=aj hg;have hkn:(j:Int)<(n1:Int):=wP;clear hat hce hby hx hdr hnb e1 e0 hg;go_wp2_with fail;go_loopw [5] (fun i wr=>∃k:Nat,i=ah k/\k<=nb/\Ec S w1 wr) (fun i _=>nb-(intOf i).toNat);exact⟨0,rfl,alg _,hp⟩;rename World=>wd
   obtain⟨q,rfl,hq,hp⟩:=hrel;have b3:wd.cell? (ak w 3)=some (.slice (some ⟨g,0,none⟩) n1 nc):=by rw[aV ((HB.af wd hp).trans eT.af)];rfl
   have e1:=hp.sl Hg.af E1.af;by_cases hlq:q<nb
   ·obtain⟨g2,aoK,rfl,hg2,ai8,KY⟩:=Hdr.af wP
    obtain⟨y,hy⟩:∃y,x.asi[q]? =some y:=⟨_,gP (by rw[<-Hnb.af];exact hlq)⟩;obtain⟨r2,hr2,aa7⟩:=KY q y hy;obtain rfl:r2=[ax y]:=hr2.1;have f0:=aa7 0 _ rfl;replace f0:w1.cell? (ak g2 q)=some (ax y):=by simpa [show lG.k=1 from rfl] using f0
    have hqn:(q:Int)<(nb:Int):=wP;obtain⟨⟨u0,hu0⟩,hfz,hnew⟩:=hp.set ai8 hg2 f0 rfl (u':=.string ⟨#[115,112,111,105,108,116]⟩) rfl;clear KY aa7 hy hg2 f0 hr2;go_wp2;go_roundw;exact⟨q+1,arH,wP,hnew⟩;simp[intOf];omega
   ·obtain rfl:q=nb:=wP
    obtain⟨⟨u0,hu0⟩,hfz,hnew⟩:=hp.set Pd Hg.af E0.af rfl (u':=.string ⟨#[115,112,111,105,108,116]⟩) rfl;clear E0;go_wp2;go_roundw;exact⟨j+1,arH,wP,hnew⟩;simp[intOf];omega
  ·obtain rfl:j=n1:=wP
   go_wp2_with fail;go_loopw [6] (fun i wr=>∃k:Nat,i=ah k/\k<=n2/\Ec S w1 wr) (fun i _=>n2-(intOf i).toNat);exact⟨0,rfl,alg _,hp⟩;rename World=>we
   obtain⟨i2,rfl,hi2,hp⟩:=hrel;have b4:we.cell? (ak w 4)=some (.slice ra n2 rc):=by rw[aV ((HB.af we hp).trans eT.af)];rfl
   by_cases hlt:i2<n2
   ·obtain⟨g,cur,rfl,hg,Pd,hat⟩:=jC.af wP
    obtain⟨x,hx⟩:∃x,im.aF[i2]? =some x:=⟨_,gP (by rw[<-H2.af];exact hlt)⟩;obtain⟨r,hr,hce⟩:=hat i2 x hx;obtain rfl:r=[ax x]:=hr.1;have f0:=hce 0 _ rfl;replace f0:w1.cell? (ak g i2)=some (ax x):=by simpa [show lG.k=1 from rfl,show fq.k=1 from rfl,show gq.k=9 from rfl] using f0
    have hkn:(i2:Int)<(n2:Int):=wP;obtain⟨⟨u0,hu0⟩,hfz,hnew⟩:=hp.set Pd hg f0 rfl (u':=.string ⟨#[115,112,111,105,108,116]⟩) rfl;clear hat hce hx hg f0;go_wp2;go_roundw;exact⟨i2+1,arH,wP,hnew⟩;simp[intOf];omega
   ·obtain rfl:i2=n2:=wP
    go_wp2_with fail;go_loopw [7] (fun i wr=>∃k:Nat,i=ah k/\k<=n3/\Ec S w1 wr) (fun i _=>n3-(intOf i).toNat);exact⟨0,rfl,alg _,hp⟩;rename World=>wf
    obtain⟨i3,rfl,hi3,hp⟩:=hrel;have b5:wf.cell? (ak w 5)=some (.slice ya n3 yc):=by rw[aV ((HB.af wf hp).trans eT.af)];rfl
    by_cases hlt:i3<n3
    ·obtain⟨g,cur,rfl,hg,Pd,hat⟩:=HYr.af wP
     obtain⟨x,hx⟩:∃x,im.av[i3]? =some x:=⟨_,gP (by rw[<-H3.af];exact hlt)⟩;obtain⟨r,hr,hce⟩:=hat i3 x hx;obtain rfl:r=lT x:=hr.1;have f0:=hce 0 _ rfl;replace f0:w1.cell? (ak g (i3*9))=some (ax x.arT):=by simpa [show lG.k=1 from rfl,show fq.k=1 from rfl,show gq.k=9 from rfl] using f0
     have hkn:(i3:Int)<(n3:Int):=wP;obtain⟨⟨u0,hu0⟩,hfz,hnew⟩:=hp.set Pd hg f0 rfl (u':=.string ⟨#[115,112,111,105,108,116]⟩) rfl;clear hat hce hx hg f0;go_wp2;go_roundw;exact⟨i3+1,arH,wP,hnew⟩;simp[intOf];omega
    ·obtain rfl:i3=n3:=wP
     go_wp2_with fail;go_loopw [8] (fun i wr=>∃k:Nat,i=ah k/\k<=n4/\Ec S w1 wr) (fun i _=>n4-(intOf i).toNat);exact⟨0,rfl,alg _,hp⟩;rename World=>wg
     obtain⟨i4,rfl,hi4,hp⟩:=hrel;have b13:wg.cell? (ak w 13)=some (.slice ta n4 tc):=by rw[aV ((HB.af wg hp).trans eT.af)];rfl
     by_cases hlt:i4<n4
     ·obtain⟨g,cur,rfl,hg,Pd,hat⟩:=QY.af wP
      obtain⟨x,hx⟩:∃x,im.bf[i4]? =some x:=⟨_,gP (by rw[<-H4.af];exact hlt)⟩;obtain⟨r,hr,hce⟩:=hat i4 x hx;obtain rfl:r=[.int .u8 x.toNat]:=hr;have f0:=hce 0 _ rfl;replace f0:w1.cell? (ak g i4)=some (.int .u8 x.toNat):=by simpa [show lG.k=1 from rfl,show fq.k=1 from rfl,show gq.k=9 from rfl] using f0
      have hkn:(i4:Int)<(n4:Int):=wP;obtain⟨⟨u0,hu0⟩,hfz,hnew⟩:=hp.set Pd hg f0 rfl (u':=.int .u8 77) rfl;clear hat hce hx hg f0;go_wp2;go_roundw;exact⟨i4+1,arH,wP,hnew⟩;simp[intOf];omega
     ·obtain rfl:i4=n4:=wP
      go_wp2_with fail;go_end0;exact⟨rfl,aoJ.af _ hp⟩
theorem aoL (w:World):WJ w.heap.size (·<w.heap.size) (w.alloc (aB #[au,ah 0] 113)) []:=
 ⟨_,ah2 w _,aX.nil _ _ _ _ _,fun x hx=>⟨by rw[lW];have:x<w:=hx;omega,by have:x<w:=hx;omega,by simp[Value.ownBlock]⟩⟩
end Go.Proofs.YtpjgjeadjjackaaGreat
