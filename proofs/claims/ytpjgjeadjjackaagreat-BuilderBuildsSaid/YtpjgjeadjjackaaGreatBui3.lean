/- Lemmas. -/
import Derived.Test.YtpjgjeadjjackaaGreatBui1
import Derived.BigQuiet
import Derived.Below
import Derived.KernelRfl
import Derived.Test.YtpjgjeadjjackaaGreatChecked
import Derived.StillTail
import Derived.Laws.AppendOwnNone
import Derived.Maps.AppendAt
import Derived.Deep.RegionHeld
import Derived.Deep.QuietTactic
import Derived.Deep.RegionHeld3
import Derived.OrdersHeld
import Derived.Lib.Bytealg
import Derived.Laws.Externs
import Derived.Deep.DeepCutAuto
import Derived.Deep.CutBlock
import Derived.Lib.SlBytesConst
set_option linter.unusedVariables false
set_option linter.unusedSimpArgs false
set_option maxHeartbeats 64000000
set_option maxRecDepth 100000
namespace Go.Proofs.YtpjgjeadjjackaaGreat
open Go.RowKit Go
open Go.Proofs.Tryz renaming prog->asq
open _root_.Array renaming getElem?_eq_some_iff->ah1,getElem?_setIfInBounds_self_of_lt->fQ,getElem?_append_left->acP
open _root_.Bool renaming and_eq_true->pJ,not_eq_true'->bg,eq_iff_iff->Rq
open Go renaming heap_alloc_new->ah2,mem_ready->acQ,info_parts->dM
open Go.Addr renaming add_lit->fK
open Go.Lib renaming cell_of_heap->aV,frozen_of_heap->vV
open Go.RowKit.Below renaming refl->PZ
open Go.World.ownsRow renaming lt->AY
open _root_.Int renaming natCast_nonneg->aY,toNat_natCast->AZ
open _root_.List renaming getElem?_eq_getElem->gP,prefix_refl->mV,getElem?_eq_some_iff->Sm,map_cons->Sn,getElem?_append_right->zU,getElem?_append_left->bH,all_eq_true->P5,length_append->Kk,getElem?_take->dY,sum_cons->YZ,mem_cons->Y1,findIdx?_append->Kl,pairwise_cons->pz,findIdx?_cons->dz,getElem?_cons_succ->Y6,length_cons->oF,mem_range->P6,getD_eq_getElem?_getD->tK,getElem?_map->vW,map_append->A7,getElem?_eq_none->aj5,take_append_drop->jf,filter_append->ES,append_assoc->Sq,take_length->dF,any_eq_true->vX,length_nil->aR,foldl_cons->nY
open _root_.Nat renaming le_refl->oD,lt_or_ge->oG,zero_add->bE,zero_le->alg,le_trans->eG,one_mul->Sr
open _root_.Option.some renaming inj->qY
open _root_.Or renaming inl->aH,inr->aZ
variable {i B pb:Nat}{w w':World}{P:Program}{Q:Exit->Act->World->Prop}{a:Act}{ops:Array Oper}{o:Oper}{S E:Nat->Prop}{ar1:List (List UInt8)}{own e:Int}
theorem sum_add (l:List Nat) (f g:Nat->Nat):(l.map fun k=>f k+g k).sum=(l.map f).sum+(l.map g).sum:=by
 induction l with
 | nil=>rfl
 | cons a l ih=>simp only[Sn,YZ,ih];omega
theorem Zk (l:List Nat):(l.map fun _=>(0:Nat)).sum=0:=by
 induction l with
 | nil=>rfl
 | cons a l ih=>simp only[Sn,YZ,ih]
theorem NI (l:List Nat) (f g:Nat->Nat) (h:∀k∈l,f k=g k):(l.map f).sum=(l.map g).sum:=by
 rw[List.map_congr_left h]
section
variable (home : Nat -> Nat)
def atHome (S:List Nat) (b:Nat) (i:Int):Bool:=S.any fun k=>decide (i=(k:Int))&&decide (home k=b)
def Jt (S:List Nat) (b:Nat) (c:List Int):Nat:=(S.map fun k=>if home k=b then c.count (k:Int) else 0).sum
theorem acR (S:List Nat) (hS:S.Nodup) (b:Nat) (i:Int):(if atHome home S b i then 1 else 0)=(S.map fun k=>if home k=b then (if i=(k:Int) then 1 else 0) else 0).sum:=by
 induction S with
 | nil=>rfl
 | cons k S ih=>
  obtain⟨hk,hS'⟩:=List.nodup_cons.1 hS;simp only[Sn,YZ];rw[<-ih hS'];by_cases h1:i=(k:Int)
  ·have h2:atHome home S b i=false:=by
    rw[atHome,List.any_eq_false];intro x hx;have:x≠k:=fun e=>hk (e ▸ hx)
    simp;omega
   by_cases h3:home k=b<;>simp[atHome,h1,h3]at h2 ⊢<;>simpa using h2
  ·by_cases h3:home k=b<;>simp[atHome,h1,h3]
theorem abN (S:List Nat) (hS:S.Nodup) (b:Nat) (c:List Int):c.countP (atHome home S b)=Jt home S b c:=by
 induction c with
 | nil=>simp[Jt,Zk]
 | cons i c ih=>
  rw[List.countP_cons,ih]
  have:Jt home S b (i :: c)=Jt home S b c+(S.map fun k=>if home k=b then (if i=(k:Int) then 1 else 0) else 0).sum:=by
   unfold Jt;rw[<-sum_add];apply NI;intro k _;rw[List.count_cons];by_cases h3:home k=b<;>simp[h3]
  rw[this,<-acR home S hS]
def homes (S:List Nat):Nat->List (List Int)->Nat
 | _,[]=>0
 | b,c :: l=>c.countP (atHome home S b)+homes S (b+1) l
theorem Xv (S:List Nat) (hS:S.Nodup):∀(bs:List (List Int)) (b:Nat),homes home S b bs=(S.map fun k=>if home k<b then 0 else (bs.getD (home k-b) []).count (k:Int)).sum
 | [],b=>by
  refine(Zk S).symm.trans (NI S _ _ (fun k _=> ?_));by_cases h:home k<b<;>simp[h]
 | c :: l,b=>by
  rw[homes,Xv S hS l (b+1),abN home S hS,Jt,<-sum_add];apply NI;intro k _;by_cases h:home k<b
  ·simp[h,show home k<b+1 by omega,show home k≠b by omega]
  ·by_cases h2:home k=b
   ·simp[h2]
   ·have:home k-b=(home k-(b+1))+1:=wP
    simp[h,h2,show ¬home k<b+1 by omega,this]
theorem Zl (S:List Nat):∀(bs:List (List Int)) (b:Nat),homes home S b bs<=(bs.map List.length).sum
 | [],_=>oD _
 | c :: l,b=>by
  have:=Zl S l (b+1);have h2:=List.countP_le_length (p:=atHome home S b) (l:=c);simp only[homes,Sn,YZ];omega
theorem Xw (S:List Nat):∀(bs:List (List Int)) (b:Nat),homes home S b bs=(bs.map List.length).sum↔∀j c,bs[j]? =some c->∀i∈c,atHome home S (b+j) i=true
 | [],_=>by simp[homes]
 | c :: l,b=>by
  have h1:=Zl home S l (b+1);have h2:=List.countP_le_length (p:=atHome home S b) (l:=c);have ih:=Xw S l (b+1);have h3:=List.countP_eq_length (p:=atHome home S b) (l:=c);simp only[homes,Sn,YZ];constructor
  ·intro h j d hj
   cases j with
   | zero=>simp at hj;subst hj;exact h3.1 wP
   | succ j=>
    have:=ih.1 wP j d (by simpa using hj)
    rwa [show b+1+j=b+(j+1) by omega]at this
  ·intro h
   have a1:=h3.2 (fun i hi=>by simpa using h 0 c arG i hi);have a2:=ih.2 (fun j d hj=>by have:=h (j+1) d (by simpa using hj);rwa [show b+(j+1)=b+1+j by omega]at this);omega
theorem ah3 (S:List Nat) (f:Nat->Nat) (h:∀k∈S,f k<=1):(S.map f).sum=S.length↔∀k∈S,f k=1:=by
 induction S with
 | nil=>simp
 | cons a S ih=>
  have h1:=h a arG
  have hle:(S.map f).sum<=S.length:=by
   clear ih;have h':∀k∈S,f k<=1:=fun k hk=>h k (by simp[hk])
   clear h
   induction S with
   | nil=>simp
   | cons b S ih2=>
    have:=h' b arG;have:=ih2 (fun k hk=>h' k (by simp[hk]));simp only[Sn,YZ,oF];omega
  have ih':=ih (fun k hk=>h k (by simp[hk]));simp only[Sn,YZ,oF,Y1,forall_eq_or_imp];rw[<-ih'];omega
theorem Zm (c:List Int) (h:c.Pairwise (·<·)) (i:Int):c.count i<=1:=by
 induction c with
 | nil=>simp
 | cons a c ih=>
  obtain⟨h1,h2⟩:=pz.1 h;rw[List.count_cons];by_cases e:a=i
  ·have:c.count i=0:=by
    rw[List.count_eq_zero];intro hi;have:=h1 i hi;omega
   simp[e,this]
  ·have:=ih h2
   simp[e];exact this
theorem Zn (S:List Nat) (hS:S.Nodup) (bs:List (List Int)) (hb:∀c∈bs,c.Pairwise (·<·)) (hn:(bs.map List.length).sum=S.length):
  (∀j c,bs[j]? =some c->∀i∈c,atHome home S j i=true)↔∀k∈S,(bs.getD (home k) []).count (k:Int)=1:=by
 have h1:=Xw home S bs 0;have h2:=Xv home S hS bs 0;simp only[Nat.not_lt_zero,if_false,Nat.sub_zero,bE]at h1 h2;rw[<-h1,h2,hn];refine ah3 S _ (fun k _=> ?_);by_cases h:home k<bs.length
 ·rw[tK,gP h];exact Zm _ (hb _ (List.getElem_mem h)) _
 ·simp[List.getD,aj5 (Nat.le_of_not_lt h)]
end
def alh:bF:=⟨[],[],false,0,false,0,false,0,0⟩
def kX (av:List bF) (k:Nat):bF:=av[k]?.getD alh
def nZ (av:List bF) (n:Nat):List Nat:=(List.range n).filter fun k=>ow (kX av k)
def bQ (av:List bF):List Nat:=nZ av av.length
theorem ET (av:List bF) (n:Nat):nZ av (n+1)=nZ av n++if ow (kX av n) then [n] else []:=by
 rw[nZ,List.range_succ,ES,List.filter_cons,List.filter_nil];rfl
theorem NJ (av:List bF):(bQ av).Nodup:=List.nodup_range.sublist List.filter_sublist
theorem Dk (av:List bF) (n k:Nat):k∈nZ av n↔k<n/\ow (kX av k)=true:=by
 rw[nZ,List.mem_filter,P6]
theorem NK (av:List bF):∀n,n<=av.length->(nZ av n).length=((av.take n).filter ow).length
 | 0,_=>by simp[nZ]
 | n+1,h=>by
  rw[ET,Kk,NK av n wP,List.take_succ_eq_append_getElem (show n<av.length by omega),ES,Kk];have:kX av n=av[n]:=by rw[kX,gP (show n<av.length by omega)];rfl
  rw[this];by_cases hs:ow av[n]=true<;>simp[hs]
theorem Em (av:List bF):(bQ av).length=(av.filter ow).length:=by
 rw[bQ,NK av _ (oD _),dF]
theorem FE (av:List bF) (n:Nat):(nZ av n).length<=n:=by
 have:=List.length_filter_le (fun k=>ow (kX av k)) (List.range n)
 rwa [List.length_range]at this
def iW:List Int->Bool
 | a :: b :: l=>decide (a<b)&&iW (b :: l)
 | _=>true
theorem rising_pairwise:∀l:List Int,iW l=true↔l.Pairwise (·<·)
 | []=>by simp[iW]
 | [a]=>by simp[iW]
 | a :: b :: l=>by
  have ih:=rising_pairwise (b :: l);rw[iW,pJ,ih,pz (a:=a),arI];constructor
  ·rintro ⟨h1,h2⟩
   refine⟨fun c hc=> ?_,h2⟩;rcases Y1.1 hc with rfl | hc
   ·exact h1
   ·have:=(pz.1 h2).1 c hc;omega
  ·rintro ⟨h1,h2⟩
   exact⟨h1 b arG,h2⟩
def Aq (im:bK) (k:Nat):Nat:=jY (kX im.av k).arT im.ar9.length
def tC (im:bK) (k:Nat):Bool:=decide ((im.ar9.getD (Aq im k) []).count (k:Int)=1)&& !tH im.ar8 im.ase (lw (kX im.av k).arT)
def rT (im:bK) (b:Nat) (i:Int):Bool:=match (if i<0 then none else im.av[i.toNat]?)with
  | some s=>ow s&&decide (jY s.arT im.ar9.length=b)&& !tH im.ar8 im.ase (lw s.arT)
  | none=>false
theorem Su (im:bK) (b:Nat):∀(l:List Int) (last:Int),chainB im.av im.ar8 im.ase im.ar9.length b last l=true↔(∀i∈l,last<i)/\l.Pairwise (·<·)/\∀i∈l,rT im b i=true
 | [],_=>by simp[chainB]
 | i :: l,last=>by
  have ih:=Su im b l i;have e:chainB im.av im.ar8 im.ase im.ar9.length b last (i :: l)=(decide (last<i)&&rT im b i&&chainB im.av im.ar8 im.ase im.ar9.length b i l):=by rw[chainB];rfl
  rw[e,pJ,pJ,ih,arI,pz];constructor
  ·rintro ⟨⟨h1,h2⟩,h3,h4,h5⟩
   refine⟨fun c hc=> ?_,⟨h3,h4⟩,fun c hc=> ?_⟩
   ·rcases Y1.1 hc with rfl | hc
    ·exact h1
    ·have:=h3 c hc;omega
   ·rcases Y1.1 hc with rfl | hc
    ·exact h2
    ·exact h5 c hc
  ·rintro ⟨h1,⟨h3,h4⟩,h5⟩
   exact⟨⟨h1 i arG,h5 i arG⟩,h3,h4,fun c hc=>h5 c (by simp[hc])⟩
theorem NL {im:bK} {b:Nat} {i:Int} (h:rT im b i=true):0<=i:=by
 unfold rT at h;by_cases hi:i<0
 ·rw[if_pos hi]at h;cases h
 ·omega
theorem EU {im:bK} {b:Nat} {i:Int}:rT im b i=true↔∃k∈bQ im.av,i=(k:Int)/\Aq im k=b/\tH im.ar8 im.ase (lw (kX im.av k).arT)=false:=by
 constructor
 ·intro h
  have h0:=NL h;obtain⟨k,rfl⟩:∃k:Nat,i=k:=⟨i.toNat,wP⟩;unfold rT at h;rw[if_neg wP,AZ]at h
  cases hs:im.av[k]? with
  | none=>rw[hs]at h;cases h
  | some s=>
   rw[hs]at h;have hk:=(Sm.1 hs).1;have hn:kX im.av k=s:=by rw[kX,hs];rfl
   simp only[pJ,arI,bg]at h;exact⟨k,(Dk _ _ _).2 ⟨hk,by rw[hn];exact h.1.1⟩,rfl,by rw[Aq,hn];exact h.1.2,by rw[hn];exact h.2⟩
 ·rintro ⟨k,hk,rfl,h1,h2⟩
  obtain⟨hk1,hk2⟩:=(Dk _ _ _).1 hk;have hs:im.av[k]? =some (kX im.av k):=by rw[kX,gP hk1];rfl
  unfold rT;rw[if_neg wP,AZ,hs];simp only[pJ,arI,bg];exact⟨⟨hk2,h1⟩,h2⟩
theorem I8 (im:bK):∀(bs:List (List Int)) (b:Nat),Ap im.av im.ar8 im.ase im.ar9.length b bs=true↔(∀c∈bs,c.Pairwise (·<·))/\∀j c,bs[j]? =some c->∀i∈c,rT im (b+j) i=true
 | [],_=>by simp[Ap]
 | c :: l,b=>by
  have ih:=I8 im l (b+1);rw[Ap,pJ,ih,Su];constructor
  ·rintro ⟨⟨_,h2,h3⟩,h4,h5⟩
   refine⟨fun d hd=> ?_,fun j d hj=> ?_⟩
   ·rcases Y1.1 hd with rfl | hd
    ·exact h2
    ·exact h4 d hd
   ·cases j with
    | zero=>simp at hj;subst hj;exact h3
    | succ j=>rw[show b+(j+1)=b+1+j by omega];exact h5 j d (by simpa using hj)
  ·rintro ⟨h1,h2⟩
   have h0:=h2 0 c arG;refine⟨⟨fun i hi=> ?_,h1 c arG,h0⟩,fun d hd=>h1 d (by simp[hd]),fun j d hj=> ?_⟩
   ·have:=NL (h0 i hi);omega
   ·have:=h2 (j+1) d (by simpa using hj)
    rwa [show b+(j+1)=b+1+j by omega]at this
def wW (im:bK):Bool:=
 decide (im.av.length<=512)&&decide (1<=im.ar9.length)&&decide (im.ar9.length<=512)&&oz im.ar8 im.ase&&im.ar9.all iW&&
 decide ((im.ar9.map List.length).sum=(bQ im.av).length)&&(bQ im.av).all (tC im)
theorem agB (im:bK):wW im=nA im:=by
 rw[Rq];unfold wW nA;simp only[pJ,arI];rw[I8,<-Em];simp only[bE]
 have hall:(im.ar9.all iW=true)↔∀c∈im.ar9,c.Pairwise (·<·):=by
  rw[P5];exact⟨fun h c hc=>(rising_pairwise c).1 (h c hc),fun h c hc=>(rising_pairwise c).2 (h c hc)⟩
 rw[hall];constructor
 ·rintro ⟨⟨⟨h0,h1⟩,h2⟩,h3⟩
  refine⟨⟨h0,h1,?_⟩,h2⟩
  have hh:=(Zn (Aq im) (bQ im.av) (NJ _) im.ar9 h1 h2).2 (fun k hk=>by
   have:=P5.1 h3 k hk;simp only[tC,pJ,arI]at this;exact this.1)
  intro j c hj i hi;have:=hh j c hj i hi;simp only[atHome,vX,pJ,arI]at this;obtain⟨k,hk,h4,h5⟩:=this;have h6:=P5.1 h3 k hk;simp only[tC,pJ,arI,bg]at h6;exact EU.2 ⟨k,hk,h4,h5,h6.2⟩
 ·rintro ⟨⟨h0,h1,h3⟩,h2⟩
  refine⟨⟨⟨h0,h1⟩,h2⟩,?_⟩
  have hh:=(Zn (Aq im) (bQ im.av) (NJ _) im.ar9 h1 h2).1 (fun j c hj i hi=>by
   obtain⟨k,hk,h4,h5,_⟩:=EU.1 (h3 j c hj i hi);simp only[atHome,vX,pJ,arI];exact⟨k,hk,h4,h5⟩)
  rw[P5];intro k hk;have hc:=hh k hk;simp only[tC,pJ,arI,bg];refine⟨hc,?_⟩;have hmem:(k:Int)∈im.ar9.getD (Aq im k) []:=List.count_pos_iff.1 wP;rw[tK]at hmem
  cases hb:im.ar9[Aq im k]? with
  | none=>rw[hb]at hmem;simp at hmem
  | some c=>
   rw[hb]at hmem;obtain⟨k',_,h4,_,h6⟩:=EU.1 (h3 _ c hb (k:Int) (by simpa using hmem));have:k'=k:=wP;subst this;exact h6
structure Later (w:World) where
 w':World
 h:Below w w w'
instance Later.inst (w:World):Nonempty (Later w):=⟨⟨w,PZ _ w⟩⟩
theorem Later.cell (x:Later w) {p:Addr} {v:Value} (c:w.cell? p=some v):x.w'.cell? p=some v:=(x.h.cell (World.block_lt_of_cell? _ _ c)).trans c
theorem Later.call (x:Later w) {f:FuncId} {args:Array Value} {v:Value} (h:Calls P f args x.w' fun e w'=>e=.returned v/\Below x.w'.heap.size x.w' w'):
  Calls P f args x.w' fun e w''=>e=.returned v/\∃y:Later w,w''=y.w':=
 h.mono fun _ w' ⟨he,hb⟩=>⟨he,⟨⟨w',x.h.trans (hb.mono x.h.size)⟩,rfl⟩⟩
theorem Later.Ar (x:Later w) {f:FuncId} {args:Array Value} {v:Value} (h:Calls P f args x.w' fun e w'=>e=.returned v/\w'=x.w'):
  Calls P f args x.w' fun e w''=>e=.returned v/\∃y:Later w,w''=y.w':=
 h.mono fun _ w' ⟨he,hb⟩=>⟨he,⟨x,hb⟩⟩
theorem dG {id:Nat} {l:List Oper} (hm:P.follows .mixedOrders=true) (hB:Region.lexB .any l.toArray=true)
  (h:wpQuiet P l.toArray (fun w'=>∃x:Later w,w'=x.w') (fun a'=>∀w',(∃x:Later w,w'=x.w')->Q .normal a' w') l a):(Code.region id l.toArray true).wp P Q a w:=
 wp_region_quiet (C:=fun w'=>∃x:Later w,w'=x.w') hm hB ⟨⟨_,(PZ _ w).drew⟩,rfl⟩ (by simpa using h)
section
variable {P : Program}
def Sv (md:Region.Mode) (ops:Array Oper) (n:Nat):Bool:=
 decide (n<=ops.size)&&
 ((List.range n).all fun i=>match ops[i]? with
  | some o=>(o.after.all fun e=> !Region.binds md e||decide (e.on<i))&&(match o.guard with | some (g,_)=>decide (g<n) | none=>true)
  | none=>false)&&
 ((List.range ops.size).all fun t=>decide (t<n)||(List.range n).all fun i=>Region.waitsFor md ops t i)&&
 Region.seqB md ops (ops.size-n) n (Array.replicate n true++Array.replicate (ops.size-n) false)
def dU (P:Program) (ops:Array Oper) (tail:List Oper) (Q:Exit->Act->World->Prop):Exit->Act->World->Prop
 | .normal,a,w=>wpList P ops Q tail a w
 | .exit i,a,w=>Q (.exit i) a w
 | .goto l,a,w=>Q (.goto l) a w
 | .ret,a,w=>Q .ret a w
 | .panic c,a,w=>Q (.panic c) a w
 | .outgrown,a,w=>Q .outgrown a w
theorem Sw {md:Region.Mode} {ops:Array Oper} {Q:Exit->Act->World->Prop}:∀(f:Nat) (listed:Array Bool) (a:Act) (w:World),wpAny P md ops Q f listed a w->wpAny P md ops Q (f+1) listed a w
 | 0,_,_,_,h=>⟨fun _=>h.2,fun i hi=>by rw[h.1]at hi;cases hi⟩
 | f+1,_,_,_,h=>⟨h.1,fun i hi=>wpOp_mono (fun a' w' h'=>Sw f _ a' w' h') (h.2 i hi)⟩
theorem Xx {md:Region.Mode} {ops:Array Oper} {Q:Exit->Act->World->Prop} (f:Nat) (listed:Array Bool) (a:Act) (w:World) (h:wpAny P md ops Q f listed a w):∀m,wpAny P md ops Q (f+m) listed a w
 | 0=>h
 | m+1=>Sw _ _ _ _ (Xx f listed a w h m)
theorem agC {tail:List Oper} {K:Act->World->Prop} (h:o.wp P a w K (dU P ops tail Q)):o.wp P a w K Q:=by
 unfold Oper.wp at *;generalize (execOp a.eval o).run P w=r at *
 cases r with
 | ok n w'=>
  cases n<;>simp only[Oper.upon]at h ⊢<;>
   first
    | exact h
    | exact Calls.mono h (fun e w'' he=>by cases e<;>exact he)
    | exact Rows.mono h (fun _ _ he=>he)
 | halt x w'=>cases x<;>simp only[Oper.upon]at h ⊢<;>exact h
theorem Zo (l:List Oper) (n g:Nat) (tmps:Array Value) (h:g<n):yielded (l.take n).toArray tmps g=yielded l.toArray tmps g:=by
 unfold yielded;simp[dY,h]
theorem WC {md:Region.Mode} {t:Nat} (ho:ops[t]? =some o) (h:Region.waitsFor md ops t i=true):∃e∈o.after,Region.binds md e=true/\e.on=i:=by
 obtain⟨oj,h1,h2⟩:=Region.waitsFor_spec h;rw[ho]at h1
 cases h1
 exact h2
theorem FH (L:Array Bool) (m i:Nat) (h:i<L.size) (d:Bool):(L++Array.replicate m false).getD i d=L.getD i d:=by
 simp[Array.getD,Array.getElem_append,h,Nat.lt_add_right m h]
theorem Zp (L:Array Bool) (i:Nat) (h:i<L.size) (d e:Bool):L.getD i d=L.getD i e:=by
 simp[Array.getD,h]
theorem abO {md:Region.Mode} {l:List Oper} (n:Nat) (hB:Sv md l.toArray n=true):
  ∀(f:Nat) (listed:Array Bool) (a:Act) (w:World),listed.size=n->
   wpAny P md (l.take n).toArray (dU P l.toArray (l.drop n) Q) f listed a w->
   wpAny P md l.toArray Q (f+(l.length-n)) (listed++Array.replicate (l.length-n) false) a w:=by
 simp only[Sv,pJ,arI]at hB;obtain⟨⟨⟨hn,hhead⟩,htail⟩,hseq⟩:=hB;have hn':n<=l.length:=by simpa using hn
 have hh:∀i,i<n->∃o,l[i]? =some o/\(∀e∈o.after,Region.binds md e=true->e.on<i)/\(∀g b,o.guard=some (g,b)->g<n):=fun i hi=>by
  have:=(P5.1 hhead) i (P6.2 hi);have hil:i<l.length:=wP;rw[List.getElem?_toArray,gP hil]at this;refine⟨_,gP hil,?_,?_⟩
  ·simp only[pJ]at this
   intro e he hb;have h1:=Array.all_eq_true'.1 this.1 e he
   simpa [hb] using h1
  ·simp only[pJ]at this
   intro g b hg;rw[hg]at this
   simpa using this.2
 have ht:∀t,n<=t->t<l.length->∀i,i<n->Region.waitsFor md l.toArray t i=true:=fun t h1 h2 i hi=>by
  have:=(P5.1 htail) t (P6.2 (by simpa using h2));simp only[Bool.or_eq_true,arI]at this;rcases this with h | h
  ·omega
  ·exact(P5.1 h) i (P6.2 hi)
 have acS:∀listed:Array Bool,listed.size=n->∀i,i∈Region.ready md l.toArray (listed++Array.replicate (l.length-n) false)->(∃k,k<n/\listed.getD k false=false)->
   i∈Region.ready md (l.take n).toArray listed:=fun listed hs i hi hex=>by
  obtain⟨h1,o,ho,hall⟩:=acQ.1 hi;obtain⟨k,hk,hkf⟩:=hex
  have hil:i<l.length:=by
   have:=(ah1.1 ho).1
   simpa using this
  rcases oG i n with hin | hin
  ·refine acQ.2 ⟨?_,o,?_,?_⟩
   ·rwa [FH _ _ _ wP]at h1
   ·simpa [dY,hin] using ho
   ·intro e he hb
    have h2:=hall e he hb;obtain⟨o',ho',hb',_⟩:=hh i hin
    have:o=o':=by
     have:l.toArray[i]? =some o':=by simpa using ho'
     rw[ho]at this;exact qY this
    subst this;have h3:=hb' e he hb
    rwa [FH _ _ _ wP]at h2
  ·exfalso
   obtain⟨e,he,hb,hon⟩:=WC ho (ht i hin hil k hk);have h2:=hall e he hb;rw[hon]at h2;rw[FH _ _ _ wP,hkf]at h2
   cases h2
 have acT:∀listed:Array Bool,listed.size=n->Region.ready md (l.take n).toArray listed=[]->∀k,k<n->listed.getD k false=true:=fun listed hs hr k=>by
  induction k using Nat.strongRecOn with
  | _ k ih=>
   intro hk;rcases hc:listed.getD k false with _ | _
   ·exfalso
    obtain⟨o,ho,hb,_⟩:=hh k hk
    have:k∈Region.ready md (l.take n).toArray listed:=by
     refine acQ.2 ⟨?_,o,?_,fun e he hbd=>ih e.on (hb e he hbd) (by have:=hb e he hbd;omega)⟩
     ·rw[Zp _ _ wP true false];exact hc
     ·simpa [dY,hk] using ho
    rw[hr]at this
    cases this
   ·rfl
 have finish:∀(listed:Array Bool) (a:Act) (w:World),listed.size=n->Region.ready md (l.take n).toArray listed=[]->wpList P l.toArray Q (l.drop n) a w->
   wpAny P md l.toArray Q (l.length-n) (listed++Array.replicate (l.length-n) false) a w:=fun listed a w hs hr h=>by
  have e:listed=Array.replicate n true:=by
   apply Array.ext
   ·simp[hs]
   ·intro i h1 h2
    have:=acT listed hs hr i wP;rw[Array.getD,dif_pos h1]at this
    simpa using this
  rw[e];have:=wpAny_of_seq (P:=P) (md:=md) (ops:=l.toArray) (Q':=Q) (l.drop n) n (Array.replicate n true++Array.replicate (l.length-n) false) a w (fun j=>by simp[List.getElem?_drop]) (by simpa using hseq) h
  simpa using this
 intro f
 induction f with
 | zero=>
  intro listed a w hs h;rw[bE];exact finish listed a w hs h.1 h.2
 | succ f ih=>
  intro listed a w hs h;by_cases hr:Region.ready md (l.take n).toArray listed=[]
  ·have:=Xx _ _ _ _ (finish listed a w hs hr (h.1 hr)) (f+1)
   rwa [Nat.add_comm]at this
  ·have hex:∃k,k<n/\listed.getD k false=false:=by
    obtain⟨k,hk⟩:=List.exists_mem_of_ne_nil _ hr;obtain⟨h1,o,ho,_⟩:=acQ.1 hk
    have hkn:k<n:=by
     have:=(ah1.1 ho).1;simp at this;omega
    refine⟨k,hkn,?_⟩;rw[Zp _ _ wP false true];exact h1
   rw[show f+1+(l.length-n)=(f+(l.length-n))+1 by omega];refine⟨fun h0=> ?_,fun i hi=> ?_⟩
   ·exfalso
    obtain⟨k,hk⟩:=List.exists_mem_of_ne_nil _ hr;obtain⟨h1,o,ho,hall⟩:=acQ.1 hk
    have hkn:k<n:=by
     have:=(ah1.1 ho).1;simp at this;omega
    have:k∈Region.ready md l.toArray (listed++Array.replicate (l.length-n) false):=by
     refine acQ.2 ⟨?_,o,?_,fun e he hb=> ?_⟩
     ·rwa [FH _ _ _ wP]
     ·simpa [dY,hkn] using ho
     ·have h2:=hall e he hb
      obtain⟨o',ho',hb',_⟩:=hh k hkn
      have:o=o':=by
       have h3:l[k]? =some o:=by simpa [dY,hkn] using ho
       rw[h3]at ho';exact qY ho'
      subst this;have h3:=hb' e he hb
      rwa [FH _ _ _ wP]
    rw[h0]at this
    cases this
   ·have hir:=acS listed hs i hi hex
    have hstep:=h.2 i hir
    have hin:i<n:=by
     obtain⟨_,o,ho,_⟩:=acQ.1 hir;have:=(ah1.1 ho).1;simp at this;omega
    obtain⟨o,ho,_,hg⟩:=hh i hin;have ho1:l.toArray[i]? =some o:=by simpa using ho
    have ho2:(l.take n).toArray[i]? =some o:=by simpa [dY,hin] using ho
    have hset:(listed++Array.replicate (l.length-n) false).setIfInBounds i true=listed.setIfInBounds i true++Array.replicate (l.length-n) false:=by
     apply Array.ext_getElem?;intro j;by_cases hji:i=j
     ·subst hji
      rw[fQ (by simp;omega),acP (by simp;omega),fQ wP]
     ·rw[Array.getElem?_setIfInBounds_ne hji]
      rcases oG j listed.size with h1 | h1
      ·rw[acP h1,acP (by simpa using h1),Array.getElem?_setIfInBounds_ne hji]
      ·rw[Array.getElem?_append_right h1,Array.getElem?_append_right (by simpa using h1),Array.size_setIfInBounds]
    have hw:Region.wanted o (yielded (l.take n).toArray a.tmps)=Region.wanted o (yielded l.toArray a.tmps):=by
     unfold Region.wanted
     cases hgd:o.guard with
     | none=>rfl
     | some q=>simp only[Zo l n q.1 a.tmps (hg q.1 q.2 hgd)]
    unfold wpOp at hstep ⊢;simp only[ho1,ho2]at hstep ⊢;rw[hset];rw[hw]at hstep
    split
    ·rename_i hwt
     simp only[hwt,if_true]at hstep;rcases hstep with hstep | ⟨h1,h2⟩
     ·exact .inl (agC (Oper.wp_mono (fun a' w' h'=>ih _ a' w' (by simpa using hs) h') hstep))
     ·exact .inr ⟨h1,by obtain⟨a',w',h'⟩:=h2;exact⟨a',w',h'⟩⟩
    ·rename_i hwt
     simp only[hwt]at hstep;exact ih _ _ _ (by simpa using hs) hstep
theorem bA {id:Nat} {l:List Oper} (n:Nat) (hm:P.follows .mixedOrders=true) (hB:Sv .any l.toArray n=true)
  (h:wpAny P .any (l.take n).toArray (dU P l.toArray (l.drop n) Q) n (Array.replicate n false) a {w with drawn:=w.drawn+1 }):(Code.region id l.toArray true).wp P Q a w:=by
 have hn:n<=l.length:=by
  simp only[Sv,pJ,arI]at hB
  simpa using hB.1.1.1
 refine wp_region_any hm ?_;have:=abO n hB n (Array.replicate n false) a _ arG h
 have e:Array.replicate n false++Array.replicate (l.length-n) false=Array.replicate l.toArray.size false:=by
  simp[Array.replicate_append_replicate,Nat.add_sub_cancel' hn]
 rw[e,Nat.add_sub_cancel' hn]at this
 simpa using this
end
structure Step (S:Nat->Prop) (w w':World):Prop where
 os:w'.os=w.os
 tape:w'.tape=w.tape
 output:w'.output=w.output
 size:w.heap.size<=w'
 block:∀b,S b->w'.heap[b]? =w.heap[b]?
theorem Step.refl (S:Nat->Prop) (w:World):Step S w w:=⟨rfl,rfl,rfl,oD _,fun _ _=>rfl⟩
theorem Step.trans {a b c:World} (h:Step S a b) (k:Step S b c):Step S a c:=⟨k.os.trans h.os,k.tape.trans h.tape,k.output.trans h.output,eG h.size k.size,fun i hi=>(k.block i hi).trans (h.block i hi)⟩
theorem Step.imp {S':Nat->Prop} (h:Step S w w') (hi:∀b,S' b->S b):Step S' w w':=⟨h.os,h.tape,h.output,h.size,fun b hb=>h.block b (hi b hb)⟩
theorem Step.drew {a:World} (h:Step S a w):Step S a w.drew:=⟨h.os,h.tape,h.output,h.size,h.block⟩
theorem Step.alloc {a:World} (h:Step S a w) (hS:∀b,S b->b<w.heap.size) (o:Obj):Step S a (w.alloc o):=
 ⟨h.os,h.tape,h.output,eG h.size arG,fun b hb=>(Below.heap_alloc w o b (hS b hb)).trans (h.block b hb)⟩
theorem Step.setCell {a:World} (h:Step S a w) {p:Addr} (hp:¬S p.block) (u:Value):Step S a (w.setCell p u):=
 ⟨h.os,h.tape,h.output,by simpa using h.size,fun b hb=>(Below.heap_setCell w p u b (fun e=>hp (e ▸ hb))).trans (h.block b hb)⟩
theorem Step.of_below (h:Below B w w'):Step (·<B) w w':=⟨h.os,h.tape,h.output,h.size,h.block⟩
theorem Step.below (h:Step (·<B) w w'):Below B w w':=⟨h.os,h.tape,h.output,h.size,h.block⟩
theorem Step.rU {row:Option Nat} (h:w.grownBy w' row) (hS:∀b,S b->b<w.heap.size/\row≠some b):Step S w w':=
 ⟨h.os,h.tape,h.output,h.size,fun b hb=>h.block b (hS b hb).1 (fun e=>(hS b hb).2 e.symm)⟩
theorem Step.asa (h:Step S w w'):Keeps S w w':=h.block
theorem Step.cell (h:Step S w w') {p:Addr} (hp:S p.block):w'.cell? p=w.cell? p:=World.cell?_of_block (h.block p.block hp)
theorem LB.step {α:Type} {K:Kind α} {v:Value} {l:List α} (h:LB K S w v l) (hs:Step S w w'):LB K S w' v l:=h.asa hs.asa
def fe {α:Type} (K:Kind α) (S:Nat->Prop) (w:World):List α->List Value->Prop
 | [],xs=>xs=[]
 | x :: l,xs=>∃r ys,xs=r++ys/\K.R S w x r/\fe K S w l ys
section
variable {α : Type} {K : Kind α} {S S' : Nat -> Prop} {w w' : World}
theorem fe.asa:∀ {l:List α} {xs:List Value},fe K S w l xs->Keeps S w w'->fe K S w' l xs
 | [],_,h,_=>h
 | _ :: _,_,⟨r,ys,e,h1,h2⟩,hk=>⟨r,ys,e,K.asa h1 hk,fe.asa h2 hk⟩
theorem fe.imp:∀ {l:List α} {xs:List Value},fe K S w l xs->(∀b,S b->S' b)->fe K S' w l xs
 | [],_,h,_=>h
 | _ :: _,_,⟨r,ys,e,h1,h2⟩,hi=>⟨r,ys,e,K.imp h1 hi,fe.imp h2 hi⟩
theorem fe.snoc:∀ {l:List α} {xs:List Value} {y:α} {r:List Value},fe K S w l xs->K.R S w y r->fe K S w (l++[y]) (xs++r)
 | [],xs,y,r,h,hr=>by
  have:xs=[]:=h;subst this;exact⟨r,[],arG,hr,rfl⟩
 | _ :: _,_,y,r,⟨r0,ys,e,h1,h2⟩,hr=>⟨r0,ys++r,by rw[e,Sq],h1,fe.snoc h2 hr⟩
theorem fe.app:∀ {l m:List α} {xs ys:List Value},fe K S w l xs->fe K S w m ys->fe K S w (l++m) (xs++ys)
 | [],m,xs,ys,h,hm=>by
  have:xs=[]:=h;subst this;exact hm
 | _ :: _,m,_,ys,⟨r0,zs,e,h1,h2⟩,hm=>⟨r0,zs++ys,by rw[e,Sq],h1,fe.app h2 hm⟩
theorem fe.get:∀ {l:List α} {xs:List Value},fe K S w l xs->∀i x,l[i]? =some x->∃r,K.R S w x r/\∀j u,r[j]? =some u->xs[i*K.k+j]? =some u
 | [],_,_,i,x,hx=>by simp at hx
 | y :: l,_,⟨r,ys,e,h1,h2⟩,i,x,hx=>by
  have hl:=K.len h1
  cases i with
  | zero=>
   simp at hx;subst hx;refine⟨r,h1,fun j u hu=> ?_⟩;rw[e,Nat.zero_mul,bE,bH (Sm.1 hu).1];exact hu
  | succ i=>
   obtain⟨r',h3,h4⟩:=fe.get h2 i x (by simpa using hx);refine⟨r',h3,fun j u hu=> ?_⟩;rw[e,zU (by rw[hl,Nat.succ_mul];omega),hl,Nat.succ_mul];rw[show i*K.k+K.k+j-K.k=i*K.k+j by omega];exact h4 j u hu
end
def aX {α:Type} (e:TypeId) (K:Kind α) (B:Nat) (E:Nat->Prop) (w:World) (v:Value) (l:List α):Prop:=
 ∃xs,w.ownsRow B e K.k v l.length xs/\fe K (fun b=>b<w/\¬E b/\v.ownBlock≠some b) w l xs/\∀g,v.ownBlock=some g->¬E g
section
variable {α : Type} {e : TypeId} {K : Kind α} {B : Nat} {E : Nat -> Prop} {w w' : World} {v : Value} {l : List α}
theorem aX.nil (e:TypeId) (K:Kind α) (B:Nat) (E:Nat->Prop) (w:World):aX e K B E w (au) []:=
 ⟨[],World.ownsRow_nil w B e K.k,rfl,fun g h=>by simp[Value.ownBlock]at h⟩
theorem aX.lt (h:aX e K B E w v l):∀k,v.ownBlock=some k->B<=k/\k<w.heap.size:=by
 obtain⟨xs,h1,_⟩:=h;exact AY h1
theorem aX.notE (h:aX e K B E w v l):∀k,v.ownBlock=some k->¬E k:=by
 obtain⟨xs,_,_,h3⟩:=h;exact h3
theorem aX.form (h:aX e K B E w v l):∃a c,v=.slice a l.length c:=by
 obtain⟨xs,h1,_⟩:=h;rcases h1.2 with ⟨rfl,h0⟩ | ⟨g,cap,cur,rfl,_⟩
 ·exact⟨none,0,by rw[h0]⟩
 ·exact⟨_,_,rfl⟩
theorem aX.step (h:aX e K B E w v l) (hs:Step S w w') (hS:∀b,b<w.heap.size->¬E b->S b):aX e K B E w' v l:=by
 obtain⟨xs,h1,h2,h3⟩:=h;have hlt:=AY h1;have hsz:=hs.size;refine⟨xs,⟨h1.1,?_⟩,?_,h3⟩
 ·rcases h1.2 with h0 | ⟨g,cap,cur,hv,hg,hh,r⟩
  ·exact aH h0
  ·refine aZ ⟨g,cap,cur,hv,hg,?_,r⟩
   have ho:v.ownBlock=some g:=by rw[hv];rfl
   rw[hs.block g (hS g (hlt g ho).2 (h3 g ho))];exact hh
 ·exact(h2.asa (fun b hb=>hs.block b (hS b hb.1 hb.2.1))).imp (fun b hb=>⟨wP,hb.2⟩)
theorem aX.below (h:aX e K B E w v l) (hb:Below w w w'):aX e K B E w' v l:=h.step (.of_below hb) fun _ h _=>h
theorem aX.alloc (h:aX e K B E w v l) (o:Obj):aX e K B E (w.alloc o) v l:=h.below ((PZ _ w).alloc (oD _) o)
theorem aX.drew (h:aX e K B E w v l):aX e K B E w.drew v l:=h.step ((Step.refl (fun _=>True) w).drew) fun _ _ _=>trivial
theorem aX.mono {B':Nat} (h:aX e K B E w v l) (hB:B'<=B):aX e K B' E w v l:=by
 obtain⟨xs,h1,h2,h3⟩:=h;refine⟨xs,⟨h1.1,?_⟩,h2,h3⟩;rcases h1.2 with h0 | ⟨g,cap,cur,hv,hg,r⟩
 ·exact aH h0
 ·exact aZ ⟨g,cap,cur,hv,eG hB hg,r⟩
theorem aX.less {E':Nat->Prop} (h:aX e K B E w v l) (hE:∀b,E' b->E b):aX e K B E' w v l:=by
 obtain⟨xs,h1,h2,h3⟩:=h;exact⟨xs,h1,h2.imp fun b hb=>⟨hb.1,fun h=>hb.2.1 (hE b h),hb.2.2⟩,fun g hg h=>h3 g hg (hE g h)⟩
theorem aX.lb (h:aX e K B E w v l):LB K (fun b=>b<w/\¬E b) w v l:=by
 obtain⟨xs,h1,h2,h3⟩:=h;have h1':=h1;have h2':=h2.imp (S':=fun b=>b<w/\¬E b) fun b hb=>⟨hb.1,hb.2.1⟩
 have hlt:=AY h1;rcases h1.2 with ⟨rfl,h0⟩ | ⟨g,cap,cur,rfl,hg,hh,hle,hcap,hs,ht⟩
 ·obtain rfl:l=[]:=List.eq_nil_of_length_eq_zero h0
  exact LB.nil _ _ _
 ·refine⟨some (ak g 0),g,0,cap,rfl,by unfold maxLen at hcap;omega,fun _=>rfl,⟨hle,fun h=>by cases h⟩,fun _=>⟨(hlt g rfl).2,h3 g rfl⟩,fun i x hx=> ?_⟩
  obtain⟨r,hr,hc⟩:=h2'.get i x hx;refine⟨r,hr,fun j u hu=> ?_⟩;have:=World.ownsRow.cells h1' (g:=g) rfl _ _ (hc j u hu)
  simpa [fK,Nat.add_assoc] using this
theorem fZ {rest:List Oper} (t:TypeId) (z:Value) (bytes:Nat) (ht:Tryz.prog.underlying t=some (.slice e)) (hinfo:(Tryz.prog.info? e).map (fun i=>(i.zero,i.size,i.bytes))=some (some z,K.k,bytes))
  (hzs:z.cells.size=K.k) (hk:0<K.k) (hgd:o.guard=none) (s x:Operand)
  (ho:o.op=.call {callee:=.builtin .append,args:=#[s,x],argTypes:=#[t,t]})
  (n:Nat) (hn:l.length=n) (hs:a.eval s=v) (hown:aX e K B E w v l) (hE:∀b,E b->b<w.heap.size) (nb:Nat) (y:α) (row:List Value) (hx:a.eval x=.slice (some ⟨nb,0,none⟩) 1 1)
  (hcell:∀j u,row[j]? =some u->w.cell? (ak nb j)=some u) (hone:∀u∈row,u.oneCell'=true) (hrow:K.R (fun b=>b<w/\¬E b/\v.ownBlock≠some b) w y row)
  (hlen:(l.length+1)*bytes<=140737488355328) (hl63:l.length<1099511627776) (hB:B<=w)
  (h:∀g c w',aX e K B E w' (.slice (some ⟨g,0,none⟩) (n+1) c) (l++[y])->Step (fun b=>b<w/\v.ownBlock≠some b) w w'->g<w'.heap.size->
   wpList asq ops Q rest (a.put o.dst (.slice (some ⟨g,0,none⟩) (n+1) c)) w'):wpList asq ops Q (o :: rest) a w:=by
 subst hn;obtain⟨i0,hi,hz0,hz1,hz2⟩:=dM hinfo;obtain⟨xs,h1,h2,h3⟩:=hown;have hlt:=AY h1;refine wpList_append_lies w hgd s x t ho B e i0 z K.k bytes ht hi hz0 hz1 hz2 hzs hk v l.length xs hs h1 (ak nb 0) 1 1 row hx (by rw[K.len hrow,Sr]) ?_ hone abD ?_ hlen hB _ rfl ?_
 ·intro j u hj
  have:=hcell j u hj
  simpa [fK] using this
 ·unfold maxLen;omega
 ·intro g c w' g1 g2 g3 g4
  have hst:Step (fun b=>b<w/\v.ownBlock≠some b) w w':=Step.rU g2 (fun b hb=>⟨hb.1,hb.2⟩);have hsz:=hst.size
  have Rs:∀b,b<w.heap.size->v.ownBlock≠some b->b≠g:=by
   intro b hb hne e;subst e;rcases g3 with h' | h'
   ·exact hne h'
   ·omega
  refine h g c w' ⟨xs++row,by simpa using g1,?_,?_⟩ hst g4
  ·have hr:=(h2.asa (fun b hb=>hst.block b ⟨hb.1,hb.2.2⟩)).snoc (K.asa hrow (fun b hb=>hst.block b ⟨hb.1,hb.2.2⟩))
   exact hr.imp fun b hb=>⟨wP,hb.2.1,fun e=>Rs b hb.1 hb.2.2 (by simpa [Value.ownBlock] using e.symm)⟩
  ·intro g' hg' yh
   have:g'=g:=by simpa [Value.ownBlock] using hg'.symm
   subst this;rcases g3 with h' | h'
   ·exact h3 _ h' yh
   ·have:=hE _ yh;omega
end
structure Plain {α:Type} (K:Kind α) (f:α->Value):Prop where
 one:K.k=1
 into:∀ {S w x r},K.R S w x r->r=[f x]
 of:∀S w x,K.R S w x [f x]
 cell:∀x,(f x).oneCell'=true
theorem nI:Plain fq (fun x=>.int .u8 x.toNat):=⟨rfl,fun h=>h,fun _ _ _=>rfl,fun _=>rfl⟩
theorem oZ:Plain dJ (fun x=>.int .i64 x):=⟨rfl,fun h=>h,fun _ _ _=>rfl,fun _=>rfl⟩
theorem Km:Plain jQ (fun x=>.int .u64 x):=⟨rfl,fun h=>h,fun _ _ _=>rfl,fun _=>rfl⟩
section
variable {α : Type} {e : TypeId} {K : Kind α} {f : α -> Value} {B : Nat} {E : Nat -> Prop} {w w' : World} {v : Value} {l : List α}
theorem fe.plain (hp:Plain K f) {S:Nat->Prop}:∀ {l:List α} {xs:List Value},fe K S w l xs->xs=l.map f
 | [],_,h=>h
 | _ :: _,_,⟨r,ys,h0,h1,h2⟩=>by rw[h0,hp.into h1,fe.plain hp h2];rfl
theorem fe.qJ (hp:Plain K f) (S:Nat->Prop) (w:World):∀l:List α,fe K S w l (l.map f)
 | []=>rfl
 | x :: l=>⟨[f x],l.map f,rfl,hp.of S w x,fe.qJ hp S w l⟩
theorem aX.Dl (hp:Plain K f) (h:aX e K B E w v l):w.ownsRow B e 1 v l.length (l.map f):=by
 obtain⟨xs,h1,h2,_⟩:=h;rw[hp.one]at h1
 rwa [fe.plain hp h2]at h1
theorem aX.qJ (hp:Plain K f) (h:w.ownsRow B e 1 v l.length (l.map f)) (hE:∀g,v.ownBlock=some g->¬E g):aX e K B E w v l:=
 ⟨l.map f,by rw[hp.one];exact h,fe.qJ hp _ _ l,hE⟩
theorem aX.p8 (hp:Plain K f) (h:aX e K B E w v l) (hk:∀g,v.ownBlock=some g->w'.heap[g]? =w.heap[g]?):aX e K B E w' v l:=by
 have h1:=h.Dl hp;refine .qJ hp ⟨h1.1,?_⟩ h.notE;rcases h1.2 with h0 | ⟨g,cap,cur,hv,hg,hh,r⟩
 ·exact aH h0
 ·exact aZ ⟨g,cap,cur,hv,hg,by rw[hk g (by rw[hv];rfl)];exact hh,r⟩
theorem oH {rest:List Oper} (hp:Plain K f) (t:TypeId) (z:Value) (bytes:Nat) (ht:Tryz.prog.underlying t=some (.slice e)) (hinfo:(Tryz.prog.info? e).map (fun i=>(i.zero,i.size,i.bytes))=some (some z,1,bytes))
  (hzs:z.cells.size=1) (hgd:o.guard=none) (s x:Operand)
  (ho:o.op=.call {callee:=.builtin .append,args:=#[s,x],argTypes:=#[t,t]})
  (hs:a.eval s=v) (hown:aX e K B E w v l) (hE:∀b,E b->b<w.heap.size) {S:Nat->Prop} (u:Value) (m:List α) (hx:a.eval x=u) (hu:LB K S w u m)
  (hlen:(l.length+m.length)*bytes<=140737488355328) (hl63:l.length+m.length<=9223372036854775807) (hB:B<=w)
  (h:∀v' w',aX e K B E w' v' (l++m)->Step (fun b=>b<w/\v.ownBlock≠some b) w w'->(∀b,b<w.heap.size->v.ownBlock≠some b->v'.ownBlock≠some b)->wpList asq ops Q rest (a.put o.dst v') w'):wpList asq ops Q (o :: rest) a w:=by
 obtain⟨i0,hi,hz0,hz1,hz2⟩:=dM hinfo;have h1:=hown.Dl hp;obtain⟨ua,ub,nN,Ct,hv,hm,ha,hcap,hS,hc⟩:=hu
 cases ua with
 | none=>
  have hm0:m=[]:=by
   cases m with
   | nil=>rfl
   | cons y m=>exact absurd (ha arG) arG
  subst hm0;have hc0:=hcap.2 rfl;subst hc0;refine wpList_append_own_none hgd s x t ho B e i0 1 ht hi v l.length (l.map f) hs h1 (hx.trans hv) ?_;exact h v w (by rw[List.append_nil];exact hown) (Step.refl _ _) (fun b _ h=>h)
 | some ad=>
  refine wpList_append_own_at w hgd s x t ho B e i0 z 1 bytes ht hi hz0 hz1 hz2 hzs abD v l.length (l.map f) hs h1 ad m.length Ct (m.map f) (hx.trans hv) arG ?_ ?_ (by unfold maxLen;omega) hlen hB ?_
  ·intro j u hj
   rw[vW]at hj
   cases GY:m[j]? with
   | none=>rw[GY]at hj;cases hj
   | some y=>
    rw[GY]at hj;have hu:f y=u:=by simpa using hj
    subst hu;have Dm:0<m.length:=by have:=(Sm.1 GY).1;omega
    obtain rfl:ad=(ak ub nN):=by have:=ha Dm;simpa using this
    obtain⟨row,r1,r2⟩:=hc j y GY;have:=hp.into r1;subst this;have:=r2 0 (f y) rfl;rw[hp.one]at this
    simpa [fK] using this
  ·intro u hu
   simp only[List.mem_map]at hu;obtain⟨y,_,rfl⟩:=hu;exact hp.cell y
  ·intro v' w' g1 g2 _ g4
   have hlt:=AY h1;have hlt':=AY g1;have hst:Step (fun b=>b<w/\v.ownBlock≠some b) w w':=Step.rU g2 (fun b hb=>⟨hb.1,hb.2⟩);refine h v' w' (.qJ hp (by rw[Kk,A7];exact g1) ?_) hst ?_
   ·intro g hg yh
    rcases g4 with h' | h'
    ·exact hown.notE g (by rw[<-h'];exact hg) yh
    ·have:g=w.heap.size:=by rw[h']at hg;exact(qY hg).symm
     have:=hE _ yh;omega
   ·intro b hb hne e
    rcases g4 with h' | h'
    ·exact hne (by rw[<-h'];exact e)
    ·have:b=w.heap.size:=by rw[h']at e;exact(qY e).symm
     omega
end
section
variable {α : Type} {e : TypeId} {K : Kind α} {B : Nat} {E : Nat -> Prop} {w w' : World} {v : Value} {l : List α}
theorem lV {C:Act->World->Prop} (t:TypeId) (z:Value) (bytes:Nat) (ht:Tryz.prog.underlying t=some (.slice e)) (hinfo:(Tryz.prog.info? e).map (fun i=>(i.zero,i.size,i.bytes))=some (some z,K.k,bytes))
  (hzs:z.cells.size=K.k) (hk:0<K.k) (s x:Operand)
  (ho:o.op=.call {callee:=.builtin .append,args:=#[s,x],argTypes:=#[t,t]})
  (n:Nat) (hn:l.length=n) (hs:a.eval s=v) (hown:aX e K B E w v l) (hE:∀b,E b->b<w.heap.size) (nb:Nat) (y:α) (row:List Value) (hx:a.eval x=.slice (some ⟨nb,0,none⟩) 1 1)
  (hcell:∀j u,row[j]? =some u->w.cell? (ak nb j)=some u) (hone:∀u∈row,u.oneCell'=true) (hrow:K.R (fun b=>b<w/\¬E b/\v.ownBlock≠some b) w y row)
  (hlen:(l.length+1)*bytes<=140737488355328) (hl63:l.length<1099511627776) (hB:B<=w)
  (h:∀g c w',aX e K B E w' (.slice (some ⟨g,0,none⟩) (n+1) c) (l++[y])->Step (fun b=>b<w/\v.ownBlock≠some b) w w'->g<w'.heap.size->(∀b,b<w.heap.size->v.ownBlock≠some b->b≠g)->
   C (a.put o.dst (.slice (some ⟨g,0,none⟩) (n+1) c)) w'):o.wp asq a w C Q:=by
 subst hn;obtain⟨i0,hi,hz0,hz1,hz2⟩:=dM hinfo;obtain⟨xs,h1,h2,h3⟩:=hown;have hlt:=AY h1;refine wp_append_lies w s x t ho B e i0 z K.k bytes ht hi hz0 hz1 hz2 hzs hk v l.length xs hs h1 (ak nb 0) 1 1 row hx (by rw[K.len hrow,Sr]) ?_ hone abD ?_ hlen hB _ rfl ?_
 ·intro j u hj
  have:=hcell j u hj
  simpa [fK] using this
 ·unfold maxLen;omega
 ·intro g c w' g1 g2 g3 g4
  have hst:Step (fun b=>b<w/\v.ownBlock≠some b) w w':=Step.rU g2 (fun b hb=>⟨hb.1,hb.2⟩);have hsz:=hst.size
  have Rs:∀b,b<w.heap.size->v.ownBlock≠some b->b≠g:=by
   intro b hb hne e;subst e;rcases g3 with h' | h'
   ·exact hne h'
   ·omega
  refine h g c w' ⟨xs++row,by simpa using g1,?_,?_⟩ hst g4 Rs
  ·have hr:=(h2.asa (fun b hb=>hst.block b ⟨hb.1,hb.2.2⟩)).snoc (K.asa hrow (fun b hb=>hst.block b ⟨hb.1,hb.2.2⟩))
   exact hr.imp fun b hb=>⟨wP,hb.2.1,fun e=>Rs b hb.1 hb.2.2 (by simpa [Value.ownBlock] using e.symm)⟩
  ·intro g' hg' yh
   have:g'=g:=by simpa [Value.ownBlock] using hg'.symm
   subst this;rcases g3 with h' | h'
   ·exact h3 _ h' yh
   ·have:=hE _ yh;omega
end
theorem mW:(Tryz.prog.info? 5).map (fun i=>(i.zero,i.size,i.bytes))=some (some (.int .u8 0),1,1):=TA
structure fu where
  op:Int
  a:Int
  b:Int
  c:Int
  bU:Int
deriving DecidableEq
structure dw where
  ar3:Int
  inst:fu
  a:Int
  arT:List UInt8
  aG:List UInt8
structure eH where
  sym:bF
  ar5:List dw
structure gH where
  asl:Int
  arT:List UInt8
  aG:List UInt8
  add:Int
structure dx where
  sym:bF
  ar8:List Int
  ash:List gH
  copied:Bool
abbrev arU (x:dx) (a:Option Addr) (n c:Nat) (b:Option Addr) (m d:Nat):Array Value:=#[ax x.sym.arT,ax x.sym.asc,.bool x.sym.old,ah x.sym.ar3,.bool x.sym.ar1,ah x.sym.bq,.bool x.sym.asg,ah x.sym.value,ah x.sym.size,.slice a n c,.slice b m d,.bool x.copied]
abbrev arV (x:eH) (a:Option Addr) (n c:Nat):Array Value:=#[ax x.sym.arT,ax x.sym.asc,.bool x.sym.old,ah x.sym.ar3,.bool x.sym.ar1,ah x.sym.bq,.bool x.sym.asg,ah x.sym.value,ah x.sym.size,.slice a n c]
abbrev arL (l:dw):Array Value:=#[ah l.ar3,ah l.inst.op,ah l.inst.a,ah l.inst.b,ah l.inst.c,ah l.inst.bU,ah l.a,ax l.arT,ax l.aG]
abbrev arW (i:fu):Array Value:=#[ah i.op,ah i.a,ah i.b,ah i.c,ah i.bU]
structure aM where
  arT:List UInt8
  ar4:Int
  ar6:List AX
  aF:List (List UInt8)
  ar2:List eH
  vars:List dx
  ar1:List (List UInt8)
  asb:List (List UInt8)
  aP:List (List UInt8)
def NM:List (Bool × Bool × Bool × Bool):=
  [(false,false,false,false),(true,false,false,true),(true,true,false,false),(true,true,true,false),(true,true,true,false),(true,true,true,false),(true,true,true,false),(true,true,true,false),(true,true,true,false),
   (true,true,false,true),(true,true,false,true),(true,false,false,true),(true,false,false,true),(false,false,false,true),(true,false,false,true),(false,false,false,true),(true,false,false,false),(true,false,false,false),
   (false,false,false,false),(true,false,false,false),(true,false,false,false),(true,true,false,false),(false,false,false,true)]
def dQ (is:Bool) (lo hi x:Int):Bool:=(is||decide (x=0))&&decide (lo<=x)&&decide (x<=hi)
def gJ (i:fu):Bool:=
  decide (0<=i.op)&&match NM[i.op.toNat]? with
    | none=>false
    | some (a,b,c,n)=>dQ a 0 15 i.a&&dQ b 0 15 i.b&&dQ c 0 15 i.c&&dQ n (-2147483648) 2147483647 i.bU
abbrev arY (s:aM) (a2:Option Addr) (n2:Nat) (a3:Option Addr) (n3:Nat) (a4:Option Addr) (n4:Nat) (a5:Option Addr) (n5:Nat) (a6:Option Addr) (n6:Nat) (a7:Option Addr) (n7:Nat) (a8:Option Addr) (n8:Nat):Array Value:=#[ax s.arT,ah s.ar4,.slice a2 s.ar6.length n2,.slice a3 s.aF.length n3,.slice a4 s.ar2.length n4,.slice a5 s.vars.length n5,.slice a6 s.ar1.length n6,.slice a7 s.asb.length n7,.slice a8 s.aP.length n8]
structure aA where
  av:List bF
  cells:List (Int × Int)
  ar7:List Int
  asj:Int
def aA.fail (e:Int) (p:aA):aA:=if p.asj=0 then {p with asj:=e } else p
def aA.dm (b:Bool) (e:Int) (p:aA):aA:=if b then p.fail e else p
def cB (s:bF):bF:={s with asg:=true,value:=0,size:=0 }
def gT (t s:bF):Bool:=decide (t.arT=s.arT)&&(decide (t.asc=s.asc)||(!t.old&& !s.old))
def aA.define (s:bF) (bf:Bool) (e:Int) (p:aA):aA:=
  let p1:=p.dm (!bC (cB s)||(decide (s.ar3=3) != bf)) e
  let p2:=p1.dm (p.av.any fun t=>gT t (cB s)) 100
  {p2 with av:=p.av++[cB s]}
def dD (arT aG:List UInt8) (s:bF):Bool:=
  decide (s.arT=arT)&&((s.asg&&decide (aG=[])&& !s.old)||(s.asg&& !decide (aG=[])&&decide (s.asc=aG))||(!s.asg&&decide (s.asc=aG)))
def iP (ar1:List (List UInt8)) (arT aG:List UInt8) (ar3:Int):bF:=⟨arT,aG,false,ar3,decide (arT∈ar1),0,false,0,0⟩
def aA.sym (ar1:List (List UInt8)) (arT aG:List UInt8) (ar3:Int) (p:aA):aA × Nat:=
  match p.av.findIdx? (dD arT aG)with
  | some i=>(p,i)
  | none=>({p with av:=p.av++[iP ar1 arT aG ar3]},p.av.length)
def iX:bF:=⟨[],[],false,0,false,0,false,0,0⟩
def aA.asked (ar1:List (List UInt8)) (arT aG:List UInt8) (e:Int) (kinds:List Int) (p:aA):aA × Nat:=
  let q:=p.sym ar1 arT aG (kinds.headD 0)
  let s:=q.1.av.getD q.2 iX
  (q.1.dm (!decide (s.ar3∈kinds)|| !bC s) e,q.2)
def fE {α:Type} [DecidableEq α] (l:List α) (x:α):List α × Nat:=
  match l.findIdx? (fun y=>decide (y=x))with
  | some i=>(l,i)
  | none=>(l++[x],l.length)
def aA.cell (use sym:Int) (p:aA):aA × Nat:=let q:=fE p.cells (use,sym);({p with cells:=q.1 },q.2)
def aA.jump (sym:Int) (p:aA):aA:={p with ar7:=(fE p.ar7 sym).1 }
def mI (l:dw):Bool:=decide (0<=l.ar3)&&decide (l.ar3<=4)&&decide (0<=l.a)&&decide (l.a<16)&&(!decide (l.ar3=0)||gJ l.inst)
def aA.line (l:dw) (p:aA):aA:=p.dm (!mI l) 101
def aA.called (ar1:List (List UInt8)) (l:dw) (p:aA):aA:=
  if l.ar3=1 then let q:=p.asked ar1 l.arT l.aG 101 [1];q.1.jump q.2
  else if l.ar3=3 then let q:=p.asked ar1 l.arT l.aG 101 [3];((q.1.cell 1 q.2).1.cell 2 q.2).1
  else if l.ar3=4 then let q:=p.asked ar1 l.arT l.aG 101 [3];(q.1.cell 3 q.2).1
  else p
def aA.addressed (ar1:List (List UInt8)) (l:dw) (p:aA):aA:=
  if l.ar3=2 then let q:=p.asked ar1 l.arT l.aG 101 [2,1];(q.1.cell 0 q.2).1 else p
def aM.ar5 (s:aM):List dw:=s.ar2.flatMap (·.ar5)
def aA.needs (s:aM) (p:aA):aA:=
  s.ar5.foldl (fun p l=>p.addressed s.ar1 l) (s.ar5.foldl (fun p l=>p.called s.ar1 l) (s.ar5.foldl (fun p l=>p.line l) p))
def aA.func (f:eH) (p:aA):aA:=
  ((p.dm (decide (f.ar5.length<1)||decide (256<f.ar5.length)) 101).dm (!decide (f.sym.ar3=1)) 100).define f.sym false 100
def gZ (v:dx):Int->List gH->aA->aA
  | _,[],p=>p
  | last,r :: l,p=>gZ v r.asl l (p.dm (decide (r.asl<=last)||decide ((v.ar8.length:Int)<=r.asl)|| !decide (v.sym.ar3=2)) 102)
def I9 (n:Int):Bool:=decide (n%2=1)
def aA.var (ar4:Int) (v:dx) (p:aA):aA:=
  gZ v (-1) v.ash ((p.dm (decide (v.ar8.length<1)||decide (256<v.ar8.length)||decide (v.sym.ar3=1)||(v.copied&&(!I9 ar4|| !decide (v.sym.ar3=2)||decide (0<v.ash.length)))) 102).define v.sym (decide (v.sym.ar3=3)) 100)
def aA.ash (ar1:List (List UInt8)) (v:dx) (p:aA):aA:=v.ash.foldl (fun p r=>(p.asked ar1 r.arT r.aG 102 [2,1]).1) p
def aC (s:aM):aA:=
  let p:aA:=⟨[],[],[],0⟩
  let p:=p.dm (decide (s.ar4<0)||decide (15<s.ar4)) 100
  let p:=s.ar2.foldl (fun p f=>p.func f) p
  let p:=s.vars.foldl (fun p v=>p.var s.ar4 v) p
  let p:=p.needs s
  s.vars.foldl (fun p v=>p.ash s.ar1 v) p
def jZ (l:dw):Int:=if l.ar3=3∨l.ar3=4 then 3 else 1
def bO:List dw->Int
  | []=>0
  | l :: r=>jZ l*8+bO r
def jD:Int->List eH->List Int
  | _,[]=>[]
  | at_,f :: r=>at_ :: jD (at_+bO f.ar5) r
def kQ:Int->List eH->Int
  | at_,[]=>at_
  | at_,f :: r=>kQ (at_+bO f.ar5) r
def jg:Int->Int->List dx->List Int × Int × Int
  | d,t,[]=>([],d,t)
  | d,t,v :: r=>
    if v.sym.ar3=3 then let q:=jg d (t+8*v.ar8.length) r;(t :: q.1,q.2)
    else let q:=jg (d+8*v.ar8.length) t r;(d :: q.1,q.2)
structure pK where
  ar2:List Int
  vars:List Int
  aS:Int
  got:Int
  bW:Int
  data:Int
  bf:Int
def aN (s:aM) (p:aA):pK:=
  let aS:=kQ 0 s.ar2
  let got:=ny (max 1 (aS+24*p.ar7.length))
  let bW:=got+8*p.cells.length
  let v:=jg (bW+8*p.ar7.length) 0 s.vars
  ⟨jD 0 s.ar2,v.1,aS,got,bW,v.2.1,v.2.2⟩
def yY (got:Int) (reg use sym at_:Int) (p:aA):aA × fu:=
  let q:=p.cell use sym
  (q.1,⟨11,reg,0,0,got+8*q.2-at_-8⟩)
def Ju (l:List Int) (x:Int):Int:=match l.findIdx? (fun y=>decide (y=x))with | some i=>i | none=> -1
def jl (ar1:List (List UInt8)) (y:pK) (x:dw) (at_:Int) (p:aA):aA × List fu:=
  if x.ar3=1 then
    let q:=p.sym ar1 x.arT x.aG 1
    (q.1,[⟨15,0,0,0,y.aS+24*Ju q.1.ar7 q.2-at_-8⟩])
  else if x.ar3=2 then
    let q:=p.sym ar1 x.arT x.aG 2
    let a:=yY y.got x.a 0 q.2 at_ q.1
    (a.1,[a.2])
  else if x.ar3=3 then
    let q:=p.sym ar1 x.arT x.aG 3
    let a:=yY y.got 13 2 q.2 at_ q.1
    let b:=yY y.got x.a 1 q.2 (at_+8) a.1
    (b.1,[a.2,b.2,⟨21,x.a,13,0,0⟩])
  else if x.ar3=4 then
    let q:=p.sym ar1 x.arT x.aG 3
    let a:=yY y.got 13 3 q.2 at_ q.1
    (a.1,[a.2,⟨20,x.a,0,0,0⟩,⟨3,x.a,x.a,13,0⟩])
  else (p,[x.inst])
def iD (ar1:List (List UInt8)) (y:pK):List dw->aA × List fu->aA × List fu
  | [],q=>q
  | x :: r,q=>let a:=jl ar1 y x (8*q.2.length) q.1;iD ar1 y r (a.1,q.2++a.2)
def jS (bW:Int) (k:Nat):Nat->List fu->List fu
  | 0,out=>out
  | n+1,out=>jS bW (k+1) n (out++[⟨11,14,0,0,bW+8*k-8*out.length-8⟩,⟨17,14,0,0,0⟩,⟨22,0,0,0,k⟩])
def A8 (s:aM) (y:pK) (p:aA):aA × List fu:=
  let q:=iD s.ar1 y s.ar5 (p,[])
  (q.1,jS y.bW 0 q.1.ar7.length q.2)
def jI (n:Int) (i:Nat):UInt8:=UInt8.ofNat ((n%18446744073709551616).toNat/256 ^ i)
def bX (l:List Int):List UInt8:=l.flatMap (bD 8)
def o8 (i:fu):List UInt8:=[jI i.op 0,jI i.a 0,jI i.b 0,jI i.c 0,jI i.bU 0,jI i.bU 1,jI i.bU 2,jI i.bU 3]
def ky (l:List fu):List UInt8:=l.flatMap o8
def nQ (u:Int):Int:=if u=0 then 0 else if u=1 then 3 else if u=2 then 4 else if u=3 then 5 else 0
def iO (got:Int):Nat->List (Int × Int)->List iE
  | _,[]=>[]
  | k,c :: r=>⟨got+8*k,nQ c.1,c.2,0⟩ :: iO got (k+1) r
def Jv (ar1:List (List UInt8)) (at_:Int):List gH->aA × List iE->aA × List iE
  | [],q=>q
  | r :: l,q=>let a:=q.1.sym ar1 r.arT r.aG 2;Jv ar1 at_ l (a.1,q.2++[⟨at_+8*r.asl,0,a.2,r.add⟩])
def Jw (ar1:List (List UInt8)) (nf:Nat) (vars:List Int):Nat->List dx->aA × List iE->aA × List iE
  | _,[],q=>q
  | k,v :: l,q=>
    let at_:=vars.getD k 0
    let q1:=if v.copied then (q.1,q.2++[⟨at_,2,nf+k,0⟩]) else q
    Jw ar1 nf vars (k+1) l (Jv ar1 at_ v.ash q1)
def GZ (s:aM) (y:pK) (p:aA):aA × List iE:=Jw s.ar1 s.ar2.length y.vars 0 s.vars (p,iO y.got 0 p.cells)
def dL (s:aM) (ar2:List Int):List (List UInt8)->aA × List Int->aA × List Int
  | [],q=>q
  | n :: l,q=>
    match s.ar2.findIdx? (fun f=>decide (f.sym.arT=n)&& !f.sym.old)with
    | some k=>dL s ar2 l (q.1,q.2++[ar2.getD k 0])
    | none=>dL s ar2 l (q.1.fail 103,q.2)
def p9 (aS:Int):List Int->List bF->List bF
  | [],l=>l
  | _,[]=>[]
  | [a],s :: l=>{s with value:=a,size:=aS-a } :: l
  | a :: b :: r,s :: l=>{s with value:=a,size:=b-a } :: p9 aS (b :: r) l
def vY:List Int->List dx->List bF->List bF
  | a :: az,v :: vs,s :: l=>{s with value:=a,size:=8*v.ar8.length } :: vY az vs l
  | _,_,l=>l
def sM (s:aM) (y:pK) (l:List bF):List bF:=
  let l1:=p9 y.aS y.ar2 l
  l1.take s.ar2.length++vY y.vars s.vars (l1.drop s.ar2.length)
def jy (n:Nat):Nat:=max 1 ((n+3)/4)
def qB (n:Nat):Nat:=if n<=8 then 1 else if n<=16 then 2 else if n<=32 then 4 else if n<=64 then 8 else if n<=128 then 16 else if n<=256 then 32 else 64
def jN (av:List bF) (many:Nat):List (List Int):=(List.range many).map fun b=>((bQ av).filter fun k=>decide (jY (kX av k).arT many=b)).map fun(k:Nat)=>(k:Int)
def markT (ar8:List Int) (h:Nat):List Int:=ar8.set (h/64%ar8.length) (((ar8.getD (h/64%ar8.length) 0).toNat|||(2 ^ (h%64)|||2 ^ (h/64%64)):Nat):Int)
def kR (av:List bF):List Int:=((bQ av).map fun k=>(lw (kX av k).arT).toNat).foldl markT (List.replicate (qB (bQ av).length) 0)
def eY:bK:=⟨[],0,[],[],[],[],[],[],0,[],[],[],[],[],0⟩
def lC (vars:List dx):List Int:=vars.flatMap fun v=>if v.sym.ar3=3 then [] else v.ar8
def jJ (vars:List dx):List Int:=vars.flatMap fun v=>if v.sym.ar3=3 then v.ar8 else []
def kC (y:pK):Nat->List Int->List kV
  | _,[]=>[]
  | k,j :: r=>⟨y.bW+8*k,j,y.aS+(3*k+2)*8⟩ :: kC y (k+1) r
def yj (s:aM) (y:pK) (asb aP:List Int) (q:aA) (anf:List fu):bK:=
  let text:=ky anf
  let data:=List.replicate (q.cells.length+q.ar7.length) 0++lC s.vars
  let r:=GZ s y q
  {
    arT:=s.arT,ar4:=s.ar4,
    aI:=⟨0,max 1 text.length,text,5⟩ :: (if data=[] then [] else [⟨y.got,8*data.length,bX data,3⟩]),
    ar6:=s.ar6,aF:=s.aF,av:=r.1.av,
    ar9:=jN r.1.av (jy (bQ r.1.av).length),ar8:=kR r.1.av,ase:=6,
    aO:=r.2,asf:=kC y 0 r.1.ar7,asb:=asb,aP:=aP,bf:=bX (jJ s.vars),aJ:=y.bf }
def gD (s:aM):bK × Int:=
  if 512<s.ar2.length∨512<s.vars.length then (eY,104)
  else if (aC s).asj≠0 then (eY,(aC s).asj)
  else
    let p:=aC s
    let y:=aN s p
    let i:=dL s y.ar2 s.asb (p,[])
    let f:=dL s y.ar2 s.aP (i.1,[])
    if f.1.asj≠0 then (eY,f.1.asj)
    else if 512<p.av.length∨65536<y.data∨4096<y.bf then (eY,104)
    else
      let q:=A8 s y {f.1 with av:=sM s y f.1.av }
      if q.2.all gJ=false then (eY,101)
      else
        let im:=yj s y i.2 f.2 q.1 q.2
        if kH im≠0 then (eY,kH im) else (im,0)
section
variable {p q r : aA} {b : Bool} {e : Int}
@[simp] theorem oq : (p.dm b e).av = p.av := by unfold aA.dm aA.fail; split <;> (try split) <;> rfl
@[simp] theorem NP : (p.dm b e).cells = p.cells := by unfold aA.dm aA.fail; split <;> (try split) <;> rfl
@[simp] theorem NQ : (p.dm b e).ar7 = p.ar7 := by unfold aA.dm aA.fail; split <;> (try split) <;> rfl
theorem Xy (b c:Bool) (e:Int) (p:aA):(p.dm b e).dm c e=p.dm (b||c) e:=by
 unfold aA.dm aA.fail;by_cases h:p.asj=0<;>cases b<;>cases c<;>simp[h]
structure Ext (p q:aA):Prop where
 av:p.av <+: q.av
 cells:p.cells <+: q.cells
 ar7:p.ar7 <+: q.ar7
theorem Ext.refl (p:aA):Ext p p:=⟨mV _,mV _,mV _⟩
theorem Ext.trans (h:Ext p q) (k:Ext q r):Ext p r:=⟨h.av.trans k.av,h.cells.trans k.cells,h.ar7.trans k.ar7⟩
theorem Ext.dm (b:Bool) (e:Int) (p:aA):Ext p (p.dm b e):=⟨arG,arG,arG⟩
end
theorem eQ {α:Type} {f:α->Bool} {l m:List α} (h:l <+: m) (hf:l.findIdx? f=some i):m.findIdx? f=some i:=by
 obtain⟨t,rfl⟩:=h;rw[Kl,hf];rfl
theorem M0 {α:Type} {f:α->Bool} {l:List α} {x:α} (h:l.findIdx? f=none) (hx:f x=true):(l++[x]).findIdx? f=some l.length:=by
 rw[Kl,h];simp[dz,hx]
theorem Cu {α:Type} [DecidableEq α] (l:List α) (x:α):l <+: (fE l x).1:=by
 unfold fE
 split
 ·exact mV _
 ·exact List.prefix_append _ _
theorem NR {α:Type} [DecidableEq α] (l:List α) (x:α):(fE l x).1.findIdx? (fun y=>decide (y=x))=some (fE l x).2:=by
 unfold fE
 split
 ·rename_i h;exact h
 ·rename_i h;exact M0 h arG
theorem wX {α:Type} [DecidableEq α] {l:List α} {x:α} {i:Nat} (h:l.findIdx? (fun y=>decide (y=x))=some i):fE l x=(l,i):=by
 unfold fE;rw[h]
theorem agD (ar1:List (List UInt8)) (arT aG:List UInt8) (k:Int):dD arT aG (iP ar1 arT aG k)=true:=by simp[dD,iP]
theorem akH (ar1:List (List UInt8)) (arT aG:List UInt8) (k:Int) (p:aA):Ext p (p.sym ar1 arT aG k).1:=by
 unfold aA.sym
 split
 ·exact Ext.refl p
 ·exact⟨List.prefix_append _ _,mV _,mV _⟩
theorem Zq (ar1:List (List UInt8)) (arT aG:List UInt8) (k:Int) (p:aA):(p.sym ar1 arT aG k).1.av.findIdx? (dD arT aG)=some (p.sym ar1 arT aG k).2:=by
 unfold aA.sym
 split
 ·rename_i h;exact h
 ·rename_i h;exact M0 h (agD _ _ _ _)
theorem fw {arT aG:List UInt8} {k:Int} {p:aA} (h:p.av.findIdx? (dD arT aG)=some i):p.sym ar1 arT aG k=(p,i):=by
 unfold aA.sym;rw[h]
theorem yo (ar1:List (List UInt8)) (arT aG:List UInt8) (e:Int) (ks:List Int) (p:aA):Ext p (p.asked ar1 arT aG e ks).1:=(akH ar1 arT aG _ p).trans (Ext.dm _ _ _)
theorem A9 (ar1:List (List UInt8)) (arT aG:List UInt8) (e:Int) (ks:List Int) (p:aA):(p.asked ar1 arT aG e ks).1.av.findIdx? (dD arT aG)=some (p.asked ar1 arT aG e ks).2:=by
 unfold aA.asked;simp only[oq];exact Zq ar1 arT aG _ p
theorem FI (u s:Int) (p:aA):Ext p (p.cell u s).1:=⟨mV _,Cu _ _,mV _⟩
theorem G5 (u s:Int) (p:aA):(p.cell u s).1.cells.findIdx? (fun y=>decide (y=(u,s)))=some (p.cell u s).2:=NR _ _
theorem gQ {u s:Int} {p:aA} (h:p.cells.findIdx? (fun y=>decide (y=(u,s)))=some i):p.cell u s=(p,i):=by
 unfold aA.cell;rw[wX h]
theorem ah4 (s:Int) (p:aA):Ext p (p.jump s):=⟨mV _,mV _,Cu _ _⟩
theorem agE (s:Int) (p:aA):∃k,(p.jump s).ar7.findIdx? (fun y=>decide (y=s))=some k:=⟨_,NR _ _⟩
structure mK (p:aA) (l:dw):Prop where
 call:l.ar3=1->∃i:Nat,p.av.findIdx? (dD l.arT l.aG)=some i/\∃k,p.ar7.findIdx? (fun y=>decide (y=(i:Int)))=some k
 addr:l.ar3=2->∃i:Nat,p.av.findIdx? (dD l.arT l.aG)=some i/\∃k,p.cells.findIdx? (fun y=>decide (y=(0,(i:Int))))=some k
 bf:l.ar3=3->∃i:Nat,p.av.findIdx? (dD l.arT l.aG)=some i/\(∃k,p.cells.findIdx? (fun y=>decide (y=(1,(i:Int))))=some k)/\∃k,p.cells.findIdx? (fun y=>decide (y=(2,(i:Int))))=some k
 tp:l.ar3=4->∃i:Nat,p.av.findIdx? (dD l.arT l.aG)=some i/\∃k,p.cells.findIdx? (fun y=>decide (y=(3,(i:Int))))=some k
theorem mK.ext {p q:aA} {l:dw} (h:mK p l) (he:Ext p q):mK q l:=by
 refine⟨fun hk=> ?_,fun hk=> ?_,fun hk=> ?_,fun hk=> ?_⟩
 ·obtain⟨i,h1,k,h2⟩:=h.call hk
  exact⟨i,eQ he.av h1,k,eQ he.ar7 h2⟩
 ·obtain⟨i,h1,k,h2⟩:=h.addr hk
  exact⟨i,eQ he.av h1,k,eQ he.cells h2⟩
 ·obtain⟨i,h1,⟨k,h2⟩,k',h3⟩:=h.bf hk
  exact⟨i,eQ he.av h1,⟨k,eQ he.cells h2⟩,k',eQ he.cells h3⟩
 ·obtain⟨i,h1,k,h2⟩:=h.tp hk
  exact⟨i,eQ he.av h1,k,eQ he.cells h2⟩
theorem acU (ar1:List (List UInt8)) (l:dw) (p:aA):Ext p (p.called ar1 l):=by
 unfold aA.called
 split
 ·exact(yo _ _ _ _ _ p).trans (ah4 _ _)
 ·split
  ·exact((yo _ _ _ _ _ p).trans (FI _ _ _)).trans (FI _ _ _)
  ·split
   ·exact(yo _ _ _ _ _ p).trans (FI _ _ _)
   ·exact Ext.refl p
theorem M4 (ar1:List (List UInt8)) (l:dw) (p:aA):Ext p (p.addressed ar1 l):=by
 unfold aA.addressed
 split
 ·exact(yo _ _ _ _ _ p).trans (FI _ _ _)
 ·exact Ext.refl p
theorem Dn {α:Type} (f:aA->α->aA) (hf:∀p x,Ext p (f p x)):∀(l:List α) (p:aA),Ext p (l.foldl f p)
 | [],p=>Ext.refl p
 | x :: l,p=>(hf p x).trans (Dn f hf l (f p x))
def NS (p:aA) (l:dw):Prop:=
 (l.ar3=1->∃i:Nat,p.av.findIdx? (dD l.arT l.aG)=some i/\∃k,p.ar7.findIdx? (fun y=>decide (y=(i:Int)))=some k)/\
 (l.ar3=3->∃i:Nat,p.av.findIdx? (dD l.arT l.aG)=some i/\(∃k,p.cells.findIdx? (fun y=>decide (y=(1,(i:Int))))=some k)/\∃k,p.cells.findIdx? (fun y=>decide (y=(2,(i:Int))))=some k)/\
 (l.ar3=4->∃i:Nat,p.av.findIdx? (dD l.arT l.aG)=some i/\∃k,p.cells.findIdx? (fun y=>decide (y=(3,(i:Int))))=some k)
def NT (p:aA) (l:dw):Prop:=l.ar3=2->∃i:Nat,p.av.findIdx? (dD l.arT l.aG)=some i/\∃k,p.cells.findIdx? (fun y=>decide (y=(0,(i:Int))))=some k
theorem NS.ext {p q:aA} {l:dw} (h:NS p l) (he:Ext p q):NS q l:=by
 refine⟨fun hk=> ?_,fun hk=> ?_,fun hk=> ?_⟩
 ·obtain⟨i,h1,k,h2⟩:=h.1 hk
  exact⟨i,eQ he.av h1,k,eQ he.ar7 h2⟩
 ·obtain⟨i,h1,⟨k,h2⟩,k',h3⟩:=h.2.1 hk
  exact⟨i,eQ he.av h1,⟨k,eQ he.cells h2⟩,k',eQ he.cells h3⟩
 ·obtain⟨i,h1,k,h2⟩:=h.2.2 hk
  exact⟨i,eQ he.av h1,k,eQ he.cells h2⟩
theorem NT.ext {p q:aA} {l:dw} (h:NT p l) (he:Ext p q):NT q l:=fun hk=>by
 obtain⟨i,h1,k,h2⟩:=h hk;exact⟨i,eQ he.av h1,k,eQ he.cells h2⟩
theorem agF (ar1:List (List UInt8)) (l:dw) (p:aA):NS (p.called ar1 l) l:=by
 have hf:∀e ks,(p.asked ar1 l.arT l.aG e ks).1.av.findIdx? (dD l.arT l.aG)=some (p.asked ar1 l.arT l.aG e ks).2:=fun e ks=>A9 ar1 l.arT l.aG e ks p
 refine⟨fun hk=> ?_,fun hk=> ?_,fun hk=> ?_⟩
 ·unfold aA.called
  rw[if_pos hk];exact⟨_,hf 101 [1],agE _ _⟩
 ·unfold aA.called
  rw[if_neg wP,if_pos hk];refine⟨_,hf 101 [3],⟨_,eQ (FI 2 _ _).cells (G5 1 _ _)⟩,_,G5 2 _ _⟩
 ·unfold aA.called
  rw[if_neg wP,if_neg wP,if_pos hk];exact⟨_,hf 101 [3],_,G5 3 _ _⟩
theorem Zr (ar1:List (List UInt8)) (l:dw) (p:aA):NT (p.addressed ar1 l) l:=fun hk=>by
 unfold aA.addressed;rw[if_pos hk];exact⟨_,A9 ar1 l.arT l.aG 101 [2,1] p,_,G5 0 _ _⟩
theorem FJ {α:Type} {f:aA->α->aA} {P:aA->α->Prop} (hf:∀p x,Ext p (f p x)) (hP:∀p q x,P p x->Ext p q->P q x) (h:∀p x,P (f p x) x):∀(l:List α) (p:aA),∀x∈l,P (l.foldl f p) x
 | [],_,x,hx=>by cases hx
 | y :: l,p,x,hx=>by
  rcases Y1.1 hx with rfl | hx
  ·exact hP _ _ _ (h p x) (Dn f hf l (f p x))
  ·exact FJ hf hP h l (f p y) x hx
theorem ah5 (s:aM) (p:aA):∀l∈s.ar5,mK (p.needs s) l:=fun l hl=>by
 have h1:=FJ (f:=fun p l=>p.called s.ar1 l) (P:=NS) (fun p l=>acU s.ar1 l p) (fun p q x h he=>h.ext he) (fun p l=>agF s.ar1 l p) s.ar5 (s.ar5.foldl (fun p l=>p.line l) p) l hl;have h2:=FJ (f:=fun p l=>p.addressed s.ar1 l) (P:=NT) (fun p l=>M4 s.ar1 l p) (fun p q x h he=>h.ext he) (fun p l=>Zr s.ar1 l p) s.ar5 (s.ar5.foldl (fun p l=>p.called s.ar1 l) (s.ar5.foldl (fun p l=>p.line l) p)) l hl;have h3:=h1.ext (Dn (fun p l=>p.addressed s.ar1 l) (fun p l=>M4 s.ar1 l p) s.ar5 _);exact⟨h3.1,h2,h3.2.1,h3.2.2⟩
theorem Zt (ar1:List (List UInt8)) (v:dx) (p:aA):Ext p (p.ash ar1 v):=Dn _ (fun p _=>yo _ _ _ _ _ p) _ _
def Sy (p:aA) (r:gH):Prop:=∃i:Nat,p.av.findIdx? (dD r.arT r.aG)=some i
def zV (p:aA) (v:dx):Prop:=∀r∈v.ash,Sy p r
theorem akI (ar1:List (List UInt8)) (v:dx) (p:aA):zV (p.ash ar1 v) v:=
 FJ (f:=fun p (r:gH)=>(p.asked ar1 r.arT r.aG 102 [2,1]).1) (P:=Sy) (fun p r=>yo _ _ _ _ _ p) (fun p q x ⟨i,h⟩ he=>⟨i,eQ he.av h⟩) (fun p r=>⟨_,A9 _ _ _ _ _ p⟩) v.ash p
structure ah6 (s:aM) (p:aA):Prop where
 ar5:∀l∈s.ar5,mK p l
 vars:∀v∈s.vars,zV p v
theorem uE (s:aM):ah6 s (aC s):=by
 obtain⟨p0,hp0⟩:∃p0:aA,aC s=s.vars.foldl (fun p v=>p.ash s.ar1 v) (p0.needs s):=⟨_,rfl⟩;rw[hp0];refine⟨fun l hl=>((ah5 s p0 l hl)).ext (Dn _ (fun p v=>Zt s.ar1 v p) _ _),?_⟩;exact FJ (f:=fun p v=>p.ash s.ar1 v) (P:=zV) (fun p v=>Zt s.ar1 v p) (fun p q v h he r hr=>by obtain⟨i,h⟩:=h r hr;exact⟨i,eQ he.av h⟩) (fun p v=>akI s.ar1 v p) s.vars _
structure Ba (s:aM) (l:List bF):Prop where
 own:(s.ar2.map (fun f=>cB f.sym)++s.vars.map (fun v=>cB v.sym)) <+: l
 rest:∀i x,s.ar2.length+s.vars.length<=i->l[i]? =some x->x.asg=false/\∀k y,s.ar2.length+s.vars.length<=k->k<i->l[k]? =some y->¬(y.arT=x.arT/\y.asc=x.asc)
abbrev gU (l:List UInt8):Prop:=l.length<=9223372036854775807
abbrev jV (n:Int):Prop:= -9223372036854775808<=n/\n<=9223372036854775807
def tL (x:fu):List Value:=[ah x.op,ah x.a,ah x.b,ah x.c,ah x.bU]
structure Bb (x:fu):Prop where
 op:jV x.op
 a:jV x.a
 b:jV x.b
 c:jV x.c
 bU:jV x.bU
def mh:Kind fu:={k:=5,R:=fun _ _ x r=>r=tL x/\Bb x,len:=fun h=>by rw[h.1];rfl,asa:=fun h _=>h,imp:=fun h _=>h }
def Au (x:dw):List Value:=[ah x.ar3,ah x.inst.op,ah x.inst.a,ah x.inst.b,ah x.inst.c,ah x.inst.bU,ah x.a,ax x.arT,ax x.aG]
structure wY (x:dw):Prop where
 ar3:jV x.ar3
 inst:Bb x.inst
 a:jV x.a
 arT:gU x.arT
 aG:gU x.aG
def Kn:Kind dw:={k:=9,R:=fun _ _ x r=>r=Au x/\wY x,len:=fun h=>by rw[h.1];rfl,asa:=fun h _=>h,imp:=fun h _=>h }
def G6:Kind eH:={k:=10,R:=fun S w x r=>∃c,r=lT x.sym++[c]/\LB Kn S w c x.ar5/\lJ x.sym,len:=fun⟨_,h,_⟩=>by rw[h];rfl,asa:=fun⟨c,h,h',h3⟩ hk=>⟨c,h,h'.asa hk,h3⟩,imp:=fun⟨c,h,h',h3⟩ hi=>⟨c,h,h'.imp hi,h3⟩}
def ah7 (x:gH):List Value:=[ah x.asl,ax x.arT,ax x.aG,ah x.add]
def WE:Kind gH:={k:=4,R:=fun _ _ x r=>r=ah7 x/\jV x.asl/\jV x.add/\gU x.arT/\gU x.aG,len:=fun h=>by rw[h.1];rfl,asa:=fun h _=>h,imp:=fun h _=>h }
def Zu:Kind dx:={k:=12,R:=fun S w x r=>∃c d,r=lT x.sym++[c,d,.bool x.copied]/\LB dJ S w c x.ar8/\LB WE S w d x.ash/\lJ x.sym,len:=fun⟨_,_,h,_⟩=>by rw[h];rfl,asa:=fun⟨c,d,h,h1,h2,h3⟩ hk=>⟨c,d,h,h1.asa hk,h2.asa hk,h3⟩,imp:=fun⟨c,d,h,h1,h2,h3⟩ hi=>⟨c,d,h,h1.imp hi,h2.imp hi,h3⟩}
def Xz (x:Int × Int):List Value:=[ah x.1,ah x.2]
def qC:Kind (Int × Int):={k:=2,R:=fun _ _ x r=>r=Xz x,len:=fun h=>by rw[h];rfl,asa:=fun h _=>h,imp:=fun h _=>h }
structure bN where
 ar6:Value
 aF:Value
 ar2:Value
 vars:Value
 ar1:Value
 asb:Value
 aP:Value
def kL (v:bN) (s:aM):List Value:=[ax s.arT,ah s.ar4,v.ar6,v.aF,v.ar2,v.vars,v.ar1,v.asb,v.aP]
structure gB (S:Nat->Prop) (w:World) (v:bN) (s:aM):Prop where
 ar6:LB GU S w v.ar6 s.ar6
 aF:LB lG S w v.aF s.aF
 ar2:LB G6 S w v.ar2 s.ar2
 vars:LB Zu S w v.vars s.vars
 ar1:LB lG S w v.ar1 s.ar1
 asb:LB lG S w v.asb s.asb
 aP:LB lG S w v.aP s.aP
 arT:gU s.arT
 ar4:jV s.ar4
theorem gB.asa {v:bN} {s:aM} (h:gB S w v s) (hk:Keeps S w w'):gB S w' v s:=
 ⟨h.ar6.asa hk,h.aF.asa hk,h.ar2.asa hk,h.vars.asa hk,h.ar1.asa hk,h.asb.asa hk,h.aP.asa hk,h.arT,h.ar4⟩
structure bG where
 av:Value
 cells:Value
 ar7:Value
def bG.has (v:bG) (b:Nat):Prop:=v.av.ownBlock=some b∨v.cells.ownBlock=some b∨v.ar7.ownBlock=some b
def Av (sv:bN) (s:aM) (own:Int) (v:bG) (p:aA):List Value:=kL sv s++[v.av,ah own,v.cells,v.ar7,ah p.asj]
structure bB (B pb:Nat) (w:World) (sv:bN) (s:aM) (own:Int) (v:bG) (p:aA):Prop where
 ex:w.heap[pb]? =some (.cells (Av sv s own v p).toArray 75 (0,0))
 base:B<=pb
 av:aX 54 gq B (fun b=>b=pb∨v.cells.ownBlock=some b∨v.ar7.ownBlock=some b) w v.av p.av
 cells:aX 140 qC B (fun b=>b=pb∨v.av.ownBlock=some b∨v.ar7.ownBlock=some b) w v.cells p.cells
 ar7:aX 3 dJ B (fun b=>b=pb∨v.av.ownBlock=some b∨v.cells.ownBlock=some b) w v.ar7 p.ar7
structure aU (pb:Nat) (v v':bG) (w w':World):Prop where
 step:Step (fun b=>b<w/\b≠pb/\¬v.has b) w w'
 new:∀b,v'.has b->v.has b∨w.heap.size<=b
theorem aU.refl (pb:Nat) (v:bG) (w:World):aU pb v v w w:=⟨Step.refl _ _,fun _ h=>aH h⟩
theorem aU.trans {v v1 v2:bG} {w1 w2:World} (h:aU pb v v1 w w1) (k:aU pb v1 v2 w1 w2):aU pb v v2 w w2:=by
 have hsz:=h.step.size;refine⟨h.step.trans (k.step.imp fun b hb=>⟨wP,hb.2.1,fun hh=> ?_⟩),fun b hb=> ?_⟩
 ·rcases h.new b hh with h1 | h1
  ·exact hb.2.2 h1
  ·omega
 ·rcases k.new b hb with h1 | h1
  ·exact h.new b h1
  ·right;omega
theorem aU.below {v:bG} (h:Below w w w'):aU pb v v w w':=⟨(Step.of_below h).imp fun b hb=>hb.1,fun _ h=>aH h⟩
section
variable {B pb : Nat} {w w' : World} {sv : bN} {s : aM} {own : Int} {v : bG} {p : aA}
theorem bB.lt (h:bB B pb w sv s own v p):pb<w:=by
 rcases oG pb w.heap.size with h' | h'
 ·exact h'
 ·have:=h.ex;rw[Array.getElem?_eq_none h']at this;cases this
theorem bB.qf (h:bB B pb w sv s own v p) {b:Nat} (hb:v.has b):B<=b/\b<w/\b≠pb:=by
 rcases hb with h1 | h1 | h1
 ·have:=h.av.lt b h1;exact⟨this.1,this.2,fun e=>h.av.notE b h1 (aH e)⟩
 ·have:=h.cells.lt b h1;exact⟨this.1,this.2,fun e=>h.cells.notE b h1 (aH e)⟩
 ·have:=h.ar7.lt b h1;exact⟨this.1,this.2,fun e=>h.ar7.notE b h1 (aH e)⟩
theorem bB.below (h:bB B pb w sv s own v p) (hb:Below w w w'):bB B pb w' sv s own v p:=
 ⟨(hb.block pb h.lt).trans h.ex,h.base,h.av.below hb,h.cells.below hb,h.ar7.below hb⟩
theorem aU.low {v':bG} (h:aU pb v v' w w') (hM:bB B pb w sv s own v p) (hB:B<=w):Below B w w':=by
 refine(h.step.imp (S':=(·<B)) fun b hb=>⟨?_,?_,fun hh=> ?_⟩).below
 ·have hb:b<B:=hb;omega
 ·have hb:b<B:=hb;have:=hM.base;omega
 ·have hb:b<B:=hb;have:=(hM.qf hh).1;omega
theorem lU {sv:bN} {s:aM} {v:bG} {p:aA} (h:w.heap[pb]? =some (.cells (Av sv s own v p).toArray 75 (0,0))) (i:Nat) (u:Value) (hu:(Av sv s own v p)[i]? =some u):w.cell? (ak pb i)=some u:=by
 rw[aV h];simpa using hu
theorem bB.c0 (h:bB B pb w sv s own v p):w.cell? (ak pb 0)=some (ax s.arT):=lU h.ex 0 _ rfl
theorem bB.c1 (h:bB B pb w sv s own v p):w.cell? (ak pb 1)=some (ah s.ar4):=lU h.ex 1 _ rfl
theorem bB.c2 (h:bB B pb w sv s own v p):w.cell? (ak pb 2)=some sv.ar6:=lU h.ex 2 _ rfl
theorem bB.c3 (h:bB B pb w sv s own v p):w.cell? (ak pb 3)=some sv.aF:=lU h.ex 3 _ rfl
theorem bB.c4 (h:bB B pb w sv s own v p):w.cell? (ak pb 4)=some sv.ar2:=lU h.ex 4 _ rfl
theorem bB.c5 (h:bB B pb w sv s own v p):w.cell? (ak pb 5)=some sv.vars:=lU h.ex 5 _ rfl
theorem bB.c6 (h:bB B pb w sv s own v p):w.cell? (ak pb 6)=some sv.ar1:=lU h.ex 6 _ rfl
theorem bB.c7 (h:bB B pb w sv s own v p):w.cell? (ak pb 7)=some sv.asb:=lU h.ex 7 _ rfl
theorem bB.c8 (h:bB B pb w sv s own v p):w.cell? (ak pb 8)=some sv.aP:=lU h.ex 8 _ rfl
theorem bB.c9 (h:bB B pb w sv s own v p):w.cell? (ak pb 9)=some v.av:=lU h.ex 9 _ rfl
theorem bB.c10 (h:bB B pb w sv s own v p):w.cell? (ak pb 10)=some (ah own):=lU h.ex 10 _ rfl
theorem bB.c11 (h:bB B pb w sv s own v p):w.cell? (ak pb 11)=some v.cells:=lU h.ex 11 _ rfl
theorem bB.c12 (h:bB B pb w sv s own v p):w.cell? (ak pb 12)=some v.ar7:=lU h.ex 12 _ rfl
theorem bB.c13 (h:bB B pb w sv s own v p):w.cell? (ak pb 13)=some (ah p.asj):=lU h.ex 13 _ rfl
theorem bB.frozen (h:bB B pb w sv s own v p) (i:Nat):w.frozen? (ak pb i)=false:=vV h.ex i
theorem eu {xs:List Value} {t:TypeId} (h:w.heap[pb]? =some (.cells xs.toArray t (0,0))) (i:Nat) (u:Value):(w.setCell ⟨pb,i,none⟩ u).heap[pb]? =some (.cells (xs.set i u).toArray t (0,0)):=by
 simp[World.setCell,Array.getElem?_modify,h]
theorem aX.setOther {α:Type} {e:TypeId} {K:Kind α} {u:Value} {l:List α} (h:aX e K B E w u l) (hE:E pb) (i:Nat) (x:Value):aX e K B E (w.setCell ⟨pb,i,none⟩ x) u l:=
 h.step (S:=fun b=>b≠pb) ((Step.refl _ w).setCell (fun h=>h rfl) x) (fun b _ hb=>fun e=>hb (e ▸ hE))
theorem bB.ah8 (h:bB B pb w sv s own v p) (e:Int):bB B pb (w.setCell ⟨pb,13,none⟩ (ah e)) sv s own v {p with asj:=e }:=
 ⟨eu h.ex 13 _,h.base,h.av.setOther (aH rfl) 13 _,h.cells.setOther (aH rfl) 13 _,h.ar7.setOther (aH rfl) 13 _⟩
theorem aU.set (v:bG) (i:Nat) (x:Value):aU pb v v w (w.setCell ⟨pb,i,none⟩ x):=
 ⟨(Step.refl _ w).setCell (fun h=>h.2.1 rfl) x,fun _ h=>aH h⟩
end
theorem qZ {α:Type} (f:α->Bool) (l:List α):(l.take 0).findIdx? f=none:=arG
theorem lM {α:Type} {f:α->Bool} {l:List α} {k:Nat} {x:α} (h:(l.take k).findIdx? f=none) (hx:l[k]? =some x) (hf:f x=false):(l.take (k+1)).findIdx? f=none:=by
 rw[List.take_add_one,hx,Kl,h];simp[dz,hf]
theorem vZ {α:Type} {f:α->Bool} {l:List α} {k:Nat} {x:α} (h:(l.take k).findIdx? f=none) (hx:l[k]? =some x) (hf:f x=true):l.findIdx? f=some k:=by
 obtain⟨hk,hx'⟩:=Sm.1 hx;have e:l=l.take k++(x :: l.drop (k+1)):=by rw[<-hx',<-List.drop_eq_getElem_cons hk,jf]
 have hl:(l.take k).length=k:=by simp;omega
 clear hx hx' hk;generalize l.take k=A at *;generalize l.drop (k+1)=B at *;rw[e,Kl,h];simp[dz,hf,hl]
theorem wh {α:Type} {f:α->Bool} {l:List α} (h:(l.take l.length).findIdx? f=none):l.findIdx? f=none:=by rwa [dF]at h
def xO (o:Option Nat):Int:=match o with | some i=>i | none=> -1
theorem agG (l:List Int) (x:Int):Ju l x=xO (l.findIdx? fun y=>decide (y=x)):=by unfold Ju xO;rfl
theorem Cv {sv:bN} {s:aM} {v:bG} {p:aA} (e:Int) (hM:bB B pb w sv s own v p):
  Calls asq 42 #[aQ pb,ah e] w fun x w'=>x=.returned (.tuple #[])/\bB B pb w' sv s own v (p.fail e)/\aU pb v v w w':=by
 have c:=hM.c13;have f:=hM.frozen 13;have HM:=aj hM;by_cases h:p.asj=0
 ·have hb:(p.asj==0)=true:=by simp[h]
  have HP:Hid (p.fail e={p with asj:=e }):=aj (by unfold aA.fail;rw[if_pos h]);rw[HP.af];have HN:=aj (hM.ah8 e);clear hM h;go_enter Tryz.func42,Tryz.ntmps42;go_wp2;go_end0;exact⟨rfl,HN.af,aU.set _ _ _⟩
 ·have hb:(p.asj==0)=false:=by simp[h]
  have HP:Hid (p.fail e=p):=aj (by unfold aA.fail;rw[if_neg h]);rw[HP.af];clear hM h;go_enter Tryz.func42,Tryz.ntmps42;go_wp2;go_end0;exact⟨rfl,HM.af,aU.refl _ _ _⟩
theorem NU (w:World) (u:Value) (l:List Int) (x:Int) (hl:LB dJ S w u l):
  Calls asq 106 #[u,ah x] w fun e w'=>e=.returned (ah (xO (l.findIdx? fun y=>decide (y=x))))/\w'=w:=by
 obtain⟨a,b,off,cap,rfl,hm,_,hat⟩:=hl.at;have dP:=aj hat;have ha:=hat.addr;obtain ⟨n,hn⟩:=aiG l.length;have Hn:=aj hn;rw[<-hn]at hm ha ⊢;clear hl hat hn;go_enter Tryz.func106,Tryz.ntmps106;go_wp2;go_loop [8] (fun i=>∃k:Nat,i=ah k/\k<=n/\(l.take k).findIdx? (fun y=>decide (y=x))=none) (fun i=>n-(intOf i).toNat);exact⟨0,rfl,alg _,qZ _ _⟩;obtain⟨k,rfl,hk,hf⟩:=hrel;have Hf:=aj hf;clear hf;by_cases hlt:k<n
 ·obtain rfl:=ha wP
  obtain⟨y,hy⟩:∃y,l[k]? =some y:=⟨_,gP (by rw[<-Hn.af];exact hlt)⟩;have hc:=dP.af.oC k y hy;have Hy:=aj hy;have hk0:(0:Int)<=(k:Int):=aY _;have hk2:(k:Int)<(n:Int):=wP;clear hy;by_cases hxy:y=x
  ·have Hh:=aj (vZ Hf.af Hy.af (f:=fun y=>decide (y=x)) (by simp[hxy]))
   have hb:(x==y)=true:=by simp[hxy]
   clear hxy;go_wp2;go_ret;exact⟨by rw[Hh.af];rfl,rfl⟩
  ·have Hh:=aj (lM Hf.af Hy.af (f:=fun y=>decide (y=x)) (by simp[hxy]))
   have hb:(x==y)=false:=by simp;exact fun e=>hxy e.symm
   clear hxy;go_wp2;go_round;exact⟨k+1,arH,wP,Hh.af⟩;simp[intOf];omega
 ·have Hh:Hid (l.findIdx? (fun y=>decide (y=x))=none):=aj (wh (by have:=Hf.af;rwa [show k=l.length by have:=Hn.af;omega]at this))
  go_wp2;go_ret;exact⟨by rw[Hh.af];rfl,rfl⟩
theorem Zv (w:World) (u:Value) (l:List (List UInt8)) (x:List UInt8) (hl:LB lG S w u l):
  Calls asq 147 #[u,ax x] w fun e w'=>e=.returned (ah (xO (l.findIdx? fun y=>decide (y=x))))/\w'=w:=by
 obtain⟨a,b,off,cap,rfl,hm,_,hat⟩:=hl.at;have dP:=aj hat;have ha:=hat.addr;obtain ⟨n,hn⟩:=aiG l.length;have Hn:=aj hn;rw[<-hn]at hm ha ⊢;clear hl hat hn;go_enter Tryz.func147,Tryz.ntmps147;go_wp2;go_loop [8] (fun i=>∃k:Nat,i=ah k/\k<=n/\(l.take k).findIdx? (fun y=>decide (y=x))=none) (fun i=>n-(intOf i).toNat);exact⟨0,rfl,alg _,qZ _ _⟩;obtain⟨k,rfl,hk,hf⟩:=hrel;have Hf:=aj hf;clear hf;by_cases hlt:k<n
 ·obtain rfl:=ha wP
  obtain⟨y,hy⟩:∃y,l[k]? =some y:=⟨_,gP (by rw[<-Hn.af];exact hlt)⟩;have hc:=(dP.af.I7 k y hy).1;have Hy:=aj hy;have hk0:(0:Int)<=(k:Int):=aY _;have hk2:(k:Int)<(n:Int):=wP;clear hy;by_cases hxy:y=x
  ·have Hh:=aj (vZ Hf.af Hy.af (f:=fun y=>decide (y=x)) (by simp[hxy]))
   have hb:(x==y)=true:=by simp[hxy]
   clear hxy;go_wp2;go_ret;exact⟨by rw[Hh.af];rfl,rfl⟩
  ·have Hh:=aj (lM Hf.af Hy.af (f:=fun y=>decide (y=x)) (by simp[hxy]))
   have hb:(x==y)=false:=by simp;exact fun e=>hxy e.symm
   clear hxy;go_wp2;go_round;exact⟨k+1,arH,wP,Hh.af⟩;simp[intOf];omega
 ·have Hh:Hid (l.findIdx? (fun y=>decide (y=x))=none):=aj (wh (by have:=Hf.af;rwa [show k=l.length by have:=Hn.af;omega]at this))
  go_wp2;go_ret;exact⟨by rw[Hh.af];rfl,rfl⟩
theorem YO (w:World) (u:Value) (l:List Int) (x:Int) (hl:LB dJ S w u l):
  Calls asq 144 #[u,ah x] w fun e w'=>e=.returned (ah (xO (l.findIdx? fun y=>decide (y=x))))/\w'=w:=by
 obtain⟨a,b,off,cap,rfl,hm,_,hat⟩:=hl.at;have dP:=aj hat;have ha:=hat.addr;obtain ⟨n,hn⟩:=aiG l.length;have Hn:=aj hn;rw[<-hn]at hm ha ⊢;clear hl hat hn;go_enter Tryz.func144,Tryz.ntmps144;go_wp2;go_loop [8] (fun i=>∃k:Nat,i=ah k/\k<=n/\(l.take k).findIdx? (fun y=>decide (y=x))=none) (fun i=>n-(intOf i).toNat);exact⟨0,rfl,alg _,qZ _ _⟩;obtain⟨k,rfl,hk,hf⟩:=hrel;have Hf:=aj hf;clear hf;by_cases hlt:k<n
 ·obtain rfl:=ha wP
  obtain⟨y,hy⟩:∃y,l[k]? =some y:=⟨_,gP (by rw[<-Hn.af];exact hlt)⟩;have hc:=dP.af.oC k y hy;have Hy:=aj hy;have hk0:(0:Int)<=(k:Int):=aY _;have hk2:(k:Int)<(n:Int):=wP;clear hy;by_cases hxy:y=x
  ·have Hh:=aj (vZ Hf.af Hy.af (f:=fun y=>decide (y=x)) (by simp[hxy]))
   have hb:(x==y)=true:=by simp[hxy]
   clear hxy;go_wp2;go_ret;exact⟨by rw[Hh.af];rfl,rfl⟩
  ·have Hh:=aj (lM Hf.af Hy.af (f:=fun y=>decide (y=x)) (by simp[hxy]))
   have hb:(x==y)=false:=by simp;exact fun e=>hxy e.symm
   clear hxy;go_wp2;go_round;exact⟨k+1,arH,wP,Hh.af⟩;simp[intOf];omega
 ·have Hh:Hid (l.findIdx? (fun y=>decide (y=x))=none):=aj (wh (by have:=Hf.af;rwa [show k=l.length by have:=Hn.af;omega]at this))
  go_wp2;go_ret;exact⟨by rw[Hh.af];rfl,rfl⟩
theorem acz (o:Option Nat):decide (0<=xO o)=o.isSome:=by
 cases o with
 | none=>rfl
 | some i=>simp[xO]
theorem abP (w:World) (u:Value) (l:List Int) (x:Int) (hl:LB dJ S w u l):
  Calls asq 99 #[u,ah x] w fun e w'=>e=.returned (.bool (decide (x∈l)))/\w'=w:=by
 have HI:=aj (YO w u l x hl)
 have Hx:Hid (decide (0<=xO (l.findIdx? fun y=>decide (y=x)))=decide (x∈l)):=aj (by
  rw[acz,Rq,decide_eq_true_iff,List.findIdx?_isSome];simp)
 rw[<-Hx.af];clear hl Hx;generalize xO (l.findIdx? fun y=>decide (y=x))=k at *;go_enter Tryz.func99,Tryz.ntmps99;go_wp2_with fail;refine HI.af.mono ?_;rintro e w' ⟨rfl,rfl⟩;go_wp2;go_ret;exact⟨rfl,rfl⟩
theorem acV (w:World) (u:Value) (l:List (List UInt8)) (x:List UInt8) (hl:LB lG S w u l):
  Calls asq 107 #[u,ax x] w fun e w'=>e=.returned (.bool (decide (x∈l)))/\w'=w:=by
 have HI:=aj (Zv w u l x hl)
 have Hx:Hid (decide (0<=xO (l.findIdx? fun y=>decide (y=x)))=decide (x∈l)):=aj (by
  rw[acz,Rq,decide_eq_true_iff,List.findIdx?_isSome];simp)
 rw[<-Hx.af];clear hl Hx;generalize xO (l.findIdx? fun y=>decide (y=x))=k at *;go_enter Tryz.func107,Tryz.ntmps107;go_wp2_with fail;refine HI.af.mono ?_;rintro e w' ⟨rfl,rfl⟩;go_wp2;go_ret;exact⟨rfl,rfl⟩
def pE {α:Type} (K:Kind α):Prop:=∀S S' w w' x r,K.R S w x r->K.R S' w' x r
theorem dN:pE dJ:=fun _ _ _ _ _ _ h=>h
theorem kY:pE qC:=fun _ _ _ _ _ _ h=>h
theorem ig:pE gq:=fun _ _ _ _ _ _ h=>h
theorem rE:pE mh:=fun _ _ _ _ _ _ h=>h
section
variable {α : Type} {e : TypeId} {K : Kind α} {B : Nat} {E E' : Nat -> Prop} {w w' : World} {v : Value} {l : List α}
theorem fe.flat (hK:pE K) {S S':Nat->Prop}:∀ {l:List α} {xs:List Value},fe K S w l xs->fe K S' w' l xs
 | [],_,h=>h
 | _ :: _,_,⟨r,xs',h1,h2,h3⟩=>⟨r,xs',h1,hK _ _ _ _ _ _ h2,fe.flat hK h3⟩
theorem aX.fJ (hK:pE K) (h:aX e K B E w v l) (hE:∀g,v.ownBlock=some g->¬E' g):aX e K B E' w v l:=by
 obtain⟨xs,h1,h2,_⟩:=h;exact⟨xs,h1,h2.flat hK,hE⟩
theorem aX.FK {N g n c:Nat} (h:aX e K B (fun b=>b<N/\¬v.ownBlock=some b) w' (.slice (some ⟨g,0,none⟩) n c) l):∀b,(Value.slice (some ⟨g,0,none⟩) n c).ownBlock=some b->v.ownBlock=some b∨N<=b:=by
 intro b hb;have:=h.notE b hb;rcases oG b N with h1 | h1
 ·left
  rcases Classical.em (v.ownBlock=some b)with h2 | h2
  ·exact h2
  ·exact absurd ⟨h1,h2⟩ this
 ·exact aZ h1
end
theorem agH:(Tryz.prog.info? 140).map (fun i=>(i.zero,i.size,i.bytes))=some (some (.agg #[ah 0,ah 0]),2,16):=TA
theorem qg:(Tryz.prog.info? 3).map (fun i=>(i.zero,i.size,i.bytes))=some (some (ah 0),1,8):=TA
section
variable {B pb : Nat} {w w' : World} {sv : bN} {s : aM} {own : Int} {v : bG} {p : aA} {u : Value}
theorem bB.putCells {l:List (Int × Int)} (hM:bB B pb w sv s own v p) (hst:Step (fun b=>b<w/\v.cells.ownBlock≠some b) w w') (hown:aX 140 qC B (fun _=>False) w' u l)
  (hnew:∀b,u.ownBlock=some b->v.cells.ownBlock=some b∨w.heap.size<=b):
  bB B pb (w'.setCell ⟨pb,11,none⟩ u) sv s own {v with cells:=u } {p with cells:=l }/\aU pb v {v with cells:=u } w (w'.setCell ⟨pb,11,none⟩ u):=by
 have hpl:=hM.lt;have hpc:v.cells.ownBlock≠some pb:=fun e=>hM.cells.notE pb e (aH rfl)
 have FL:u.ownBlock≠some pb:=fun e=>by rcases hnew pb e with h | h;exact hpc h;omega
 have hex:w'.heap[pb]? =some (.cells (Av sv s own v p).toArray 75 (0,0)):=(hst.block pb ⟨hpl,hpc⟩).trans hM.ex
 have hs:aX 54 gq B (fun b=>b=pb∨u.ownBlock=some b∨v.ar7.ownBlock=some b) w' v.av p.av:=
  (hM.av.step hst (fun b hb hE=>⟨hb,fun h=>hE (aZ (aH h))⟩)).fJ ig (fun g hg h=>by
   rcases h with h | h | h
   ·exact hM.av.notE g hg (aH h)
   ·rcases hnew g h with h' | h'
    ·exact hM.av.notE g hg (aZ (aH h'))
    ·have:=(hM.av.lt g hg).2;omega
   ·exact hM.av.notE g hg (aZ (aZ h)))
 have hj:aX 3 dJ B (fun b=>b=pb∨v.av.ownBlock=some b∨u.ownBlock=some b) w' v.ar7 p.ar7:=
  (hM.ar7.step hst (fun b hb hE=>⟨hb,fun h=>hE (aZ (aZ h))⟩)).fJ dN (fun g hg h=>by
   rcases h with h | h | h
   ·exact hM.ar7.notE g hg (aH h)
   ·exact hM.ar7.notE g hg (aZ (aH h))
   ·rcases hnew g h with h' | h'
    ·exact hM.ar7.notE g hg (aZ (aZ h'))
    ·have:=(hM.ar7.lt g hg).2;omega)
 have hc:aX 140 qC B (fun b=>b=pb∨v.av.ownBlock=some b∨v.ar7.ownBlock=some b) w' u l:=hown.fJ kY (fun g hg h=>by
  rcases h with h | h | h
  ·exact FL (h ▸ hg)
  ·rcases hnew g hg with h' | h'
   ·exact hM.av.notE g h (aZ (aH h'))
   ·have:=(hM.av.lt g h).2;omega
  ·rcases hnew g hg with h' | h'
   ·exact hM.ar7.notE g h (aZ (aZ h'))
   ·have:=(hM.ar7.lt g h).2;omega)
 refine⟨⟨eu hex 11 u,hM.base,hs.setOther (aH rfl) 11 u,hc.setOther (aH rfl) 11 u,hj.setOther (aH rfl) 11 u⟩,⟨(hst.imp (fun b hb=>⟨hb.1,fun h=>hb.2.2 (aZ (aH h))⟩)).setCell (fun h=>h.2.1 rfl) u,fun b hb=> ?_⟩⟩;rcases hb with h | h | h
 ·exact aH (aH h)
 ·rcases hnew b h with h' | h'
  ·exact aH (aZ (aH h'))
  ·exact aZ h'
 ·exact aH (aZ (aZ h))
theorem bB.Rt {l:List Int} (hM:bB B pb w sv s own v p) (hst:Step (fun b=>b<w/\v.ar7.ownBlock≠some b) w w') (hown:aX 3 dJ B (fun _=>False) w' u l)
  (hnew:∀b,u.ownBlock=some b->v.ar7.ownBlock=some b∨w.heap.size<=b):
  bB B pb (w'.setCell ⟨pb,12,none⟩ u) sv s own {v with ar7:=u } {p with ar7:=l }/\aU pb v {v with ar7:=u } w (w'.setCell ⟨pb,12,none⟩ u):=by
 have hpl:=hM.lt;have hpc:v.ar7.ownBlock≠some pb:=fun e=>hM.ar7.notE pb e (aH rfl)
 have FL:u.ownBlock≠some pb:=fun e=>by rcases hnew pb e with h | h;exact hpc h;omega
 have hex:w'.heap[pb]? =some (.cells (Av sv s own v p).toArray 75 (0,0)):=(hst.block pb ⟨hpl,hpc⟩).trans hM.ex
 have hs:aX 54 gq B (fun b=>b=pb∨v.cells.ownBlock=some b∨u.ownBlock=some b) w' v.av p.av:=
  (hM.av.step hst (fun b hb hE=>⟨hb,fun h=>hE (aZ (aZ h))⟩)).fJ ig (fun g hg h=>by
   rcases h with h | h | h
   ·exact hM.av.notE g hg (aH h)
   ·exact hM.av.notE g hg (aZ (aH h))
   ·rcases hnew g h with h' | h'
    ·exact hM.av.notE g hg (aZ (aZ h'))
    ·have:=(hM.av.lt g hg).2;omega)
 have hc:aX 140 qC B (fun b=>b=pb∨v.av.ownBlock=some b∨u.ownBlock=some b) w' v.cells p.cells:=
  (hM.cells.step hst (fun b hb hE=>⟨hb,fun h=>hE (aZ (aZ h))⟩)).fJ kY (fun g hg h=>by
   rcases h with h | h | h
   ·exact hM.cells.notE g hg (aH h)
   ·exact hM.cells.notE g hg (aZ (aH h))
   ·rcases hnew g h with h' | h'
    ·exact hM.cells.notE g hg (aZ (aZ h'))
    ·have:=(hM.cells.lt g hg).2;omega)
 have hj:aX 3 dJ B (fun b=>b=pb∨v.av.ownBlock=some b∨v.cells.ownBlock=some b) w' u l:=hown.fJ dN (fun g hg h=>by
  rcases h with h | h | h
  ·exact FL (h ▸ hg)
  ·rcases hnew g hg with h' | h'
   ·exact hM.av.notE g h (aZ (aZ h'))
   ·have:=(hM.av.lt g h).2;omega
  ·rcases hnew g hg with h' | h'
   ·exact hM.cells.notE g h (aZ (aZ h'))
   ·have:=(hM.cells.lt g h).2;omega)
 refine⟨⟨eu hex 12 u,hM.base,hs.setOther (aH rfl) 12 u,hc.setOther (aH rfl) 12 u,hj.setOther (aH rfl) 12 u⟩,⟨(hst.imp (fun b hb=>⟨hb.1,fun h=>hb.2.2 (aZ (aZ h))⟩)).setCell (fun h=>h.2.1 rfl) u,fun b hb=> ?_⟩⟩;rcases hb with h | h | h
 ·exact aH (aH h)
 ·exact aH (aZ (aH h))
 ·rcases hnew b h with h' | h'
  ·exact aH (aZ (aZ h'))
  ·exact aZ h'
theorem bB.Aw {l:List bF} (hM:bB B pb w sv s own v p) (hst:Step (fun b=>b<w/\v.av.ownBlock≠some b) w w') (hown:aX 54 gq B (fun _=>False) w' u l)
  (hnew:∀b,u.ownBlock=some b->v.av.ownBlock=some b∨w.heap.size<=b):
  bB B pb (w'.setCell ⟨pb,9,none⟩ u) sv s own {v with av:=u } {p with av:=l }/\aU pb v {v with av:=u } w (w'.setCell ⟨pb,9,none⟩ u):=by
 have hpl:=hM.lt;have hpc:v.av.ownBlock≠some pb:=fun e=>hM.av.notE pb e (aH rfl)
 have FL:u.ownBlock≠some pb:=fun e=>by rcases hnew pb e with h | h;exact hpc h;omega
 have hex:w'.heap[pb]? =some (.cells (Av sv s own v p).toArray 75 (0,0)):=(hst.block pb ⟨hpl,hpc⟩).trans hM.ex
 have hc:aX 140 qC B (fun b=>b=pb∨u.ownBlock=some b∨v.ar7.ownBlock=some b) w' v.cells p.cells:=
  (hM.cells.step hst (fun b hb hE=>⟨hb,fun h=>hE (aZ (aH h))⟩)).fJ kY (fun g hg h=>by
   rcases h with h | h | h
   ·exact hM.cells.notE g hg (aH h)
   ·rcases hnew g h with h' | h'
    ·exact hM.cells.notE g hg (aZ (aH h'))
    ·have:=(hM.cells.lt g hg).2;omega
   ·exact hM.cells.notE g hg (aZ (aZ h)))
 have hj:aX 3 dJ B (fun b=>b=pb∨u.ownBlock=some b∨v.cells.ownBlock=some b) w' v.ar7 p.ar7:=
  (hM.ar7.step hst (fun b hb hE=>⟨hb,fun h=>hE (aZ (aH h))⟩)).fJ dN (fun g hg h=>by
   rcases h with h | h | h
   ·exact hM.ar7.notE g hg (aH h)
   ·rcases hnew g h with h' | h'
    ·exact hM.ar7.notE g hg (aZ (aH h'))
    ·have:=(hM.ar7.lt g hg).2;omega
   ·exact hM.ar7.notE g hg (aZ (aZ h)))
 have hs:aX 54 gq B (fun b=>b=pb∨v.cells.ownBlock=some b∨v.ar7.ownBlock=some b) w' u l:=hown.fJ ig (fun g hg h=>by
  rcases h with h | h | h
  ·exact FL (h ▸ hg)
  ·rcases hnew g hg with h' | h'
   ·exact hM.cells.notE g h (aZ (aH h'))
   ·have:=(hM.cells.lt g h).2;omega
  ·rcases hnew g hg with h' | h'
   ·exact hM.ar7.notE g h (aZ (aH h'))
   ·have:=(hM.ar7.lt g h).2;omega)
 refine⟨⟨eu hex 9 u,hM.base,hs.setOther (aH rfl) 9 u,hc.setOther (aH rfl) 9 u,hj.setOther (aH rfl) 9 u⟩,⟨(hst.imp (fun b hb=>⟨hb.1,fun h=>hb.2.2 (aH h)⟩)).setCell (fun h=>h.2.1 rfl) u,fun b hb=> ?_⟩⟩;rcases hb with h | h | h
 ·rcases hnew b h with h' | h'
  ·exact aH (aH h')
  ·exact aZ h'
 ·exact aH (aZ (aH h))
 ·exact aH (aZ (aZ h))
end
theorem XA {o:Option Nat} (h:o=none):xO o= -1:=by rw[h];rfl
theorem XB {o:Option Nat} (h:o=some i):xO o=i:=by rw[h];rfl
theorem Zw (B:Nat) (w:World) (u:Value) (l:List Int) (x:Int) (hown:aX 3 dJ B E w u l) (hl:l.length<=1000000) (hB:B<=w):
  Calls asq 143 #[u,ah x] w fun e w'=>∃u',e=.returned (.tuple #[u',ah (fE l x).2])/\aX 3 dJ B (fun _=>False) w' u' (fE l x).1/\
   Step (fun b=>b<w/\u.ownBlock≠some b) w w'/\∀b,u'.ownBlock=some b->u.ownBlock=some b∨w.heap.size<=b:=by
 have HI:=aj (NU w u l x hown.lb);obtain⟨a,c,rfl⟩:=hown.form;have H0:Hid (aX 3 dJ B (fun _=>False) w (.slice a l.length c) l):=aj (hown.fJ dN (fun _ _ h=>h))
 cases hf:l.findIdx? (fun y=>decide (y=x))with
 | some i=>
  have HP:Hid (fE l x=(l,i)):=aj (wX hf);rw[XB hf]at HI;rw[HP.af];clear hf hown;have hi:(0:Int)<=(i:Int):=aY _;obtain ⟨n,hn⟩:=aiG l.length;rw[<-hn]at H0 HI ⊢;clear hn hl;go_enter Tryz.func143,Tryz.ntmps143;go_wp2_with fail;refine HI.af.mono ?_;rintro e w' ⟨rfl,rfl⟩;go_wp2;go_ret2;exact⟨_,rfl,H0.af,Step.refl _ _,fun b h=>aH h⟩
 | none=>
  have HP:Hid (fE l x=(l++[x],l.length)):=aj (by unfold fE;rw[hf]);rw[XA hf]at HI;rw[HP.af];clear hf;have Hw:=aj ((hown.fJ (E':=fun b=>b<w+1/\¬(Value.slice a l.length c).ownBlock=some b) dN (fun g hg h=>h.2 hg)).alloc (.cells #[ah x] 3));clear hown;obtain ⟨n,hn⟩:=aiG l.length;have Hn:=aj hn;rw[<-hn]at H0 HI Hw hl ⊢;clear hn;go_enter Tryz.func143,Tryz.ntmps143;go_wp2_with fail;refine HI.af.mono ?_;rintro e w' ⟨rfl,rfl⟩;go_wp2_with (at_builtin;refine fZ 41 (.int .i64 0) 8 Tryz.underlying41 qg rfl abD rfl (.tmp 14) (.tmp 16) rfl n Hn.af.symm rfl Hw.af (fun b hb=>by have:=hb.1;simp;omega) w'.heap.size x [.int .i64 x] rfl ?c1 (by simp[Value.oneCell']) rfl (by rw[<-Hn.af];omega) (by rw[<-Hn.af];omega) ?c2 ?_)
  case c1=>
   intro j u hj
   match j,hj with
   | 0,hj=>simp at hj;subst hj;rw[aV (ah2 _ _)];rfl
   | j+1,hj=>simp at hj
  case c2=>simp;omega
  intro g c2 w2 hown2 hst WG;have Sz:=aj hown2;have uV:=aj hst;clear hown2 hst;go_wp2;go_ret2;refine⟨_,rfl,Sz.af.fJ dN (fun _ _ h=>h),?_,fun b hb=> ?_⟩
  ·exact((Step.refl (fun b=>b<w'/\(Value.slice a n c).ownBlock≠some b) w').alloc (fun b hb=>hb.1) _).trans (uV.af.imp fun b hb=>⟨by have:=hb.1;simp;omega,hb.2⟩)
  ·rcases Sz.af.FK b hb with h | h
   ·exact aH h
   ·right;omega
section
variable {S : Nat -> Prop} {w : World} {a : Option Addr} {b off : Nat}
theorem mF.SA {l:List (Int × Int)} (h:mF qC S w l a b off) (i:Nat) (x:Int × Int) (hx:l[i]? =some x):w.cell? (ak b (off+i*2))=some (ah x.1)/\w.cell? (ak b (off+i*2+1))=some (ah x.2):=by
 obtain⟨row,h1,h2⟩:=h.row i x hx;have h1:row=Xz x:=h1;subst h1;exact⟨h2 0 _ rfl,h2 1 _ rfl⟩
end
theorem YP (w:World) (u:Value) (l:List (Int × Int)) (x:Int × Int) (hl:LB qC S w u l) (hS:∀b,S b->b<w.heap.size):
  Calls asq 155 #[u,.agg #[ah x.1,ah x.2]] w fun e w'=>e=.returned (ah (xO (l.findIdx? fun y=>decide (y=x))))/\Below w w w':=by
 obtain⟨a,b,off,cap,rfl,hm,_,hat⟩:=hl.at;have dP:=aj hat;have ha:=hat.addr;have hin:0<l.length->b<w:=fun h=>hS _ (hat.mG h)
 obtain ⟨n,hn⟩:=aiG l.length;have Hn:=aj hn;rw[<-hn]at hm ha hin ⊢;obtain⟨x1,x2⟩:=x;have hB0:=aj ((PZ w.heap.size w).alloc (oD _) (.cells #[ah x1,ah x2] 140));have Zx:=aj (ah2 w (.cells #[ah x1,ah x2] 140));simp only;clear hl hat hn;go_enter Tryz.func155,Tryz.ntmps155;go_wp2;go_loopw [8] (fun i wr=>∃k:Nat,i=ah k/\k<=n/\(l.take k).findIdx? (fun y=>decide (y=(x1,x2)))=none/\Below w w wr/\wr.heap[w.heap.size]? =some (aB #[ah x1,ah x2] 140)) (fun i _=>n-(intOf i).toNat);exact⟨0,rfl,alg _,qZ _ _,hB0.af,Zx.af⟩;obtain⟨k,rfl,hk,hf,hbel,hbx⟩:=hrel;have Hf:=aj hf;have di:=aj hbel;have iY:=aj hbx;by_cases hlt:k<n
 ·obtain rfl:=ha wP
  have hbl:=hin wP;obtain⟨y,hy⟩:∃y,l[k]? =some y:=⟨_,gP (by rw[<-Hn.af];exact hlt)⟩;obtain⟨g1,g2⟩:=dP.af.SA k y hy;have c1:wr.cell? (ak b (off+k*2))=some (ah y.1):=(hbel.cell (p:=(ak b (off+k*2))) hbl).trans g1;have c2:wr.cell? (ak b (off+k*2+1))=some (ah y.2):=(hbel.cell (p:=(ak b (off+k*2+1))) hbl).trans g2;have d1:wr.cell? (ak w 0)=some (ah x1):=aL hbx rfl;have d2:wr.cell? (ak w 1)=some (ah x2):=aL hbx rfl;have Hy:=aj hy;have hk0:(0:Int)<=(k:Int):=aY _;have hk2:(k:Int)<(n:Int):=wP;clear hy hf hbel hbx g1 g2;obtain⟨y1,y2⟩:=y;simp only at c1 c2
  cases hxy:decide ((y1,y2)=(x1,x2))with
  | true=>
   have Hh:=aj (vZ Hf.af Hy.af hxy);have h2:y1=x1/\y2=x2:=by simpa using hxy
   obtain⟨rfl,rfl⟩:=h2;have e1:(y1==y1)=true:=arG;have e2:(y2==y2)=true:=arG;clear hxy;go_wp2_with fail;go_quiet (fail);have HB2:=aj (show Below w w (wr.drewN nq)from⟨di.af.os,di.af.tape,di.af.output,di.af.size,di.af.block⟩);go_wp2;go_ret;exact⟨by rw[Hh.af];rfl,HB2.af⟩
  | false=>
   have Hh:=aj (lM Hf.af Hy.af hxy)
   have h2:((x1==y1)&&(x2==y2))=false:=by
    have:¬(y1=x1/\y2=x2):=by simpa using hxy
    rw[Bool.eq_false_iff];intro h;simp at h;exact this ⟨h.1.symm,h.2.symm⟩
   have h3:((x1==y1)=false)∨((x1==y1)=true/\(x2==y2)=false):=by
    cases hq:(x1==y1)
    ·exact aH rfl
    ·rw[hq]at h2;exact aZ ⟨rfl,by simpa using h2⟩
   clear hxy h2;rcases h3 with h3 | ⟨h3,h4⟩
   all_goals
    go_wp2_with fail;go_quiet (fail);have HB2:=aj (show Below w w (wr.drewN nq)from⟨di.af.os,di.af.tape,di.af.output,di.af.size,di.af.block⟩);have gI:=aj (show (wr.drewN nq).heap[w.heap.size]? =some (aB #[ah x1,ah x2] 140)from iY.af);go_wp2;go_roundw;exact⟨k+1,arH,wP,Hh.af,HB2.af,gI.af⟩;simp[intOf];omega
 ·have Hh:Hid (l.findIdx? (fun y=>decide (y=(x1,x2)))=none):=aj (wh (by have:=Hf.af;rwa [show k=l.length by have:=Hn.af;omega]at this))
  clear hf hbel hbx;go_wp2;go_ret;exact⟨by rw[Hh.af];rfl,di.af⟩
theorem YQ (B:Nat) (w:World) (u:Value) (l:List (Int × Int)) (x:Int × Int) (hown:aX 140 qC B E w u l) (hl:l.length<=1000000) (hB:B<=w):
  Calls asq 146 #[u,.agg #[ah x.1,ah x.2]] w fun e w'=>∃u',e=.returned (.tuple #[u',ah (fE l x).2])/\aX 140 qC B (fun _=>False) w' u' (fE l x).1/\
   Step (fun b=>b<w/\u.ownBlock≠some b) w w'/\∀b,u'.ownBlock=some b->u.ownBlock=some b∨w.heap.size<=b:=by
 have H0:Hid (aX 140 qC B (fun _=>False) w u l):=aj (hown.fJ kY (fun _ _ h=>h));have HI:=aj (YP (w.alloc (.cells #[ah x.1,ah x.2] 140)) u l x (H0.af.alloc _).lb (fun b hb=>hb.1));obtain⟨a,c,rfl⟩:=hown.form;obtain ⟨n,hn⟩:=aiG l.length;have Hn:=aj hn;rw[<-hn]at H0 HI hown hl ⊢
 cases hf:l.findIdx? (fun y=>decide (y=x))with
 | some i=>
  have HP:Hid (fE l x=(l,i)):=aj (wX hf);rw[XB hf]at HI;rw[HP.af];obtain⟨x1,x2⟩:=x;simp only at HI ⊢;clear hf hown hn;have hi:(0:Int)<=(i:Int):=aY _;go_enter Tryz.func146,Tryz.ntmps146;go_wp2_with fail;refine HI.af.mono ?_;rintro e w' ⟨rfl,hb⟩;have HB:=aj (((PZ w.heap.size w).alloc (oD _) (.cells #[ah x1,ah x2] 140)).trans (hb.mono arG));clear hb;go_wp2;go_ret2;exact⟨_,rfl,H0.af.below HB.af,(Step.of_below HB.af).imp (fun b hb=>hb.1),fun b h=>aH h⟩
 | none=>
  have HP:Hid (fE l x=(l++[x],n)):=aj (by unfold fE;rw[hf,hn]);rw[XA hf]at HI;rw[HP.af];obtain⟨x1,x2⟩:=x;simp only at HI ⊢
  have Hw:Hid (∀w',Below w w w'->aX 140 qC B (fun b=>b<w'+1/\¬(Value.slice a n c).ownBlock=some b) (w'.alloc (.cells #[ah x1,ah x2] 140)) (.slice a n c) l):=
   aj (fun w' hb=>((hown.below hb).fJ kY (fun g hg h=>h.2 hg)).alloc _)
  have Hnn:=aj hn;clear hf hown hn;go_enter Tryz.func146,Tryz.ntmps146;go_wp2_with fail;refine HI.af.mono ?_;rintro e w' ⟨rfl,hb⟩;have hbx:w'.heap[w.heap.size]? =some (aB #[ah x1,ah x2] 140):=(hb.block w.heap.size arG).trans (ah2 _ _);have HB:=aj (((PZ w.heap.size w).alloc (oD _) (.cells #[ah x1,ah x2] 140)).trans (hb.mono arG));have d1:w'.cell? (ak w 0)=some (ah x1):=aL hbx rfl;have d2:w'.cell? (ak w 1)=some (ah x2):=aL hbx rfl;have hsz:=HB.af.size;clear hb hbx;go_wp2_with (at_builtin;refine fZ 73 (.agg #[.int .i64 0,.int .i64 0]) 16 Tryz.underlying73 agH rfl abD rfl (.tmp 14) (.tmp 16) rfl n Hn.af.symm rfl (Hw.af _ HB.af) (fun b hb=>by have:=hb.1;simp;omega) w'.heap.size (x1,x2) [.int .i64 x1,.int .i64 x2] rfl ?c1 (by simp[Value.oneCell']) rfl (by rw[<-Hn.af];omega) (by rw[<-Hn.af];omega) ?c2 ?_)
  case c1=>
   intro j u hj
   match j,hj with
   | 0,hj=>simp at hj;subst hj;rw[aV (ah2 _ _)];rfl
   | 1,hj=>simp at hj;subst hj;rw[aV (ah2 _ _)];rfl
   | j+2,hj=>simp at hj
  case c2=>simp;omega
  intro g c2 w2 hown2 hst WG;have Sz:=aj hown2;have uV:=aj hst;clear hown2 hst d1 d2;go_wp2;go_ret2;refine⟨_,rfl,Sz.af.fJ kY (fun _ _ h=>h),?_,fun b hb=> ?_⟩
  ·exact(((Step.of_below HB.af).imp (S':=fun b=>b<w/\(Value.slice a n c).ownBlock≠some b) (fun b hb=>hb.1)).alloc (fun b hb=>by have:=hb.1;omega) _).trans (uV.af.imp fun b hb=>⟨by have:=hb.1;simp;omega,hb.2⟩)
  ·rcases Sz.af.FK b hb with h | h
   ·exact aH h
   ·right;omega
theorem FM {sv:bN} {s:aM} {v:bG} {p:aA} (u x:Int) (hM:bB B pb w sv s own v p) (hl:p.cells.length<=1000000) (hB:B<=w):
  Calls asq 105 #[aQ pb,ah u,ah x] w fun e w'=>∃v',e=.returned (ah (p.cell u x).2)/\bB B pb w' sv s own v' (p.cell u x).1/\aU pb v v' w w':=by
 have c:=hM.c11;have HM:=aj hM;have Cj:=aj (YQ B w v.cells p.cells (u,x) hM.cells hl hB);have Hpb:Hid (pb<w/\v.cells.ownBlock≠some pb):=aj ⟨hM.lt,fun e=>hM.cells.notE pb e (aH rfl)⟩;unfold aA.cell;obtain⟨ca,cc,hcf⟩:=hM.cells.form;rw[hcf]at c Cj;have Zy:=aj hcf;obtain ⟨n,hn⟩:=aiG p.cells.length;rw[<-hn]at c Cj Zy;clear hM hcf hn hl;generalize hq:fE p.cells (u,x)=q at *;obtain⟨l',i⟩:=q;simp only at Cj ⊢;go_enter Tryz.func105,Tryz.ntmps105;go_wp2_with fail;refine Cj.af.mono ?_;rintro e w2 ⟨u',rfl,hown,hst,hnew⟩;have hex:w2.heap[pb]? =_:=(hst.block pb ⟨Hpb.af.1,by rw[<-Zy.af];exact Hpb.af.2⟩).trans HM.af.ex;have hfz:w2.frozen? (ak pb 11)=false:=vV hex 11;have c2:=lU hex 11 _ rfl;have HR:=aj (HM.af.putCells (by rw[Zy.af];exact hst) hown (by rw[Zy.af];exact hnew));obtain⟨ua,uc,rfl⟩:=hown.form;clear hown hst hnew hex;go_wp2;go_ret;exact⟨_,rfl,HR.af.1,HR.af.2⟩
def nJ (s:bF):bF:={s with value:=0,size:=0 }
theorem acW (n v:List UInt8) (s:bF):dD n v (nJ s)=dD n v s:=rfl
theorem findIdx?_map {α β:Type} (g:α->β) (f:β->Bool):∀l:List α,(l.map g).findIdx? f=l.findIdx? (fun x=>f (g x))
 | []=>rfl
 | x :: l=>by simp only[Sn,dz,findIdx?_map g f l]
theorem rF {l m:List bF} (h:l.map nJ=m.map nJ) (n v:List UInt8):l.findIdx? (dD n v)=m.findIdx? (dD n v):=by
 have h1:=findIdx?_map nJ (dD n v) l;have h2:=findIdx?_map nJ (dD n v) m;simp only[acW]at h1 h2;rw[<-h1,<-h2,h]
theorem Ko (aS:Int):∀(ys:List Int) (l:List bF),(p9 aS ys l).map nJ=l.map nJ
 | [],l=>by unfold p9;rfl
 | a :: ys,[]=>by unfold p9;rfl
 | [a],s :: l=>by unfold p9;rfl
 | a :: b :: r,s :: l=>by
  unfold p9;simp only[Sn,Ko aS (b :: r) l]
  rfl
theorem EW:∀(ys:List Int) (vs:List dx) (l:List bF),(vY ys vs l).map nJ=l.map nJ
 | [],vs,l=>by unfold vY;rfl
 | a :: ys,[],l=>by unfold vY;rfl
 | a :: ys,v :: vs,[]=>by unfold vY;rfl
 | a :: ys,v :: vs,s :: l=>by
  unfold vY;simp only[Sn,EW ys vs l]
  rfl
theorem EX (s:aM) (y:pK) (l:List bF):(sM s y l).map nJ=l.map nJ:=by
 unfold sM;simp only[A7,EW];rw[<-A7,jf,Ko]
theorem NV (s:aM) (y:pK) (l:List bF):(sM s y l).length=l.length:=by
 have:=congrArg List.length (EX s y l)
 simpa using this
theorem mK.bare {p q:aA} {l:dw} (h:mK p l) (hs:q.av.map nJ=p.av.map nJ) (hc:q.cells=p.cells) (hj:q.ar7=p.ar7):mK q l:=by
 obtain⟨h1,h2,h3,h4⟩:=h;refine⟨?_,?_,?_,?_⟩
 ·rw[rF hs,hj];exact h1
 ·rw[rF hs,hc];exact h2
 ·rw[rF hs,hc];exact h3
 ·rw[rF hs,hc];exact h4
theorem zV.bare {p q:aA} {v:dx} (h:zV p v) (hs:q.av.map nJ=p.av.map nJ):zV q v:=fun r hr=>by
 obtain⟨i,h⟩:=h r hr;exact⟨i,by rw[rF hs];exact h⟩
theorem yZ {y:pK} {x:dw} {at_:Int} {p:aA} (h:mK p x):(jl ar1 y x at_ p).1=p/\(8*(jl ar1 y x at_ p).2.length:Int)=jZ x*8:=by
 unfold jl jZ yY;by_cases h1:x.ar3=1
 ·obtain⟨i,hi,k,hk⟩:=h.call h1
  simp[h1,fw hi]
 ·by_cases h2:x.ar3=2
  ·obtain⟨i,hi,k,hk⟩:=h.addr h2
   simp[h2,fw hi,gQ hk]
  ·by_cases h3:x.ar3=3
   ·obtain⟨i,hi,⟨k,hk⟩,k',hk'⟩:=h.bf h3
    simp[h3,fw hi,gQ hk,gQ hk']
   ·by_cases h4:x.ar3=4
    ·obtain⟨i,hi,k,hk⟩:=h.tp h4
     simp[h4,fw hi,gQ hk]
    ·simp[h1,h2,h3,h4]
theorem nC {ar1:List (List UInt8)} {y:pK} {p:aA}:∀(ls:List dw) (out:List fu),(∀l∈ls,mK p l)->(iD ar1 y ls (p,out)).1=p/\(8*(iD ar1 y ls (p,out)).2.length:Int)=8*out.length+bO ls
 | [],out,_=>by unfold iD bO;exact⟨rfl,arG⟩
 | x :: ls,out,h=>by
  obtain⟨h1,h2⟩:=yZ (ar1:=ar1) (y:=y) (at_:=8*out.length) (h x (List.mem_cons_self ..));unfold iD bO;simp only[h1];obtain⟨g1,g2⟩:=nC (ar1:=ar1) (y:=y) ls (out++(jl ar1 y x (8*out.length) p).2) (fun l hl=>h l (List.mem_cons_of_mem _ hl));refine⟨g1,g2.trans ?_⟩;rw[Kk];omega
theorem mX:∀(a b:List dw),bO (a++b)=bO a+bO b
 | [],b=>by simp[bO]
 | x :: a,b=>by simp only[List.cons_append,bO,mX a b];omega
theorem Be:∀(fs:List eH) (at_:Int),kQ at_ fs=at_+bO (fs.flatMap (·.ar5))
 | [],at_=>by simp[kQ,bO]
 | f :: fs,at_=>by simp only[kQ,Be fs,List.flatMap_cons,mX];omega
theorem Kq (bW:Int):∀(n k:Nat) (out:List fu),(jS bW k n out).length=out.length+3*n/\(∀i,i<out.length->(jS bW k n out)[i]? =out[i]?)/\
  ∀j,j<n->(jS bW k n out)[out.length+3*j]? =some ⟨11,14,0,0,bW+8*(k+j:Nat)-8*(out.length+3*j:Nat)-8⟩/\(jS bW k n out)[out.length+3*j+1]? =some ⟨17,14,0,0,0⟩/\(jS bW k n out)[out.length+3*j+2]? =some ⟨22,0,0,0,(k+j:Nat)⟩
 | 0,k,out=>by unfold jS;exact⟨rfl,fun _ _=>rfl,fun j hj=>absurd hj wP⟩
 | n+1,k,out=>by
  obtain⟨h1,h2,h3⟩:=Kq bW n (k+1) (out++[⟨11,14,0,0,bW+8*k-8*out.length-8⟩,⟨17,14,0,0,0⟩,⟨22,0,0,0,k⟩]);unfold jS;simp only[Kk,oF,aR]at h1 h2 h3;refine⟨wP,fun i hi=> ?_,fun j hj=> ?_⟩
  ·rw[h2 i wP,bH hi]
  ·cases j with
   | zero=>
    refine⟨?_,?_,?_⟩
    ·rw[h2 _ wP,zU wP]
     simp
    ·rw[h2 _ wP,zU wP]
     simp
    ·rw[h2 _ wP,zU wP]
     simp
   | succ j=>
    obtain⟨g1,g2,g3⟩:=h3 j wP;have e0:out.length+3*(j+1)=out.length+(0+1+1+1)+3*j:=wP;have e1:k+1+j=k+(j+1):=wP;rw[e1,<-e0]at g1;rw[<-e0]at g2;rw[e1,<-e0]at g3;exact⟨g1,g2,g3⟩
theorem agI {p:aA} (he:e≠0):(p.fail e).asj≠0:=by
 unfold aA.fail
 split
 ·exact he
 ·assumption
theorem mD {p:aA} {b:Bool} (he:e≠0):(p.dm b e).asj=0↔p.asj=0/\b=false:=by
 unfold aA.dm
 cases b with
 | false=>simp
 | true=>simp[agI he]
theorem Qj {p:aA} {s:bF} {bf:Bool} (he:e≠0) (h:(p.define s bf e).asj=0):p.asj=0:=by
 unfold aA.define at h;have h1:((p.dm (!bC (cB s)||(decide (s.ar3=3) != bf)) e).dm (p.av.any fun t=>gT t (cB s)) 100).asj=0:=h;exact((mD he).1 ((mD abD).1 h1).1).1
theorem XC (ar1:List (List UInt8)) (n v:List UInt8) (k:Int) (p:aA):(p.sym ar1 n v k).1.asj=p.asj:=by unfold aA.sym;split<;>rfl
theorem Bg {n v:List UInt8} {ks:List Int} {p:aA} (he:e≠0) (h:(p.asked ar1 n v e ks).1.asj=0):p.asj=0:=by
 have h1:=((mD he).1 h).1
 rwa [XC]at h1
theorem agJ {p:aA} {f:eH} (h:(p.func f).asj=0):p.asj=0:=by
 have h1:=Qj abD h;exact((mD abD).1 ((mD abD).1 h1).1).1
theorem En (v:dx):∀(l:List gH) (last:Int) (p:aA),(gZ v last l p).asj=0->p.asj=0
 | [],_,_,h=>h
 | r :: l,last,p,h=>((mD abD).1 (En v l r.asl _ h)).1
theorem Kr {p:aA} {ar4:Int} {v:dx} (h:(p.var ar4 v).asj=0):p.asj=0/\1<=v.ar8.length/\v.ar8.length<=256/\v.sym.ar3≠1:=by
 have h1:=Qj abD (En v v.ash (-1) _ h);obtain⟨h2,h3⟩:=(mD abD).1 h1;simp only[Bool.or_eq_false_iff,arN]at h3;exact⟨h2,wP,wP,h3.1.2⟩
theorem foldl_zero {α:Type} {f:aA->α->aA} (hf:∀p x,(f p x).asj=0->p.asj=0):∀(l:List α) (p:aA),(l.foldl f p).asj=0->p.asj=0
 | [],_,h=>h
 | x :: l,p,h=>hf p x (foldl_zero hf l (f p x) h)
theorem EY {α:Type} {f:aA->α->aA} {P:α->Prop} (hf:∀p x,(f p x).asj=0->p.asj=0) (hP:∀p x,(f p x).asj=0->P x):∀(l:List α) (p:aA),(l.foldl f p).asj=0->∀x∈l,P x
 | [],_,_,x,hx=>by cases hx
 | y :: l,p,h,x,hx=>by
  rcases Y1.1 hx with rfl | hx
  ·exact hP p _ (foldl_zero hf l _ h)
  ·exact EY hf hP l _ h x hx
theorem Qk {l:dw} {p:aA} (h:(p.called ar1 l).asj=0):p.asj=0:=by
 unfold aA.called at h
 split at h
 ·exact Bg abD h
 ·split at h
  ·exact Bg abD h
  ·split at h
   ·exact Bg abD h
   ·exact h
theorem Jy {l:dw} {p:aA} (h:(p.addressed ar1 l).asj=0):p.asj=0:=by
 unfold aA.addressed at h
 split at h
 ·exact Bg abD h
 ·exact h
theorem NW {v:dx} {p:aA} (h:(p.ash ar1 v).asj=0):p.asj=0:=
 foldl_zero (fun p (r:gH) h=>Bg abD h) v.ash p h
theorem SB {s:aM} {p:aA} (h:(p.needs s).asj=0):p.asj=0:=
 foldl_zero (fun _ _ h=>((mD abD).1 h).1) _ _ (foldl_zero (fun _ _ h=>Qk h) _ _ (foldl_zero (fun _ _ h=>Jy h) _ _ h))
def Dp (s:aM):aA:=s.ar2.foldl (fun p f=>p.func f) ((⟨[],[],[],0⟩:aA).dm (decide (s.ar4<0)||decide (15<s.ar4)) 100)
def pG (s:aM):aA:=s.vars.foldl (fun p v=>p.var s.ar4 v) (Dp s)
theorem tN (s:aM):aC s=s.vars.foldl (fun p v=>p.ash s.ar1 v) ((pG s).needs s):=rfl
theorem SC {s:aM} (h:(aC s).asj=0):0<=s.ar4/\s.ar4<=15/\∀v∈s.vars,1<=v.ar8.length/\v.ar8.length<=256/\v.sym.ar3≠1:=by
 rw[tN]at h;have h1:=SB (foldl_zero (fun _ _ h=>NW h) _ _ h);have h2:=foldl_zero (fun _ _ h=>(Kr h).1) s.vars _ h1;have h3:=foldl_zero (fun _ _ h=>agJ h) s.ar2 _ h2;have h4:=((mD abD).1 h3).2;simp only[Bool.or_eq_false_iff,arN]at h4;exact⟨wP,wP,EY (f:=fun p v=>p.var s.ar4 v) (fun _ _ h=>(Kr h).1) (fun _ _ h=>(Kr h).2) s.vars (Dp s) h1⟩
theorem XD {p:aA} (h:p.asj≠0):(p.fail e).asj=p.asj:=by unfold aA.fail;rw[if_neg h]
theorem XE (p:aA) (f:eH):(p.func f).av=p.av++[cB f.sym]:=by unfold aA.func aA.define;simp
theorem M5 (v:dx):∀(l:List gH) (last:Int) (p:aA),(gZ v last l p).av=p.av
 | [],_,_=>rfl
 | r :: l,last,p=>by unfold gZ;rw[M5 v l];simp
theorem Zz (p:aA) (ar4:Int) (v:dx):(p.var ar4 v).av=p.av++[cB v.sym]:=by unfold aA.var;rw[M5];unfold aA.define;simp
theorem SE:∀(l:List eH) (p:aA),(l.foldl (fun p f=>p.func f) p).av=p.av++l.map (fun f=>cB f.sym)
 | [],p=>arG
 | f :: l,p=>by rw[nY,SE l,XE];simp
theorem XF (ar4:Int):∀(l:List dx) (p:aA),(l.foldl (fun p v=>p.var ar4 v) p).av=p.av++l.map (fun v=>cB v.sym)
 | [],p=>arG
 | v :: l,p=>by rw[nY,XF ar4 l,Zz];simp
theorem Ql (s:aM):(pG s).av=s.ar2.map (fun f=>cB f.sym)++s.vars.map (fun v=>cB v.sym):=by
 unfold pG Dp;rw[XF,SE];simp
theorem acX {s:aM} {p:aA} (ar1:List (List UInt8)) (n v:List UInt8) (k:Int) (h:Ba s p.av):Ba s (p.sym ar1 n v k).1.av:=by
 unfold aA.sym
 split
 ·exact h
 ·rename_i hn
  refine⟨h.own.trans (List.prefix_append _ _),fun i x hi hx=> ?_⟩;have hn':=List.findIdx?_eq_none_iff.1 hn;rcases oG i p.av.length with h1 | h1
  ·simp only at hx
   rw[bH h1]at hx;obtain⟨g1,g2⟩:=h.rest i x hi hx;refine⟨g1,fun k y hk hki hy=> ?_⟩;simp only at hy;rw[bH wP]at hy;exact g2 k y hk hki hy
  ·have hlen:i<(p.av++[iP ar1 n v k]).length:=(Sm.1 hx).1
   simp only[Kk,oF,aR]at hlen;have hi2:i=p.av.length:=wP;subst hi2;simp only at hx;rw[zU (oD _)]at hx;simp at hx;subst hx;refine⟨rfl,fun k2 y hk hki hy hh=> ?_⟩;simp only at hy;rw[bH wP]at hy;have hd:=(h.rest k2 y hk hy).1;have hm:=hn' y (List.mem_of_getElem? hy);simp only[iP]at hh;simp[dD,hd,hh.1,hh.2]at hm
theorem xG {s:aM} {α:Type} {f:aA->α->aA} (hf:∀p x,Ba s p.av->Ba s (f p x).av):∀(l:List α) (p:aA),Ba s p.av->Ba s (l.foldl f p).av
 | [],_,h=>h
 | x :: l,p,h=>xG hf l (f p x) (hf p x h)
theorem yt {s:aM} {p:aA} (ar1:List (List UInt8)) (n v:List UInt8) (e:Int) (ks:List Int) (h:Ba s p.av):Ba s (p.asked ar1 n v e ks).1.av:=by
 unfold aA.asked;simp only[oq];exact acX ar1 n v _ h
theorem ZA (s:aM):Ba s (aC s).av:=by
 rw[tN];refine xG (fun p v h=>xG (fun p r h=>yt _ _ _ _ _ h) _ _ h) _ _ ?_;unfold aA.needs;refine xG (fun p l h=> ?_) _ _ (xG (fun p l h=> ?_) _ _ (xG (fun p l h=> ?_) _ _ ?_))
 ·unfold aA.addressed
  split
  ·exact yt _ _ _ _ _ h
  ·exact h
 ·unfold aA.called
  split
  ·exact yt _ _ _ _ _ h
  ·split
   ·exact yt _ _ _ _ _ h
   ·split
    ·exact yt _ _ _ _ _ h
    ·exact h
 ·unfold aA.line;rw[oq];exact h
 ·refine⟨by rw[Ql];exact mV _,fun i x hi hx=> ?_⟩
  have h1:i<(pG s).av.length:=(Sm.1 hx).1;rw[Ql]at h1;simp at h1;omega
def Qm:List Oper->Nat->Oper
 | [],_=>{dst:=none,op:=.assign (.const undef),type:=0,pos:= "",after:=#[],guard:=none }
 | o :: _,0=>o
 | _ :: l,n+1=>Qm l n
theorem bI (o:Oper) (l:List Oper):Qm (o :: l) 0=o:=rfl
theorem bJ (o:Oper) (l:List Oper) (n:Nat):Qm (o :: l) (n+1)=Qm l n:=rfl
theorem acA:∀(l:List Oper) (n:Nat),n<l.length->l[n]? =some (Qm l n)
 | [],n,h=>absurd h arG
 | _ :: _,0,_=>rfl
 | _ :: l,n+1,h=>by rw[Y6];exact acA l n (by simpa using h)
def SH (md:Region.Mode) (ops:Array Oper):List Nat->Array Bool->Bool
 | [],_=>true
 | i :: is,l=>decide (i<ops.size)&&Region.free md ops l i&&(Region.ready md ops l).contains i&&SH md ops is (l.setIfInBounds i true)
def ZB:List Nat->Array Bool->Array Bool
 | [],l=>l
 | i :: is,l=>ZB is (l.setIfInBounds i true)
def Takes (P:Program) (ops:Array Oper) (S:World->Prop) (G:Act->Prop):List Nat->Act->Prop
 | [],a=>G a
 | i :: is,a=>∃v,YieldsIf P ops S (Qm ops.toList i) v a/\Takes P ops S G is (a.put (Qm ops.toList i).dst v)
theorem NY {P:Program} {ops:Array Oper} {Q:Exit->Act->World->Prop} {md:Region.Mode} {S:World->Prop} (hs:Region.noSelect ops=true) (hQ:∀c n v a w,Q (.panic c) (Act.put a (some n) v) w->Q (.panic c) a w) {w:World} (hS:S w):
  ∀(is:List Nat) (fuel:Nat) (listed:Array Bool) (a:Act),SH md ops is listed=true->Takes P ops S (fun a=>wpAnyH P md ops Q S fuel (ZB is listed) a w) is a->wpAnyH P md ops Q S (fuel+is.length) listed a w
 | [],_,_,_,_,h=>h
 | i :: is,fuel,listed,a,hb,h=>by
  simp only[SH,pJ,arI]at hb;obtain⟨v,hy,h⟩:=h
  have hi:ops[i]? =some (Qm ops.toList i):=by
   have:=acA ops.toList i (by simpa using hb.1.1.1)
   simpa using this
  exact wpAnyH_take hi hs hb.1.1.2 hb.1.2 (fun c a w h=>by
   revert h
   cases (Qm ops.toList i).dst with
   | none=>exact fun h=>h
   | some n=>exact fun h=>hQ c n v a w h) hy hS (NY hs hQ hS is fuel (listed.setIfInBounds i true) (a.put (Qm ops.toList i).dst v) hb.2 h)
theorem aT {md:Region.Mode} {S:World->Prop} (is:List Nat) {fuel f':Nat} {listed l':Array Bool} {a:Act} {w:World} (hS:S w) (hQ:∀c n v a w,Q (.panic c) (Act.put a (some n) v) w->Q (.panic c) a w)
  (hb:(Region.noSelect ops&&SH md ops is listed)=true) (hf:f'+is.length=fuel) (hl:ZB is listed=l') (h:Takes P ops S (fun a=>wpAnyH P md ops Q S f' l' a w) is a):wpAnyH P md ops Q S fuel listed a w:=by
 simp only[pJ]at hb;subst hf hl;exact NY hb.1 hQ hS is f' listed a hb.2 h
theorem arO {Q:Exit→Act→World→Prop} {md:Region.Mode} {S:World→Prop} (is:List Nat) {fuel f':Nat} {l l':Array Bool} {a:Act} {w:World} (hS:S w) (h:Takes P ops S (fun a=>wpAnyH P md ops Q S f' l' a w) is a) (hb:(Region.noSelect ops&&SH md ops is l)=true:=by kernel_rfl) (hf:f'+is.length=fuel:=by exact rfl) (hl:ZB is l=l':=by exact rfl) (hQ:∀ c n v a w,Q (.panic c) (Act.put a (some n) v) w→Q (.panic c) a w:=by exact fun _ _ _ _ _ h=>h):wpAnyH P md ops Q S fuel l a w:=aT is hS hQ hb hf hl h
theorem ast:(∀(P:Program) (ops:Array Oper) (S:World→Prop) (G:Act→Prop) (a:Act),Takes P ops S G [] a=G a)∧(∀(P:Program) (ops:Array Oper) (S:World→Prop) (G:Act→Prop) (i:Nat) (is:List Nat) (a:Act),Takes P ops S G (i::is) a=∃ v,YieldsIf P ops S (Qm ops.toList i) v a∧Takes P ops S G is (a.put (Qm ops.toList i).dst v))∧(∀ l:List Oper,l.toArray.toList=l)∧(∀ (o:Oper) (l:List Oper),Qm (o::l) 0=o)∧(∀ (o:Oper) (l:List Oper) (n:Nat),Qm (o::l) (n+1)=Qm l n):=⟨fun _ _ _ _ _=>rfl,fun _ _ _ _ _ _ _=>rfl,fun _=>rfl,fun _ _=>rfl,fun _ _ _=>rfl⟩
def nR:List (List UInt8):=[[],[97,110],[97,98],[97,98,99],[97,98,99],[97,98,99],[97,98,99],[97,98,99],[97,98,99],[97,98,110],[97,98,110],[97,110],[97,110],[110],[97,110],[110],[97],[97],[],[97],[97],[97,98],[110]]
theorem Kt:NM=nR.map fun f=>(f.contains 97,f.contains 98,f.contains 99,f.contains 110):=abD
theorem zW (l:List UInt8) (c:UInt8):(Lib.indexByte l c<0)↔l.contains c=false:=by
 induction l with
 | nil=>simp[Lib.indexByte]
 | cons b l ih=>
  have hge:=Lib.indexByte_ge l c;unfold Lib.indexByte
  cases hb:(b==c)with
  | true=>
   have:b=c:=by simpa using hb
   subst this;simp
  | false=>
   have hne:¬b=c:=by simpa using hb
   have hne':(c==b)=false:=by simp;exact fun e=>hne e.symm
   rw[if_neg arG,List.contains_cons,hne',Bool.false_or,<-ih]
   cases h1:(Lib.indexByte l c== -1)with
   | true=>
    have:Lib.indexByte l c= -1:=by simpa using h1
    rw[if_pos rfl];omega
   | false=>
    have:¬Lib.indexByte l c= -1:=by simpa using h1
    rw[if_neg arG];omega
theorem WH (w:World) (l:List UInt8) (c:Int):
  Calls asq 145 #[ax l,.int .u8 c] w fun e w'=>e=.returned (ah (Lib.indexByte l c.toNat.toUInt8))/\w'=w:=by
 go_enter Tryz.func145,Tryz.ntmps145;go_wp2;rw[run_callFunc_extern Tryz.func154 TA TA TA (e:=Extern.BytealgIndexByte.indexByte) TA,Lib.run_indexByteString];simp only[Result.andThen];rw[Oper.upon_value];go_wp2;go_ret;exact⟨rfl,rfl⟩
theorem wZ (w:World) (l:List UInt8) (c:Int):
  Calls asq 103 #[ax l,.int .u8 c] w fun e w'=>e=.returned (ah (Lib.indexByte l c.toNat.toUInt8))/\w'=w:=by
 have H:=aj (WH w l c);generalize Lib.indexByte l c.toNat.toUInt8=k at *;go_enter Tryz.func103,Tryz.ntmps103;go_wp2_with fail;refine H.af.mono ?_;rintro e w' ⟨rfl,rfl⟩;go_wp2;go_ret;exact⟨rfl,rfl⟩
def partAt (c:Int):Nat:=if c=97 then 1 else if c=98 then 2 else if c=99 then 3 else 4
theorem agK (w:World) (b:Nat) (c:Int) (h0:0<=c) (h1:c<=255):
  Calls asq 101 #[aQ b,.int .u8 c] w fun e w'=>e=.returned (.pointer (some ⟨b,partAt c,none⟩))/\w'=w:=by
 by_cases ha:c=97
 ·subst ha
  go_enter Tryz.func101,Tryz.ntmps101;go_wp2;go_ret;exact⟨rfl,rfl⟩
 by_cases hb:c=98
 ·subst hb
  go_enter Tryz.func101,Tryz.ntmps101;go_wp2;go_ret;exact⟨rfl,rfl⟩
 by_cases hc:c=99
 ·subst hc
  go_enter Tryz.func101,Tryz.ntmps101;go_wp2;go_ret;exact⟨rfl,rfl⟩
 have H:Hid (partAt c=4):=aj (by unfold partAt;rw[if_neg ha,if_neg hb,if_neg hc]);have e1:(c==97)=false:=by simp[ha]
 have e2:(c==98)=false:=by simp[hb]
 have e3:(c==99)=false:=by simp[hc]
 rw[H.af];clear ha hb hc;go_enter Tryz.func101,Tryz.ntmps101;go_wp2;go_ret;exact⟨rfl,rfl⟩
def kN (c:Int):Int:=if c=110 then -2147483648 else 0
def jA (c:Int):Int:=if c=110 then 2147483647 else 15
theorem ah9 (w:World) (c:Int):
  Calls asq 102 #[.int .u8 c] w fun e w'=>e=.returned (.tuple #[ah (kN c),ah (jA c)])/\w'=w:=by
 by_cases h:c=110
 ·subst h
  go_enter Tryz.func102,Tryz.ntmps102;go_wp2;go_ret2;exact⟨rfl,rfl⟩
 ·have H:Hid (kN c=0/\jA c=15):=aj (by unfold kN jA;rw[if_neg h,if_neg h];exact⟨rfl,rfl⟩)
  have e1:(c==110)=false:=by simp[h]
  rw[H.af.1,H.af.2];clear h;go_enter Tryz.func102,Tryz.ntmps102;go_wp2;go_ret2;exact⟨rfl,rfl⟩
theorem acY (w:World):
  Calls asq 100 #[] w fun e w'=>e=.returned (.slice (some ⟨w.heap.size,0,none⟩) 23 23)/\Below w w w'/\w.heap.size<w'/\
   ∀k (f:List UInt8),nR[k]? =some f->w'.cell? (ak w (k*2+1))=some (ax f):=by
 go_enter Tryz.func100,Tryz.ntmps100;go_wp2;go_ret;refine⟨rfl,(PZ _ _).alloc (oD _) _,arG,fun k f hf=> ?_⟩;rw[aV (ah2 _ _)];unfold nR at hf
 iterate 23
  rcases k with _ | k
  ·simp only[List.getElem?_cons_zero,Y6]at hf
   cases hf
   rfl
  simp only[Y6]at hf
 cases hf
def pI:List Int:=[97,98,99,110]
def iL (f:List UInt8) (i:fu) (c:Int):Bool:=dQ (f.contains c.toNat.toUInt8) (kN c) (jA c) (if c=97 then i.a else if c=98 then i.b else if c=99 then i.c else i.bU)
theorem aia {i:fu} {f:List UInt8} (h0:0<=i.op) (hf:nR[i.op.toNat]? =some f):gJ i=(iL f i 97&&iL f i 98&&iL f i 99&&iL f i 110):=by
 unfold gJ;rw[Kt,vW,hf];simp only[Option.map_some,h0,decide_true,Bool.true_and]
 rfl
theorem agL {i:fu} (h0:i.op<0):gJ i=false:=by unfold gJ;rw[decide_eq_false wP];rfl
theorem agM {i:fu} (h0:0<=i.op) (h:23<=i.op):gJ i=false:=by
 unfold gJ;rw[Kt,vW,aj5 (by simp[nR];omega)];simp
def iB (i:fu):Int:=if gJ i then 0 else 40
theorem XG (w:World) (i:fu) (hi:Bb i):
  Calls asq 50 #[.agg (arW i)] w fun e w'=>e=.returned (ah (iB i))/\Below w w w':=by
 have Hi:=aj hi;have Hsh:=aj (fun w=>acY w);have HB0:=aj ((PZ w.heap.size w).alloc (oD _) (.cells (arW i) 58));have HX0:=aj (ah2 w (.cells (arW i) 58));have hz0:w.heap.size<(w.alloc (.cells (arW i) 58)):=arG;have ho:=hi.op;clear hi;go_enter Tryz.func50,Tryz.ntmps50;go_wp2_with fail;generalize w.alloc (.cells (arW i) 58)=w0 at *;refine(Hsh.af w0).mono ?_;rintro e w1 ⟨rfl,hb1,hz1,hsh⟩;have Jz:=aj ((hb1.block w.heap.size hz0).trans HX0.af);have c0:w1.cell? (ak w 0)=some (ah i.op):=aL Jz.af rfl;have HB1:=aj (HB0.af.trans (hb1.mono wP));clear hb1 Hsh HX0 HB0;by_cases hneg:i.op<0
 ·have HE:Hid (iB i=40):=aj (by unfold iB;rw[agL hneg];rfl)
  have Hsh:=aj hsh;clear hsh;go_wp2;go_ret;exact⟨by rw[HE.af];rfl,HB1.af⟩
 by_cases ali:23<=i.op
 ·have HE:Hid (iB i=40):=aj (by unfold iB;rw[agM wP ali];rfl)
  have Hsh:=aj hsh;clear hsh;have h0:0<=i.op:=wP;go_wp2;go_ret;exact⟨by rw[HE.af];rfl,HB1.af⟩
 obtain⟨op,hop⟩:∃op:Nat,i.op=op:=⟨i.op.toNat,wP⟩;obtain⟨f,hf⟩:∃f,nR[op]? =some f:=⟨_,gP (by simp[nR];omega)⟩;have cf:=hsh op f hf;have HI:=aj (aia (i:=i) (f:=f) wP (by rw[hop];exact hf));have Hf:=aj hf;rw[hop]at c0;have h23:(op:Int)<23:=wP;have aqu:op<23:=wP;clear hsh hf;have Hop:=aj hop;clear hneg ali ho hop;have HX:=aj (ah2 w1 (.cells #[.int .u8 97,.int .u8 98,.int .u8 99,.int .u8 110] 5 (4,5)));have HB2:=aj (HB1.af.alloc wP (.cells #[.int .u8 97,.int .u8 98,.int .u8 99,.int .u8 110] 5 (4,5)));have Hx2:=aj ((heap_alloc_old w1 (.cells #[.int .u8 97,.int .u8 98,.int .u8 99,.int .u8 110] 5 (4,5)) (r:=w.heap.size) wP).trans Jz.af);have anW:=aj ((World.cell?_alloc_lt w1 (.cells #[.int .u8 97,.int .u8 98,.int .u8 99,.int .u8 110] 5 (4,5)) (ak w0 (op*2+1)) hz1).trans cf);have XH:=aj (fun (w:World) (c:Int)=>wZ w f c);have qD:=aj (fun (w:World) (b:Nat) (c:Int) (h0:0<=c) (h1:c<=255)=>agK w b c h0 h1);have Ay:=aj (fun (w:World) (c:Int)=>ah9 w c);have hcv:(convert 42 42 (.slice (some ⟨w1.heap.size,0,none⟩) 4 4)).run asq (w1.alloc (.cells #[.int .u8 97,.int .u8 98,.int .u8 99,.int .u8 110] 5))=.ok (.slice (some ⟨w1.heap.size,0,none⟩) 4 4) (w1.alloc (.cells #[.int .u8 97,.int .u8 98,.int .u8 99,.int .u8 110] 5 (4,5))):=Lib.run_convert_bytes_const w1 42 5 _ 4 4 Tryz.underlying42 Tryz.underlying5;go_wp2_with fail;clear c0 cf hcv;generalize w1.alloc (.cells #[.int .u8 97,.int .u8 98,.int .u8 99,.int .u8 110] 5 (4,5))=w2 at *;have b0:w2.cell? (ak w1 0)=some (.int .u8 97):=aL HX.af rfl;have b1:w2.cell? (ak w1 1)=some (.int .u8 98):=aL HX.af rfl;have b2:w2.cell? (ak w1 2)=some (.int .u8 99):=aL HX.af rfl;have b3:w2.cell? (ak w1 3)=some (.int .u8 110):=aL HX.af rfl;have cf:=anW.af;have d0:w2.cell? (ak w 0)=some (ah op):=by rw[aV Hx2.af,<-Hop.af];rfl
 have d1:w2.cell? (ak w 1)=some (ah i.a):=aL Hx2.af rfl;have d2:w2.cell? (ak w 2)=some (ah i.b):=aL Hx2.af rfl;have d3:w2.cell? (ak w 3)=some (ah i.c):=aL Hx2.af rfl;have d4:w2.cell? (ak w 4)=some (ah i.bU):=aL Hx2.af rfl;go_loop [23] (fun q=>∃k:Nat,q=ah k/\k<=4/\∀c∈pI.take k,iL f i c=true) (fun q=>4-(intOf q).toNat);exact⟨0,rfl,wP,arG⟩;obtain⟨k,rfl,hk,hok⟩:=hrel;have iy:=aj hok;clear hok;by_cases hlt:k<4
 ·rcases (by omega:k=0∨k=1∨k=2∨k=3)with hk' | hk' | hk' | hk'
  ·subst hk'
   obtain ⟨ix,hix⟩:=aiG (Lib.indexByte f (Int.toNat 97).toUInt8);have hneg:(ix<0)↔f.contains (97:UInt8)=false:=by rw[hix];exact zW f 97
   have HP:Hid (iL f i 97=dQ (f.contains 97) 0 15 i.a):=aj rfl;have SI:=aj hix;have HN:=aj hneg;clear hix hneg;have HW:Hid (∀w:World,Calls asq 103 #[ax f,.int .u8 97] w fun e w'=>e=.returned (ah ix)/\w'=w):=aj (fun w=>by rw[SI.af];exact wZ w f 97);generalize hin:f.contains (97:UInt8)=is at *;clear hin;obtain ⟨x,hx⟩:=aiG i.a;have Hx:=aj hx;rw[<-hx]at d1 HP;clear hx
   cases is with
   | false=>
    have hn:ix<0:=HN.af.2 rfl;by_cases h0:x=0
    ·have wu:Hid (iL f i 97=true):=aj (by rw[HP.af];simp[dQ,h0])
     have wB:Hid (∀c∈pI.take 1,iL f i c=true):=aj (by intro c hc;have h:=iy.af c;simp[pI]at h hc;rcases hc with rfl<;>simp_all [wu.af]);subst h0;go_wp2_with fail;refine(qD.af w2 w.heap.size 97 abD abD).mono ?_;rintro e w3 ⟨rfl,rfl⟩;simp only[show partAt 97=1 from rfl];go_wp2_with fail;refine(Ay.af _ 97).mono ?_;rintro e w4 ⟨rfl,rfl⟩;simp only[show kN 97=0 from rfl,show jA 97=15 from rfl];go_wp2_with fail;refine(HW.af _).mono ?_;rintro e w5 ⟨rfl,rfl⟩;go_wp2;go_round;exact⟨1,by rfl,wP,wB.af⟩;simp[intOf]
    ·have rV:Hid (iL f i 97=false):=aj (by rw[HP.af];simp[dQ,h0])
     have HE:Hid (iB i=40):=aj (by unfold iB;rw[HI.af,rV.af];simp);have hb0:(x != 0)=true:=by simp[h0]
     clear h0;go_wp2_with fail;refine(qD.af w2 w.heap.size 97 abD abD).mono ?_;rintro e w3 ⟨rfl,rfl⟩;simp only[show partAt 97=1 from rfl];go_wp2_with fail;refine(Ay.af _ 97).mono ?_;rintro e w4 ⟨rfl,rfl⟩;simp only[show kN 97=0 from rfl,show jA 97=15 from rfl];go_wp2_with fail;refine(HW.af _).mono ?_;rintro e w5 ⟨rfl,rfl⟩;go_wp2;go_ret;exact⟨by rw[HE.af];rfl,HB2.af⟩
   | true=>
    have hn:¬ix<0:=fun h=>by have:=HN.af.1 h;cases this
    by_cases h1:x<0
    ·have rV:Hid (iL f i 97=false):=aj (by rw[HP.af];simp[dQ];omega)
     have HE:Hid (iB i=40):=aj (by unfold iB;rw[HI.af,rV.af];simp);go_wp2_with fail;refine(qD.af w2 w.heap.size 97 abD abD).mono ?_;rintro e w3 ⟨rfl,rfl⟩;simp only[show partAt 97=1 from rfl];go_wp2_with fail;refine(Ay.af _ 97).mono ?_;rintro e w4 ⟨rfl,rfl⟩;simp only[show kN 97=0 from rfl,show jA 97=15 from rfl];go_wp2_with fail;refine(HW.af _).mono ?_;rintro e w5 ⟨rfl,rfl⟩;go_wp2;go_ret;exact⟨by rw[HE.af];rfl,HB2.af⟩
    by_cases h2:15<x
    ·have rV:Hid (iL f i 97=false):=aj (by rw[HP.af];simp[dQ];omega)
     have HE:Hid (iB i=40):=aj (by unfold iB;rw[HI.af,rV.af];simp);go_wp2_with fail;refine(qD.af w2 w.heap.size 97 abD abD).mono ?_;rintro e w3 ⟨rfl,rfl⟩;simp only[show partAt 97=1 from rfl];go_wp2_with fail;refine(Ay.af _ 97).mono ?_;rintro e w4 ⟨rfl,rfl⟩;simp only[show kN 97=0 from rfl,show jA 97=15 from rfl];go_wp2_with fail;refine(HW.af _).mono ?_;rintro e w5 ⟨rfl,rfl⟩;go_wp2;go_ret;exact⟨by rw[HE.af];rfl,HB2.af⟩
    have wu:Hid (iL f i 97=true):=aj (by rw[HP.af];simp[dQ];omega);have wB:Hid (∀c∈pI.take 1,iL f i c=true):=aj (by intro c hc;have h:=iy.af c;simp[pI]at h hc;rcases hc with rfl<;>simp_all [wu.af]);go_wp2_with fail;refine(qD.af w2 w.heap.size 97 abD abD).mono ?_;rintro e w3 ⟨rfl,rfl⟩;simp only[show partAt 97=1 from rfl];go_wp2_with fail;refine(Ay.af _ 97).mono ?_;rintro e w4 ⟨rfl,rfl⟩;simp only[show kN 97=0 from rfl,show jA 97=15 from rfl];go_wp2_with fail;refine(HW.af _).mono ?_;rintro e w5 ⟨rfl,rfl⟩;go_wp2;go_round;exact⟨1,by rfl,wP,wB.af⟩;simp[intOf]
  ·subst hk'
   obtain ⟨ix,hix⟩:=aiG (Lib.indexByte f (Int.toNat 98).toUInt8);have hneg:(ix<0)↔f.contains (98:UInt8)=false:=by rw[hix];exact zW f 98
   have HP:Hid (iL f i 98=dQ (f.contains 98) 0 15 i.b):=aj rfl;have SI:=aj hix;have HN:=aj hneg;clear hix hneg;have HW:Hid (∀w:World,Calls asq 103 #[ax f,.int .u8 98] w fun e w'=>e=.returned (ah ix)/\w'=w):=aj (fun w=>by rw[SI.af];exact wZ w f 98);generalize hin:f.contains (98:UInt8)=is at *;clear hin;obtain ⟨x,hx⟩:=aiG i.b;have Hx:=aj hx;rw[<-hx]at d2 HP;clear hx
   cases is with
   | false=>
    have hn:ix<0:=HN.af.2 rfl;by_cases h0:x=0
    ·have wu:Hid (iL f i 98=true):=aj (by rw[HP.af];simp[dQ,h0])
     have wB:Hid (∀c∈pI.take 2,iL f i c=true):=aj (by intro c hc;have h:=iy.af c;simp[pI]at h hc;rcases hc with rfl | rfl<;>simp_all [wu.af]);subst h0;go_wp2_with fail;refine(qD.af w2 w.heap.size 98 abD abD).mono ?_;rintro e w3 ⟨rfl,rfl⟩;simp only[show partAt 98=2 from rfl];go_wp2_with fail;refine(Ay.af _ 98).mono ?_;rintro e w4 ⟨rfl,rfl⟩;simp only[show kN 98=0 from rfl,show jA 98=15 from rfl];go_wp2_with fail;refine(HW.af _).mono ?_;rintro e w5 ⟨rfl,rfl⟩;go_wp2;go_round;exact⟨2,by rfl,wP,wB.af⟩;simp[intOf]
    ·have rV:Hid (iL f i 98=false):=aj (by rw[HP.af];simp[dQ,h0])
     have HE:Hid (iB i=40):=aj (by unfold iB;rw[HI.af,rV.af];simp);have hb0:(x != 0)=true:=by simp[h0]
     clear h0;go_wp2_with fail;refine(qD.af w2 w.heap.size 98 abD abD).mono ?_;rintro e w3 ⟨rfl,rfl⟩;simp only[show partAt 98=2 from rfl];go_wp2_with fail;refine(Ay.af _ 98).mono ?_;rintro e w4 ⟨rfl,rfl⟩;simp only[show kN 98=0 from rfl,show jA 98=15 from rfl];go_wp2_with fail;refine(HW.af _).mono ?_;rintro e w5 ⟨rfl,rfl⟩;go_wp2;go_ret;exact⟨by rw[HE.af];rfl,HB2.af⟩
   | true=>
    have hn:¬ix<0:=fun h=>by have:=HN.af.1 h;cases this
    by_cases h1:x<0
    ·have rV:Hid (iL f i 98=false):=aj (by rw[HP.af];simp[dQ];omega)
     have HE:Hid (iB i=40):=aj (by unfold iB;rw[HI.af,rV.af];simp);go_wp2_with fail;refine(qD.af w2 w.heap.size 98 abD abD).mono ?_;rintro e w3 ⟨rfl,rfl⟩;simp only[show partAt 98=2 from rfl];go_wp2_with fail;refine(Ay.af _ 98).mono ?_;rintro e w4 ⟨rfl,rfl⟩;simp only[show kN 98=0 from rfl,show jA 98=15 from rfl];go_wp2_with fail;refine(HW.af _).mono ?_;rintro e w5 ⟨rfl,rfl⟩;go_wp2;go_ret;exact⟨by rw[HE.af];rfl,HB2.af⟩
    by_cases h2:15<x
    ·have rV:Hid (iL f i 98=false):=aj (by rw[HP.af];simp[dQ];omega)
     have HE:Hid (iB i=40):=aj (by unfold iB;rw[HI.af,rV.af];simp);go_wp2_with fail;refine(qD.af w2 w.heap.size 98 abD abD).mono ?_;rintro e w3 ⟨rfl,rfl⟩;simp only[show partAt 98=2 from rfl];go_wp2_with fail;refine(Ay.af _ 98).mono ?_;rintro e w4 ⟨rfl,rfl⟩;simp only[show kN 98=0 from rfl,show jA 98=15 from rfl];go_wp2_with fail;refine(HW.af _).mono ?_;rintro e w5 ⟨rfl,rfl⟩;go_wp2;go_ret;exact⟨by rw[HE.af];rfl,HB2.af⟩
    have wu:Hid (iL f i 98=true):=aj (by rw[HP.af];simp[dQ];omega);have wB:Hid (∀c∈pI.take 2,iL f i c=true):=aj (by intro c hc;have h:=iy.af c;simp[pI]at h hc;rcases hc with rfl | rfl<;>simp_all [wu.af]);go_wp2_with fail;refine(qD.af w2 w.heap.size 98 abD abD).mono ?_;rintro e w3 ⟨rfl,rfl⟩;simp only[show partAt 98=2 from rfl];go_wp2_with fail;refine(Ay.af _ 98).mono ?_;rintro e w4 ⟨rfl,rfl⟩;simp only[show kN 98=0 from rfl,show jA 98=15 from rfl];go_wp2_with fail;refine(HW.af _).mono ?_;rintro e w5 ⟨rfl,rfl⟩;go_wp2;go_round;exact⟨2,by rfl,wP,wB.af⟩;simp[intOf]
  ·subst hk'
   obtain ⟨ix,hix⟩:=aiG (Lib.indexByte f (Int.toNat 99).toUInt8);have hneg:(ix<0)↔f.contains (99:UInt8)=false:=by rw[hix];exact zW f 99
   have HP:Hid (iL f i 99=dQ (f.contains 99) 0 15 i.c):=aj rfl;have SI:=aj hix;have HN:=aj hneg;clear hix hneg;have HW:Hid (∀w:World,Calls asq 103 #[ax f,.int .u8 99] w fun e w'=>e=.returned (ah ix)/\w'=w):=aj (fun w=>by rw[SI.af];exact wZ w f 99);generalize hin:f.contains (99:UInt8)=is at *;clear hin;obtain ⟨x,hx⟩:=aiG i.c;have Hx:=aj hx;rw[<-hx]at d3 HP;clear hx
   cases is with
   | false=>
    have hn:ix<0:=HN.af.2 rfl;by_cases h0:x=0
    ·have wu:Hid (iL f i 99=true):=aj (by rw[HP.af];simp[dQ,h0])
     have wB:Hid (∀c∈pI.take 3,iL f i c=true):=aj (by intro c hc;have h:=iy.af c;simp[pI]at h hc;rcases hc with rfl | rfl | rfl<;>simp_all [wu.af]);subst h0;go_wp2_with fail;refine(qD.af w2 w.heap.size 99 abD abD).mono ?_;rintro e w3 ⟨rfl,rfl⟩;simp only[show partAt 99=3 from rfl];go_wp2_with fail;refine(Ay.af _ 99).mono ?_;rintro e w4 ⟨rfl,rfl⟩;simp only[show kN 99=0 from rfl,show jA 99=15 from rfl];go_wp2_with fail;refine(HW.af _).mono ?_;rintro e w5 ⟨rfl,rfl⟩;go_wp2;go_round;exact⟨3,by rfl,wP,wB.af⟩;simp[intOf]
    ·have rV:Hid (iL f i 99=false):=aj (by rw[HP.af];simp[dQ,h0])
     have HE:Hid (iB i=40):=aj (by unfold iB;rw[HI.af,rV.af];simp);have hb0:(x != 0)=true:=by simp[h0]
     clear h0;go_wp2_with fail;refine(qD.af w2 w.heap.size 99 abD abD).mono ?_;rintro e w3 ⟨rfl,rfl⟩;simp only[show partAt 99=3 from rfl];go_wp2_with fail;refine(Ay.af _ 99).mono ?_;rintro e w4 ⟨rfl,rfl⟩;simp only[show kN 99=0 from rfl,show jA 99=15 from rfl];go_wp2_with fail;refine(HW.af _).mono ?_;rintro e w5 ⟨rfl,rfl⟩;go_wp2;go_ret;exact⟨by rw[HE.af];rfl,HB2.af⟩
   | true=>
    have hn:¬ix<0:=fun h=>by have:=HN.af.1 h;cases this
    by_cases h1:x<0
    ·have rV:Hid (iL f i 99=false):=aj (by rw[HP.af];simp[dQ];omega)
     have HE:Hid (iB i=40):=aj (by unfold iB;rw[HI.af,rV.af];simp);go_wp2_with fail;refine(qD.af w2 w.heap.size 99 abD abD).mono ?_;rintro e w3 ⟨rfl,rfl⟩;simp only[show partAt 99=3 from rfl];go_wp2_with fail;refine(Ay.af _ 99).mono ?_;rintro e w4 ⟨rfl,rfl⟩;simp only[show kN 99=0 from rfl,show jA 99=15 from rfl];go_wp2_with fail;refine(HW.af _).mono ?_;rintro e w5 ⟨rfl,rfl⟩;go_wp2;go_ret;exact⟨by rw[HE.af];rfl,HB2.af⟩
    by_cases h2:15<x
    ·have rV:Hid (iL f i 99=false):=aj (by rw[HP.af];simp[dQ];omega)
     have HE:Hid (iB i=40):=aj (by unfold iB;rw[HI.af,rV.af];simp);go_wp2_with fail;refine(qD.af w2 w.heap.size 99 abD abD).mono ?_;rintro e w3 ⟨rfl,rfl⟩;simp only[show partAt 99=3 from rfl];go_wp2_with fail;refine(Ay.af _ 99).mono ?_;rintro e w4 ⟨rfl,rfl⟩;simp only[show kN 99=0 from rfl,show jA 99=15 from rfl];go_wp2_with fail;refine(HW.af _).mono ?_;rintro e w5 ⟨rfl,rfl⟩;go_wp2;go_ret;exact⟨by rw[HE.af];rfl,HB2.af⟩
    have wu:Hid (iL f i 99=true):=aj (by rw[HP.af];simp[dQ];omega);have wB:Hid (∀c∈pI.take 3,iL f i c=true):=aj (by intro c hc;have h:=iy.af c;simp[pI]at h hc;rcases hc with rfl | rfl | rfl<;>simp_all [wu.af]);go_wp2_with fail;refine(qD.af w2 w.heap.size 99 abD abD).mono ?_;rintro e w3 ⟨rfl,rfl⟩;simp only[show partAt 99=3 from rfl];go_wp2_with fail;refine(Ay.af _ 99).mono ?_;rintro e w4 ⟨rfl,rfl⟩;simp only[show kN 99=0 from rfl,show jA 99=15 from rfl];go_wp2_with fail;refine(HW.af _).mono ?_;rintro e w5 ⟨rfl,rfl⟩;go_wp2;go_round;exact⟨3,by rfl,wP,wB.af⟩;simp[intOf]
  ·subst hk'
   obtain ⟨ix,hix⟩:=aiG (Lib.indexByte f (Int.toNat 110).toUInt8);have hneg:(ix<0)↔f.contains (110:UInt8)=false:=by rw[hix];exact zW f 110
   have HP:Hid (iL f i 110=dQ (f.contains 110) (-2147483648) 2147483647 i.bU):=aj rfl;have SI:=aj hix;have HN:=aj hneg;clear hix hneg;have HW:Hid (∀w:World,Calls asq 103 #[ax f,.int .u8 110] w fun e w'=>e=.returned (ah ix)/\w'=w):=aj (fun w=>by rw[SI.af];exact wZ w f 110);generalize hin:f.contains (110:UInt8)=is at *;clear hin;obtain ⟨x,hx⟩:=aiG i.bU;have Hx:=aj hx;rw[<-hx]at d4 HP;clear hx
   cases is with
   | false=>
    have hn:ix<0:=HN.af.2 rfl;by_cases h0:x=0
    ·have wu:Hid (iL f i 110=true):=aj (by rw[HP.af];simp[dQ,h0])
     have wB:Hid (∀c∈pI.take 4,iL f i c=true):=aj (by intro c hc;have h:=iy.af c;simp[pI]at h hc;rcases hc with rfl | rfl | rfl | rfl<;>simp_all [wu.af]);subst h0;go_wp2_with fail;refine(qD.af w2 w.heap.size 110 abD abD).mono ?_;rintro e w3 ⟨rfl,rfl⟩;simp only[show partAt 110=4 from rfl];go_wp2_with fail;refine(Ay.af _ 110).mono ?_;rintro e w4 ⟨rfl,rfl⟩;simp only[show kN 110=(-2147483648)from rfl,show jA 110=2147483647 from rfl];go_wp2_with fail;refine(HW.af _).mono ?_;rintro e w5 ⟨rfl,rfl⟩;go_wp2;go_round;exact⟨4,by rfl,wP,wB.af⟩;simp[intOf]
    ·have rV:Hid (iL f i 110=false):=aj (by rw[HP.af];simp[dQ,h0])
     have HE:Hid (iB i=40):=aj (by unfold iB;rw[HI.af,rV.af];simp);have hb0:(x != 0)=true:=by simp[h0]
     clear h0;go_wp2_with fail;refine(qD.af w2 w.heap.size 110 abD abD).mono ?_;rintro e w3 ⟨rfl,rfl⟩;simp only[show partAt 110=4 from rfl];go_wp2_with fail;refine(Ay.af _ 110).mono ?_;rintro e w4 ⟨rfl,rfl⟩;simp only[show kN 110=(-2147483648)from rfl,show jA 110=2147483647 from rfl];go_wp2_with fail;refine(HW.af _).mono ?_;rintro e w5 ⟨rfl,rfl⟩;go_wp2;go_ret;exact⟨by rw[HE.af];rfl,HB2.af⟩
   | true=>
    have hn:¬ix<0:=fun h=>by have:=HN.af.1 h;cases this
    by_cases h1:x<(-2147483648)
    ·have rV:Hid (iL f i 110=false):=aj (by rw[HP.af];simp[dQ];omega)
     have HE:Hid (iB i=40):=aj (by unfold iB;rw[HI.af,rV.af];simp);go_wp2_with fail;refine(qD.af w2 w.heap.size 110 abD abD).mono ?_;rintro e w3 ⟨rfl,rfl⟩;simp only[show partAt 110=4 from rfl];go_wp2_with fail;refine(Ay.af _ 110).mono ?_;rintro e w4 ⟨rfl,rfl⟩;simp only[show kN 110=(-2147483648)from rfl,show jA 110=2147483647 from rfl];go_wp2_with fail;refine(HW.af _).mono ?_;rintro e w5 ⟨rfl,rfl⟩;go_wp2;go_ret;exact⟨by rw[HE.af];rfl,HB2.af⟩
    by_cases h2:2147483647<x
    ·have rV:Hid (iL f i 110=false):=aj (by rw[HP.af];simp[dQ];omega)
     have HE:Hid (iB i=40):=aj (by unfold iB;rw[HI.af,rV.af];simp);go_wp2_with fail;refine(qD.af w2 w.heap.size 110 abD abD).mono ?_;rintro e w3 ⟨rfl,rfl⟩;simp only[show partAt 110=4 from rfl];go_wp2_with fail;refine(Ay.af _ 110).mono ?_;rintro e w4 ⟨rfl,rfl⟩;simp only[show kN 110=(-2147483648)from rfl,show jA 110=2147483647 from rfl];go_wp2_with fail;refine(HW.af _).mono ?_;rintro e w5 ⟨rfl,rfl⟩;go_wp2;go_ret;exact⟨by rw[HE.af];rfl,HB2.af⟩
    have wu:Hid (iL f i 110=true):=aj (by rw[HP.af];simp[dQ];omega);have wB:Hid (∀c∈pI.take 4,iL f i c=true):=aj (by intro c hc;have h:=iy.af c;simp[pI]at h hc;rcases hc with rfl | rfl | rfl | rfl<;>simp_all [wu.af]);go_wp2_with fail;refine(qD.af w2 w.heap.size 110 abD abD).mono ?_;rintro e w3 ⟨rfl,rfl⟩;simp only[show partAt 110=4 from rfl];go_wp2_with fail;refine(Ay.af _ 110).mono ?_;rintro e w4 ⟨rfl,rfl⟩;simp only[show kN 110=(-2147483648)from rfl,show jA 110=2147483647 from rfl];go_wp2_with fail;refine(HW.af _).mono ?_;rintro e w5 ⟨rfl,rfl⟩;go_wp2;go_round;exact⟨4,by rfl,wP,wB.af⟩;simp[intOf]
 ·have HE:Hid (iB i=0):=aj (by
   have h:=iy.af;rw[List.take_of_length_le (by simp[pI];omega)]at h;unfold iB;rw[HI.af,h 97 abD,h 98 abD,h 99 abD,h 110 abD];rfl)
  go_wp2;go_ret;exact⟨by rw[HE.af];rfl,HB2.af⟩
end Go.Proofs.YtpjgjeadjjackaaGreat
