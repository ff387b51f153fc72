/- Lemmas. -/
import Derived.Test.YtpjgjeadjjackaaGreatBui10
import Derived.Test.YtpjgjeadjjackaaGreatBui9
import Derived.Test.YtpjgjeadjjackaaGreatBui3
import Derived.Deep.DeepCutAuto
import Derived.Laws.Tables
import Derived.Laws.ResultCell
import Derived.WalkSpells
set_option linter.unusedVariables false
set_option linter.unusedSimpArgs false
set_option maxHeartbeats 64000000
set_option maxRecDepth 100000
namespace Go.Proofs.YtpjgjeadjjackaaGreat
open Go.RowKit
open Go.Proofs.Tryz renaming prog->asq
open Go renaming heap_alloc_new->ah2,heap_alloc_old->dX,wpList_store_row->Bv,setRow_heap->TL,bodyPost_ret->qE,wpAnyH_done->E5,wpAny_of_held->P8,setRow_other->cu
open Go.Lib renaming cell_of_heap->aV,frozen_of_heap->vV
open Go.RowKit.Below renaming refl->PZ
open Go.World renaming cell?_of_block->Tg
open _root_.List renaming mem_cons->Y1,mem_singleton->tY,mem_of_getElem?->dH,length_nil->aR,mem_append->D5
open _root_.Nat renaming le_refl->oD,lt_of_lt_of_le->akb,le_of_not_lt->J8,le_trans->eG,zero_le->alg
open _root_.Or renaming inr->aZ,inl->aH
variable {a:Act}{w w5:World}{s:aM}{sv:bN}{p:aA}{v:bG}{own:Int}{fv vv:Value}{L0 lb ib:Nat}
def acL (f:Func):Code:=f.body.getD .skip
def FB:Nat->Code->Code
 | 0,c=>c
 | n+1,.seq _ b=>FB n b
 | _+1,c=>c
def ajf:Code->Code
 | .seq a _=>a
 | c=>c
def bL (f:Func) (n:Nat):Code:=FB n (acL f)
def cZ (f:Func) (n:Nat):Code:=ajf (bL f n)
def ajg (t:Array Value):List (Nat × Value)->Prop
 | []=>True
 | p :: l=>t.getD p.1 undef=p.2/\ajg t l
def z7F:Nat->(List Value->Prop)->Prop
 | 0,p=>p []
 | n+1,p=>∀v,z7F n (fun l=>p (v::l))
theorem z7F.go:∀{n:Nat} {p:List Value->Prop},z7F n p->∀l:List Value,l.length=n->p l
 | 0,_,h,[],_=>h
 | _+1,_,h,x::t,e=>z7F.go (h x) t (Nat.succ.inj e)
def z7O (n:Nat) (xs:List (Nat × Value)) (a:Act):Prop:=a.tmps.size=n/\a.defers=[]/\ajg a.tmps xs
theorem z7O.elim {n:Nat} {xs:List (Nat × Value)} {C:Act->Prop} (h:z7O n xs a) (k:z7F n (fun l=>z7O n xs ⟨l.toArray,[]⟩->C ⟨l.toArray,[]⟩)):C a:=by
 obtain⟨⟨l⟩,d⟩:=a;obtain⟨h1,h2,h3⟩:=h;dsimp only at h2;subst h2;exact z7F.go k l h1 ⟨h1,rfl,h3⟩
abbrev oP:=z7O 247
theorem fV (f:Func) (n:Nat) (h:(match bL f n with | .seq _ _=>true | _=>false)=true):bL f n=.seq (cZ f n) (bL f (n+1)):=by
 have hb:∀n c,FB (n+1) c=FB 1 (FB n c):=by
  intro n
  induction n with
  | zero=>intro c;rfl
  | succ n ih=>
   intro c
   cases c with
   | seq a b=>exact ih b
   | _=>rfl
 unfold cZ;unfold bL at h ⊢;rw[hb n];generalize FB n (acL f)=c at h ⊢
 cases c with
 | seq a b=>rfl
 | _=>cases h
def MS:jv:=⟨au,au,au,au,au,au,au,au,au,au,au⟩
theorem IL (S:Nat->Prop) (w:World):su S w MS eY where
 arT:=alg _
 ar4:=⟨abD,abD⟩
 aI:=xA.nil _ _ _ _
 xX:=fun s hs=>(by cases hs)
 ar6:=xA.nil _ _ _ _
 aF:=xA.nil _ _ _ _
 av:=xA.nil _ _ _ _
 ar9:=LB.nil _ _ _
 wF:=fun s hs=>(by cases hs)
 ar8:=LB.nil _ _ _
 xx:=fun s hs=>(by cases hs)
 ase:=⟨abD,abD⟩
 aO:=LB.nil _ _ _
 kU:=fun s hs=>(by cases hs)
 asf:=LB.nil _ _ _
 yK:=fun s hs=>(by cases hs)
 asb:=LB.nil _ _ _
 BH:=fun s hs=>(by cases hs)
 aP:=LB.nil _ _ _
 BI:=fun s hs=>(by cases hs)
 bf:=xA.nil _ _ _ _
 aJ:=⟨abD,abD⟩
def gN (w:World) (s:aM) (e:Ending) (w':World):Prop:=
 ∃iv,e=.returned (.tuple #[.agg (aW iv (gD s).1),ah (gD s).2])/\Below w w w'/\su (fun b=>w.heap.size<=b/\b<w') w' iv (gD s).1
theorem rC {w':World} {e:Int} (h:gD s=(eY,e)) (hb:Below w w w'):gN w s (.returned (.tuple #[.agg arJ,ah e])) w':=
 ⟨MS,by rw[h];rfl,hb,by rw[h];exact IL _ _⟩
structure pu (s:aM):Prop where
 ar2:s.ar2.length<=2000
 vars:s.vars.length<=2000
 ar5:s.ar5.length<=2000
 ar8:(s.vars.flatMap (·.ar8)).length<=2000
 ash:(s.vars.flatMap (·.ash)).length<=2000
 asb:s.asb.length<=2000
 aP:s.aP.length<=2000
 run:s.aF.length*16<=140737488355328
 need:s.ar6.length*40<=140737488355328
 ajh:∀n∈s.ar6,n.asi.length*16<=140737488355328
structure Chk (w:World) (sv:bN) (s:aM) (w5:World) (own:Int) (v:bG):Prop where
 plan:bB w.heap.size (w.heap.size+2) w5 sv s own v (aC s)
 spec:gB (·<w.heap.size) w sv s
 low:Below w w w5
 sx:w5.heap[w.heap.size]? =some (aB #[ax s.arT,ah s.ar4,sv.ar6,sv.aF,sv.ar2,sv.vars,sv.ar1,sv.asb,sv.aP] 28)
 rx:w5.heap[w.heap.size+1]? =some (aB arJ 44)
 kx:Kept (w.heap.size+2) v w5 w.heap.size
 kr:Kept (w.heap.size+2) v w5 (w.heap.size+1)
 lens:s.ar2.length<=512/\s.vars.length<=512
 asj:(aC s).asj=0
theorem bt1 (hF:oP [(0,.agg #[ax s.arT,ah s.ar4,sv.ar6,sv.aF,sv.ar2,sv.vars,sv.ar1,sv.asb,sv.aP])] a) (hS:gB (·<w.heap.size) w sv s) (bT:pu s)
  (hK:∀a' w5 own v,oP [(1,aQ w),(2,aQ (w+1)),(3,ah 0),(4,aQ (w+2))] a'->Chk w sv s w5 own v->(bL Tryz.f6 5).wp asq (bodyPost asq Tryz.f6 (gN w s)) a' w5):(bL Tryz.f6 0).wp asq (bodyPost asq Tryz.f6 (gN w s)) a w:=by
 have HK:=aj hK;have xV:=aj hS;have Cc:=aj bT;obtain⟨fa,fc,lZ⟩:=hS.ar2.form;obtain⟨va,vc,hvf⟩:=hS.vars.form;have Oo:=aj lZ;have Hvf:=aj hvf;have hfl:=hS.ar2.max;have hvl:=hS.vars.max;have eT:=aj (ah2 w (aB #[ax s.arT,ah s.ar4,sv.ar6,sv.aF,sv.ar2,sv.vars,sv.ar1,sv.asb,sv.aP] 28));have gI:=aj ((dX (w.alloc (aB #[ax s.arT,ah s.ar4,sv.ar6,sv.aF,sv.ar2,sv.vars,sv.ar1,sv.asb,sv.aP] 28)) (aB arJ 44) (r:=w.heap.size) arG).trans eT.af)
 have HR2:Hid (((w.alloc (aB #[ax s.arT,ah s.ar4,sv.ar6,sv.aF,sv.ar2,sv.vars,sv.ar1,sv.asb,sv.aP] 28)).alloc (aB arJ 44)).heap[w.heap.size+1]? =some (aB arJ 44)):=aj (by
  have h:=ah2 (w.alloc (aB #[ax s.arT,ah s.ar4,sv.ar6,sv.aF,sv.ar2,sv.vars,sv.ar1,sv.asb,sv.aP] 28)) (aB arJ 44)
  rwa [World.size_alloc]at h)
 have HB2:=aj (((PZ w.heap.size w).alloc (oD _) (aB #[ax s.arT,ah s.ar4,sv.ar6,sv.aF,sv.ar2,sv.vars,sv.ar1,sv.asb,sv.aP] 28)).alloc arG (aB arJ 44));have hz2:((w.alloc (aB #[ax s.arT,ah s.ar4,sv.ar6,sv.aF,sv.ar2,sv.vars,sv.ar1,sv.asb,sv.aP] 28)).alloc (aB arJ 44)).heap.size=w.heap.size+2:=arG;have vO:=aj hz2;clear hS lZ hvf hK bT hz2;have e0:bL Tryz.f6 0=.seq (cZ Tryz.f6 0) (bL Tryz.f6 1):=fV _ 0 TA;have e1:bL Tryz.f6 1=.seq (cZ Tryz.f6 1) (bL Tryz.f6 2):=fV _ 1 TA;have e2:bL Tryz.f6 2=.seq (cZ Tryz.f6 2) (bL Tryz.f6 3):=fV _ 2 TA;have e3:bL Tryz.f6 3=.seq (cZ Tryz.f6 3) (bL Tryz.f6 4):=fV _ 3 TA;have e4:bL Tryz.f6 4=.seq (cZ Tryz.f6 4) (bL Tryz.f6 5):=fV _ 4 TA;rw[e0,e1,e2,e3,e4];clear e0 e1 e2 e3 e4;apply z7O.elim hF;clear hF;intro V0
 iterate 246 (intro _)
 intro hF;obtain⟨-,-,e0,-⟩:=hF;replace e0:V0=.agg #[ax s.arT,ah s.ar4,sv.ar6,sv.aF,sv.ar2,sv.vars,sv.ar1,sv.asb,sv.aP]:=e0;subst e0
 conv in cZ _ 0=>whnf
 conv in cZ _ 1=>whnf
 conv in cZ _ 2=>whnf
 conv in cZ _ 3=>whnf
 conv in cZ _ 4=>whnf
 go_upto_region 1 with fail
 have c0:((w.alloc (aB #[ax s.arT,ah s.ar4,sv.ar6,sv.aF,sv.ar2,sv.vars,sv.ar1,sv.asb,sv.aP] 28)).alloc (aB arJ 44)).cell? (ak w 0)=some (ax s.arT):=aL gI.af rfl;have c1:((w.alloc (aB #[ax s.arT,ah s.ar4,sv.ar6,sv.aF,sv.ar2,sv.vars,sv.ar1,sv.asb,sv.aP] 28)).alloc (aB arJ 44)).cell? (ak w 1)=some (ah s.ar4):=aL gI.af rfl;have c2:((w.alloc (aB #[ax s.arT,ah s.ar4,sv.ar6,sv.aF,sv.ar2,sv.vars,sv.ar1,sv.asb,sv.aP] 28)).alloc (aB arJ 44)).cell? (ak w 2)=some sv.ar6:=aL gI.af rfl;have c3:((w.alloc (aB #[ax s.arT,ah s.ar4,sv.ar6,sv.aF,sv.ar2,sv.vars,sv.ar1,sv.asb,sv.aP] 28)).alloc (aB arJ 44)).cell? (ak w 3)=some sv.aF:=aL gI.af rfl;have c4:((w.alloc (aB #[ax s.arT,ah s.ar4,sv.ar6,sv.aF,sv.ar2,sv.vars,sv.ar1,sv.asb,sv.aP] 28)).alloc (aB arJ 44)).cell? (ak w 4)=some sv.ar2:=aL gI.af rfl;have c5:((w.alloc (aB #[ax s.arT,ah s.ar4,sv.ar6,sv.aF,sv.ar2,sv.vars,sv.ar1,sv.asb,sv.aP] 28)).alloc (aB arJ 44)).cell? (ak w 5)=some sv.vars:=aL gI.af rfl;have c6:((w.alloc (aB #[ax s.arT,ah s.ar4,sv.ar6,sv.aF,sv.ar2,sv.vars,sv.ar1,sv.asb,sv.aP] 28)).alloc (aB arJ 44)).cell? (ak w 6)=some sv.ar1:=aL gI.af rfl;have c7:((w.alloc (aB #[ax s.arT,ah s.ar4,sv.ar6,sv.aF,sv.ar2,sv.vars,sv.ar1,sv.asb,sv.aP] 28)).alloc (aB arJ 44)).cell? (ak w 7)=some sv.asb:=aL gI.af rfl;have c8:((w.alloc (aB #[ax s.arT,ah s.ar4,sv.ar6,sv.aF,sv.ar2,sv.vars,sv.ar1,sv.asb,sv.aP] 28)).alloc (aB arJ 44)).cell? (ak w 8)=some sv.aP:=aL gI.af rfl;generalize (w.alloc (aB #[ax s.arT,ah s.ar4,sv.ar6,sv.aF,sv.ar2,sv.vars,sv.ar1,sv.asb,sv.aP] 28)).alloc (aB arJ 44)=w2 at *;obtain ⟨xb,hxb⟩:=aiG w.heap.size;have lF:=aj ((dX w2 (aB #[ax s.arT,ah s.ar4,sv.ar6,sv.aF,sv.ar2,sv.vars,sv.ar1,sv.asb,sv.aP,au,ah 0,au,au,ah 0] 75) (r:=w.heap.size) (by have:=vO.af;omega)).trans gI.af);have HR3:=aj ((dX w2 (aB #[ax s.arT,ah s.ar4,sv.ar6,sv.aF,sv.ar2,sv.vars,sv.ar1,sv.asb,sv.aP,au,ah 0,au,au,ah 0] 75) (r:=w.heap.size+1) (by have:=vO.af;omega)).trans HR2.af)
 have HP3:Hid ((w2.alloc (aB #[ax s.arT,ah s.ar4,sv.ar6,sv.aF,sv.ar2,sv.vars,sv.ar1,sv.asb,sv.aP,au,ah 0,au,au,ah 0] 75)).heap[w.heap.size+2]? =some (aB #[ax s.arT,ah s.ar4,sv.ar6,sv.aF,sv.ar2,sv.vars,sv.ar1,sv.asb,sv.aP,au,ah 0,au,au,ah 0] 75)):=aj (by
  have h:=ah2 w2 (aB #[ax s.arT,ah s.ar4,sv.ar6,sv.aF,sv.ar2,sv.vars,sv.ar1,sv.asb,sv.aP,au,ah 0,au,au,ah 0] 75)
  rwa [vO.af]at h)
 have HB3:=aj (HB2.af.alloc (by have:=vO.af;omega) (aB #[ax s.arT,ah s.ar4,sv.ar6,sv.aF,sv.ar2,sv.vars,sv.ar1,sv.asb,sv.aP,au,ah 0,au,au,ah 0] 75));have uY:Hid (bB w.heap.size (w.heap.size+2) (w2.alloc (aB #[ax s.arT,ah s.ar4,sv.ar6,sv.aF,sv.ar2,sv.vars,sv.ar1,sv.asb,sv.aP,au,ah 0,au,au,ah 0] 75)) sv s 0 ⟨au,au,au⟩ ⟨[],[],[],0⟩):=aj ⟨HP3.af,wP,aX.nil _ _ _ _ _,aX.nil _ _ _ _ _,aX.nil _ _ _ _ _⟩;have hz3:(w2.alloc (aB #[ax s.arT,ah s.ar4,sv.ar6,sv.aF,sv.ar2,sv.vars,sv.ar1,sv.asb,sv.aP,au,ah 0,au,au,ah 0] 75)).heap.size=w2.heap.size+1:=arG;have Wi:Hid ((w2.alloc (aB #[ax s.arT,ah s.ar4,sv.ar6,sv.aF,sv.ar2,sv.vars,sv.ar1,sv.asb,sv.aP,au,ah 0,au,au,ah 0] 75)).heap.size=w.heap.size+3):=aj (by rw[hz3,vO.af])
 have hno:∀b,¬(⟨au,au,au⟩:bG).has b:=fun b h=>by
  rcases h with h | h | h<;>simp[Value.ownBlock]at h
 have HKx:Hid (Kept (w.heap.size+2) ⟨au,au,au⟩ (w2.alloc (aB #[ax s.arT,ah s.ar4,sv.ar6,sv.aF,sv.ar2,sv.vars,sv.ar1,sv.asb,sv.aP,au,ah 0,au,au,ah 0] 75)) w.heap.size):=aj ⟨by rw[Wi.af];omega,wP,hno _⟩;have HKr:Hid (Kept (w.heap.size+2) ⟨au,au,au⟩ (w2.alloc (aB #[ax s.arT,ah s.ar4,sv.ar6,sv.aF,sv.ar2,sv.vars,sv.ar1,sv.asb,sv.aP,au,ah 0,au,au,ah 0] 75)) (w.heap.size+1)):=aj ⟨by rw[Wi.af];omega,wP,hno _⟩;clear hz3 hno hxb;have hpb:w2.heap.size=w.heap.size+2:=vO.af;go_upto_region 2 with fail
 clear c0 c1 c2 c3 c4 c5 c6 c7 c8 hpb;generalize w2.alloc (aB #[ax s.arT,ah s.ar4,sv.ar6,sv.aF,sv.ar2,sv.vars,sv.ar1,sv.asb,sv.aP,au,ah 0,au,au,ah 0] 75)=w3 at *;have c4:w3.cell? (ak w 4)=some (.slice fa s.ar2.length fc):=by rw[aV lF.af,<-Oo.af];rfl
 have c5:w3.cell? (ak w 5)=some (.slice va s.vars.length vc):=by rw[aV lF.af,<-Hvf.af];rfl
 by_cases hb:512<s.ar2.length∨512<s.vars.length
 ·have HE:Hid (gD s=(eY,104)):=aj (by unfold gD;rw[if_pos hb])
  by_cases h1:512<s.ar2.length
  ·have h1':(512:Int)<(s.ar2.length:Int):=wP
   clear hb;go_wp2_with (refine Bv rfl 44 (.tmp 2) (.tmp 30) rfl (w.heap.size+1) #[aK,.int .i64 0,au,au,au,au,au,au,.int .i64 0,au,au,au,au,au,.int .i64 0] rfl rfl _ _ HR3.af TA rfl (by simp[Value.oneCell']) ?_);go_wp2_with fail;have FR:=aj (TL _ (w.heap.size+1) _ arJ _ _ HR3.af);refine qE (fT rfl _ _ (w.heap.size+1) _ _ _ _ rfl FR.af Tryz.underlying44 rfl TA) rfl ?_;exact rC HE.af (below_setRow HB3.af _ _ wP)
  ·have h1':¬(512:Int)<(s.ar2.length:Int):=wP
   have h2':(512:Int)<(s.vars.length:Int):=wP;clear hb;go_wp2_with (refine Bv rfl 44 (.tmp 2) (.tmp 30) rfl (w.heap.size+1) #[aK,.int .i64 0,au,au,au,au,au,au,.int .i64 0,au,au,au,au,au,.int .i64 0] rfl rfl _ _ HR3.af TA rfl (by simp[Value.oneCell']) ?_);go_wp2_with fail;have FR:=aj (TL _ (w.heap.size+1) _ arJ _ _ HR3.af);refine qE (fT rfl _ _ (w.heap.size+1) _ _ _ _ rfl FR.af Tryz.underlying44 rfl TA) rfl ?_;exact rC HE.af (below_setRow HB3.af _ _ wP)
 ·have h1':¬(512:Int)<(s.ar2.length:Int):=wP
  have h2':¬(512:Int)<(s.vars.length:Int):=wP;have Hb:=aj hb;clear hb;have HC:=aj (ag7 uY.af (xV.af.asa (.of_below HB3.af)) (by rw[Wi.af];omega) Cc.af.ar2 Cc.af.vars Cc.af.ar5 Cc.af.ash);go_wp2_with fail;refine HC.af.mono ?_;rintro e w5 ⟨own,v,rfl,rX,hs5⟩;have qo:=aj rX;have uZ:=aj hs5;have kF:=aj ((hs5.block HKx.af).trans lF.af);have zM:=aj ((hs5.block HKr.af).trans HR3.af);have mQ:=aj (HB3.af.trans (hs5.low uY.af (by rw[Wi.af];omega)));have apm:=aj (hs5.kept HKx.af);have apn:=aj (hs5.kept HKr.af);have c13:=rX.c13;clear rX hs5 c4 c5;by_cases hf:(aC s).asj=0
  ·have hfb:((aC s).asj != 0)=false:=by simp[hf]
   have Hf:=aj hf;clear hf;go_wp2_with fail;exact HK.af _ w5 own v ⟨TA,rfl,TA,TA,TA,TA,trivial⟩ ⟨qo.af,xV.af,mQ.af,kF.af,zM.af,apm.af,apn.af,by have:=Hb.af;omega,Hf.af⟩
  ·have hfb:((aC s).asj != 0)=true:=by simp[hf]
   have HE:Hid (gD s=(eY,(aC s).asj)):=aj (by unfold gD;rw[if_neg Hb.af,if_pos hf]);generalize (aC s).asj=ft at *;clear hf;have fr0:=zM.af;go_upto_region 6 with fail
   refine bA 6 TA TA ?_;simp only[ji];refine P8 (S:=fun w':World=>w'.cell? (ak (w+2) 13)=some (ah ft)) _ _ _ _ ?_;have ay:(fun w':World=>w'.cell? (ak (w+2) 13)=some (ah ft)) (World.drew w5):=(c13);refine asr ?_;have HRd:Hid ((World.drew w5).heap[w.heap.size+1]? =some (aB arJ 44)):=aj zM.af;have qU:=aj (mQ.af.drew);clear c13 fr0;generalize (World.drew w5)=wd at HRd qU ay ⊢;refine arS 0 ay ?_;simp only[bV];refine arS 1 ay ?_;simp only[bV];refine arS 2 ay ?_;simp only[bV];refine arS 3 ay ?_;simp only[bV];refine arS 4 ay ?_;simp only[bV];refine cO 5 fun K hK=> ?_
   refine wp_store_row 44 (.tmp 2) (.tmp 38) rfl (w.heap.size+1) #[aK,.int .i64 0,au,au,au,au,au,au,.int .i64 0,au,au,au,au,au,.int .i64 0] rfl rfl _ _ HRd.af TA rfl (by simp[Value.oneCell']) ?_;refine hK.af _ _ ((Tg (cu _ (w.heap.size+1) (w.heap.size+2) _ wP)).trans ay) (fun ay=> ?_);clear hK K;try simp only[bV]
   refine E5 TA ?_ _;simp only[dU];clear ay;go_wp2_with fail;have FR:=aj (TL _ (w.heap.size+1) _ arJ _ _ HRd.af);refine qE (fT rfl _ _ (w.heap.size+1) _ _ _ _ rfl FR.af Tryz.underlying44 rfl TA) rfl ?_;exact rC HE.af (below_setRow qU.af _ _ wP)
theorem ak7:RowK lG (fun x=>[ax x]) (fun x=>x.length<=9223372036854775807):=⟨fun h=>h,fun _ _ _ h=>⟨rfl,h⟩,fun _=>rfl,abD,fun x u hu=>by
 rcases tY.1 hu with rfl;rfl⟩
theorem MU:pE lG:=fun _ _ _ _ _ _ h=>h
theorem ahH:(Tryz.prog.info? 9).map (fun i=>(i.zero,i.size,i.bytes))=some (some (aK),1,16):=TA
theorem aX.empty {α:Type} {e:TypeId} {K:Kind α} {E:Nat->Prop} {g:Nat} (hg:w.heap[g]? =some (.cells #[] e (0,0))) (hE:¬E g):aX e K g E w (.slice (some ⟨g,0,none⟩) 0 0) []:=
 ⟨[],⟨arG,aZ ⟨g,0,#[],rfl,oD _,hg,oD _,by unfold maxLen;omega,arG,arG⟩⟩,rfl,fun g' hg'=>by
  have:g'=g:=by simpa [Value.ownBlock] using hg'.symm
  rw[this];exact hE⟩
theorem Wj {S:Nat->Prop} (w:World) (u:Value) (l:List (List UInt8)) (hu:LB lG S w u l) (hS:∀b,S b->b<w.heap.size) (hl:l.length*16<=140737488355328):
  Calls asq 12 #[u] w (Ab 9 lG w l):=by
 obtain⟨ua,ub,uo,uc,rfl,EH,huc,wN⟩:=hu.at
 have hl0:ua=none->l=[]:=fun e=>by
  cases l with
  | nil=>rfl
  | cons x l=>exact absurd (wN.addr arG) (by rw[e];simp)
 have Hl0:=aj hl0;have Hu:=aj hu;have HS:=aj hS;obtain ⟨n,hn⟩:=aiG l.length;have Hn:=aj hn;rw[<-hn]at EH huc hl ⊢;have hEq:=Lib.run_eql_slice_nil (P:=asq) w 24 9 ua n uc 0 0 Tryz.underlying24;clear hu wN hn hl0 hS
 cases ua with
 | none=>
  have HL:Hid (l=[]):=aj (Hl0.af rfl);rw[HL.af];go_enter Tryz.func12,Tryz.ntmps12;go_wp2;go_ret;exact⟨_,rfl,aX.nil _ _ _ _ _,PZ _ _⟩
 | some ad=>
  have HX:=aj (ah2 w (aB #[] 9));have HO:=aj (aX.empty (K:=lG) (E:=fun _=>False) HX.af (fun h=>h));have HB:=aj ((PZ w.heap.size w).alloc (oD _) (aB #[] 9));have HU:=aj (Hu.af.asa (w':=w.alloc (aB #[] 9)) (fun b hb=>HB.af.block b (HS.af b hb)));rw[<-Hn.af]at HU;have hzz:Hid (w.heap.size<=(w.alloc (aB #[] 9))):=aj arG;go_enter Tryz.func12,Tryz.ntmps12;go_wp2_with (at_builtin;go_loud (refine mZ (v:=.slice (some ⟨w.heap.size,0,none⟩) 0 0) (l:=[]) ak7 24 _ 16 Tryz.underlying24 ahH rfl rfl (.tmp 5) (.tmp 6) rfl rfl HO.af (fun b hb=>hb.elim) (.slice (some ad) n uc) l rfl HU.af (by rw[<-Hn.af];simp only[aR];omega) (by rw[<-Hn.af];simp only[aR];omega) hzz.af ?_));intro r3 w3 hown3 oJ ai0;have HR:=aj hown3;have hsz:=oJ.size;have HB3:=aj (HB.af.trans ((oJ.imp (S':=(·<w.heap.size)) (fun b hb=>⟨by have hb:b<w:=hb;first | omega | (simp;omega),fun e=>by have hb:b<w:=hb;simp[Value.ownBlock]at e;omega⟩)).below));clear hown3 oJ ai0;go_wp2;go_ret;exact⟨_,rfl,by simpa using HR.af,HB3.af⟩
theorem mU (h:pu s):(aC s).sz<=40000:=by
 have hl:=h.ar5;have hf:=h.ar2;have hv:=h.vars;have hr:=h.ash;rw[tN,Dw];obtain ⟨p0,hp0⟩:=aiG ((⟨[],[],[],0⟩:aA).dm (decide (s.ar4<0)||decide (15<s.ar4)) 100:aA);have h0:p0.sz<=0:=by rw[hp0,yG];exact oD _
 have h1:=gm (F:=fun(p:aA) (x:eH)=>p.func x) (c:=1) (fun p x=>JM p x) s.ar2 p0;have h2:=gm (F:=fun(p:aA) (x:dx)=>p.var s.ar4 x) (c:=1) (fun p x=>Ot p s.ar4 x) s.vars (s.ar2.foldl (fun p x=>p.func x) p0);have e2:pG s=s.vars.foldl (fun p v=>p.var s.ar4 v) (s.ar2.foldl (fun p f=>p.func f) p0):=by rw[hp0];rfl
 rw[e2];obtain ⟨p2,hp2⟩:=aiG (s.vars.foldl (fun p v=>p.var s.ar4 v) (s.ar2.foldl (fun p f=>p.func f) p0):aA);rw[<-hp2]at h2 ⊢;have h3:=gm Qb s.ar5 p2;have h4:=gm (Dv s.ar1) s.ar5 (s.ar5.foldl (fun p l=>p.line l) p2);have h5:=gm (BC s.ar1) s.ar5 (s.ar5.foldl (fun p l=>p.called s.ar1 l) (s.ar5.foldl (fun p l=>p.line l) p2));have h6:=gm (F:=fun p (r:gH)=>(p.asked s.ar1 r.arT r.aG 102 [2,1]).1) (c:=1) (fun p r=>wE _ _ _ _ _ p) (s.vars.flatMap (·.ash)) (p2.needs s);have e7:p2.needs s=s.ar5.foldl (fun p l=>p.addressed s.ar1 l) (s.ar5.foldl (fun p l=>p.called s.ar1 l) (s.ar5.foldl (fun p l=>p.line l) p2)):=rfl;rw[<-e7]at h5;omega
theorem Wl:∀(fs:List eH) (a:Int),∀x∈jD a fs,a<=x/\x<=kQ a fs
 | [],_,x,hx=>by cases hx
 | f :: fs,a,x,hx=>by
  have hb:=ou f.ar5
  have he:∀(fs:List eH) (a:Int),a<=kQ a fs:=by
   intro fs
   induction fs with
   | nil=>intro a;exact Int.le_refl _
   | cons g gs ih=>intro a;have:=ih (a+bO g.ar5);have:=ou g.ar5;simp only[kQ];omega
  rcases Y1.1 hx with rfl | hx
  ·have:=he fs (x+bO f.ar5);simp only[kQ];omega
  ·have:=Wl fs (a+bO f.ar5) x hx
   simp only[kQ];omega
theorem MV (l:List dx) (d t:Int):d<=(jg d t l).2.1/\(jg d t l).2.1<=d+8*(l.flatMap (·.ar8)).length/\t<=(jg d t l).2.2/\(jg d t l).2.2<=t+8*(l.flatMap (·.ar8)).length:=by
 rw[aao];exact Er l ([],d,t)
theorem R3:∀(l:List dx) (d t:Int),∀x∈(jg d t l).1,(d<=x/\x<=(jg d t l).2.1)∨(t<=x/\x<=(jg d t l).2.2)
 | [],_,_,x,hx=>by cases hx
 | v :: l,d,t,x,hx=>by
  unfold jg at hx ⊢;by_cases h:v.sym.ar3=3
  ·simp only[h,if_true]at hx ⊢
   have hm:=MV l d (t+8*v.ar8.length);rcases Y1.1 hx with rfl | hx
   ·right;omega
   ·have:=R3 l d (t+8*v.ar8.length) x hx
    omega
  ·simp only[h,if_false]at hx ⊢
   have hm:=MV l (d+8*v.ar8.length) t;rcases Y1.1 hx with rfl | hx
   ·left;omega
   ·have:=R3 l (d+8*v.ar8.length) t x hx
    omega
structure anC (s:aM) (y:pK):Prop where
 aS:0<=y.aS/\y.aS<=48000
 got:0<=y.got/\y.got<=1100000
 bW:0<=y.bW/\y.bW<=1500000
 data:0<=y.data/\y.data<=2000000
 bf:0<=y.bf/\y.bf<=16000
 ar2:y.ar2.length=s.ar2.length
 vars:y.vars.length=s.vars.length
 abf:∀x∈y.ar2,0<=x/\x<=100000000
 afC:∀x∈y.vars,0<=x/\x<=100000000
theorem zO (h:pu s) (hp:p.sz<=40000):anC s (aN s p):=by
 have hl:=h.ar5;have hw:=h.ar8;unfold aA.sz at hp;have e1:=Be s.ar2 0;have e2:=ou s.ar5;have e3:kQ 0 s.ar2=bO s.ar5:=by rw[e1];simp[aM.ar5]
 have hs:0<=kQ 0 s.ar2/\kQ 0 s.ar2<=48000:=wP;have hg:=aap (n:=max 1 (kQ 0 s.ar2+24*(p.ar7.length:Int))) wP;have hg2:0<=ny (max 1 (kQ 0 s.ar2+24*(p.ar7.length:Int)))/\ny (max 1 (kQ 0 s.ar2+24*(p.ar7.length:Int)))<=1100000:=wP;obtain ⟨got,R4⟩:=aiG (ny (max 1 (kQ 0 s.ar2+24*(p.ar7.length:Int))));have hm:=MV s.vars (got+8*(p.cells.length:Int)+8*(p.ar7.length:Int)) 0;have hb:=R3 s.vars (got+8*(p.cells.length:Int)+8*(p.ar7.length:Int)) 0;have hst:=Wl s.ar2 0;rw[<-R4]at hg2;have e:aN s p=⟨jD 0 s.ar2,(jg (got+8*(p.cells.length:Int)+8*(p.ar7.length:Int)) 0 s.vars).1,kQ 0 s.ar2,got,got+8*(p.cells.length:Int),(jg (got+8*(p.cells.length:Int)+8*(p.ar7.length:Int)) 0 s.vars).2.1,(jg (got+8*(p.cells.length:Int)+8*(p.ar7.length:Int)) 0 s.vars).2.2⟩:=by rw[R4];rfl
 rw[e]
 exact⟨hs,hg2,⟨by show 0<=got+_;omega,by show got+_<=_;omega⟩,⟨by show 0<=(jg _ _ _).2.1;omega,by show(jg _ _ _).2.1<=_;omega⟩,⟨by show 0<=(jg _ _ _).2.2;omega,by show(jg _ _ _).2.2<=_;omega⟩,CY _ _,OA _ _ _,
  fun x hx=>by have:=hst x hx;omega,fun x hx=>by have:=hb x hx;omega⟩
def Cg (p:aA):Prop:=∀c∈p.cells,0<=c.1/\c.1<=3
theorem Fj {u x:Int} (h:Cg p) (hu:0<=u/\u<=3):Cg (p.cell u x).1:=by
 intro c hc;have hc:c∈(fE p.cells (u,x)).1:=hc;unfold fE at hc
 split at hc
 ·exact h c hc
 ·rcases D5.1 hc with hc | hc
  ·exact h c hc
  ·rcases tY.1 hc with rfl;exact hu
theorem GG {q:aA} (h:Cg p) (e:q.cells=p.cells):Cg q:=fun c hc=>h c (e ▸ hc)
theorem uj {α:Type} {f:aA->α->aA} (hf:∀p x,Cg p->Cg (f p x)):∀(l:List α) (p:aA),Cg p->Cg (l.foldl f p)
 | [],_,h=>h
 | x :: l,p,h=>uj hf l (f p x) (hf p x h)
theorem Ef {ar1:List (List UInt8)} {n v:List UInt8} {e:Int} {ks:List Int} (h:Cg p):Cg (p.asked ar1 n v e ks).1:=GG h (nD ar1 n v e ks p)
theorem zh (v:dx):∀(l:List gH) (last:Int) (p:aA),(gZ v last l p).cells=p.cells
 | [],_,_=>rfl
 | r :: l,last,p=>by unfold gZ;rw[zh v l];simp
theorem ahI (s:aM):Cg (aC s):=by
 rw[tN];refine uj (fun p v h=>uj (fun p r h=>Ef h) _ _ h) _ _ ?_;unfold aA.needs;refine uj (fun p l h=> ?_) _ _ (uj (fun p l h=> ?_) _ _ (uj (fun p l h=> ?_) _ _ ?_))
 ·unfold aA.addressed
  split
  ·exact Fj (Ef h) wP
  ·exact h
 ·unfold aA.called
  split
  ·exact GG (Ef h) rfl
  ·split
   ·exact Fj (Fj (Ef h) wP) wP
   ·split
    ·exact Fj (Ef h) wP
    ·exact h
 ·exact GG h (by unfold aA.line;simp)
 ·unfold pG Dp
  refine uj (fun p v h=>GG h (by unfold aA.var;rw[zh];unfold aA.define;simp)) _ _ (uj (fun p f h=>GG h (by unfold aA.func aA.define;simp)) _ _ ?_);intro c hc;simp at hc
theorem Q8 (v:dx):∀(l:List gH) (last:Int) (p:aA),(gZ v last l p).asj=0->∀r∈l,last<r.asl/\r.asl<v.ar8.length/\v.sym.ar3=2
 | [],_,_,_,r,hr=>by cases hr
 | r :: l,last,p,h,x,hx=>by
  have h1:(gZ v r.asl l (p.dm (decide (r.asl<=last)||decide ((v.ar8.length:Int)<=r.asl)|| !decide (v.sym.ar3=2)) 102)).asj=0:=h;have h2:=(mD abD).1 (En v l r.asl _ h1);simp only[Bool.or_eq_false_iff,arN,Bool.not_eq_false',arI]at h2;rcases Y1.1 hx with rfl | hx
  ·exact⟨wP,wP,h2.2.2⟩
  ·have h3:=Q8 v l r.asl _ h1 x hx
   exact⟨wP,h3.2.1,h3.2.2⟩
theorem MW (h:(aC s).asj=0):∀v∈s.vars,∀r∈v.ash,0<=r.asl/\r.asl<v.ar8.length/\v.sym.ar3=2:=by
 rw[tN]at h;have h1:=SB (foldl_zero (fun _ _ h=>NW h) _ _ h);intro v hv r hr;have h2:=EY (f:=fun p v=>p.var s.ar4 v) (P:=fun v=>∀r∈v.ash,(-1:Int)<r.asl/\r.asl<v.ar8.length/\v.sym.ar3=2) (fun _ _ h=>(Kr h).1) (fun p v h=>Q8 v v.ash (-1) _ h) s.vars (Dp s) h1 v hv r hr;exact⟨wP,h2.2⟩
theorem J9 (s:aM):s.ar2.length+s.vars.length<=(aC s).av.length:=by
 have h:=(ZA s).own.length_le
 simpa using h
structure vk (w:World) (sv:bN) (s:aM) (wc:World) (own:Int) (v:bG) (p:aA) (fv vv:Value) (L0 lb ib:Nat) (iv:jv) (im:bK):Prop where
 plan:bB w.heap.size (w.heap.size+2) wc sv s own v p
 spec:gB (·<w.heap.size) w sv s
 low:Below w w wc
 sx:wc.heap[w.heap.size]? =some (aB #[ax s.arT,ah s.ar4,sv.ar6,sv.aF,sv.ar2,sv.vars,sv.ar1,sv.asb,sv.aP] 28)
 rx:wc.heap[w.heap.size+1]? =some (aB arJ 44)
 nx:¬v.has w.heap.size/\¬v.has (w.heap.size+1)
 vL:∀b,v.has b->b<L0
 h0:w.heap.size+2<L0/\L0<=lb/\lb<ib
 vP:ib<wc
 lx:wc.heap[lb]? =some (.cells (kS (w.heap.size+2) fv vv ⟨(aN s (aC s)).aS,(aN s (aC s)).got,(aN s (aC s)).bW,(aN s (aC s)).aS+24*(aC s).ar7.length,(aN s (aC s)).data,(aN s (aC s)).bf⟩).toArray 77 (0,0))
 fl:LB dJ (fun b=>L0<=b/\b<lb) wc fv (aN s (aC s)).ar2
 vl:LB dJ (fun b=>L0<=b/\b<lb) wc vv (aN s (aC s)).vars
 ix:wc.heap[ib]? =some (.cells (aW iv im) 44 (0,0))
 img:su (fun b=>lb<b/\b<wc/\b≠ib) wc iv im
section
variable {w : World} {sv : bN} {s : aM} {wc w' : World} {own : Int} {v : bG} {p : aA} {fv vv : Value} {L0 lb ib : Nat} {iv GH : jv} {im im' : bK}
theorem vk.go (h:vk w sv s wc own v p fv vv L0 lb ib iv im) (hs:Step (fun b=>b<wc/\b≠ib) wc w') (hx:w'.heap[ib]? =some (.cells (aW GH im') 44 (0,0))) (hi:su (fun b=>lb<b/\b<w'/\b≠ib) w' GH im'):vk w sv s w' own v p fv vv L0 lb ib GH im':=by
 have h0:=h.h0;have hl:=h.vP;have hz:=hs.size;have hpl:=h.plan.lt;refine⟨⟨(hs.block _ ⟨hpl,wP⟩).trans h.plan.ex,h.plan.base,?_,?_,?_⟩,h.spec,?_,?_,?_,h.nx,h.vL,h.h0,wP,?_,?_,?_,hx,hi⟩
 ·exact h.plan.av.dS ig (fun g hg=>hs.block g (by have:=h.vL g (aH hg);omega))
 ·exact h.plan.cells.dS kY (fun g hg=>hs.block g (by have:=h.vL g (aZ (aH hg));omega))
 ·exact h.plan.ar7.dS dN (fun g hg=>hs.block g (by have:=h.vL g (aZ (aZ hg));omega))
 ·exact h.low.trans ((hs.imp (S':=(·<w.heap.size)) (fun b hb=>by have hb:b<w:=hb;omega)).below)
 ·exact(hs.block _ ⟨wP,wP⟩).trans h.sx
 ·exact(hs.block _ ⟨wP,wP⟩).trans h.rx
 ·exact(hs.block _ ⟨wP,wP⟩).trans h.lx
 ·exact h.fl.asa (fun b hb=>hs.block b ⟨wP,wP⟩)
 ·exact h.vl.asa (fun b hb=>hs.block b ⟨wP,wP⟩)
theorem vk.AU (h:vk w sv s wc own v p fv vv L0 lb ib iv im) (hs:Step (fun b=>b<wc/\b≠ib) wc w'):su (fun b=>lb<b/\b<w'/\b≠ib) w' iv im:=
 (h.img.asa (fun b hb=>hs.block b ⟨hb.2.1,hb.2.2⟩)).imp (fun b hb=>⟨hb.1,akb hb.2.1 hs.size,hb.2.2⟩)
end
theorem bt2 (hF:oP [(1,aQ w),(2,aQ (w+1)),(3,ah 0),(4,aQ (w+2))] a) (hC:Chk w sv s w5 own v) (bT:pu s)
  (hK:∀a' wc fv vv L0 lb ib rv,oP [(1,aQ w),(2,aQ (w+1)),(3,ah 0),(4,aQ (w+2)),(5,aQ lb),(6,aQ ib)] a'->vk w sv s wc own v (aC s) fv vv L0 lb ib {MS with aF:=rv } {eY with arT:=s.arT,ar4:=s.ar4,aF:=s.aF,aJ:=(aN s (aC s)).bf }->(bL Tryz.f6 7).wp asq (bodyPost asq Tryz.f6 (gN w s)) a' wc):(bL Tryz.f6 5).wp asq (bodyPost asq Tryz.f6 (gN w s)) a w5:=by
 have HK:=aj hK;have HC:=aj hC;have Cc:=aj bT;have Q9:=aj (zO bT (mU bT));have apo:=aj (hC.spec.asa (.of_below hC.low));have uX:=hC.kr.lt;have hpl:=hC.plan.lt;have HL:=aj (akR hC.plan apo.af wP bT.ar2 bT.vars bT.ar5 bT.ar8 (by have:=mU bT;omega));have Hnm:=aj hC.spec.arT;have Td:=aj hC.spec.ar4;have Hrp:=aj bT.run;clear hC hK bT;have e5:bL Tryz.f6 5=.seq (cZ Tryz.f6 5) (bL Tryz.f6 6):=fV _ 5 TA;have e6:bL Tryz.f6 6=.seq (cZ Tryz.f6 6) (bL Tryz.f6 7):=fV _ 6 TA;rw[e5,e6];clear e5 e6;apply z7O.elim hF;clear hF;intro _;intro V1;intro V2;intro V3;intro V4
 iterate 242 (intro _)
 intro hF;obtain⟨-,-,e1,e2,e3,e4,-⟩:=hF;replace e1:V1=aQ w:=e1;subst e1;replace e2:V2=aQ (w+1):=e2;subst e2;replace e3:V3=ah 0:=e3;subst e3;replace e4:V4=aQ (w+2):=e4;subst e4
 conv in cZ _ 5=>whnf
 conv in cZ _ 6=>whnf
 go_wp2_with fail;refine HL.af.mono ?_;rintro e w6 ⟨fv,vv,rfl,hb6,hfo,Wm⟩;obtain⟨fa,fc,lZ⟩:=hfo.form;obtain⟨va,vc,hvf⟩:=Wm.form;have Hfo:=aj ((aX.lb (hfo.fJ dN (E':=(·<w5.heap.size)) (fun g hg h=>by have:=(hfo.lt g hg).1;omega))).imp (S':=fun b=>w5.heap.size<=b/\b<w6) (fun b hb=>⟨J8 hb.2,hb.1⟩));have Hvo:=aj ((aX.lb (Wm.fJ dN (E':=(·<w5.heap.size)) (fun g hg h=>by have:=(Wm.lt g hg).1;omega))).imp (S':=fun b=>w5.heap.size<=b/\b<w6) (fun b hb=>⟨J8 hb.2,hb.1⟩));have mg:=aj lZ;have Hvv:=aj hvf;have AQ:=aj hb6;have JN:=hb6.size;subst lZ hvf;have hN:(aN s (aC s)).aS+24*(aC s).ar7.length=(aN s (aC s)).aS+24*(aC s).ar7.length:=rfl;clear hb6 hfo Wm hN HL;generalize hY:aN s (aC s)=y at *;have HYe:=aj hY;generalize hJ:((aC s).ar7.length:Int)=jn at *;have HJe:=aj hJ;clear hY hJ;unfold kS;go_upto_region 8 with fail
 have Yy:=aj (ah2 w6 (aB #[aQ (w+2),.slice fa y.ar2.length fc,.slice va y.vars.length vc,ah y.aS,ah y.got,ah y.bW,ah 0,ah (y.aS+24*jn),ah y.data,ah y.bf] 77));have Eg:=aj (AQ.af.alloc JN (aB #[aQ (w+2),.slice fa y.ar2.length fc,.slice va y.vars.length vc,ah y.aS,ah y.got,ah y.bW,ah 0,ah (y.aS+24*jn),ah y.data,ah y.bf] 77));have JH:w6.heap.size<(w6.alloc (aB #[aQ (w+2),.slice fa y.ar2.length fc,.slice va y.vars.length vc,ah y.aS,ah y.got,ah y.bW,ah 0,ah (y.aS+24*jn),ah y.data,ah y.bf] 77)):=arG;have Nz:=aj (Hfo.af.asa (fun b hb=>dX w6 (aB #[aQ (w+2),.slice fa y.ar2.length fc,.slice va y.vars.length vc,ah y.aS,ah y.got,ah y.bW,ah 0,ah (y.aS+24*jn),ah y.data,ah y.bf] 77) hb.2));have HVo:=aj (Hvo.af.asa (fun b hb=>dX w6 (aB #[aQ (w+2),.slice fa y.ar2.length fc,.slice va y.vars.length vc,ah y.aS,ah y.got,ah y.bW,ah 0,ah (y.aS+24*jn),ah y.data,ah y.bf] 77) hb.2));generalize w6.alloc (aB #[aQ (w+2),.slice fa y.ar2.length fc,.slice va y.vars.length vc,ah y.aS,ah y.got,ah y.bW,ah 0,ah (y.aS+24*jn),ah y.data,ah y.bf] 77)=w7 at *;clear AQ Hfo Hvo;generalize w6.heap.size=lb at *;have HSx:=aj ((Eg.af.block w.heap.size wP).trans HC.af.sx);obtain⟨rpa,rpb,rpo,rpc,hrf,-,-,-⟩:=HC.af.spec.aF.at;have amn:=aj (((HC.af.spec.aF.below HC.af.low).mono (by omega:w.heap.size<=w5)).below Eg.af);have ZX:=aj hrf;rw[hrf]at amn;clear hrf;have y0:w7.cell? (ak w 0)=some (ax s.arT):=aL HSx.af rfl;have y1:w7.cell? (ak w 1)=some (ah s.ar4):=aL HSx.af rfl;have y3:w7.cell? (ak w 3)=some (.slice rpa s.aF.length rpc):=by rw[aV HSx.af,<-ZX.af];rfl
 have y9:w7.cell? (ak lb 9)=some (ah y.bf):=aL Yy.af rfl;refine bA 11 TA TA ?_;simp only[ji];refine P8 (S:=fun w':World=>w'.cell? (ak w 0)=some (ax s.arT)/\w'.cell? (ak w 1)=some (ah s.ar4)/\w'.cell? (ak w 3)=some (.slice rpa s.aF.length rpc)/\w'.cell? (ak lb 9)=some (ah y.bf)) _ _ _ _ ?_;have ay:(fun w':World=>w'.cell? (ak w 0)=some (ax s.arT)/\w'.cell? (ak w 1)=some (ah s.ar4)/\w'.cell? (ak w 3)=some (.slice rpa s.aF.length rpc)/\w'.cell? (ak lb 9)=some (ah y.bf)) (World.drew w7):=⟨y0,y1,y3,y9⟩;refine asr ?_;have hdr:Below w7 w7 (World.drew w7):=(PZ _ _).drew;have hzd:w7.heap.size<=(World.drew w7):=oD _;have hze:(World.drew w7).heap.size<=w7:=oD _;clear y0 y1 y3 y9;generalize (World.drew w7)=wd at hdr hzd hze ay ⊢;have hxl:w.heap.size<wd:=wP;have hll:lb<wd:=wP;have Ij:Hid (∀wx,Below w7 w7 wx->Calls asq 12 #[.slice rpa s.aF.length rpc] wx (Ab 9 lG wx s.aF)):=aj (fun wx hb=>Wj wx _ _ (amn.af.asa (S:=(·<w5.heap.size)) (fun b hb'=>hb.block b (by have hb':b<w5:=hb';omega))) (fun b hb'=>by have hb':b<w5:=hb';have:=hb.size;omega) (eG Hrp.af abD));refine arO [0,1,2,3,4,5,7,8] ay ?_;simp only[ast]
 iterate 8 (refine arP ?_;try simp only[bP])
 refine wpAnyH_ready (rs:=[6,10]) TA arG ?_;refine AllReadyH.cons rfl (fun K hK=> ?ra) (AllReadyH.cons rfl (fun K hK=> ?rb) AllReadyH.nil)
 case ra=>
  go_simp;refine(Ij.af wd hdr).mono ?_;rintro e w8 ⟨rv,rfl,oQ,nH⟩;obtain⟨vz,vB,kD⟩:=oQ.form;have HRv:=aj kD;subst kD;have Cs:=aj oQ;have Pq:=aj (hdr.trans (nH.mono hzd));have Ps:=nH.size;refine hK.af _ _ ⟨(nH.cell (p:=(ak w 0)) hxl).trans ay.1,(nH.cell (p:=(ak w 1)) hxl).trans ay.2.1,(nH.cell (p:=(ak w 3)) hxl).trans ay.2.2.1,(nH.cell (p:=(ak lb 9)) hll).trans ay.2.2.2⟩ (fun ay=> ?_);clear hK K oQ nH;try simp only[bV]
  refine arO [9] ay ?_;simp only[ast]
  iterate 1 (refine arP ?_;try simp only[bP])
  refine cO 10 fun K hK=> ?_
  go_simp;refine hK.af _ _ ⟨dB ay.1,dB ay.2.1,dB ay.2.2.1,dB ay.2.2.2⟩ (fun ay=> ?_);clear hK K;try simp only[bV]
  have HT:=aj (ah2 w8 (aB arJ 44));have Gs:=aj (Cs.af.dS (w':=w8.alloc (aB arJ 44)) MU (fun b hb=>dX w8 (aB arJ 44) (Cs.af.lt b hb).2));have Ka:=aj (Pq.af.alloc wP (aB arJ 44));have OQ:w8.heap.size<(w8.alloc (aB arJ 44)):=arG;generalize w8.alloc (aB arJ 44)=w9 at *;have hlo:=Cs.af.lt;have hne:∀g,(Value.slice vz s.aF.length vB).ownBlock=some g->g≠w8.heap.size:=fun g hg=>by have:=(Cs.af.lt g hg).2;omega
  refine E5 TA ?_ _;simp only[dU];clear ay;go_wp2_with (refine Bv rfl 44 (.tmp 6) (.tmp 54) rfl (w8.heap.size) (#[ax s.arT,.int .i64 s.ar4,au,au,.slice vz s.aF.length vB,au,au,au,.int .i64 0,au,au,au,au,au,.int .i64 y.bf]) rfl rfl _ _ HT.af TA rfl (by simp[Value.oneCell']) ?_);go_wp2_with fail;have kZ:Step (fun b=>b≠w8.heap.size) w9 (w9.setRow (w8.heap.size) (#[ax s.arT,ah s.ar4,au,au,.slice vz s.aF.length vB,au,au,au,ah 0,au,au,au,au,au,ah y.bf])):=⟨rfl,rfl,rfl,arG,fun b hb=>cu _ _ _ _ hb⟩;have Kb:=aj (TL _ (w8.heap.size) _ (#[ax s.arT,ah s.ar4,au,au,.slice vz s.aF.length vB,au,au,au,ah 0,au,au,au,au,au,ah y.bf]) _ _ HT.af);have hsz:(w9.setRow (w8.heap.size) (#[ax s.arT,ah s.ar4,au,au,.slice vz s.aF.length vB,au,au,au,ah 0,au,au,au,au,au,ah y.bf])).heap.size=w9.heap.size:=arG;have hib:lb<w8:=wP;have Wn:Step (·<w5.heap.size) w5 (w9.setRow (w8.heap.size) (#[ax s.arT,ah s.ar4,au,au,.slice vz s.aF.length vB,au,au,au,ah 0,au,au,au,au,au,ah y.bf])):=((Step.of_below Eg.af).trans (((Step.of_below Ka.af).imp (S':=(·<w5.heap.size)) (fun b hb=>by have hb:b<w5:=hb;omega)))).trans (kZ.imp (fun b hb=>by have hb:b<w5:=hb;omega));have hNw:Step (fun b=>b<w7) w7 (w9.setRow (w8.heap.size) (#[ax s.arT,ah s.ar4,au,au,.slice vz s.aF.length vB,au,au,au,ah 0,au,au,au,au,au,ah y.bf])):=(Step.of_below Ka.af).trans (kZ.imp (fun b hb=>wP));refine HK.af _ _ (.slice fa y.ar2.length fc) (.slice va y.vars.length vc) w5.heap.size lb (w8.heap.size) (.slice vz s.aF.length vB) ⟨TA,rfl,TA,TA,TA,TA,TA,TA,trivial⟩ ⟨HC.af.plan.below Wn.below,HC.af.spec,HC.af.low.trans (Wn.below.mono wP),(Wn.block _ wP).trans HC.af.sx,(Wn.block _ uX).trans HC.af.rx,⟨HC.af.kx.no,HC.af.kr.no⟩,fun b hb=>(HC.af.plan.qf hb).2.1,⟨wP,wP,wP⟩,by rw[hsz];omega,?_,?_,?_,?_,?_⟩
  ·rw[HYe.af,HJe.af];exact(hNw.block lb wP).trans Yy.af
  ·rw[HYe.af];exact Nz.af.asa (fun b hb=>hNw.block b wP)
  ·rw[HYe.af];exact HVo.af.asa (fun b hb=>hNw.block b wP)
  ·exact Kb.af
  ·exact {IL _ _ with arT:=Hnm.af,ar4:=Td.af,aF:=((aX.QO (Gs.af.fJ MU (E':=fun b=>b<w7∨b=w8.heap.size) (fun g hg h=>by have:=(Gs.af.lt g hg).1;have:=hne g hg;omega))).asa (fun b hb=>kZ.block b (fun e=>hb.2 (aZ e)))).imp (fun b hb=>⟨by have h1:=hb.2;omega,by rw[hsz];exact hb.1,fun e=>hb.2 (aZ e)⟩),aJ:=by have:=Q9.af.bf;unfold lH;show -9223372036854775808<=y.bf/\y.bf<=9223372036854775807;omega }
 case rb=>
  go_simp;refine hK.af _ _ ⟨dB ay.1,dB ay.2.1,dB ay.2.2.1,dB ay.2.2.2⟩ (fun ay=> ?_);clear hK K;try simp only[bV]
  have HT0:=aj (ah2 wd (aB arJ 44));have hdn:=hdr.alloc wP (aB arJ 44);have hzn:wd.heap.size<(wd.alloc (aB arJ 44)):=arG;generalize wd.alloc (aB arJ 44)=we at *;refine cO 6 fun K hK=> ?_
  go_simp;refine(Ij.af we hdn).mono ?_;rintro e w9 ⟨rv,rfl,EC,DN⟩;obtain⟨vz,vB,kD⟩:=EC.form;have HRv:=aj kD;subst kD;have aji:w.heap.size<we:=wP;have BQ:lb<we:=wP;have Gs:=aj EC;have Ka:=aj (hdn.trans (DN.mono wP));have HT:=aj ((DN.block wd.heap.size hzn).trans HT0.af);have OQ:=DN.size;refine hK.af _ _ ⟨(DN.cell (p:=(ak w 0)) aji).trans ay.1,(DN.cell (p:=(ak w 1)) aji).trans ay.2.1,(DN.cell (p:=(ak w 3)) aji).trans ay.2.2.1,(DN.cell (p:=(ak lb 9)) BQ).trans ay.2.2.2⟩ (fun ay=> ?_);clear hK K EC DN;try simp only[bV]
  refine arO [9] ay ?_;simp only[ast]
  iterate 1 (refine arP ?_;try simp only[bP])
  have hne:∀g,(Value.slice vz s.aF.length vB).ownBlock=some g->g≠wd.heap.size:=fun g hg=>by have:=(Gs.af.lt g hg).1;omega
  refine E5 TA ?_ _;simp only[dU];clear ay;go_wp2_with (refine Bv rfl 44 (.tmp 6) (.tmp 54) rfl (wd.heap.size) (#[ax s.arT,.int .i64 s.ar4,au,au,.slice vz s.aF.length vB,au,au,au,.int .i64 0,au,au,au,au,au,.int .i64 y.bf]) rfl rfl _ _ HT.af TA rfl (by simp[Value.oneCell']) ?_);go_wp2_with fail;have kZ:Step (fun b=>b≠wd.heap.size) w9 (w9.setRow (wd.heap.size) (#[ax s.arT,ah s.ar4,au,au,.slice vz s.aF.length vB,au,au,au,ah 0,au,au,au,au,au,ah y.bf])):=⟨rfl,rfl,rfl,arG,fun b hb=>cu _ _ _ _ hb⟩;have Kb:=aj (TL _ (wd.heap.size) _ (#[ax s.arT,ah s.ar4,au,au,.slice vz s.aF.length vB,au,au,au,ah 0,au,au,au,au,au,ah y.bf]) _ _ HT.af);have hsz:(w9.setRow (wd.heap.size) (#[ax s.arT,ah s.ar4,au,au,.slice vz s.aF.length vB,au,au,au,ah 0,au,au,au,au,au,ah y.bf])).heap.size=w9.heap.size:=arG;have hib:lb<wd:=wP;have Wn:Step (·<w5.heap.size) w5 (w9.setRow (wd.heap.size) (#[ax s.arT,ah s.ar4,au,au,.slice vz s.aF.length vB,au,au,au,ah 0,au,au,au,au,au,ah y.bf])):=((Step.of_below Eg.af).trans (((Step.of_below Ka.af).imp (S':=(·<w5.heap.size)) (fun b hb=>by have hb:b<w5:=hb;omega)))).trans (kZ.imp (fun b hb=>by have hb:b<w5:=hb;omega));have hNw:Step (fun b=>b<w7) w7 (w9.setRow (wd.heap.size) (#[ax s.arT,ah s.ar4,au,au,.slice vz s.aF.length vB,au,au,au,ah 0,au,au,au,au,au,ah y.bf])):=(Step.of_below Ka.af).trans (kZ.imp (fun b hb=>wP));refine HK.af _ _ (.slice fa y.ar2.length fc) (.slice va y.vars.length vc) w5.heap.size lb (wd.heap.size) (.slice vz s.aF.length vB) ⟨TA,rfl,TA,TA,TA,TA,TA,TA,trivial⟩ ⟨HC.af.plan.below Wn.below,HC.af.spec,HC.af.low.trans (Wn.below.mono wP),(Wn.block _ wP).trans HC.af.sx,(Wn.block _ uX).trans HC.af.rx,⟨HC.af.kx.no,HC.af.kr.no⟩,fun b hb=>(HC.af.plan.qf hb).2.1,⟨wP,wP,wP⟩,by rw[hsz];omega,?_,?_,?_,?_,?_⟩
  ·rw[HYe.af,HJe.af];exact(hNw.block lb wP).trans Yy.af
  ·rw[HYe.af];exact Nz.af.asa (fun b hb=>hNw.block b wP)
  ·rw[HYe.af];exact HVo.af.asa (fun b hb=>hNw.block b wP)
  ·exact Kb.af
  ·exact {IL _ _ with arT:=Hnm.af,ar4:=Td.af,aF:=((aX.QO (Gs.af.fJ MU (E':=fun b=>b<w7∨b=wd.heap.size) (fun g hg h=>by have:=(Gs.af.lt g hg).1;have:=hne g hg;omega))).asa (fun b hb=>kZ.block b (fun e=>hb.2 (aZ e)))).imp (fun b hb=>⟨by have h1:=hb.2;omega,by rw[hsz];exact hb.1,fun e=>hb.2 (aZ e)⟩),aJ:=by have:=Q9.af.bf;unfold lH;show -9223372036854775808<=y.bf/\y.bf<=9223372036854775807;omega }
section
variable {α : Type} {e : TypeId} {K : Kind α} {B : Nat} {E : Nat -> Prop} {w w' : World} {v : Value} {l : List α}
theorem Wq {o:Oper} {C:Act->World->Prop} {Q:Exit->Act->World->Prop} (t:TypeId) (z:Value) (bytes:Nat) (ht:Tryz.prog.underlying t=some (.slice e)) (hinfo:(Tryz.prog.info? e).map (fun i=>(i.zero,i.size,i.bytes))=some (some z,K.k,bytes))
  (hzs:z.cells.size=K.k) (hk:0<K.k) (s x:Operand)
  (ho:o.op=.call {callee:=.builtin .append,args:=#[s,x],argTypes:=#[t,t]})
  (n:Nat) (hn:l.length=n) (hs:a.eval s=v) (hown:aX e K B E w v l) (hE:∀b,E b->b<w.heap.size) (nb:Nat) (y:α) (row:List Value) (hx:a.eval x=.slice (some ⟨nb,0,none⟩) 1 1)
  (hcell:∀j u,row[j]? =some u->w.cell? (ak nb j)=some u) (hone:∀u∈row,u.oneCell'=true) (hrow:K.R (fun b=>b<w/\¬E b/\v.ownBlock≠some b) w y row)
  (hlen:(l.length+1)*bytes<=140737488355328) (hl63:l.length<9223372036854775807) (hB:B<=w)
  (h:∀g c w',aX e K B E w' (.slice (some ⟨g,0,none⟩) (n+1) c) (l++[y])->Step (fun b=>b<w/\v.ownBlock≠some b) w w'->g<w'.heap.size->(∀b,b<w.heap.size->v.ownBlock≠some b->b≠g)->
   C (a.put o.dst (.slice (some ⟨g,0,none⟩) (n+1) c)) w'):o.wp asq a w C Q:=by
 subst hn;obtain⟨i0,hi,hz0,hz1,hz2⟩:=info_parts hinfo;obtain⟨xs,h1,h2,h3⟩:=hown;have hlt:=World.ownsRow.lt h1;refine wp_append_lies w s x t ho B e i0 z K.k bytes ht hi hz0 hz1 hz2 hzs hk v l.length xs hs h1 (ak nb 0) 1 1 row hx (by rw[K.len hrow,Nat.one_mul]) ?_ hone abD ?_ hlen hB _ rfl ?_
 ·intro j u hj
  have:=hcell j u hj
  simpa [Addr.add_lit] using this
 ·unfold maxLen;omega
 ·intro g c w' g1 g2 g3 g4
  have hst:Step (fun b=>b<w/\v.ownBlock≠some b) w w':=Step.rU g2 (fun b hb=>⟨hb.1,hb.2⟩);have hsz:=hst.size
  have Rs:∀b,b<w.heap.size->v.ownBlock≠some b->b≠g:=by
   intro b hb hne e;subst e;rcases g3 with h' | h'
   ·exact hne h'
   ·omega
  refine h g c w' ⟨xs++row,by simpa using g1,?_,?_⟩ hst g4 Rs
  ·have hr:=(h2.asa (fun b hb=>hst.block b ⟨hb.1,hb.2.2⟩)).snoc (K.asa hrow (fun b hb=>hst.block b ⟨hb.1,hb.2.2⟩))
   exact hr.imp fun b hb=>⟨wP,hb.2.1,fun e=>Rs b hb.1 hb.2.2 (by simpa [Value.ownBlock] using e.symm)⟩
  ·intro g' hg' yh
   have:g'=g:=by simpa [Value.ownBlock] using hg'.symm
   subst this;rcases g3 with h' | h'
   ·exact h3 _ h' yh
   ·have:=hE _ yh;omega
end
theorem afI:(Tryz.prog.info? 81).map (fun i=>(i.zero,i.size,i.bytes))=some (some (.agg #[aK,au]),2,40):=TA
theorem bt3 {rv:Value} {tl:Int} (hF:oP [(1,aQ w),(2,aQ (w+1)),(3,ah 0),(4,aQ (w+2)),(5,aQ lb),(6,aQ ib)] a) (hC:vk w sv s w5 own v p fv vv L0 lb ib {MS with aF:=rv } {eY with arT:=s.arT,ar4:=s.ar4,aF:=s.aF,aJ:=tl }) (bT:pu s)
  (hK:∀a' wc nv,oP [(1,aQ w),(2,aQ (w+1)),(3,ah 0),(4,aQ (w+2)),(5,aQ lb),(6,aQ ib)] a'->vk w sv s wc own v p fv vv L0 lb ib {MS with aF:=rv,ar6:=nv } {eY with arT:=s.arT,ar4:=s.ar4,aF:=s.aF,aJ:=tl,ar6:=s.ar6 }->(bL Tryz.f6 8).wp asq (bodyPost asq Tryz.f6 (gN w s)) a' wc):(bL Tryz.f6 7).wp asq (bodyPost asq Tryz.f6 (gN w s)) a w5:=by
 have HK:=aj hK;have HC:=aj hC;have Hnd:=aj bT.need;have Hvs:=aj bT.ajh;have hib:=hC.vP;have h0:=hC.h0;obtain⟨na_,nb_,no_,nc_,hnf,hnm,adz,Cw⟩:=hC.spec.ar6.at;have hna:=Cw.addr;have Cx:=aj Cw;have c2:w5.cell? (ak w 2)=some sv.ar6:=aL hC.sx rfl;rw[hnf]at c2;have hrl:=hC.img.aF.form;obtain ⟨n,hn⟩:=aiG s.ar6.length;have Hn:=aj hn;rw[<-hn]at c2 hnm adz hna;have kF:Hid (w5.heap[ib]? =some (aB #[ax s.arT,ah s.ar4,au,au,rv,au,au,au,ah 0,au,au,au,au,au,ah tl] 44)):=aj hC.ix;have hn2:n*40<=140737488355328:=by have:=bT.need;omega
 obtain⟨vz,vB,kD⟩:=hrl;replace kD:rv=.slice vz s.aF.length vB:=kD;subst kD;clear hC hK bT hnf Cw hn;have e7:bL Tryz.f6 7=.seq (cZ Tryz.f6 7) (bL Tryz.f6 8):=fV _ 7 TA;rw[e7];clear e7;apply z7O.elim hF;clear hF;intro _;intro V1;intro V2;intro V3;intro V4;intro V5;intro V6
 iterate 240 (intro _)
 intro hF;obtain⟨-,-,e1,e2,e3,e4,e5,e6,-⟩:=hF;replace e1:V1=aQ w:=e1;subst e1;replace e2:V2=aQ (w+1):=e2;subst e2;replace e3:V3=ah 0:=e3;subst e3;replace e4:V4=aQ (w+2):=e4;subst e4;replace e5:V5=aQ lb:=e5;subst e5;replace e6:V6=aQ ib:=e6;subst e6
 conv in cZ _ 7=>whnf
 go_wp2_with fail;clear c2;obtain ⟨Bn,zn⟩:=aiG w5.heap.size;have Ee:=aj zn;have amv:ib<Bn:=wP;have hw2:w.heap.size<Bn:=wP;clear zn;go_loopw [58] (fun i wr=>∃k:Nat,i=ah k/\k<=n/\∃nv,wr.heap[ib]? =some (aB #[ax s.arT,ah s.ar4,au,nv,.slice vz s.aF.length vB,au,au,au,ah 0,au,au,au,au,au,ah tl] 44)/\aX 81 OH Bn (fun b=>b<Bn) wr nv (s.ar6.take k)/\Step (fun b=>b<Bn/\b≠ib) w5 wr) (fun i _=>n-(intOf i).toNat);exact⟨0,rfl,alg _,_,kF.af,aX.nil _ _ _ _ _,Step.refl _ _⟩;obtain⟨k,rfl,hk,nv,hx,ho,hst⟩:=hrel;have HX:=aj hx;have HO:=aj ho;have HS:=aj hst;have AB:=hst.size;have Ns:Bn<=wr:=by have:=Ee.af;omega
 have sU:=aj (HC.af.low.trans ((hst.imp (S':=(·<w.heap.size)) (fun b hb=>by have hb:b<w:=hb;omega)).below));obtain⟨oa,oc,hof⟩:=ho.form;clear hx ho hst;by_cases hlt:k<n
 ·obtain⟨x,hx⟩:∃x,s.ar6[k]? =some x:=⟨_,List.getElem?_eq_getElem (by rw[<-Hn.af];exact hlt)⟩
  obtain rfl:=hna wP;obtain⟨cv,g0,g1,hcv,hxn⟩:=(Cx.af.below sU.af).Sj k x hx;have hvl:=Hvs.af x (dH hx);obtain⟨Rb,Rc,hvf⟩:=hcv.form;have HTk:Hid (s.ar6.take (k+1)=s.ar6.take k++[x]):=aj (jR hx);have hkl:(s.ar6.take k).length=k:=by rw[List.length_take];have:=Hn.af;omega
  rw[hkl]at hof;subst hof;subst hvf;have TH:=aj hkl;have HCv:=aj hcv;have Hxn:=aj hxn;have hk2:(k:Int)<(n:Int):=wP;have DF:=aj ((dX wr (aB #[ax x.arT,.slice Rb x.asi.length Rc] 81) (r:=ib) wP).trans HX.af);have HNa:=aj (ah2 wr (aB #[ax x.arT,.slice Rb x.asi.length Rc] 81));have xW:=aj (HO.af.alloc (aB #[ax x.arT,.slice Rb x.asi.length Rc] 81));have HSa:=aj (HS.af.alloc (fun b hb=>wP) (aB #[ax x.arT,.slice Rb x.asi.length Rc] 81));have vH:=aj (sU.af.alloc wP (aB #[ax x.arT,.slice Rb x.asi.length Rc] 81));have hza:wr.heap.size<(wr.alloc (aB #[ax x.arT,.slice Rb x.asi.length Rc] 81)):=arG;clear hx hcv hkl hxn AB;go_upto_region 12 with fail
  have Ud:Hid (∀g,(Value.slice oa k oc).ownBlock=some g->g<wr.heap.size):=aj (fun g hg=>(HO.af.lt g hg).2);have QJ:=sU;clear g0 g1 HX HO HS sU;generalize wr.alloc (aB #[ax x.arT,.slice Rb x.asi.length Rc] 81)=wa at *;generalize wr.heap.size=xb at *;have y3:wa.cell? (ak ib 3)=some (.slice oa k oc):=aL DF.af rfl;have n0:wa.cell? (ak xb 0)=some (ax x.arT):=aL HNa.af rfl;have n1:wa.cell? (ak xb 1)=some (.slice Rb x.asi.length Rc):=aL HNa.af rfl;refine bA 10 TA TA ?_;simp only[ji];refine P8 (S:=fun w':World=>w'.cell? (ak ib 3)=some (.slice oa k oc)/\w'.cell? (ak xb 0)=some (ax x.arT)/\w'.cell? (ak xb 1)=some (.slice Rb x.asi.length Rc)) _ _ _ _ ?_;have ay:(fun w':World=>w'.cell? (ak ib 3)=some (.slice oa k oc)/\w'.cell? (ak xb 0)=some (ax x.arT)/\w'.cell? (ak xb 1)=some (.slice Rb x.asi.length Rc)) (World.drew wa):=⟨y3,n0,n1⟩;refine asr ?_;have Nj:Hid ((World.drew wa).heap[ib]? =some (aB #[ax s.arT,ah s.ar4,au,.slice oa k oc,.slice vz s.aF.length vB,au,au,au,ah 0,au,au,au,au,au,ah tl] 44)):=aj DF.af;have Iy:=aj (xW.af.drew);have yF:=aj (HSa.af.drew);have AJ:=aj (vH.af.drew);have hzd:xb<(World.drew wa):=hza;have afJ:ib<(World.drew wa):=by show ib<wa;omega
  have hBd:Bn<=(World.drew wa):=by show Bn<=wa;omega
  clear y3 n0 n1 DF HNa xW HSa vH;generalize (World.drew wa)=wd at *;refine arO [0,1,2,3,4,5] ay ?_;simp only[ast]
  iterate 6 (refine arP ?_;try simp only[bP])
  refine cO 6 fun K hK=> ?_
  go_simp;refine(Wj wd _ x.asi ((HCv.af.asa (w':=wd) (fun b hb=>(AJ.af.block b hb).trans (QJ.af.block b hb).symm))) (fun b hb=>by have hb:b<w:=hb;omega) (eG hvl abD)).mono ?_;rintro e w8 ⟨r8,rfl,oQ,nH⟩;obtain⟨NA,NC,hcf⟩:=oQ.form;subst hcf;have HC8:=aj oQ;have qy:=aj ((nH.block ib afJ).trans Nj.af);have Cs:=aj (Iy.af.below nH);have zu:=aj (yF.af.trans ((Step.of_below nH).imp (fun b hb=>by show b<wd;omega)));have Ps:=nH.size;refine hK.af _ _ ⟨(nH.cell (p:=(ak ib 3)) afJ).trans ay.1,(nH.cell (p:=(ak xb 0)) hzd).trans ay.2.1,(nH.cell (p:=(ak xb 1)) hzd).trans ay.2.2⟩ (fun ay=> ?_);clear hK K oQ nH;try simp only[bV]
  refine arO [7] ay ?_;simp only[ast]
  iterate 1 (refine arP ?_;try simp only[bP])
  have DC:=aj ((dX w8 (aB #[ax x.arT,.slice NA x.asi.length NC] 81) (r:=ib) wP).trans qy.af);have xZ:=aj (Cs.af.alloc (aB #[ax x.arT,.slice NA x.asi.length NC] 81));have lN:=aj (zu.af.alloc (fun b hb=>wP) (aB #[ax x.arT,.slice NA x.asi.length NC] 81));have YA:=aj (HC8.af.alloc (aB #[ax x.arT,.slice NA x.asi.length NC] 81));have HNn:=aj (ah2 w8 (aB #[ax x.arT,.slice NA x.asi.length NC] 81));refine cO 8 fun K hK=> ?_
  go_simp;refine hK.af _ _ ⟨dB ay.1,dB ay.2.1,dB ay.2.2⟩ (fun ay=> ?_);clear hK K;try simp only[bV]
  have hzn:w8.heap.size<(w8.alloc (aB #[ax x.arT,.slice NA x.asi.length NC] 81)):=arG;clear qy Cs zu;generalize w8.alloc (aB #[ax x.arT,.slice NA x.asi.length NC] 81)=wn at *;have pq:Hid (OH.R (fun b=>b<wn/\¬b<Bn/\(Value.slice oa k oc).ownBlock≠some b) wn x [ax x.arT,.slice NA x.asi.length NC]):=aj ⟨_,rfl,(aX.QO (YA.af.fJ MU (E':=fun b=>b<wd) (fun g hg h=>by have:=(YA.af.lt g hg).1;omega))).imp (fun b hb=>⟨hb.1,by have:=hb.2;omega,fun e=>by have h9:=(Iy.af.lt b e).2;have:=hb.2;omega⟩),Hxn.af⟩;refine cO 9 fun K hK=> ?_
  rw[if_pos (by rfl)];simp only[rz];refine Wq (K:=OH) (v:=.slice oa k oc) (e:=81) (B:=Bn) (E:=fun b=>b<Bn) 23 _ 40 Tryz.underlying23 afI rfl abD (.tmp 63) (.tmp 70) rfl k TH.af rfl xZ.af (fun b hb=>by have hb:b<Bn:=hb;omega) w8.heap.size x [ax x.arT,.slice NA x.asi.length NC] rfl (aD HNn.af) (fun u hu=>by simp only[Y1,List.not_mem_nil,or_false]at hu;rcases hu with rfl | rfl<;>rfl) pq.af (by rw[TH.af];omega) (by rw[TH.af];omega) wP ?_;rintro g7 c7 w7 fG hs7 uf-;have hne:∀b,b<Bn->(Value.slice oa k oc).ownBlock≠some b:=fun b hb e=>by have:=(xZ.af.lt b e).1;omega
  have hnx:(Value.slice oa k oc).ownBlock≠some xb:=fun e=>by have:=Ud.af xb e;omega
  have jK:=aj ((hs7.block ib ⟨wP,hne ib amv⟩).trans DC.af);have kT:=aj fG;have zH:=aj (lN.af.trans (hs7.imp (fun b hb=>⟨wP,hne b hb.1⟩)));have JH:=hs7.size;refine hK.af _ _ ⟨(hs7.cell (p:=(ak ib 3)) ⟨by show ib<_;omega,hne ib amv⟩).trans ay.1,(hs7.cell (p:=(ak xb 0)) ⟨by show xb<_;omega,hnx⟩).trans ay.2.1,(hs7.cell (p:=(ak xb 1)) ⟨by show xb<_;omega,hnx⟩).trans ay.2.2⟩ (fun ay=> ?_);clear hK K fG hs7 hne hnx;try simp only[bV]
  refine E5 TA ?_ _;simp only[dU];have u3:=ay.1;have f3:w7.frozen? (ak ib 3)=false:=vV jK.af 3;clear ay;have kZ:Step (fun b=>b≠ib) w7 (w7.setCell ⟨ib,3,none⟩ (.slice (some ⟨g7,0,none⟩) (k+1) c7)):=(Step.refl _ w7).setCell (fun h=>h rfl) _;have Kb:=aj (eu jK.af 3 (.slice (some ⟨g7,0,none⟩) (k+1) c7));have Gs:=aj (kT.af.step kZ (fun b _ hb=>by have hb:¬b<Bn:=hb;omega));have HS9:=aj (zH.af.trans (kZ.imp (fun b hb=>hb.2)));rw[<-HTk.af]at Gs;clear kZ;go_wp2;go_roundw;exact⟨k+1,arH,wP,_,Kb.af,Gs.af,HS9.af⟩;simp[intOf];omega
 ·have hE:=HO.af
  rw[List.take_of_length_le (by have:=Hn.af;omega)]at hE;have HB:=aj (HC.af.go (GH:={MS with aF:=.slice vz s.aF.length vB,ar6:=nv }) (im':={eY with arT:=s.arT,ar4:=s.ar4,aF:=s.aF,aJ:=tl,ar6:=s.ar6 }) (HS.af.imp (fun b hb=>by have:=Ee.af;omega)) HX.af {HC.af.AU (HS.af.imp (fun b hb=>by have:=Ee.af;omega))with ar6:=hE.QO.imp (fun b hb=>⟨by have:=hb.2;omega,hb.1,by have:=hb.2;omega⟩)});clear hE;go_wp2_with fail;exact HK.af _ wr nv ⟨TA,rfl,TA,TA,TA,TA,TA,TA,trivial⟩ HB.af
theorem Dc (s:aM) (ar2:List Int) (hf:∀x∈ar2,0<=x/\x<=100000000):∀(l:List (List UInt8)) (q:aA × List Int),(∀x∈q.2,0<=x/\x<=100000000)->∀x∈(dL s ar2 l q).2,0<=x/\x<=100000000
 | [],q,h=>h
 | n :: l,q,h=>by
  unfold dL
  split
  ·rename_i k _
   refine Dc s ar2 hf l _ (fun x hx=> ?_);rcases D5.1 hx with hx | hx
   ·exact h x hx
   ·rcases tY.1 hx with rfl
    rw[List.getD_eq_getElem?_getD]
    cases e:ar2[k]? with
    | none=>exact⟨arG,arG⟩
    | some y=>exact hf y (dH e)
  ·exact Dc s ar2 hf l _ h
theorem qc {b:Nat} {cs:Array Value} {t:TypeId} (h:w.heap[b]? =some (.cells cs t (0,0))) (i:Nat) (u:Value):(w.setCell ⟨b,i,none⟩ u).heap[b]? =some (.cells (cs.setIfInBounds i u) t (0,0)):=by
 simp[World.setCell,Array.getElem?_modify,h]
section
variable {w : World} {sv : bN} {s : aM} {wc w' : World} {own own' : Int} {v : bG} {p p' : aA} {fv vv : Value} {L0 lb ib : Nat} {iv GH : jv} {im im' : bK}
theorem vk.goP (h:vk w sv s wc own v p fv vv L0 lb ib iv im) (hM:bB w.heap.size (w.heap.size+2) w' sv s own' v p') (hs:Step (fun b=>b<wc/\b≠ib/\b≠w.heap.size+2/\¬v.has b) wc w') (hx:w'.heap[ib]? =some (.cells (aW GH im') 44 (0,0))) (hi:su (fun b=>lb<b/\b<w'/\b≠ib) w' GH im'):vk w sv s w' own' v p' fv vv L0 lb ib GH im':=by
 have h0:=h.h0;have hl:=h.vP;have hz:=hs.size;have nl:∀b,L0<=b->¬v.has b:=fun b hb hh=>by have:=h.vL b hh;omega
 have nb:∀b,b<w.heap.size->¬v.has b:=fun b hb hh=>by have:=(h.plan.qf hh).1;omega
 refine⟨hM,h.spec,?_,?_,?_,h.nx,h.vL,h.h0,wP,?_,?_,?_,hx,hi⟩
 ·exact h.low.trans ((hs.imp (S':=(·<w.heap.size)) (fun b hb=>⟨by have hb:b<w:=hb;omega,by have hb:b<w:=hb;omega,by have hb:b<w:=hb;omega,nb b hb⟩)).below)
 ·exact(hs.block _ ⟨wP,wP,wP,h.nx.1⟩).trans h.sx
 ·exact(hs.block _ ⟨wP,wP,wP,h.nx.2⟩).trans h.rx
 ·exact(hs.block _ ⟨wP,wP,wP,nl _ wP⟩).trans h.lx
 ·exact h.fl.asa (fun b hb=>hs.block b ⟨wP,wP,wP,nl b hb.1⟩)
 ·exact h.vl.asa (fun b hb=>hs.block b ⟨wP,wP,wP,nl b hb.1⟩)
theorem vk.abh (h:vk w sv s wc own v p fv vv L0 lb ib iv im) (hs:Step (fun b=>b<wc/\b≠ib/\b≠w.heap.size+2/\¬v.has b) wc w'):su (fun b=>lb<b/\b<w'/\b≠ib) w' iv im:=by
 have h0:=h.h0;exact(h.img.asa (fun b hb=>hs.block b ⟨hb.2.1,hb.2.2,wP,fun hh=>by have:=h.vL b hh;omega⟩)).imp (fun b hb=>⟨hb.1,akb hb.2.1 hs.size,hb.2.2⟩)
theorem vk.Pt (h:vk w sv s wc own v p fv vv L0 lb ib iv im):gB (·<w.heap.size) wc sv s:=h.spec.asa (.of_below h.low)
theorem vk.IM (h:vk w sv s wc own v p fv vv L0 lb ib iv im) {b:Nat} (h1:L0<=b) (h2:b<wc):Kept (w.heap.size+2) v wc b:=⟨h2,by have:=h.h0;omega,fun hh=>by have:=h.vL b hh;omega⟩
theorem vk.akj (h:vk w sv s wc own v p fv vv L0 lb ib iv im):Kept (w.heap.size+2) v wc w.heap.size:=⟨by have:=h.h0;have:=h.vP;omega,wP,h.nx.1⟩
theorem vk.akk (h:vk w sv s wc own v p fv vv L0 lb ib iv im):Kept (w.heap.size+2) v wc (w.heap.size+1):=⟨by have:=h.h0;have:=h.vP;omega,wP,h.nx.2⟩
end
theorem bt4 {iv:jv} {tl:Int} (hF:oP [(1,aQ w),(2,aQ (w+1)),(3,ah 0),(4,aQ (w+2)),(5,aQ lb),(6,aQ ib)] a) (hC:vk w sv s w5 own v p fv vv L0 lb ib iv {eY with arT:=s.arT,ar4:=s.ar4,aF:=s.aF,aJ:=tl,ar6:=s.ar6 }) (bT:pu s) (hiv:iv.asb=au/\iv.aP=au)
  (hK:∀a' wc i1 f1,oP [(1,aQ w),(2,aQ (w+1)),(3,ah 0),(4,aQ (w+2)),(5,aQ lb),(6,aQ ib)] a'->vk w sv s wc own v (dL s (aN s (aC s)).ar2 s.aP ((dL s (aN s (aC s)).ar2 s.asb (p,[])).1,[])).1 fv vv L0 lb ib {iv with asb:=i1,aP:=f1 } {eY with arT:=s.arT,ar4:=s.ar4,aF:=s.aF,aJ:=tl,ar6:=s.ar6,asb:=(dL s (aN s (aC s)).ar2 s.asb (p,[])).2,aP:=(dL s (aN s (aC s)).ar2 s.aP ((dL s (aN s (aC s)).ar2 s.asb (p,[])).1,[])).2 }->(bL Tryz.f6 9).wp asq (bodyPost asq Tryz.f6 (gN w s)) a' wc):(bL Tryz.f6 8).wp asq (bodyPost asq Tryz.f6 (gN w s)) a w5:=by
 have HK:=aj hK;have HC:=aj hC;have hib:=hC.vP;have h0:=hC.h0;have Q9:=aj (zO bT (mU bT));obtain⟨fa,fc,lZ⟩:=hC.fl.form;obtain⟨va,vc,hvf⟩:=hC.vl.form;obtain⟨na_,nc_,hnf⟩:=hC.spec.asb.form;obtain⟨ea_,ec_,hef⟩:=hC.spec.aP.form;have EK:=aj hnf;have Hef:=aj hef;have HIv:=aj hiv
 have abj:Hid (∀(wx:World) (px:aA) (nv:Value) (names:List (List UInt8)),bB w.heap.size (w.heap.size+2) wx sv s own v px->Step (fun b=>b<w5/\b≠w.heap.size+2/\¬v.has b) w5 wx->LB lG (·<w.heap.size) w nv names->names.length<=2000->
   Calls asq 13 #[.agg (kS (w.heap.size+2) fv vv ⟨(aN s (aC s)).aS,(aN s (aC s)).got,(aN s (aC s)).bW,(aN s (aC s)).aS+24*(aC s).ar7.length,(aN s (aC s)).data,(aN s (aC s)).bf⟩).toArray,nv] wx (X3 w.heap.size (w.heap.size+2) sv s own v wx (dL s (aN s (aC s)).ar2 names (px,[])))):=aj (fun wx px nv names hM hs hn hl=>by
  have hz:=hs.size;have nb:∀b,b<w.heap.size->¬v.has b:=fun b hb hh=>by have:=(hC.plan.qf hh).1;omega
  have hlo:Below w w5 wx:=(hs.imp (S':=(·<w.heap.size)) (fun b hb=>⟨by have hb:b<w:=hb;omega,by have hb:b<w:=hb;omega,nb b hb⟩)).below;exact ag9 _ va vc _ hvf hM (hC.Pt.asa (.of_below hlo)) wP ((hC.fl.asa (fun b hb=>hs.block b ⟨wP,wP,fun hh=>by have:=hC.vL b hh;omega⟩)).imp (fun b hb=>⟨wP,wP,fun hh=>by have:=hC.vL b hh;omega⟩)) Q9.af.ar2 (hn.below (hC.low.trans hlo)) hl)
 have hin:=bT.asb;have hfi:=bT.aP;have hX5:=hC.ix;have Hlx:=aj hC.lx;subst lZ hvf;have qV:Hid (w5.heap[lb]? =some (aB #[aQ (w+2),.slice fa (aN s (aC s)).ar2.length fc,.slice va (aN s (aC s)).vars.length vc,ah (aN s (aC s)).aS,ah (aN s (aC s)).got,ah (aN s (aC s)).bW,ah 0,ah ((aN s (aC s)).aS+24*(aC s).ar7.length),ah (aN s (aC s)).data,ah (aN s (aC s)).bf] 77)):=aj Hlx.af;have HNM:Hid _:=abj;clear hC hK bT hnf hef hiv hX5 Hlx HNM;have e8:bL Tryz.f6 8=.seq (cZ Tryz.f6 8) (bL Tryz.f6 9):=fV _ 8 TA;rw[e8];clear e8;apply z7O.elim hF;clear hF;intro _;intro V1;intro V2;intro V3;intro V4;intro V5;intro V6
 iterate 240 (intro _)
 intro hF;obtain⟨-,-,e1,e2,e3,e4,e5,e6,-⟩:=hF;replace e1:V1=aQ w:=e1;subst e1;replace e2:V2=aQ (w+1):=e2;subst e2;replace e3:V3=ah 0:=e3;subst e3;replace e4:V4=aQ (w+2):=e4;subst e4;replace e5:V5=aQ lb:=e5;subst e5;replace e6:V6=aQ ib:=e6;subst e6
 conv in cZ _ 8=>whnf
 generalize hY:aN s (aC s)=y at *;have HYe:=aj hY;generalize hJ:((aC s).ar7.length:Int)=jn at *;have HJe:=aj hJ;clear hY hJ;have l0:=aD qV.af 0 _ rfl;have l1:=aD qV.af 1 _ rfl;have l2:=aD qV.af 2 _ rfl;have l3:=aD qV.af 3 _ rfl;have l4:=aD qV.af 4 _ rfl;have l5:=aD qV.af 5 _ rfl;have l6:=aD qV.af 6 _ rfl;have l7:=aD qV.af 7 _ rfl;have l8:=aD qV.af 8 _ rfl;have l9:=aD qV.af 9 _ rfl;have x7:w5.cell? (ak w 7)=some (.slice na_ s.asb.length nc_):=by rw[aV HC.af.sx,<-EK.af];rfl
 have x8:w5.cell? (ak w 8)=some (.slice ea_ s.aP.length ec_):=by rw[aV HC.af.sx,<-Hef.af];rfl
 go_upto_region 14 with fail
 refine bA 10 TA TA ?_;simp only[ji];refine P8 (S:=fun w':World=>w'.cell? (ak lb 0)=some (aQ (w+2))/\w'.cell? (ak lb 1)=some (.slice fa y.ar2.length fc)/\w'.cell? (ak lb 2)=some (.slice va y.vars.length vc)/\w'.cell? (ak lb 3)=some (ah y.aS)/\w'.cell? (ak lb 4)=some (ah y.got)/\w'.cell? (ak lb 5)=some (ah y.bW)/\w'.cell? (ak lb 6)=some (ah 0)/\w'.cell? (ak lb 7)=some (ah (y.aS+24*jn))/\w'.cell? (ak lb 8)=some (ah y.data)/\w'.cell? (ak lb 9)=some (ah y.bf)/\w'.cell? (ak w 7)=some (.slice na_ s.asb.length nc_)/\w'.cell? (ak w 8)=some (.slice ea_ s.aP.length ec_)) _ _ _ _ ?_;have ay:(fun w':World=>w'.cell? (ak lb 0)=some (aQ (w+2))/\w'.cell? (ak lb 1)=some (.slice fa y.ar2.length fc)/\w'.cell? (ak lb 2)=some (.slice va y.vars.length vc)/\w'.cell? (ak lb 3)=some (ah y.aS)/\w'.cell? (ak lb 4)=some (ah y.got)/\w'.cell? (ak lb 5)=some (ah y.bW)/\w'.cell? (ak lb 6)=some (ah 0)/\w'.cell? (ak lb 7)=some (ah (y.aS+24*jn))/\w'.cell? (ak lb 8)=some (ah y.data)/\w'.cell? (ak lb 9)=some (ah y.bf)/\w'.cell? (ak w 7)=some (.slice na_ s.asb.length nc_)/\w'.cell? (ak w 8)=some (.slice ea_ s.aP.length ec_)) (World.drew w5):=⟨l0,l1,l2,l3,l4,l5,l6,l7,l8,l9,x7,x8⟩;refine asr ?_;have rG:=aj (HC.af.plan.below (PZ _ w5).drew);have yF:=aj ((Step.refl (fun b=>b<w5/\b≠w.heap.size+2/\¬v.has b) w5).drew);have Nu:=aj (aU.below (pb:=w.heap.size+2) (v:=v) (PZ _ w5).drew);clear l0 l1 l2 l3 l4 l5 l6 l7 l8 l9 x7 x8;generalize (World.drew w5)=wd at *;refine arO [0,1,2,4,5,6] ay ?_;simp only[ast]
 iterate 6 (refine arP ?_;try simp only[bP])
 refine cO 3 fun K hK=> ?_
 go_simp;refine(abj.af wd p (.slice na_ s.asb.length nc_) s.asb rG.af yF.af (by rw[<-EK.af];exact HC.af.spec.asb) hin).mono ?_;rintro e w6 ⟨i1,rfl,yH,hs6,ho6⟩;have JO:=aj yH;have zG:=aj ho6;have Yu:=aj (Nu.af.trans hs6);have hkx:=(Nu.af.kept HC.af.akj);have hkl:=(Nu.af.kept (HC.af.IM h0.2.1 wP));refine hK.af _ _ ⟨(Tg (hs6.block hkl)).trans ay.1,(Tg (hs6.block hkl)).trans ay.2.1,(Tg (hs6.block hkl)).trans ay.2.2.1,(Tg (hs6.block hkl)).trans ay.2.2.2.1,(Tg (hs6.block hkl)).trans ay.2.2.2.2.1,(Tg (hs6.block hkl)).trans ay.2.2.2.2.2.1,(Tg (hs6.block hkl)).trans ay.2.2.2.2.2.2.1,(Tg (hs6.block hkl)).trans ay.2.2.2.2.2.2.2.1,(Tg (hs6.block hkl)).trans ay.2.2.2.2.2.2.2.2.1,(Tg (hs6.block hkl)).trans ay.2.2.2.2.2.2.2.2.2.1,(Tg (hs6.block hkx)).trans ay.2.2.2.2.2.2.2.2.2.2.1,(Tg (hs6.block hkx)).trans ay.2.2.2.2.2.2.2.2.2.2.2⟩ (fun ay=> ?_);have ajk:=hs6.kept hkx;have GJ:=hs6.kept hkl;clear hK K yH hs6 ho6 hkx hkl;try simp only[bV]
 refine arO [8] ay ?_;simp only[ast]
 iterate 1 (refine arP ?_;try simp only[bP])
 refine cO 7 fun K hK=> ?_
 go_simp;refine(abj.af w6 _ (.slice ea_ s.aP.length ec_) s.aP JO.af (Yu.af.step) (by rw[<-Hef.af];exact HC.af.spec.aP) hfi).mono ?_;rintro e w7 ⟨f1,rfl,Nr,hs7,fG⟩;have EG:=aj Nr;have kT:=aj fG;have HP7:=aj (Yu.af.trans hs7);have ajl:=aj (zG.af.dS dN (fun g hg=>hs7.block ⟨(zG.af.lt g hg).2,by have:=(zG.af.lt g hg).1;have:=Nu.af.step.size;omega,fun hh=>by have:=HC.af.vL g hh;have:=(zG.af.lt g hg).1;have:=Nu.af.step.size;omega⟩));refine hK.af _ _ ⟨(Tg (hs7.block GJ)).trans ay.1,(Tg (hs7.block GJ)).trans ay.2.1,(Tg (hs7.block GJ)).trans ay.2.2.1,(Tg (hs7.block GJ)).trans ay.2.2.2.1,(Tg (hs7.block GJ)).trans ay.2.2.2.2.1,(Tg (hs7.block GJ)).trans ay.2.2.2.2.2.1,(Tg (hs7.block GJ)).trans ay.2.2.2.2.2.2.1,(Tg (hs7.block GJ)).trans ay.2.2.2.2.2.2.2.1,(Tg (hs7.block GJ)).trans ay.2.2.2.2.2.2.2.2.1,(Tg (hs7.block GJ)).trans ay.2.2.2.2.2.2.2.2.2.1,(Tg (hs7.block ajk)).trans ay.2.2.2.2.2.2.2.2.2.2.1,(Tg (hs7.block ajk)).trans ay.2.2.2.2.2.2.2.2.2.2.2⟩ (fun ay=> ?_);clear hK K Nr hs7 fG ajk GJ;try simp only[bV]
 obtain⟨ia_,ic_,hif⟩:=ajl.af.form;obtain⟨EM,EN,uL⟩:=kT.af.form;subst hif uL;have jK:Hid (w7.heap[ib]? =some (.cells (aW iv {eY with arT:=s.arT,ar4:=s.ar4,aF:=s.aF,aJ:=tl,ar6:=s.ar6 }) 44 (0,0))):=aj ((HP7.af.block (HC.af.IM wP hib)).trans HC.af.ix);have c11:w7.cell? (ak ib 11)=some (au):=by rw[aV jK.af,<-HIv.af.1];rfl
 have f11:w7.frozen? (ak ib 11)=false:=vV jK.af 11;have JH:=HP7.af.step.size;have hxi:w.heap.size≠ib:=wP;have Rf:lb≠ib:=wP;refine cO 9 fun K hK=> ?_
 go_simp;generalize hw8:w7.setCell ⟨ib,11,none⟩ (.slice ia_ (dL s y.ar2 s.asb (p,[])).2.length ic_)=w8;have nE:Step (fun b=>b≠ib) w7 w8:=by rw[<-hw8];exact(Step.refl _ w7).setCell (fun h=>h rfl) _
 have qy:Hid (w8.heap[ib]? =some (.cells (aW {iv with asb:=.slice ia_ (dL s y.ar2 s.asb (p,[])).2.length ic_ } {eY with arT:=s.arT,ar4:=s.ar4,aF:=s.aF,aJ:=tl,ar6:=s.ar6 }) 44 (0,0))):=aj (by rw[<-hw8];exact qc jK.af 11 _);have zu:=aj nE;refine hK.af _ _ ⟨(Tg (zu.af.block _ Rf)).trans ay.1,(Tg (zu.af.block _ Rf)).trans ay.2.1,(Tg (zu.af.block _ Rf)).trans ay.2.2.1,(Tg (zu.af.block _ Rf)).trans ay.2.2.2.1,(Tg (zu.af.block _ Rf)).trans ay.2.2.2.2.1,(Tg (zu.af.block _ Rf)).trans ay.2.2.2.2.2.1,(Tg (zu.af.block _ Rf)).trans ay.2.2.2.2.2.2.1,(Tg (zu.af.block _ Rf)).trans ay.2.2.2.2.2.2.2.1,(Tg (zu.af.block _ Rf)).trans ay.2.2.2.2.2.2.2.2.1,(Tg (zu.af.block _ Rf)).trans ay.2.2.2.2.2.2.2.2.2.1,(Tg (zu.af.block _ hxi)).trans ay.2.2.2.2.2.2.2.2.2.2.1,(Tg (zu.af.block _ hxi)).trans ay.2.2.2.2.2.2.2.2.2.2.2⟩ (fun ay=> ?_);clear hK K c11 f11 hw8 nE;try simp only[bV]
 refine E5 TA ?_ _;simp only[dU];clear ay;have c12:w8.cell? (ak ib 12)=some (au):=by rw[aV qy.af,<-HIv.af.2];rfl
 have f12:w8.frozen? (ak ib 12)=false:=vV qy.af 12;go_wp2_with fail;have kZ:Step (fun b=>b≠ib) w8 (w8.setCell ⟨ib,12,none⟩ (.slice EM (dL s y.ar2 s.aP ((dL s y.ar2 s.asb (p,[])).1,[])).2.length EN)):=(Step.refl _ w8).setCell (fun h=>h rfl) _;have hX9:(w8.setCell ⟨ib,12,none⟩ (.slice EM (dL s y.ar2 s.aP ((dL s y.ar2 s.asb (p,[])).1,[])).2.length EN)).heap[ib]? =some (.cells (aW {iv with asb:=.slice ia_ (dL s y.ar2 s.asb (p,[])).2.length ic_,aP:=.slice EM (dL s y.ar2 s.aP ((dL s y.ar2 s.asb (p,[])).1,[])).2.length EN } {eY with arT:=s.arT,ar4:=s.ar4,aF:=s.aF,aJ:=tl,ar6:=s.ar6,asb:=(dL s (aN s (aC s)).ar2 s.asb (p,[])).2,aP:=(dL s (aN s (aC s)).ar2 s.aP ((dL s (aN s (aC s)).ar2 s.asb (p,[])).1,[])).2 }) 44 (0,0)):=qc qy.af 12 _;have R5:Step (fun b=>b≠ib) w7 (w8.setCell ⟨ib,12,none⟩ (.slice EM (dL s y.ar2 s.aP ((dL s y.ar2 s.asb (p,[])).1,[])).2.length EN)):=zu.af.trans kZ;have hS:Step (fun b=>b<w5/\b≠ib/\b≠w.heap.size+2/\¬v.has b) w5 (w8.setCell ⟨ib,12,none⟩ (.slice EM (dL s y.ar2 s.aP ((dL s y.ar2 s.asb (p,[])).1,[])).2.length EN)):=(HP7.af.step.imp (fun b hb=>⟨hb.1,hb.2.2.1,hb.2.2.2⟩)).trans (R5.imp (fun b hb=>hb.2.1));have hM9:bB w.heap.size (w.heap.size+2) (w8.setCell ⟨ib,12,none⟩ (.slice EM (dL s y.ar2 s.aP ((dL s y.ar2 s.asb (p,[])).1,[])).2.length EN)) sv s own v _:=⟨(R5.block _ wP).trans EG.af.ex,EG.af.base,EG.af.av.dS ig (fun g hg=>R5.block g (by have:=HC.af.vL g (aH hg);omega)),EG.af.cells.dS kY (fun g hg=>R5.block g (by have:=HC.af.vL g (aZ (aH hg));omega)),EG.af.ar7.dS dN (fun g hg=>R5.block g (by have:=HC.af.vL g (aZ (aZ hg));omega))⟩;have hsz:(w8.setCell ⟨ib,12,none⟩ (.slice EM (dL s y.ar2 s.aP ((dL s y.ar2 s.asb (p,[])).1,[])).2.length EN)).heap.size=w8.heap.size:=arG;have Ps:=zu.af.size;have hzd:=Nu.af.step.size;have JN:=Yu.af.step.size;have hi1:LB dJ (fun b=>lb<b/\b<(w8.setCell ⟨ib,12,none⟩ (.slice EM (dL s y.ar2 s.aP ((dL s y.ar2 s.asb (p,[])).1,[])).2.length EN)).heap.size/\b≠ib) (w8.setCell ⟨ib,12,none⟩ (.slice EM (dL s y.ar2 s.aP ((dL s y.ar2 s.asb (p,[])).1,[])).2.length EN)) (.slice ia_ (dL s y.ar2 s.asb (p,[])).2.length ic_) (dL s y.ar2 s.asb (p,[])).2:=((aX.lb (ajl.af.fJ dN (E':=fun b=>b<wd) (fun g hg h=>by have:=(ajl.af.lt g hg).1;omega))).asa (fun b hb=>R5.block b (by have:=hb.2;omega))).imp (fun b hb=>⟨by have:=hb.2;omega,by have:=hb.1;omega,by have:=hb.2;omega⟩);have hj1:LB dJ (fun b=>lb<b/\b<(w8.setCell ⟨ib,12,none⟩ (.slice EM (dL s y.ar2 s.aP ((dL s y.ar2 s.asb (p,[])).1,[])).2.length EN)).heap.size/\b≠ib) (w8.setCell ⟨ib,12,none⟩ (.slice EM (dL s y.ar2 s.aP ((dL s y.ar2 s.asb (p,[])).1,[])).2.length EN)) (.slice EM (dL s y.ar2 s.aP ((dL s y.ar2 s.asb (p,[])).1,[])).2.length EN) (dL s y.ar2 s.aP ((dL s y.ar2 s.asb (p,[])).1,[])).2:=((aX.lb (kT.af.fJ dN (E':=fun b=>b<w6) (fun g hg h=>by have:=(kT.af.lt g hg).1;omega))).asa (fun b hb=>R5.block b (by have:=hb.2;omega))).imp (fun b hb=>⟨by have:=hb.2;omega,by have:=hb.1;omega,by have:=hb.2;omega⟩);have hr1:=Dc s y.ar2 Q9.af.abf s.asb (p,[]) (fun x hx=>by cases hx);have hr2:=Dc s y.ar2 Q9.af.abf s.aP ((dL s y.ar2 s.asb (p,[])).1,[]) (fun x hx=>by cases hx);exact HK.af _ _ _ _ ⟨TA,rfl,TA,TA,TA,TA,TA,TA,trivial⟩ (HC.af.goP hM9 hS hX9 {HC.af.abh hS with asb:=hi1,BH:=fun x hx=>by have:=hr1 x hx;unfold lH;omega,aP:=hj1,BI:=fun x hx=>by have:=hr2 x hx;unfold lH;omega })
def rD (s:aM):aA × List Int:=dL s (aN s (aC s)).ar2 s.asb (aC s,[])
def jG (s:aM):aA × List Int:=dL s (aN s (aC s)).ar2 s.aP ((rD s).1,[])
theorem Fu (s:aM) (ar2:List Int):∀(l:List (List UInt8)) (q:aA × List Int),(dL s ar2 l q).1.av=q.1.av/\(dL s ar2 l q).1.cells=q.1.cells/\(dL s ar2 l q).1.ar7=q.1.ar7/\(q.1.asj≠0->(dL s ar2 l q).1.asj≠0)
 | [],q=>⟨rfl,rfl,rfl,fun h=>h⟩
 | n :: l,q=>by
  unfold dL
  split
  ·exact Fu s ar2 l _
  ·obtain⟨h1,h2,h3,h4⟩:=Fu s ar2 l (q.1.fail 103,q.2)
   have e:∀p:aA,(p.fail 103).av=p.av/\(p.fail 103).cells=p.cells/\(p.fail 103).ar7=p.ar7:=fun p=>by unfold aA.fail;split<;>exact⟨rfl,rfl,rfl⟩
   exact⟨h1.trans (e _).1,h2.trans (e _).2.1,h3.trans (e _).2.2,fun h=>h4 (by show(q.1.fail 103).asj≠0;rw[XD h];exact h)⟩
theorem qz (s:aM):(jG s).1.av=(aC s).av/\(jG s).1.cells=(aC s).cells/\(jG s).1.ar7=(aC s).ar7:=by
 obtain⟨a1,a2,a3,_⟩:=Fu s (aN s (aC s)).ar2 s.aP ((rD s).1,[]);obtain⟨b1,b2,b3,_⟩:=Fu s (aN s (aC s)).ar2 s.asb (aC s,[]);exact⟨a1.trans b1,a2.trans b2,a3.trans b3⟩
def bM (s:aM):aA:={ (jG s).1 with av:=sM s (aN s (aC s)) (jG s).1.av }
def gW (s:aM):aA × List fu:=A8 s (aN s (aC s)) (bM s)
theorem wS (s:aM):gD s=if 512<s.ar2.length∨512<s.vars.length then (eY,104) else if (aC s).asj≠0 then (eY,(aC s).asj) else if (jG s).1.asj≠0 then (eY,(jG s).1.asj)
  else if 512<(aC s).av.length∨65536<(aN s (aC s)).data∨4096<(aN s (aC s)).bf then (eY,104)
  else if (gW s).2.all gJ=false then (eY,101)
  else if kH (yj s (aN s (aC s)) (rD s).2 (jG s).2 (gW s).1 (gW s).2)≠0 then (eY,kH (yj s (aN s (aC s)) (rD s).2 (jG s).2 (gW s).1 (gW s).2)) else (yj s (aN s (aC s)) (rD s).2 (jG s).2 (gW s).1 (gW s).2,0):=rfl
structure Zf (s:aM):Prop where
 lens:¬(512<s.ar2.length∨512<s.vars.length)
 check:(aC s).asj=0
 aP:(jG s).1.asj=0
 sizes:¬(512<(aC s).av.length∨65536<(aN s (aC s)).data∨4096<(aN s (aC s)).bf)
theorem bt5 {iv:jv} {im:bK} (hF:oP [(1,aQ w),(2,aQ (w+1)),(3,ah 0),(4,aQ (w+2)),(5,aQ lb),(6,aQ ib)] a) (hC:vk w sv s w5 own v (jG s).1 fv vv L0 lb ib iv im) (bT:pu s) (afK:¬(512<s.ar2.length∨512<s.vars.length)) (hck:(aC s).asj=0)
  (hK:Zf s->∀a' wc,oP [(1,aQ w),(2,aQ (w+1)),(3,ah 0),(4,aQ (w+2)),(5,aQ lb),(6,aQ ib)] a'->vk w sv s wc own v (jG s).1 fv vv L0 lb ib iv im->(bL Tryz.f6 11).wp asq (bodyPost asq Tryz.f6 (gN w s)) a' wc):(bL Tryz.f6 9).wp asq (bodyPost asq Tryz.f6 (gN w s)) a w5:=by
 have HK:=aj hK;have HC:=aj hC;have afL:=aj afK;have Hck:=aj hck;have hib:=hC.vP;have h0:=hC.h0;have Q9:=aj (zO bT (mU bT));have zM:=aj hC.rx;have c13:=hC.plan.c13;obtain⟨IP,IQ,mO⟩:=hC.plan.av.form;have c9:=hC.plan.c9;rw[mO,(qz s).1]at c9;have l8:=aD hC.lx 8 _ rfl;have l9:=aD hC.lx 9 _ rfl;have hsl:=mU bT;have hsl2:(aC s).av.length<=40000:=by unfold aA.sz at hsl;omega
 have hld:=Q9.af.data;have hlt:=Q9.af.bf;have GK:=aj (wS s);clear hC hK bT mO hsl;have e9:bL Tryz.f6 9=.seq (cZ Tryz.f6 9) (bL Tryz.f6 10):=fV _ 9 TA;have e10:bL Tryz.f6 10=.seq (cZ Tryz.f6 10) (bL Tryz.f6 11):=fV _ 10 TA;rw[e9,e10];clear e9 e10;apply z7O.elim hF;clear hF;intro _;intro V1;intro V2;intro V3;intro V4;intro V5;intro V6
 iterate 240 (intro _)
 intro hF;obtain⟨-,-,e1,e2,e3,e4,e5,e6,-⟩:=hF;replace e1:V1=aQ w:=e1;subst e1;replace e2:V2=aQ (w+1):=e2;subst e2;replace e3:V3=ah 0:=e3;subst e3;replace e4:V4=aQ (w+2):=e4;subst e4;replace e5:V5=aQ lb:=e5;subst e5;replace e6:V6=aQ ib:=e6;subst e6
 conv in cZ _ 9=>whnf
 conv in cZ _ 10=>whnf
 by_cases hf:(jG s).1.asj=0
 ·have hfb:((jG s).1.asj != 0)=false:=by simp[hf]
  have Hf:=aj hf;clear hf afK hck;by_cases hz:512<(aC s).av.length∨65536<(aN s (aC s)).data∨4096<(aN s (aC s)).bf
  ·have HE:Hid (gD s=(eY,104)):=aj (by rw[GK.af,if_neg afL.af,if_neg (by rw[Hck.af];exact fun h=>h rfl),if_neg (by rw[Hf.af];exact fun h=>h rfl),if_pos hz])
   generalize hS:(aC s).av.length=sl at *;generalize hD:(aN s (aC s)).data=dd at *;generalize hT:(aN s (aC s)).bf=tt at *;clear hS hD hT;by_cases h1:512<sl
   ·have h1':(512:Int)<(sl:Int):=wP
    clear hz;go_wp2_with (refine Bv rfl 44 (.tmp 2) (.tmp 110) rfl (w.heap.size+1) #[aK,.int .i64 0,au,au,au,au,au,au,.int .i64 0,au,au,au,au,au,.int .i64 0] rfl rfl _ _ zM.af TA rfl (by simp[Value.oneCell']) ?_);go_wp2_with fail;have FR:=aj (TL _ (w.heap.size+1) _ arJ _ _ zM.af);refine qE (fT rfl _ _ (w.heap.size+1) _ _ _ _ rfl FR.af Tryz.underlying44 rfl TA) rfl ?_;exact rC HE.af (below_setRow HC.af.low _ _ wP)
   ·have h1':¬(512:Int)<(sl:Int):=wP
    by_cases h2:65536<dd
    ·clear hz
     go_wp2_with (refine Bv rfl 44 (.tmp 2) (.tmp 110) rfl (w.heap.size+1) #[aK,.int .i64 0,au,au,au,au,au,au,.int .i64 0,au,au,au,au,au,.int .i64 0] rfl rfl _ _ zM.af TA rfl (by simp[Value.oneCell']) ?_);go_wp2_with fail;have FR:=aj (TL _ (w.heap.size+1) _ arJ _ _ zM.af);refine qE (fT rfl _ _ (w.heap.size+1) _ _ _ _ rfl FR.af Tryz.underlying44 rfl TA) rfl ?_;exact rC HE.af (below_setRow HC.af.low _ _ wP)
    ·have h3:4096<tt:=wP
     clear hz;go_wp2_with (refine Bv rfl 44 (.tmp 2) (.tmp 110) rfl (w.heap.size+1) #[aK,.int .i64 0,au,au,au,au,au,au,.int .i64 0,au,au,au,au,au,.int .i64 0] rfl rfl _ _ zM.af TA rfl (by simp[Value.oneCell']) ?_);go_wp2_with fail;have FR:=aj (TL _ (w.heap.size+1) _ arJ _ _ zM.af);refine qE (fT rfl _ _ (w.heap.size+1) _ _ _ _ rfl FR.af Tryz.underlying44 rfl TA) rfl ?_;exact rC HE.af (below_setRow HC.af.low _ _ wP)
  ·have Hz:=aj hz
   have h1':¬(512:Int)<((aC s).av.length:Int):=wP;have h2:¬65536<(aN s (aC s)).data:=wP;have h3:¬4096<(aN s (aC s)).bf:=wP;clear hz;go_wp2_with fail;exact HK.af ⟨afL.af,Hck.af,Hf.af,Hz.af⟩ _ w5 ⟨TA,rfl,TA,TA,TA,TA,TA,TA,trivial⟩ HC.af
 ·have hfb:((jG s).1.asj != 0)=true:=by simp[hf]
  have HE:Hid (gD s=(eY,(jG s).1.asj)):=aj (by rw[GK.af,if_neg afL.af,if_neg (by rw[Hck.af];exact fun h=>h rfl),if_pos hf]);have mQ:=aj HC.af.low;clear HC HK GK hck afK;generalize (jG s).1.asj=ft at *;clear hf;go_upto_region 16 with fail
  refine bA 6 TA TA ?_;simp only[ji];refine P8 (S:=fun w':World=>w'.cell? (ak (w+2) 13)=some (ah ft)) _ _ _ _ ?_;have ay:(fun w':World=>w'.cell? (ak (w+2) 13)=some (ah ft)) (World.drew w5):=(c13);refine asr ?_;have HRd:Hid ((World.drew w5).heap[w.heap.size+1]? =some (aB arJ 44)):=aj zM.af;have qU:=aj (mQ.af.drew);clear c13 c9 l8 l9;generalize (World.drew w5)=wd at HRd qU ay ⊢;refine arS 0 ay ?_;simp only[bV];refine arS 1 ay ?_;simp only[bV];refine arS 2 ay ?_;simp only[bV];refine arS 3 ay ?_;simp only[bV];refine arS 4 ay ?_;simp only[bV];refine cO 5 fun K hK=> ?_
  refine wp_store_row 44 (.tmp 2) (.tmp 89) rfl (w.heap.size+1) #[aK,.int .i64 0,au,au,au,au,au,au,.int .i64 0,au,au,au,au,au,.int .i64 0] rfl rfl _ _ HRd.af TA rfl (by simp[Value.oneCell']) ?_;refine hK.af _ _ ((Tg (cu _ (w.heap.size+1) (w.heap.size+2) _ wP)).trans ay) (fun ay=> ?_);clear hK K;try simp only[bV]
  refine E5 TA ?_ _;simp only[dU];clear ay;go_wp2_with fail;have FR:=aj (TL _ (w.heap.size+1) _ arJ _ _ HRd.af);refine qE (fT rfl _ _ (w.heap.size+1) _ _ _ _ rfl FR.af Tryz.underlying44 rfl TA) rfl ?_;exact rC HE.af (below_setRow qU.af _ _ wP)
end Go.Proofs.YtpjgjeadjjackaaGreat
