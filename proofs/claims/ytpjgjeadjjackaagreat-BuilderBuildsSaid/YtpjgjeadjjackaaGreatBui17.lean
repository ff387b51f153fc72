/- Lemmas. -/
import Derived.Test.YtpjgjeadjjackaaGreatBui14
import Derived.Test.YtpjgjeadjjackaaGreatBui3
import Derived.Test.YtpjgjeadjjackaaGreatBui11
import Derived.Test.YtpjgjeadjjackaaGreatBui12
import Derived.Test.YtpjgjeadjjackaaGreatBui9
import Derived.Deep.DeepCutAuto
import Derived.StillTailTactics
import Derived.IntWalk
set_option linter.unusedVariables false
set_option linter.unusedSimpArgs false
set_option maxHeartbeats 64000000
set_option maxRecDepth 100000
namespace Go.Proofs.YtpjgjeadjjackaaGreat
open Go.RowKit
open Go.Proofs.Tryz renaming prog->asq
open _root_.Bool renaming and_true->Pw
open Go renaming heap_alloc_new->ah2,heap_alloc_old->dX,wpAny_of_held->P8,wpAnyH_done->E5,info_parts->dM
open Go.IntWalk renaming i64_in->iJ
open Go.Lib renaming frozen_of_heap->vV,cell_of_heap->aV
open Go.RowKit.Below renaming refl->PZ
open Go.World renaming cell?_of_block->Tg
open _root_.List renaming length_append->Kk,flatMap_append->j5,length_nil->aR,append_nil->Y8,length_replicate->u6,mem_cons_of_mem->uT,mem_cons->Y1,mem_append->D5,mem_cons_self->oh,append_assoc->Sq,not_mem_nil->nW,length_cons->oF,getElem?_eq_some_iff->Sm,getElem?_eq_getElem->gP,mem_singleton->tY,findIdx?_eq_some_iff_findIdx_eq->ahN,flatMap_cons->KF,take_of_length_le->dh,findIdx?_eq_some_iff_getElem->Ig,all_cons->Px,foldl_cons->nY,all_nil->Py,take_add_one->Qc,drop_eq_getElem_cons->Cf,take_append_drop->jf,getElem?_of_mem->ahO,mem_of_getElem?->dH,ext_getElem?->DI,all_append->ahP,mem_map->PM
open _root_.Nat renaming le_refl->oD,le_trans->eG,le_of_not_lt->J8,zero_le->alg,mul_one->Uh
open _root_.Option.some renaming inj->qY
open _root_.Or renaming inr->aZ,inl->aH
variable {s:aM}{w w5:World}{sv:bN}{a:Act}{own x m:Int}{v:bG}{fv vv:Value}{lb ib k:Nat}{iv dO:jv}{im gY:bK}{A:Nat->Prop}{p q:aA}{ar1:List (List UInt8)}{n:List UInt8}{y:pK}
theorem wT (s:aM):(gW s).1=bM s/\∀l∈s.ar5,mK (bM s) l:=by
 have h:∀l∈s.ar5,mK (bM s) l:=fun l hl=>((uE s).ar5 l hl).bare (by
  unfold bM;rw[EX,(qz s).1]) (qz s).2.1 (qz s).2.2
 refine⟨?_,h⟩;unfold gW A8;exact(nC (ar1:=s.ar1) (y:=aN s (aC s)) (p:=bM s) s.ar5 [] h).1
theorem vQ (bT:pu s):(bM s).sz<=40000/\(jG s).1.sz<=40000:=by
 have h:=mU bT;obtain⟨e1,e2,e3⟩:=qz s;have e4:(jG s).1.sz=(aC s).sz:=by unfold aA.sz;rw[e1,e2,e3]
 have e5:(bM s).sz=(jG s).1.sz:=by unfold aA.sz bM;simp only[NV]
 omega
theorem Pv (bT:pu s):(gW s).2.length<=200000:=by
 obtain⟨h1,h2⟩:=wT s;have h3:=nC (ar1:=s.ar1) (y:=aN s (aC s)) (p:=bM s) s.ar5 [] h2;have h4:=ou s.ar5;have h5:=bT.ar5;have h6:=(vQ bT).1;have h7:=(Kq (aN s (aC s)).bW (bM s).ar7.length 0 (iD s.ar1 (aN s (aC s)) s.ar5 (bM s,[])).2).1
 have e:(gW s).2=jS (aN s (aC s)).bW 0 (bM s).ar7.length (iD s.ar1 (aN s (aC s)) s.ar5 (bM s,[])).2:=by
  unfold gW A8;simp only[h3.1]
 rw[e,h7];have h8:=h3.2;simp only[aR]at h8;unfold aA.sz at h6;omega
structure pR (w:World) (sv:bN) (s:aM) (wc:World) (own:Int) (v:bG) (fv vv:Value) (lb ib:Nat) (dO:jv) (gY:bK) (iv:jv) (im:bK) (A:Nat->Prop):Prop where
 plan:bB w.heap.size (w.heap.size+2) wc sv s own v (bM s)
 spec:gB (·<w.heap.size) w sv s
 low:Below w w wc
 sx:wc.heap[w.heap.size]? =some (aB #[ax s.arT,ah s.ar4,sv.ar6,sv.aF,sv.ar2,sv.vars,sv.ar1,sv.asb,sv.aP] 28)
 rx:wc.heap[w.heap.size+1]? =some (aB arJ 44)
 vI:¬v.has ib
 vR:¬v.has (w.heap.size+1)
 h0:w.heap.size+2<lb/\lb<ib
 vP:ib<wc
 lx:wc.heap[lb]? =some (.cells (kS (w.heap.size+2) fv vv ⟨(aN s (aC s)).aS,(aN s (aC s)).got,(aN s (aC s)).bW,(aN s (aC s)).aS+24*(aC s).ar7.length,(aN s (aC s)).data,(aN s (aC s)).bf⟩).toArray 77 (0,0))
 vl:LB dJ (·<lb) wc vv (aN s (aC s)).vars
 fl:∃fa fc,fv=.slice fa (aN s (aC s)).ar2.length fc
 ix:wc.heap[ib]? =some (.cells (aW dO gY) 44 (0,0))
 img:su A wc iv im
 hA:∀b,A b->lb<b/\b<wc.heap.size/\b≠ib
section
variable {w : World} {sv : bN} {s : aM} {wc w' : World} {own : Int} {v : bG} {fv vv : Value} {lb ib : Nat} {dO iv abk GH : jv} {gY im abl im' : bK} {A A' : Nat -> Prop}
theorem pR.goX (h:pR w sv s wc own v fv vv lb ib dO gY iv im A) {G:Nat->Prop} (hG:∀b,G b->lb<b/\¬v.has b) (hs:Step (fun b=>b<wc.heap.size/\b≠ib/\¬G b) wc w') (hx:w'.heap[ib]? =some (.cells (aW abk abl) 44 (0,0))) (hi:su A' w' GH im') (hA:∀b,A' b->lb<b/\b<w'.heap.size/\b≠ib):pR w sv s w' own v fv vv lb ib abk abl GH im' A':=by
 have h0:=h.h0;have hl:=h.vP;have hz:=hs.size;have hpl:=h.plan.lt;have nG:∀b,b<=lb->¬G b:=fun b hb hg=>by have:=(hG b hg).1;omega
 refine⟨⟨(hs.block _ ⟨hpl,wP,nG _ wP⟩).trans h.plan.ex,h.plan.base,?_,?_,?_⟩,h.spec,?_,?_,?_,h.vI,h.vR,h.h0,wP,?_,?_,h.fl,hx,hi,hA⟩
 ·exact h.plan.av.dS ig (fun g hg=>hs.block g ⟨(h.plan.av.lt g hg).2,fun e=>h.vI (aH (e ▸ hg)),fun hh=>(hG g hh).2 (aH hg)⟩)
 ·exact h.plan.cells.dS kY (fun g hg=>hs.block g ⟨(h.plan.cells.lt g hg).2,fun e=>h.vI (aZ (aH (e ▸ hg))),fun hh=>(hG g hh).2 (aZ (aH hg))⟩)
 ·exact h.plan.ar7.dS dN (fun g hg=>hs.block g ⟨(h.plan.ar7.lt g hg).2,fun e=>h.vI (aZ (aZ (e ▸ hg))),fun hh=>(hG g hh).2 (aZ (aZ hg))⟩)
 ·exact h.low.trans ((hs.imp (S':=(·<w.heap.size)) (fun b hb=>by have hb:b<w:=hb;exact⟨wP,wP,nG b wP⟩)).below)
 ·exact(hs.block _ ⟨wP,wP,nG _ wP⟩).trans h.sx
 ·exact(hs.block _ ⟨wP,wP,nG _ wP⟩).trans h.rx
 ·exact(hs.block _ ⟨wP,wP,nG _ (oD _)⟩).trans h.lx
 ·exact h.vl.asa (fun b hb=>hs.block b (by have hb:b<lb:=hb;exact⟨wP,wP,nG b wP⟩))
theorem pR.go (h:pR w sv s wc own v fv vv lb ib dO gY iv im A) (hs:Step (fun b=>b<wc/\b≠ib) wc w') (hx:w'.heap[ib]? =some (.cells (aW abk abl) 44 (0,0))) (hi:su A' w' GH im') (hA:∀b,A' b->lb<b/\b<w'.heap.size/\b≠ib):pR w sv s w' own v fv vv lb ib abk abl GH im' A':=
 h.goX (G:=fun _=>False) (fun _ h=>h.elim) (hs.imp (fun b hb=>⟨hb.1,hb.2.1⟩)) hx hi hA
theorem pR.AU (h:pR w sv s wc own v fv vv lb ib dO gY iv im A) (hs:Step (fun b=>b<wc/\b≠ib) wc w'):su A w' iv im:=
 h.img.asa (fun b hb=>hs.block b (h.hA b hb).2)
theorem pR.hA' (h:pR w sv s wc own v fv vv lb ib dO gY iv im A) (hz:wc.heap.size<=w'):∀b,A b->lb<b/\b<w'.heap.size/\b≠ib:=fun b hb=>by
 have:=h.hA b hb;exact⟨this.1,wP,this.2.2⟩
theorem pR.dW (h:pR w sv s wc own v fv vv lb ib dO gY iv im A) (hb:Below wc wc w'):pR w sv s w' own v fv vv lb ib dO gY iv im A:=by
 have hs:Step (fun b=>b<wc/\b≠ib) wc w':=(Step.of_below hb).imp (fun b hb=>hb.1);exact h.go hs ((hb.block ib h.vP).trans h.ix) (h.AU hs) (h.hA' hb.size)
theorem pR.Pt (h:pR w sv s wc own v fv vv lb ib dO gY iv im A):gB (·<w.heap.size) wc sv s:=h.spec.asa (.of_below h.low)
end
theorem bt6 {L0:Nat} (hF:oP [(1,aQ w),(2,aQ (w+1)),(3,ah 0),(4,aQ (w+2)),(5,aQ lb),(6,aQ ib)] a) (hC:vk w sv s w5 own v (jG s).1 fv vv L0 lb ib iv im) (bT:pu s) (hso:Zf s)
  (hK:(gW s).2.all gJ=true->∀a' wc v' tx N1,oP [(1,aQ w),(2,aQ (w+1)),(3,ah 0),(4,aQ (w+2)),(5,aQ lb),(6,aQ ib),(9,tx)] a'->pR w sv s wc own v' fv vv lb ib iv im iv im (fun b=>lb<b/\b<N1/\b≠ib)->(∀b,v'.has b->b<N1)->aX 5 fq N1 (fun _=>False) wc tx (ky (gW s).2)->ib<N1->N1<=wc.heap.size->(bL Tryz.f6 14).wp asq (bodyPost asq Tryz.f6 (gN w s)) a' wc):(bL Tryz.f6 11).wp asq (bodyPost asq Tryz.f6 (gN w s)) a w5:=by
 have HK:=aj hK;have HC:=aj hC;have tQ:=aj hso;have hib:=hC.vP;have h0:=hC.h0;have hbd:=zO bT (mU bT);have Q9:=aj hbd;have Hil:=aj (Pv bT);have hps:=vQ bT;obtain⟨fa,fc,lZ⟩:=hC.fl.form;obtain⟨va,vc,hvf⟩:=hC.vl.form;have hks:∀b,(L0<=b/\b<lb)->Kept (w.heap.size+2) v w5 b:=fun b hb=>hC.IM hb.1 wP
 have afM:=aj (ab7 (y:=⟨(aN s (aC s)).aS,(aN s (aC s)).got,(aN s (aC s)).bW,(aN s (aC s)).aS+24*(aC s).ar7.length,(aN s (aC s)).data,(aN s (aC s)).bf⟩) (aN s (aC s)) rfl hC.plan hC.Pt wP (hC.fl.imp hks) (hC.vl.imp hks) hbd.ar2 hbd.vars (by rw[(qz s).1];exact J9 s) hbd.abf hbd.afC bT.ar2 bT.vars bT.ar8 (by have:=hbd.aS;show 0<=(aN s (aC s)).aS/\(aN s (aC s)).aS<=25000000;omega) wP)
 have ajm:Hid (∀wx,bB w.heap.size (w.heap.size+2) wx sv s own v (bM s)->gB (·<w.heap.size) wx sv s->w.heap.size<=wx->Calls asq 16 #[.agg (kS (w.heap.size+2) fv vv ⟨(aN s (aC s)).aS,(aN s (aC s)).got,(aN s (aC s)).bW,(aN s (aC s)).aS+24*(aC s).ar7.length,(aN s (aC s)).data,(aN s (aC s)).bf⟩).toArray] wx (acJ w.heap.size (w.heap.size+2) sv s own v wx (bM s) (gW s).2)):=aj (fun wx hM hS hz=>
  ahp fa _ fc va _ vc lZ hvf (aN s (aC s)) ⟨rfl,rfl,rfl⟩ hM hS hz (wT s).2 bT.ar2 bT.ar5 wP (by have:=hbd.got;show 0<=(aN s (aC s)).got/\(aN s (aC s)).got<=25000000;omega) (by have:=hbd.aS;show 0<=(aN s (aC s)).aS/\(aN s (aC s)).aS<=25000000;omega) (by have:=hbd.bW;show 0<=(aN s (aC s)).bW/\(aN s (aC s)).bW<=50000000;omega))
 have Oo:=aj lZ;have GK:=aj (wS s);have Hlx:=aj hC.lx;subst lZ hvf;have qV:Hid (w5.heap[lb]? =some (aB #[aQ (w+2),.slice fa (aN s (aC s)).ar2.length fc,.slice va (aN s (aC s)).vars.length vc,ah (aN s (aC s)).aS,ah (aN s (aC s)).got,ah (aN s (aC s)).bW,ah 0,ah ((aN s (aC s)).aS+24*(aC s).ar7.length),ah (aN s (aC s)).data,ah (aN s (aC s)).bf] 77)):=aj Hlx.af;clear hC hK bT hso hbd hks hps Hlx;unfold kS at afM ajm;have e11:bL Tryz.f6 11=.seq (cZ Tryz.f6 11) (bL Tryz.f6 12):=fV _ 11 TA;have e12:bL Tryz.f6 12=.seq (cZ Tryz.f6 12) (bL Tryz.f6 13):=fV _ 12 TA;have e13:bL Tryz.f6 13=.seq (cZ Tryz.f6 13) (bL Tryz.f6 14):=fV _ 13 TA;rw[e11,e12,e13];clear e11 e12 e13;apply z7O.elim hF;clear hF;intro _;intro V1;intro V2;intro V3;intro V4;intro V5;intro V6
 iterate 240 (intro _)
 intro hF;obtain⟨-,-,e1,e2,e3,e4,e5,e6,-⟩:=hF;replace e1:V1=aQ w:=e1;subst e1;replace e2:V2=aQ (w+1):=e2;subst e2;replace e3:V3=ah 0:=e3;subst e3;replace e4:V4=aQ (w+2):=e4;subst e4;replace e5:V5=aQ lb:=e5;subst e5;replace e6:V6=aQ ib:=e6;subst e6
 conv in cZ _ 11=>whnf
 conv in cZ _ 12=>whnf
 conv in cZ _ 13=>whnf
 have l0:=aD qV.af 0 _ rfl;have l1:=aD qV.af 1 _ rfl;have l2:=aD qV.af 2 _ rfl;have l3:=aD qV.af 3 _ rfl;have l4:=aD qV.af 4 _ rfl;have l5:=aD qV.af 5 _ rfl;have l6:=aD qV.af 6 _ rfl;have l7:=aD qV.af 7 _ rfl;have l8:=aD qV.af 8 _ rfl;have l9:=aD qV.af 9 _ rfl;go_wp2_with fail;refine afM.af.mono ?_;rintro e w6 ⟨rfl,yH,hs6⟩;have oK:Hid (vk w sv s w6 own v (bM s) _ _ L0 lb ib iv im):=aj (HC.af.goP (w':=w6) yH (hs6.step.imp (fun b hb=>⟨hb.1,hb.2.2.1,hb.2.2.2⟩)) ((hs6.block (HC.af.IM wP hib)).trans HC.af.ix) (HC.af.abh (hs6.step.imp (fun b hb=>⟨hb.1,hb.2.2.1,hb.2.2.2⟩))));have sD:Hid (w6.heap[lb]? =some (aB #[aQ (w+2),.slice fa (aN s (aC s)).ar2.length fc,.slice va (aN s (aC s)).vars.length vc,ah (aN s (aC s)).aS,ah (aN s (aC s)).got,ah (aN s (aC s)).bW,ah 0,ah ((aN s (aC s)).aS+24*(aC s).ar7.length),ah (aN s (aC s)).data,ah (aN s (aC s)).bf] 77)):=aj oK.af.lx;clear yH hs6 l0 l1 l2 l3 l4 l5 l6 l7 l8 l9 afM HC qV;have l0:=aD sD.af 0 _ rfl;have l1:=aD sD.af 1 _ rfl;have l2:=aD sD.af 2 _ rfl;have l3:=aD sD.af 3 _ rfl;have l4:=aD sD.af 4 _ rfl;have l5:=aD sD.af 5 _ rfl;have l6:=aD sD.af 6 _ rfl;have l7:=aD sD.af 7 _ rfl;have l8:=aD sD.af 8 _ rfl;have l9:=aD sD.af 9 _ rfl;have apt:=oK.af.vP;have amw:=aj (ajm.af w6 oK.af.plan oK.af.Pt wP);clear ajm;go_wp2_with fail;refine amw.af.mono ?_;rintro e w7 ⟨v7,r7,rfl,Nr,hs7,fG,hk7⟩;have hki:=oK.af.IM (b:=ib) wP apt;have hkl:=oK.af.IM (b:=lb) wP wP;have JH:=hs7.step.size;have nl:∀b,L0<=b->¬v.has b:=fun b hb hh=>by have:=oK.af.vL b hh;omega
 have nb:∀b,b<w.heap.size->¬v.has b:=fun b hb hh=>by have:=(oK.af.plan.qf hh).1;omega
 have H7:Hid (pR w sv s w7 own v7 _ _ lb ib iv im iv im (fun b=>lb<b/\b<w7/\b≠ib)):=aj ⟨Nr,oK.af.spec,oK.af.low.trans ((hs7.step.imp (S':=(·<w.heap.size)) (fun b hb=>⟨by have hb:b<w:=hb;omega,by have hb:b<w:=hb;omega,nb b hb⟩)).below),(hs7.block oK.af.akj).trans oK.af.sx,(hs7.block oK.af.akk).trans oK.af.rx,(hs7.kept hki).no,(hs7.kept oK.af.akk).no,⟨wP,wP⟩,wP,(hs7.block hkl).trans oK.af.lx,(oK.af.vl.asa (fun b hb=>hs7.block (oK.af.IM hb.1 wP))).imp (fun b hb=>hb.2),⟨fa,fc,rfl⟩,(hs7.block hki).trans oK.af.ix,(oK.af.img.asa (fun b hb=>hs7.block (oK.af.IM wP hb.2.1))).imp (fun b hb=>⟨wP,wP,hb.2.2⟩),fun b hb=>hb⟩;have HV7:Hid (∀b,v7.has b->b<w7.heap.size):=aj (fun b hb=>(Nr.qf hb).2.1);obtain⟨vz,vB,hrf⟩:=fG.form;have kT:=aj fG;subst hrf;have ajn:=aj (adA w7 _ (gW s).2 fG.lb (fun b hb=>hb.1) (by have:=Hil.af;omega));clear Nr hs7 fG hk7 hki hkl nl nb l0 l1 l2 l3 l4 l5 l6 l7 l8 l9 amw;obtain ⟨ins,hins⟩:=aiG ((gW s).2);have arl:=aj hins;rw[<-hins]at ajn HK GK kT ⊢;clear hins;go_wp2_with fail;refine ajn.af.mono ?_;rintro e w8 ⟨r8,rfl,nH,oQ⟩;have H8:=aj (H7.af.dW nH);have Ho8:=aj oQ;have Ps:=nH.size;clear nH oQ ajn H7;by_cases hal:ins.all gJ=true
 ·have hif:(if ins.all gJ=true then (0:Int) else 40)=0:=if_pos hal
  rw[hif];have Hal:=aj hal;clear hal hif;go_wp2_with fail;exact HK.af Hal.af _ w8 v7 r8 w7.heap.size ⟨TA,rfl,TA,TA,TA,TA,TA,TA,TA,trivial⟩ H8.af HV7.af (Ho8.af Hal.af) wP Ps
 ·have hif:(if ins.all gJ=true then (0:Int) else 40)=40:=if_neg hal
  rw[hif];have HE:Hid (gD s=(eY,101)):=aj (by rw[GK.af,if_neg tQ.af.lens,if_neg (by rw[tQ.af.check];exact fun h=>h rfl),if_neg (by rw[tQ.af.aP];exact fun h=>h rfl),if_neg tQ.af.sizes,if_pos (by simpa using hal)]);clear hal hif;go_wp2_with (refine wpList_store_row rfl 44 (.tmp 2) (.tmp 121) rfl (w.heap.size+1) #[aK,.int .i64 0,au,au,au,au,au,au,.int .i64 0,au,au,au,au,au,.int .i64 0] rfl rfl _ _ H8.af.rx TA rfl (by simp[Value.oneCell']) ?_);go_wp2_with fail;have FR:=aj (setRow_heap _ (w.heap.size+1) _ arJ _ _ H8.af.rx);refine bodyPost_ret (fT rfl _ _ (w.heap.size+1) _ _ _ _ rfl FR.af Tryz.underlying44 rfl TA) rfl ?_;exact rC HE.af (below_setRow H8.af.low _ _ wP)
theorem Eh:(Tryz.prog.info? 68).map (fun i=>(i.zero,i.size,i.bytes))=some (some (.agg #[ah 0,ah 0,au,ah 0]),4,48):=TA
theorem Rh (bT:pu s):(ky (gW s).2).length<=1600000:=by
 rw[OE];have:=Pv bT;omega
def Jn (s:aM):lS:=⟨0,max 1 (ky (gW s).2).length,ky (gW s).2,5⟩
theorem bt7 {tx:Value} {N1:Nat} (hF:oP [(1,aQ w),(2,aQ (w+1)),(3,ah 0),(4,aQ (w+2)),(5,aQ lb),(6,aQ ib),(9,tx)] a) (hC:pR w sv s w5 own v fv vv lb ib dO gY iv im A) (bT:pu s) (hT:aX 5 fq N1 (fun _=>False) w5 tx (ky (gW s).2)) (hN:ib<N1) (hN2:N1<=w5) (hsg:dO.aI=au)
  (hK:∀a' wc u,oP [(1,aQ w),(2,aQ (w+1)),(3,ah 0),(4,aQ (w+2)),(5,aQ lb),(6,aQ ib)] a'->pR w sv s wc own v fv vv lb ib {dO with aI:=u } gY iv im A->w5.heap.size<=wc->aX 68 CZ N1 (fun b=>b<N1) wc u [Jn s]->(bL Tryz.f6 15).wp asq (bodyPost asq Tryz.f6 (gN w s)) a' wc):(bL Tryz.f6 14).wp asq (bodyPost asq Tryz.f6 (gN w s)) a w5:=by
 have HK:=aj hK;have HC:=aj hC;have HT:=aj hT;have hib:=hC.vP;have h0:=hC.h0;have hcs:=Rh bT;obtain⟨uO,uP,Nw⟩:=hT.form;obtain ⟨n,hn⟩:=aiG ((ky (gW s).2).length);have kF:Hid (w5.heap[ib]? =some (aB #[ax gY.arT,ah gY.ar4,au,dO.ar6,dO.aF,dO.av,dO.ar9,dO.ar8,ah gY.ase,dO.aO,dO.asf,dO.asb,dO.aP,dO.bf,ah gY.aJ] 44)):=aj (by have h:=hC.ix;unfold aW at h;rwa [hsg]at h);rw[<-hn]at Nw hcs;subst Nw;obtain ⟨x0,hx0⟩:=aiG (Jn s);have Zx:=aj hx0;have hxs:x0.size=max 1 (n:Int):=by rw[hx0,hn];rfl
 have Hxx:Hid (x0.at_=0/\x0.perm=5/\x0.bytes=ky (gW s).2):=aj (by rw[hx0];exact⟨rfl,rfl,rfl⟩);rw[<-hx0]at HK;clear hC hK bT hT hsg hn hx0;have e14:bL Tryz.f6 14=.seq (cZ Tryz.f6 14) (bL Tryz.f6 15):=fV _ 14 TA;rw[e14];clear e14;apply z7O.elim hF;clear hF;intro _;intro V1;intro V2;intro V3;intro V4;intro V5;intro V6;intro _ _;intro V9
 iterate 237 (intro _)
 intro hF;obtain⟨-,-,e1,e2,e3,e4,e5,e6,e9,-⟩:=hF;replace e1:V1=aQ w:=e1;subst e1;replace e2:V2=aQ (w+1):=e2;subst e2;replace e3:V3=ah 0:=e3;subst e3;replace e4:V4=aQ (w+2):=e4;subst e4;replace e5:V5=aQ lb:=e5;subst e5;replace e6:V6=aQ ib:=e6;subst e6;replace e9:V9=.slice uO n uP:=e9;subst e9
 conv in cZ _ 14=>whnf
 have i2:w5.cell? (ak ib 2)=some (au):=aL kF.af rfl;obtain ⟨sz,hsz⟩:=aiG x0.size;rw[<-hsz]at hxs;have lX:=aj hsz;clear hsz;have HN0:=aj ((aX.nil 68 CZ N1 (fun b=>b<N1) w5).alloc (aB #[ah 0,ah sz,.slice uO n uP,ah 5] 68));have BS:=aj ((dX w5 (aB #[ah 0,ah sz,.slice uO n uP,ah 5] 68) (r:=ib) hib).trans kF.af);have DC:=aj (ah2 w5 (aB #[ah 0,ah sz,.slice uO n uP,ah 5] 68));have HTb:=aj (HT.af.alloc (aB #[ah 0,ah sz,.slice uO n uP,ah 5] 68));have ND:=aj ((Step.refl (fun b=>b<w5/\b≠ib) w5).alloc (fun b hb=>hb.1) (aB #[ah 0,ah sz,.slice uO n uP,ah 5] 68));have lh:Hid ((w5.alloc (aB #[ah 0,ah sz,.slice uO n uP,ah 5] 68)).heap.size=w5.heap.size+1):=aj arG;have pq:Hid (CZ.R (fun b=>b<(w5.alloc (aB #[ah 0,ah sz,.slice uO n uP,ah 5] 68))/\¬b<N1/\(Value.slice none 0 0).ownBlock≠some b) (w5.alloc (aB #[ah 0,ah sz,.slice uO n uP,ah 5] 68)) x0 [ah 0,ah sz,.slice uO n uP,ah 5]):=aj ⟨.slice uO n uP,by rw[Hxx.af.1,Hxx.af.2.1,<-lX.af],by rw[Hxx.af.2.2];exact(aX.QO (HTb.af.fJ jd (E':=fun b=>b<N1) (fun g hg h=>by have:=(HTb.af.lt g hg).1;omega))).imp (fun b hb=>⟨hb.1,hb.2,by simp[Value.ownBlock]⟩)⟩;have hE:∀b,b<N1->b<(w5.alloc (aB #[ah 0,ah sz,.slice uO n uP,ah 5] 68)).heap.size:=fun b hb=>by rw[lh.af];omega
 have HE:=aj hE;have HW1:Hid (N1<=(w5.alloc (aB #[ah 0,ah sz,.slice uO n uP,ah 5] 68))):=aj (by rw[lh.af];omega);clear hE;rcases (by omega:¬(1:Int)<(n:Int)∨(1:Int)<(n:Int))with h1 | h1
 ·obtain rfl:sz=1:=wP
  clear hxs;go_wp2_with (at_builtin;go_loud (refine fZ (K:=CZ) (v:=au) (l:=[]) (E:=fun b=>b<N1) (B:=N1) 31 _ 48 Tryz.underlying31 Eh rfl abD rfl (.tmp 123) (.tmp 129) rfl 0 rfl rfl HN0.af HE.af w5.heap.size x0 [ah 0,ah 1,.slice uO n uP,ah 5] rfl (aD DC.af) (fun u hu=>by simp only[Y1,nW,or_false]at hu;rcases hu with rfl | rfl | rfl | rfl<;>rfl) pq.af abD abD HW1.af ?_));intro g7 c7 w7 fG hs7 uf;have abm:Step (fun b=>b<w5/\b≠ib) (w5.alloc (aB #[ah 0,ah 1,.slice uO n uP,ah 5] 68)) w7:=hs7.imp (fun b hb=>⟨by first | (rw[lh.af];omega) | omega,by simp[Value.ownBlock]⟩);have hsI:w7.heap[ib]? =(w5.alloc (aB #[ah 0,ah 1,.slice uO n uP,ah 5] 68)).heap[ib]? :=hs7.block ib ⟨by first | (rw[lh.af];omega) | omega,by simp[Value.ownBlock]⟩;have jK:=aj (hsI.trans BS.af);have kT:=aj fG;have zH:=aj (ND.af.trans abm);have i2:w7.cell? (ak ib 2)=some (au):=aL jK.af rfl;have f2:w7.frozen? (ak ib 2)=false:=vV jK.af 2;clear fG hs7 abm hsI;go_wp2_with fail;have kZ:Step (fun b=>b≠ib) w7 (w7.setCell ⟨ib,2,none⟩ (.slice (some ⟨g7,0,none⟩) 1 c7)):=(Step.refl _ w7).setCell (fun h=>h rfl) _;have hS:Step (fun b=>b<w5/\b≠ib) w5 (w7.setCell ⟨ib,2,none⟩ (.slice (some ⟨g7,0,none⟩) 1 c7)):=zH.af.trans (kZ.imp (fun b hb=>hb.2));exact HK.af _ _ (.slice (some ⟨g7,0,none⟩) 1 c7) ⟨TA,rfl,TA,TA,TA,TA,TA,TA,trivial⟩ (HC.af.go hS (qc jK.af 2 _) (HC.af.AU hS) (HC.af.hA' hS.size)) hS.size (by simpa using kT.af.step kZ (fun b _ hb=>by have hb:¬b<N1:=hb;omega))
 ·obtain rfl:sz=(n:Int):=wP
  clear hxs;go_wp2_with (at_builtin;go_loud (refine fZ (K:=CZ) (v:=au) (l:=[]) (E:=fun b=>b<N1) (B:=N1) 31 _ 48 Tryz.underlying31 Eh rfl abD rfl (.tmp 123) (.tmp 129) rfl 0 rfl rfl HN0.af HE.af w5.heap.size x0 [ah 0,ah (n:Int),.slice uO n uP,ah 5] rfl (aD DC.af) (fun u hu=>by simp only[Y1,nW,or_false]at hu;rcases hu with rfl | rfl | rfl | rfl<;>rfl) pq.af abD abD HW1.af ?_));intro g7 c7 w7 fG hs7 uf;have abm:Step (fun b=>b<w5/\b≠ib) (w5.alloc (aB #[ah 0,ah (n:Int),.slice uO n uP,ah 5] 68)) w7:=hs7.imp (fun b hb=>⟨by first | (rw[lh.af];omega) | omega,by simp[Value.ownBlock]⟩);have hsI:w7.heap[ib]? =(w5.alloc (aB #[ah 0,ah (n:Int),.slice uO n uP,ah 5] 68)).heap[ib]? :=hs7.block ib ⟨by first | (rw[lh.af];omega) | omega,by simp[Value.ownBlock]⟩;have jK:=aj (hsI.trans BS.af);have kT:=aj fG;have zH:=aj (ND.af.trans abm);have i2:w7.cell? (ak ib 2)=some (au):=aL jK.af rfl;have f2:w7.frozen? (ak ib 2)=false:=vV jK.af 2;clear fG hs7 abm hsI;go_wp2_with fail;have kZ:Step (fun b=>b≠ib) w7 (w7.setCell ⟨ib,2,none⟩ (.slice (some ⟨g7,0,none⟩) 1 c7)):=(Step.refl _ w7).setCell (fun h=>h rfl) _;have hS:Step (fun b=>b<w5/\b≠ib) w5 (w7.setCell ⟨ib,2,none⟩ (.slice (some ⟨g7,0,none⟩) 1 c7)):=zH.af.trans (kZ.imp (fun b hb=>hb.2));exact HK.af _ _ (.slice (some ⟨g7,0,none⟩) 1 c7) ⟨TA,rfl,TA,TA,TA,TA,TA,TA,trivial⟩ (HC.af.go hS (qc jK.af 2 _) (HC.af.AU hS) (HC.af.hA' hS.size)) hS.size (by simpa using kT.af.step kZ (fun b _ hb=>by have hb:¬b<N1:=hb;omega))
section
variable {α : Type} {e : TypeId} {K : Kind α} {f : α -> Value} {B : Nat} {E : Nat -> Prop} {w w' : World} {v : Value} {l : List α}
theorem acg {o:Oper} {C:Act->World->Prop} {Q:Exit->Act->World->Prop} (hp:Plain K f) (t:TypeId) (z:Value) (bytes:Nat) (ht:Tryz.prog.underlying t=some (.slice e)) (hinfo:(Tryz.prog.info? e).map (fun i=>(i.zero,i.size,i.bytes))=some (some z,1,bytes))
  (hzs:z.cells.size=1) (s x:Operand)
  (ho:o.op=.call {callee:=.builtin .append,args:=#[s,x],argTypes:=#[t,t]})
  (hs:a.eval s=v) (hown:aX e K B E w v l) (hE:∀b,E b->b<w.heap.size) {S:Nat->Prop} (u:Value) (m:List α) (hx:a.eval x=u) (hu:LB K S w u m)
  (hlen:(l.length+m.length)*bytes<=140737488355328) (hl63:l.length+m.length<=9223372036854775807) (hB:B<=w)
  (h:∀v' w',aX e K B E w' v' (l++m)->Step (fun b=>b<w/\v.ownBlock≠some b) w w'->(∀b,b<w.heap.size->v.ownBlock≠some b->v'.ownBlock≠some b)->C (a.put o.dst v') w'):o.wp asq a w C Q:=by
 obtain⟨i0,hi,hz0,hz1,hz2⟩:=dM hinfo;have h1:=hown.Dl hp;obtain⟨ua,ub,nN,Ct,hv,hm,ha,hcap,hS,hc⟩:=hu
 cases ua with
 | none=>
  have hm0:m=[]:=by
   cases m with
   | nil=>rfl
   | cons y m=>exact absurd (ha arG) arG
  subst hm0;have hc0:=hcap.2 rfl;subst hc0;have hxx:a.eval x=au:=hx.trans hv;have hrun:=run_append_owned_none (P:=asq) (w:=w) B t o.type e i0 1 ht hi v l.length (l.map f) h1;unfold Oper.wp;simp[execOp,ho,resolve,invoke,builtin,hs,hxx,hrun,Result.andThen];exact h v w (by rw[Y8];exact hown) (Step.refl _ _) (fun b _ h=>h)
 | some ad=>
  have hxx:a.eval x=.slice (some ad) m.length Ct:=hx.trans hv
  have hcl:∀j u,(m.map f)[j]? =some u->w.cell? (ad.add j)=some u:=by
   intro j u hj;rw[List.getElem?_map]at hj
   cases GY:m[j]? with
   | none=>rw[GY]at hj;cases hj
   | some y=>
    rw[GY]at hj;have hu:f y=u:=by simpa using hj
    subst hu;have Dm:0<m.length:=by have:=(Sm.1 GY).1;omega
    obtain rfl:ad=(ak ub nN):=by have:=ha Dm;simpa using this
    obtain⟨row,r1,r2⟩:=hc j y GY;have:=hp.into r1;subst this;have:=r2 0 (f y) rfl;rw[hp.one]at this
    simpa [Addr.add_lit] using this
  have hone:∀u∈m.map f,u.oneCell'=true:=by
   intro u hu;simp only[PM]at hu;obtain⟨y,_,rfl⟩:=hu;exact hp.cell y
  obtain⟨v',w',hr,g1,g2,_,g4⟩:=run_append_own_at (P:=asq) w B t o.type e i0 z 1 bytes ht hi hz0 hz1 hz2 hzs abD v l.length (l.map f) h1 ad m.length Ct (m.map f) arG hcl hone (by unfold maxLen;omega) hlen hB;have hlt:=World.ownsRow.lt h1;have hst:Step (fun b=>b<w/\v.ownBlock≠some b) w w':=Step.rU g2 (fun b hb=>⟨hb.1,hb.2⟩)
  have hfin:=h v' w' (.qJ hp (by rw[Kk,List.map_append];exact g1) (by
    intro g hg yh;rcases g4 with h' | h'
    ·exact hown.notE g (by rw[<-h'];exact hg) yh
    ·have:g=w.heap.size:=by rw[h']at hg;exact(qY hg).symm
     have:=hE _ yh;omega)) hst (by
    intro b hb hne e;rcases g4 with h' | h'
    ·exact hne (by rw[<-h'];exact e)
    ·have:b=w.heap.size:=by rw[h']at e;exact(qY e).symm
     omega)
  unfold Oper.wp execOp;simp only[ho,resolve,invoke,builtin,Sem.run_bind,Sem.run_pure,Result.andThen_ok,List.map_toArray,List.map_cons,List.map_nil,hs,hxx,hr];exact hfin
end
section
variable {B : Nat} {E : Nat -> Prop} {w w' : World} {v : Value} {l : List UInt8}
end
theorem YB (l:List dx):(lC l).length<=(l.flatMap (·.ar8)).length:=by
 induction l with
 | nil=>exact oD _
 | cons v l ih=>
  unfold lC at ih ⊢;simp only[KF,Kk]
  split<;>(try simp only[aR])<;>omega
theorem afN (l:List dx):(jJ l).length<=(l.flatMap (·.ar8)).length:=by
 induction l with
 | nil=>exact oD _
 | cons v l ih=>
  unfold jJ at ih ⊢;simp only[KF,Kk]
  split<;>(try simp only[aR])<;>omega
theorem tF (a b:List Int):bX (a++b)=bX a++bX b:=by unfold bX;rw[j5]
def nM (s:aM):List Int:=List.replicate ((gW s).1.cells.length+(gW s).1.ar7.length) 0++lC s.vars
theorem Ws (n:Nat):(madeCells (Value.int .i64 0).cells (n*1)).toList=(List.replicate n (0:Int)).map (fun x=>Value.int .i64 x):=by
 have e:(Value.int .i64 0).cells=#[ah 0]:=rfl;rw[Uh,List.map_replicate];apply DI;intro i;simp only[madeCells,e];by_cases h:i<n
 ·simp[h,Nat.mod_one]
 ·simp[h]
structure vC (Bd ib:Nat) (w0 w:World) (d tv:Value) (l:List Int) (m:List UInt8) (dO:jv) (gY:bK):Prop where
 ix:w.heap[ib]? =some (.cells (aW {dO with bf:=tv } gY) 44 (0,0))
 dd:aX 3 dJ Bd (fun b=>b<Bd) w d l
 tt:aX 5 fq Bd (fun b=>b<Bd) w tv m
 apart:∀g,d.ownBlock=some g->tv.ownBlock≠some g
 step:Step (fun b=>b<Bd/\b≠ib) w0 w
 hB:Bd<=w
 vP:ib<Bd
section
variable {Bd ib : Nat} {w0 w w' : World} {d tv : Value} {l : List Int} {m : List UInt8} {dO : jv} {gY : bK}
theorem vC.dW (h:vC Bd ib w0 w d tv l m dO gY) (hb:Below w w w'):vC Bd ib w0 w' d tv l m dO gY:=by
 have:=h.vP;have:=h.hB;exact⟨(hb.block ib wP).trans h.ix,h.dd.below hb,h.tt.below hb,h.apart,h.step.trans ((Step.of_below hb).imp (fun b hb'=>by show b<w;omega)),by have:=hb.size;omega,h.vP⟩
theorem vC.alloc (h:vC Bd ib w0 w d tv l m dO gY) (o:Obj):vC Bd ib w0 (w.alloc o) d tv l m dO gY:=h.dW ((PZ _ w).alloc (oD _) o)
theorem vC.drew (h:vC Bd ib w0 w d tv l m dO gY):vC Bd ib w0 w.drew d tv l m dO gY:=h.dW ((PZ _ w).drew)
theorem vC.anJ (h:vC Bd ib w0 w d tv l m dO gY) {d':Value} {l':List Int} (ho:aX 3 dJ Bd (fun b=>b<Bd) w' d' l') (hs:Step (fun b=>b<w/\d.ownBlock≠some b) w w') (hn:∀b,b<w.heap.size->d.ownBlock≠some b->d'.ownBlock≠some b):vC Bd ib w0 w' d' tv l' m dO gY:=by
 have hi:=h.vP;have hB:=h.hB;have hlo:∀b,b<Bd->d.ownBlock≠some b:=fun b hb e=>by have:=(h.dd.lt b e).1;omega
 refine⟨(hs.block ib ⟨wP,hlo ib hi⟩).trans h.ix,ho,h.tt.dS jd (fun g hg=>hs.block g ⟨(h.tt.lt g hg).2,fun e=>h.apart g e hg⟩),fun g hg e=> ?_,h.step.trans (hs.imp (fun b hb=>⟨wP,hlo b hb.1⟩)),by have:=hs.size;omega,hi⟩;exact hn g (h.tt.lt g e).2 (fun e'=>h.apart g e' e) hg
theorem vC.anK (h:vC Bd ib w0 w d tv l m dO gY) {t':Value} {m':List UInt8} (ho:aX 5 fq Bd (fun b=>b<Bd) w' t' m') (hs:Step (fun b=>b<w/\tv.ownBlock≠some b) w w') (hn:∀b,b<w.heap.size->tv.ownBlock≠some b->t'.ownBlock≠some b):vC Bd ib w0 (w'.setCell ⟨ib,13,none⟩ t') d t' l m' dO gY:=by
 have hi:=h.vP;have hB:=h.hB;have hlo:∀b,b<Bd->tv.ownBlock≠some b:=fun b hb e=>by have:=(h.tt.lt b e).1;omega
 have hx:=(hs.block ib ⟨wP,hlo ib hi⟩).trans h.ix;have hs2:Step (fun b=>b≠ib) w' (w'.setCell ⟨ib,13,none⟩ t'):=(Step.refl _ w').setCell (fun h=>h rfl) _;have hd:aX 3 dJ Bd (fun b=>b<Bd) w' d l:=h.dd.dS dN (fun g hg=>hs.block g ⟨(h.dd.lt g hg).2,fun e=>h.apart g hg e⟩);refine⟨qc hx 13 _,hd.step hs2 (fun b _ hb=>by have hb:¬b<Bd:=hb;omega),ho.step hs2 (fun b _ hb=>by have hb:¬b<Bd:=hb;omega),fun g hg e=>hn g (h.dd.lt g hg).2 (fun e'=>h.apart g hg e') e,(h.step.trans (hs.imp (fun b hb=>⟨wP,hlo b hb.1⟩))).trans (hs2.imp (fun b hb=>hb.2)),by have:=hs.size;simp;omega,hi⟩
end
theorem bt8 (hF:oP [(1,aQ w),(2,aQ (w+1)),(3,ah 0),(4,aQ (w+2)),(5,aQ lb),(6,aQ ib)] a) (hC:pR w sv s w5 own v fv vv lb ib dO gY iv im A) (bT:pu s) (hsg:dO.bf=au)
  (hK:∀a' wc d tv Bd,oP [(1,aQ w),(2,aQ (w+1)),(3,ah 0),(4,aQ (w+2)),(5,aQ lb),(6,aQ ib),(11,d)] a'->vC Bd ib w5 wc d tv (nM s) (bX (jJ s.vars)) dO gY->w5.heap.size<=Bd->(bL Tryz.f6 17).wp asq (bodyPost asq Tryz.f6 (gN w s)) a' wc):(bL Tryz.f6 15).wp asq (bodyPost asq Tryz.f6 (gN w s)) a w5:=by
 have HK:=aj hK;have HC:=aj hC;have hib:=hC.vP;have h0:=hC.h0;have hps:=(vQ bT).1;have Hwl:=aj bT.ar8;have Og:=bT.vars;have hvl:=hC.vl.max;have Hvl:=aj (zO bT (mU bT)).vars;obtain⟨va,vc,hvf⟩:=hC.vl.form;rw[Hvl.af]at hvf;have HQ:Hid (nM s=List.replicate ((bM s).cells.length+(bM s).ar7.length) 0++lC s.vars):=aj (by unfold nM;rw[(wT s).1]);obtain⟨NA,NC,hcf⟩:=hC.plan.cells.form;obtain⟨EM,EN,uL⟩:=hC.plan.ar7.form;have c11:=hC.plan.c11;have c12:=hC.plan.c12;rw[hcf]at c11;rw[uL]at c12;obtain ⟨nc,hnc⟩:=aiG ((bM s).cells.length);obtain ⟨nj,iM⟩:=aiG ((bM s).ar7.length);have hnn:nc+nj<=40000:=by unfold aA.sz at hps;omega
 rw[<-hnc]at c11 HQ;rw[<-iM]at c12 HQ;have l0:=aD hC.lx 0 _ rfl;have kF:Hid (w5.heap[ib]? =some (.cells (aW {dO with bf:=au } gY) 44 (0,0))):=aj (by have h:=hC.ix;rw[<-hsg];exact h);obtain⟨QL,sfb,sfo,QM,mO,hsm,hsc,rA⟩:=hC.spec.vars.at;have abd:=rA.addr;have CB:=aj rA;have x5:w5.cell? (ak w 5)=some sv.vars:=aL hC.sx rfl;have apu:=aj hC.sx;rw[mO]at x5;obtain ⟨nv,sQ⟩:=aiG s.vars.length;have zo:=aj sQ;rw[<-sQ]at x5 hsm hsc abd hvf Og;have xk:=aj mO;have Hvf:=aj hvf;obtain⟨i0,hi,hi0,hi1,hi2⟩:=dM qg;clear hC hK bT hcf uL mO hnc iM sQ rA hsg hvl hvf hps;have e15:bL Tryz.f6 15=.seq (cZ Tryz.f6 15) (bL Tryz.f6 16):=fV _ 15 TA;have e16:bL Tryz.f6 16=.seq (cZ Tryz.f6 16) (bL Tryz.f6 17):=fV _ 16 TA;rw[e15,e16];clear e15 e16;apply z7O.elim hF;clear hF;intro _;intro V1;intro V2;intro V3;intro V4;intro V5;intro V6
 iterate 240 (intro _)
 intro hF;obtain⟨-,-,e1,e2,e3,e4,e5,e6,-⟩:=hF;replace e1:V1=aQ w:=e1;subst e1;replace e2:V2=aQ (w+1):=e2;subst e2;replace e3:V3=ah 0:=e3;subst e3;replace e4:V4=aQ (w+2):=e4;subst e4;replace e5:V5=aQ lb:=e5;subst e5;replace e6:V6=aQ ib:=e6;subst e6
 conv in cZ _ 15=>whnf
 conv in cZ _ 16=>whnf
 go_upto_region 24 with fail
 have HB0:=aj (PZ w5.heap.size w5);refine bA 14 TA TA ?_;simp only[ji];refine P8 (S:=fun w':World=>w'.cell? (ak lb 0)=some (aQ (w+2))/\w'.cell? (ak (w+2) 11)=some (.slice NA nc NC)/\w'.cell? (ak (w+2) 12)=some (.slice EM nj EN)) _ _ _ _ ?_;have ay:(fun w':World=>w'.cell? (ak lb 0)=some (aQ (w+2))/\w'.cell? (ak (w+2) 11)=some (.slice NA nc NC)/\w'.cell? (ak (w+2) 12)=some (.slice EM nj EN)) (World.drew w5):=⟨l0,c11,c12⟩;refine asr ?_;have hdr:Below w5 w5 (World.drew w5):=(PZ _ _).drew;have hzd:w5.heap.size<=(World.drew w5):=oD _;have hze:(World.drew w5).heap.size<=w5:=oD _;clear l0 c11 c12;generalize (World.drew w5)=wd at hdr hzd hze ay ⊢;have o1:IntKind.i64.wrap ((nc:Int)+(nj:Int))=(nc:Int)+(nj:Int):=iJ _ wP;refine arO [0,1,2,3,4,5,6,7,8,9,10,11,12] ay ?_;simp only[ast]
 iterate 13 (refine arP ?_;try simp only[bP])
 clear o1;obtain⟨wm,hrun,hrow,hg⟩:=run_make_full (P:=asq) (w:=wd) wd.heap.size 41 3 i0 (ah 0) 1 Tryz.underlying41 hi hi0 hi1 .i64 .i64 (nc+nj) (by rw[hi2];omega) (by unfold maxLen;omega) (oD _);rw[Ws]at hrow;rw[Int.natCast_add]at hrun;have ho:=aX.qJ (e:=3) (B:=wd.heap.size) (E:=fun b=>b<wd) (l:=List.replicate (nc+nj) 0) oZ (by rw[u6];exact hrow) (fun g hg h=>by simp[Value.ownBlock]at hg;subst hg;exact Nat.lt_irrefl _ h);refine cO 13 fun K hK=> ?_
 have hll:lb<wd:=wP;have hpp:w.heap.size+2<wd.heap.size:=wP;go_simp;refine hK.af _ _ ⟨(Tg (hg.block lb hll arG)).trans ay.1,(Tg (hg.block _ hpp arG)).trans ay.2.1,(Tg (hg.block _ hpp arG)).trans ay.2.2⟩ (fun ay=> ?_);clear hK K hrun;try simp only[bV]
 refine E5 TA ?_ _;simp only[dU];clear ay;have hlt:=(World.ownsRow.lt hrow _ rfl).2;have HD:Hid (vC wd.heap.size ib w5 wm (.slice (some ⟨wd.heap.size,0,none⟩) (nc+nj) (nc+nj)) (au) (List.replicate (nc+nj) 0) [] dO gY):=aj ⟨(hg.block ib wP arG).trans ((hdr.block ib hib).trans kF.af),ho,aX.nil _ _ _ _ _,fun g _=>by simp[Value.ownBlock],(Step.of_below hdr).imp (fun b hb=>wP) |>.trans (Step.rU hg (fun b hb=>⟨wP,arG⟩)),Nat.le_of_lt hlt,wP⟩;generalize wd.heap.size=Bd at *;have apv:w5.heap.size<=Bd:=wP;clear hrow hg ho hi hi0 hi1 hdr hzd hze kF hll hpp;have HXs:=aj ((HD.af.step.block w.heap.size ⟨wP,wP⟩).trans apu.af);have x5:wm.cell? (ak w 5)=some (.slice QL nv QM):=by rw[aV HXs.af];show some sv.vars=_;rw[xk.af,<-zo.af]
 go_wp2_with fail;clear x5;go_loopw [11,149] (fun d i wr=>∃k:Nat,i=ah k/\k<=nv/\∃tv,vC Bd ib w5 wr d tv (List.replicate (nc+nj) 0++lC (s.vars.take k)) (bX (jJ (s.vars.take k))) dO gY) (fun _ i _=>nv-(intOf i).toNat);exact⟨0,rfl,alg _,_,by show vC Bd ib w5 wm _ _ (List.replicate (nc+nj) 0++[]) [] dO gY;rw[Y8];exact HD.af⟩;obtain⟨k,rfl,hk,tv,hD⟩:=hrel;have HD:=aj hD;clear hD;by_cases hlt2:k<nv
 ·obtain⟨x,hx⟩:∃x,s.vars[k]? =some x:=⟨_,gP (by rw[<-zo.af];exact hlt2)⟩
  obtain rfl:=abd wP;have aaY:=aj (HC.af.low.trans ((HD.af.step.imp (S':=(·<w.heap.size)) (fun b hb=>by have hb:b<w:=hb;omega)).below));obtain⟨wv,rv,hwv,kD,hso,g0,g1,g2,g3,g4,g5,g6,g7,g8,g9,g10,g11⟩:=CB.af.rZ aaY.af k x hx;obtain⟨gL,jq,rfl⟩:=hwv.form;obtain⟨ra,rc,rfl⟩:=kD.form;have hwl:x.ar8.length<=2000:=by have:=RI hx;have:=Hwl.af;omega
  have hdl:(lC (s.vars.take k)).length<=2000:=by have:=YB (s.vars.take k);have:=za s.vars k;have:=Hwl.af;omega
  have hbl:(jJ (s.vars.take k)).length<=2000:=by have:=afN (s.vars.take k);have:=za s.vars k;have:=Hwl.af;omega
  have HDn:Hid (lC (s.vars.take (k+1))=lC (s.vars.take k)++if x.sym.ar3=3 then [] else x.ar8):=aj (by rw[jR hx];unfold lC;rw[j5];simp);have Ee:Hid (jJ (s.vars.take (k+1))=jJ (s.vars.take k)++if x.sym.ar3=3 then x.ar8 else []):=aj (by rw[jR hx];unfold jJ;rw[j5];simp);obtain ⟨wn,hwn⟩:=aiG x.ar8.length;have xq:=aj hwn;rw[<-hwn]at g9 hwl;have HWv:=aj hwv;obtain ⟨DL,hDL⟩:=aiG (List.replicate (nc+nj) 0++lC (s.vars.take k));obtain ⟨BL,hBL⟩:=aiG (jJ (s.vars.take k));have arn:DL.length<=42000:=by rw[hDL,Kk,u6];omega
  have amx:Hid (List.replicate (nc+nj) 0++lC (s.vars.take (k+1))=DL++if x.sym.ar3=3 then [] else x.ar8):=aj (by rw[HDn.af,hDL,Sq]);rw[<-hDL]at HD;rw[<-hBL]at HD Ee hbl;have IU:=aj (HD.af.alloc (aB (arU x gL wn jq ra x.ash.length rc) 71));have DF:=aj (ah2 wr (aB (arU x gL wn jq ra x.ash.length rc) 71));have Q3:Hid (LB dJ (·<wr.heap.size) wr (.slice gL wn jq) x.ar8):=aj (by rw[xq.af];exact((HWv.af.below aaY.af).mono (by have:=HD.af.hB;omega)));have hza:wr.heap.size<(wr.alloc (aB (arU x gL wn jq ra x.ash.length rc) 71)):=arG;have HWb:=aj (Q3.af.asa (w':=wr.alloc (aB (arU x gL wn jq ra x.ash.length rc) 71)) (fun b hb=>dX wr (aB (arU x gL wn jq ra x.ash.length rc) 71) hb));have hk2:(k:Int)<(nv:Int):=wP;clear hx hso hwv kD hwn hDL hBL HDn hdl Q3;go_upto_region 28 with fail
  have Hox:Hid (∀g,tv.ownBlock=some g->g≠wr.heap.size):=aj (fun g hg e=>by have:=(HD.af.tt.lt g hg).2;omega);clear g0 g1 g2 g3 g4 g5 g6 g7 g8 g9 g10 g11 HD aaY;generalize wr.alloc (aB (arU x gL wn jq ra x.ash.length rc) 71)=wa at *;generalize wr.heap.size=xb at *;have x3:wa.cell? (ak xb 3)=some (ah x.sym.ar3):=aD DF.af 3 _ rfl;have x9:wa.cell? (ak xb 9)=some (.slice gL wn jq):=aD DF.af 9 _ rfl;have hfl:x.ar8.length=wn:=xq.af.symm;by_cases hkd:x.sym.ar3=3
  ·have hkb:(x.sym.ar3==3)=true:=by simp[hkd]
   have HD3:Hid (List.replicate (nc+nj) 0++lC (s.vars.take (k+1))=DL):=aj (by rw[amx.af,if_pos hkd,Y8]);have HB3:Hid (bX (jJ (s.vars.take (k+1)))=bX BL++bX x.ar8):=aj (by rw[Ee.af,if_pos hkd,tF]);clear hkd hfl;go_upto_region 29 with fail
   obtain⟨uO,uP,Nw⟩:=IU.af.tt.form;rw[Nw]at Hox;have Htl:=aj (tV BL);subst Nw;have HI:Hid (wa.heap[ib]? =some (aB #[ax gY.arT,ah gY.ar4,dO.aI,dO.ar6,dO.aF,dO.av,dO.ar9,dO.ar8,ah gY.ase,dO.aO,dO.asf,dO.asb,dO.aP,.slice uO (bX BL).length uP,ah gY.aJ] 44)):=aj IU.af.ix;have dZ:wa.cell? (ak ib 13)=some (.slice uO (bX BL).length uP):=aL HI.af rfl;clear x3;refine bA 6 TA TA ?_;simp only[ji];refine P8 (S:=fun w':World=>w'.cell? (ak ib 13)=some (.slice uO (bX BL).length uP)/\w'.cell? (ak xb 9)=some (.slice gL wn jq)) _ _ _ _ ?_;have ay:(fun w':World=>w'.cell? (ak ib 13)=some (.slice uO (bX BL).length uP)/\w'.cell? (ak xb 9)=some (.slice gL wn jq)) (World.drew wa):=⟨dZ,x9⟩;refine asr ?_;have HDd:=aj (IU.af.drew);have Ny:Hid (LB dJ (·<xb) (World.drew wa) (.slice gL wn jq) x.ar8):=aj HWb.af;have hzd:xb<(World.drew wa):=hza;have afJ:ib<(World.drew wa):=by have:=IU.af.hB;have:=IU.af.vP;show ib<wa;omega
   clear dZ x9 IU HWb;generalize (World.drew wa)=wd2 at *;refine arO [0,1,2,3] ay ?_;simp only[ast]
   iterate 4 (refine arP ?_;try simp only[bP])
   refine cO 4 fun K hK=> ?_
   go_simp;refine(X5 wd2 _ x.ar8 Ny.af (fun b hb=>by have hb:b<xb:=hb;omega) (by have:=xq.af;omega)).mono ?_;rintro e w8 ⟨r8,rfl,oQ,nH⟩;obtain⟨zw,zy,hbf⟩:=oQ.form;subst hbf;have Cs:=aj oQ;have HD8:=aj (HDd.af.dW nH);have Ps:=nH.size;refine hK.af _ _ ⟨(nH.cell (p:=(ak ib 13)) afJ).trans ay.1,(nH.cell (p:=(ak xb 9)) hzd).trans ay.2⟩ (fun ay=> ?_);clear hK K oQ nH;try simp only[bV]
   refine cO 5 fun K hK=> ?_
   rw[if_pos (by rfl)];simp only[rz];have Kc:=HD8.af.hB;have amy:=aj (tV x.ar8);refine acg (B:=Bd) (E:=fun b=>b<Bd) nI 42 (.int .u8 0) 1 Tryz.underlying42 mW rfl (.tmp 159) (.tmp 162) (by rfl) (by rfl) HD8.af.tt (fun b hb=>by have hb:b<Bd:=hb;omega) _ (bX x.ar8) (by rfl) Cs.af.lb (by rw[Htl.af,amy.af];have:=xq.af;omega) (by rw[Htl.af,amy.af];have:=xq.af;omega) Kc ?_;rintro t7 w7 fG hs7 GL;obtain⟨tb_,td_,ht7⟩:=fG.form;obtain ⟨tl7,amz⟩:=aiG ((bX BL++bX x.ar8).length);rw[<-amz]at ht7;subst ht7;clear amz;have hne:∀b,b<Bd->(Value.slice uO (bX BL).length uP).ownBlock≠some b:=fun b hb e=>by have:=(HD8.af.tt.lt b e).1;omega
   have hI7:w7.heap[ib]? =_:=(hs7.block ib ⟨wP,hne ib HD8.af.vP⟩).trans HD8.af.ix;have HI7:Hid (w7.heap[ib]? =some (aB #[ax gY.arT,ah gY.ar4,dO.aI,dO.ar6,dO.aF,dO.av,dO.ar9,dO.ar8,ah gY.ase,dO.aO,dO.asf,dO.asb,dO.aP,.slice uO (bX BL).length uP,ah gY.aJ] 44)):=aj hI7;have HD9:=aj (HD8.af.anK fG hs7 GL);rw[<-HB3.af,<-HD3.af]at HD9;have hnx:(Value.slice uO (bX BL).length uP).ownBlock≠some xb:=fun e=>Hox.af xb e rfl
   refine hK.af _ _ ⟨(hs7.cell (p:=(ak ib 13)) ⟨by show ib<_;omega,hne ib HD8.af.vP⟩).trans ay.1,(hs7.cell (p:=(ak xb 9)) ⟨by show xb<_;omega,hnx⟩).trans ay.2⟩ (fun ay=> ?_);clear hK K fG hs7 GL hne hI7 hnx;try simp only[bV]
   refine E5 TA ?_ _;simp only[dU];clear ay;have dZ:w7.cell? (ak ib 13)=some (.slice uO (bX BL).length uP):=aL HI7.af rfl;have f13:w7.frozen? (ak ib 13)=false:=vV HI7.af 13;go_wp2;go_roundw;exact⟨k+1,arH,wP,_,HD9.af⟩;simp[intOf];omega
  ·have hkb:(x.sym.ar3==3)=false:=by simp[hkd]
   have HD3:Hid (List.replicate (nc+nj) 0++lC (s.vars.take (k+1))=DL++x.ar8):=aj (by rw[amx.af,if_neg hkd]);have HB3:Hid (bX (jJ (s.vars.take (k+1)))=bX BL):=aj (by rw[Ee.af,if_neg hkd,Y8]);clear hkd hfl;have Yy:=aj ((IU.af.step.block lb ⟨wP,wP⟩).trans HC.af.lx);have l2:wa.cell? (ak lb 2)=some (.slice va nv vc):=by rw[aV Yy.af,<-Hvf.af];rfl
   obtain⟨da_,dc_,hdf⟩:=IU.af.dd.form;subst hdf;have Kc:=IU.af.hB;have Iy:=aj IU.af.dd;have HWc:Hid (LB dJ (·<xb) wa (.slice gL wn jq) x.ar8):=aj HWb.af;go_wp2_with (at_builtin;go_loud (refine oH (B:=Bd) (E:=fun b=>b<Bd) (v:=.slice da_ DL.length dc_) (l:=DL) oZ 41 _ 8 Tryz.underlying41 qg rfl rfl (.tmp 170) (.tmp 172) rfl rfl Iy.af (fun b hb=>Nat.lt_of_lt_of_le hb Kc) (.slice gL wn jq) x.ar8 rfl HWc.af (by have:=xq.af;omega) (by have:=xq.af;omega) Kc ?_));intro d7 w7 fG hs7 GL;have HD9:=aj (IU.af.anJ fG hs7 GL);rw[<-HB3.af,<-HD3.af]at HD9;clear fG hs7 GL l2 x3 x9;go_wp2;go_roundw;exact⟨k+1,arH,wP,tv,HD9.af⟩;simp[intOf];omega
 ·have HE:Hid (vC Bd ib w5 wr u11 tv (nM s) (bX (jJ s.vars)) dO gY):=aj (by
   have h:=HD.af;rw[dh (by have:=zo.af;omega)]at h;rw[HQ.af];exact h)
  go_wp2_with fail;exact HK.af _ wr u11 tv Bd ⟨TA,rfl,TA,TA,TA,TA,TA,TA,TA,trivial⟩ HE.af apv
def Pz (s:aM):lS:=⟨(aN s (aC s)).got,8*((nM s).length:Int),bX (nM s),3⟩
def Df (s:aM):List lS:=Jn s :: (if nM s=[] then [] else [Pz s])
theorem YC (bT:pu s):(nM s).length<=42000:=by
 have h1:=(vQ bT).1;have h2:=YB s.vars;have h3:=bT.ar8;unfold nM;rw[(wT s).1,Kk,u6];unfold aA.sz at h1;omega
theorem ajo (bT:pu s):∀x∈Df s,lH x.at_/\lH x.size/\lH x.perm:=by
 have h1:=Rh bT;have h2:=YC bT;have h3:=(zO bT (mU bT)).got
 have hc:lH (Jn s).at_/\lH (Jn s).size/\lH (Jn s).perm:=by
  refine⟨by show lH 0;unfold lH;omega,?_,by show lH 5;unfold lH;omega⟩;show lH (max 1 ((ky (gW s).2).length:Int));unfold lH;omega
 have hd:lH (Pz s).at_/\lH (Pz s).size/\lH (Pz s).perm:=by
  refine⟨?_,?_,by show lH 3;unfold lH;omega⟩
  ·show lH (aN s (aC s)).got;unfold lH;omega
  ·show lH (8*((nM s).length:Int));unfold lH;omega
 intro x hx;unfold Df at hx;rcases Y1.1 hx with rfl | hx
 ·exact hc
 ·split at hx
  ·cases hx
  ·rcases tY.1 hx with rfl;exact hd
theorem bt9 {d u:Value} {N1 Bd:Nat} (hF:oP [(1,aQ w),(2,aQ (w+1)),(3,ah 0),(4,aQ (w+2)),(5,aQ lb),(6,aQ ib),(11,d)] a) (hC:pR w sv s w5 own v fv vv lb ib {dO with aI:=u } gY iv im A) (bT:pu s) (hD:aX 3 dJ Bd (fun b=>b<Bd) w5 d (nM s)) (hU:aX 68 CZ N1 (fun b=>b<N1) w5 u [Jn s]) (hN:ib<N1)
  (hN2:N1<=w5) (hAg:∀g,u.ownBlock=some g->¬A g) (hV:∀b,v.has b->b<N1)
  (hK:∀a' wc u',oP [(1,aQ w),(2,aQ (w+1)),(3,ah 0),(4,aQ (w+2)),(5,aQ lb),(6,aQ ib)] a'->pR w sv s wc own v fv vv lb ib {dO with aI:=u' } gY {iv with aI:=u' } {im with aI:=Df s } (fun b=>A b∨(N1<=b/\b<wc))->(bL Tryz.f6 18).wp asq (bodyPost asq Tryz.f6 (gN w s)) a' wc):(bL Tryz.f6 17).wp asq (bodyPost asq Tryz.f6 (gN w s)) a w5:=by
 have HK:=aj hK;have HC:=aj hC;have HU:=aj hU;have hib:=hC.vP;have h0:=hC.h0;have hdl:=YC bT;have iy:=aj (ajo bT);have HAg:=aj hAg;have HV:=aj hV;obtain⟨da_,dc_,hdf⟩:=hD.form;obtain ⟨n,hn⟩:=aiG ((nM s).length);have Hn:=aj hn;rw[<-hn]at hdf hdl;subst hdf;have HD:=aj hD;obtain⟨IV,IW,huf⟩:=hU.form;replace huf:u=.slice IV 1 IW:=huf;subst huf;have kF:Hid (w5.heap[ib]? =some (aB #[ax gY.arT,ah gY.ar4,.slice IV 1 IW,dO.ar6,dO.aF,dO.av,dO.ar9,dO.ar8,ah gY.ase,dO.aO,dO.asf,dO.asb,dO.aP,dO.bf,ah gY.aJ] 44)):=aj hC.ix;have l4:=aD hC.lx 4 _ rfl;obtain ⟨got,R4⟩:=aiG ((aN s (aC s)).got);replace l4:w5.cell? (ak lb 4)=some (ah got):=by rw[R4];exact l4
 have apw:=aj R4;have i2:w5.cell? (ak ib 2)=some (.slice IV 1 IW):=aL kF.af rfl;clear hC hK bT hD hU hn R4 hAg hV;have e17:bL Tryz.f6 17=.seq (cZ Tryz.f6 17) (bL Tryz.f6 18):=fV _ 17 TA;rw[e17];clear e17;apply z7O.elim hF;clear hF;intro _;intro V1;intro V2;intro V3;intro V4;intro V5;intro V6;intro _ _ _ _;intro J7
 iterate 235 (intro _)
 intro hF;obtain⟨-,-,e1,e2,e3,e4,e5,e6,e11,-⟩:=hF;replace e1:V1=aQ w:=e1;subst e1;replace e2:V2=aQ (w+1):=e2;subst e2;replace e3:V3=ah 0:=e3;subst e3;replace e4:V4=aQ (w+2):=e4;subst e4;replace e5:V5=aQ lb:=e5;subst e5;replace e6:V6=aQ ib:=e6;subst e6;replace e11:J7=.slice da_ n dc_:=e11;subst e11
 conv in cZ _ 17=>whnf
 by_cases h1:0<n
 ·have h1':(0:Int)<(n:Int):=wP
  have HST:Hid (Df s=[Jn s]++[Pz s]):=aj (by unfold Df;rw[if_neg (by intro e;have:=Hn.af;rw[e]at this;simp at this;omega)];rfl);go_upto_region 34 with fail
  refine bA 12 TA TA ?_;simp only[ji];refine P8 (S:=fun w':World=>w'.cell? (ak ib 2)=some (.slice IV 1 IW)/\w'.cell? (ak lb 4)=some (ah got)) _ _ _ _ ?_;have ay:(fun w':World=>w'.cell? (ak ib 2)=some (.slice IV 1 IW)/\w'.cell? (ak lb 4)=some (ah got)) (World.drew w5):=⟨i2,l4⟩;refine asr ?_;have HCd:=aj (HC.af.dW ((PZ _ w5).drew));have HUd:=aj (HU.af.drew);have HDd:=aj (HD.af.drew);have hzl:lb<(World.drew w5):=by show lb<w5;omega
  have hzi:ib<(World.drew w5):=hib;have hzN:N1<=(World.drew w5):=hN2;have HX0:Hid ((World.drew w5).heap[ib]? =some (aB #[ax gY.arT,ah gY.ar4,.slice IV 1 IW,dO.ar6,dO.aF,dO.av,dO.ar9,dO.ar8,ah gY.ase,dO.aO,dO.asf,dO.asb,dO.aP,dO.bf,ah gY.aJ] 44)):=aj kF.af;clear l4 i2 HC HU HD kF;generalize (World.drew w5)=wd at *;have o1:IntKind.i64.wrap (8*(n:Int))=8*(n:Int):=iJ _ wP;refine arO [0,1,2,3,4,5,6,7] ay ?_;simp only[ast]
  iterate 8 (refine arP ?_;try simp only[bP])
  clear o1;have sW:Hid (LB dJ (fun b=>b<wd) wd (.slice da_ n dc_) (nM s)):=aj (HDd.af.lb.imp (fun b hb=>hb.1));refine cO 8 fun K hK=> ?_
  go_simp;refine(X5 wd _ (nM s) sW.af (fun b hb=>hb) (by rw[<-Hn.af];omega)).mono ?_;rintro e w8 ⟨r8,rfl,oQ,nH⟩;obtain⟨zw,zy,hbf⟩:=oQ.form;subst hbf;have Cs:=aj oQ;have HC8:=aj (HCd.af.dW nH);have HU8:=aj (HUd.af.below nH);have qy:=aj ((nH.block ib hzi).trans HX0.af);have Ps:=nH.size;refine hK.af _ _ ⟨(nH.cell (p:=(ak ib 2)) hzi).trans ay.1,(nH.cell (p:=(ak lb 4)) hzl).trans ay.2⟩ (fun ay=> ?_);clear hK K oQ nH;try simp only[bV]
  refine arO [9] ay ?_;simp only[ast]
  iterate 1 (refine arP ?_;try simp only[bP])
  have YA:=aj (HC8.af.dW ((PZ _ w8).alloc (oD _) (aB #[ah got,ah (8*(n:Int)),.slice zw (bX (nM s)).length zy,ah 3] 68)));have HUn:=aj (HU8.af.alloc (aB #[ah got,ah (8*(n:Int)),.slice zw (bX (nM s)).length zy,ah 3] 68));have xZ:=aj (Cs.af.alloc (aB #[ah got,ah (8*(n:Int)),.slice zw (bX (nM s)).length zy,ah 3] 68));have DC:=aj (ah2 w8 (aB #[ah got,ah (8*(n:Int)),.slice zw (bX (nM s)).length zy,ah 3] 68));have Yo:=aj ((dX w8 (aB #[ah got,ah (8*(n:Int)),.slice zw (bX (nM s)).length zy,ah 3] 68) (r:=ib) wP).trans qy.af);refine cO 10 fun K hK=> ?_
  go_simp;refine hK.af _ _ ⟨dB ay.1,dB ay.2⟩ (fun ay=> ?_);clear hK K;try simp only[bV]
  have hzn:w8.heap.size<(w8.alloc (aB #[ah got,ah (8*(n:Int)),.slice zw (bX (nM s)).length zy,ah 3] 68)).heap.size:=arG;clear HC8 qy;generalize w8.alloc (aB #[ah got,ah (8*(n:Int)),.slice zw (bX (nM s)).length zy,ah 3] 68)=wn at *;have pq:Hid (CZ.R (fun b=>b<wn/\¬b<N1/\(Value.slice IV 1 IW).ownBlock≠some b) wn (Pz s) [ah got,ah (8*(n:Int)),.slice zw (bX (nM s)).length zy,ah 3]):=aj ⟨.slice zw (bX (nM s)).length zy,by rw[apw.af,Hn.af];rfl,(aX.QO (xZ.af.fJ jd (E':=fun b=>b<wd) (fun g hg h=>by have:=(xZ.af.lt g hg).1;omega))).imp (fun b hb=>⟨hb.1,by have:=hb.2;omega,fun e=>by have:=(HUd.af.lt b e).2;have:=hb.2;omega⟩)⟩;refine cO 11 fun K hK=> ?_
  rw[if_pos (by rfl)];simp only[rz];refine Wq (K:=CZ) (v:=.slice IV 1 IW) (e:=68) (B:=N1) (E:=fun b=>b<N1) 31 _ 48 Tryz.underlying31 Eh rfl abD (.tmp 179) (.tmp 188) rfl 1 rfl rfl HUn.af (fun b hb=>by have hb:b<N1:=hb;omega) w8.heap.size (Pz s) [ah got,ah (8*(n:Int)),.slice zw (bX (nM s)).length zy,ah 3] rfl (aD DC.af) (fun u hu=>by simp only[Y1,nW,or_false]at hu;rcases hu with rfl | rfl | rfl | rfl<;>rfl) pq.af (by simp only[oF,aR];omega) (by simp only[oF,aR];omega) wP ?_;rintro g7 c7 w7 fG hs7 uf-;have hne:∀b,b<N1->(Value.slice IV 1 IW).ownBlock≠some b:=fun b hb e=>by have:=(HUn.af.lt b e).1;omega
  have hnl:(Value.slice IV 1 IW).ownBlock≠some lb:=hne lb wP;have jK:=aj ((hs7.block ib ⟨wP,hne ib hN⟩).trans Yo.af);have kT:=aj fG;have zH:=aj hs7;refine hK.af _ _ ⟨(hs7.cell (p:=(ak ib 2)) ⟨by show ib<_;omega,hne ib hN⟩).trans ay.1,(hs7.cell (p:=(ak lb 4)) ⟨by show lb<_;omega,hnl⟩).trans ay.2⟩ (fun ay=> ?_);clear hK K fG hs7 hne hnl;try simp only[bV]
  refine E5 TA ?_ _;simp only[dU];have u2:=ay.1;have f2:w7.frozen? (ak ib 2)=false:=vV jK.af 2;clear ay;go_wp2_with fail;have kZ:Step (fun b=>b≠ib) w7 (w7.setCell ⟨ib,2,none⟩ (.slice (some ⟨g7,0,none⟩) 2 c7)):=(Step.refl _ w7).setCell (fun h=>h rfl) _;have hO9:=kT.af.step kZ (fun b _ hb=>by have hb:¬b<N1:=hb;omega);have hS:Step (fun b=>b<wn/\(Value.slice IV 1 IW).ownBlock≠some b/\b≠ib) wn (w7.setCell ⟨ib,2,none⟩ (.slice (some ⟨g7,0,none⟩) 2 c7)):=(zH.af.imp (fun b hb=>⟨hb.1,hb.2.1⟩)).trans (kZ.imp (fun b hb=>hb.2.2))
  have hG:∀b,(Value.slice IV 1 IW).ownBlock=some b->lb<b/\¬v.has b:=fun b hb=>by
   have h1:=(HUn.af.lt b hb).1;exact⟨wP,fun hh=>by have:=HV.af b hh;omega⟩
  have hsz:(w7.setCell ⟨ib,2,none⟩ (.slice (some ⟨g7,0,none⟩) 2 c7)).heap.size=w7.heap.size:=arG;have JH:=zH.af.size
  have hi9:su (fun b=>A b∨(N1<=b/\b<(w7.setCell ⟨ib,2,none⟩ (.slice (some ⟨g7,0,none⟩) 2 c7)))) (w7.setCell ⟨ib,2,none⟩ (.slice (some ⟨g7,0,none⟩) 2 c7)) {iv with aI:=.slice (some ⟨g7,0,none⟩) 2 c7 } {im with aI:=Df s }:=
   { (YA.af.img.asa (fun b hb=>hS.block b ⟨(YA.af.hA b hb).2.1,fun e=>HAg.af b e hb,(YA.af.hA b hb).2.2⟩)).imp (fun b hb=>aH hb)with aI:=by rw[HST.af];exact hO9.QO.imp (fun b hb=>aZ ⟨J8 hb.2,hb.1⟩),xX:=iy.af }
  exact HK.af _ _ _ ⟨TA,rfl,TA,TA,TA,TA,TA,TA,trivial⟩ (YA.af.goX (G:=fun b=>(Value.slice IV 1 IW).ownBlock=some b) hG (hS.imp (fun b hb=>⟨hb.1,hb.2.2,hb.2.1⟩)) (qc jK.af 2 _) hi9 (fun b hb=>by
   rcases hb with hb | hb
   ·have:=YA.af.hA b hb;exact⟨this.1,wP,this.2.2⟩
   ·exact⟨wP,hb.2,wP⟩))
 ·have h1':¬(0:Int)<(n:Int):=wP
  have HST:Hid (Df s=[Jn s]):=aj (by unfold Df;rw[if_pos (List.eq_nil_of_length_eq_zero (by have:=Hn.af;omega))]);go_wp2_with fail;refine HK.af _ w5 (.slice IV 1 IW) ⟨TA,rfl,TA,TA,TA,TA,TA,TA,trivial⟩ (HC.af.go (A':=fun b=>A b∨(N1<=b/\b<w5)) (Step.refl _ _) HC.af.ix {HC.af.img.imp (fun b hb=>aH hb)with aI:= ?_,xX:=iy.af } (fun b hb=> ?_))
  ·rw[HST.af]
   exact HU.af.QO.imp (fun b hb=>aZ ⟨J8 hb.2,hb.1⟩)
  ·rcases hb with hb | hb
   ·exact HC.af.hA b hb
   ·exact⟨wP,hb.2,wP⟩
def pU (p:aA):Prop:=(∀c∈p.cells,0<=c.2/\c.2<=(p.av.length:Int))/\∀j∈p.ar7,0<=j/\j<=(p.av.length:Int)
theorem Ri (h:pU p) (hc:q.cells=p.cells) (hj:q.ar7=p.ar7) (hs:p.av.length<=q.av.length):pU q:=
 ⟨fun c hc'=>by have:=h.1 c (hc ▸ hc');omega,fun j hj'=>by have:=h.2 j (hj ▸ hj');omega⟩
theorem yU {v:List UInt8} {e:Int} {ks:List Int} (h:pU p):pU (p.asked ar1 n v e ks).1/\((p.asked ar1 n v e ks).2:Int)<=((p.asked ar1 n v e ks).1.av.length:Int):=by
 have h1:=(yo ar1 n v e ks p).av.length_le;refine⟨Ri h (nD ..) (rH ..) h1,?_⟩;have h2:=A9 ar1 n v e ks p;obtain⟨h3,_⟩:=Ig.1 h2;omega
theorem Dh {u:Int} (h:pU p) (hx:0<=x/\x<=(p.av.length:Int)):pU (p.cell u x).1:=by
 refine⟨fun c hc=> ?_,h.2⟩;have hc:c∈(fE p.cells (u,x)).1:=hc;show 0<=c.2/\c.2<=(p.av.length:Int);unfold fE at hc
 split at hc
 ·exact h.1 c hc
 ·rcases D5.1 hc with hc | hc
  ·exact h.1 c hc
  ·rcases tY.1 hc with rfl;exact hx
theorem ach (h:pU p) (hx:0<=x/\x<=(p.av.length:Int)):pU (p.jump x):=by
 refine⟨h.1,fun c hc=> ?_⟩;have hc:c∈(fE p.ar7 x).1:=hc;show 0<=c/\c<=(p.av.length:Int);unfold fE at hc
 split at hc
 ·exact h.2 c hc
 ·rcases D5.1 hc with hc | hc
  ·exact h.2 c hc
  ·rcases tY.1 hc with rfl;exact hx
theorem xM {α:Type} {f:aA->α->aA} (hf:∀p x,pU p->pU (f p x)):∀(l:List α) (p:aA),pU p->pU (l.foldl f p)
 | [],_,h=>h
 | x :: l,p,h=>xM hf l (f p x) (hf p x h)
theorem CO (v:dx):∀(l:List gH) (last:Int) (p:aA),(gZ v last l p).ar7=p.ar7
 | [],_,_=>rfl
 | r :: l,last,p=>by unfold gZ;rw[CO v l];simp
theorem abn (s:aM):pU (aC s):=by
 rw[tN];refine xM (fun p v h=>xM (fun p r h=>(yU h).1) _ _ h) _ _ ?_;unfold aA.needs;refine xM (fun p l h=> ?_) _ _ (xM (fun p l h=> ?_) _ _ (xM (fun p l h=> ?_) _ _ ?_))
 ·unfold aA.addressed
  split
  ·have:=yU (ar1:=s.ar1) (n:=l.arT) (v:=l.aG) (e:=101) (ks:=[2,1]) h
   exact Dh this.1 ⟨wP,this.2⟩
  ·exact h
 ·unfold aA.called
  split
  ·have:=yU (ar1:=s.ar1) (n:=l.arT) (v:=l.aG) (e:=101) (ks:=[1]) h
   exact ach this.1 ⟨wP,this.2⟩
  ·split
   ·have:=yU (ar1:=s.ar1) (n:=l.arT) (v:=l.aG) (e:=101) (ks:=[3]) h
    exact Dh (Dh this.1 ⟨wP,this.2⟩) ⟨wP,this.2⟩
   ·split
    ·have:=yU (ar1:=s.ar1) (n:=l.arT) (v:=l.aG) (e:=101) (ks:=[3]) h
     exact Dh this.1 ⟨wP,this.2⟩
    ·exact h
 ·exact Ri h (by unfold aA.line;simp) (by unfold aA.line;simp) (by unfold aA.line;simp)
 ·have h0:(pG s).cells=[]/\(pG s).ar7=[]:=by
   have hv:∀(l:List dx) (p:aA),(l.foldl (fun p v=>p.var s.ar4 v) p).cells=p.cells/\(l.foldl (fun p v=>p.var s.ar4 v) p).ar7=p.ar7:=by
    intro l
    induction l with
    | nil=>intro p;exact⟨rfl,rfl⟩
    | cons v l ih=>intro p;have:=ih (p.var s.ar4 v);rw[nY];refine⟨this.1.trans ?_,this.2.trans ?_⟩<;>(unfold aA.var;first | rw[zh] | rw[CO])<;>(unfold aA.define;simp)
   have hf:∀(l:List eH) (p:aA),(l.foldl (fun p f=>p.func f) p).cells=p.cells/\(l.foldl (fun p f=>p.func f) p).ar7=p.ar7:=by
    intro l
    induction l with
    | nil=>intro p;exact⟨rfl,rfl⟩
    | cons v l ih=>intro p;have:=ih (p.func v);rw[nY];refine⟨this.1.trans ?_,this.2.trans ?_⟩<;>(unfold aA.func aA.define;simp)
   unfold pG Dp;have h1:=hv s.vars (s.ar2.foldl (fun p f=>p.func f) ((⟨[],[],[],0⟩:aA).dm (decide (s.ar4<0)||decide (15<s.ar4)) 100));have h2:=hf s.ar2 ((⟨[],[],[],0⟩:aA).dm (decide (s.ar4<0)||decide (15<s.ar4)) 100);exact⟨h1.1.trans (h2.1.trans arG),h1.2.trans (h2.2.trans arG)⟩
  refine⟨fun c hc=> ?_,fun j hj=> ?_⟩
  ·rw[h0.1]at hc;exact absurd hc nW
  ·rw[h0.2]at hj;exact absurd hj nW
theorem NE (bT:pu s):(∀c∈(bM s).cells,0<=c.2/\c.2<=40000)/\∀j∈(bM s).ar7,0<=j/\j<=40000:=by
 have h:=abn s;have h2:=mU bT;have e:=qz s;unfold aA.sz at h2;refine⟨fun c hc=> ?_,fun j hj=> ?_⟩
 ·have hc:c∈(jG s).1.cells:=hc
  rw[e.2.1]at hc;have:=h.1 c hc;omega
 ·have hj:j∈(jG s).1.ar7:=hj
  rw[e.2.2]at hj;have:=h.2 j hj;omega
theorem gB.adds {S:Nat->Prop} (h:gB S w sv s):∀v∈s.vars,∀r∈v.ash,jV r.add:=fun v hv r hr=>by
 obtain⟨a,b,off,cap,_,_,_,hat⟩:=h.vars.at;obtain⟨i,hi⟩:=ahO hv;obtain⟨_,d,_,hd,_⟩:=hat.ano i v hi;obtain⟨a',b',off',cap',_,_,_,hat'⟩:=hd.at;obtain⟨j,hj⟩:=ahO hr;exact(hat'.RH j r hj).1.2.1
theorem zP (s:aM):∀v∈s.vars,zV (bM s) v:=fun v hv=>((uE s).vars v hv).bare (by unfold bM;rw[EX,(qz s).1])
def IX (s:aM):List iE:=(GZ s (aN s (aC s)) (bM s)).2
theorem abo {S:Nat->Prop} (bT:pu s) (hS:gB S w sv s) (hck:(aC s).asj=0):∀r∈IX s,uR r:=by
 have hbd:=zO bT (mU bT);have hpl:=(NE bT).1;have hsz:=(vQ bT).1;have hrw:=MW hck;have hvw:=(SC hck).2.2;have hadd:=hS.adds;have hf:=bT.ar2;have hv:=bT.vars;unfold aA.sz at hsz;unfold IX;rw[Qf _ (zP s)];obtain ⟨y,hy⟩:=aiG (aN s (aC s));rw[<-hy]at hbd ⊢;obtain ⟨q,hq⟩:=aiG (bM s);rw[<-hq]at hpl hsz ⊢;have hin:∀v∈s.vars,zV q v:=by rw[hq];exact zP s
 have R4:=hbd.got
 have hc:∀(l:List (Int × Int)) (k:Nat),k+l.length<=40000->(∀c∈l,0<=c.2/\c.2<=40000)->∀r∈iO y.got k l,uR r:=by
  intro l
  induction l with
  | nil=>intro k _ _ r hr;cases hr
  | cons c l ih=>
   intro k hk hcl r hr;rw[oF]at hk;rcases Y1.1 hr with rfl | hr
   ·have:=hcl c (oh ..)
    unfold uR;refine⟨?_,?_,?_⟩
    ·show _<=c.2/\c.2<=_;omega
    ·show _<=y.got+8*(k:Int)/\y.got+8*(k:Int)<=_;omega
    ·show _<=(0:Int)/\(0:Int)<=_;omega
   ·exact ih (k+1) wP (fun c hc=>hcl c (uT _ hc)) r hr
 have Nt:∀(l:List dx) (k:Nat),(∀v∈l,v∈s.vars)->k+l.length<=2000->∀r∈gV s.ar1 q s.ar2.length y.vars k l,uR r:=by
  intro l
  induction l with
  | nil=>intro k _ _ r hr;cases hr
  | cons v l ih=>
   intro k hl hk r hr;rw[oF]at hk
   have ha:0<=y.vars.getD k 0/\y.vars.getD k 0<=100000000:=by
    rw[List.getD_eq_getElem?_getD]
    cases e:y.vars[k]? with
    | none=>exact⟨arG,arG⟩
    | some a=>exact hbd.afC a (dH e)
   have xQ:=hl v (oh ..);unfold gV at hr;rcases D5.1 hr with hr | hr
   ·unfold DV at hr
    rcases D5.1 hr with hr | hr
    ·unfold jX at hr
     split at hr
     ·rcases tY.1 hr with rfl
      unfold uR;refine⟨?_,?_,?_⟩
      ·show _<=((s.ar2.length+k:Nat):Int)/\((s.ar2.length+k:Nat):Int)<=_;omega
      ·show _<=y.vars.getD k 0/\y.vars.getD k 0<=_;omega
      ·show _<=(0:Int)/\(0:Int)<=_;omega
     ·cases hr
    ·obtain⟨x,hx,rfl⟩:=PM.1 hr
     obtain⟨i,hi⟩:=hin v xQ x hx;have h1:=hrw v xQ x hx;have h2:=hadd v xQ x hx;have h3:=hvw v xQ;obtain⟨h4,_⟩:=Ig.1 hi;unfold uR kG;rw[fw hi];refine⟨?_,?_,h2⟩
     ·show _<=(i:Int)/\(i:Int)<=_;omega
     ·show _<=y.vars.getD k 0+8*x.asl/\y.vars.getD k 0+8*x.asl<=_;omega
   ·exact ih (k+1) (fun v hv=>hl v (uT _ hv)) wP r hr
 intro r hr;rcases D5.1 hr with hr | hr
 ·exact hc q.cells 0 wP hpl r hr
 ·exact Nt s.vars 0 (fun v hv=>hv) wP r hr
theorem apx (hF:oP [(1,aQ w),(2,aQ (w+1)),(3,ah 0),(4,aQ (w+2)),(5,aQ lb),(6,aQ ib)] a) (hC:pR w sv s w5 own v fv vv lb ib dO gY iv im A) (bT:pu s) (hck:(aC s).asj=0) (hrl:dO.aO=au)
  (hK:∀a' wc rv,oP [(1,aQ w),(2,aQ (w+1)),(3,ah 0),(4,aQ (w+2)),(5,aQ lb),(6,aQ ib)] a'->pR w sv s wc own v fv vv lb ib {dO with aO:=rv } gY {iv with aO:=rv } {im with aO:=IX s } (fun b=>A b∨(w5.heap.size<=b/\b<wc))->(bL Tryz.f6 19).wp asq (bodyPost asq Tryz.f6 (gN w s)) a' wc):(bL Tryz.f6 18).wp asq (bodyPost asq Tryz.f6 (gN w s)) a w5:=by
 have HK:=aj hK;have HC:=aj hC;have hib:=hC.vP;have h0:=hC.h0;have hbd:=zO bT (mU bT);have hps:=vQ bT;have iy:=aj (abo bT hC.spec hck);obtain⟨fa,fc,lZ⟩:=hC.fl;obtain⟨va,vc,hvf⟩:=hC.vl.form;subst lZ hvf;have HR:=aj (adV (y:=⟨(aN s (aC s)).aS,(aN s (aC s)).got,(aN s (aC s)).bW,(aN s (aC s)).aS+24*(aC s).ar7.length,(aN s (aC s)).data,(aN s (aC s)).bf⟩) fa (aN s (aC s)).ar2.length fc va vc (aN s (aC s)) ⟨rfl,rfl⟩ (hC.vl.imp (S':=(·<w5.heap.size)) (fun b hb=>by have hb:b<lb:=hb;omega)) hC.plan hC.Pt wP (zP s) (fun c hc=>ahI s c (by have hc:c∈(jG s).1.cells:=hc;rwa [(qz s).2.1]at hc)) (fun v hv r hr=>by have:=MW hck v hv r hr;have:=(SC hck).2.2 v hv;omega) hbd.vars hbd.afC bT.vars bT.ar2 bT.ash wP (by have:=hbd.got;show 0<=(aN s (aC s)).got/\(aN s (aC s)).got<=25000000;omega));have qV:Hid (w5.heap[lb]? =some (aB #[aQ (w+2),.slice fa (aN s (aC s)).ar2.length fc,.slice va (aN s (aC s)).vars.length vc,ah (aN s (aC s)).aS,ah (aN s (aC s)).got,ah (aN s (aC s)).bW,ah 0,ah ((aN s (aC s)).aS+24*(aC s).ar7.length),ah (aN s (aC s)).data,ah (aN s (aC s)).bf] 77)):=aj hC.lx;have kF:Hid (w5.heap[ib]? =some (aB #[ax gY.arT,ah gY.ar4,dO.aI,dO.ar6,dO.aF,dO.av,dO.ar9,dO.ar8,ah gY.ase,au,dO.asf,dO.asb,dO.aP,dO.bf,ah gY.aJ] 44)):=aj (by have h:=hC.ix;unfold aW at h;rwa [hrl]at h);unfold kS at HR;clear hC hK bT hck hbd hps hrl;have e18:bL Tryz.f6 18=.seq (cZ Tryz.f6 18) (bL Tryz.f6 19):=fV _ 18 TA;rw[e18];clear e18;apply z7O.elim hF;clear hF;intro _;intro V1;intro V2;intro V3;intro V4;intro V5;intro V6
 iterate 240 (intro _)
 intro hF;obtain⟨-,-,e1,e2,e3,e4,e5,e6,-⟩:=hF;replace e1:V1=aQ w:=e1;subst e1;replace e2:V2=aQ (w+1):=e2;subst e2;replace e3:V3=ah 0:=e3;subst e3;replace e4:V4=aQ (w+2):=e4;subst e4;replace e5:V5=aQ lb:=e5;subst e5;replace e6:V6=aQ ib:=e6;subst e6
 conv in cZ _ 18=>whnf
 have l0:=aD qV.af 0 _ rfl;have l1:=aD qV.af 1 _ rfl;have l2:=aD qV.af 2 _ rfl;have l3:=aD qV.af 3 _ rfl;have l4:=aD qV.af 4 _ rfl;have l5:=aD qV.af 5 _ rfl;have l6:=aD qV.af 6 _ rfl;have l7:=aD qV.af 7 _ rfl;have l8:=aD qV.af 8 _ rfl;have l9:=aD qV.af 9 _ rfl;go_wp2_with fail;refine HR.af.mono ?_;rintro e w6 ⟨rv,rfl,ho6,hb6⟩;obtain⟨vz,vB,hrf⟩:=ho6.form;subst hrf;have zG:=aj ho6;have Ow:=aj (HC.af.dW hb6);have sD:=aj ((hb6.block ib hib).trans kF.af);have JN:=hb6.size;clear ho6 hb6 l0 l1 l2 l3 l4 l5 l6 l7 l8 l9;have i9:w6.cell? (ak ib 9)=some (au):=aL sD.af rfl;have f9:w6.frozen? (ak ib 9)=false:=vV sD.af 9;obtain ⟨rl,hrl⟩:=aiG ((GZ s (aN s (aC s)) (bM s)).2.length);rw[<-hrl]at zG ⊢;clear hrl;go_wp2_with fail;have kZ:Step (fun b=>b≠ib) w6 (w6.setCell ⟨ib,9,none⟩ (.slice vz rl vB)):=(Step.refl _ w6).setCell (fun h=>h rfl) _;have hsz:(w6.setCell ⟨ib,9,none⟩ (.slice vz rl vB)).heap.size=w6.heap.size:=arG;refine HK.af _ _ (.slice vz rl vB) ⟨TA,rfl,TA,TA,TA,TA,TA,TA,trivial⟩ (Ow.af.go (kZ.imp (fun b hb=>hb.2)) (qc sD.af 9 _) { (Ow.af.AU (kZ.imp (fun b hb=>hb.2))).imp (fun b hb=>aH hb)with aO:= ?_,kU:=iy.af } (fun b hb=> ?_))
 ·exact((aX.lb (zG.af.fJ wM (E':=fun b=>b<w5) (fun g hg h=>by have:=(zG.af.lt g hg).1;omega))).asa (fun b hb=>kZ.block b (by have:=hb.2;omega))).imp (fun b hb=>aZ ⟨J8 hb.2,by rw[hsz];exact hb.1⟩)
 ·rcases hb with hb | hb
  ·have:=Ow.af.hA b hb;exact⟨this.1,wP,this.2.2⟩
  ·exact⟨wP,hb.2,wP⟩
def isNamed (n:List UInt8) (f:eH):Bool:=decide (f.sym.arT=n)&& !f.sym.old
def fH (s:aM):List (List UInt8)->Option (List Int)
 | []=>some []
 | n :: l=>match s.ar2.findIdx? (isNamed n)with
  | some k=>(fH s l).map (fC s.ar2 k :: ·)
  | none=>none
def sH (s:aM) (n:List UInt8) (k:Nat):Int:=match (s.ar2.drop k).findIdx? (isNamed n)with
 | some i=>fC s.ar2 (k+i)
 | none=> -1
theorem ahQ (s:aM) (n:List UInt8):sH s n s.ar2.length= -1:=by unfold sH;rw[List.drop_length];rfl
theorem afO {f:eH} (h:s.ar2[k]? =some f):sH s n k=if isNamed n f=true then fC s.ar2 k else sH s n (k+1):=by
 obtain⟨hk,rfl⟩:=Sm.1 h;unfold sH;rw[Cf hk,List.findIdx?_cons];by_cases hn:isNamed n s.ar2[k]=true
 ·rw[if_pos hn,if_pos hn];rfl
 ·rw[if_neg hn,if_neg hn]
  cases (s.ar2.drop (k+1)).findIdx? (isNamed n)with
  | none=>rfl
  | some i=>show fC s.ar2 (k+(i+1))=fC s.ar2 (k+1+i);congr 1;omega
theorem PD (fs:List eH) (k:Nat):0<=fC fs k:=(kW _).1
theorem afP (s:aM) (n:List UInt8):(sH s n 0<0/\s.ar2.findIdx? (isNamed n)=none)∨(0<=sH s n 0/\∃k,s.ar2.findIdx? (isNamed n)=some k/\fC s.ar2 k=sH s n 0):=by
 unfold sH;rw[List.drop_zero]
 cases h:s.ar2.findIdx? (isNamed n)with
 | none=>exact aH ⟨(by omega:(-1:Int)<0),rfl⟩
 | some k=>exact aZ ⟨PD _ _,k,rfl,by show fC s.ar2 k=fC s.ar2 (0+k);rw[Nat.zero_add]⟩
theorem Wt (s:aM) (n:List UInt8) (l:List (List UInt8)):fH s (n :: l)=match s.ar2.findIdx? (isNamed n)with
  | some k=>(fH s l).map (fC s.ar2 k :: ·)
  | none=>none:=rfl
theorem GN (s:aM):∀a b:List (List UInt8),fH s (a++b)=match fH s a with
  | none=>none
  | some l=>(fH s b).map (l++·)
 | [],b=>by
  show fH s b=(fH s b).map (fun x=>x)
  cases fH s b<;>rfl
 | n :: a,b=>by
  rw[List.cons_append,Wt,Wt]
  cases s.ar2.findIdx? (isNamed n)with
  | none=>rfl
  | some k=>
   simp only;rw[GN s a b]
   cases fH s a with
   | none=>rfl
   | some l=>cases fH s b<;>rfl
theorem afQ {ns:List (List UInt8)} {j:Nat} {l:List Int} (h:fH s (ns.take k)=some l) (hn:ns[k]? =some n) (hj:s.ar2.findIdx? (isNamed n)=some j):fH s (ns.take (k+1))=some (l++[fC s.ar2 j]):=by
 have h2:ns.take (k+1)=ns.take k++[n]:=by rw[Qc,hn];rfl
 have h3:fH s [n]=some [fC s.ar2 j]:=by unfold fH;rw[hj];rfl
 rw[h2,GN,h,h3];rfl
theorem ahR {ns:List (List UInt8)} (hn:ns[k]? =some n) (hj:s.ar2.findIdx? (isNamed n)=none):fH s ns=none:=by
 obtain⟨hk,rfl⟩:=Sm.1 hn;have h2:ns=ns.take k++ns.drop k:=(jf k ns).symm;rw[h2,GN,Cf hk]
 cases fH s (ns.take k)with
 | none=>rfl
 | some l=>simp only[fH,hj];rfl
theorem PE (s:aM):∀(ns:List (List UInt8)) (l:List Int),fH s ns=some l->l.length=ns.length/\∀x∈l,0<=x/\x<=bO s.ar5
 | [],l,h=>by obtain rfl:=qY h;exact⟨rfl,fun x hx=>by cases hx⟩
 | n :: ns,l,h=>by
  unfold fH at h
  cases hk:s.ar2.findIdx? (isNamed n)with
  | none=>rw[hk]at h;cases h
  | some k=>
   rw[hk]at h;obtain⟨l',h1,rfl⟩:=Option.map_eq_some_iff.1 h;obtain⟨h2,h3⟩:=PE s ns l' h1;refine⟨by simp[h2],fun x hx=> ?_⟩;rcases Y1.1 hx with rfl | hx
   ·refine⟨PD _ _,?_⟩
    have e:bO s.ar5=fC s.ar2 k+bO ((s.ar2.drop k).flatMap (·.ar5)):=by
     unfold fC aM.ar5;rw[<-mX,<-j5,jf]
    have:=(kW ((s.ar2.drop k).flatMap (·.ar5))).1;omega
   ·exact h3 x hx
theorem Fv (s:aM) (ar2:List Int):∀(l:List (List UInt8)) (q:aA × List Int),q.1.asj≠0->(dL s ar2 l q).1.asj=q.1.asj
 | [],q,_=>rfl
 | n :: l,q,h=>by
  unfold dL
  split
  ·exact Fv s ar2 l _ h
  ·have h1:(q.1.fail 103).asj=q.1.asj:=XD h
   exact(Fv s ar2 l (q.1.fail 103,q.2) (by show(q.1.fail 103).asj≠0;rw[h1];exact h)).trans h1
theorem Fx (s:aM) (p0:aA):∀(ns:List (List UInt8)) (l:List Int) (p:aA) (out:List Int),fH s ns=some l->dL s (aN s p0).ar2 ns (p,out)=(p,out++l)
 | [],l,p,out,h=>by obtain rfl:=qY h;unfold dL;rw[Y8]
 | n :: ns,l,p,out,h=>by
  unfold fH at h
  cases hk:s.ar2.findIdx? (isNamed n)with
  | none=>rw[hk]at h;cases h
  | some k=>
   rw[hk]at h;obtain⟨l',h1,rfl⟩:=Option.map_eq_some_iff.1 h;have hk':s.ar2.findIdx? (fun f=>decide (f.sym.arT=n)&& !f.sym.old)=some k:=hk;unfold dL;rw[hk'];simp only;rw[Fx s p0 ns l' _ _ h1,aaF (ahN.1 hk).1,Sq];rfl
theorem MX (s:aM) (ar2:List Int):∀(ns:List (List UInt8)) (p:aA) (out:List Int),fH s ns=none->p.asj=0->(dL s ar2 ns (p,out)).1.asj=103
 | [],p,out,h,_=>by cases h
 | n :: ns,p,out,h,hp=>by
  unfold fH at h
  cases hk:s.ar2.findIdx? (isNamed n)with
  | some k=>
   rw[hk]at h;have hk':s.ar2.findIdx? (fun f=>decide (f.sym.arT=n)&& !f.sym.old)=some k:=hk;unfold dL;rw[hk'];simp only
   exact MX s ar2 ns _ _ (by cases h2:fH s ns with
    | none=>rfl
    | some l=>rw[h2]at h;cases h) hp
  | none=>
   have hk':s.ar2.findIdx? (fun f=>decide (f.sym.arT=n)&& !f.sym.old)=none:=hk;unfold dL;rw[hk'];simp only;have h1:(p.fail 103).asj=103:=by unfold aA.fail;rw[if_pos hp]
   rw[Fv s ar2 ns (p.fail 103,out) (by show(p.fail 103).asj≠0;rw[h1];decide)];exact h1
theorem Wu {a b:List Int} (ha:fH s s.asb=some a) (hb:fH s s.aP=some b):rD s=(aC s,a)/\jG s=(aC s,b):=by
 have h1:rD s=(aC s,a):=by unfold rD;rw[Fx s _ _ a _ _ ha];rfl
 refine⟨h1,?_⟩;unfold jG;rw[h1,Fx s _ _ b _ _ hb];rfl
theorem YD (hf:(aC s).asj=0) (h:fH s s.asb=none∨fH s s.aP=none):(jG s).1.asj=103:=by
 cases ha:fH s s.asb with
 | none=>
  have h1:(rD s).1.asj=103:=MX s _ _ _ _ ha hf;unfold jG;rw[Fv _ _ _ _ (by show(rD s).1.asj≠0;rw[h1];decide)];exact h1
 | some a=>
  rcases h with h | h
  ·rw[ha]at h;cases h
  have h1:rD s=(aC s,a):=by unfold rD;rw[Fx s _ _ a _ _ ha];rfl
  unfold jG;rw[h1];exact MX s _ _ _ _ h hf
theorem afR {x:dw} {at_:Int} (h:mK p x) (hs:q.av.map nJ=p.av.map nJ) (hc:q.cells=p.cells) (hj:q.ar7=p.ar7):(jl ar1 y x at_ q).2=(jl ar1 y x at_ p).2:=by
 have hq:=h.bare hs hc hj;unfold jl yY;by_cases h1:x.ar3=1
 ·obtain⟨i,hi,k,hk⟩:=h.call h1
  simp[h1,fw hi,fw (show q.av.findIdx? _=some i by rw[rF hs];exact hi),hj]
 ·by_cases h2:x.ar3=2
  ·obtain⟨i,hi,k,hk⟩:=h.addr h2
   simp[h2,fw hi,fw (show q.av.findIdx? _=some i by rw[rF hs];exact hi),gQ hk,gQ (p:=q) (by rw[hc];exact hk)]
  ·by_cases h3:x.ar3=3
   ·obtain⟨i,hi,⟨k,hk⟩,k',hk'⟩:=h.bf h3
    simp[h3,fw hi,fw (show q.av.findIdx? _=some i by rw[rF hs];exact hi),gQ hk,gQ hk',gQ (p:=q) (by rw[hc];exact hk),gQ (p:=q) (by rw[hc];exact hk')]
   ·by_cases h4:x.ar3=4
    ·obtain⟨i,hi,k,hk⟩:=h.tp h4
     simp[h4,fw hi,fw (show q.av.findIdx? _=some i by rw[rF hs];exact hi),gQ hk,gQ (p:=q) (by rw[hc];exact hk)]
    ·simp[h1,h2,h3,h4]
theorem Rj {ar1:List (List UInt8)} {y:pK} {p q:aA} (hs:q.av.map nJ=p.av.map nJ) (hc:q.cells=p.cells) (hj:q.ar7=p.ar7):∀(ls:List dw) (out:List fu),(∀l∈ls,mK p l)->(iD ar1 y ls (q,out)).2=(iD ar1 y ls (p,out)).2
 | [],out,_=>rfl
 | x :: ls,out,h=>by
  have hx:=h x (oh ..);unfold iD;simp only[(yZ hx).1,(yZ (hx.bare hs hc hj)).1,afR hx hs hc hj];exact Rj hs hc hj ls _ (fun l hl=>h l (uT _ hl))
theorem aci (hs:q.av.map nJ=p.av.map nJ) {at_:Int} {r:gH} (h:Sy p r):kG ar1 q at_ r=kG ar1 p at_ r:=by
 obtain⟨i,hi⟩:=h;unfold kG;rw[fw hi,fw (show q.av.findIdx? _=some i by rw[rF hs];exact hi)]
theorem PG {ar1:List (List UInt8)} {p q:aA} (hs:q.av.map nJ=p.av.map nJ) (nf:Nat) (vars:List Int):∀(l:List dx) (k:Nat),(∀v∈l,zV p v)->gV ar1 q nf vars k l=gV ar1 p nf vars k l
 | [],k,_=>rfl
 | v :: l,k,h=>by
  unfold gV DV;rw[PG hs nf vars l (k+1) (fun v hv=>h v (uT _ hv))]
  congr 2
  exact List.map_congr_left fun r hr=>aci hs (h v (oh ..) r hr)
def lq (s:aM) (ls:List dw):List fu:=(iD s.ar1 (aN s (aC s)) ls (aC s,[])).2
def sI (s:aM):List fu:=jS (aN s (aC s)).bW 0 (aC s).ar7.length (lq s s.ar5)
def kU (s:aM):List iE:=iO (aN s (aC s)).got 0 (aC s).cells++gV s.ar1 (aC s) s.ar2.length (aN s (aC s)).vars 0 s.vars
theorem Di (s:aM):(bM s).av.map nJ=(aC s).av.map nJ/\(bM s).cells=(aC s).cells/\(bM s).ar7=(aC s).ar7/\(bM s).av=sM s (aN s (aC s)) (aC s).av:=by
 obtain⟨h1,h2,h3⟩:=qz s;refine⟨?_,h2,h3,?_⟩
 ·unfold bM;rw[EX,h1]
 ·unfold bM;rw[h1]
theorem Xa (s:aM):(gW s).2=sI s:=by
 obtain⟨h1,h2,h3,_⟩:=Di s;have hl:=(wT s).2;unfold gW A8 sI lq;simp only[(nC (ar1:=s.ar1) (y:=aN s (aC s)) (p:=bM s) s.ar5 [] hl).1,h3];rw[Rj h1 h2 h3 s.ar5 [] (uE s).ar5]
theorem abp (s:aM):GZ s (aN s (aC s)) (bM s)=(bM s,kU s):=by
 obtain⟨h1,h2,h3,_⟩:=Di s;rw[Qf _ (zP s)];unfold kU;rw[h2,PG h1 _ _ s.vars 0 (uE s).vars]
def Wv (s:aM) (x:dw) (at_:Int):List fu:=(jl s.ar1 (aN s (aC s)) x at_ (aC s)).2
theorem acj {ls:List dw} {x:dw} (hls:∀l∈ls,l∈s.ar5) (hx:x∈s.ar5):lq s (ls++[x])=lq s ls++Wv s x (bO ls)/\(8*(lq s (ls++[x])).length:Int)=bO (ls++[x])/\(8*(Wv s x (bO ls)).length:Int)=jZ x*8:=by
 have hi:=(uE s).ar5;have h1:=nC (ar1:=s.ar1) (y:=aN s (aC s)) (p:=aC s) ls [] (fun l hl=>hi l (hls l hl))
 have h2:=nC (ar1:=s.ar1) (y:=aN s (aC s)) (p:=aC s) (ls++[x]) [] (fun l hl=>hi l (by
  rcases D5.1 hl with h | h
  ·exact hls l h
  ·simp at h;subst h;exact hx))
 have e1:(8*(lq s ls).length:Int)=bO ls:=by have:=h1.2;simpa [lq] using this
 have e2:(8*(lq s (ls++[x])).length:Int)=bO (ls++[x]):=by have:=h2.2;simpa [lq] using this
 refine⟨?_,e2,(yZ (hi x hx)).2⟩;unfold Wv lq at *;rw[Gm,h1.1,e1]
theorem PH:∀n:Nat,bX (List.replicate n 0)=List.replicate (8*n) (0:UInt8)
 | 0=>rfl
 | n+1=>by
  have h:bD 8 0=List.replicate 8 (0:UInt8):=abD;rw[List.replicate_succ];show bD 8 0++bX (List.replicate n 0)=_;rw[PH n,h,List.replicate_append_replicate]
  congr 1;omega
theorem ack (ar1:List (List UInt8)) (l:dw) (p:aA):(p.called ar1 l).ar7.length<=p.ar7.length+1/\(p.called ar1 l).cells.length<=p.cells.length+(if l.ar3=2 then 0 else 2):=by
 have h1:=fun ks=>nD ar1 l.arT l.aG 101 ks p
 have h2:=fun ks=>rH ar1 l.arT l.aG 101 ks p
 unfold aA.called
 split
 ·rename_i hk
  have h4:=uI (p.asked ar1 l.arT l.aG 101 [1]).1.ar7 ((p.asked ar1 l.arT l.aG 101 [1]).2:Int);simp only[aA.jump];rw[h1 [1]];rw[h2 [1]]at h4 ⊢;omega
 ·split
  ·rename_i hk
   have h5:=rO 1 ((p.asked ar1 l.arT l.aG 101 [3]).2:Int) (p.asked ar1 l.arT l.aG 101 [3]).1;have h6:=rO 2 ((p.asked ar1 l.arT l.aG 101 [3]).2:Int) ((p.asked ar1 l.arT l.aG 101 [3]).1.cell 1 ((p.asked ar1 l.arT l.aG 101 [3]).2:Int)).1;rw[h1 [3]]at h5;rw[if_neg wP];refine⟨?_,eG h6 wP⟩;show(p.asked ar1 l.arT l.aG 101 [3]).1.ar7.length<=_;rw[h2 [3]];omega
  ·split
   ·have h5:=rO 3 ((p.asked ar1 l.arT l.aG 101 [3]).2:Int) (p.asked ar1 l.arT l.aG 101 [3]).1
    rw[h1 [3]]at h5;rw[if_neg wP];refine⟨?_,eG h5 wP⟩;show(p.asked ar1 l.arT l.aG 101 [3]).1.ar7.length<=_;rw[h2 [3]];omega
   ·omega
theorem Xb (ar1:List (List UInt8)) (l:dw) (p:aA):(p.addressed ar1 l).ar7.length<=p.ar7.length/\(p.addressed ar1 l).cells.length<=p.cells.length+(if l.ar3=2 then 2 else 0):=by
 have h1:=fun ks=>nD ar1 l.arT l.aG 101 ks p
 have h2:=fun ks=>rH ar1 l.arT l.aG 101 ks p
 unfold aA.addressed
 split
 ·have h5:=rO 0 ((p.asked ar1 l.arT l.aG 101 [2,1]).2:Int) (p.asked ar1 l.arT l.aG 101 [2,1]).1
  rw[h1 [2,1]]at h5;refine⟨?_,eG h5 wP⟩;show(p.asked ar1 l.arT l.aG 101 [2,1]).1.ar7.length<=_;rw[h2 [2,1]];omega
 ·omega
def zQ (f:dw->Nat):List dw->Nat
 | []=>0
 | l :: r=>f l+zQ f r
theorem PI {F:aA->dw->aA} {a b:dw->Nat} (h:∀p l,(F p l).ar7.length<=p.ar7.length+a l/\(F p l).cells.length<=p.cells.length+b l):∀(ls:List dw) (p:aA),(ls.foldl F p).ar7.length<=p.ar7.length+zQ a ls/\(ls.foldl F p).cells.length<=p.cells.length+zQ b ls
 | [],p=>by simp[zQ]
 | x :: l,p=>by
  have h1:=PI h l (F p x);have h2:=h p x;rw[nY];unfold zQ;omega
theorem abq:∀ls:List dw,zQ (fun _=>1) ls=ls.length/\zQ (fun _=>0) ls=0/\zQ (fun l=>if l.ar3=2 then 0 else 2) ls+zQ (fun l=>if l.ar3=2 then 2 else 0) ls=2*ls.length
 | []=>⟨rfl,rfl,rfl⟩
 | x :: l=>by
  have h:=abq l;simp only[zQ,oF]
  split<;>omega
theorem YE (p:aA) (f:eH):(p.func f).ar7=p.ar7/\(p.func f).cells=p.cells:=by unfold aA.func aA.define;simp
theorem abr (ar4:Int) (p:aA) (v:dx):(p.var ar4 v).ar7=p.ar7/\(p.var ar4 v).cells=p.cells:=by
 unfold aA.var;rw[CO,zh];unfold aA.define;simp
theorem vS {α:Type} {F:aA->α->aA} (h:∀p x,(F p x).ar7=p.ar7/\(F p x).cells=p.cells):∀(ls:List α) (p:aA),(ls.foldl F p).ar7=p.ar7/\(ls.foldl F p).cells=p.cells
 | [],p=>⟨rfl,rfl⟩
 | x :: l,p=>by rw[nY,(vS h l (F p x)).1,(vS h l (F p x)).2];exact h p x
theorem zi (s:aM):(aC s).ar7.length<=s.ar5.length/\(aC s).cells.length<=2*s.ar5.length:=by
 rw[tN,Dw];have hr:=vS (F:=fun p (r:gH)=>(p.asked s.ar1 r.arT r.aG 102 [2,1]).1) (fun p (r:gH)=>⟨rH _ _ _ _ _ p,nD _ _ _ _ _ p⟩) (s.vars.flatMap (·.ash)) ((pG s).needs s);rw[hr.1,hr.2]
 have h0:(pG s).ar7=[]/\(pG s).cells=[]:=by
  unfold pG Dp;rw[(vS (fun p v=>abr s.ar4 p v) s.vars _).1,(vS (fun p v=>abr s.ar4 p v) s.vars _).2,(vS YE s.ar2 _).1,(vS YE s.ar2 _).2];simp
 unfold aA.needs;have h1:=vS (F:=fun p l=>p.line l) (fun p (l:dw)=>by unfold aA.line;simp) s.ar5 (pG s);have h2:=PI (F:=fun p l=>p.called s.ar1 l) (a:=fun _=>1) (fun p l=>ack s.ar1 l p) s.ar5 (s.ar5.foldl (fun p l=>p.line l) (pG s));have h3:=PI (F:=fun p l=>p.addressed s.ar1 l) (a:=fun _=>0) (fun p l=>Xb s.ar1 l p) s.ar5 (s.ar5.foldl (fun p l=>p.called s.ar1 l) (s.ar5.foldl (fun p l=>p.line l) (pG s)));have h4:=abq s.ar5;rw[h1.1,h1.2,h0.1,h0.2]at h2;simp only[aR]at h2;omega
theorem acl (h:(aC s).asj=0):∀l∈s.ar5,mI l=true:=by
 rw[tN]at h;have h1:=foldl_zero (fun _ _ h=>NW h) _ _ h;have h2:=foldl_zero (fun _ _ h=>Qk h) _ _ (foldl_zero (fun _ _ h=>Jy h) _ _ h1);exact EY (f:=fun p l=>p.line l) (P:=fun l=>mI l=true) (fun _ _ h=>((mD abD).1 h).1) (fun p l h=>by simpa using ((mD abD).1 h).2) s.ar5 (pG s) h2
theorem PK (b:Bool):dQ b 0 15 0=true:=by cases b<;>rfl
theorem R6 {b:Bool} (hb:b=true) (h:0<=x/\x<=15):dQ b 0 15 x=true:=by subst hb;simp[dQ,h.1,h.2]
theorem R8 (h: -2147483648<=x/\x<=2147483647):dQ true (-2147483648) 2147483647 x=true:=by simp[dQ,h.1,h.2]
theorem PL {r:Int} (hr:0<=r/\r<=15) (hm: -2147483648<=m/\m<=2147483647):gJ ⟨11,r,0,0,m⟩=true:=by
 show(true&&(dQ true 0 15 r&&dQ false 0 15 0&&dQ false 0 15 0&&dQ true (-2147483648) 2147483647 m))=true;rw[R6 rfl hr,PK,R8 hm];rfl
theorem ak8 (hm: -2147483648<=m/\m<=2147483647):gJ ⟨15,0,0,0,m⟩=true:=by
 show(true&&(dQ false 0 15 0&&dQ false 0 15 0&&dQ false 0 15 0&&dQ true (-2147483648) 2147483647 m))=true;rw[PK,R8 hm];rfl
theorem bind_ok (hm: -2147483648<=m/\m<=2147483647):gJ ⟨22,0,0,0,m⟩=true:=by
 show(true&&(dQ false 0 15 0&&dQ false 0 15 0&&dQ false 0 15 0&&dQ true (-2147483648) 2147483647 m))=true;rw[PK,R8 hm];rfl
theorem xN {α:Type} {f:α->Bool} {l:List α} {i:Nat} (h:l.findIdx? f=some i):i<l.length:=(ahN.1 h).1
theorem ajp {x:dw} {at_:Int} (h:mK p x) (hl:mI x=true) (ha:0<=at_/\at_<=100000) (hs:0<=y.aS/\y.aS+24*(p.ar7.length:Int)<=100000) (hg:0<=y.got/\y.got+8*(p.cells.length:Int)<=100000):(jl ar1 y x at_ p).2.all gJ=true:=by
 unfold mI at hl;simp only[Bool.and_eq_true,Bool.or_eq_true,arI,Bool.not_eq_true',arN]at hl;obtain⟨⟨⟨⟨k1,k2⟩,k3⟩,k4⟩,k5⟩:=hl;unfold jl yY;by_cases h1:x.ar3=1
 ·obtain⟨i,hi,k,hk⟩:=h.call h1
  have hkl:=xN hk;have hx:Ju p.ar7 i=k:=by unfold Ju;rw[hk]
  rw[if_pos h1];simp only[fw hi,hx,Px,Py,Pw];exact ak8 wP
 rw[if_neg h1];by_cases h2:x.ar3=2
 ·obtain⟨i,hi,k,hk⟩:=h.addr h2
  have hkl:=xN hk;rw[if_pos h2];simp only[fw hi,gQ hk,Px,Py,Pw];exact PL wP wP
 rw[if_neg h2];by_cases h3:x.ar3=3
 ·obtain⟨i,hi,⟨k,hk⟩,k',hk'⟩:=h.bf h3
  have hkl:=xN hk;have hkl':=xN hk';rw[if_pos h3];simp only[fw hi,gQ hk,gQ hk',Px,Py,Pw];rw[PL abD wP,PL wP wP];show(true&&(true&&(true&&(dQ true 0 15 x.a&&dQ true 0 15 13&&dQ false 0 15 0&&dQ false (-2147483648) 2147483647 0))))=true;rw[R6 rfl wP];rfl
 rw[if_neg h3];by_cases h4:x.ar3=4
 ·obtain⟨i,hi,k,hk⟩:=h.tp h4
  have hkl:=xN hk;rw[if_pos h4];simp only[fw hi,gQ hk,Px,Py,Pw];rw[PL abD wP];show(true&&((true&&(dQ true 0 15 x.a&&dQ false 0 15 0&&dQ false 0 15 0&&dQ false (-2147483648) 2147483647 0))&&(true&&(dQ true 0 15 x.a&&dQ true 0 15 x.a&&dQ true 0 15 13&&dQ false (-2147483648) 2147483647 0))))=true;rw[R6 rfl wP];rfl
 rw[if_neg h4];rcases k5 with k5 | k5
 ·omega
 ·simp[k5]
theorem YF {ar1:List (List UInt8)} {y:pK} {p:aA} (hs:0<=y.aS/\y.aS+24*(p.ar7.length:Int)<=100000) (hg:0<=y.got/\y.got+8*(p.cells.length:Int)<=100000):∀(ls:List dw) (out:List fu),(∀l∈ls,mK p l/\mI l=true)->8*(out.length:Int)+bO ls<=100000->out.all gJ=true->(iD ar1 y ls (p,out)).2.all gJ=true
 | [],out,_,_,h=>h
 | x :: ls,out,h,hlen,ho=>by
  have hx:=h x (oh ..);have h1:=yZ (ar1:=ar1) (y:=y) (at_:=8*out.length) hx.1;have h2:=(kW ls).1;have h3:=Jk x;unfold bO at hlen;unfold iD;simp only[h1.1];refine YF hs hg ls _ (fun l hl=>h l (uT _ hl)) (by rw[Kk];omega) ?_;rw[ahP,ho,ajp hx.1 hx.2 wP hs hg];rfl
theorem YG {bW:Int} (hp:0<=bW):∀(n k:Nat) (out:List fu),bW+8*((k+n:Nat):Int)<=100000->out.length+3*n<=100000->out.all gJ=true->(jS bW k n out).all gJ=true
 | 0,k,out,_,_,h=>h
 | n+1,k,out,h1,h2,h=>by
  unfold jS;refine YG hp n (k+1) _ (by rw[show k+1+n=k+(n+1) by omega];exact h1) (by rw[Kk];simp;omega) ?_;rw[ahP,h];simp only[Px,Py,Pw,Bool.true_and];rw[PL abD wP,show gJ ⟨17,14,0,0,0⟩=true by decide,bind_ok wP];rfl
structure apy (s:aM) (y:pK) (p:aA):Prop where
 aS:y.aS=bO s.ar5/\0<=y.aS
 got:y.aS+24*(p.ar7.length:Int)<=y.got
 bW:y.bW=y.got+8*(p.cells.length:Int)
 data:y.bW+8*(p.ar7.length:Int)<=y.data
theorem anL (s:aM) (p:aA):apy s (aN s p) p:=by
 have h1:(aN s p).aS=bO s.ar5:=by
  have e:(aN s p).aS=kQ 0 s.ar2:=rfl;rw[e,Be,Int.zero_add];rfl
 have h2:=kW s.ar5;have h3:=(xL s.vars).1;have h4:=aaE s p;refine⟨⟨h1,wP⟩,?_,rfl,wP⟩;have e:(aN s p).got=ny (max 1 ((aN s p).aS+24*p.ar7.length)):=rfl;have:=(aap (n:=max 1 ((aN s p).aS+24*p.ar7.length)) wP).1;omega
theorem abt (hc:(aC s).asj=0) (hd:(aN s (aC s)).data<=65536):(sI s).all gJ=true:=by
 have hl:=anL s (aC s);obtain⟨hs1,hs2⟩:=hl.aS;have h1:=hl.got;have h2:=hl.bW;have h3:=hl.data;have h4:=nC (ar1:=s.ar1) (y:=aN s (aC s)) (p:=aC s) s.ar5 [] (uE s).ar5;have h5:(8*(lq s s.ar5).length:Int)=bO s.ar5:=by have:=h4.2;simpa [lq] using this
 unfold sI;refine YG wP _ 0 _ wP wP ?_;unfold lq;exact YF wP wP s.ar5 [] (fun l h=>⟨(uE s).ar5 l h,acl hc l h⟩) (by simp;omega) rfl
def IY (s:aM):List UInt8:=List.replicate (8*((aC s).cells.length+(aC s).ar7.length)) 0++bX (lC s.vars)
def vD (s:aM) (a b:List Int):bK:=
 {
  arT:=s.arT,ar4:=s.ar4,
  aI:=⟨0,max 1 (ky (sI s)).length,ky (sI s),5⟩ :: (if (IY s).length=0 then [] else [⟨(aN s (aC s)).got,(IY s).length,IY s,3⟩]),
  ar6:=s.ar6,aF:=s.aF,av:=sM s (aN s (aC s)) (aC s).av,
  ar9:=jN (sM s (aN s (aC s)) (aC s).av) (jy (bQ (sM s (aN s (aC s)) (aC s).av)).length),ar8:=kR (sM s (aN s (aC s)) (aC s).av),ase:=6,
  aO:=kU s,asf:=kC (aN s (aC s)) 0 (aC s).ar7,asb:=a,aP:=b,bf:=bX (jJ s.vars),aJ:=(aN s (aC s)).bf }
theorem ak9 {a b:List Int} (ha:fH s s.asb=some a) (hb:fH s s.aP=some b):yj s (aN s (aC s)) (rD s).2 (jG s).2 (gW s).1 (gW s).2=vD s a b:=by
 obtain⟨h1,h2⟩:=Wu ha hb;obtain⟨-,h3,h4,h5⟩:=Di s;rw[(wT s).1,Xa,h1,h2];unfold yj vD;simp only[abp,h3,h4,h5]
 have hd:bX (List.replicate ((aC s).cells.length+(aC s).ar7.length) 0++lC s.vars)=IY s:=by
  unfold IY;rw[tF,PH]
 have hlen:=tV (List.replicate ((aC s).cells.length+(aC s).ar7.length) 0++lC s.vars);rw[hd]at hlen ⊢;generalize List.replicate ((aC s).cells.length+(aC s).ar7.length) 0++lC s.vars=d at *
 cases d with
 | nil=>rw[if_pos rfl,if_pos (by rw[hlen];rfl)]
 | cons x d=>
  rw[if_neg arG,if_neg (by rw[hlen];simp)]
  congr 3
  rw[hlen];push_cast;rfl
theorem ala (h5:¬(512<s.ar2.length∨512<s.vars.length)) (hc:(aC s).asj=0):
  ((fH s s.asb=none∨fH s s.aP=none)->gD s=(eY,103))/\
  (∀a b,fH s s.asb=some a->fH s s.aP=some b->gD s=if 512<(aC s).av.length∨65536<(aN s (aC s)).data∨4096<(aN s (aC s)).bf then (eY,104) else if kH (vD s a b)≠0 then (eY,kH (vD s a b)) else (vD s a b,0)):=by
 refine⟨fun h=> ?_,fun a b ha hb=> ?_⟩
 ·rw[wS,if_neg h5,if_neg (by rw[hc];simp),if_pos (by rw[YD hc h];decide),YD hc h]
 ·have hf:(jG s).1.asj=0:=by rw[(Wu ha hb).2];exact hc
  rw[wS,if_neg h5,if_neg (by rw[hc];simp),if_neg (by rw[hf];simp)];by_cases h:512<(aC s).av.length∨65536<(aN s (aC s)).data∨4096<(aN s (aC s)).bf
  ·rw[if_pos h,if_pos h]
  ·rw[if_neg h,if_neg h,if_neg (by rw[Xa,abt hc wP];simp),ak9 ha hb]
theorem acn (w:World) (n:Int):Calls asq 73 #[ah n] w (Ab 5 fq w (bD 8 n)):=by
 go_enter Tryz.func73,Tryz.ntmps73;go_wp2_with fail;go_loopw [3,4,5] (fun o u i wr=>∃j:Nat,i=ah j/\j<=8/\u=.int .u64 (((n%18446744073709551616).toNat/256 ^ j:Nat):Int)/\aX 5 fq w.heap.size (fun _=>False) wr o ((bD 8 n).take j)/\Below w w wr) (fun _ _ i _=>8-(intOf i).toNat);exact⟨0,rfl,alg _,by rw[Yd],by exact aX.nil _ _ _ _ _,PZ _ _⟩;obtain⟨j,rfl,hj,rfl,hown,hbel⟩:=hrel;have hBr:=hbel.size;have iZ:=aj hown;have di:=aj hbel;by_cases hlt:j<8
 ·have X6:=aj (OT 8 n j hlt)
  have Hn:=aj (aaJ (n%18446744073709551616).toNat j);have hm:(n%18446744073709551616).toNat/256 ^ j<18446744073709551616:=Nat.lt_of_le_of_lt (Nat.div_le_self _ _) wP;obtain⟨m2,hm2⟩:∃m2,(n%18446744073709551616).toNat/256 ^ (j+1)=m2:=⟨_,rfl⟩;have Hm2:=aj hm2;rw[hm2]at Hn;clear hm2;generalize (n%18446744073709551616).toNat/256 ^ j=m at *;have hb:=aaK m;have hn:=Hn.af;obtain⟨cb,hcb⟩:∃cb,UInt8.ofNat m=cb:=⟨_,rfl⟩;rw[hcb]at X6 hb;clear hcb Hn;have hdl:((bD 8 n).take j).length=j:=by rw[List.length_take,dA];omega
  obtain⟨oa,oc,rfl⟩:=hown.form;rw[hdl];rw[hdl]at iZ;have Hdl:=aj hdl;clear hown hbel hdl;go_wp2_with (at_builtin;refine fZ (α:=UInt8) (K:=fq) (e:=5) (B:=w.heap.size) (E:=fun _=>False) 42 (.int .u8 0) 1 Tryz.underlying42 mW rfl abD rfl (.tmp 12) (.tmp 16) rfl j Hdl.af rfl (iZ.af.alloc _) (fun _ h=>h.elim) wr.heap.size cb [.int .u8 cb.toNat] rfl ?c1 ?c2 rfl ?c3 ?c4 ?c5 ?_)
  case c1=>
   intro j u hu
   match j,hu with
   | 0,hu=>simp at hu;subst hu;rw[aV (ah2 wr _)];rfl
   | j+1,hu=>simp at hu
  case c2=>intro u hu;simp at hu;subst hu;rfl
  case c3=>rw[Hdl.af];omega
  case c4=>rw[Hdl.af];omega
  case c5=>simp;omega
  intro g c w3 hown3 oJ _;have Tu:=aj hown3;have hlo:=(iZ.af.alloc (aB #[.int .u8 cb.toNat] 5)).lt;have B3:=aj (((di.af.alloc wP (aB #[.int .u8 cb.toNat] 5)).trans (oJ.imp (S':=(·<w.heap.size)) (fun b hb=>⟨by have h1:b<w:=hb;omega,fun e=>by have:=(hlo b e).1;have h1:b<w:=hb;omega⟩)).below));clear hown3 oJ hlo iZ;go_wp2;go_roundw;exact⟨j+1,arH,wP,by rw[Hm2.af],by rw[X6.af];exact Tu.af,B3.af⟩;simp[intOf];omega
 ·have he:j=8:=wP
  subst he;have Ht:Hid ((bD 8 n).take 8=bD 8 n):=aj (dh (by rw[dA];omega));rw[Ht.af]at hown;have Ho:=aj hown;clear hown hbel iZ;go_wp2;go_ret;exact⟨_,rfl,Ho.af,di.af⟩
structure Two {α β:Type} (e:TypeId) (K:Kind α) (e':TypeId) (K':Kind β) (B:Nat) (w1 w:World) (o t:Value) (l:List α) (m:List β):Prop where
 ho:aX e K B (fun b=>t.ownBlock=some b) w o l
 ht:aX e' K' B (fun b=>o.ownBlock=some b) w t m
 below:Below B w1 w
 hB:B<=w
section
variable {α β : Type} {e e' : TypeId} {K : Kind α} {K' : Kind β} {B : Nat} {w1 w w' : World} {o t o' t' : Value} {l l' : List α} {m m' : List β}
theorem Two.dW (h:Two e K e' K' B w1 w o t l m) (hb:Below w w w'):Two e K e' K' B w1 w' o t l m:=⟨h.ho.below hb,h.ht.below hb,h.below.trans (hb.mono h.hB),eG h.hB hb.size⟩
theorem Two.abu {E:Nat->Prop} (h:aX e K B E w o l) (hB:B<=w) (hst:Step (fun b=>b<w/\o.ownBlock≠some b) w w'):Below B w w':=
 (hst.imp (S':=(·<B)) (fun b hb=>⟨by have hb:b<B:=hb;omega,fun e=>by have:=(h.lt b e).1;have hb:b<B:=hb;omega⟩)).below
theorem Two.apz (hK:pE K) (hK':pE K') (h:Two e K e' K' B w1 w o t l m) {E:Nat->Prop} (hown:aX e K B E w' o' l') (hst:Step (fun b=>b<w/\o.ownBlock≠some b) w w') (hne:∀b,b<w.heap.size->o.ownBlock≠some b->o'.ownBlock≠some b):Two e K e' K' B w1 w' o' t l' m:=by
 have hz:=hst.size;have hB:=h.hB;have ht:∀g,t.ownBlock=some g->g<w.heap.size/\o.ownBlock≠some g:=fun g hg=>⟨(h.ht.lt g hg).2,h.ht.notE g hg⟩
 refine⟨hown.fJ hK (fun g hg hE=>hne g (ht g hE).1 (ht g hE).2 hg),(h.ht.dS hK' (fun g hg=>hst.block g (ht g hg))).fJ hK' (fun g hg=>hne g (ht g hg).1 (ht g hg).2),h.below.trans (Two.abu h.ho h.hB hst),wP⟩
theorem Two.apA (hK:pE K) (hK':pE K') (h:Two e K e' K' B w1 w o t l m) {E:Nat->Prop} (hown:aX e' K' B E w' t' m') (hst:Step (fun b=>b<w/\t.ownBlock≠some b) w w') (hne:∀b,b<w.heap.size->t.ownBlock≠some b->t'.ownBlock≠some b):Two e K e' K' B w1 w' o t' l m':=by
 have hz:=hst.size;have hB:=h.hB;have ho:∀g,o.ownBlock=some g->g<w.heap.size/\t.ownBlock≠some g:=fun g hg=>⟨(h.ho.lt g hg).2,h.ho.notE g hg⟩
 refine⟨(h.ho.dS hK (fun g hg=>hst.block g (ho g hg))).fJ hK (fun g hg=>hne g (ho g hg).1 (ho g hg).2),hown.fJ hK' (fun g hg hE=>hne g (ho g hE).1 (ho g hE).2 hg),h.below.trans (Two.abu h.ht h.hB hst),wP⟩
end
def dI (x:dx) (j:Nat):List Int:=if x.sym.ar3=3 then [] else x.ar8.take j
def tI (x:dx) (j:Nat):List Int:=if x.sym.ar3=3 then x.ar8.take j else []
theorem afS {vs:List dx} {x:dx} (h:vs[k]? =some x):lC (vs.take (k+1))=lC (vs.take k)++dI x x.ar8.length/\jJ (vs.take (k+1))=jJ (vs.take k)++tI x x.ar8.length:=by
 rw[Qc,h];unfold lC jJ dI tI;rw[j5,j5,List.take_length];simp
theorem acN (x:dx):dI x 0=[]/\tI x 0=[]:=by unfold dI tI;simp
theorem alb {x:dx} {j:Nat} {n:Int} (h:x.ar8[j]? =some n):dI x (j+1)=dI x j++(if x.sym.ar3=3 then [] else [n])/\tI x (j+1)=tI x j++(if x.sym.ar3=3 then [n] else []):=by
 unfold dI tI;rw[Qc,h]
 split<;>simp
theorem ahS (x:dx) (j:Nat):(dI x j).length<=x.ar8.length/\(tI x j).length<=x.ar8.length:=by
 unfold dI tI
 split<;>simp<;>omega
theorem abv:∀vs:List dx,(lC vs).length+(jJ vs).length=(vs.flatMap (·.ar8)).length
 | []=>rfl
 | v :: vs=>by
  have ih:=abv vs;have h1:lC (v :: vs)=(if v.sym.ar3=3 then [] else v.ar8)++lC vs:=rfl;have h2:jJ (v :: vs)=(if v.sym.ar3=3 then v.ar8 else [])++jJ vs:=rfl;rw[h1,h2,KF,Kk,Kk,Kk]
  split<;>simp only[aR]<;>omega
theorem IZ {v:dx}:∀ {vs:List dx},v∈vs->v.ar8.length<=(vs.flatMap (·.ar8)).length
 | x :: vs,h=>by
  rw[KF,Kk];rcases Y1.1 h with h | h
  ·subst h;omega
  ·have:=IZ h;omega
theorem Xc (n:Nat):(madeCells (Value.int .u8 0).cells (n*1)).toList=(List.replicate n (0:UInt8)).map (fun x=>Value.int .u8 x.toNat):=by
 have e:(Value.int .u8 0).cells=#[.int .u8 0]:=rfl;rw[Uh,List.map_replicate];apply DI;intro i;simp only[madeCells,e];by_cases h:i<n
 ·simp[h,Nat.mod_one]
 ·simp[h]
def abw (w:World) (a b:List UInt8) (e:Ending) (w':World):Prop:=∃r1 r2,e=.returned (.tuple #[r1,r2])/\Two 5 fq 5 fq w.heap.size w w' r1 r2 a b
theorem ahT {B pb:Nat} (hM:gM B pb w sv s v p) (hB:B<=w) (iM:p.ar7.length<=2000) (hnc:p.cells.length<=4000) (hwd:(s.vars.flatMap (·.ar8)).length<=2000):
  Calls asq 28 #[aQ pb] w (abw w (List.replicate (8*(p.cells.length+p.ar7.length)) 0++bX (lC s.vars)) (bX (jJ s.vars))):=by
 obtain⟨ca,cc,hcf⟩:=hM.cells.form;obtain⟨ja,jc,uL⟩:=hM.ar7.form;obtain⟨va,vb,vo,vc,hvf,xQ,_,kI⟩:=hM.spec.vars.at;have dP:=aj kI;have ha:=kI.addr;have c10:=hM.c10;have c11:=hM.c11;have c5:=hM.c5;rw[hcf,List.length_map]at c10;rw[uL]at c11;rw[hvf]at c5;have hpl:=hM.lt;have TV:=aj (fun k=>eG (Ac s.vars k) hwd);have HWm:=aj (fun x (h:x∈s.vars)=>eG (IZ h) hwd);generalize s.vars=vs at *;obtain ⟨nc,Es⟩:=aiG p.cells.length;obtain ⟨nj,pQ⟩:=aiG p.ar7.length;obtain ⟨n,hn⟩:=aiG vs.length;have Hn:=aj hn;rw[<-Es]at c10 hnc ⊢;rw[<-pQ]at c11 iM ⊢;rw[<-hn]at c5 xQ ha;have DT:Hid (∀wr,Below w w wr->wr.cell? (ak pb 5)=some (.slice va n vc)):=aj (fun wr hb=>(hb.cell (p:=(ak pb 5)) hpl).trans c5);obtain ⟨z0,hz0⟩:=aiG (8*(nc+nj));have o1:IntKind.i64.wrap ((nc:Int)+(nj:Int))=(nc:Int)+(nj:Int):=iJ _ wP;have o2:IntKind.i64.wrap (8*((nc:Int)+(nj:Int)))=(z0:Int):=by rw[iJ _ wP];omega
 have hz1:z0<=48000:=wP;rw[<-hz0];obtain⟨i0,hi,Gq,Ns,YH⟩:=dM mW;clear hM hcf uL hvf kI Es pQ hn hwd hz0;go_enter Tryz.func28,Tryz.ntmps28;go_upto_region 1 with fail
 go_still_tail 12,TA;change wpList _ _ _ _ _ w.drew;have qU:=aj ((PZ w.heap.size w).drew);have hzd:w.heap.size<=w.drew:=oD _;clear c10 c11;generalize w.drew=w1 at *;go_wp2_with (at_make;refine wpList_make_full _ rfl _ _ 42 rfl w1.heap.size 5 i0 (.int .u8 0) 1 Tryz.underlying42 hi Gq Ns .i64 .i64 _ _ z0 rfl rfl rfl rfl (by rw[YH];omega) (by unfold maxLen;omega) (oD _) ?_;intro w2 hrow2 hg2);rw[Xc]at hrow2;have nV:Hid (aX 5 fq w.heap.size (fun _=>False) w2 (.slice (some ⟨w1.heap.size,0,none⟩) z0 z0) (List.replicate z0 0)):=aj ((aX.qJ (e:=5) (B:=w1.heap.size) (E:=fun _=>False) (l:=List.replicate z0 0) nI (by rw[u6];exact hrow2) (fun _ _ h=>h)).mono hzd);have HB2:=aj (qU.af.grown hg2 wP (fun j hj=>by cases hj));have HT0:Hid (Two 5 fq 5 fq w.heap.size w w2 (.slice (some ⟨w1.heap.size,0,none⟩) z0 z0) (au) (List.replicate z0 0) []):=aj ⟨nV.af.fJ jd (fun g _ h=>by simp[Value.ownBlock]at h),aX.nil _ _ _ _ _,HB2.af,HB2.af.size⟩;clear hrow2 hg2 nV HB2 qU hi Gq Ns YH o1 o2;go_wp2_with fail;go_loopw [4,5,6] (fun o t i wr=>∃k:Nat,i=ah k/\k<=n/\Two 5 fq 5 fq w.heap.size w wr o t (List.replicate z0 0++bX (lC (vs.take k))) (bX (jJ (vs.take k)))) (fun _ _ i _=>n-(intOf i).toNat);exact⟨0,rfl,alg _,by simpa [bX,lC,jJ] using HT0.af⟩;rename World=>w3
 obtain⟨k,rfl,hk,hT⟩:=hrel;have HT:=aj hT;have c5:=DT.af w3 hT.below;clear hT HT0;by_cases hlt:k<n
 ·obtain rfl:=ha wP
  obtain⟨x,hx⟩:∃x,vs[k]? =some x:=⟨_,gP (by rw[<-Hn.af];exact hlt)⟩;have Hx:=aj hx;have hkn:(k:Int)<(n:Int):=wP;have lm:=aj (afS hx);have hxw:=HWm.af x (dH hx);have hdl:=abv (vs.take k);have hdk:=TV.af k;obtain ⟨A1,hA1⟩:=aiG (List.replicate z0 0++bX (lC (vs.take k)));obtain ⟨T1,hT1⟩:=aiG (bX (jJ (vs.take k)));have HA:Hid (List.replicate z0 0++bX (lC (vs.take (k+1)))=A1++bX (dI x x.ar8.length)):=aj (by rw[lm.af.1,tF,<-Sq,hA1]);have HTn:Hid (bX (jJ (vs.take (k+1)))=T1++bX (tI x x.ar8.length)):=aj (by rw[lm.af.2,tF,hT1]);have hAl:A1.length<=70000:=by rw[hA1,Kk,u6,tV];omega
  have hTl:T1.length<=20000:=by rw[hT1,tV];omega
  rw[<-hA1,<-hT1]at HT;clear hx hA1 hT1 lm hdl hdk;go_wp2_with fail;go_loopw [4,5,7] (fun o t j wi=>∃q:Nat,j=ah q/\q<=x.ar8.length/\Two 5 fq 5 fq w.heap.size w wi o t (A1++bX (dI x q)) (T1++bX (tI x q))) (fun _ _ j _=>x.ar8.length-(intOf j).toNat);exact⟨0,rfl,alg _,by rw[(acN x).1,(acN x).2];simpa [bX] using HT.af⟩;obtain⟨q,rfl,hq,TF⟩:=hrel;have HT2:=aj TF;have c5:=DT.af wr TF.below;obtain⟨wv,rv,hwv,_,_,_,_,_,k3,_,_,_,_,_,k9,_,_⟩:=dP.af.rZ (TF.below.mono hB) k x Hx.af;have amA:=hwv.below (TF.below.mono hB);obtain⟨wa,wb,wo,wc,rfl,XW,_,ajq⟩:=amA.at;have hwa:=ajq.addr;obtain ⟨wn,hwn⟩:=aiG x.ar8.length;have xq:=aj hwn;rw[<-hwn]at hq XW hwa k9 hxw;obtain⟨oa,oc,rfl⟩:=TF.ho.form;obtain⟨ta,tc,rfl⟩:=TF.ht.form;have hd1:=(ahS x q).1;have hd2:=(ahS x q).2;obtain ⟨L1,hL1⟩:=aiG (A1++bX (dI x q));obtain ⟨L2,hL2⟩:=aiG (T1++bX (tI x q));have hl1:L1.length<=100000:=by rw[hL1,Kk,tV];omega
  have hl2:L2.length<=100000:=by rw[hL2,Kk,tV];omega
  have qR:=aj hL1;have HL2:=aj hL2;rw[<-hL1,<-hL2]at HT2 ⊢;by_cases xw:q<wn
  ·obtain rfl:=hwa wP
   obtain⟨m,hm⟩:∃m,x.ar8[q]? =some m:=⟨_,gP (by rw[<-xq.af];exact xw)⟩;have hqi:(q:Int)<(wn:Int):=wP;have k0:=ajq.oC q m hm;have HNq:=aj (alb hm);have anM:=aj (fun w' (hb:Below w w w')=>((dP.af.rZ (hb.mono hB) k x Hx.af)));clear TF hwv amA ajq hwn hm hL1 hL2 hd1 hd2;go_wp2_with fail;refine(acn wr m).mono ?_;rintro e w5 ⟨r,rfl,Yz,hb5⟩;have zM:=aj Yz.lb;obtain⟨ra,rc,rfl⟩:=Yz.form;have AR:=aj (HT2.af.dW hb5);have uX:=AR.af.hB;have c5:=DT.af w5 AR.af.below;obtain⟨_,_,_,_,_,_,_,_,k3,_,_,_,_,_,_,_,_⟩:=anM.af w5 AR.af.below;clear Yz hb5 k0 k9 HT2;rw[dA]at zM ⊢;by_cases h3:x.sym.ar3=3
   ·have hb3:(x.sym.ar3==3)=true:=by simp[h3]
    have Ce:Hid (A1++bX (dI x (q+1))=L1):=aj (by rw[HNq.af.1,if_pos h3,Y8,qR.af]);have HE2:Hid (T1++bX (tI x (q+1))=L2++bD 8 m):=aj (by rw[HNq.af.2,if_pos h3,tF,<-Sq,HL2.af];simp[bX]);clear h3 HNq;go_wp2_with (at_builtin;go_loud (refine oH (v:=.slice ta L2.length tc) (l:=L2) nI 42 (.int .u8 0) 1 Tryz.underlying42 mW rfl rfl (.tmp 70) (.tmp 71) rfl rfl AR.af.ht (fun b hb=>(AR.af.ho.lt b hb).2) (.slice ra 8 rc) (bD 8 m) rfl zM.af (by rw[dA];omega) (by rw[dA];omega) uX ?_));intro v7 w7 fG hs7 GL;have HT7:=aj (AR.af.apA jd jd fG hs7 GL);clear fG hs7 GL;go_wp2;go_roundw;exact⟨q+1,arH,by have:=xq.af;omega,by rw[Ce.af,HE2.af];exact HT7.af⟩;have:=xq.af;simp[intOf];omega
   ·have hb3:(x.sym.ar3==3)=false:=by simp[h3]
    have Ce:Hid (A1++bX (dI x (q+1))=L1++bD 8 m):=aj (by rw[HNq.af.1,if_neg h3,tF,<-Sq,qR.af];simp[bX]);have HE2:Hid (T1++bX (tI x (q+1))=L2):=aj (by rw[HNq.af.2,if_neg h3,Y8,HL2.af]);clear h3 HNq;go_wp2_with (at_builtin;go_loud (refine oH (v:=.slice oa L1.length oc) (l:=L1) nI 42 (.int .u8 0) 1 Tryz.underlying42 mW rfl rfl (.tmp 73) (.tmp 74) rfl rfl AR.af.ho (fun b hb=>(AR.af.ht.lt b hb).2) (.slice ra 8 rc) (bD 8 m) rfl zM.af (by rw[dA];omega) (by rw[dA];omega) uX ?_));intro v7 w7 fG hs7 GL;have HT7:=aj (AR.af.apz jd jd fG hs7 GL);clear fG hs7 GL;go_wp2;go_roundw;exact⟨q+1,arH,by have:=xq.af;omega,by rw[Ce.af,HE2.af];exact HT7.af⟩;have:=xq.af;simp[intOf];omega
  ·have HE:Hid (Two 5 fq 5 fq w.heap.size w wr (.slice oa L1.length oc) (.slice ta L2.length tc) (List.replicate z0 0++bX (lC (vs.take (k+1)))) (bX (jJ (vs.take (k+1))))):=aj (by
    have h:=HT2.af;rw[HA.af,HTn.af];have e:q=x.ar8.length:=by have:=xq.af;omega
    rw[e]at qR HL2;rw[<-qR.af,<-HL2.af];exact h)
   clear TF;go_wp2;go_roundw;exact⟨k+1,arH,wP,HE.af⟩;simp[intOf];omega
 ·have HE:Hid (Two 5 fq 5 fq w.heap.size w w3 _ _ (List.replicate z0 0++bX (lC vs)) (bX (jJ vs))):=aj (by
   have h:=HT.af
   rwa [dh (by have:=Hn.af;omega)]at h)
  go_wp2;go_ret2;exact⟨_,_,rfl,HE.af⟩
end Go.Proofs.YtpjgjeadjjackaaGreat
