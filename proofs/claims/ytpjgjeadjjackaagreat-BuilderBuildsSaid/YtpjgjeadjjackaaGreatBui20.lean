/- Lemmas. -/
import Derived.Test.YtpjgjeadjjackaaGreatBui16
import Derived.Test.YtpjgjeadjjackaaGreatBui18
import Derived.Test.YtpjgjeadjjackaaGreatBui19
import Derived.Test.YtpjgjeadjjackaaGreatBui13c
import Derived.Laws.BytesArg
set_option linter.unusedVariables false
set_option linter.unusedSimpArgs false
set_option maxHeartbeats 64000000
set_option maxRecDepth 100000
namespace Go.Proofs.YtpjgjeadjjackaaGreat
open Go.RowKit Go.ChangeShapes Go.WideShapes Go.ChangeAt
open Go.Proofs.Tryz renaming prog->asq
open _root_.Array renaming getElem?_eq_some_iff->ah1
open Go renaming heap_alloc_new->ah2,wpList_store_row->Bv,setRow_heap->TL,setRow_other->cu,heap_alloc_old->dX,wpAnyH_done->E5,bodyPost_ret->qE,wpAny_of_held->P8
open Go.AllReadyH renaming cons->eD,nil->fU
open Go.Lib renaming cell_of_heap->aV,frozen_of_heap->vV
open Go.RowKit.Below renaming refl->PZ
open _root_.List renaming mem_cons->Y1,getElem?_eq_some_iff->Sm,not_mem_nil->nW,getElem?_map->vW,length_take->og
open _root_.Nat renaming lt_of_lt_of_le->akb,le_refl->oD,le_trans->eG
open _root_.Or renaming inl->aH,inr->aZ
variable {w:World}{s:aM}{sv:bN}{a:Act}
def PT (w:World) (s:aM) (e:Ending) (w':World):Prop:=
 ∃iv,e=.returned (.tuple #[.agg (aW iv (gD s).1),ah (gD s).2])/\Below w w w'/\uK (·<w'.heap.size) w' iv (gD s).1
theorem Jq {w':World} {e:Int} (h:gD s=(eY,e)) (hb:Below w w w'):PT w s (.returned (.tuple #[.agg arJ,ah e])) w':=
 ⟨MS,by rw[h];rfl,hb,by rw[h];exact(IL (·<w'.heap.size) w').img⟩
theorem af6 (h:Fq s):gD s=(eY,104):=by
 unfold Fq at h;rw[wS,if_pos h]
theorem acv (h:¬Fq s) (hf:(aC s).asj≠0):gD s=(eY,(aC s).asj):=by
 unfold Fq at h;rw[wS,if_neg h,if_pos hf]
theorem Xj (l:List bF) (many:Nat) (hl:l.length<=512):∀c∈jN l many,c.length<=140737488355328:=by
 intro c hc;unfold jN at hc;rw[List.mem_map]at hc;obtain⟨b,_,rfl⟩:=hc;rw[List.length_map];have:=List.length_filter_le (fun k=>decide (jY (kX l k).arT many=b)) (bQ l);have:=YJ l;omega
structure Gth (w:World) (sv:bN) (s:aM) (B pb:Nat) (wr:World):Prop where
 e0:wr.heap[w.heap.size]? =some (.cells (kL sv s).toArray 28 (0,0))
 e1:wr.heap[w.heap.size+1]? =some (aB arJ 44)
 plan:∃v,gM B pb wr sv s v (aC s)
 hB:w.heap.size+2<=B/\B<=wr
 low:Below w w wr
theorem Gth.dW {B pb:Nat} {wr w':World} (h:Gth w sv s B pb wr) (hb:Below wr wr w'):Gth w sv s B pb w':=by
 have h1:=h.hB;obtain⟨v,hv⟩:=h.plan;exact⟨(hb.block _ wP).trans h.e0,(hb.block _ wP).trans h.e1,⟨v,hv.below h1.2 hb⟩,⟨h1.1,by have:=hb.size;omega⟩,h.low.trans (hb.mono wP)⟩
abbrev YN:=z7O 175
theorem ald {w8 w9:World} {B pb ib ns:Nat} {tl:Int} {ai bi:List Int} {TX DB TB:List UInt8} {RL:List iE} {SY:List bF} {a2 a3 a4 a5 a6 a7 a8 uq ut EO Rm uw pX oU:Option Addr} {n2 n3 n4 n5 n6 n7 n8 uy uz EP Rn uD pY oV:Nat}
  (hsv:sv=bN.mk (.slice a2 s.ar6.length n2) (.slice a3 s.aF.length n3) (.slice a4 s.ar2.length n4) (.slice a5 s.vars.length n5) (.slice a6 s.ar1.length n6) (.slice a7 s.asb.length n7) (.slice a8 s.aP.length n8))
  (hF:YN [(1,aQ w),(2,aQ (w+1)),(4,aQ pb),(11,.slice EO TX.length EP),(13,.slice Rm DB.length Rn),(15,aQ ib)] a) (hS:gB (·<w.heap.size) w sv s) (bT:pu s) (hG:Gth w sv s B pb w8) (hck:(aC s).asj=0) (htl:tl=(aN s (aC s)).bf) (amR:0<=tl) (amS:tl<=4096)
  (hns:ns=(aC s).av.length) (amT:ns<=512) (hai:fH s s.asb=some ai) (hbi:fH s s.aP=some bi) (hbu:gD s=if kH (vD s ai bi)≠0 then (eY,kH (vD s ai bi)) else (vD s ai bi,0)) (hRL:RL=kU s) (Rl:SY=sM s (aN s (aC s)) (aC s).av) (hTX:TX=ky (sI s)) (hDB:DB=IY s) (hTB:TB=bX (jJ s.vars))
  (hl1:LB dJ (fun b=>b<w8/\b≠w.heap.size+1) w8 (.slice uq ai.length uy) ai) (hl2:LB dJ (fun b=>b<w8/\b≠w.heap.size+1) w8 (.slice ut bi.length uz) bi) (hl4:LB fq (fun b=>b<w8/\b≠w.heap.size+1) w8 (.slice EO TX.length EP) TX) (hl5:LB fq (fun b=>b<w8/\b≠w.heap.size+1) w8 (.slice Rm DB.length Rn) DB) (hl6:LB fq (fun b=>b<w8/\b≠w.heap.size+1) w8 (.slice uw TB.length uD) TB)
  (hxi:w9.heap[ib]? =some (aB #[ax s.arT,ah s.ar4,au,.slice a2 s.ar6.length n2,.slice a3 s.aF.length n3,.slice oU SY.length oV,au,au,ah 0,.slice pX RL.length pY,au,.slice uq ai.length uy,.slice ut bi.length uz,.slice uw TB.length uD,ah tl] 44)) (h7:LB mi (fun b=>w8.heap.size<=b/\b<w9/\b≠ib) w9 (.slice pX RL.length pY) RL) (h8:LB gq (fun b=>w8.heap.size<=b/\b<w9/\b≠ib) w9 (.slice oU SY.length oV) SY) (DN:Below w8 w8 w9) (hib:w8.heap.size<=ib):
  (bL Tryz.f7 12).wp asq (bodyPost asq Tryz.f7 (PT w s)) a w9:=by
 have hcs:(kL sv s).toArray=(arY s a2 n2 a3 n3 a4 n4 a5 n5 a6 n6 a7 n7 a8 n8):=by rw[hsv];rfl
 have Nb:=aj hcs;have qm:=aj hsv;have HS:=aj hS;have Aj:=aj bT;have GR:=aj hG;have HCk:=aj hck;have Htl:=aj htl;have Kg:=aj hns;have HAi:=aj hai;have HBi:=aj hbi;have HBu:=aj hbu;have HRL:=aj hRL;have HSY:=aj Rl;have HTX:=aj hTX;have HDB:=aj hDB;have HTB:=aj hTB;have af7:=aj hl1;have af8:=aj hl2;have Xk:=aj hl4;have vK:=aj hl5;have zF:=aj hl6;have sJ:=bT.ar5;have hsz:=mU bT;clear hsv hcs hS bT hG hck htl hns hai hbi hbu hRL Rl hTX hDB hTB hl1 hl2 hl4 hl5 hl6;have e12:bL Tryz.f7 12=.seq (cZ Tryz.f7 12) (bL Tryz.f7 13):=fV _ 12 TA;have e13:bL Tryz.f7 13=.seq (cZ Tryz.f7 13) (bL Tryz.f7 14):=fV _ 13 TA;have e14:bL Tryz.f7 14=.seq (cZ Tryz.f7 14) (bL Tryz.f7 15):=fV _ 14 TA;have e15:bL Tryz.f7 15=.seq (cZ Tryz.f7 15) (bL Tryz.f7 16):=fV _ 15 TA;have e16:bL Tryz.f7 16=.seq (cZ Tryz.f7 16) (bL Tryz.f7 17):=fV _ 16 TA;have e17:bL Tryz.f7 17=.seq (cZ Tryz.f7 17) (bL Tryz.f7 18):=fV _ 17 TA;have e18:bL Tryz.f7 18=.seq (cZ Tryz.f7 18) (bL Tryz.f7 19):=fV _ 18 TA;have e19:bL Tryz.f7 19=.seq (cZ Tryz.f7 19) (bL Tryz.f7 20):=fV _ 19 TA;have e20:bL Tryz.f7 20=.seq (cZ Tryz.f7 20) (bL Tryz.f7 21):=fV _ 20 TA;have e21:bL Tryz.f7 21=.seq (cZ Tryz.f7 21) (bL Tryz.f7 22):=fV _ 21 TA;rw[e12,e13,e14,e15,e16,e17,e18,e19,e20,e21];clear e12 e13 e14 e15 e16 e17 e18 e19 e20 e21;apply z7O.elim hF;clear hF
 iterate 1 (intro _)
 intro V1;intro V2
 iterate 1 (intro _)
 intro V4
 iterate 6 (intro _)
 intro J7
 iterate 1 (intro _)
 intro Po
 iterate 1 (intro _)
 intro Pp
 iterate 159 (intro _)
 intro hF;obtain⟨-,-,q1,q2,q4,Qu,Qv,q15,-⟩:=hF;replace q1:V1=aQ w:=q1;subst q1;replace q2:V2=aQ (w+1):=q2;subst q2;replace q4:V4=aQ pb:=q4;subst q4;replace Qu:J7=.slice EO TX.length EP:=Qu;subst Qu;replace Qv:Po=.slice Rm DB.length Rn:=Qv;subst Qv;replace q15:Pp=aQ ib:=q15;subst q15
 conv in cZ _ 12=>whnf
 conv in cZ _ 13=>whnf
 conv in cZ _ 14=>whnf
 conv in cZ _ 15=>whnf
 conv in cZ _ 16=>whnf
 conv in cZ _ 17=>whnf
 conv in cZ _ 18=>whnf
 conv in cZ _ 19=>whnf
 conv in cZ _ 20=>whnf
 conv in cZ _ 21=>whnf
 conv in bL _ 22=>whnf
 have HXi:=aj hxi;have Ii:=aj h7;have Q5:=aj h8;have Ka:=aj DN;have OQ:=DN.size;have hi9:ib<w9:=(ah1.1 hxi).1;have Ps:w.heap.size+2<=w8.heap.size:=by have:=GR.af.hB;omega
 obtain⟨v8,FY⟩:=GR.af.plan;have HV:=aj FY;have Kc:=GR.af.hB.2;obtain⟨iM,hnc⟩:=zi s;replace iM:(aC s).ar7.length<=2000:=wP;replace hnc:(aC s).cells.length<=4000:=wP;have Az:=aj (fun (wr:World) (hb:Below w8 w8 wr)=>Iq (FY.below Kc hb) (eG Kc hb.size) sJ iM hnc);have DR:=aj (fun (wr:World) (hb:Below w8 w8 wr) (n:Nat) (hn:n<=2000)=>Ir n hn (FY.below Kc hb) (eG Kc hb.size) sJ iM hnc);have HUs:=aj (fun (wr:World) (hb:Below w8 w8 wr)=>ze s.ar2.length (oD _) (FY.below Kc hb) (eG Kc hb.size) sJ);have hgr:=rJ (p:=aC s) sJ iM;obtain ⟨gt,hgt⟩:=aiG ((aN s (aC s)).got);obtain ⟨nt,hnt⟩:=aiG TX.length;obtain ⟨nd,hnd⟩:=aiG DB.length;have Hgt:=aj hgt;have Hnt:=aj hnt;have Hnd:=aj hnd;have apV:=Xk.af.max;have apW:=vK.af.max;rw[<-hnt]at Xk apV ⊢;rw[<-hnd]at vK apW ⊢;rw[<-hgt]at Az hgr;obtain ⟨sz,hsz⟩:=aiG (max 1 (nt:Int):Int);have apX:(nt=0/\sz=1)∨(0<nt/\sz=(nt:Int)):=by rw[hsz];omega
 have lX:=aj hsz;clear hxi h7 h8 DN FY hgt hnt hnd hsz;go_upto_if 103 with fail
 go_cut [16] (fun q wx=>q=ah sz/\wx=w9)
 case first=>
  clear HXi Ii Q5 HV Az DR HUs;rcases apX with ⟨rfl,rfl⟩ | ⟨hn,rfl⟩
  ·go_wp2_with fail
   go_meet;exact⟨rfl,rfl⟩
  ·have hd:decide ((nt:Int)=0)=false:=by simp;omega
   go_wp2_with fail;go_meet;exact⟨rfl,rfl⟩
 case rest=>
 obtain⟨rfl,rfl⟩:=hcut;rename World=>w9
 have i2:w9.cell? (ak ib 2)=some (au):=aL HXi.af rfl;have hbn:Below w9 w9 (w9.alloc (aB #[ah 0,ah sz,.slice EO nt EP,ah 5] 68)):=(PZ _ w9).alloc (oD _) _;have HN0:=aj ((aX.nil 68 rQ w9.heap.size (fun b=>b=ib∨b=w.heap.size+1) w9).alloc (aB #[ah 0,ah sz,.slice EO nt EP,ah 5] 68));have BS:=aj ((hbn.block ib hi9).trans HXi.af);have DC:=aj (ah2 w9 (aB #[ah 0,ah sz,.slice EO nt EP,ah 5] 68));have Ee:=aj (Ka.af.trans (hbn.mono OQ));have lh:Hid ((w9.alloc (aB #[ah 0,ah sz,.slice EO nt EP,ah 5] 68)).heap.size=w9.heap.size+1):=aj arG;have pq:Hid (rQ.R (fun b=>b<(w9.alloc (aB #[ah 0,ah sz,.slice EO nt EP,ah 5] 68))/\¬(b=ib∨b=w.heap.size+1)/\(Value.slice none 0 0).ownBlock≠some b) (w9.alloc (aB #[ah 0,ah sz,.slice EO nt EP,ah 5] 68)) ⟨0,sz,TX,5⟩ [ah 0,ah sz,.slice EO nt EP,ah 5]):=aj ⟨.slice EO nt EP,rfl,(Xk.af.asa (fun b hb=>Ee.af.block b hb.1)).imp (fun b hb=>⟨by have:=hb.1;first | (rw[lh.af];omega) | omega,fun e=>by have:=hb.1;have:=hb.2;omega,by simp[Value.ownBlock]⟩)⟩;have HE:Hid (∀b,(b=ib∨b=w.heap.size+1)->b<(w9.alloc (aB #[ah 0,ah sz,.slice EO nt EP,ah 5] 68)).heap.size):=aj (fun b hb=>by first | (rw[lh.af];omega) | omega);have HW1:Hid (w9.heap.size<=(w9.alloc (aB #[ah 0,ah sz,.slice EO nt EP,ah 5] 68))):=aj (by first | (rw[lh.af];omega) | omega);clear hbn;go_wp2_with (at_builtin;go_loud (refine fZ (K:=rQ) (v:=au) (l:=[]) (E:=(fun b=>b=ib∨b=w.heap.size+1)) (B:=w9.heap.size) 31 _ 48 Tryz.underlying31 Eh rfl abD rfl (.tmp 105) (.tmp 109) rfl 0 rfl rfl HN0.af HE.af w9.heap.size ⟨0,sz,TX,5⟩ [ah 0,ah sz,.slice EO nt EP,ah 5] rfl (aD DC.af) (fun u hu=>by simp only[Y1,nW,or_false]at hu;rcases hu with rfl | rfl | rfl | rfl<;>rfl) pq.af abD abD HW1.af ?_));intro g7 c7 BF fG hs7 uf;have jK:=aj ((hs7.block ib ⟨by first | (rw[lh.af];omega) | omega,by simp[Value.ownBlock]⟩).trans BS.af);have kT:=aj fG;have zH:Hid (Step (fun b=>b<w9/\b≠ib) w9 BF):=aj (((Step.refl _ w9).alloc (fun b hb=>hb.1) (aB #[ah 0,ah sz,.slice EO nt EP,ah 5] 68)).trans (hs7.imp (fun b hb=>⟨by first | (rw[lh.af];omega) | omega,by simp[Value.ownBlock]⟩)));have Eg:Hid (Below w8 w8 BF):=aj (Ee.af.trans ((hs7.imp (S':=(·<w8.heap.size)) (fun b hb=>⟨by have hb:b<w8:=hb;first | (rw[lh.af];omega) | omega,by simp[Value.ownBlock]⟩)).below));have i2:BF.cell? (ak ib 2)=some (au):=aL jK.af rfl;have f2:BF.frozen? (ak ib 2)=false:=vV jK.af 2;clear fG hs7 HN0 BS DC Ee pq HE HW1;obtain ⟨SG,hSG⟩:=aiG (⟨0,sz,TX,5⟩ :: (if nd=0 then [] else [⟨gt,(nd:Int),DB,3⟩]):List lS);have HSG:=aj hSG;clear hSG;go_upto_if 114 with fail
 have MZ:Hid ((BF.setCell ⟨ib,2,none⟩ (.slice (some ⟨g7,0,none⟩) 1 c7)).heap[ib]? =some (aB #[ax s.arT,ah s.ar4,.slice (some ⟨g7,0,none⟩) 1 c7,.slice a2 s.ar6.length n2,.slice a3 s.aF.length n3,.slice oU SY.length oV,au,au,ah 0,.slice pX RL.length pY,au,.slice uq ai.length uy,.slice ut bi.length uz,.slice uw TB.length uD,ah tl] 44)):=aj (eu jK.af 2 _);have amU:=aj (kT.af.setOther (pb:=ib) (aH rfl) 2 (.slice (some ⟨g7,0,none⟩) 1 c7));have GD:=aj (zH.af.setCell (p:=(ak ib 2)) (fun h=>h.2 rfl) (.slice (some ⟨g7,0,none⟩) 1 c7));have PU:Hid (Below w8 w8 (BF.setCell ⟨ib,2,none⟩ (.slice (some ⟨g7,0,none⟩) 1 c7))):=aj (((Step.of_below Eg.af).setCell (p:=(ak ib 2)) (fun h=>by have h:ib<w8:=h;omega) _).below);clear i2 f2 jK kT zH Eg;generalize BF.setCell ⟨ib,2,none⟩ (.slice (some ⟨g7,0,none⟩) 1 c7)=xY at *;go_cut [] (fun wx=>∃sa sc,wx.heap[ib]? =some (aB #[ax s.arT,ah s.ar4,.slice sa SG.length sc,.slice a2 s.ar6.length n2,.slice a3 s.aF.length n3,.slice oU SY.length oV,au,au,ah 0,.slice pX RL.length pY,au,.slice uq ai.length uy,.slice ut bi.length uz,.slice uw TB.length uD,ah tl] 44)/\LB rQ (fun b=>b<wx/\b≠ib/\b≠w.heap.size+1) wx (.slice sa SG.length sc) SG/\Step (fun b=>b<w9/\b≠ib) w9 wx/\Below w8 w8 wx)
 case first=>
  by_cases hd0:nd=0
  ·have hd:decide ((nd:Int)>0)=false:=by simp;omega
   have hdi:(nd:Int)=0:=wP;have hSG:SG=[⟨0,sz,TX,5⟩]:=by rw[HSG.af,if_pos hd0]
   clear HSG;subst hSG;go_wp2_with fail;go_meet;exact⟨some (ak g7 0),c7,MZ.af,amU.af.lb.imp (fun b hb=>⟨hb.1,fun e=>hb.2 (aH e),fun e=>hb.2 (aZ e)⟩),GD.af,PU.af⟩
  ·have hdi:(0:Int)<(nd:Int):=wP
   have hSG:SG=[⟨0,sz,TX,5⟩,⟨gt,(nd:Int),DB,3⟩]:=by rw[HSG.af,if_neg hd0]
   clear HSG;subst hSG;have i2:xY.cell? (ak ib 2)=some (.slice (some ⟨g7,0,none⟩) 1 c7):=aL MZ.af rfl;have ajJ:=GD.af.size;go_upto_region 19 with fail
   refine bA 10 TA TA ?_;simp only[ji];refine P8 (S:=fun w':World=>w'.cell? (ak ib 2)=some (.slice (some ⟨g7,0,none⟩) 1 c7)) _ _ _ _ ?_;have ay:(fun w':World=>w'.cell? (ak ib 2)=some (.slice (some ⟨g7,0,none⟩) 1 c7)) (World.drew xY):=(i2);refine asr ?_;have Nj:Hid ((World.drew xY).heap[ib]? =some (aB #[ax s.arT,ah s.ar4,.slice (some ⟨g7,0,none⟩) 1 c7,.slice a2 s.ar6.length n2,.slice a3 s.aF.length n3,.slice oU SY.length oV,au,au,ah 0,.slice pX RL.length pY,au,.slice uq ai.length uy,.slice ut bi.length uz,.slice uw TB.length uD,ah tl] 44)):=aj MZ.af;have Iy:=aj amU.af.drew;have yF:=aj GD.af.drew;have qU:Hid (Below w8 w8 (World.drew xY)):=aj (PU.af.drew);have hzd:w9.heap.size<=(World.drew xY):=ajJ;clear i2;generalize (World.drew xY)=wd at *;refine arO [0,1,2,4,5,6] ay ?_;simp only[ast]
   iterate 6 (refine arP ?_;try simp only[bP])
   refine cO 3 fun K hK=> ?_
   go_simp;refine(Az.af wd qU.af).mono ?_;rintro e J6 ⟨rfl,iI⟩;have abE:=aj ((iI.block ib (ah1.1 Nj.af).1).trans Nj.af);have apY:=aj (Iy.af.below iI);have aa8:=aj (yF.af.trans ((Step.of_below iI).imp (fun b hb=>akb hb.1 hzd)));have abF:=aj (qU.af.trans (iI.mono qU.af.size));have amV:=iI.size;refine hK.af _ _ (iq iI ay) (fun ay=> ?_);clear hK K;try simp only[bV]
   clear iI;refine arO [7] ay ?_;simp only[ast]
   iterate 1 (refine arP ?_;try simp only[bP])
   refine cO 8 fun K hK=> ?_
   go_simp;have hbn:Below J6 J6 (J6.alloc (aB #[ah gt,ah (nd:Int),.slice Rm nd Rn,ah 3] 68)):=(PZ _ J6).alloc (oD _) _;have NN:=aj (ah2 J6 (aB #[ah gt,ah (nd:Int),.slice Rm nd Rn,ah 3] 68));have af9:=aj ((hbn.block ib (ah1.1 abE.af).1).trans abE.af);have ajK:=aj (apY.af.below hbn);have aa9:=aj (aa8.af.trans ((Step.of_below hbn).imp (fun b hb=>akb hb.1 (eG hzd amV))));have abG:=aj (abF.af.trans (hbn.mono abF.af.size));have apZ:=hbn.size;refine hK.af _ _ (dB ay) (fun ay=> ?_);clear hK K;try simp only[bV]
   clear hbn;generalize GQ:J6.alloc (aB #[ah gt,ah (nd:Int),.slice Rm nd Rn,ah 3] 68)=wn at *;clear GQ;have pq:Hid (rQ.R (fun b=>b<wn/\¬(b=ib∨b=w.heap.size+1)/\(Value.slice (some ⟨g7,0,none⟩) 1 c7).ownBlock≠some b) wn ⟨gt,(nd:Int),DB,3⟩ [ah gt,ah (nd:Int),.slice Rm nd Rn,ah 3]):=aj ⟨.slice Rm nd Rn,rfl,(vK.af.asa (fun b hb=>abG.af.block b hb.1)).imp (fun b hb=>⟨by have:=hb.1;omega,fun e=>by have:=hb.1;have:=hb.2;omega,fun e=>by have:=(ajK.af.lt b e).1;have:=hb.1;omega⟩)⟩;have HE:Hid (∀b,(b=ib∨b=w.heap.size+1)->b<wn.heap.size):=aj (fun b hb=>wP);have HW1:Hid (w9.heap.size<=wn):=aj wP;have I4:Hid (∀b,b<w9.heap.size->(Value.slice (some ⟨g7,0,none⟩) 1 c7).ownBlock≠some b):=aj (fun b hb e=>by have:=(ajK.af.lt b e).1;omega);refine cO 9 fun K hK=> ?_
   rw[if_pos (by rfl)];simp only[rz];refine lV (K:=rQ) (v:=.slice (some ⟨g7,0,none⟩) 1 c7) (e:=68) (B:=w9.heap.size) (E:=(fun b=>b=ib∨b=w.heap.size+1)) 31 (.agg #[ah 0,ah 0,au,ah 0]) 48 Tryz.underlying31 Eh rfl abD (.tmp 116) (.tmp 123) rfl 1 rfl rfl ajK.af HE.af J6.heap.size ⟨gt,(nd:Int),DB,3⟩ [ah gt,ah (nd:Int),.slice Rm nd Rn,ah 3] rfl (aD NN.af) (fun u hu=>by simp only[Y1,nW,or_false]at hu;rcases hu with rfl | rfl | rfl | rfl<;>rfl) pq.af arG arG HW1.af ?_;rintro g8 c8 w13 oQ nE hg8 ap0;have Ch:=aj ((nE.block ib ⟨wP,I4.af ib hi9⟩).trans af9.af);have ap1:=aj oQ;have aeg:=aj (aa9.af.trans (nE.imp (fun b hb=>⟨by have:=hb.1;omega,I4.af b hb.1⟩)));have abH:Hid (Below w8 w8 w13):=aj (abG.af.trans ((nE.imp (S':=(·<w8.heap.size)) (fun b hb=>⟨by have hb:b<w8:=hb;omega,I4.af b (by have hb:b<w8:=hb;omega)⟩)).below));refine hK.af _ _ ((nE.cell (p:=(ak ib 2)) ⟨by show ib<wn;omega,I4.af ib hi9⟩).trans ay) (fun ay=> ?_);clear hK K oQ nE;try simp only[bV]
   refine E5 TA ?_ _;simp only[dU];have i2:=ay;have f2:w13.frozen? (ak ib 2)=false:=vV Ch.af 2;clear ay;go_wp2_with fail;go_meet;exact⟨some (ak g8 0),c8,eu Ch.af 2 _,(ap1.af.setOther (pb:=ib) (aH rfl) 2 _).lb.imp (fun b hb=>⟨hb.1,fun e=>hb.2 (aH e),fun e=>hb.2 (aZ e)⟩),aeg.af.setCell (p:=(ak ib 2)) (fun h=>h.2 rfl) _,((Step.of_below abH.af).setCell (p:=(ak ib 2)) (fun h=>by have h:ib<w8:=h;omega) _).below⟩
 case rest=>
 obtain⟨sa,sc,ajL,ajM,ajN,Ew⟩:=hcut;rename World=>xY
 obtain ⟨ng,hng⟩:=aiG SG.length;rw[<-hng]at ajL ajM;have MZ:=aj ajL;have HLs:=aj ajM;have GD:=aj ajN;have PU:=aj Ew;have ajJ:=ajN.size;obtain⟨ja,jb,jo,jc,uL,hjm,_,CP⟩:=HV.af.ar7.lb.at;have Xd:=aj CP;have hja:=CP.addr;have aga:=HV.af.c11;rw[uL]at aga;obtain ⟨nj,pQ⟩:=aiG ((aC s).ar7.length);have Cr:=aj pQ;rw[<-pQ]at aga hjm hja iM;have hpl:pb<w8:=HV.af.lt;have Hjb:Hid (0<nj->jb<w8):=aj (fun h=>(CP.mG (by rw[<-pQ];exact h)).1);have R9:Hid (∀wr,Below w8 w8 wr->wr.cell? (ak pb 11)=some (.slice ja nj jc)):=aj (fun wr hb=>(hb.cell (p:=(ak pb 11)) hpl).trans aga);have ug:Hid (∀wr,Below w8 w8 wr->wr.cell? (ak w 4)=some (.slice a4 s.ar2.length n4)):=aj (fun wr hb=>by rw[aV ((hb.block w.heap.size wP).trans GR.af.e0),Nb.af];rfl);obtain ⟨pl,RV⟩:=aiG ((aN s (aC s)).bW);obtain ⟨st,Xg⟩:=aiG (fC s.ar2 s.ar2.length);have JJ:=sw s.ar2 s.ar2.length;have BQ:(s.ar2.flatMap (·.ar5)).length<=2000:=sJ;rw[<-RV]at DR;rw[<-Xg]at HUs JJ
 have yx:Hid (∀(k:Nat) (j:Int),(aC s).ar7[k]? =some j->kC (aN s (aC s)) 0 ((aC s).ar7.take (k+1))=kC (aN s (aC s)) 0 ((aC s).ar7.take k)++[⟨pl+8*(k:Int),j,st+24*(k:Int)+16⟩]):=aj (fun k j hj=>by
  have hk:=(Sm.1 hj).1;rw[jR hj,Jo,og,Nat.min_eq_left wP,Nat.zero_add,OL,<-RV,<-Xg,show st+(3*(k:Int)+2)*8=st+24*(k:Int)+16 by omega])
 obtain ⟨nfu,amW⟩:=aiG s.ar2.length;rw[<-amW]at ug HUs;clear ajL ajM ajN Ew uL CP aga pQ RV Xg hng amW;go_wp2_with fail;go_loopw [17] (fun i wr=>∃k:Nat,i=ah k/\k<=nj/\∃oa oc,wr.heap[ib]? =some (aB #[ax s.arT,ah s.ar4,.slice sa ng sc,.slice a2 s.ar6.length n2,.slice a3 s.aF.length n3,.slice oU SY.length oV,au,au,ah 0,.slice pX RL.length pY,.slice oa k oc,.slice uq ai.length uy,.slice ut bi.length uz,.slice uw TB.length uD,ah tl] 44)/\aX 65 ER xY.heap.size (fun b=>b<xY) wr (.slice oa k oc) (kC (aN s (aC s)) 0 ((aC s).ar7.take k))/\Step (fun b=>b<xY/\b≠ib) xY wr/\Below w8 w8 wr) (fun i _=>nj-(intOf i).toNat);exact⟨0,rfl,Nat.zero_le _,none,0,MZ.af,aX.nil _ _ _ _ _,Step.refl _ _,PU.af⟩;rename World=>nk
 obtain⟨k,rfl,hk,oa,oc,hx,ho,hs,hb⟩:=hrel;have HX:=aj hx;have HO:=aj ho;have HS':=aj hs;have HB':=aj hb;have amX:=hs.size;have qj:=R9.af nk hb;by_cases hlt:k<nj
 ·obtain rfl:=hja wP
  obtain⟨j,hj⟩:∃j,(aC s).ar7[k]? =some j:=⟨_,List.getElem?_eq_getElem (by rw[<-Cr.af];exact hlt)⟩;have ap2:=Hjb.af wP;have g0:=(hb.cell (p:=(ak jb (jo+k))) ap2).trans (Xd.af.oC k j hj);have l4:=ug.af nk hb;have dV:nk.cell? (ak ib 10)=some (.slice oa k oc):=aL HX.af rfl;have Xi:=aj (yx.af k j hj);have xw:(kC (aN s (aC s)) 0 ((aC s).ar7.take k)).length=k:=by rw[Fy,og];have:=Cr.af;omega
  obtain ⟨q,hq⟩:=aiG (kC (aN s (aC s)) 0 ((aC s).ar7.take k));rw[<-hq]at HO Xi xw;have Hql:=aj xw;have hkn:(k:Int)<(nj:Int):=wP;have hk0:0<=(k:Int):=wP;have o1:IntKind.i64.wrap (24*(k:Int))=24*(k:Int):=IntWalk.i64_in _ wP;have o2:IntKind.i64.wrap (st+24*(k:Int))=st+24*(k:Int):=IntWalk.i64_in _ wP;have o3:IntKind.i64.wrap (st+24*(k:Int)+16)=st+24*(k:Int)+16:=IntWalk.i64_in _ wP;have akm:ib<nk:=wP;clear hx ho hs hb hj hq xw ug R9;go_upto_region 23 with fail
  refine bA 24 TA TA ?_;simp only[ji];refine P8 (S:=fun w':World=>w'.cell? (ak ib 10)=some (.slice oa k oc)/\w'.cell? (ak pb 11)=some (.slice (some ⟨jb,jo,none⟩) nj jc)/\w'.cell? (ak jb (jo+k))=some (ah j)/\w'.cell? (ak w 4)=some (.slice a4 nfu n4)) _ _ _ _ ?_;have ay:(fun w':World=>w'.cell? (ak ib 10)=some (.slice oa k oc)/\w'.cell? (ak pb 11)=some (.slice (some ⟨jb,jo,none⟩) nj jc)/\w'.cell? (ak jb (jo+k))=some (ah j)/\w'.cell? (ak w 4)=some (.slice a4 nfu n4)) (World.drew nk):=⟨dV,qj,g0,l4⟩;refine asr ?_;have HX0:Hid ((World.drew nk).heap[ib]? =some (aB #[ax s.arT,ah s.ar4,.slice sa ng sc,.slice a2 s.ar6.length n2,.slice a3 s.aF.length n3,.slice oU SY.length oV,au,au,ah 0,.slice pX RL.length pY,.slice oa k oc,.slice uq ai.length uy,.slice ut bi.length uz,.slice uw TB.length uD,ah tl] 44)):=aj HX.af;have I6:=aj HO.af.drew;have HS0:=aj HS'.af.drew;have HB0:Hid (Below w8 w8 (World.drew nk)):=aj (HB'.af.drew);have hz0:xY.heap.size<=(World.drew nk):=amX;clear dV qj g0 l4;generalize (World.drew nk)=wd at *;refine arO [0,1,2,3,5,6,7,8,9,10,11,12,13,14,15,17,18] ay ?_;simp only[ast]
  iterate 17 (refine arP ?_;try simp only[bP])
  refine cO 4 fun K hK=> ?_
  go_simp;refine(DR.af wd HB0.af k wP).mono ?_;rintro e w16 ⟨rfl,iI⟩;have HXA:=aj ((iI.block ib (ah1.1 HX0.af).1).trans HX0.af);have HOA:=aj (I6.af.below iI);have HSA:=aj (HS0.af.trans ((Step.of_below iI).imp (fun b hb=>akb hb.1 hz0)));have HBA:=aj (HB0.af.trans (iI.mono HB0.af.size));have Gq:=eG hz0 iI.size;refine hK.af _ _ ⟨iq iI ay.1,iq iI ay.2.1,iq iI ay.2.2.1,iq iI ay.2.2.2⟩ (fun ay=> ?_);clear hK K;try simp only[bV]
  clear iI;refine cO 16 fun K hK=> ?_
  go_simp;refine(HUs.af w16 HBA.af).mono ?_;rintro e Ed ⟨rfl,iI⟩;have HXC:=aj ((iI.block ib (ah1.1 HXA.af).1).trans HXA.af);have HOC:=aj (HOA.af.below iI);have HSC:=aj (HSA.af.trans ((Step.of_below iI).imp (fun b hb=>akb hb.1 Gq)));have HBC:=aj (HBA.af.trans (iI.mono HBA.af.size));have YH:=eG Gq iI.size;refine hK.af _ _ ⟨iq iI ay.1,iq iI ay.2.1,iq iI ay.2.2.1,iq iI ay.2.2.2⟩ (fun ay=> ?_);clear hK K;try simp only[bV]
  clear iI;refine arO [19,20,21] ay ?_;simp only[ast]
  iterate 3 (refine arP ?_;try simp only[bP])
  refine cO 22 fun K hK=> ?_
  go_simp;have hbn:Below Ed Ed (Ed.alloc (aB #[ah (pl+8*(k:Int)),ah j,ah (st+24*(k:Int)+16)] 65)):=(PZ _ Ed).alloc (oD _) _;have NN:=aj (ah2 Ed (aB #[ah (pl+8*(k:Int)),ah j,ah (st+24*(k:Int)+16)] 65));have HXD:=aj ((hbn.block ib (ah1.1 HXC.af).1).trans HXC.af);have HOD:=aj (HOC.af.below hbn);have HSD:=aj (HSC.af.trans ((Step.of_below hbn).imp (fun b hb=>akb hb.1 YH)));have HBD:=aj (HBC.af.trans (hbn.mono HBC.af.size));have hzD:=eG YH hbn.size;refine hK.af _ _ ⟨dB ay.1,dB ay.2.1,dB ay.2.2.1,dB ay.2.2.2⟩ (fun ay=> ?_);clear hK K;try simp only[bV]
  clear hbn;generalize GQ:Ed.alloc (aB #[ah (pl+8*(k:Int)),ah j,ah (st+24*(k:Int)+16)] 65)=wn at *;clear GQ;have HE:Hid (∀b,b<xY.heap.size->b<wn.heap.size):=aj (fun b hb=>wP);have I4:Hid (∀b,b<xY.heap.size->(Value.slice oa k oc).ownBlock≠some b):=aj (fun b hb e=>by have:=(HOD.af.lt b e).1;omega);have amY:ib<xY:=wP;refine cO 23 fun K hK=> ?_
  rw[if_pos (by rfl)];simp only[rz];refine lV (K:=ER) (v:=.slice oa k oc) (l:=q) (e:=65) (B:=xY.heap.size) (E:=fun b=>b<xY) 40 (.agg #[ah 0,ah 0,ah 0]) 24 Tryz.underlying40 Yh rfl abD (.tmp 136) (.tmp 157) rfl k Hql.af rfl HOD.af HE.af Ed.heap.size ⟨pl+8*(k:Int),j,st+24*(k:Int)+16⟩ [ah (pl+8*(k:Int)),ah j,ah (st+24*(k:Int)+16)] rfl (aD NN.af) (fun u hu=>by simp only[Y1,nW,or_false]at hu;rcases hu with rfl | rfl | rfl<;>rfl) rfl (by rw[Hql.af];omega) (by rw[Hql.af];omega) hzD ?_;rintro g8 c8 xE oQ nE hg8 ap0;have qy:=aj ((nE.block ib ⟨wP,I4.af ib amY⟩).trans HXD.af);have Cs:=aj oQ;have zu:=aj (HSD.af.trans (nE.imp (fun b hb=>⟨by have:=hb.1;omega,I4.af b hb.1⟩)));have Pq:Hid (Below w8 w8 xE):=aj (HBD.af.trans ((nE.imp (S':=(·<w8.heap.size)) (fun b hb=>⟨by have hb:b<w8:=hb;omega,I4.af b (by have hb:b<w8:=hb;omega)⟩)).below));refine hK.af _ _ ⟨(nE.cell (p:=(ak ib 10)) ⟨by show ib<wn;omega,I4.af ib wP⟩).trans ay.1,(nE.cell (p:=(ak pb 11)) ⟨by show pb<wn;omega,I4.af pb wP⟩).trans ay.2.1,(nE.cell (p:=(ak jb (jo+k))) ⟨by show jb<wn;omega,I4.af jb wP⟩).trans ay.2.2.1,(nE.cell (p:=(ak w 4)) ⟨by show w.heap.size<wn;omega,I4.af w.heap.size wP⟩).trans ay.2.2.2⟩ (fun ay=> ?_);clear hK K oQ nE;try simp only[bV]
  refine E5 TA ?_ _;simp only[dU];have dV:=ay.1;have f10:xE.frozen? (ak ib 10)=false:=vV qy.af 10;clear ay;go_wp2;go_roundw;exact⟨k+1,arH,wP,some (ak g8 0),c8,eu qy.af 10 _,by rw[Xi.af];exact Cs.af.setOther (pb:=ib) amY 10 _,zu.af.setCell (p:=(ak ib 10)) (fun h=>h.2 rfl) _,((Step.of_below Pq.af).setCell (p:=(ak ib 10)) (fun h=>by have h:ib<w8:=h;omega) _).below⟩;simp[intOf];omega
 ·obtain rfl:k=nj:=wP
  have hq:kC (aN s (aC s)) 0 ((aC s).ar7.take k)=kC (aN s (aC s)) 0 (aC s).ar7:=by rw[List.take_of_length_le (by rw[<-Cr.af];omega)]
  obtain ⟨SL,hSL⟩:=aiG (kC (aN s (aC s)) 0 (aC s).ar7);rw[hq,<-hSL]at HO;have arz:SL.length=k:=by rw[hSL,Fy,<-Cr.af]
  have HSL:=aj hSL;have HK9:Hid (Step (fun b=>b<w9/\b≠ib) w9 nk):=aj (GD.af.trans (HS'.af.imp (fun b hb=>⟨by have:=hb.1;omega,hb.2⟩)));have ajO:SY.length<=512:=by rw[HSY.af,NV,<-Kg.af];omega
  have amZ:=aj (Q5.af.asa (w':=nk) (fun b hb=>HK9.af.block b ⟨hb.2.1,hb.2.2⟩));have EL:=aj (ah0 nk (.slice oU SY.length oV) SY (amZ.af.imp (fun b hb=>by have:=hb.2.1;show b<nk;omega)) ajO);have i5:nk.cell? (ak ib 5)=some (.slice oU SY.length oV):=aL HX.af rfl;have akm:ib<nk:=wP;clear hx ho hs hb hq hSL DR HUs Az ug R9 yx Xd Hjb hja HV;go_wp2_with fail;refine EL.af.mono ?_;rintro e w16 ⟨bv,wv,rfl,hbv,hwv,ajP⟩;obtain ⟨BK,hBK⟩:=aiG (jN SY (jy (bQ SY).length));obtain ⟨WD,hWD⟩:=aiG (kR SY);rw[<-hBK]at hbv;rw[<-hWD]at hwv;have HBK:=aj hBK;have HWD:=aj hWD;obtain⟨ba,bc,rfl⟩:=hbv.form;obtain⟨wa,wc,rfl⟩:=hwv.form;obtain ⟨nb,hnb⟩:=aiG BK.length;obtain ⟨nw,hnw⟩:=aiG WD.length;rw[<-hnb]at hbv ⊢;rw[<-hnw]at hwv ⊢;have Nv:=aj hbv;have HWv:=aj hwv;have agb:=ajP.size;have hbt:Below w16 w16 (w16.alloc (aB #[.slice ba nb bc,.slice wa nw wc,ah 6] 38)):=(PZ _ w16).alloc (oD _) _;have hbu:=ajP.trans (hbt.mono agb);have Sa:=aj ((hbu.block ib akm).trans HX.af);have agc:=aj (ah2 w16 (aB #[.slice ba nb bc,.slice wa nw wc,ah 6] 38));have abb:Hid (Step (fun b=>b<nk) nk (w16.alloc (aB #[.slice ba nb bc,.slice wa nw wc,ah 6] 38))):=aj (Step.of_below hbu);have HT2:Hid (Step (fun b=>b<w16) w16 (w16.alloc (aB #[.slice ba nb bc,.slice wa nw wc,ah 6] 38))):=aj (Step.of_below hbt);have Xl:=aj (HB'.af.trans (hbu.mono HB'.af.size));have hzt:(w16.alloc (aB #[.slice ba nb bc,.slice wa nw wc,ah 6] 38)).heap.size=w16.heap.size+1:=arG;clear hbv hwv ajP hbt hbu EL i5 hBK hWD hnb hnw;go_upto_region 25 with fail
  generalize w16.alloc (aB #[.slice ba nb bc,.slice wa nw wc,ah 6] 38)=Ed at *;have t0:=aD agc.af 0 _ rfl;have t1:=aD agc.af 1 _ rfl;have t2:=aD agc.af 2 _ rfl;go_upto_region 26 with (refine zA rfl 38 (.tmp 167) (.tmp 166) rfl ib 6 #[.slice ba nb bc,.slice wa nw wc,.int .i64 6] rfl rfl _ _ (#[ax s.arT,.int .i64 s.ar4,.slice sa ng sc,.slice a2 s.ar6.length n2,.slice a3 s.aF.length n3,.slice oU SY.length oV,.slice ba nb bc,.slice wa nw wc,.int .i64 6,.slice pX RL.length pY,.slice oa k oc,.slice uq ai.length uy,.slice ut bi.length uz,.slice uw TB.length uD,.int .i64 tl]) Sa.af TA arG (by simp[Value.oneCell']) rfl ?_)
  have yV:=aj (TL _ ib _ (#[ax s.arT,ah s.ar4,.slice sa ng sc,.slice a2 s.ar6.length n2,.slice a3 s.aF.length n3,.slice oU SY.length oV,.slice ba nb bc,.slice wa nw wc,ah 6,.slice pX RL.length pY,.slice oa k oc,.slice uq ai.length uy,.slice ut bi.length uz,.slice uw TB.length uD,ah tl]) _ _ Sa.af);have ajQ:Hid (Step (fun b=>b≠ib) Ed (Ed.setRow ib (#[ax s.arT,ah s.ar4,.slice sa ng sc,.slice a2 s.ar6.length n2,.slice a3 s.aF.length n3,.slice oU SY.length oV,.slice ba nb bc,.slice wa nw wc,ah 6,.slice pX RL.length pY,.slice oa k oc,.slice uq ai.length uy,.slice ut bi.length uz,.slice uw TB.length uD,ah tl]))):=aj ⟨rfl,rfl,rfl,arG,fun b hb=>cu _ _ _ _ hb⟩;have agd:Hid (Below w8 w8 (Ed.setRow ib (#[ax s.arT,ah s.ar4,.slice sa ng sc,.slice a2 s.ar6.length n2,.slice a3 s.aF.length n3,.slice oU SY.length oV,.slice ba nb bc,.slice wa nw wc,ah 6,.slice pX RL.length pY,.slice oa k oc,.slice uq ai.length uy,.slice ut bi.length uz,.slice uw TB.length uD,ah tl]))):=aj (below_setRow Xl.af _ _ hib);have arA:(Ed.setRow ib (#[ax s.arT,ah s.ar4,.slice sa ng sc,.slice a2 s.ar6.length n2,.slice a3 s.aF.length n3,.slice oU SY.length oV,.slice ba nb bc,.slice wa nw wc,ah 6,.slice pX RL.length pY,.slice oa k oc,.slice uq ai.length uy,.slice ut bi.length uz,.slice uw TB.length uD,ah tl])).heap.size=Ed.heap.size:=arG;clear t0 t1 t2;generalize Ed.setRow ib (#[ax s.arT,ah s.ar4,.slice sa ng sc,.slice a2 s.ar6.length n2,.slice a3 s.aF.length n3,.slice oU SY.length oV,.slice ba nb bc,.slice wa nw wc,ah 6,.slice pX RL.length pY,.slice oa k oc,.slice uq ai.length uy,.slice ut bi.length uz,.slice uw TB.length uD,ah tl])=xE at *
  have HIm:Hid (vD s ai bi={arT:=s.arT,ar4:=s.ar4,aI:=SG,ar6:=s.ar6,aF:=s.aF,av:=SY,ar9:=BK,ar8:=WD,ase:=6,aO:=RL,asf:=SL,asb:=ai,aP:=bi,bf:=TB,aJ:=tl }):=aj (by
   unfold vD;rw[HBK.af,HWD.af,HSG.af,lX.af,Hnt.af,Hnd.af,Hgt.af,HTX.af,HDB.af,HRL.af,HSY.af,HTB.af,Htl.af,HSL.af])
  have abI:Hid (uK (fun b=>b<xE/\b≠ib/\b≠w.heap.size+1) xE {aI:=.slice sa ng sc,ar6:=.slice a2 s.ar6.length n2,aF:=.slice a3 s.aF.length n3,av:=.slice oU SY.length oV,ar9:=.slice ba nb bc,ar8:=.slice wa nw wc,aO:=.slice pX RL.length pY,asf:=.slice oa k oc,asb:=.slice uq ai.length uy,aP:=.slice ut bi.length uz,bf:=.slice uw TB.length uD } {arT:=s.arT,ar4:=s.ar4,aI:=SG,ar6:=s.ar6,aF:=s.aF,av:=SY,ar9:=BK,ar8:=WD,ase:=6,aO:=RL,asf:=SL,asb:=ai,aP:=bi,bf:=TB,aJ:=tl }):=aj (by
   have k15:∀b,b<nk.heap.size->b≠ib->xE.heap[b]? =nk.heap[b]? :=fun b hb h=>(ajQ.af.block b h).trans (abb.af.block b hb)
   have k16:∀b,b<w16.heap.size->b≠ib->xE.heap[b]? =w16.heap[b]? :=fun b hb h=>(ajQ.af.block b h).trans (HT2.af.block b hb)
   have k9:∀b,b<w9.heap.size->b≠ib->xE.heap[b]? =w9.heap[b]? :=fun b hb h=>(k15 b wP h).trans (HK9.af.block b ⟨hb,h⟩)
   have k8:∀b,b<w8.heap.size->xE.heap[b]? =w8.heap[b]? :=fun b hb=>agd.af.block b hb
   have k0:∀b,b<w.heap.size->xE.heap[b]? =w.heap[b]? :=fun b hb=>(k8 b wP).trans (GR.af.low.block b hb)
   have q8:∀b,(b<w8.heap.size/\b≠w.heap.size+1)->(fun b=>b<xE.heap.size/\b≠ib/\b≠w.heap.size+1) b:=fun b hb=>⟨by have:=hb.1;omega,by have:=hb.1;omega,hb.2⟩
   have q9:∀b,(w8.heap.size<=b/\b<w9.heap.size/\b≠ib)->(fun b=>b<xE.heap.size/\b≠ib/\b≠w.heap.size+1) b:=fun b hb=>⟨by have:=hb.2.1;omega,hb.2.2,by have:=hb.1;omega⟩
   have q0:∀b,b<w.heap.size->(fun b=>b<xE.heap.size/\b≠ib/\b≠w.heap.size+1) b:=fun b hb=>⟨wP,wP,wP⟩
   have q16:∀b,(nk.heap.size<=b/\b<w16.heap.size)->(fun b=>b<xE.heap.size/\b≠ib/\b≠w.heap.size+1) b:=fun b hb=>⟨by have:=hb.2;omega,by have:=hb.1;omega,by have:=hb.1;omega⟩
   have hrel:RL=IX s:=by rw[HRL.af];unfold IX;rw[abp]
   have ap3:SL=kC (aN s (aC s)) 0 (bM s).ar7:=by rw[HSL.af,(Di s).2.2.1]
   have hll:bO s.ar5<=48000:=by have:=(ou s.ar5).2;omega
   exact {
       arT:=HS.af.arT
       ar4:=HS.af.ar4
       aI:=(HLs.af.asa (fun b hb=>(k15 b (by have:=hb.1;omega) hb.2.1).trans (HS'.af.block b ⟨hb.1,hb.2.1⟩))).imp (fun b hb=>⟨by have:=hb.1;omega,hb.2⟩)
       xX:=fun x hx=>by
        rw[HSG.af]at hx;rcases Y1.1 hx with rfl | hx
        ·unfold lH;exact⟨⟨arG,arG⟩,⟨by show _<=sz;omega,by show sz<=_;omega⟩,⟨arG,arG⟩⟩
        ·split at hx
         ·cases hx
         ·obtain rfl:=List.mem_singleton.1 hx
          unfold lH;exact⟨⟨by show _<=gt;omega,by show gt<=_;omega⟩,⟨by show _<=(nd:Int);omega,by show(nd:Int)<=_;omega⟩,⟨arG,arG⟩⟩
       ar6:=by have h:=HS.af.ar6;rw[qm.af]at h;exact(h.asa (fun b hb=>k0 b hb)).imp q0
       aF:=by have h:=HS.af.aF;rw[qm.af]at h;exact(h.asa (fun b hb=>k0 b hb)).imp q0
       av:=(Q5.af.asa (fun b hb=>k9 b hb.2.1 hb.2.2)).imp q9
       ar9:=(Nv.af.asa (fun b hb=>k16 b hb.2 (by have:=hb.1;omega))).imp q16
       wF:=by show ∀c∈BK,_;rw[HBK.af];exact Ke _ _ ajO
       ar8:=(HWv.af.asa (fun b hb=>k16 b hb.2 (by have:=hb.1;omega))).imp q16
       xx:=by show ∀c∈WD,_;rw[HWD.af];exact NF _
       ase:=⟨by show(-9223372036854775808:Int)<=6;decide,by show(6:Int)<=9223372036854775807;decide⟩
       aO:=(Ii.af.asa (fun b hb=>k9 b hb.2.1 hb.2.2)).imp q9
       kU:=by show ∀c∈RL,_;rw[hrel];exact abo Aj.af HS.af HCk.af
       asf:=(HO.af.lb.asa (fun b hb=>k15 b hb.1 (by have:=hb.2;omega))).imp (fun b hb=>⟨by have:=hb.1;omega,by have:=hb.2;omega,by have:=hb.2;omega⟩)
       yK:=by show ∀c∈SL,_;rw[ap3];exact YI Aj.af
       asb:=(af7.af.asa (fun b hb=>k8 b hb.1)).imp q8
       BH:=fun x hx=>by have:=(PE s _ _ HAi.af).2 x hx;unfold lH;omega
       aP:=(af8.af.asa (fun b hb=>k8 b hb.1)).imp q8
       BI:=fun x hx=>by have:=(PE s _ _ HBi.af).2 x hx;unfold lH;omega
       bf:=(zF.af.asa (fun b hb=>k8 b hb.1)).imp q8
       aJ:=⟨by show _<=tl;omega,by show tl<=_;omega⟩})
  obtain⟨im,him⟩:∃im:bK,im={arT:=s.arT,ar4:=s.ar4,aI:=SG,ar6:=s.ar6,aF:=s.aF,av:=SY,ar9:=BK,ar8:=WD,ase:=6,aO:=RL,asf:=SL,asb:=ai,aP:=bi,bf:=TB,aJ:=tl }:=⟨_,rfl⟩;obtain⟨iv,hiv⟩:∃iv:jv,iv={aI:=.slice sa ng sc,ar6:=.slice a2 s.ar6.length n2,aF:=.slice a3 s.aF.length n3,av:=.slice oU SY.length oV,ar9:=.slice ba nb bc,ar8:=.slice wa nw wc,aO:=.slice pX RL.length pY,asf:=.slice oa k oc,asb:=.slice uq ai.length uy,aP:=.slice ut bi.length uz,bf:=.slice uw TB.length uD }:=⟨_,rfl⟩
  have hbk:∀c∈im.ar9,c.length<=140737488355328:=by
   rw[him];show ∀c∈BK,_;rw[HBK.af];exact Xj _ _ ajO
  rw[HIm.af]at HBu;rw[<-him]at abI HBu;rw[<-hiv]at abI;have GK:=aj HBu.af;have Jp:Hid (aW iv im=#[ax s.arT,ah s.ar4,.slice sa ng sc,.slice a2 s.ar6.length n2,.slice a3 s.aF.length n3,.slice oU SY.length oV,.slice ba nb bc,.slice wa nw wc,ah 6,.slice pX RL.length pY,.slice oa k oc,.slice uq ai.length uy,.slice ut bi.length uz,.slice uw TB.length uD,ah tl]):=aj (by rw[him,hiv];rfl);have Bz:=aj (ajj xE iv im (abI.af.imp (fun b hb=>hb.1)) hbk);rw[Jp.af]at Bz;obtain ⟨m,hm⟩:=aiG (kH im);rw[<-hm]at Bz GK;have am0:Hid (xE.heap[w.heap.size+1]? =some (aB arJ 44)):=aj ((agd.af.block (w.heap.size+1) wP).trans GR.af.e1);have aek:=aj (GR.af.low.trans (agd.af.mono wP));have x0:=aD yV.af 0 _ rfl;have x1:=aD yV.af 1 _ rfl;have x2:=aD yV.af 2 _ rfl;have x3:=aD yV.af 3 _ rfl;have x4:=aD yV.af 4 _ rfl;have x5:=aD yV.af 5 _ rfl;have x6:=aD yV.af 6 _ rfl;have x7:=aD yV.af 7 _ rfl;have x8:=aD yV.af 8 _ rfl;have x9:=aD yV.af 9 _ rfl;have x10:=aD yV.af 10 _ rfl;have Ut:=aD yV.af 11 _ rfl;have Uu:=aD yV.af 12 _ rfl;have Uw:=aD yV.af 13 _ rfl;have Uv:=aD yV.af 14 _ rfl;clear him hiv hm hbk HIm HBu HX Sa agc abb HT2 Xl ajQ Nv HWv HBK HWD HSL HO HS' HB' amZ HK9 Ii Q5 HLs MZ GD PU agd Ka af7 af8 zF;go_wp2_with fail;refine Bz.af.mono ?_;rintro e w20 ⟨rfl,Xm⟩;have zB:=aj ((Xm.block ib wP).trans yV.af);have agf:=aj ((Xm.block (w.heap.size+1) wP).trans am0.af);have aem:=aj (aek.af.trans (Xm.mono wP));have am1:=aj (abI.af.asa (fun b hb=>Xm.block b hb.1));have arB:=Xm.size;clear Xm x0 x1 x2 x3 x4 x5 x6 x7 x8 x9 x10 Ut Uu Uw Uv Bz yV am0 aek abI;by_cases hm:m=0
  ·subst hm
   have HE:Hid (gD s=(im,0)):=aj (by rw[GK.af,if_neg (fun h=>h rfl)]);have x0:=aD zB.af 0 _ rfl;have x1:=aD zB.af 1 _ rfl;have x2:=aD zB.af 2 _ rfl;have x3:=aD zB.af 3 _ rfl;have x4:=aD zB.af 4 _ rfl;have x5:=aD zB.af 5 _ rfl;have x6:=aD zB.af 6 _ rfl;have x7:=aD zB.af 7 _ rfl;have x8:=aD zB.af 8 _ rfl;have x9:=aD zB.af 9 _ rfl;have x10:=aD zB.af 10 _ rfl;have Ut:=aD zB.af 11 _ rfl;have Uu:=aD zB.af 12 _ rfl;have Uw:=aD zB.af 13 _ rfl;have Uv:=aD zB.af 14 _ rfl;go_wp2_with (refine Bv rfl 44 (.tmp 2) (.tmp 174) rfl (w.heap.size+1) (#[ax s.arT,.int .i64 s.ar4,.slice sa ng sc,.slice a2 s.ar6.length n2,.slice a3 s.aF.length n3,.slice oU SY.length oV,.slice ba nb bc,.slice wa nw wc,.int .i64 6,.slice pX RL.length pY,.slice oa k oc,.slice uq ai.length uy,.slice ut bi.length uz,.slice uw TB.length uD,.int .i64 tl]) rfl rfl _ _ agf.af TA rfl (by simp[Value.oneCell']) ?_);have FR:=aj (TL _ (w.heap.size+1) _ (#[ax s.arT,ah s.ar4,.slice sa ng sc,.slice a2 s.ar6.length n2,.slice a3 s.aF.length n3,.slice oU SY.length oV,.slice ba nb bc,.slice wa nw wc,ah 6,.slice pX RL.length pY,.slice oa k oc,.slice uq ai.length uy,.slice ut bi.length uz,.slice uw TB.length uD,ah tl]) _ _ agf.af);clear x0 x1 x2 x3 x4 x5 x6 x7 x8 x9 x10 Ut Uu Uw Uv;go_wp2_with fail;refine qE (fT rfl _ _ (w.heap.size+1) _ _ _ _ rfl FR.af Tryz.underlying44 rfl TA) rfl ?_;refine⟨iv,?_,below_setRow aem.af _ _ wP,?_⟩
   ·rw[HE.af,Jp.af];rfl
   ·rw[HE.af]
    exact(am1.af.asa (fun b hb=>cu _ _ b _ hb.2.2)).imp (fun b hb=>by have:=hb.1;simp;omega)
  ·have HN:Hid (gD s=(eY,m)):=aj (by rw[GK.af,if_pos hm])
   have hb:(m != 0)=true:=by simp[hm]
   clear hm am1 zB;go_wp2_with (refine Bv rfl 44 (.tmp 2) (.tmp 172) rfl (w.heap.size+1) #[aK,.int .i64 0,au,au,au,au,au,au,.int .i64 0,au,au,au,au,au,.int .i64 0] rfl rfl _ _ agf.af TA rfl (by simp[Value.oneCell']) ?_);have FR:=aj (TL _ (w.heap.size+1) _ arJ _ _ agf.af);go_wp2_with fail;refine qE (fT rfl _ _ (w.heap.size+1) _ _ _ _ rfl FR.af Tryz.underlying44 rfl TA) rfl ?_;exact Jq HN.af (below_setRow aem.af _ _ wP)
theorem ale (hF:YN [(0,.agg (kL sv s).toArray)] a) (hS:gB (·<w.heap.size) w sv s) (bT:pu s):
  (bL Tryz.f7 0).wp asq (bodyPost asq Tryz.f7 (PT w s)) a w:=by
 obtain⟨a2,n2,hv2⟩:=hS.ar6.form;obtain⟨a3,n3,hv3⟩:=hS.aF.form;obtain⟨a4,n4,hv4⟩:=hS.ar2.form;obtain⟨a5,n5,hv5⟩:=hS.vars.form;obtain⟨a6,n6,hv6⟩:=hS.ar1.form;obtain⟨a7,n7,hv7⟩:=hS.asb.form;obtain⟨a8,n8,FY⟩:=hS.aP.form;have Hi8:=aj hS.asb;have Hf8:=aj hS.aP;obtain⟨s2,s3,s4,s5,s6,s7,s8⟩:=sv;simp only at hv2 hv3 hv4 hv5 hv6 hv7 FY Hi8 Hf8;subst hv2 hv3 hv4 hv5 hv6 hv7 FY;have hcs:(kL ⟨.slice a2 s.ar6.length n2,.slice a3 s.aF.length n3,.slice a4 s.ar2.length n4,.slice a5 s.vars.length n5,.slice a6 s.ar1.length n6,.slice a7 s.asb.length n7,.slice a8 s.aP.length n8⟩ s).toArray=(arY s a2 n2 a3 n3 a4 n4 a5 n5 a6 n6 a7 n7 a8 n8):=rfl;obtain ⟨sv,hsv⟩:=aiG (bN.mk (.slice a2 s.ar6.length n2) (.slice a3 s.aF.length n3) (.slice a4 s.ar2.length n4) (.slice a5 s.vars.length n5) (.slice a6 s.ar1.length n6) (.slice a7 s.asb.length n7) (.slice a8 s.aP.length n8));rw[<-hsv]at hS hcs hF;rw[hcs]at hF;have Nb:=aj hcs;have qm:=aj hsv;have HS:=aj hS;have Aj:=aj bT;have sJ:=bT.ar5;have WA:=bT.ar2;have hvars:=bT.vars;have PV:=bT.ar8;have anO:=bT.ash;have hinit:=bT.asb;have anP:=bT.aP;have hsz:=mU bT;have HX0:Hid (((w.alloc (aB (arY s a2 n2 a3 n3 a4 n4 a5 n5 a6 n6 a7 n7 a8 n8) 28)).alloc (aB arJ 44)).heap[w.heap.size]? =some (aB (arY s a2 n2 a3 n3 a4 n4 a5 n5 a6 n6 a7 n7 a8 n8) 28)):=aj ((dX _ _ arG).trans (ah2 w _))
 have eT:Hid (((w.alloc (aB (arY s a2 n2 a3 n3 a4 n4 a5 n5 a6 n6 a7 n7 a8 n8) 28)).alloc (aB arJ 44)).heap[w.heap.size+1]? =some (aB arJ 44)):=aj (by
  have h:=ah2 (w.alloc (aB (arY s a2 n2 a3 n3 a4 n4 a5 n5 a6 n6 a7 n7 a8 n8) 28)) (aB arJ 44)
  rwa [World.size_alloc]at h)
 have HB1:Hid (Below w w ((w.alloc (aB (arY s a2 n2 a3 n3 a4 n4 a5 n5 a6 n6 a7 n7 a8 n8) 28)).alloc (aB arJ 44))):=aj (((PZ _ w).alloc (oD _) _).alloc arG _);have rW:Hid (((w.alloc (aB (arY s a2 n2 a3 n3 a4 n4 a5 n5 a6 n6 a7 n7 a8 n8) 28)).alloc (aB arJ 44)).heap.size=w.heap.size+2):=aj arG;clear hS bT hsv hcs;have e0:bL Tryz.f7 0=.seq (cZ Tryz.f7 0) (bL Tryz.f7 1):=fV _ 0 TA;have e1:bL Tryz.f7 1=.seq (cZ Tryz.f7 1) (bL Tryz.f7 2):=fV _ 1 TA;have e2:bL Tryz.f7 2=.seq (cZ Tryz.f7 2) (bL Tryz.f7 3):=fV _ 2 TA;have e3:bL Tryz.f7 3=.seq (cZ Tryz.f7 3) (bL Tryz.f7 4):=fV _ 3 TA;have e4:bL Tryz.f7 4=.seq (cZ Tryz.f7 4) (bL Tryz.f7 5):=fV _ 4 TA;have e5:bL Tryz.f7 5=.seq (cZ Tryz.f7 5) (bL Tryz.f7 6):=fV _ 5 TA;have e6:bL Tryz.f7 6=.seq (cZ Tryz.f7 6) (bL Tryz.f7 7):=fV _ 6 TA;have e7:bL Tryz.f7 7=.seq (cZ Tryz.f7 7) (bL Tryz.f7 8):=fV _ 7 TA;have e8:bL Tryz.f7 8=.seq (cZ Tryz.f7 8) (bL Tryz.f7 9):=fV _ 8 TA;have e9:bL Tryz.f7 9=.seq (cZ Tryz.f7 9) (bL Tryz.f7 10):=fV _ 9 TA;have e10:bL Tryz.f7 10=.seq (cZ Tryz.f7 10) (bL Tryz.f7 11):=fV _ 10 TA;have e11:bL Tryz.f7 11=.seq (cZ Tryz.f7 11) (bL Tryz.f7 12):=fV _ 11 TA;rw[e0,e1,e2,e3,e4,e5,e6,e7,e8,e9,e10,e11];clear e0 e1 e2 e3 e4 e5 e6 e7 e8 e9 e10 e11;apply z7O.elim hF;clear hF;intro V0
 iterate 174 (intro _)
 intro hF;obtain⟨-,-,q0,-⟩:=hF;replace q0:V0=.agg (arY s a2 n2 a3 n3 a4 n4 a5 n5 a6 n6 a7 n7 a8 n8):=q0;subst q0
 conv in cZ _ 0=>whnf
 conv in cZ _ 1=>whnf
 conv in cZ _ 2=>whnf
 conv in cZ _ 3=>whnf
 conv in cZ _ 4=>whnf
 conv in cZ _ 5=>whnf
 conv in cZ _ 6=>whnf
 conv in cZ _ 7=>whnf
 conv in cZ _ 8=>whnf
 conv in cZ _ 9=>whnf
 conv in cZ _ 10=>whnf
 conv in cZ _ 11=>whnf
 go_upto_region 1 with fail
 generalize (w.alloc (aB (arY s a2 n2 a3 n3 a4 n4 a5 n5 a6 n6 a7 n7 a8 n8) 28)).alloc (aB arJ 44)=w1 at *;have HG1:=aj (YW w1 sv s ((HS.af.asa (.of_below HB1.af)).imp (fun b hb=>by have hb:b<w:=hb;have:=rW.af;show b<_;omega)) Aj.af);rw[Nb.af]at HG1;have c0:w1.cell? (ak w 0)=some (ax s.arT):=aL HX0.af rfl;have c1:w1.cell? (ak w 1)=some (ah s.ar4):=aL HX0.af rfl;have c2:w1.cell? (ak w 2)=some (.slice a2 s.ar6.length n2):=aL HX0.af rfl;have c3:w1.cell? (ak w 3)=some (.slice a3 s.aF.length n3):=aL HX0.af rfl;have c4:w1.cell? (ak w 4)=some (.slice a4 s.ar2.length n4):=aL HX0.af rfl;have c5:w1.cell? (ak w 5)=some (.slice a5 s.vars.length n5):=aL HX0.af rfl;have c6:w1.cell? (ak w 6)=some (.slice a6 s.ar1.length n6):=aL HX0.af rfl;have c7:w1.cell? (ak w 7)=some (.slice a7 s.asb.length n7):=aL HX0.af rfl;have c8:w1.cell? (ak w 8)=some (.slice a8 s.aP.length n8):=aL HX0.af rfl;go_wp2_with fail;refine HG1.af.mono ?_;rintro e w2 ⟨pb,code,rfl,hb2,hg⟩;have gI:=aj ((hb2.block (w.heap.size+1) (by have:=rW.af;omega)).trans eT.af);have lF:=aj ((hb2.block w.heap.size (by have:=rW.af;omega)).trans HX0.af);have HB2:=aj (HB1.af.trans (hb2.mono HB1.af.size));have hz2:w.heap.size+2<=w2.heap.size:=by have:=hb2.size;have:=rW.af;omega
 have Hg:=aj hg;clear hb2 hg HG1 HX0 eT HB1 c0 c1 c2 c3 c4 c5 c6 c7 c8;by_cases hcode:code=0
 case neg=>
  have hb:(code != 0)=true:=by simp[hcode]
  have HN:Hid (gD s=(eY,code)):=aj (by
   rcases Hg.af with ⟨h1,rfl⟩ | ⟨h1,rfl,_⟩
   ·exact af6 h1
   ·exact acv h1 hcode)
  clear hcode;go_wp2_with (refine Bv rfl 44 (.tmp 2) (.tmp 27) rfl (w.heap.size+1) #[aK,.int .i64 0,au,au,au,au,au,au,.int .i64 0,au,au,au,au,au,.int .i64 0] rfl rfl _ _ gI.af TA rfl (by simp[Value.oneCell']) ?_);have FR:=aj (TL _ (w.heap.size+1) _ arJ _ _ gI.af);go_wp2_with fail;refine qE (fT rfl _ _ (w.heap.size+1) _ _ _ _ rfl FR.af Tryz.underlying44 rfl TA) rfl ?_;exact Jq HN.af (below_setRow HB2.af _ _ wP)
 have hnm:¬Fq s/\(aC s).asj=0/\∃v,gM w1.heap.size pb w2 sv s v (aC s):=by
  rcases Hg.af with ⟨h1,h2⟩ | ⟨h1,h2,h3⟩
  ·omega
  ·exact⟨h1,wP,h3⟩
 obtain⟨hnm,hck,v0,hv0⟩:=hnm;have HR:=aj (ala hnm hck);have HCk:=aj hck;have hbc:(code != 0)=false:=by simp[hcode]
 have HG2:Hid (Gth w sv s w1.heap.size pb w2):=aj ⟨by rw[Nb.af];exact lF.af,gI.af,⟨v0,hv0⟩,⟨by have:=rW.af;omega,by have:=hv0.lt;have:=hv0.base;omega⟩,HB2.af⟩;have HSi:Hid (LB lG (·<w1.heap.size) w2 (.slice a7 s.asb.length n7) s.asb):=aj ((Hi8.af.asa (fun b hb=>HB2.af.block b hb)).imp (fun b hb=>by have hb:b<w:=hb;have:=rW.af;show b<_;omega));have HSf:Hid (LB lG (·<w1.heap.size) w2 (.slice a8 s.aP.length n8) s.aP):=aj ((Hf8.af.asa (fun b hb=>HB2.af.block b hb)).imp (fun b hb=>by have hb:b<w:=hb;have:=rW.af;show b<_;omega));obtain ⟨B,hB0⟩:=aiG w1.heap.size;rw[<-hB0]at HG2 HSi HSf;clear Hg hnm hcode hv0 gI lF HB2 hck hB0 rW Hi8 Hf8;have c7:w2.cell? (ak w 7)=some (.slice a7 s.asb.length n7):=by rw[aV HG2.af.e0,Nb.af];rfl
 have Qx:Hid (Calls asq 22 #[aQ pb,.slice a7 s.asb.length n7] w2 (aby w2 (fH s s.asb))):=aj (by
  obtain⟨v,hv⟩:=HG2.af.plan;exact Wy _ s.asb HSi.af hinit hv HG2.af.hB.2 sJ WA)
 go_wp2_with fail;refine Qx.af.mono ?_;rintro e w3 h3
 obtain⟨r1,c1,rfl,hb3,hr1⟩:∃r1 c1,e=.returned (.tuple #[r1,ah c1])/\Below w2 w2 w3/\((∃l,fH s s.asb=some l/\c1=0/\aX 3 dJ w2.heap.size (fun _=>False) w3 r1 l)∨(fH s s.asb=none/\c1=103)):=by
  rcases h3 with ⟨l,r,h1,h2,h3,h4⟩ | ⟨h1,h2,h3⟩
  ·exact⟨r,0,h2,h4,aH ⟨l,h1,rfl,h3⟩⟩
  ·exact⟨_,103,h2,h3,aZ ⟨h1,rfl⟩⟩
 have HG3:=aj (HG2.af.dW hb3);have am2:=aj (HSf.af.asa (w':=w3) (fun b hb=>hb3.block b (akb hb HG2.af.hB.2)));have Hr1:=aj hr1;have hz3:=hb3.size;clear h3 hb3 hr1 c7 Qx HSi HSf;have c8:w3.cell? (ak w 8)=some (.slice a8 s.aP.length n8):=by rw[aV HG3.af.e0,Nb.af];rfl
 have vG:Hid (Calls asq 22 #[aQ pb,.slice a8 s.aP.length n8] w3 (aby w3 (fH s s.aP))):=aj (by
  obtain⟨v,hv⟩:=HG3.af.plan;exact Wy _ s.aP am2.af anP hv HG3.af.hB.2 sJ WA)
 go_wp2_with fail;refine vG.af.mono ?_;rintro e w4 h4
 obtain⟨r2,c2,rfl,hb4,hr2⟩:∃r2 c2,e=.returned (.tuple #[r2,ah c2])/\Below w3 w3 w4/\((∃l,fH s s.aP=some l/\c2=0/\aX 3 dJ w3.heap.size (fun _=>False) w4 r2 l)∨(fH s s.aP=none/\c2=103)):=by
  rcases h4 with ⟨l,r,h1,h2,h3,h4⟩ | ⟨h1,h2,h3⟩
  ·exact⟨r,0,h2,h4,aH ⟨l,h1,rfl,h3⟩⟩
  ·exact⟨_,103,h2,h3,aZ ⟨h1,rfl⟩⟩
 have HG4:=aj (HG3.af.dW hb4);have zC:=aj hr2;have Hb4:=aj hb4;clear h4 hr2 c8 vG am2 HG2;go_wp2_with fail;refine(dR _ _ _).mono ?_;rintro r w9 ⟨rfl,h9⟩;obtain rfl:w4=w9:=h9.symm
 have HE:Hid (Calls asq 24 #[aQ pb] w4 fun e w'=>e=.returned (.tuple #[ah (aN s (aC s)).data,ah (aN s (aC s)).bf])/\Below w4 w4 w'):=aj (by
  obtain⟨v,hv⟩:=HG4.af.plan;obtain⟨iM,hnc⟩:=zi s;exact aiP hv HG4.af.hB.2 sJ wP wP PV)
 obtain ⟨dt,hdt⟩:=aiG ((aN s (aC s)).data);obtain ⟨tl,htl⟩:=aiG ((aN s (aC s)).bf);have Hdt:=aj hdt;have Htl:=aj htl;rw[<-hdt,<-htl]at HE HR;clear h9 hdt htl HG3;go_wp2_with fail;refine HE.af.mono ?_;rintro e w5 ⟨rfl,hb5⟩;have NG:=aj (HG4.af.dW hb5);have Hb5:=aj (Hb4.af.trans (hb5.mono Hb4.af.size));have ajR:=aj hb5;clear hb5 HE HG4 Hb4
 have Hsl:Hid (∃ya yc,w5.cell? (ak pb 9)=some (.slice ya (aC s).av.length yc)):=aj (by
  obtain⟨v,hv⟩:=NG.af.plan;obtain⟨ya,yc,hy⟩:=hv.av.form;exact⟨ya,yc,by rw[hv.c9,hy]⟩)
 obtain⟨ya,yc,c9⟩:=Hsl.af;obtain ⟨ns,hns⟩:=aiG ((aC s).av.length);have Kg:=aj hns;rw[<-hns]at c9 HR;have hsl:ns<=40000:=by rw[hns];unfold aA.sz at hsz;omega
 clear hns Hsl;obtain ⟨big,hbig⟩:=aiG ((decide (512<ns)||decide (65536<dt)||decide (4096<tl)));obtain ⟨c3,hc3⟩:=aiG (if big=true then 104 else 0:Int);have HW0:=aj (fun w=>lQ w big 104);rw[<-hc3]at HW0;have Hbig:=aj hbig;have Hc3:=aj hc3;clear hbig hc3;go_upto_region 8 with fail
 go_cut [5] (fun q wx=>q=ah (gu (gu c1 c2) c3)/\wx=w5)
 case first=>
  clear Hr1 zC HR NG;by_cases h1:512<ns
  ·have h1i:(512:Int)<(ns:Int):=wP
   have hd:big=true:=by rw[Hbig.af];simp[h1]
   have iR:Hid (∀w,Calls asq 25 #[.bool true,ah 104] w fun e w'=>e=.returned (ah c3)/\w'=w):=aj (by have h:=HW0.af;rw[hd]at h;exact h);clear HW0;go_wp2_with fail;refine(iR.af _).mono ?_;rintro r w9 ⟨rfl,rfl⟩;go_wp2_with fail;refine(dR _ _ _).mono ?_;rintro r w9 ⟨rfl,rfl⟩;go_wp2;go_meet;exact⟨rfl,rfl⟩
  ·have h1i:(ns:Int)<=512:=wP
   by_cases h2:65536<dt
   ·have hd:big=true:=by rw[Hbig.af];simp[h2]
    have iR:Hid (∀w,Calls asq 25 #[.bool true,ah 104] w fun e w'=>e=.returned (ah c3)/\w'=w):=aj (by have h:=HW0.af;rw[hd]at h;exact h);clear HW0;go_wp2_with fail;refine(iR.af _).mono ?_;rintro r w9 ⟨rfl,rfl⟩;go_wp2_with fail;refine(dR _ _ _).mono ?_;rintro r w9 ⟨rfl,rfl⟩;go_wp2;go_meet;exact⟨rfl,rfl⟩
   ·by_cases h3:4096<tl
    ·have hd:big=true:=by rw[Hbig.af];simp[h3]
     have iR:Hid (∀w,Calls asq 25 #[.bool true,ah 104] w fun e w'=>e=.returned (ah c3)/\w'=w):=aj (by have h:=HW0.af;rw[hd]at h;exact h);clear HW0;go_wp2_with fail;refine(iR.af _).mono ?_;rintro r w9 ⟨rfl,rfl⟩;go_wp2_with fail;refine(dR _ _ _).mono ?_;rintro r w9 ⟨rfl,rfl⟩;go_wp2;go_meet;exact⟨rfl,rfl⟩
    ·have hd:big=false:=by rw[Hbig.af];simp[h1,h2,h3]
     have iR:Hid (∀w,Calls asq 25 #[.bool (decide (512<(ns:Int))),ah 104] w fun e w'=>e=.returned (ah c3)/\w'=w):=aj (by have h:=HW0.af;rw[hd]at h;rw[show decide (512<(ns:Int))=false from decide_eq_false wP];exact h);clear HW0;go_wp2_with fail;refine(iR.af _).mono ?_;rintro r w9 ⟨rfl,rfl⟩;go_wp2_with fail;refine(dR _ _ _).mono ?_;rintro r w9 ⟨rfl,rfl⟩;go_wp2;go_meet;exact⟨rfl,rfl⟩
 case rest=>
 obtain⟨rfl,rfl⟩:=hcut;rename World=>w5
 clear c9 HW0;obtain ⟨cc,hcc⟩:=aiG (gu (gu c1 c2) c3)
 have HD:Hid ((cc≠0/\gD s=(eY,cc))∨(cc=0/\dt<=65536/\ns<=512/\0<=tl/\tl<=4096/\∃a b,fH s s.asb=some a/\fH s s.aP=some b/\LB dJ (fun x=>x<w5/\x≠w.heap.size+1) w5 r1 a/\LB dJ (fun x=>x<w5/\x≠w.heap.size+1) w5 r2 b/\gD s=if kH (vD s a b)≠0 then (eY,kH (vD s a b)) else (vD s a b,0))):=aj (by
  rcases Hr1.af with ⟨a,ha,h1,ho1⟩ | ⟨ha,h1⟩
  ·rcases zC.af with ⟨b,hb,h2,ho2⟩ | ⟨hb,h2⟩
   ·have hbu:=HR.af.2 a b ha hb
    have e0:gu (gu c1 c2) c3=c3:=by rw[h1,h2];rfl
    by_cases hbg:512<ns∨65536<dt∨4096<tl
    ·left
     have hbt:big=true:=by rw[Hbig.af];simp;omega
     have e1:c3=104:=by rw[Hc3.af,hbt];rfl
     rw[hcc,e0,e1];refine⟨abD,?_⟩;rw[hbu,if_pos hbg]
    ·right
     have hbt:big=false:=by rw[Hbig.af];simp;omega
     have e1:c3=0:=by rw[Hc3.af,hbt];rfl
     have htl:=(xL s.vars).2.1;have arC:tl=kJ s.vars:=by rw[Htl.af];exact acH _ _
     refine⟨by rw[hcc,e0,e1],wP,wP,wP,wP,a,b,ha,hb,?_,?_,?_⟩
     ·exact((ho1.fJ dN (E':=(·<w2.heap.size)) (fun g hg h=>by have:=(ho1.lt g hg).1;have h:g<w2:=h;omega)).lb.asa (fun x hx=>Hb5.af.block x hx.1)).imp (fun x hx=>by have:=Hb5.af.size;have:=hx.1;have:=hx.2;exact⟨wP,wP⟩)
     ·exact((ho2.fJ dN (E':=(·<w3.heap.size)) (fun g hg h=>by have:=(ho2.lt g hg).1;have h:g<w3:=h;omega)).lb.asa (fun x hx=>ajR.af.block x hx.1)).imp (fun x hx=>by have:=ajR.af.size;have:=hx.1;have:=hx.2;exact⟨wP,wP⟩)
     ·rw[hbu,if_neg hbg]
   ·left
    have e0:gu (gu c1 c2) c3=103:=by rw[h1,h2];rfl
    rw[hcc,e0];exact⟨abD,HR.af.1 (aZ hb)⟩
  ·left
   have e0:gu (gu c1 c2) c3=103:=by rw[h1];rfl
   rw[hcc,e0];exact⟨abD,HR.af.1 (aH ha)⟩)
 rw[<-hcc];have kF:=aj NG.af.e1;have mQ:=aj NG.af.low;have uX:w.heap.size+2<=w5.heap.size:=by have:=NG.af.hB;omega
 clear hcc Hr1 zC HR Hbig Hc3 Hb5 ajR;rcases HD.af with ⟨hc0,hbu⟩ | ⟨hc0,ap4,amT,amR,amS,ai,bi,hai,hbi,hl1,hl2,hbu⟩
 ·have hb:(cc != 0)=true:=by simp[hc0]
  have HN:=aj hbu;clear hc0 hbu HD;go_wp2_with (refine Bv rfl 44 (.tmp 2) (.tmp 70) rfl (w.heap.size+1) #[aK,.int .i64 0,au,au,au,au,au,au,.int .i64 0,au,au,au,au,au,.int .i64 0] rfl rfl _ _ kF.af TA rfl (by simp[Value.oneCell']) ?_);have FR:=aj (TL _ (w.heap.size+1) _ arJ _ _ kF.af);go_wp2_with fail;refine qE (fT rfl _ _ (w.heap.size+1) _ _ _ _ rfl FR.af Tryz.underlying44 rfl TA) rfl ?_;exact Jq HN.af (below_setRow mQ.af _ _ wP)
 have hb:(cc != 0)=false:=by simp[hc0]
 have HBu:=aj hbu;have qR:=aj hl1;have HL2:=aj hl2;have HAi:=aj hai;have HBi:=aj hbi;obtain⟨uq,uy,rfl⟩:=hl1.form;obtain⟨ut,uz,rfl⟩:=hl2.form
 have HCo:Hid (Calls asq 27 #[aQ pb] w5 (Ab 58 mh w5 (sI s))):=aj (by
  obtain⟨v,hv⟩:=NG.af.plan;exact ahY hv NG.af.hB.2 sJ (by rw[<-Kg.af];omega))
 have hil:(sI s).length<=200000:=by have h:=Pv Aj.af;rw[Xa]at h;exact h
 have ap5:Hid ((sI s).all gJ=true):=aj (abt HCk.af (by rw[<-Hdt.af];exact ap4));clear hc0 hbu hl1 hl2 hai hbi HD kF mQ;go_wp2_with fail;refine HCo.af.mono ?_;rintro e w6 ⟨r3,rfl,ho3,hb6⟩;have HEn:=aj (aco w6 r3 (sI s) ho3.lb (fun b hb=>hb.1) hil ap5.af);obtain⟨r3a,r3c,rfl⟩:=ho3.form;have HG6:=aj (NG.af.dW hb6);have Hb6:=aj hb6;clear ho3 hb6 HCo;go_wp2_with fail;refine HEn.af.mono ?_;rintro e w7 ⟨r4,rfl,ho4,uN⟩;have HG7:=aj (HG6.af.dW uN);have Hb7:=aj (Hb6.af.trans (uN.mono Hb6.af.size));have ap6:=ho4.lt;have EE:=aj ((ho4.fJ jd (E':=(·<w6.heap.size)) (fun g hg h=>by have:=(ho4.lt g hg).1;have h:g<w6:=h;omega)).lb.imp (S':=fun b=>b<w7/\b≠w.heap.size+1) (fun b hb=>⟨hb.1,by have:=hb.2;have:=Hb6.af.size;omega⟩));obtain⟨EO,EP,rfl⟩:=ho4.form
 have IU:Hid (Calls asq 28 #[aQ pb] w7 (abw w7 (IY s) (bX (jJ s.vars)))):=aj (by
  obtain⟨v,hv⟩:=HG7.af.plan;obtain⟨iM,hnc⟩:=zi s;exact ahT hv HG7.af.hB.2 wP wP PV)
 have JH:w.heap.size+2<=w7.heap.size:=by have:=HG7.af.hB;omega
 clear ho4 uN Hb6 HEn NG HG6 ap6;go_wp2_with fail;refine IU.af.mono ?_;rintro e w8 ⟨r5,r6,rfl,PW⟩;have GR:=aj (HG7.af.dW PW.below);have Hb8:=aj (Hb7.af.trans (PW.below.mono Hb7.af.size));have Xk:=aj ((EE.af.asa (fun b hb=>PW.below.block b hb.1)).imp (S':=fun b=>b<w8/\b≠w.heap.size+1) (fun b hb=>⟨akb hb.1 PW.below.size,hb.2⟩));have vK:=aj ((PW.ho.fJ jd (E':=(·<w7.heap.size)) (fun g hg h=>by have:=(PW.ho.lt g hg).1;have h:g<w7:=h;omega)).lb.imp (S':=fun b=>b<w8/\b≠w.heap.size+1) (fun b hb=>⟨hb.1,by have:=hb.2;omega⟩));have zF:=aj ((PW.ht.fJ jd (E':=(·<w7.heap.size)) (fun g hg h=>by have:=(PW.ht.lt g hg).1;have h:g<w7:=h;omega)).lb.imp (S':=fun b=>b<w8/\b≠w.heap.size+1) (fun b hb=>⟨hb.1,by have:=hb.2;omega⟩));have af7:=aj ((qR.af.asa (fun b hb=>Hb8.af.block b hb.1)).imp (S':=fun b=>b<w8/\b≠w.heap.size+1) (fun b hb=>⟨akb hb.1 Hb8.af.size,hb.2⟩));have af8:=aj ((HL2.af.asa (fun b hb=>Hb8.af.block b hb.1)).imp (S':=fun b=>b<w8/\b≠w.heap.size+1) (fun b hb=>⟨akb hb.1 Hb8.af.size,hb.2⟩));obtain⟨Rm,Rn,rfl⟩:=PW.ho.form;obtain⟨uw,uD,rfl⟩:=PW.ht.form
 have HRe:Hid (∀wr,Below w8 w8 wr->Calls asq 29 #[aQ pb] wr (Ab 122 mi wr (kU s))):=aj (fun wr hb=>by
  have h:=GR.af.dW hb;obtain⟨v,hv⟩:=h.plan;exact acs hv h.hB.2 HCk.af sJ PV anO WA hvars (by rw[<-Kg.af];omega))
 have Cj:Hid (∀wr,Below w8 w8 wr->Calls asq 30 #[aQ pb] wr (Ab 54 gq wr (sM s (aN s (aC s)) (aC s).av))):=aj (fun wr hb=>by
  have h:=GR.af.dW hb;obtain⟨v,hv⟩:=h.plan;exact acu hv h.hB.2 sJ PV WA hvars (by rw[<-Kg.af];omega))
 obtain ⟨RL,hRL⟩:=aiG (kU s);obtain ⟨SY,Rl⟩:=aiG (sM s (aN s (aC s)) (aC s).av);obtain ⟨TX,hTX⟩:=aiG (ky (sI s));obtain ⟨DB,hDB⟩:=aiG (IY s);obtain ⟨TB,hTB⟩:=aiG (bX (jJ s.vars));have HRL:=aj hRL;have HSY:=aj Rl;have HTX:=aj hTX;have HDB:=aj hDB;have HTB:=aj hTB;rw[<-hRL]at HRe;rw[<-Rl]at Cj;rw[<-hTX]at Xk ⊢;rw[<-hDB]at vK ⊢;rw[<-hTB]at zF ⊢;clear PW Hb7 EE qR HL2 IU HG7 hRL Rl hTX hDB hTB;have c0:w8.cell? (ak w 0)=some (ax s.arT):=by rw[aV GR.af.e0,Nb.af];rfl
 have c1:w8.cell? (ak w 1)=some (ah s.ar4):=by rw[aV GR.af.e0,Nb.af];rfl
 have c2:w8.cell? (ak w 2)=some (.slice a2 s.ar6.length n2):=by rw[aV GR.af.e0,Nb.af];rfl
 have c3:w8.cell? (ak w 3)=some (.slice a3 s.aF.length n3):=by rw[aV GR.af.e0,Nb.af];rfl
 go_upto_region 13 with fail
 go_cut [15] (fun p15 wx=>∃ib pX pY oU oV,p15=aQ ib/\wx.heap[ib]? =some (aB #[ax s.arT,ah s.ar4,au,.slice a2 s.ar6.length n2,.slice a3 s.aF.length n3,.slice oU SY.length oV,au,au,ah 0,.slice pX RL.length pY,au,.slice uq ai.length uy,.slice ut bi.length uz,.slice uw TB.length uD,ah tl] 44)/\LB mi (fun b=>w8.heap.size<=b/\b<wx/\b≠ib) wx (.slice pX RL.length pY) RL/\LB gq (fun b=>w8.heap.size<=b/\b<wx/\b≠ib) wx (.slice oU SY.length oV) SY/\Below w8 w8 wx/\w8.heap.size<=ib)
 case first=>
  refine bA 18 TA TA ?_;simp only[ji];refine P8 (S:=fun w':World=>w'.cell? (ak w 0)=some (ax s.arT)/\w'.cell? (ak w 1)=some (ah s.ar4)/\w'.cell? (ak w 2)=some (.slice a2 s.ar6.length n2)/\w'.cell? (ak w 3)=some (.slice a3 s.aF.length n3)) _ _ _ _ ?_;have ay:(fun w':World=>w'.cell? (ak w 0)=some (ax s.arT)/\w'.cell? (ak w 1)=some (ah s.ar4)/\w'.cell? (ak w 2)=some (.slice a2 s.ar6.length n2)/\w'.cell? (ak w 3)=some (.slice a3 s.aF.length n3)) (World.drew w8):=⟨c0,c1,c2,c3⟩;refine asr ?_;have Sb:=aj ((PZ w8.heap.size w8).drew);clear c0 c1 c2 c3;generalize (World.drew w8)=EQ at *;refine arO [0,1,2,3,4,5,6,7,8,9,10,11,12,14] ay ?_;simp only[ast]
  iterate 14 (refine arP ?_;try simp only[bP])
  refine wpAnyH_ready (rs:=[13,17]) TA arG ?_;refine eD rfl (fun K hK=> ?_) (eD rfl (fun K hK=> ?_) fU)
  ·skip
   go_simp;refine(HRe.af EQ Sb.af).mono ?_;rintro e AV ⟨r7,rfl,fG,hbq⟩;obtain⟨pX,pY,rfl⟩:=fG.form;have ap7:=hbq.size;have anQ:=Sb.af.size;have L71:=aj ((fG.fJ wM (E':=(·<EQ.heap.size)) (fun g hg h=>by have:=(fG.lt g hg).1;have h:g<EQ:=h;omega)).lb);have Ey:=aj (Sb.af.trans (hbq.mono Sb.af.size));refine hK.af _ _ ⟨iq hbq ay.1,iq hbq ay.2.1,iq hbq ay.2.2.1,iq hbq ay.2.2.2⟩ (fun ay=> ?_);clear hK K fG hbq;try simp only[bV]
   refine wpAnyH_ready (rs:=[15,17]) TA arG ?_;refine eD rfl (fun K hK=> ?_) (eD rfl (fun K hK=> ?_) fU)
   ·skip
    go_simp;refine(Cj.af AV Ey.af).mono ?_;rintro e wd2 ⟨r8,rfl,oQ,hbq⟩;obtain⟨oU,oV,rfl⟩:=oQ.form;have am3:=hbq.size;have akn:=Ey.af.size;have L82:=aj ((oQ.fJ ig (E':=(·<AV.heap.size)) (fun g hg h=>by have:=(oQ.lt g hg).1;have h:g<AV:=h;omega)).lb);have CQ:=aj (Ey.af.trans (hbq.mono Ey.af.size));have L72:=aj (L71.af.asa (w':=wd2) (fun b hb=>hbq.block b (by have h1:=hb.1;omega)));refine hK.af _ _ ⟨iq hbq ay.1,iq hbq ay.2.1,iq hbq ay.2.2.1,iq hbq ay.2.2.2⟩ (fun ay=> ?_);clear hK K oQ hbq;try simp only[bV]
    refine arO [16] ay ?_;simp only[ast]
    iterate 1 (refine arP ?_;try simp only[bP])
    refine cO 17 fun K hK=> ?_
    go_simp;have hbq:Below wd2 wd2 (wd2.alloc (aB arJ 44)):=(PZ _ _).alloc (oD _) _;have PX:=aj (ah2 wd2 (aB arJ 44));have abJ:=aj (CQ.af.trans (hbq.mono CQ.af.size));have ako:=CQ.af.size;have am4:(wd2.alloc (aB arJ 44)).heap.size=wd2.heap.size+1:=arG;have L73:=aj (L72.af.asa (w':=wd2.alloc (aB arJ 44)) (fun b hb=>hbq.block b (by have h1:=hb.1;omega)));have L83:=aj (L82.af.asa (w':=wd2.alloc (aB arJ 44)) (fun b hb=>hbq.block b (by have h1:=hb.1;omega)));refine hK.af _ _ ⟨iq hbq ay.1,iq hbq ay.2.1,iq hbq ay.2.2.1,iq hbq ay.2.2.2⟩ (fun ay=> ?_);clear hK K hbq;try simp only[bV]
    generalize wd2.alloc (aB arJ 44)=wd3 at *;refine E5 TA ?_ _;simp only[dU];clear ay;go_wp2_with (refine Bv rfl 44 (.tmp 15) (.tmp 99) rfl wd2.heap.size (#[ax s.arT,.int .i64 s.ar4,au,.slice a2 s.ar6.length n2,.slice a3 s.aF.length n3,.slice oU SY.length oV,au,au,.int .i64 0,.slice pX RL.length pY,au,.slice uq ai.length uy,.slice ut bi.length uz,.slice uw TB.length uD,.int .i64 tl]) rfl rfl _ _ PX.af TA rfl (by simp[Value.oneCell']) ?_);have HXf:=aj (TL _ wd2.heap.size _ (#[ax s.arT,ah s.ar4,au,.slice a2 s.ar6.length n2,.slice a3 s.aF.length n3,.slice oU SY.length oV,au,au,ah 0,.slice pX RL.length pY,au,.slice uq ai.length uy,.slice ut bi.length uz,.slice uw TB.length uD,ah tl]) _ _ PX.af);have kE:Hid (Step (fun b=>b≠wd2.heap.size) wd3 (wd3.setRow wd2.heap.size (#[ax s.arT,ah s.ar4,au,.slice a2 s.ar6.length n2,.slice a3 s.aF.length n3,.slice oU SY.length oV,au,au,ah 0,.slice pX RL.length pY,au,.slice uq ai.length uy,.slice ut bi.length uz,.slice uw TB.length uD,ah tl]))):=aj ⟨rfl,rfl,rfl,arG,fun b hb=>cu _ _ _ _ hb⟩;go_wp2_with fail;go_meet;exact⟨_,pX,pY,oU,oV,rfl,HXf.af,(L73.af.asa (fun b hb=>kE.af.block b (by have h1:=hb.1;have h2:=hb.2;omega))).imp (fun b hb=>⟨by have h2:=hb.2;omega,by have h1:=hb.1;simp;omega,by have h1:=hb.1;have h2:=hb.2;omega⟩),(L83.af.asa (fun b hb=>kE.af.block b (by have h1:=hb.1;have h2:=hb.2;omega))).imp (fun b hb=>⟨by have h2:=hb.2;omega,by have h1:=hb.1;simp;omega,by have h1:=hb.1;have h2:=hb.2;omega⟩),below_setRow abJ.af _ _ wP,wP⟩
   ·skip
    go_simp;have hbq:Below AV AV (AV.alloc (aB arJ 44)):=(PZ _ _).alloc (oD _) _;have abK:=aj (ah2 AV (aB arJ 44));have CQ:=aj (Ey.af.trans (hbq.mono Ey.af.size));have akn:=Ey.af.size;have am3:(AV.alloc (aB arJ 44)).heap.size=AV.heap.size+1:=arG;have L72:=aj (L71.af.asa (w':=AV.alloc (aB arJ 44)) (fun b hb=>hbq.block b (by have h1:=hb.1;omega)));refine hK.af _ _ ⟨iq hbq ay.1,iq hbq ay.2.1,iq hbq ay.2.2.1,iq hbq ay.2.2.2⟩ (fun ay=> ?_);clear hK K hbq;try simp only[bV]
    generalize AV.alloc (aB arJ 44)=wd2 at *;refine cO 15 fun K hK=> ?_
    go_simp;refine(Cj.af wd2 CQ.af).mono ?_;rintro e wd3 ⟨r8,rfl,oQ,hbq⟩;obtain⟨oU,oV,rfl⟩:=oQ.form;have am4:=hbq.size;have ako:=CQ.af.size;have L83:=aj ((oQ.fJ ig (E':=(·<wd2.heap.size)) (fun g hg h=>by have:=(oQ.lt g hg).1;have h:g<wd2:=h;omega)).lb);have abJ:=aj (CQ.af.trans (hbq.mono CQ.af.size));have L73:=aj (L72.af.asa (w':=wd3) (fun b hb=>hbq.block b (by have h1:=hb.1;omega)));have PX:=aj ((hbq.block AV.heap.size (ah1.1 abK.af).1).trans abK.af);refine hK.af _ _ ⟨iq hbq ay.1,iq hbq ay.2.1,iq hbq ay.2.2.1,iq hbq ay.2.2.2⟩ (fun ay=> ?_);clear hK K oQ hbq;try simp only[bV]
    refine arO [16] ay ?_;simp only[ast]
    iterate 1 (refine arP ?_;try simp only[bP])
    refine E5 TA ?_ _;simp only[dU];clear ay;go_wp2_with (refine Bv rfl 44 (.tmp 15) (.tmp 99) rfl AV.heap.size (#[ax s.arT,.int .i64 s.ar4,au,.slice a2 s.ar6.length n2,.slice a3 s.aF.length n3,.slice oU SY.length oV,au,au,.int .i64 0,.slice pX RL.length pY,au,.slice uq ai.length uy,.slice ut bi.length uz,.slice uw TB.length uD,.int .i64 tl]) rfl rfl _ _ PX.af TA rfl (by simp[Value.oneCell']) ?_);have HXf:=aj (TL _ AV.heap.size _ (#[ax s.arT,ah s.ar4,au,.slice a2 s.ar6.length n2,.slice a3 s.aF.length n3,.slice oU SY.length oV,au,au,ah 0,.slice pX RL.length pY,au,.slice uq ai.length uy,.slice ut bi.length uz,.slice uw TB.length uD,ah tl]) _ _ PX.af);have kE:Hid (Step (fun b=>b≠AV.heap.size) wd3 (wd3.setRow AV.heap.size (#[ax s.arT,ah s.ar4,au,.slice a2 s.ar6.length n2,.slice a3 s.aF.length n3,.slice oU SY.length oV,au,au,ah 0,.slice pX RL.length pY,au,.slice uq ai.length uy,.slice ut bi.length uz,.slice uw TB.length uD,ah tl]))):=aj ⟨rfl,rfl,rfl,arG,fun b hb=>cu _ _ _ _ hb⟩;go_wp2_with fail;go_meet;exact⟨_,pX,pY,oU,oV,rfl,HXf.af,(L73.af.asa (fun b hb=>kE.af.block b (by have h1:=hb.1;have h2:=hb.2;omega))).imp (fun b hb=>⟨by have h2:=hb.2;omega,by have h1:=hb.1;simp;omega,by have h1:=hb.1;have h2:=hb.2;omega⟩),(L83.af.asa (fun b hb=>kE.af.block b (by have h1:=hb.1;have h2:=hb.2;omega))).imp (fun b hb=>⟨by have h2:=hb.2;omega,by have h1:=hb.1;simp;omega,by have h1:=hb.1;have h2:=hb.2;omega⟩),below_setRow abJ.af _ _ wP,wP⟩
  ·skip
   go_simp;have hbq:Below EQ EQ (EQ.alloc (aB arJ 44)):=(PZ _ _).alloc (oD _) _;have am5:=aj (ah2 EQ (aB arJ 44));have Ey:=aj (Sb.af.trans (hbq.mono Sb.af.size));have anQ:=Sb.af.size;have ap7:(EQ.alloc (aB arJ 44)).heap.size=EQ.heap.size+1:=arG;refine hK.af _ _ ⟨iq hbq ay.1,iq hbq ay.2.1,iq hbq ay.2.2.1,iq hbq ay.2.2.2⟩ (fun ay=> ?_);clear hK K hbq;try simp only[bV]
   generalize EQ.alloc (aB arJ 44)=AV at *;refine cO 13 fun K hK=> ?_
   go_simp;refine(HRe.af AV Ey.af).mono ?_;rintro e wd2 ⟨r7,rfl,fG,hbq⟩;obtain⟨pX,pY,rfl⟩:=fG.form;have am3:=hbq.size;have akn:=Ey.af.size;have L72:=aj ((fG.fJ wM (E':=(·<AV.heap.size)) (fun g hg h=>by have:=(fG.lt g hg).1;have h:g<AV:=h;omega)).lb);have CQ:=aj (Ey.af.trans (hbq.mono Ey.af.size));have abK:=aj ((hbq.block EQ.heap.size (ah1.1 am5.af).1).trans am5.af);refine hK.af _ _ ⟨iq hbq ay.1,iq hbq ay.2.1,iq hbq ay.2.2.1,iq hbq ay.2.2.2⟩ (fun ay=> ?_);clear hK K fG hbq;try simp only[bV]
   refine cO 15 fun K hK=> ?_
   go_simp;refine(Cj.af wd2 CQ.af).mono ?_;rintro e wd3 ⟨r8,rfl,oQ,hbq⟩;obtain⟨oU,oV,rfl⟩:=oQ.form;have am4:=hbq.size;have ako:=CQ.af.size;have L83:=aj ((oQ.fJ ig (E':=(·<wd2.heap.size)) (fun g hg h=>by have:=(oQ.lt g hg).1;have h:g<wd2:=h;omega)).lb);have abJ:=aj (CQ.af.trans (hbq.mono CQ.af.size));have L73:=aj (L72.af.asa (w':=wd3) (fun b hb=>hbq.block b (by have h1:=hb.1;omega)));have PX:=aj ((hbq.block EQ.heap.size (ah1.1 abK.af).1).trans abK.af);refine hK.af _ _ ⟨iq hbq ay.1,iq hbq ay.2.1,iq hbq ay.2.2.1,iq hbq ay.2.2.2⟩ (fun ay=> ?_);clear hK K oQ hbq;try simp only[bV]
   refine arO [16] ay ?_;simp only[ast]
   iterate 1 (refine arP ?_;try simp only[bP])
   refine E5 TA ?_ _;simp only[dU];clear ay;go_wp2_with (refine Bv rfl 44 (.tmp 15) (.tmp 99) rfl EQ.heap.size (#[ax s.arT,.int .i64 s.ar4,au,.slice a2 s.ar6.length n2,.slice a3 s.aF.length n3,.slice oU SY.length oV,au,au,.int .i64 0,.slice pX RL.length pY,au,.slice uq ai.length uy,.slice ut bi.length uz,.slice uw TB.length uD,.int .i64 tl]) rfl rfl _ _ PX.af TA rfl (by simp[Value.oneCell']) ?_);have HXf:=aj (TL _ EQ.heap.size _ (#[ax s.arT,ah s.ar4,au,.slice a2 s.ar6.length n2,.slice a3 s.aF.length n3,.slice oU SY.length oV,au,au,ah 0,.slice pX RL.length pY,au,.slice uq ai.length uy,.slice ut bi.length uz,.slice uw TB.length uD,ah tl]) _ _ PX.af);have kE:Hid (Step (fun b=>b≠EQ.heap.size) wd3 (wd3.setRow EQ.heap.size (#[ax s.arT,ah s.ar4,au,.slice a2 s.ar6.length n2,.slice a3 s.aF.length n3,.slice oU SY.length oV,au,au,ah 0,.slice pX RL.length pY,au,.slice uq ai.length uy,.slice ut bi.length uz,.slice uw TB.length uD,ah tl]))):=aj ⟨rfl,rfl,rfl,arG,fun b hb=>cu _ _ _ _ hb⟩;go_wp2_with fail;go_meet;exact⟨_,pX,pY,oU,oV,rfl,HXf.af,(L73.af.asa (fun b hb=>kE.af.block b (by have h1:=hb.1;have h2:=hb.2;omega))).imp (fun b hb=>⟨by have h2:=hb.2;omega,by have h1:=hb.1;simp;omega,by have h1:=hb.1;have h2:=hb.2;omega⟩),(L83.af.asa (fun b hb=>kE.af.block b (by have h1:=hb.1;have h2:=hb.2;omega))).imp (fun b hb=>⟨by have h2:=hb.2;omega,by have h1:=hb.1;simp;omega,by have h1:=hb.1;have h2:=hb.2;omega⟩),below_setRow abJ.af _ _ wP,wP⟩
 case rest=>
 obtain⟨ib,pX,pY,oU,oV,rfl,hxi,h7,h8,DN,hib⟩:=hcut;rename World=>w9
 go_wp2_with fail;refine ald qm.af ?_ HS.af Aj.af GR.af HCk.af Htl.af amR amS Kg.af amT HAi.af HBi.af HBu.af HRL.af HSY.af HTX.af HDB.af HTB.af af7.af af8.af Xk.af vK.af zF.af hxi h7 h8 DN hib;exact⟨TA,rfl,TA,TA,TA,TA,TA,TA,trivial⟩
theorem agh (w:World) (sv:bN) (s:aM) (hS:gB (·<w.heap.size) w sv s) (bT:pu s):
  Calls asq 7 #[.agg (kL sv s).toArray] w (PT w s):=by
 refine calls_of_wp (c:=bL Tryz.f7 0) Tryz.func7 TA ?_;exact ale ⟨TA,rfl,TA,trivial⟩ hS bT
theorem FD {S:Nat->Prop} {v:Value} {l:List UInt8} (h:LB fq S w v l):(Go.convert 42 9 v).run asq w=Result.ok (ax l) w:=by
 obtain⟨a,b,off,cap,hv,hm,ha,hc,hS,hr⟩:=h;subst hv
 cases a with
 | none=>
  have:l=[]:=by
   cases l with
   | nil=>rfl
   | cons y m=>exact absurd (ha arG) arG
  subst this;exact run_convert_bytes_nil w 42 5 Tryz.underlying42 Tryz.underlying5 _ _ 9 Tryz.underlying9
 | some ad=>
  have hl:(loadCells ad l.length).run asq w=.ok ((l.map fun c=>(c.toNat:Int)).map (Value.int .u8)).toArray w:=by
   have:=run_loadCells_list (P:=asq) w ad ((l.map fun c=>(c.toNat:Int)).map (Value.int .u8)) (fun j u hj=>by
    rw[vW,vW]at hj
    cases hc':l[j]? with
    | none=>rw[hc']at hj;simp at hj
    | some c=>
     rw[hc']at hj;simp at hj;subst hj;have hl0:0<l.length:=by have:=(Sm.1 hc').1;omega
     obtain rfl:ad=(ak b off):=by have:=ha hl0;simpa using this
     obtain⟨row,r1,r2⟩:=hr j c hc';have:=r2 0 (.int .u8 c.toNat) (by rw[r1];rfl);have hk:fq.k=1:=rfl;rw[hk]at this
     simpa [Addr.add_lit] using this)
   simpa using this
  rw[run_convert_bytes_string w 42 9 5 _ _ cap Tryz.underlying42 Tryz.underlying5 Tryz.underlying9,run_bytesToString w ad l.length cap _ hl,foldl_push_bytes]
  have e:(l.map fun c=>(c.toNat:Int)).map (fun n=>UInt8.ofNat n.toNat)=l:=by
   rw[List.map_map];have:((fun n:Int=>UInt8.ofNat n.toNat)∘fun c:UInt8=>(c.toNat:Int))=id:=by funext c;simp
   rw[this,List.map_id]
  rw[e];simp[ByteArray.empty,ByteArray.emptyWithCapacity]
  rfl
theorem acw (h:(gD s).2≠0):(gD s).1=eY:=by
 rw[wS]at h ⊢
 repeat' split
 all_goals first | rfl | skip
 simp_all
theorem acy (w:World) (sv:bN) (s:aM) (hS:gB (·<w.heap.size) w sv s) (hR:Reach s):
  Calls asq 3 #[.agg (kL sv s).toArray] w fun e w'=>e=.returned (.bool true)/\Below w w w':=by
 have hrow:(kL sv s).toArray=#[ax s.arT,ah s.ar4,sv.ar6,sv.aF,sv.ar2,sv.vars,sv.ar1,sv.asb,sv.aP]:=rfl;rw[hrow];have Jp:=aj hrow;have HS:=aj hS;have HR:=aj hR;have eT:=aj (ah2 w (aB #[ax s.arT,ah s.ar4,sv.ar6,sv.aF,sv.ar2,sv.vars,sv.ar1,sv.asb,sv.aP] 28));have HB1:=aj ((PZ w.heap.size w).alloc (oD _) (aB #[ax s.arT,ah s.ar4,sv.ar6,sv.aF,sv.ar2,sv.vars,sv.ar1,sv.asb,sv.aP] 28));have hz1:w.heap.size<(w.alloc (aB #[ax s.arT,ah s.ar4,sv.ar6,sv.aF,sv.ar2,sv.vars,sv.ar1,sv.asb,sv.aP] 28)):=arG;clear hS hR hrow;go_enter Tryz.func3,Tryz.ntmps3;go_upto_region 1 with fail
 generalize w.alloc (aB #[ax s.arT,ah s.ar4,sv.ar6,sv.aF,sv.ar2,sv.vars,sv.ar1,sv.asb,sv.aP] 28)=w1 at *;have HA:=aj (afU w1);go_wp2_with fail;refine HA.af.mono ?_;rintro e w2 ⟨rfl,hb2⟩;have gI:=aj ((hb2.block w.heap.size hz1).trans eT.af);have HB2:=aj (HB1.af.trans (hb2.mono wP));have hz2:w.heap.size<w2:=by have:=hb2.size;omega
 clear hb2 eT HB1 HA;have HF:Hid (Calls asq 5 #[.agg #[ax s.arT,ah s.ar4,sv.ar6,sv.aF,sv.ar2,sv.vars,sv.ar1,sv.asb,sv.aP]] w2 (Xf w2 s)):=aj (by have:=ajx w2 sv s (HS.af.later HB2.af);rwa [Jp.af]at this);have x0:=aD gI.af 0 _ rfl;have x1:=aD gI.af 1 _ rfl;have x2:=aD gI.af 2 _ rfl;have x3:=aD gI.af 3 _ rfl;have x4:=aD gI.af 4 _ rfl;have x5:=aD gI.af 5 _ rfl;have x6:=aD gI.af 6 _ rfl;have x7:=aD gI.af 7 _ rfl;have x8:=aD gI.af 8 _ rfl;go_wp2_with fail;refine HF.af.mono ?_;clear x0 x1 x2 x3 x4 x5 x6 x7 x8;rintro e w3 ⟨r,rfl,hr,hb3⟩;have lF:=aj ((hb3.block w.heap.size hz2).trans gI.af);have HB3:=aj (HB2.af.trans (hb3.mono wP));have hz3:w.heap.size<w3:=by have:=hb3.size;omega
 have Hr:=aj hr;clear hb3 gI HB2 HF hr
 cases r with
 | false=>
  go_wp2;go_ret;exact⟨rfl,HB3.af⟩
 | true=>
  have Aj:=aj ((Hr.af rfl).l HR.af);obtain ⟨im,him⟩:=aiG ((gD s).1);obtain ⟨er,her⟩:=aiG ((gD s).2)
  have qU:Hid (∀wr,Below w w wr->Calls asq 6 #[.agg #[ax s.arT,ah s.ar4,sv.ar6,sv.aF,sv.ar2,sv.vars,sv.ar1,sv.asb,sv.aP]] wr (fun e w'=>∃iv,e=.returned (.tuple #[.agg (aW iv im),ah er])/\Below wr wr w'/\su (fun b=>wr.heap.size<=b/\b<w') w' iv im)):=aj (fun wr hb=>by
   have h:=PN wr sv s (HS.af.later hb) Aj.af;unfold gN at h;rw[<-him,<-her,Jp.af]at h;exact h)
  have HUd:Hid (∀wr,Below w w wr->Calls asq 7 #[.agg #[ax s.arT,ah s.ar4,sv.ar6,sv.aF,sv.ar2,sv.vars,sv.ar1,sv.asb,sv.aP]] wr (fun e w'=>∃iv,e=.returned (.tuple #[.agg (aW iv im),ah er])/\Below wr wr w'/\uK (·<w'.heap.size) w' iv im)):=aj (fun wr hb=>by
   have h:=agh wr sv s (HS.af.later hb) Aj.af;unfold PT at h;rw[<-him,<-her,Jp.af]at h;exact h)
  have Yp:Hid (er≠0->im=eY):=aj (fun h=>by rw[him];exact acw (by rw[<-her];exact h));have HMy:Hid (er=0->kH im=0):=aj (fun h=>by rw[him];exact(ahW (by rw[<-her];exact h)).2.2.2);clear Hr him her;have x0:=aD lF.af 0 _ rfl;have x1:=aD lF.af 1 _ rfl;have x2:=aD lF.af 2 _ rfl;have x3:=aD lF.af 3 _ rfl;have x4:=aD lF.af 4 _ rfl;have x5:=aD lF.af 5 _ rfl;have x6:=aD lF.af 6 _ rfl;have x7:=aD lF.af 7 _ rfl;have x8:=aD lF.af 8 _ rfl;go_wp2_with fail;refine(qU.af w3 HB3.af).mono ?_;clear x0 x1 x2 x3 x4 x5 x6 x7 x8;rintro e w4 ⟨⟨a0,a1,a2,a3,a4,a5,a6,a7,a8,a9,zN⟩,rfl,hb4,hm4⟩;have agi:=FC hm4.img;have Hm4:=aj hm4;unfold aW at agi ⊢;have Co:=hb4.size;have xU:=aj ((hb4.block w.heap.size wP).trans lF.af);have ui:=aj (HB3.af.trans (hb4.mono wP));clear hb4 hm4 lF HB3;go_upto_region 5 with (refine Bv rfl 44 (.tmp 4) (.tmp 28) rfl w4.heap.size (#[ax im.arT,ah im.ar4,a0,a1,a2,a3,a4,a5,ah im.ase,a6,a7,a8,a9,zN,ah im.aJ]) rfl rfl _ _ (ah2 w4 _) TA rfl agi ?_)
  have ajS:=aj (TL (w4.alloc (aB arJ 44)) w4.heap.size _ (#[ax im.arT,ah im.ar4,a0,a1,a2,a3,a4,a5,ah im.ase,a6,a7,a8,a9,zN,ah im.aJ]) _ _ (ah2 w4 _));have hold:∀b,b<w4.heap.size->((w4.alloc (aB arJ 44)).setRow w4.heap.size (#[ax im.arT,ah im.ar4,a0,a1,a2,a3,a4,a5,ah im.ase,a6,a7,a8,a9,zN,ah im.aJ])).heap[b]? =w4.heap[b]? :=fun b hb=>(cu _ _ b _ wP).trans (dX w4 _ hb)
  have kF:=aj ((hold w.heap.size wP).trans xU.af);have ajT:=aj (Hm4.af.asa (fun b hb=>hold b hb.2));have mQ:=aj (below_setRow (ui.af.alloc ui.af.size (aB arJ 44)) w4.heap.size (#[ax im.arT,ah im.ar4,a0,a1,a2,a3,a4,a5,ah im.ase,a6,a7,a8,a9,zN,ah im.aJ]) ui.af.size);have uX:((w4.alloc (aB arJ 44)).setRow w4.heap.size (#[ax im.arT,ah im.ar4,a0,a1,a2,a3,a4,a5,ah im.ase,a6,a7,a8,a9,zN,ah im.aJ])).heap.size=w4.heap.size+1:=arG;clear agi Hm4 hold xU ui;obtain ⟨ab,hab⟩:=aiG w4.heap.size;rw[<-hab]at ajS kF ajT mQ uX ⊢;have aqp:ab<=w4/\w4.heap.size<=ab:=wP;replace uX:((w4.alloc (aB arJ 44)).setRow ab (#[ax im.arT,ah im.ar4,a0,a1,a2,a3,a4,a5,ah im.ase,a6,a7,a8,a9,zN,ah im.aJ])).heap.size<=ab+1/\ab+1<=((w4.alloc (aB arJ 44)).setRow ab (#[ax im.arT,ah im.ar4,a0,a1,a2,a3,a4,a5,ah im.ase,a6,a7,a8,a9,zN,ah im.aJ])).heap.size:=wP;clear hab;generalize (w4.alloc (aB arJ 44)).setRow ab (#[ax im.arT,ah im.ar4,a0,a1,a2,a3,a4,a5,ah im.ase,a6,a7,a8,a9,zN,ah im.aJ])=w5 at *;have x0:=aD kF.af 0 _ rfl;have x1:=aD kF.af 1 _ rfl;have x2:=aD kF.af 2 _ rfl;have x3:=aD kF.af 3 _ rfl;have x4:=aD kF.af 4 _ rfl;have x5:=aD kF.af 5 _ rfl;have x6:=aD kF.af 6 _ rfl;have x7:=aD kF.af 7 _ rfl;have x8:=aD kF.af 8 _ rfl;go_wp2_with fail;refine(qU.af w5 mQ.af).mono ?_;clear x0 x1 x2 x3 x4 x5 x6 x7 x8;rintro e w6 ⟨⟨b0,b1,b2,b3,b4,b5,b6,b7,b8,b9,b10⟩,rfl,hb6,hm6⟩;have agj:=FC hm6.img;have Hm6:=aj hm6;unfold aW at agj ⊢;have JN:=hb6.size;have sD:=aj ((hb6.block w.heap.size wP).trans kF.af);have AQ:=aj (mQ.af.trans (hb6.mono wP));have am6:=aj ((hb6.block ab wP).trans ajS.af);have am7:=aj (ajT.af.asa (fun b hb=>hb6.block b wP));clear hb6 hm6 kF mQ ajS ajT;go_upto_region 6 with (refine Bv rfl 44 (.tmp 6) (.tmp 33) rfl w6.heap.size (#[ax im.arT,ah im.ar4,b0,b1,b2,b3,b4,b5,ah im.ase,b6,b7,b8,b9,b10,ah im.aJ]) rfl rfl _ _ (ah2 w6 _) TA rfl agj ?_)
  have ajU:=aj (TL (w6.alloc (aB arJ 44)) w6.heap.size _ (#[ax im.arT,ah im.ar4,b0,b1,b2,b3,b4,b5,ah im.ase,b6,b7,b8,b9,b10,ah im.aJ]) _ _ (ah2 w6 _));have hold:∀b,b<w6.heap.size->((w6.alloc (aB arJ 44)).setRow w6.heap.size (#[ax im.arT,ah im.ar4,b0,b1,b2,b3,b4,b5,ah im.ase,b6,b7,b8,b9,b10,ah im.aJ])).heap[b]? =w6.heap[b]? :=fun b hb=>(cu _ _ b _ wP).trans (dX w6 _ hb)
  have jK:=aj ((hold w.heap.size wP).trans sD.af);have ajV:=aj (Hm6.af.asa (fun b hb=>hold b hb.2));have Eg:=aj (below_setRow (AQ.af.alloc AQ.af.size (aB arJ 44)) w6.heap.size (#[ax im.arT,ah im.ar4,b0,b1,b2,b3,b4,b5,ah im.ase,b6,b7,b8,b9,b10,ah im.aJ]) AQ.af.size);have JH:((w6.alloc (aB arJ 44)).setRow w6.heap.size (#[ax im.arT,ah im.ar4,b0,b1,b2,b3,b4,b5,ah im.ase,b6,b7,b8,b9,b10,ah im.aJ])).heap.size=w6.heap.size+1:=arG;have ajW:=aj ((hold ab wP).trans am6.af);have ajX:=aj (am7.af.asa (fun b hb=>hold b wP));clear agj Hm6 hold sD AQ am6 am7;obtain ⟨bb,hbb⟩:=aiG w6.heap.size;rw[<-hbb]at ajU jK ajV Eg JH ajW ajX ⊢;have aqr:bb<=w6/\w6.heap.size<=bb:=wP;replace JH:((w6.alloc (aB arJ 44)).setRow bb (#[ax im.arT,ah im.ar4,b0,b1,b2,b3,b4,b5,ah im.ase,b6,b7,b8,b9,b10,ah im.aJ])).heap.size<=bb+1/\bb+1<=((w6.alloc (aB arJ 44)).setRow bb (#[ax im.arT,ah im.ar4,b0,b1,b2,b3,b4,b5,ah im.ase,b6,b7,b8,b9,b10,ah im.aJ])).heap.size:=wP;clear hbb;generalize (w6.alloc (aB arJ 44)).setRow bb (#[ax im.arT,ah im.ar4,b0,b1,b2,b3,b4,b5,ah im.ase,b6,b7,b8,b9,b10,ah im.aJ])=w7 at *;have x0:=aD jK.af 0 _ rfl;have x1:=aD jK.af 1 _ rfl;have x2:=aD jK.af 2 _ rfl;have x3:=aD jK.af 3 _ rfl;have x4:=aD jK.af 4 _ rfl;have x5:=aD jK.af 5 _ rfl;have x6:=aD jK.af 6 _ rfl;have x7:=aD jK.af 7 _ rfl;have x8:=aD jK.af 8 _ rfl;go_wp2_with fail;refine(HUd.af w7 Eg.af).mono ?_;clear x0 x1 x2 x3 x4 x5 x6 x7 x8;rintro e w8 ⟨⟨r0,r1,r2,r3,r4,r5,r6,r7,r8,r9,WB⟩,rfl,nH,hm8⟩;have agk:=FC hm8;have Hm8:=aj hm8;unfold aW at agk ⊢;have Ps:=nH.size;have qy:=aj ((nH.block w.heap.size wP).trans jK.af);have Pq:=aj (Eg.af.trans (nH.mono wP));have am8:=aj ((nH.block ab wP).trans ajW.af);have am9:=aj (ajX.af.asa (fun b hb=>nH.block b wP));have ana:=aj ((nH.block bb wP).trans ajU.af);have anb:=aj (ajV.af.asa (fun b hb=>nH.block b wP));clear nH hm8 jK Eg ajW ajX ajU ajV;go_upto_region 7 with (refine Bv rfl 44 (.tmp 8) (.tmp 38) rfl w8.heap.size (#[ax im.arT,ah im.ar4,r0,r1,r2,r3,r4,r5,ah im.ase,r6,r7,r8,r9,WB,ah im.aJ]) rfl rfl _ _ (ah2 w8 _) TA rfl agk ?_)
  have agl:=aj (TL (w8.alloc (aB arJ 44)) w8.heap.size _ (#[ax im.arT,ah im.ar4,r0,r1,r2,r3,r4,r5,ah im.ase,r6,r7,r8,r9,WB,ah im.aJ]) _ _ (ah2 w8 _));have hold:∀b,b<w8.heap.size->((w8.alloc (aB arJ 44)).setRow w8.heap.size (#[ax im.arT,ah im.ar4,r0,r1,r2,r3,r4,r5,ah im.ase,r6,r7,r8,r9,WB,ah im.aJ])).heap[b]? =w8.heap[b]? :=fun b hb=>(cu _ _ b _ wP).trans (dX w8 _ hb)
  have Kb:=aj ((hold w.heap.size wP).trans qy.af);have agm:=aj (Hm8.af.asa (fun b hb=>hold b hb));have Ka:=aj (below_setRow (Pq.af.alloc Pq.af.size (aB arJ 44)) w8.heap.size (#[ax im.arT,ah im.ar4,r0,r1,r2,r3,r4,r5,ah im.ase,r6,r7,r8,r9,WB,ah im.aJ]) Pq.af.size);have OQ:((w8.alloc (aB arJ 44)).setRow w8.heap.size (#[ax im.arT,ah im.ar4,r0,r1,r2,r3,r4,r5,ah im.ase,r6,r7,r8,r9,WB,ah im.aJ])).heap.size=w8.heap.size+1:=arG;have Xn:=aj ((hold ab wP).trans am8.af);have Xo:=aj (am9.af.asa (fun b hb=>hold b wP));have Xp:=aj ((hold bb wP).trans ana.af);have Xq:=aj (anb.af.asa (fun b hb=>hold b wP));clear agk Hm8 hold qy Pq am8 am9 ana anb;obtain ⟨rb,hrb⟩:=aiG w8.heap.size;rw[<-hrb]at agl Kb agm Ka OQ Xn Xo Xp Xq ⊢;have aqs:rb<=w8/\w8.heap.size<=rb:=wP;replace OQ:((w8.alloc (aB arJ 44)).setRow rb (#[ax im.arT,ah im.ar4,r0,r1,r2,r3,r4,r5,ah im.ase,r6,r7,r8,r9,WB,ah im.aJ])).heap.size<=rb+1/\rb+1<=((w8.alloc (aB arJ 44)).setRow rb (#[ax im.arT,ah im.ar4,r0,r1,r2,r3,r4,r5,ah im.ase,r6,r7,r8,r9,WB,ah im.aJ])).heap.size:=wP;clear hrb;generalize (w8.alloc (aB arJ 44)).setRow rb (#[ax im.arT,ah im.ar4,r0,r1,r2,r3,r4,r5,ah im.ase,r6,r7,r8,r9,WB,ah im.aJ])=w9 at *;have hee:(er != er)=false:=arG;by_cases hez:er=0
  case neg=>
   have hmb:(er != 0)=true:=by simp[hez]
   have him:=Yp.af hez;obtain⟨sa,sc,hsa⟩:=Xo.af.aI.form;obtain⟨ya,yc,hya⟩:=Xo.af.av.form;obtain⟨sb,sd,hsb⟩:=Xq.af.aI.form;obtain⟨yb,yd,hyb⟩:=Xq.af.av.form;rw[him]at hsa hya hsb hyb;replace hsa:a0=.slice sa 0 sc:=hsa;replace hya:a3=.slice ya 0 yc:=hya;replace hsb:b0=.slice sb 0 sd:=hsb;replace hyb:b3=.slice yb 0 yd:=hyb;subst hsa hya hsb hyb;have g0:w9.cell? (ak ab 2)=some (.slice sa 0 sc):=aL Xn.af rfl;have g1:w9.cell? (ak ab 5)=some (.slice ya 0 yc):=aL Xn.af rfl;have g2:w9.cell? (ak bb 2)=some (.slice sb 0 sd):=aL Xp.af rfl;have g3:w9.cell? (ak bb 5)=some (.slice yb 0 yd):=aL Xp.af rfl;clear qU HUd agl agm Xn Xp Xo Xq Kb Yp HMy him hez;go_wp2;go_ret;exact⟨rfl,Ka.af⟩
  have WW:=HMy.af hez;subst hez;obtain ⟨f1,hf1⟩:=aiG (PY im);have Nz:Hid (∀wr v,uK (·<wr.heap.size) wr v im->Calls asq 8 #[.agg (aW v im)] wr fun e w'=>∃r,e=.returned (.tuple #[r,.bool true])/\Below wr wr w'/\aX 5 fq wr.heap.size (fun _=>False) w' r f1):=aj (fun wr v hm=>by rw[hf1];exact ahD wr v im hm WW);have lZ:(f1==f1)=true:=arG;clear WW Yp HMy qU hf1;obtain⟨i0,i1,i2,i3,i4,i5,i6,i7,i8,i9,dV,i11,i12,dZ,eB⟩:=bY agl.af;have Ci:=aj (Nz.af w9 ⟨r0,r1,r2,r3,r4,r5,r6,r7,r8,r9,WB⟩ (agm.af.imp (fun b hb=>by have hb:b<rb:=hb;show b<w9;omega)));unfold aW at Ci;go_wp2_with fail;refine Ci.af.mono ?_;clear i0 i1 i2 i3 i4 i5 i6 i7 i8 i9 dV i11 i12 dZ eB;rintro e BF ⟨q1,rfl,Ak,ajY⟩;obtain⟨q1a,q1c,rfl⟩:=ajY.form;have akp:=aj ajY;have apF:=Ak.size;have xP:=aj ((Ak.block w.heap.size wP).trans Kb.af);have abx:=aj (Ka.af.trans (Ak.mono wP));have agn:=aj ((Ak.block ab wP).trans Xn.af);have agp:=aj (Xo.af.asa (fun b hb=>Ak.block b wP));have akq:=aj ((Ak.block bb wP).trans Xp.af);have akr:=aj (Xq.af.asa (fun b hb=>Ak.block b wP));clear Ak ajY Ci Kb Ka Xn Xo Xp Xq;clear agl agm;obtain⟨i0,i1,i2,i3,i4,i5,i6,i7,i8,i9,dV,i11,i12,dZ,eB⟩:=bY agn.af;have Ci:=aj (Nz.af BF ⟨a0,a1,a2,a3,a4,a5,a6,a7,a8,a9,zN⟩ (agp.af.img.imp (fun b hb=>by show b<BF;omega)));unfold aW at Ci;go_wp2_with fail;refine Ci.af.mono ?_;clear i0 i1 i2 i3 i4 i5 i6 i7 i8 i9 dV i11 i12 dZ eB;rintro e xY ⟨q2,rfl,Ew,ajZ⟩;obtain⟨q2a,q2c,rfl⟩:=ajZ.form;have aks:=aj ajZ;have ajJ:=Ew.size;have MZ:=aj ((Ew.block w.heap.size wP).trans xP.af);have PU:=aj (abx.af.trans (Ew.mono wP));have akt:=aj ((Ew.block ab wP).trans agn.af);have aku:=aj (agp.af.asa (fun b hb=>Ew.block b wP));have agq:=aj ((Ew.block bb wP).trans akq.af);have agr:=aj (akr.af.asa (fun b hb=>Ew.block b wP));have akv:=aj (akp.af.below Ew);clear Ew ajZ Ci xP abx agn agp akq akr akp;obtain⟨i0,i1,i2,i3,i4,i5,i6,i7,i8,i9,dV,i11,i12,dZ,eB⟩:=bY agq.af;have Ci:=aj (Nz.af xY ⟨b0,b1,b2,b3,b4,b5,b6,b7,b8,b9,b10⟩ (agr.af.img.imp (fun b hb=>by show b<xY;omega)));unfold aW at Ci;go_wp2_with fail;refine Ci.af.mono ?_;clear i0 i1 i2 i3 i4 i5 i6 i7 i8 i9 dV i11 i12 dZ eB;rintro e J6 ⟨q3,rfl,Jr,aj0⟩;obtain⟨q3a,q3c,rfl⟩:=aj0.form;have akw:=aj aj0;have amV:=Jr.size;have abE:=aj ((Jr.block w.heap.size wP).trans MZ.af);have abF:=aj (PU.af.trans (Jr.mono wP));have akx:=aj ((Jr.block ab wP).trans akt.af);have aky:=aj (aku.af.asa (fun b hb=>Jr.block b wP));have akz:=aj ((Jr.block bb wP).trans agq.af);have akA:=aj (agr.af.asa (fun b hb=>Jr.block b wP));have Zg:=aj (akv.af.below Jr);have akB:=aj (aks.af.below Jr);clear Jr aj0 Ci MZ PU akt aku agq agr akv aks;have s1:=FD Zg.af.lb;have s2:=FD akB.af.lb;have s3:=FD akw.af.lb;go_upto_region 16 with fail
  clear s1 s2 s3 akB akw;obtain⟨i0,i1,i2,i3,i4,i5,i6,i7,i8,i9,dV,i11,i12,dZ,eB⟩:=bY akx.af;have xV:=aj (ahC J6 ⟨a0,a1,a2,a3,a4,a5,a6,a7,a8,a9,zN⟩ im aky.af (fun b hb=>wP));unfold aW at xV;go_wp2_with fail;refine xV.af.mono ?_;clear i0 i1 i2 i3 i4 i5 i6 i7 i8 i9 dV i11 i12 dZ eB;rintro e w13 ⟨rfl,Sg⟩;have apZ:=Sg.size;have af9:=aj ((Sg.block w.heap.size ⟨wP,wP⟩).trans abE.af);have akC:=aj ((Sg.block bb ⟨wP,wP⟩).trans akz.af);have akD:=aj (akA.af.asa (fun b hb=>Sg.block b ⟨wP,wP⟩));have abG:=aj (abF.af.trans ((Sg.imp (S':=(·<w.heap.size)) (fun b hb=>by have hb:b<w:=hb;exact⟨wP,wP⟩)).below));have akE:=aj (Zg.af.dS jd (fun g hg=>Sg.block g (by have:=Zg.af.lt g hg;exact⟨wP,wP⟩)));clear Sg xV abE abF akx aky akz akA Zg;obtain⟨i0,i1,i2,i3,i4,i5,i6,i7,i8,i9,dV,i11,i12,dZ,eB⟩:=bY akC.af;have Ci:=aj (Nz.af w13 ⟨b0,b1,b2,b3,b4,b5,b6,b7,b8,b9,b10⟩ (akD.af.img.imp (fun b hb=>by show b<w13;omega)));unfold aW at Ci;go_wp2_with fail;refine Ci.af.mono ?_;clear i0 i1 i2 i3 i4 i5 i6 i7 i8 i9 dV i11 i12 dZ eB;rintro e w14 ⟨q3,rfl,abL,aj1⟩;obtain⟨q3a,q3c,rfl⟩:=aj1.form;have ags:=aj aj1;have arD:=abL.size;have Ch:=aj ((abL.block w.heap.size wP).trans af9.af);have abH:=aj (abG.af.trans (abL.mono wP));have agt:=aj (akE.af.below abL);clear abL aj1 Ci af9 abG akE;clear akC akD;have x0:=aD Ch.af 0 _ rfl;have x1:=aD Ch.af 1 _ rfl;have x2:=aD Ch.af 2 _ rfl;have x3:=aD Ch.af 3 _ rfl;have x4:=aD Ch.af 4 _ rfl;have x5:=aD Ch.af 5 _ rfl;have x6:=aD Ch.af 6 _ rfl;have x7:=aD Ch.af 7 _ rfl;have x8:=aD Ch.af 8 _ rfl;go_wp2_with fail;refine(HUd.af w14 abH.af).mono ?_;clear x0 x1 x2 x3 x4 x5 x6 x7 x8;rintro e nk ⟨⟨c0,c1,c2,c3,c4,c5,c6,c7,c8,c9,c10⟩,rfl,Xr,aj2⟩;have abM:=FC aj2;have anc:=aj aj2;unfold aW at abM ⊢;have amX:=Xr.size;have ane:=aj ((Xr.block w.heap.size wP).trans Ch.af);have agu:=aj (abH.af.trans (Xr.mono wP));have agv:=aj (agt.af.dS jd (fun g hg=>Xr.block g (by have:=agt.af.lt g hg;omega)));have agw:=aj (ags.af.dS jd (fun g hg=>Xr.block g (by have:=ags.af.lt g hg;omega)));clear Xr aj2 Ch abH agt ags;go_upto_region 19 with (refine Bv rfl 44 (.tmp 16) (.tmp 118) rfl nk.heap.size (#[ax im.arT,ah im.ar4,c0,c1,c2,c3,c4,c5,ah im.ase,c6,c7,c8,c9,c10,ah im.aJ]) rfl rfl _ _ (ah2 nk _) TA rfl abM ?_)
  have akF:=aj (TL (nk.alloc (aB arJ 44)) nk.heap.size _ (#[ax im.arT,ah im.ar4,c0,c1,c2,c3,c4,c5,ah im.ase,c6,c7,c8,c9,c10,ah im.aJ]) _ _ (ah2 nk _));have hold:∀b,b<nk.heap.size->((nk.alloc (aB arJ 44)).setRow nk.heap.size (#[ax im.arT,ah im.ar4,c0,c1,c2,c3,c4,c5,ah im.ase,c6,c7,c8,c9,c10,ah im.aJ])).heap[b]? =nk.heap[b]? :=fun b hb=>(cu _ _ b _ wP).trans (dX nk _ hb)
  have Sa:=aj ((hold w.heap.size wP).trans ane.af);have akG:=aj (anc.af.asa (fun b hb=>hold b hb));have Xl:=aj (below_setRow (agu.af.alloc agu.af.size (aB arJ 44)) nk.heap.size (#[ax im.arT,ah im.ar4,c0,c1,c2,c3,c4,c5,ah im.ase,c6,c7,c8,c9,c10,ah im.aJ]) agu.af.size);have agb:((nk.alloc (aB arJ 44)).setRow nk.heap.size (#[ax im.arT,ah im.ar4,c0,c1,c2,c3,c4,c5,ah im.ase,c6,c7,c8,c9,c10,ah im.aJ])).heap.size=nk.heap.size+1:=arG;have agx:=aj (agv.af.dS jd (fun g hg=>hold g (by have:=agv.af.lt g hg;omega)));have agy:=aj (agw.af.dS jd (fun g hg=>hold g (by have:=agw.af.lt g hg;omega)));clear abM anc hold ane agu agv agw;obtain ⟨cb,hcb⟩:=aiG nk.heap.size;rw[<-hcb]at akF Sa akG Xl agb agx agy ⊢;have aqt:cb<=nk/\nk.heap.size<=cb:=wP;replace agb:((nk.alloc (aB arJ 44)).setRow cb (#[ax im.arT,ah im.ar4,c0,c1,c2,c3,c4,c5,ah im.ase,c6,c7,c8,c9,c10,ah im.aJ])).heap.size<=cb+1/\cb+1<=((nk.alloc (aB arJ 44)).setRow cb (#[ax im.arT,ah im.ar4,c0,c1,c2,c3,c4,c5,ah im.ase,c6,c7,c8,c9,c10,ah im.aJ])).heap.size:=wP;clear hcb;generalize (nk.alloc (aB arJ 44)).setRow cb (#[ax im.arT,ah im.ar4,c0,c1,c2,c3,c4,c5,ah im.ase,c6,c7,c8,c9,c10,ah im.aJ])=w16 at *;obtain⟨i0,i1,i2,i3,i4,i5,i6,i7,i8,i9,dV,i11,i12,dZ,eB⟩:=bY akF.af;have Ci:=aj (Nz.af w16 ⟨c0,c1,c2,c3,c4,c5,c6,c7,c8,c9,c10⟩ (akG.af.imp (fun b hb=>by have hb:b<cb:=hb;show b<w16;omega)));unfold aW at Ci;go_wp2_with fail;refine Ci.af.mono ?_;clear i0 i1 i2 i3 i4 i5 i6 i7 i8 i9 dV i11 i12 dZ eB;rintro e Ed ⟨q4,rfl,Xt,aj3⟩;obtain⟨q4a,q4c,rfl⟩:=aj3.form;have anR:=aj aj3;have arE:=Xt.size;have arF:=aj ((Xt.block w.heap.size wP).trans Sa.af);have ap8:=aj (Xl.af.trans (Xt.mono wP));have anS:=aj (agx.af.below Xt);have anT:=aj (agy.af.below Xt);clear Xt aj3 Ci Sa Xl agx agy;have s1:=FD anS.af.lb;have s2:=FD anT.af.lb;have s3:=FD anR.af.lb;go_wp2;go_ret;exact⟨rfl,ap8.af⟩
end Go.Proofs.YtpjgjeadjjackaaGreat
