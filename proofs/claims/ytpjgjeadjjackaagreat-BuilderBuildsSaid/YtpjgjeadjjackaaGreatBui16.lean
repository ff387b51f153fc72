/- Lemmas. -/
import Derived.Test.YtpjgjeadjjackaaGreatBui13
import Derived.Test.YtpjgjeadjjackaaGreatBui14
import Derived.Test.YtpjgjeadjjackaaGreatBui5
import Derived.Test.YtpjgjeadjjackaaGreatBui12
import Derived.Test.YtpjgjeadjjackaaGreatBui10
import Derived.Test.YtpjgjeadjjackaaGreatBui15
import Derived.Test.YtpjgjeadjjackaaGreatBui6
set_option linter.unusedVariables false
set_option linter.unusedSimpArgs false
set_option maxHeartbeats 64000000
set_option maxRecDepth 100000
namespace Go.Proofs.YtpjgjeadjjackaaGreat
open Go.RowKit
open Go.Proofs.Tryz renaming prog->asq
open Go renaming wpQuiet_nil->lD,heap_alloc_new->ah2,heap_alloc_old->dX
open Go.RowKit.Below renaming refl->PZ
open Go.World renaming block_lt_of_cell?->fD
open _root_.List renaming getElem?_eq_getElem->gP,mem_of_getElem?->dH,drop_eq_nil_of_le->zY
open _root_.Nat renaming add_sub_cancel->GI,le_refl->oD,zero_le->alg
theorem Fp (ls:List dw) (p:aA):(ls.foldl (fun p l=>p.line l) p).av=p.av/\(ls.foldl (fun p l=>p.line l) p).cells=p.cells/\(ls.foldl (fun p l=>p.line l) p).ar7=p.ar7:=by
 induction ls generalizing p with
 | nil=>exact⟨rfl,rfl,rfl⟩
 | cons l ls ih=>
  rw[List.foldl_cons];obtain⟨h1,h2,h3⟩:=ih (p.line l);exact⟨h1.trans (oq),h2.trans NP,h3.trans NQ⟩
def Fq (s:aM):Prop:=512<s.ar2.length∨512<s.vars.length
def abg (w:World) (sv:bN) (s:aM) (e:Ending) (w':World):Prop:=
 ∃(pb:Nat) (code:Int),e=.returned (.tuple #[aQ pb,ah code])/\Below w w w'/\((Fq s/\code=104)∨(¬Fq s/\code=(aC s).asj/\∃v',gM w.heap.size pb w' sv s v' (aC s)))
theorem YW (w:World) (sv:bN) (s:aM) (hS:gB (·<w.heap.size) w sv s) (bT:pu s):
  Calls asq 21 #[.agg (kL sv s).toArray] w (abg w sv s):=by
 obtain⟨a2,n2,hv2⟩:=hS.ar6.form;obtain⟨a3,n3,hv3⟩:=hS.aF.form;obtain⟨a4,n4,hv4⟩:=hS.ar2.form;obtain⟨a5,n5,hv5⟩:=hS.vars.form;obtain⟨a6,n6,hv6⟩:=hS.ar1.form;obtain⟨a7,n7,hv7⟩:=hS.asb.form;obtain⟨a8,n8,FY⟩:=hS.aP.form;obtain⟨s2,s3,s4,s5,s6,s7,s8⟩:=sv;simp only at hv2 hv3 hv4 hv5 hv6 hv7 FY;subst hv2 hv3 hv4 hv5 hv6 hv7 FY;show Calls asq 21 #[.agg #[ax s.arT,ah s.ar4,.slice a2 s.ar6.length n2,.slice a3 s.aF.length n3,.slice a4 s.ar2.length n4,.slice a5 s.vars.length n5,.slice a6 s.ar1.length n6,.slice a7 s.asb.length n7,.slice a8 s.aP.length n8]] w (abg w ⟨.slice a2 s.ar6.length n2,.slice a3 s.aF.length n3,.slice a4 s.ar2.length n4,.slice a5 s.vars.length n5,.slice a6 s.ar1.length n6,.slice a7 s.asb.length n7,.slice a8 s.aP.length n8⟩ s);have xV:Hid (kL ⟨.slice a2 s.ar6.length n2,.slice a3 s.aF.length n3,.slice a4 s.ar2.length n4,.slice a5 s.vars.length n5,.slice a6 s.ar1.length n6,.slice a7 s.asb.length n7,.slice a8 s.aP.length n8⟩ s=[ax s.arT,ah s.ar4,.slice a2 s.ar6.length n2,.slice a3 s.aF.length n3,.slice a4 s.ar2.length n4,.slice a5 s.vars.length n5,.slice a6 s.ar1.length n6,.slice a7 s.asb.length n7,.slice a8 s.aP.length n8]):=aj rfl;obtain ⟨sv,hsv⟩:=aiG (bN.mk (.slice a2 s.ar6.length n2) (.slice a3 s.aF.length n3) (.slice a4 s.ar2.length n4) (.slice a5 s.vars.length n5) (.slice a6 s.ar1.length n6) (.slice a7 s.asb.length n7) (.slice a8 s.aP.length n8));rw[<-hsv]at xV hS ⊢
 have iU:Hid (gM w.heap.size (w.heap.size+1) ((w.alloc (aB #[ax s.arT,ah s.ar4,.slice a2 s.ar6.length n2,.slice a3 s.aF.length n3,.slice a4 s.ar2.length n4,.slice a5 s.vars.length n5,.slice a6 s.ar1.length n6,.slice a7 s.asb.length n7,.slice a8 s.aP.length n8] 28)).alloc (aB #[ax s.arT,ah s.ar4,.slice a2 s.ar6.length n2,.slice a3 s.aF.length n3,.slice a4 s.ar2.length n4,.slice a5 s.vars.length n5,.slice a6 s.ar1.length n6,.slice a7 s.asb.length n7,.slice a8 s.aP.length n8,au,au,au] 103)) sv s ⟨au,au,au⟩ ⟨[],[],[],0⟩):=aj (by
  have hb:Below w w ((w.alloc (aB #[ax s.arT,ah s.ar4,.slice a2 s.ar6.length n2,.slice a3 s.aF.length n3,.slice a4 s.ar2.length n4,.slice a5 s.vars.length n5,.slice a6 s.ar1.length n6,.slice a7 s.asb.length n7,.slice a8 s.aP.length n8] 28)).alloc (aB #[ax s.arT,ah s.ar4,.slice a2 s.ar6.length n2,.slice a3 s.aF.length n3,.slice a4 s.ar2.length n4,.slice a5 s.vars.length n5,.slice a6 s.ar1.length n6,.slice a7 s.asb.length n7,.slice a8 s.aP.length n8,au,au,au] 103)):=((PZ _ w).alloc (oD _) _).alloc arG _;refine⟨?_,wP,aX.nil _ _ _ _ _,aX.nil _ _ _ _ _,aX.nil _ _ _ _ _,(fun c hc=>by cases hc),hS.asa (.of_below hb)⟩;have h:=ah2 (w.alloc (aB #[ax s.arT,ah s.ar4,.slice a2 s.ar6.length n2,.slice a3 s.aF.length n3,.slice a4 s.ar2.length n4,.slice a5 s.vars.length n5,.slice a6 s.ar1.length n6,.slice a7 s.asb.length n7,.slice a8 s.aP.length n8] 28)) (aB #[ax s.arT,ah s.ar4,.slice a2 s.ar6.length n2,.slice a3 s.aF.length n3,.slice a4 s.ar2.length n4,.slice a5 s.vars.length n5,.slice a6 s.ar1.length n6,.slice a7 s.asb.length n7,.slice a8 s.aP.length n8,au,au,au] 103);rw[World.size_alloc]at h;rw[h];unfold wG;rw[xV.af];rfl)
 have HB1:Hid (Below w w ((w.alloc (aB #[ax s.arT,ah s.ar4,.slice a2 s.ar6.length n2,.slice a3 s.aF.length n3,.slice a4 s.ar2.length n4,.slice a5 s.vars.length n5,.slice a6 s.ar1.length n6,.slice a7 s.asb.length n7,.slice a8 s.aP.length n8] 28)).alloc (aB #[ax s.arT,ah s.ar4,.slice a2 s.ar6.length n2,.slice a3 s.aF.length n3,.slice a4 s.ar2.length n4,.slice a5 s.vars.length n5,.slice a6 s.ar1.length n6,.slice a7 s.asb.length n7,.slice a8 s.aP.length n8,au,au,au] 103))):=aj (((PZ _ w).alloc (oD _) _).alloc arG _);have eT:=aj (ah2 w (aB #[ax s.arT,ah s.ar4,.slice a2 s.ar6.length n2,.slice a3 s.aF.length n3,.slice a4 s.ar2.length n4,.slice a5 s.vars.length n5,.slice a6 s.ar1.length n6,.slice a7 s.asb.length n7,.slice a8 s.aP.length n8] 28));have gI:Hid (((w.alloc (aB #[ax s.arT,ah s.ar4,.slice a2 s.ar6.length n2,.slice a3 s.aF.length n3,.slice a4 s.ar2.length n4,.slice a5 s.vars.length n5,.slice a6 s.ar1.length n6,.slice a7 s.asb.length n7,.slice a8 s.aP.length n8] 28)).alloc (aB #[ax s.arT,ah s.ar4,.slice a2 s.ar6.length n2,.slice a3 s.aF.length n3,.slice a4 s.ar2.length n4,.slice a5 s.vars.length n5,.slice a6 s.ar1.length n6,.slice a7 s.asb.length n7,.slice a8 s.aP.length n8,au,au,au] 103)).heap[w.heap.size]? =some (aB #[ax s.arT,ah s.ar4,.slice a2 s.ar6.length n2,.slice a3 s.aF.length n3,.slice a4 s.ar2.length n4,.slice a5 s.vars.length n5,.slice a6 s.ar1.length n6,.slice a7 s.asb.length n7,.slice a8 s.aP.length n8] 28)):=aj ((dX _ _ arG).trans eT.af);have Hz:Hid (((w.alloc (aB #[ax s.arT,ah s.ar4,.slice a2 s.ar6.length n2,.slice a3 s.aF.length n3,.slice a4 s.ar2.length n4,.slice a5 s.vars.length n5,.slice a6 s.ar1.length n6,.slice a7 s.asb.length n7,.slice a8 s.aP.length n8] 28))).heap.size=w.heap.size+1):=aj arG;clear hS xV hsv;obtain ⟨fn,hfn⟩:=aiG s.ar2.length;obtain ⟨vn,Dz⟩:=aiG s.vars.length;have afG:Hid (Fq s↔(512<fn∨512<vn)):=aj (by rw[hfn,Dz];exact Iff.rfl);have Aj:=aj bT;have Dx:=aj hfn;have Cq:=aj Dz;have ari:fn<=2000:=by rw[hfn];exact bT.ar2
 have arj:vn<=2000:=by rw[Dz];exact bT.vars
 rw[<-hfn,<-Dz]at iU HB1 eT gI Hz ⊢;clear hfn Dz bT;go_enter Tryz.func21,Tryz.ntmps21;go_upto_region 1 with fail
 generalize w.alloc (aB #[ax s.arT,ah s.ar4,.slice a2 s.ar6.length n2,.slice a3 s.aF.length n3,.slice a4 fn n4,.slice a5 vn n5,.slice a6 s.ar1.length n6,.slice a7 s.asb.length n7,.slice a8 s.aP.length n8] 28)=w1 at *;have c0:w1.cell? (ak w 0)=some (ax s.arT):=aL eT.af rfl;have c1:w1.cell? (ak w 1)=some (ah s.ar4):=aL eT.af rfl;have c2:w1.cell? (ak w 2)=some (.slice a2 s.ar6.length n2):=aL eT.af rfl;have c3:w1.cell? (ak w 3)=some (.slice a3 s.aF.length n3):=aL eT.af rfl;have c4:w1.cell? (ak w 4)=some (.slice a4 fn n4):=aL eT.af rfl;have c5:w1.cell? (ak w 5)=some (.slice a5 vn n5):=aL eT.af rfl;have c6:w1.cell? (ak w 6)=some (.slice a6 s.ar1.length n6):=aL eT.af rfl;have c7:w1.cell? (ak w 7)=some (.slice a7 s.asb.length n7):=aL eT.af rfl;have c8:w1.cell? (ak w 8)=some (.slice a8 s.aP.length n8):=aL eT.af rfl;go_upto_region 2 with fail
 clear c0 c1 c2 c3 c4 c5 c6 c7 c8 eT;generalize hw2:w1.alloc (aB #[ax s.arT,ah s.ar4,.slice a2 s.ar6.length n2,.slice a3 s.aF.length n3,.slice a4 fn n4,.slice a5 vn n5,.slice a6 s.ar1.length n6,.slice a7 s.asb.length n7,.slice a8 s.aP.length n8,au,au,au] 103)=w2 at *;rw[Hz.af];clear hw2;have hB2:w.heap.size<=w2:=HB1.af.size;have c1:w2.cell? (ak w 1)=some (ah s.ar4):=aL gI.af rfl;have c4:w2.cell? (ak w 4)=some (.slice a4 fn n4):=aL gI.af rfl;have c5:w2.cell? (ak w 5)=some (.slice a5 vn n5):=aL gI.af rfl;by_cases hm1:512<fn
 ·have amt:(512:Int)<(fn:Int):=wP
  have hM:=afG.af.2 (Or.inl hm1);go_wp2;go_ret2;exact⟨_,104,rfl,HB1.af,Or.inl ⟨hM,rfl⟩⟩
 by_cases hm2:512<vn
 ·have amt:(fn:Int)<=512:=wP
  have apq:(512:Int)<(vn:Int):=wP;have hM:=afG.af.2 (Or.inr hm2);go_wp2;go_ret2;exact⟨_,104,rfl,HB1.af,Or.inl ⟨hM,rfl⟩⟩
 have amt:(fn:Int)<=512:=wP;have apq:(vn:Int)<=512:=wP;have Yp:Hid (¬Fq s):=aj (fun h=>by rcases afG.af.1 h with h | h<;>omega);go_upto_region 4 with fail
 clear c4 c5;obtain ⟨cd,hcd⟩:=aiG (if (decide (s.ar4<0)||decide (15<s.ar4))=true then 100 else 0:Int);have HW0:=aj (fun w=>lQ w (decide (s.ar4<0)||decide (15<s.ar4)) 100);rw[<-hcd]at HW0;have HT0:Hid (fF (⟨[],[],[],0⟩:aA) ((⟨[],[],[],0⟩:aA).dm (decide (s.ar4<0)||decide (15<s.ar4)) 100) cd):=aj (by rw[hcd];exact BM _ _ _);clear hcd;obtain ⟨p1,hp1⟩:=aiG ((⟨[],[],[],0⟩:aA).dm (decide (s.ar4<0)||decide (15<s.ar4)) 100);rw[<-hp1]at HT0;have hz1:p1.sz=0:=by rw[hp1,yG];rfl
 have jW:Hid (gM w.heap.size (w.heap.size+1) w2 sv s ⟨au,au,au⟩ p1):=aj (iU.af.same (by rw[hp1];simp) (by rw[hp1];simp) (by rw[hp1];simp));have HP1:=aj hp1;clear hp1 iU;go_cut [5] (fun e wx=>e=ah cd/\wx=w2)
 case first=>
  clear jW HT0;by_cases h1:s.ar4<0
  ·have hd:(decide (s.ar4<0)||decide (15<s.ar4))=true:=by simp[h1]
   have iR:Hid (∀w,Calls asq 25 #[.bool true,ah 100] w fun e w'=>e=.returned (ah cd)/\w'=w):=aj (by have h:=HW0.af;rw[hd]at h;exact h);clear HW0;go_wp2_with fail;refine(iR.af _).mono ?_;rintro r w9 ⟨rfl,rfl⟩;go_wp2;go_meet;exact⟨rfl,rfl⟩
  ·by_cases h2:15<s.ar4
   ·have hd:(decide (s.ar4<0)||decide (15<s.ar4))=true:=by simp[h2]
    have iR:Hid (∀w,Calls asq 25 #[.bool true,ah 100] w fun e w'=>e=.returned (ah cd)/\w'=w):=aj (by have h:=HW0.af;rw[hd]at h;exact h);clear HW0;go_wp2_with fail;refine(iR.af _).mono ?_;rintro r w9 ⟨rfl,rfl⟩;go_wp2;go_meet;exact⟨rfl,rfl⟩
   ·have hd:(decide (s.ar4<0)||decide (15<s.ar4))=false:=by simp[h1,h2]
    have iR:Hid (∀w,Calls asq 25 #[.bool false,ah 100] w fun e w'=>e=.returned (ah cd)/\w'=w):=aj (by have h:=HW0.af;rw[hd]at h;exact h);clear HW0;go_wp2_with fail;refine(iR.af _).mono ?_;rintro r w9 ⟨rfl,rfl⟩;go_wp2;go_meet;exact⟨rfl,rfl⟩
 case rest=>
 obtain⟨rfl,rfl⟩:=hcut;rename World=>w2
 clear HW0 c1;go_wp2_with fail;refine(WU jW.af hB2 (by rw[<-Dx.af];omega)).mono ?_;rintro r w3 ⟨anD,rfl,ht2,hr2⟩;obtain ⟨p2,hp2⟩:=aiG (s.ar2.foldl (fun p f=>p.func f) p1);rw[<-hp2]at ht2 hr2
 have hz2:p2.sz<=512:=by
  have h:=gm (F:=fun(p:aA) (f:eH)=>p.func f) (c:=1) JM s.ar2 p1;rw[<-hp2,<-Dx.af]at h;omega
 have zD:=aj (HB1.af.trans (hr2.low jW.af hB2));obtain⟨v2,hM2,-,-⟩:=hr2.ex;have uY:=aj (hM2);have HT1:=aj (HT0.af.trans ht2);have TD:=aj hp2;have hB3:w.heap.size<=w3:=zD.af.size;clear hM2 hr2 ht2 hp2 jW HT0 hB2 HB1;have HB1:=zD;clear zD;go_wp2_with fail;refine(dR _ _ _).mono ?_;rintro r w9 ⟨rfl,h9⟩;obtain rfl:w3=w9:=h9.symm;go_wp2_with fail;refine(WV uY.af hB3 (by rw[<-Cq.af];omega)).mono ?_;rintro r w4 ⟨anE,rfl,ht3,hr3⟩;obtain ⟨p3,hp3⟩:=aiG (s.vars.foldl (fun p v=>p.var s.ar4 v) p2);rw[<-hp3]at ht3 hr3
 have hz3:p3.sz<=1024:=by
  have h:=gm (F:=fun(p:aA) (v:dx)=>p.var s.ar4 v) (c:=1) (fun p v=>Ot p s.ar4 v) s.vars p2;rw[<-hp3,<-Cq.af]at h;omega
 have EE:=aj (HB1.af.trans (hr3.low uY.af hB3));obtain⟨v3,pV,-,-⟩:=hr3.ex;have sS:=aj (pV);have HT2:=aj (HT1.af.trans ht3);have HP3:=aj hp3;have hB4:w.heap.size<=w4:=EE.af.size;clear pV hr3 ht3 hp3 uY HT1 hB3 HB1;have HB1:=EE;clear EE;go_wp2_with fail;refine(dR _ _ _).mono ?_;rintro r w9 ⟨rfl,h9⟩;obtain rfl:w4=w9:=h9.symm;go_wp2_with fail;refine(aea sS.af hB4).mono ?_;rintro r w5 ⟨anF,rfl,ht4,hr4⟩;obtain ⟨p4,hp4⟩:=aiG (s.ar5.foldl (fun p l=>p.line l) p3);rw[<-hp4]at ht4
 have Co:p4.sz<=1024:=by
  obtain⟨h1,h2,h3⟩:=Fp s.ar5 p3;rw[<-hp4]at h1 h2 h3;unfold aA.sz at hz3 ⊢;rw[h1,h2,h3];exact hz3
 have vK:=aj (HB1.af.trans (hr4.low sS.af hB4));obtain⟨v4,Ic,-,-⟩:=hr4.ex;have qo:=aj (Ic.same (q:=p4) (by rw[hp4,(Fp s.ar5 p3).1]) (by rw[hp4,(Fp s.ar5 p3).2.1]) (by rw[hp4,(Fp s.ar5 p3).2.2]));have HT3:=aj (HT2.af.trans ht4);have HP4:=aj hp4;have hB5:w.heap.size<=w5:=vK.af.size;clear Ic hr4 ht4 hp4 sS HT2 hB4 HB1;have HB1:=vK;clear vK;go_wp2_with fail;refine(dR _ _ _).mono ?_;rintro r w9 ⟨rfl,h9⟩;obtain rfl:w5=w9:=h9.symm;go_wp2_with fail;refine(Yq false qo.af hB5 (by have:=Aj.af.ar5;omega)).mono ?_;rintro r w6 ⟨anG,rfl,ht5,Yz⟩;obtain ⟨p5,Ca⟩:=aiG (s.ar5.foldl (fun p l=>p.kg s.ar1 false l) p4);rw[<-Ca]at ht5 Yz
 have uX:p5.sz<=8000:=by
  have h:=gm (F:=fun(p:aA) (l:dw)=>p.kg s.ar1 false l) (c:=3) (fun p l=>KX _ _ p l) s.ar5 p4;have:=Aj.af.ar5;rw[<-Ca]at h;omega
 have zF:=aj (HB1.af.trans (Yz.low qo.af hB5));obtain⟨v5,rX,-,-⟩:=Yz.ex;have JO:=aj (rX);have HT4:=aj (HT3.af.trans ht5);have J3:=aj Ca;have hB6:w.heap.size<=w6:=zF.af.size;clear rX Yz ht5 Ca qo HT3 hB5 HB1;have HB1:=zF;clear zF;go_wp2_with fail;refine(dR _ _ _).mono ?_;rintro r w9 ⟨rfl,h9⟩;obtain rfl:w6=w9:=h9.symm;go_wp2_with fail;refine(Yq true JO.af hB6 (by have:=Aj.af.ar5;omega)).mono ?_;rintro r w7 ⟨anH,rfl,ht6,QT⟩;obtain ⟨p6,Yt⟩:=aiG (s.ar5.foldl (fun p l=>p.kg s.ar1 true l) p5);rw[<-Yt]at ht6 QT
 have JN:p6.sz<=16000:=by
  have h:=gm (F:=fun(p:aA) (l:dw)=>p.kg s.ar1 true l) (c:=3) (fun p l=>KX _ _ p l) s.ar5 p5;have:=Aj.af.ar5;rw[<-Yt]at h;omega
 have Ii:=aj (HB1.af.trans (QT.low JO.af hB6));obtain⟨v6,yH,-,-⟩:=QT.ex;have EG:=aj (yH);have AR:=aj (HT4.af.trans ht6);have Yu:=aj Yt;have hB7:w.heap.size<=w7:=Ii.af.size;clear yH QT ht6 Yt JO HT4 hB6 HB1;have HB1:=Ii;clear Ii;go_wp2_with fail;refine(dR _ _ _).mono ?_;rintro r w9 ⟨rfl,h9⟩;obtain rfl:w7=w9:=h9.symm;go_wp2_with fail;refine(ahz EG.af hB7 (by have:=Aj.af.ash;omega)).mono ?_;rintro r w8 ⟨anI,rfl,ht7,hr7⟩;obtain ⟨p7,hp7⟩:=aiG (s.vars.foldl (fun p v=>p.ash s.ar1 v) p6);rw[<-hp7]at ht7 hr7;have Q5:=aj (HB1.af.trans (hr7.low EG.af hB7));obtain⟨v7,Nr,-,-⟩:=hr7.ex;have HM8:=aj (Nr);have HT6:=aj (AR.af.trans ht7);have HP7:=aj hp7;have Kc:w.heap.size<=w8:=Q5.af.size;clear Nr hr7 ht7 hp7 EG AR hB7 HB1;have HB1:=Q5;clear Q5;go_wp2_with fail;refine(dR _ _ _).mono ?_;rintro r w9 ⟨rfl,h9⟩;obtain rfl:w8=w9:=h9.symm;have HC:Hid (aC s=p7):=aj (by rw[HP7.af,Yu.af,J3.af,HP4.af,HP3.af,TD.af,HP1.af];rfl);have HE:Hid (gu (gu (gu (gu (gu (gu cd anD) anE) anF) anG) anH) anI=(aC s).asj):=aj (by rw[HC.af];exact HT6.af.zero rfl);go_wp2;go_ret2;exact⟨_,_,rfl,HB1.af,Or.inr ⟨Yp.af,HE.af,v7,by rw[HC.af];exact HM8.af⟩⟩
theorem ace (w:World) (v:jv) (im:bK) (hs:LB rQ (·<w.heap.size) w v.aI im.aI) (hg:jL im.aI=true) (hy:LB gq (·<w.heap.size) w v.av im.av) (hfl:0<=im.ar4/\im.ar4<16)
  (hr:LB mi (·<w.heap.size) w v.aO im.aO) (hrr:∀r∈im.aO,uR r) (hsz:∀s∈im.av,0<=s.size/\s.size<=9223372036854775807) (hsl:im.av.length<=512):
  Calls asq 88 #[.agg (aW v im)] w fun e w'=>e=.returned (.bool (jk im))/\Below w w w':=by
 obtain⟨ra,rb,roff,nO,kD,hrm,hrc,j3⟩:=hr.at;obtain⟨eO,cK,bR,gF,bS,dK,d9,ek,fM,fO,iH⟩:=v;simp only at kD;subst kD
 have HR:Hid (∀(w':World) (r:iE),Below w w w'->uR r->
  Calls asq 140 #[.agg (aW ⟨eO,cK,bR,gF,bS,dK,.slice ra im.aO.length nO,ek,fM,fO,iH⟩ im),.agg #[ah r.at_,ah r.ar3,ah r.sym,ah r.add]] w' fun e w''=>e=.returned (.bool (kz im r))/\Below w' w' w''):=aj (fun w' r hb hx=>ahn w' _ im r ((hs.below hb).mono hb.size) (yB hg) ((hy.below hb).mono hb.size) hfl hx.1 hx.2.1 hx.2.2 hsz)
 have HW:Hid (∀(w':World) (r:iE),Below w w w'->
  Calls asq 141 #[.agg (aW ⟨eO,cK,bR,gF,bS,dK,.slice ra im.aO.length nO,ek,fM,fO,iH⟩ im),.agg #[ah r.at_,ah r.ar3,ah r.sym,ah r.add]] w' fun e w''=>e=.returned (ah (eU im r))/\Below w' w' w''):=aj (fun w' r hb=>NZ w' _ im r ((hy.below hb).mono hb.size))
 unfold aW at *;have qh:=aj j3;have Hrr:=aj hrr;have lX:=aj hsz;have HD:Hid (jk im=(decide (im.aO.length<=512)&&iA im 0 im.aO)):=aj rfl;have Hg:=aj hg;clear hs hg hy hfl hr hrr hsz j3;generalize hI:(Array.mk [ax im.arT,ah im.ar4,eO,cK,bR,gF,bS,dK,ah im.ase,.slice ra im.aO.length nO,ek,fM,fO,iH,ah im.aJ]:Array Value)=I at HR HW;have F0:=aj (ah2 w (.cells I 44 (0,0)));have B1:=aj ((PZ w.heap.size w).alloc (oD _) (.cells I 44 (0,0)));subst hI;by_cases h5:im.aO.length<=512
 case neg=>
  have Hn:Hid (jk im=false):=aj (by rw[HD.af,decide_eq_false (p:=im.aO.length<=512) h5];rfl);have h6:512<im.aO.length:=wP;go_enter Tryz.func88,Tryz.ntmps88;go_wp2;go_ret;exact⟨by rw[Hn.af];rfl,B1.af⟩
 have h6:¬512<im.aO.length:=wP;have HD2:Hid (jk im=iA im 0 im.aO):=aj (by rw[HD.af,decide_eq_true (p:=im.aO.length<=512) h5];rfl);clear HD;go_enter Tryz.func88,Tryz.ntmps88;go_wp2_with fail
 go_loopw [3] (fun i wr=>∃(k:Nat) (x:Int),i=ah k/\0<=x/\x<=65536/\k<=im.aO.length/\iA im 0 im.aO=iA im x (im.aO.drop k)/\(k=0->x=0)/\(∀p,0<k->im.aO[k-1]? =some p->x=p.at_+eU im p/\0<=p.at_/\0<=eU im p)/\Below w w wr/\
  wr.heap[w.heap.size]? =some (aB #[ax im.arT,ah im.ar4,eO,cK,bR,gF,bS,dK,ah im.ase,.slice ra im.aO.length nO,ek,fM,fO,iH,ah im.aJ] 44)/\w.heap.size<wr) (fun i _=>im.aO.length-(intOf i).toNat)
 exact⟨0,0,rfl,abD,abD,alg _,arG,fun _=>rfl,fun p h=>absurd h (Nat.lt_irrefl 0),B1.af,F0.af,arG⟩;obtain⟨k,x,rfl,hx0,hx1,hk,hse,hk0,hkp,hbel,hF,tO⟩:=hrel;have o9:=aj hse;have Hk0:=aj hk0;have Hkp:=aj hkp;have di:=aj hbel;have HF:=aj hF;have hBr:=hbel.size;clear hse hk0 hkp;obtain⟨i0,i1,i2,i3,i4,i5,i6,i7,i8,i9,dV,i11,i12,dZ,eB⟩:=bY hF;by_cases hlt:k<im.aO.length
 ·obtain rfl:=qh.af.addr wP
  obtain⟨r,hx⟩:∃r,im.aO[k]? =some r:=⟨_,gP hlt⟩;obtain⟨g0,g1,g2,g3⟩:=(qh.af.below hbel).NH k r hx;have hro:=Hrr.af r (dH hx);have an0:=hro.2.1;have H9:=aj hro;have Hx:=aj hx;have mM:=aj (drop_cons im.aO k r hx)
  have yC:Hid (0<=eU im r):=aj (by
   unfold eU
   split
   ·rename_i s hs
    have:=(lX.af s (qa hs).2.2).1
    split<;>omega
   ·omega)
  have l0:=fun x:Later wr=>x.cell i0
  have l1:=fun x:Later wr=>x.cell i1
  have l2:=fun x:Later wr=>x.cell i2
  have l3:=fun x:Later wr=>x.cell i3
  have l4:=fun x:Later wr=>x.cell i4
  have l5:=fun x:Later wr=>x.cell i5
  have l6:=fun x:Later wr=>x.cell i6
  have l7:=fun x:Later wr=>x.cell i7
  have l8:=fun x:Later wr=>x.cell i8
  have l9:=fun x:Later wr=>x.cell i9
  have l10:=fun x:Later wr=>x.cell dV
  have qj:=fun x:Later wr=>x.cell i11
  have Ez:=fun x:Later wr=>x.cell i12
  have EA:=fun x:Later wr=>x.cell dZ
  have EB:=fun x:Later wr=>x.cell eB
  have m0:=fun x:Later wr=>x.cell g0
  have m1:=fun x:Later wr=>x.cell g1
  have m2:=fun x:Later wr=>x.cell g2
  have m3:=fun x:Later wr=>x.cell g3
  have jC:=aj (fun w' hb=>HR.af w' r hb hro);clear hx hbel hF hro g0 g1 g2 g3;go_wp2_with fail;clear i0 i1 i2 i3 i4 i5 i6 i7 i8 i9 dV i11 i12 dZ eB;refine dG TA TA ?_
  repeat (go_big_quiet_step (first | (go_at_call 140;refine Later.call _ (jC.af _ ?_);exact di.af.trans ((Later.h _).mono wP))))
  refine lD ?_;rintro wq ⟨⟨_,hq⟩,rfl⟩;try simp only at hq
  obtain ⟨w2,hw2⟩:=aiG (wq:World);subst hw2;have hz2:=hq.size;have B2:=aj (di.af.trans (hq.mono wP));have F2:=aj ((hq.block w.heap.size wP).trans HF.af);clear hq l0 l1 l2 l3 l4 l5 l6 l7 l8 l9 l10 qj Ez EA EB m0 m1 m2 m3 jC
  cases hrb:kz im r with
  | false=>
   have Hn:Hid (jk im=false):=aj (by rw[HD2.af,o9.af,mM.af,Cy hrb]);clear hrb;go_wp2;go_ret;exact⟨by rw[Hn.af];rfl,B2.af⟩
  | true=>
  have hrg:=Bi Hg.af hsl hrb;have ha0:=hrg.1.1;have ha1:=hrg.1.2;have apr:=yC.af;have sZ:Hid (x<=r.at_->iA im 0 im.aO=iA im (r.at_+eU im r) (im.aO.drop (k+1))):=aj (fun h=>by rw[o9.af,mM.af,M8 h hrb]);have Hno:Hid (¬x<=r.at_->jk im=false):=aj (fun h=>by rw[HD2.af,o9.af,mM.af,JG h])
  have sP:Hid (∀p,0<k+1->im.aO[k+1-1]? =some p->r.at_+eU im r=p.at_+eU im p/\0<=p.at_/\0<=eU im p):=aj (fun p _ hp=>by
   rw[GI,Hx.af]at hp;obtain rfl:=Option.some.inj hp;exact⟨rfl,ha0,yC.af⟩)
  have HX:Hid (0<=r.at_+eU im r/\r.at_+eU im r<=65536):=aj wP;clear hrg hrb ha1 apr;obtain⟨i0,i1,i2,i3,i4,i5,i6,i7,i8,i9,dV,i11,i12,dZ,eB⟩:=bY F2.af;obtain⟨g0,g1,g2,g3⟩:=(qh.af.below B2.af).NH k r Hx.af;by_cases hk1:k=0
  ·subst hk1
   have he:=Hk0.af rfl;subst he;have Hy:=aj (sZ.af ha0);clear sZ Hno;clear i0 i1 i2 i3 i4 i5 i6 i7 i8 i9 dV i11 i12 dZ eB g0 g1 g2 g3;go_wp2_with fail;refine dG TA TA ?_
   repeat (go_big_quiet_step (fail))
   refine lD ?_;rintro _ ⟨⟨wq,hq⟩,rfl⟩;try simp only at hq
   have Hq:=aj hq;clear hq;go_wp2;go_roundw
   case rel=>
    have hq:=Hq.af;have:=hq.size;exact⟨1,_,arH,HX.af.1,HX.af.2,wP,Hy.af,fun h=>wP,sP.af,B2.af.trans (hq.mono wP),(hq.block w.heap.size wP).trans F2.af,wP⟩
   simp[intOf];omega
  ·obtain⟨p,hp⟩:∃p,im.aO[k-1]? =some p:=⟨_,gP wP⟩
   obtain⟨hpe,p0,p1⟩:=Hkp.af p wP hp;obtain⟨q0,q1,q2,q3⟩:=(qh.af.below B2.af).NH (k-1) p hp;have hk2:0<k:=wP;obtain⟨kk,rfl⟩:∃kk,k=kk+1:=⟨k-1,wP⟩;simp only[GI]at q0 q1 q2 q3;have hsbz:rb<w2:=fD _ _ q0;have amq:(0:Int)<=kk:=wP;have amr:(kk:Int)<im.aO.length:=wP;have ams:kk<im.aO.length:=wP;have HWp:=aj (fun w' hb=>HW.af w' p hb);obtain⟨wd,hwd⟩:∃wd,eU im p=wd:=⟨_,rfl⟩;rw[hwd]at HWp hpe p1;have hpx:p.at_<=65536:=wP;have hwx:wd<=65536:=wP;have Hpe:=aj hpe;clear hpe hwd;have l0:=fun x:Later w2=>x.cell i0
   have l1:=fun x:Later w2=>x.cell i1
   have l2:=fun x:Later w2=>x.cell i2
   have l3:=fun x:Later w2=>x.cell i3
   have l4:=fun x:Later w2=>x.cell i4
   have l5:=fun x:Later w2=>x.cell i5
   have l6:=fun x:Later w2=>x.cell i6
   have l7:=fun x:Later w2=>x.cell i7
   have l8:=fun x:Later w2=>x.cell i8
   have l9:=fun x:Later w2=>x.cell i9
   have l10:=fun x:Later w2=>x.cell dV
   have qj:=fun x:Later w2=>x.cell i11
   have Ez:=fun x:Later w2=>x.cell i12
   have EA:=fun x:Later w2=>x.cell dZ
   have EB:=fun x:Later w2=>x.cell eB
   have m0:=fun x:Later w2=>x.cell g0
   have n0:=fun x:Later w2=>x.cell q0
   have n1:=fun x:Later w2=>x.cell q1
   have n2:=fun x:Later w2=>x.cell q2
   have n3:=fun x:Later w2=>x.cell q3
   clear hp i0 i1 i2 i3 i4 i5 i6 i7 i8 i9 dV i11 i12 dZ eB g0 g1 g2 g3 q0 q1 q2 q3;by_cases h1:p.at_+wd<=r.at_
   ·have Hy:=aj (sZ.af (by rw[Hpe.af];exact h1))
    clear sZ Hno;go_wp2_with fail;refine dG TA TA ?_
    repeat (go_big_quiet_step (first | (go_at_call 141;refine Later.call _ (HWp.af _ ?_);exact B2.af.trans ((Later.h _).mono wP))))
    refine lD ?_;rintro _ ⟨⟨wq,hq⟩,rfl⟩;try simp only at hq
    have Hq:=aj hq;clear hq l0 l1 l2 l3 l4 l5 l6 l7 l8 l9 l10 qj Ez EA EB m0 n0 n1 n2 n3;go_wp2;go_roundw
    case rel=>
     have hq:=Hq.af;have:=hq.size;exact⟨kk+1+1,_,arH,HX.af.1,HX.af.2,wP,Hy.af,fun h=>wP,sP.af,B2.af.trans (hq.mono wP),(hq.block w.heap.size wP).trans F2.af,wP⟩
    simp[intOf];omega
   ·have Hn:Hid (jk im=false):=aj (Hno.af (by rw[Hpe.af];exact h1))
    clear sZ Hno;go_wp2_with fail;refine dG TA TA ?_
    repeat (go_big_quiet_step (first | (go_at_call 141;refine Later.call _ (HWp.af _ ?_);exact B2.af.trans ((Later.h _).mono wP))))
    refine lD ?_;rintro _ ⟨⟨wq,hq⟩,rfl⟩;try simp only at hq
    have Hq:=aj hq;clear hq l0 l1 l2 l3 l4 l5 l6 l7 l8 l9 l10 qj Ez EA EB m0 n0 n1 n2 n3;go_wp2;go_ret;exact⟨by rw[Hn.af];rfl,B2.af.trans (Hq.af.mono wP)⟩
 ·have hd:Hid (jk im=true):=aj (by rw[HD2.af,o9.af,zY wP];rfl)
  clear hbel hF;go_wp2;go_ret;exact⟨by rw[hd.af];rfl,di.af⟩
def ul (im:bK) (s:kV):Bool:=(match gX im s.sym with
   | some x=>decide (x.ar3=1)
   | none=>false)&&bZ im.aI s.at_ 8 0&&bZ im.aI s.stub 8 4
theorem acM (im:bK) (s:kV):vT im s=(ul im s&&im.aO.all fun r=> !sN im s r):=rfl
theorem Ra {im:bK} {s:kV} (h:gX im s.sym=none):ul im s=false:=by rw[ul,h];rfl
theorem acf {im:bK} {s:kV} {x:bF} (h:gX im s.sym=some x):ul im s=(decide (x.ar3=1)&&bZ im.aI s.at_ 8 0&&bZ im.aI s.stub 8 4):=by rw[ul,h]
theorem afH (w:World) (v:jv) (im:bK) (hs:LB rQ (·<w.heap.size) w v.aI im.aI) (hg:jL im.aI=true) (hy:LB gq (·<w.heap.size) w v.av im.av)
    (hr:LB mi (·<w.heap.size) w v.aO im.aO) (hrr:∀r∈im.aO,uR r) (hrel:jk im=true) (hsz:∀s∈im.av,0<=s.size/\s.size<=9223372036854775807) (hsl:im.av.length<=512)
    (ht:LB ER (·<w.heap.size) w v.asf im.asf) (hto:∀s∈im.asf,FQ s):
    Calls asq 89 #[.agg (aW v im)] w fun e w'=>e=.returned (.bool (kP im))/\Below w w w':=by
  obtain⟨sa,sb,yu,jO,hsv,hsm,hsc,rA⟩:=hy.at;obtain⟨ra,rb,roff,nO,kD,hrm,hrc,j3⟩:=hr.at;obtain⟨ta,tb,an1,Jb,htv,htm,htc,Jc⟩:=ht.at;obtain⟨eO,cK,bR,gF,bS,dK,d9,ek,fM,fO,iH⟩:=v;simp only at hsv kD htv;subst hsv kD htv
  have HH:Hid (∀(w':World) (x n p:Int),Below w w w'->(-9223372036854775808<=x/\x<=9223372036854775807)->(0<=n/\n<=9223372036854775807)->p=0∨p=2∨p=4->
    Calls asq 136 #[.agg (aW ⟨eO,cK,bR,.slice sa im.av.length jO,bS,dK,.slice ra im.aO.length nO,.slice ta im.asf.length Jb,fM,fO,iH⟩ im),ah x,ah n,ah p] w' fun e w''=>e=.returned (.bool (bZ im.aI x n p))/\Below w' w' w''):=aj (fun w' x n p hb hx hn hp=>CV w' _ im x n p ((hs.below hb).mono hb.size) (yB hg) hx hn hp)
  have HW:Hid (∀(w':World) (r:iE),Below w w w'->
    Calls asq 141 #[.agg (aW ⟨eO,cK,bR,.slice sa im.av.length jO,bS,dK,.slice ra im.aO.length nO,.slice ta im.asf.length Jb,fM,fO,iH⟩ im),.agg #[ah r.at_,ah r.ar3,ah r.sym,ah r.add]] w' fun e w''=>e=.returned (ah (eU im r))/\Below w' w' w''):=aj (fun w' r hb=>NZ w' _ im r ((hy.below hb).mono hb.size))
  unfold aW at *;have CB:=aj rA;have qh:=aj j3;have WK:=aj Jc;have Hto:=aj hto;have HD:Hid (kP im=(decide (im.asf.length<=128)&&iF im 0 im.asf)):=aj rfl;have Hg:=aj hg
  have aim:Hid (∀r∈im.aO,0<=r.at_/\r.at_<=65536/\0<=eU im r/\eU im r<=65536):=aj (by
    have h:=hrel;simp only[jk,Bool.and_eq_true]at h;intro r hm;have h1:=(Bi hg hsl (xR im _ _ h.2 r hm)).1
    have h2:0<=eU im r:=by
      unfold eU
      split
      · rename_i s hs
        have:=(hsz s (qa hs).2.2).1
        split<;>omega
      · omega
    omega)
  clear hs hg hy hr hrr hrel hsz ht hto rA j3 Jc;generalize hI:(Array.mk [ax im.arT,ah im.ar4,eO,cK,bR,.slice sa im.av.length jO,bS,dK,ah im.ase,.slice ra im.aO.length nO,.slice ta im.asf.length Jb,fM,fO,iH,ah im.aJ]:Array Value)=I at HH HW;have F0:=aj (ah2 w (.cells I 44 (0,0)));have B1:=aj ((PZ w.heap.size w).alloc (oD _) (.cells I 44 (0,0)));subst hI;by_cases h5:im.asf.length<=128
  case neg=>
    have Hn:Hid (kP im=false):=aj (by rw[HD.af,decide_eq_false (p:=im.asf.length<=128) h5];rfl);have h6:128<im.asf.length:=wP;go_enter Tryz.func89,Tryz.ntmps89;go_wp2;go_ret;exact⟨by rw[Hn.af];rfl,B1.af⟩
  have h6:¬128<im.asf.length:=wP;have HD2:Hid (kP im=iF im 0 im.asf):=aj (by rw[HD.af,decide_eq_true (p:=im.asf.length<=128) h5];rfl);clear HD;go_enter Tryz.func89,Tryz.ntmps89;go_wp2_with fail
  go_loopw [3] (fun i wr=>∃(k:Nat) (x:Int),i=ah k/\0<=x/\x<=100000/\k<=im.asf.length/\iF im 0 im.asf=iF im x (im.asf.drop k)/\(k=0->x=0)/\(∀p,0<k->im.asf[k-1]? =some p->x=p.at_+8/\0<=p.at_)/\Below w w wr/\
    wr.heap[w.heap.size]? =some (aB #[ax im.arT,ah im.ar4,eO,cK,bR,.slice sa im.av.length jO,bS,dK,ah im.ase,.slice ra im.aO.length nO,.slice ta im.asf.length Jb,fM,fO,iH,ah im.aJ] 44)/\w.heap.size<wr) (fun i _=>im.asf.length-(intOf i).toNat)
  exact⟨0,0,rfl,abD,abD,alg _,arG,fun _=>rfl,fun p h=>absurd h (Nat.lt_irrefl 0),B1.af,F0.af,arG⟩;obtain⟨k,x,rfl,hx0,hx1,hk,hse,hk0,hkp,hbel,hF,tO⟩:=hrel;have o9:=aj hse;have Hk0:=aj hk0;have Hkp:=aj hkp;have di:=aj hbel;have hBr:=hbel.size;clear hse hk0 hkp;obtain⟨i0,i1,i2,i3,i4,i5,i6,i7,i8,i9,dV,i11,i12,dZ,eB⟩:=bY hF;by_cases hlt:k<im.asf.length
  · obtain rfl:=WK.af.addr wP
    obtain⟨s,hx⟩:∃s,im.asf[k]? =some s:=⟨_,gP hlt⟩;obtain⟨g0,g1,g2⟩:=(WK.af.below hbel).Sk k s hx;have hso:=Hto.af s (dH hx);have hsa:=hso.2.1;have tQ:=aj hso;have Hx:=aj hx;have mM:=aj (drop_cons im.asf k s hx);have hsb:=fD _ _ g0;have Bj:=aj (ah2 wr (aB #[ah s.at_,ah s.sym,ah s.stub] 65));have Bl:=aj ((dX wr (aB #[ah s.at_,ah s.sym,ah s.stub] 65) tO).trans hF);have xg:=aj (di.af.alloc hBr (aB #[ah s.at_,ah s.sym,ah s.stub] 65));clear hx hbel hF di hso;go_upto_region 7 with fail
    have hz1:wr.heap.size<(wr.alloc (aB #[ah s.at_,ah s.sym,ah s.stub] 65)):=arG;generalize wr.alloc (aB #[ah s.at_,ah s.sym,ah s.stub] 65)=w1 at *;generalize wr.heap.size=zs at *;clear g0 g1 g2 i0 i1 i2 i3 i4 i5 i6 i7 i8 i9 dV i11 i12 dZ eB;have t0:w1.cell? (ak zs 0)=some (ah s.at_):=aL Bj.af rfl;have t1:w1.cell? (ak zs 1)=some (ah s.sym):=aL Bj.af rfl;have t2:w1.cell? (ak zs 2)=some (ah s.stub):=aL Bj.af rfl;obtain⟨i0,i1,i2,i3,i4,i5,i6,i7,i8,i9,dV,i11,i12,dZ,eB⟩:=bY Bl.af;go_cut [57] (fun s57 wx=>s57=.bool (!ul im s)/\Below w1 w1 wx)
    case first=>
      by_cases k0:s.sym<0
      · have d0:decide (s.sym<0)=true:=by rw[arI];exact k0
        have Hn:=aj (Ra (im:=im) (G8 im s.sym k0));clear k0;go_wp2_with fail;go_meet;exact⟨by rw[Hn.af];rfl,PZ _ _⟩
      have d0:decide (s.sym<0)=false:=by rw[arN];exact k0
      by_cases k1:(im.av.length:Int)<=s.sym
      · have d1:decide ((im.av.length:Int)<=s.sym)=true:=by rw[arI];exact k1
        have Hn:=aj (Ra (im:=im) (G9 im s.sym k1));clear k1;go_wp2_with fail;go_meet;exact⟨by rw[Hn.af];rfl,PZ _ _⟩
      have d1:decide ((im.av.length:Int)<=s.sym)=false:=by rw[arN];exact k1
      obtain⟨m,hm⟩:∃m:Nat,s.sym=m:=⟨s.sym.toNat,wP⟩;have aps:m<im.av.length:=wP;obtain rfl:=CB.af.addr wP;obtain⟨y,hy⟩:∃y,im.av[m]? =some y:=⟨_,gP aps⟩;have amu:gX im s.sym=some y:=by rw[hm];exact Kw im m y hy
      have HN:=aj (acf amu);obtain⟨_,_,_,_,y3,_,_,_,_,_⟩:=(CB.af.below xg.af).rR m y hy;have HH1:=aj (HH.af w1 s.at_ 8 0 xg.af tQ.af.2.1 abD abD);rw[hm]at t1 d0 d1;have d1n:decide (im.av.length<=m)=false:=by rw[arN];omega
      have hm0:(0:Int)<=m:=wP;have hm1:(m:Int)<im.av.length:=wP;clear amu hy hm k0 k1;by_cases hk:y.ar3=1
      case neg=>
        have b1:(y.ar3 != 1)=true:=by rw[bne_iff_ne];exact hk
        have Hn:Hid (ul im s=false):=aj (by rw[HN.af,decide_eq_false (p:=y.ar3=1) hk];rfl);clear hk;go_wp2_with fail;go_meet;exact⟨by rw[Hn.af];rfl,PZ _ _⟩
      have b1:(y.ar3 != 1)=false:=by rw[bne_eq_false_iff_eq];exact hk
      have vG:Hid (ul im s=(bZ im.aI s.at_ 8 0&&bZ im.aI s.stub 8 4)):=aj (by rw[HN.af,decide_eq_true (p:=y.ar3=1) hk];rfl);clear hk;go_wp2_with fail;refine HH1.af.mono ?_;rintro e w2 ⟨rfl,hb2⟩;have hz2:=hb2.size;have S2:=aj ((hb2.block zs wP).trans Bj.af);have F2:=aj ((hb2.block w.heap.size wP).trans Bl.af);have B2:=aj (xg.af.trans (hb2.mono wP));have HB2:=aj hb2;clear hb2 t0 t1 t2 i0 i1 i2 i3 i4 i5 i6 i7 i8 i9 dV i11 i12 dZ eB y3 HH1
      cases Qp:bZ im.aI s.at_ 8 0 with
      | false=>
        have Hn:Hid (ul im s=false):=aj (by rw[vG.af,Qp];rfl);clear Qp;go_wp2_with fail;go_meet;exact⟨by rw[Hn.af];rfl,HB2.af⟩
      | true=>
        have HN3:Hid (ul im s=bZ im.aI s.stub 8 4):=aj (by rw[vG.af,Qp];rfl);clear Qp;have t0:w2.cell? (ak zs 0)=some (ah s.at_):=aL S2.af rfl;have t2:w2.cell? (ak zs 2)=some (ah s.stub):=aL S2.af rfl;obtain⟨i0,i1,i2,i3,i4,i5,i6,i7,i8,i9,dV,i11,i12,dZ,eB⟩:=bY F2.af;have HH2:=aj (HH.af w2 s.stub 8 4 B2.af tQ.af.2.2 abD abD);go_wp2_with fail;refine HH2.af.mono ?_;rintro e w3 ⟨rfl,hb3⟩;have HB3:=aj (HB2.af.trans (hb3.mono wP));clear hb3 t0 t2 i0 i1 i2 i3 i4 i5 i6 i7 i8 i9 dV i11 i12 dZ eB HH2
        cases Qq:bZ im.aI s.stub 8 4 with
        | false=>
          have Hn:Hid (ul im s=false):=aj (by rw[HN3.af,Qq]);clear Qq;go_wp2_with fail;go_meet;exact⟨by rw[Hn.af];first | rfl | (rw[d1n];rfl),HB3.af⟩
        | true=>
          have Hn:Hid (ul im s=true):=aj (by rw[HN3.af,Qq]);clear Qq;go_wp2_with fail;go_meet;exact⟨by rw[Hn.af];first | rfl | (rw[d1n];rfl),HB3.af⟩
    case rest=>
      obtain⟨rfl,hbc⟩:=hcut;have hzc:=hbc.size;have Bc:=aj (xg.af.trans (hbc.mono wP));have Fc:=aj ((hbc.block w.heap.size wP).trans Bl.af);have Sc:=aj ((hbc.block zs wP).trans Bj.af);clear hbc t0 t1 t2 i0 i1 i2 i3 i4 i5 i6 i7 i8 i9 dV i11 i12 dZ eB Bl Bj
      cases hsl0:ul im s with
      | false=>
        have Hn:Hid (kP im=false):=aj (by rw[HD2.af,o9.af,mM.af,qK (by rw[acM,hsl0];rfl)]);clear hsl0;go_wp2;go_ret;exact⟨by rw[Hn.af];rfl,Bc.af⟩
      | true=>
      have Hrg:Hid (0<=s.at_/\s.at_<=65536):=aj (by
        have h:=hsl0;unfold ul at h;simp only[Bool.and_eq_true]at h;have:=mE (nT Hg.af) h.1.2;omega)
      have ha0:=Hrg.af.1;have ha1:=Hrg.af.2;have HS0:=aj hsl0;clear hsl0
      have sP:Hid (∀p,0<k+1->im.asf[k+1-1]? =some p->s.at_+8=p.at_+8/\0<=p.at_):=aj (fun p _ hp=>by
        rw[GI,Hx.af]at hp;obtain rfl:=Option.some.inj hp;exact⟨rfl,Hrg.af.1⟩)
      obtain ⟨w2,hw2⟩:=aiG (wc:World);subst hw2;go_upto_region 9 with fail
      go_cut [72] (fun s72 wx=>s72=.bool (decide (s.at_<x))/\Below w2 w2 wx)
      case first=>
        obtain⟨i0,i1,i2,i3,i4,i5,i6,i7,i8,i9,dV,i11,i12,dZ,eB⟩:=bY Fc.af;have t0:w2.cell? (ak zs 0)=some (ah s.at_):=aL Sc.af rfl;have m0:=fun x:Later w2=>x.cell t0
        have l0:=fun x:Later w2=>x.cell i0
        have l1:=fun x:Later w2=>x.cell i1
        have l2:=fun x:Later w2=>x.cell i2
        have l3:=fun x:Later w2=>x.cell i3
        have l4:=fun x:Later w2=>x.cell i4
        have l5:=fun x:Later w2=>x.cell i5
        have l6:=fun x:Later w2=>x.cell i6
        have l7:=fun x:Later w2=>x.cell i7
        have l8:=fun x:Later w2=>x.cell i8
        have l9:=fun x:Later w2=>x.cell i9
        have l10:=fun x:Later w2=>x.cell dV
        have qj:=fun x:Later w2=>x.cell i11
        have Ez:=fun x:Later w2=>x.cell i12
        have EA:=fun x:Later w2=>x.cell dZ
        have EB:=fun x:Later w2=>x.cell eB
        by_cases hk1:k=0
        · subst hk1
          have he:=Hk0.af rfl;subst he;have hd:Hid (decide (s.at_<0)=false):=aj (by rw[arN];omega);clear i0 i1 i2 i3 i4 i5 i6 i7 i8 i9 dV i11 i12 dZ eB t0;refine dG TA TA ?_
          repeat (go_big_quiet_step (fail))
          refine lD ?_;rintro wq ⟨⟨_,hq⟩,rfl⟩;try simp only at hq
          have Hq:=aj hq;clear hq;go_wp2_with fail;go_meet;exact⟨by rw[hd.af],Hq.af⟩
        · obtain⟨p,hp⟩:∃p,im.asf[k-1]? =some p:=⟨_,gP wP⟩
          obtain⟨hpe,p0⟩:=Hkp.af p wP hp;obtain⟨q0,q1,q2⟩:=(WK.af.below Bc.af).Sk (k-1) p hp;have hk2:0<k:=wP;obtain⟨kk,rfl⟩:∃kk,k=kk+1:=⟨k-1,wP⟩;simp only[GI]at q0 q1 q2;have amq:(0:Int)<=kk:=wP;have amr:(kk:Int)<im.asf.length:=wP;have ams:kk<im.asf.length:=wP;have hpx:p.at_<=100000:=wP;have n0:=fun x:Later w2=>x.cell q0
          have Hpe:=aj hpe;clear hpe hp i0 i1 i2 i3 i4 i5 i6 i7 i8 i9 dV i11 i12 dZ eB t0 q0 q1 q2;refine dG TA TA ?_
          repeat (go_big_quiet_step (fail))
          refine lD ?_;rintro wq ⟨⟨_,hq⟩,rfl⟩;try simp only at hq
          have Hq:=aj hq;clear hq;go_wp2_with fail;go_meet;exact⟨by rw[Hpe.af],Hq.af⟩
      case rest=>
        obtain⟨rfl,hbd⟩:=hcut;have hzd:=hbd.size;have Bd:=aj (Bc.af.trans (hbd.mono wP));have Fd:=aj ((hbd.block w.heap.size wP).trans Fc.af);have Sd:=aj ((hbd.block zs wP).trans Sc.af);clear hbd Fc Sc;obtain ⟨w3,hw3⟩:=aiG (wc:World);subst hw3;by_cases h1:x<=s.at_
        case neg=>
          have Hn:Hid (kP im=false):=aj (by rw[HD2.af,o9.af,mM.af,M9 h1]);have hd:decide (s.at_<x)=true:=by rw[arI];omega
          go_wp2;go_ret;exact⟨by rw[Hn.af];rfl,Bd.af⟩
        have hd:decide (s.at_<x)=false:=by rw[arN];omega
        have sZ:Hid (vT im s=true->iF im 0 im.asf=iF im (s.at_+8) (im.asf.drop (k+1))):=aj (fun h=>by rw[o9.af,mM.af,Ob h1 h]);have hz3:zs<w3:=wP;have Co:w.heap.size<w3:=wP;clear hzc hzd;go_wp2_with fail;go_loopw [5] (fun i wi=>∃(q:Nat),i=ah q/\q<=im.aO.length/\(im.aO.take q).all (fun r=> !sN im s r)=true/\Below w3 w3 wi) (fun i _=>im.aO.length-(intOf i).toNat);exact⟨0,rfl,alg _,rfl,PZ _ _⟩;obtain⟨q,rfl,hq,hall,hbi⟩:=hrel;have iT:=aj hall;have qi:=aj hbi;have hzi:=hbi.size;clear hall;obtain⟨i0,i1,i2,i3,i4,i5,i6,i7,i8,i9,dV,i11,i12,dZ,eB⟩:=bY ((hbi.block w.heap.size wP).trans Fd.af);by_cases hlt2:q<im.aO.length
        · obtain rfl:=qh.af.addr wP
          obtain⟨r,AA⟩:∃r,im.aO[q]? =some r:=⟨_,gP hlt2⟩;obtain⟨g0,g1,g2,g3⟩:=(qh.af.below (Bd.af.trans (hbi.mono wP))).NH q r AA;obtain⟨ra0,ra1,rw0,rw1⟩:=aim.af r (dH AA);have Dq:=aj (jM (fun r=> !sN im s r) im.aO q r AA);have Hme:=aj (fun h=>Tf (s:=s) AA h);have yC:=aj (fun w' hb=>HW.af w' r hb);have ark:=fD _ _ g0;have Az:=aj (ah2 wr (aB #[ah r.at_,ah r.ar3,ah r.sym,ah r.add] 122));have HF5:=aj ((dX wr (aB #[ah r.at_,ah r.ar3,ah r.sym,ah r.add] 122) (r:=w.heap.size) wP).trans ((hbi.block w.heap.size wP).trans Fd.af));have uZ:=aj ((dX wr (aB #[ah r.at_,ah r.ar3,ah r.sym,ah r.add] 122) (r:=zs) wP).trans ((hbi.block zs wP).trans Sd.af));have mQ:=aj (hbi.alloc hzi (aB #[ah r.at_,ah r.ar3,ah r.sym,ah r.add] 122));have uX:wr.heap.size<(wr.alloc (aB #[ah r.at_,ah r.ar3,ah r.sym,ah r.add] 122)):=arG;clear AA hbi qi;go_upto_region 15 with fail
          generalize wr.alloc (aB #[ah r.at_,ah r.ar3,ah r.sym,ah r.add] 122)=w5 at *;generalize wr.heap.size=zr at *;clear g0 g1 g2 g3 i0 i1 i2 i3 i4 i5 i6 i7 i8 i9 dV i11 i12 dZ eB;have t0:w5.cell? (ak zs 0)=some (ah s.at_):=aL uZ.af rfl;have u0:w5.cell? (ak zr 0)=some (ah r.at_):=aL Az.af rfl;have u1:w5.cell? (ak zr 1)=some (ah r.ar3):=aL Az.af rfl;have u2:w5.cell? (ak zr 2)=some (ah r.sym):=aL Az.af rfl;have u3:w5.cell? (ak zr 3)=some (ah r.add):=aL Az.af rfl;obtain⟨i0,i1,i2,i3,i4,i5,i6,i7,i8,i9,dV,i11,i12,dZ,eB⟩:=bY HF5.af;have HME:Hid (sN im s r=(decide (s.at_<r.at_+eU im r)&&decide (r.at_<s.at_+8))):=aj (by unfold sN;rw[Bool.and_comm]);have l0:=fun x:Later w5=>x.cell i0
          have l1:=fun x:Later w5=>x.cell i1
          have l2:=fun x:Later w5=>x.cell i2
          have l3:=fun x:Later w5=>x.cell i3
          have l4:=fun x:Later w5=>x.cell i4
          have l5:=fun x:Later w5=>x.cell i5
          have l6:=fun x:Later w5=>x.cell i6
          have l7:=fun x:Later w5=>x.cell i7
          have l8:=fun x:Later w5=>x.cell i8
          have l9:=fun x:Later w5=>x.cell i9
          have l10:=fun x:Later w5=>x.cell dV
          have qj:=fun x:Later w5=>x.cell i11
          have Ez:=fun x:Later w5=>x.cell i12
          have EA:=fun x:Later w5=>x.cell dZ
          have EB:=fun x:Later w5=>x.cell eB
          have m0:=fun x:Later w5=>x.cell t0
          have n0:=fun x:Later w5=>x.cell u0
          have n1:=fun x:Later w5=>x.cell u1
          have n2:=fun x:Later w5=>x.cell u2
          have n3:=fun x:Later w5=>x.cell u3
          obtain⟨wd,hwd⟩:∃wd,eU im r=wd:=⟨_,rfl⟩;rw[hwd]at yC HME rw0 rw1;clear hwd t0 u0 u1 u2 u3 i0 i1 i2 i3 i4 i5 i6 i7 i8 i9 dV i11 i12 dZ eB;have B5:=aj (Bd.af.trans (mQ.af.mono wP));by_cases e1:s.at_<r.at_+wd
          case neg=>
            have b1:decide (s.at_<r.at_+wd)=false:=by rw[arN];exact e1
            have Hm:Hid ((im.aO.take (q+1)).all (fun r=> !sN im s r)=true):=aj (by rw[Dq.af,iT.af,HME.af,b1];rfl);clear e1;go_wp2_with fail;refine dG TA TA ?_
            repeat (go_big_quiet_step (first | (go_at_call 141;refine Later.call _ (yC.af _ ?_);exact B5.af.trans ((Later.h _).mono wP))))
            refine lD ?_;rintro wq ⟨⟨_,hq⟩,rfl⟩;try simp only at hq
            have Hq:=aj (mQ.af.trans (hq.mono wP));clear hq l0 l1 l2 l3 l4 l5 l6 l7 l8 l9 l10 qj Ez EA EB m0 n0 n1 n2 n3;go_wp2;go_roundw;exact⟨q+1,arH,wP,Hm.af,Hq.af⟩;simp[intOf];omega
          have b1:decide (s.at_<r.at_+wd)=true:=by rw[arI];exact e1
          by_cases e2:r.at_<s.at_+8
          case neg=>
            have b2:decide (r.at_<s.at_+8)=false:=by rw[arN];exact e2
            have Hm:Hid ((im.aO.take (q+1)).all (fun r=> !sN im s r)=true):=aj (by rw[Dq.af,iT.af,HME.af,b2,b1];rfl);clear e1 e2;go_wp2_with fail;refine dG TA TA ?_
            repeat (go_big_quiet_step (first | (go_at_call 141;refine Later.call _ (yC.af _ ?_);exact B5.af.trans ((Later.h _).mono wP))))
            refine lD ?_;rintro wq ⟨⟨_,hq⟩,rfl⟩;try simp only at hq
            have Hq:=aj (mQ.af.trans (hq.mono wP));clear hq l0 l1 l2 l3 l4 l5 l6 l7 l8 l9 l10 qj Ez EA EB m0 n0 n1 n2 n3;go_wp2;go_roundw;exact⟨q+1,arH,wP,Hm.af,Hq.af⟩;simp[intOf];omega
          have b2:decide (r.at_<s.at_+8)=true:=by rw[arI];exact e2
          have Hn:Hid (kP im=false):=aj (by rw[HD2.af,o9.af,mM.af,qK (Hme.af (by rw[HME.af,b1,b2];rfl))]);clear e1 e2;go_wp2_with fail;refine dG TA TA ?_
          repeat (go_big_quiet_step (first | (go_at_call 141;refine Later.call _ (yC.af _ ?_);exact B5.af.trans ((Later.h _).mono wP))))
          refine lD ?_;rintro wq ⟨⟨_,hq⟩,rfl⟩;try simp only at hq
          have Hq:=aj (B5.af.trans (hq.mono wP));clear hq l0 l1 l2 l3 l4 l5 l6 l7 l8 l9 l10 qj Ez EA EB m0 n0 n1 n2 n3;go_wp2;go_ret;exact⟨by rw[Hn.af];rfl,Hq.af⟩
        · have j4:Hid (im.aO.all (fun r=> !sN im s r)=true):=aj (by have:=iT.af;rwa [List.take_of_length_le wP]at this)
          have Hy:Hid (iF im 0 im.asf=iF im (s.at_+8) (im.asf.drop (k+1))):=aj (sZ.af (by rw[acM,HS0.af,j4.af];rfl));have ZP:=(hbi.block w.heap.size wP).trans Fd.af;clear hbi;go_wp2;go_roundw;exact⟨k+1,s.at_+8,arH,wP,wP,wP,Hy.af,fun h=>wP,sP.af,Bd.af.trans (qi.af.mono wP),ZP,wP⟩;simp[intOf];omega
  · have hd:Hid (kP im=true):=aj (by rw[HD2.af,o9.af,zY wP];rfl)
    clear hbel hF;go_wp2;go_ret;exact⟨by rw[hd.af];rfl,di.af⟩
theorem ajj (w:World) (v:jv) (im:bK) (hm:uK (·<w.heap.size) w v im) (hbl:∀c∈im.ar9,c.length<=140737488355328):
  Calls asq 35 #[.agg (aW v im)] w fun e w'=>e=.returned (ah (kH im))/\Below w w w':=by
 obtain⟨la,jB,hlv⟩:=hm.bf.form;have hlm:=hm.bf.max;obtain⟨eO,cK,bR,gF,bS,dK,d9,ek,fM,fO,iH⟩:=v;simp only at hlv;subst hlv;have HM:Hid (∀w',Below w w w'->uK (·<w'.heap.size) w' ⟨eO,cK,bR,gF,bS,dK,d9,ek,fM,fO,.slice la im.bf.length jB⟩ im):=aj (fun w' hb=>hm.later hb);clear hm;have HBL:=aj hbl;clear hbl;generalize hI:(Array.mk [ax im.arT,ah im.ar4,eO,cK,bR,gF,bS,dK,ah im.ase,d9,ek,fM,fO,.slice la im.bf.length jB,ah im.aJ]:Array Value)=I;have F0:=aj (ah2 w (.cells I 44 (0,0)));have B0:=aj ((PZ w.heap.size w).alloc (oD _) (.cells I 44 (0,0)));have hz0:(w.alloc (.cells I 44 (0,0))).heap.size=w.heap.size+1:=arG;subst hI;have hcells:aW ⟨eO,cK,bR,gF,bS,dK,d9,ek,fM,fO,.slice la im.bf.length jB⟩ im=#[ax im.arT,ah im.ar4,eO,cK,bR,gF,bS,dK,ah im.ase,d9,ek,fM,fO,.slice la im.bf.length jB,ah im.aJ]:=rfl;rw[hcells];clear hcells;go_enter Tryz.func35,Tryz.ntmps35;go_wp2_with fail;generalize w.alloc (aB #[ax im.arT,ah im.ar4,eO,cK,bR,gF,bS,dK,ah im.ase,d9,ek,fM,fO,.slice la im.bf.length jB,ah im.aJ] 44)=w0 at *;have C1:=aj (ahL w0 _ im (HM.af w0 B0.af).ar6 (HM.af w0 B0.af).aF (HM.af w0 B0.af).arT);unfold aW at C1;obtain⟨i0,i1,i2,i3,i4,i5,i6,i7,i8,i9,dV,i11,i12,dZ,eB⟩:=bY F0.af;go_wp2_with fail;refine C1.af.mono ?_;rintro e w1 ⟨rfl,hb1⟩;have hz1:=hb1.size;have F1:=aj ((hb1.block w.heap.size wP).trans F0.af);have B1:=aj (B0.af.trans (hb1.mono wP));clear hb1 C1 i0 i1 i2 i3 i4 i5 i6 i7 i8 i9 dV i11 i12 dZ eB
 cases hb:mH im with
 | false=>
  have Hr:=aj (aav hb);clear hb;go_wp2;go_ret;exact⟨by rw[Hr.af];rfl,B1.af⟩
 | true=>
 have H1:=aj hb;clear hb;have C2:=aj (ahM w1 _ im (HM.af w1 B1.af).aI (fun s hs=>⟨((HM.af w1 B1.af).xX s hs).1.1,((HM.af w1 B1.af).xX s hs).2.1.2⟩));unfold aW at C2;obtain⟨i0,i1,i2,i3,i4,i5,i6,i7,i8,i9,dV,i11,i12,dZ,eB⟩:=bY F1.af;go_wp2_with fail;refine C2.af.mono ?_;rintro e w2 ⟨rfl,hb2⟩;have hz2:=hb2.size;have F2:=aj ((hb2.block w.heap.size wP).trans F1.af);have B2:=aj (B1.af.trans (hb2.mono wP));clear hb2 C2 i0 i1 i2 i3 i4 i5 i6 i7 i8 i9 dV i11 i12 dZ eB
 cases hb:jL im.aI with
 | false=>
  have Hr:=aj (aaw H1.af hb);clear hb;go_wp2;go_ret;exact⟨by rw[Hr.af];rfl,B2.af⟩
 | true=>
 have H2:=aj hb;clear hb;obtain⟨i0,i1,i2,i3,i4,i5,i6,i7,i8,i9,dV,i11,i12,dZ,eB⟩:=bY F2.af;clear i0 i1 i2 i3 i4 i5 i6 i7 i8 i9 dV i11 i12;have HD:Hid (qX im=(decide (0<=im.aJ)&&decide (im.aJ<=4096)&&decide ((im.bf.length:Int)<=im.aJ))):=aj rfl;by_cases t0:0<=im.aJ
 case neg=>
  have hb:qX im=false:=by rw[HD.af,decide_eq_false (p:=0<=im.aJ) t0];simp
  have Hr:=aj (Fz H1.af H2.af hb);clear hb;have hd0:decide (im.aJ<0)=true:=by rw[arI];omega
  go_wp2;go_ret;exact⟨by rw[Hr.af];rfl,B2.af⟩
 have hd0:decide (im.aJ<0)=false:=by rw[arN];omega
 by_cases t1:im.aJ<=4096
 case neg=>
  have hb:qX im=false:=by rw[HD.af,decide_eq_false (p:=im.aJ<=4096) t1];simp
  have Hr:=aj (Fz H1.af H2.af hb);clear hb;have hd1:decide (4096<im.aJ)=true:=by rw[arI];omega
  go_wp2;go_ret;exact⟨by rw[Hr.af];rfl,B2.af⟩
 have hd1:decide (4096<im.aJ)=false:=by rw[arN];omega
 by_cases t2:(im.bf.length:Int)<=im.aJ
 case neg=>
  have hb:qX im=false:=by rw[HD.af,decide_eq_false (p:=(im.bf.length:Int)<=im.aJ) t2];simp
  have Hr:=aj (Fz H1.af H2.af hb);clear hb;have hd2:decide (im.aJ<(im.bf.length:Int))=true:=by rw[arI];omega
  go_wp2;go_ret;exact⟨by rw[Hr.af];rfl,B2.af⟩
 have hd2:decide (im.aJ<(im.bf.length:Int))=false:=by rw[arN];omega
 have H3:Hid (qX im=true):=aj (by rw[HD.af,decide_eq_true (p:=0<=im.aJ) t0,decide_eq_true (p:=im.aJ<=4096) t1,decide_eq_true (p:=(im.bf.length:Int)<=im.aJ) t2];rfl);have htl:0<=im.aJ/\im.aJ<=4096:=⟨t0,t1⟩;have C4:=aj (ahK w2 _ im (HM.af w2 B2.af).aI (yB H2.af) (HM.af w2 B2.af).av htl);unfold aW at C4;obtain⟨i0,i1,i2,i3,i4,i5,i6,i7,i8,i9,dV,i11,i12,dZ,eB⟩:=bY F2.af;go_wp2_with fail;refine C4.af.mono ?_;rintro e w3 ⟨rfl,hb3⟩;have hz3:=hb3.size;have F3:=aj ((hb3.block w.heap.size wP).trans F2.af);have B3:=aj (B2.af.trans (hb3.mono wP));clear hb3 C4 i0 i1 i2 i3 i4 i5 i6 i7 i8 i9 dV i11 i12 dZ eB
 cases hb:jE im with
 | false=>
  have Hr:=aj (aax H1.af H2.af H3.af hb);clear hb;go_wp2;go_ret;exact⟨by rw[Hr.af];rfl,B3.af⟩
 | true=>
 have H4:=aj hb;clear hb;have C5:=aj (abW w3 im _ _ _ (HM.af w3 B3.af).ar9 (HM.af w3 B3.af).ar8 (HM.af w3 B3.af).av (HM.af w3 B3.af).xx HBL.af);obtain⟨i0,i1,i2,i3,i4,i5,i6,i7,i8,i9,dV,i11,i12,dZ,eB⟩:=bY F3.af;go_wp2_with fail;refine C5.af.mono ?_;rintro e w4 ⟨rfl,hb4⟩;have Co:=hb4.size;have F4:=aj ((hb4.block w.heap.size wP).trans F3.af);have B4:=aj (B3.af.trans (hb4.mono wP));clear hb4 C5 i0 i1 i2 i3 i4 i5 i6 i7 i8 i9 dV i11 i12 dZ eB;rw[agB]
 cases hb:nA im with
 | false=>
  have Hr:=aj (X7 H1.af H2.af H3.af H4.af hb);clear hb;go_wp2;go_ret;exact⟨by rw[Hr.af];rfl,B4.af⟩
 | true=>
 have H5:=aj hb;clear hb;have C6:=aj (ace w4 _ im (HM.af w4 B4.af).aI H2.af (HM.af w4 B4.af).av (TI H1.af) (HM.af w4 B4.af).aO (HM.af w4 B4.af).kU (tX H2.af H3.af H4.af).1 (tX H2.af H3.af H4.af).2);unfold aW at C6;obtain⟨i0,i1,i2,i3,i4,i5,i6,i7,i8,i9,dV,i11,i12,dZ,eB⟩:=bY F4.af;go_wp2_with fail;refine C6.af.mono ?_;rintro e w5 ⟨rfl,hb5⟩;have uX:=hb5.size;have F5:=aj ((hb5.block w.heap.size wP).trans F4.af);have B5:=aj (B4.af.trans (hb5.mono wP));clear hb5 C6 i0 i1 i2 i3 i4 i5 i6 i7 i8 i9 dV i11 i12 dZ eB
 cases hb:jk im with
 | false=>
  have Hr:=aj (TJ H1.af H2.af H3.af H4.af H5.af hb);clear hb;go_wp2;go_ret;exact⟨by rw[Hr.af];rfl,B5.af⟩
 | true=>
 have H6:=aj hb;clear hb;have C7:=aj (afH w5 _ im (HM.af w5 B5.af).aI H2.af (HM.af w5 B5.af).av (HM.af w5 B5.af).aO (HM.af w5 B5.af).kU H6.af (tX H2.af H3.af H4.af).1 (tX H2.af H3.af H4.af).2 (HM.af w5 B5.af).asf (HM.af w5 B5.af).yK);unfold aW at C7;obtain⟨i0,i1,i2,i3,i4,i5,i6,i7,i8,i9,dV,i11,i12,dZ,eB⟩:=bY F5.af;go_wp2_with fail;refine C7.af.mono ?_;rintro e w6 ⟨rfl,hb6⟩;have JN:=hb6.size;have F6:=aj ((hb6.block w.heap.size wP).trans F5.af);have B6:=aj (B5.af.trans (hb6.mono wP));clear hb6 C7 i0 i1 i2 i3 i4 i5 i6 i7 i8 i9 dV i11 i12 dZ eB
 cases hb:kP im with
 | false=>
  have Hr:=aj (X8 H1.af H2.af H3.af H4.af H5.af H6.af hb);clear hb;go_wp2;go_ret;exact⟨by rw[Hr.af];rfl,B6.af⟩
 | true=>
 have H7:=aj hb;clear hb;have C8:=aj (ag0 w6 _ im (HM.af w6 B6.af).aI (yB H2.af) (HM.af w6 B6.af).asb (HM.af w6 B6.af).aP (HM.af w6 B6.af).BH (HM.af w6 B6.af).BI);unfold aW at C8;obtain⟨i0,i1,i2,i3,i4,i5,i6,i7,i8,i9,dV,i11,i12,dZ,eB⟩:=bY F6.af;go_wp2_with fail;refine C8.af.mono ?_;rintro e w7 ⟨rfl,uN⟩;have JH:=uN.size;have F7:=aj ((uN.block w.heap.size wP).trans F6.af);have B7:=aj (B6.af.trans (uN.mono wP));clear uN C8 i0 i1 i2 i3 i4 i5 i6 i7 i8 i9 dV i11 i12 dZ eB
 cases hb:(jr im im.asb&&jr im im.aP)with
 | false=>
  have Hr:=aj (aay H1.af H2.af H3.af H4.af H5.af H6.af H7.af hb);clear hb;go_wp2;go_ret;exact⟨by rw[Hr.af];rfl,B7.af⟩
 | true=>
 have H8:=aj hb;clear hb;have Hr:=aj (aaz H1.af H2.af H3.af H4.af H5.af H6.af H7.af H8.af);go_wp2;go_ret;exact⟨by rw[Hr.af];rfl,B7.af⟩
end Go.Proofs.YtpjgjeadjjackaaGreat
