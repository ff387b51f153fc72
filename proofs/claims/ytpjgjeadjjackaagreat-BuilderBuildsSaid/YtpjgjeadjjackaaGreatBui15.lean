/- Lemmas. -/
import Derived.Test.YtpjgjeadjjackaaGreatBui5
import Derived.Test.YtpjgjeadjjackaaGreatBui11
import Derived.Test.YtpjgjeadjjackaaGreatBui4
import Derived.Deep.DeepCutAuto
import Derived.Deep.QuietTactic
import Derived.BigQuiet
import Derived.IntWalk
set_option linter.unusedVariables false
set_option linter.unusedSimpArgs false
set_option maxHeartbeats 64000000
set_option maxRecDepth 100000
namespace Go.Proofs.YtpjgjeadjjackaaGreat
open Go.RowKit
open _root_.Bool renaming eq_iff_iff->Rq,and_eq_false_iff->ahJ
open Go renaming heap_alloc_new->ah2,below_drewN->eZ
open Go.Calls renaming quiet_of_same->Wo
open Go.World renaming cell?_alloc_lt->qF,block_lt_of_cell?->fD
open _root_.List renaming getElem?_eq_getElem->gP,take_of_length_le->dh,drop_eq_nil_of_le->zY,mem_of_getElem?->dH
open _root_.Nat renaming zero_le->alg,le_refl->oD,add_sub_cancel->GI
theorem ahK (w:World) (v:jv) (im:bK) (hs:LB rQ (·<w.heap.size) w v.aI im.aI) (hok:∀s∈im.aI,CU s) (hy:LB gq (·<w.heap.size) w v.av im.av) (ht:0<=im.aJ/\im.aJ<=4096):
  Calls Tryz.prog 86 #[.agg (aW v im)] w fun e w'=>e=.returned (.bool (jE im))/\Below w w w':=by
 obtain⟨sa,sb,yu,jO,hsv,hsm,hsc,hat⟩:=hy.at;obtain⟨eO,cK,bR,gF,bS,dK,d9,ek,fM,fO,iH⟩:=v;simp only at hsv;subst hsv
 have HH:Hid (∀(w':World) (x n:Int),Below w w w'->(-9223372036854775808<=x/\x<=9223372036854775807)->(0<=n/\n<=9223372036854775807)->
  Calls Tryz.prog 136 #[.agg (aW ⟨eO,cK,bR,.slice sa im.av.length jO,bS,dK,d9,ek,fM,fO,iH⟩ im),ah x,ah n,ah 0] w' fun e w''=>e=.returned (.bool (bZ im.aI x n 0))/\Below w' w' w''):=aj (fun w' x n hb hx hn=>CV w' _ im x n 0 ((hs.below hb).mono hb.size) hok hx hn abD)
 unfold aW at *;have dP:=aj hat;have HD:Hid (jE im=(decide (im.av.length<=512)&&lu im.aI im.aJ [] im.av)):=aj rfl;clear hs hok hat hy;generalize hI:(Array.mk [ax im.arT,ah im.ar4,eO,cK,bR,.slice sa im.av.length jO,bS,dK,ah im.ase,d9,ek,fM,fO,iH,ah im.aJ]:Array Value)=I at HH;have F0:=aj (ah2 w (.cells I 44 (0,0)));have B1:=aj ((Below.refl w.heap.size w).alloc (oD _) (.cells I 44 (0,0)));subst hI;by_cases h5:im.av.length<=512
 case neg=>
  have Hn:Hid (jE im=false):=aj (by rw[HD.af,decide_eq_false (p:=im.av.length<=512) h5];rfl);have h6:512<im.av.length:=wP;go_enter Tryz.func86,Tryz.ntmps86;go_wp2;go_ret;exact⟨by rw[Hn.af];rfl,B1.af⟩
 have h6:¬512<im.av.length:=wP;have o9:Hid (jE im=lu im.aI im.aJ [] im.av):=aj (by rw[HD.af,decide_eq_true (p:=im.av.length<=512) h5];rfl);clear HD;go_enter Tryz.func86,Tryz.ntmps86;go_wp2_with fail
 go_loopw [3] (fun i wr=>∃(k:Nat),i=ah k/\k<=im.av.length/\jE im=lu im.aI im.aJ (im.av.take k) (im.av.drop k)/\Below w w wr/\
  wr.heap[w.heap.size]? =some (aB #[ax im.arT,ah im.ar4,eO,cK,bR,.slice sa im.av.length jO,bS,dK,ah im.ase,d9,ek,fM,fO,iH,ah im.aJ] 44)/\w.heap.size<wr) (fun i _=>im.av.length-(intOf i).toNat)
 exact⟨0,rfl,alg _,by rw[o9.af];simp,B1.af,F0.af,arG⟩;obtain⟨k,rfl,hk,hse,hbel,hF,tO⟩:=hrel;have Ae:=aj hse;have di:=aj hbel;have HF:=aj hF;have hBr:=hbel.size;clear hse o9;obtain⟨i0,i1,i2,i3,i4,i5,i6,i7,i8,i9,dV,i11,i12,dZ,eB⟩:=bY hF;by_cases hlt:k<im.av.length
 ·obtain rfl:=dP.af.addr wP
  obtain⟨s,hx⟩:∃s,im.av[k]? =some s:=⟨_,gP hlt⟩;obtain⟨hso,g0,g1,g2,g3,g4,g5,g6,g7,g8⟩:=(dP.af.below hbel).rR k s hx;have mM:=aj (drop_cons im.av k s hx);have Htk:=aj (XK im.av k s hx);have tQ:=aj hso;have hsb:=fD _ _ g0;have yA:=aj (fun w=>xK w s hso);have xg:=aj (di.af.alloc hBr (aB (arK s) 54));have Bj:=aj (ah2 wr (aB (arK s) 54));have Bl:=aj ((heap_alloc_old wr (aB (arK s) 54) tO).trans hF);clear hx hso hbel hF HF di;go_upto_region 7 with fail
  have hz1:(wr.alloc (aB (arK s) 54)).heap.size=wr.heap.size+1:=arG;generalize wr.alloc (aB (arK s) 54)=w1 at *;clear g0 g1 g2 g3 g4 g5 g6 g7 g8 i0 i1 i2 i3 i4 i5 i6 i7 i8 i9 dV i11 i12 dZ eB;obtain⟨c0,c1,c2,c3,c4,c5,c6,c7,c8⟩:=lK Bj.af;go_wp2_with fail;refine(yA.af w1).mono ?_;rintro e w2 ⟨rfl,hb2⟩;have hz2:=hb2.size;have aif:=aj ((hb2.block wr.heap.size wP).trans Bj.af);have ac4:=aj ((hb2.block w.heap.size wP).trans Bl.af);have Oa:=aj (xg.af.trans (hb2.mono wP));have Hb2:=aj hb2;clear hb2 c0 c1 c2 c3 c4 c5 c6 c7 c8 yA
  cases hrt:bC s with
  | false=>
   have Hn:Hid (jE im=false):=aj (by rw[Ae.af,mM.af,uW (SX hrt)]);clear hrt;go_wp2;go_ret;exact⟨by rw[Hn.af];rfl,Oa.af⟩
  | true=>
  have aii:=Ta hrt;have ZL:=aj hrt;clear hrt;obtain⟨c0,c1,c2,c3,c4,c5,c6,c7,c8⟩:=lK aif.af;obtain⟨i0,i1,i2,i3,i4,i5,i6,i7,i8,i9,dV,i11,i12,dZ,eB⟩:=bY ac4.af;go_upto_region 9 with fail
  go_cut [67] (fun s67 wx=>s67=.bool (!qW im.aI im.aJ s)/\Below w1 w1 wx)
  case first=>
   cases hd:s.asg with
   | false=>
    rw[hd]at c6;have Hy:=aj (XL (aI:=im.aI) (bf:=im.aJ) ZL.af hd);clear hd;go_wp2_with fail;go_meet;exact⟨by rw[Hy.af];rfl,Hb2.af⟩
   | true=>
    rw[hd]at c6;have ZM:=aj hd;clear hd;have anY:=tQ.af.value;have anZ:=tQ.af.size;by_cases hk3:s.ar3=3
    ·have Hy:=aj (ZK (aI:=im.aI) (bf:=im.aJ) ZL.af ZM.af hk3)
     have hbk:(s.ar3==3)=true:=by rw[beq_iff_eq];exact hk3
     have hbn:(s.ar3 != 3)=false:=by rw[bne_eq_false_iff_eq];exact hk3
     clear hk3 i0 i1 i2 i3 i4 i5 i6 i7 i8 i9 dV i11;by_cases hA:s.value<=im.aJ
     ·have hA2:decide (im.aJ<s.value)=false:=by rw[arN];omega
      by_cases hB:s.size<=im.aJ-s.value
      ·have JE:Hid (qW im.aI im.aJ s=true):=aj (by rw[Hy.af,Bool.and_eq_true,arI,arI];omega)
       have hB2:decide (im.aJ-s.value<s.size)=false:=by rw[arN];omega
       go_wp2_with fail;go_meet;exact⟨by rw[JE.af];rfl,Hb2.af⟩
      ·have JE:Hid (qW im.aI im.aJ s=false):=aj (by rw[Hy.af,ahJ,arN,arN];omega)
       have hB2:decide (im.aJ-s.value<s.size)=true:=by rw[arI];omega
       go_wp2_with fail;go_meet;exact⟨by rw[JE.af];rfl,Hb2.af⟩
     ·have hA2:decide (im.aJ<s.value)=true:=by rw[arI];omega
      have JE:Hid (qW im.aI im.aJ s=false):=aj (by rw[Hy.af,ahJ,arN,arN];omega);go_wp2_with fail;go_meet;exact⟨by rw[JE.af];rfl,Hb2.af⟩
    ·have Hy:=aj (S9 (aI:=im.aI) (bf:=im.aJ) ZL.af ZM.af hk3)
     have hbk:(s.ar3==3)=false:=by rw[arM];exact hk3
     have hbn:(s.ar3 != 3)=true:=by rw[bne_iff_ne];exact hk3
     have HHx:=aj (HH.af w2 s.value s.size (Oa.af) tQ.af.value ⟨aii.2,tQ.af.size.2⟩);go_wp2_with fail;refine HHx.af.mono ?_;rintro e w3 ⟨rfl,hb3⟩;have Hb3:=aj hb3;clear hb3 i0 i1 i2 i3 i4 i5 i6 i7 i8 i9 dV i11 i12 dZ eB HHx
     cases hh:bZ im.aI s.value s.size 0 with
     | true=>
      have JE:Hid (qW im.aI im.aJ s=true):=aj (by rw[Hy.af,hh]);clear hh;go_wp2_with fail;go_meet;exact⟨by rw[JE.af];rfl,Hb2.af.trans (Hb3.af.mono wP)⟩
     | false=>
      have JE:Hid (qW im.aI im.aJ s=false):=aj (by rw[Hy.af,hh]);clear hh;go_wp2_with fail;go_meet;exact⟨by rw[JE.af];rfl,Hb2.af.trans (Hb3.af.mono wP)⟩
  case rest=>
   obtain⟨rfl,hbc⟩:=hcut;have hzc:=hbc.size;have ZN:=(hbc.block w.heap.size wP).trans Bl.af;clear i0 i1 i2 i3 i4 i5 i6 i7 i8 i9 dV i11 i12 dZ eB c0 c1 c2 c3 c4 c5 c6 c7 c8;have Hbc:=aj hbc;have HBc:=aj (xg.af.trans (hbc.mono wP));have arf:=aj ZN;clear hbc ZN
   cases hyb:qW im.aI im.aJ s with
   | false=>
    have Hn:Hid (jE im=false):=aj (by rw[Ae.af,mM.af,uW hyb]);clear hyb;go_wp2;go_ret;exact⟨by rw[Hn.af];rfl,HBc.af⟩
   | true=>
   have Hyb:=aj hyb;clear hyb;generalize wr.heap.size=zr at *;go_wp2_with fail;go_loopw [5] (fun i wi=>∃(q:Nat),i=ah q/\q<=k/\(im.av.take q).all (fun t=> !fI s t)=true/\Below w1 w1 wi) (fun i _=>k-(intOf i).toNat);exact⟨0,rfl,alg _,rfl,Hbc.af⟩;obtain⟨q,rfl,hq,hall,hbi⟩:=hrel;have iT:=aj hall;have qi:=aj hbi;have hzi:=hbi.size;clear hall;by_cases hlt2:q<k
   ·obtain⟨t,hxt⟩:∃t,im.av[q]? =some t:=⟨_,gP wP⟩
    obtain⟨_,g0,g1,g2,g3,g4,g5,g6,g7,g8⟩:=(dP.af.below (xg.af.trans (hbi.mono wP))).rR q t hxt;have Dq:=aj (jM (fun t=> !fI s t) im.av q t hxt);have ZO:=aj (fun h=>JD (aI:=im.aI) (bf:=im.aJ) (done:=im.av.take k) (s:=s) (l:=im.av.drop (k+1)) (q:=q) (t:=t) (by rw[List.getElem?_take];simp[hlt2,hxt]) h);obtain⟨c0,c1,c2,c3,c4,c5,c6,c7,c8⟩:=lK ((hbi.block zr wP).trans Bj.af);obtain⟨i0,i1,i2,i3,i4,i5,i6,i7,i8,i9,dV,i11,i12,dZ,eB⟩:=bY ((hbi.block w.heap.size wP).trans Bl.af);have alo:=fD _ _ g0;have hsw:=fD _ _ c0;have hqs:q<im.av.length:=wP;have FP:=aj (hbi.alloc hzi (aB (arK t) 54));have cs0:=(qF wr (aB (arK t) 54) (ak zr 0) hsw).trans c0;have cs1:=(qF wr (aB (arK t) 54) (ak zr 1) hsw).trans c1;have cs2:=(qF wr (aB (arK t) 54) (ak zr 2) hsw).trans c2;have cs6:=(qF wr (aB (arK t) 54) (ak zr 6) hsw).trans c6;clear hxt hbi qi c0 c1 c2 c3 c4 c5 c6 c7 c8;go_upto_region 15 with fail
    have HFt:=ah2 wr (aB (arK t) 54);generalize wr.alloc (aB (arK t) 54)=w5 at *;clear g0 g1 g2 g3 g4 g5 g6 g7 g8 i0 i1 i2 i3 i4 i5 i6 i7 i8 i9 dV i11 i12 dZ eB;obtain⟨d0,d1,d2,d3,d4,d5,d6,d7,d8⟩:=lK HFt;clear HFt
    cases e1:s.asg with
    | false=>
     rw[e1]at cs6;have Hm:Hid (fI s t=false):=aj (by unfold fI;rw[e1];rfl);have j4:Hid ((im.av.take (q+1)).all (fun t=> !fI s t)=true):=aj (by rw[Dq.af,iT.af,Hm.af];rfl);go_wp2;go_roundw;exact⟨q+1,arH,wP,j4.af,FP.af⟩;simp[intOf];omega
    | true=>
    rw[e1]at cs6
    cases e2:t.asg with
    | false=>
     rw[e2]at d6;have Hm:Hid (fI s t=false):=aj (by unfold fI;rw[e1,e2];rfl);have j4:Hid ((im.av.take (q+1)).all (fun t=> !fI s t)=true):=aj (by rw[Dq.af,iT.af,Hm.af];rfl);go_wp2;go_roundw;exact⟨q+1,arH,wP,j4.af,FP.af⟩;simp[intOf];omega
    | true=>
    rw[e2]at d6;by_cases e3:s.arT=t.arT
    case neg=>
     have b3:(s.arT==t.arT)=false:=by rw[arM];exact e3
     have Hm:Hid (fI s t=false):=aj (by unfold fI;rw[decide_eq_false (p:=s.arT=t.arT) e3];simp);have j4:Hid ((im.av.take (q+1)).all (fun t=> !fI s t)=true):=aj (by rw[Dq.af,iT.af,Hm.af];rfl);go_wp2;go_roundw;exact⟨q+1,arH,wP,j4.af,FP.af⟩;simp[intOf];omega
    have b3:(s.arT==t.arT)=true:=by rw[beq_iff_eq];exact e3
    by_cases e4:s.asc=t.asc
    case pos=>
     have b4:(s.asc==t.asc)=true:=by rw[beq_iff_eq];exact e4
     have Hm:Hid (fI s t=true):=aj (by unfold fI;rw[e1,e2,decide_eq_true (p:=s.arT=t.arT) e3,decide_eq_true (p:=s.asc=t.asc) e4];rfl);have Hn:Hid (jE im=false):=aj (by rw[Ae.af,mM.af,ZO.af Hm.af]);go_wp2;go_ret;exact⟨by rw[Hn.af];rfl,xg.af.trans (FP.af.mono wP)⟩
    have b4:(s.asc==t.asc)=false:=by rw[arM];exact e4
    cases e5:s.old with
    | true=>
     rw[e5]at cs2;have Hm:Hid (fI s t=false):=aj (by unfold fI;rw[decide_eq_false (p:=s.asc=t.asc) e4,e5];simp);have j4:Hid ((im.av.take (q+1)).all (fun t=> !fI s t)=true):=aj (by rw[Dq.af,iT.af,Hm.af];rfl);go_wp2;go_roundw;exact⟨q+1,arH,wP,j4.af,FP.af⟩;simp[intOf];omega
    | false=>
    rw[e5]at cs2
    cases e6:t.old with
    | true=>
     rw[e6]at d2;have Hm:Hid (fI s t=false):=aj (by unfold fI;rw[decide_eq_false (p:=s.asc=t.asc) e4,e5,e6];simp);have j4:Hid ((im.av.take (q+1)).all (fun t=> !fI s t)=true):=aj (by rw[Dq.af,iT.af,Hm.af];rfl);go_wp2;go_roundw;exact⟨q+1,arH,wP,j4.af,FP.af⟩;simp[intOf];omega
    | false=>
     rw[e6]at d2;have Hm:Hid (fI s t=true):=aj (by unfold fI;rw[e1,e2,decide_eq_true (p:=s.arT=t.arT) e3,e5,e6];simp);have Hn:Hid (jE im=false):=aj (by rw[Ae.af,mM.af,ZO.af Hm.af]);go_wp2;go_ret;exact⟨by rw[Hn.af];rfl,xg.af.trans (FP.af.mono wP)⟩
   ·have j4:Hid ((im.av.take k).all (fun t=> !fI s t)=true):=aj (by have:=iT.af;rwa [show q=k by omega]at this)
    have aij:Hid (jE im=lu im.aI im.aJ (im.av.take (k+1)) (im.av.drop (k+1))):=aj (by rw[Ae.af,mM.af,Qo Hyb.af j4.af,Htk.af]);have ZP:=(hbi.block w.heap.size wP).trans Bl.af;clear hbi;go_wp2;go_roundw;exact⟨k+1,arH,wP,aij.af,xg.af.trans (qi.af.mono wP),ZP,wP⟩;simp[intOf];omega
 ·have hd:Hid (jE im=true):=aj (by rw[Ae.af,zY wP];rfl)
  clear hbel hF;go_wp2;go_ret;exact⟨by rw[hd.af];rfl,di.af⟩
theorem W9 {α:Type} (f:α->Bool) (l:List α) (k:Nat) (x:α) (hx:l[k]? =some x) (hf:f x=false):l.all f=false:=by
 rw[List.all_eq_false];exact⟨x,dH hx,by simp[hf]⟩
theorem ahL (w:World) (v:jv) (im:bK) (hne:LB GU (·<w.heap.size) w v.ar6 im.ar6) (hrp:LB lG (·<w.heap.size) w v.aF im.aF) (hz:im.arT.length<=9223372036854775807):
  Calls Tryz.prog 84 #[.agg (aW v im)] w fun e w'=>e=.returned (.bool (mH im))/\Below w w w':=by
 have hsn:=size_mk im.arT;unfold aW;obtain⟨na,nb,N7,FN,sQ,hnm,hnc,Cw⟩:=hne.at;obtain⟨ra,rb,roff,nO,kD,hrm,hrc,j3⟩:=hrp.at;rw[sQ,kD];have B1:=aj ((Below.refl w.heap.size w).alloc (oD _) (aB #[ax im.arT,ah im.ar4,v.aI,.slice na im.ar6.length FN,.slice ra im.aF.length nO,v.av,v.ar9,v.ar8,ah im.ase,v.aO,v.asf,v.asb,v.aP,v.bf,ah im.aJ] 44));have F1:=aj (ah2 w (aB #[ax im.arT,ah im.ar4,v.aI,.slice na im.ar6.length FN,.slice ra im.aF.length nO,v.av,v.ar9,v.ar8,ah im.ase,v.aO,v.asf,v.asb,v.aP,v.bf,ah im.aJ] 44));have Cx:=aj Cw;have qh:=aj j3;have Hh:Hid (mH im=(HZ im&&im.ar6.all uQ&&im.aF.all sizedB)):=aj rfl;have H0:Hid (HZ im=((decide (im.arT=[])||iN im.arT)&&decide (0<=im.ar4)&&decide (im.ar4<16)&&decide (im.ar6.length<=16)&&decide (im.aF.length<=16))):=aj rfl;clear hne hrp Cw j3 sQ kD;go_enter Tryz.func84,Tryz.ntmps84;go_upto_region 1 with fail
 go_cut [36] (fun s36 wx=>s36=.bool (!HZ im)/\Below w w wx/\wx.heap[w.heap.size]? =some (aB #[ax im.arT,ah im.ar4,v.aI,.slice na im.ar6.length FN,.slice ra im.aF.length nO,v.av,v.ar9,v.ar8,ah im.ase,v.aO,v.asf,v.asb,v.aP,v.bf,ah im.aJ] 44))
 case first=>
  cases hq:im.arT.isEmpty with
  | true=>
   have Hv:=aj (List.isEmpty_iff.1 hq);go_wp2_with fail
   all_goals go_meet
   all_goals first
    | (refine ⟨mo ?_,B1.af,F1.af⟩;rw[H0.af,Rq];simp[Hv.af];done)
    | (refine ⟨mo ?_,B1.af,F1.af⟩;rw[H0.af,Rq];simp[Hv.af];omega)
  | false=>
   have Hv:Hid (decide (im.arT=[])=false):=aj (by rw[arN];intro e;rw[e]at hq;simp at hq);go_wp2_with fail;refine(GX _ im.arT hz).mono ?_;rintro e w2 ⟨rfl,rfl⟩
   cases hn:iN im.arT
   all_goals
    have Hn:=aj hn;go_wp2_with fail
    all_goals go_meet
    all_goals first
     | (refine ⟨mo ?_,B1.af,F1.af⟩;rw[H0.af,Rq];simp[Hv.af,Hn.af];done)
     | (refine ⟨mo ?_,B1.af,F1.af⟩;rw[H0.af,Rq];simp[Hv.af,Hn.af];omega)
 case rest=>
  obtain⟨rfl,hbw,hfw⟩:=hcut;have Bw:=aj hbw;obtain⟨c0,c1,c2,c3,c4,c5,c6,c7,c8,c9,c10,c11,c12,c13,c14⟩:=bY hfw;clear hbw hfw c0 c1 c2 c5 c6 c7 c8 c9 c10 c11 c12 c13 c14 H0 B1 F1;generalize HZ im=h0 at *
  cases h0 with
  | false=>
   have Hr:Hid (mH im=false):=aj (by rw[Hh.af];rfl);go_wp2;go_ret;exact⟨by rw[Hr.af];rfl,Bw.af⟩
  | true=>
   go_wp2_with fail;go_loop [3,4] (fun i _=>∃k:Nat,i=ah k/\k<=im.ar6.length/\(im.ar6.take k).all uQ=true) (fun i _=>im.ar6.length-(intOf i).toNat);exact⟨0,rfl,alg _,rfl⟩;obtain⟨k,rfl,hk,hall⟩:=hrel;have iT:=aj hall;clear hall;by_cases hlt:k<im.ar6.length
   ·obtain rfl:=Cx.af.addr wP
    obtain⟨n,hx⟩:∃n,im.ar6[k]? =some n:=⟨_,gP hlt⟩;have ZF:=Cx.af.mG wP;obtain⟨c,g0w,g1w,ZG,hnz⟩:=Cx.af.Sj k n hx;have g0:=(Bw.af.cell (p:=(ak nb (N7+k*2))) ZF).trans g0w;have g1:=(Bw.af.cell (p:=(ak nb (N7+k*2+1))) ZF).trans g1w;obtain⟨va,vb,voff,N8,rfl,xQ,hvc,kI⟩:=ZG.at;have yw:=aj kI;have yx:=aj (jM uQ im.ar6 k n hx);have qL:Hid (uQ n=false->mH im=false):=aj (fun h=>by rw[Hh.af,W9 uQ im.ar6 k n hx h];simp);have Hnp:Hid (uQ n=(sizedB n.arT&&decide (n.asi.length<=16)&&n.asi.all iN)):=aj rfl;clear ZG kI hx g0w g1w;go_wp2_with fail;refine(Sl _ n.arT).mono ?_;rintro e w3 ⟨rfl,rfl⟩
    cases hsz:sizedB n.arT with
    | false=>
     have Hr:=aj (qL.af (by rw[Hnp.af,hsz];rfl));go_wp2;go_ret;exact⟨by rw[Hr.af];rfl,Bw.af⟩
    | true=>
     have lX:=aj hsz;by_cases hl:n.asi.length<=16
     case neg=>
      have Hr:=aj (qL.af (by rw[Hnp.af];simp[hl]));have hl2:16<n.asi.length:=wP;go_wp2;go_ret;exact⟨by rw[Hr.af];rfl,Bw.af⟩
     have hl2:¬16<n.asi.length:=wP;go_wp2_with fail;go_loop [4] (fun j=>∃q:Nat,j=ah q/\q<=n.asi.length/\(n.asi.take q).all iN=true) (fun j=>n.asi.length-(intOf j).toNat);exact⟨0,rfl,alg _,rfl⟩;obtain⟨q,rfl,hq,Wp⟩:=hrel;have j4:=aj Wp;clear Wp;by_cases hlt2:q<n.asi.length
     ·obtain rfl:=yw.af.addr wP
      obtain⟨y,hy⟩:∃y,n.asi[q]? =some y:=⟨_,gP hlt2⟩;obtain⟨hv2,hyz⟩:=(yw.af.below Bw.af).I7 q y hy;have Cm:=aj (jM iN n.asi q y hy);have afD:Hid (iN y=false->mH im=false):=aj (fun h=>qL.af (by rw[Hnp.af,W9 iN n.asi q y hy h];simp));clear hy;go_wp2_with fail;refine(GX _ y hyz).mono ?_;rintro e w3 ⟨rfl,rfl⟩
      cases hny:iN y with
      | false=>
       have Hr:=aj (afD.af hny);go_wp2;go_ret;exact⟨by rw[Hr.af];rfl,Bw.af⟩
      | true=>
       have Hny:=aj hny;go_wp2;go_round;exact⟨q+1,arH,wP,by rw[Cm.af,j4.af,Hny.af];rfl⟩;simp[intOf];omega
     ·have Hv:Hid (n.asi.all iN=true):=aj (by have:=j4.af;rw[dh wP]at this;exact this)
      go_wp2;go_round
      case rel=>
       have hfin:(im.ar6.take (k+1)).all uQ=true:=by rw[yx.af,iT.af,Hnp.af,lX.af,Hv.af];simp[hl]
       exact⟨k+1,arH,wP,by simpa using hfin⟩
      simp[intOf];omega
   ·have QE:Hid (im.ar6.all uQ=true):=aj (by have:=iT.af;rw[dh wP]at this;exact this)
    go_wp2_with fail;go_loop [5] (fun i=>∃q:Nat,i=ah q/\q<=im.aF.length/\(im.aF.take q).all sizedB=true) (fun i=>im.aF.length-(intOf i).toNat);exact⟨0,rfl,alg _,rfl⟩;obtain⟨q,rfl,hq,Wp⟩:=hrel;have j4:=aj Wp;clear Wp;by_cases hlt2:q<im.aF.length
    ·obtain rfl:=qh.af.addr wP
     obtain⟨y,hy⟩:∃y,im.aF[q]? =some y:=⟨_,gP hlt2⟩;obtain⟨hv2,hyz⟩:=(qh.af.below Bw.af).I7 q y hy;have Cm:=aj (jM sizedB im.aF q y hy);have afD:Hid (sizedB y=false->mH im=false):=aj (fun h=>by rw[Hh.af,W9 sizedB im.aF q y hy h];simp);clear hy;go_wp2_with fail;refine(Sl _ y).mono ?_;rintro e w3 ⟨rfl,rfl⟩
     cases hny:sizedB y with
     | false=>
      have Hr:=aj (afD.af hny);go_wp2;go_ret;exact⟨by rw[Hr.af];rfl,Bw.af⟩
     | true=>
      have Hny:=aj hny;go_wp2;go_round;exact⟨q+1,arH,wP,by rw[Cm.af,j4.af,Hny.af];rfl⟩;simp[intOf];omega
    ·have Hr:Hid (mH im=true):=aj (by
      have h:=j4.af;rw[dh wP]at h;rw[Hh.af,QE.af,h];rfl)
     go_wp2;go_ret;exact⟨by rw[Hr.af];rfl,Bw.af⟩
theorem ahM (w:World) (v:jv) (im:bK) (hs:LB rQ (·<w.heap.size) w v.aI im.aI) (hr:∀s∈im.aI,-9223372036854775808<=s.at_/\s.size<=9223372036854775807):
  Calls Tryz.prog 85 #[.agg (aW v im)] w fun e w'=>e=.returned (.bool (jL im.aI))/\Below w w w':=by
 unfold aW;obtain⟨sa,sb,yu,jO,hsv,hsm,hsc,hat⟩:=hs.at;rw[hsv];have dP:=aj hat;have Hr:=aj hr;have Hd:Hid (jL im.aI=(decide (1<=im.aI.length)&&decide (im.aI.length<=8)&&ku 0 im.aI)):=aj rfl;clear hs hat hsv hr;by_cases hl1:1<=im.aI.length
 case neg=>
  have Hn:Hid (jL im.aI=false):=aj (by rw[Hd.af];simp[hl1]);have hl2:im.aI.length<1:=wP;go_enter Tryz.func85,Tryz.ntmps85;go_wp2;go_ret;exact⟨by rw[Hn.af];rfl,(Below.refl _ _).alloc (oD _) _⟩
 by_cases hl2:im.aI.length<=8
 case neg=>
  have Hn:Hid (jL im.aI=false):=aj (by rw[Hd.af];simp[hl2]);have hl3:¬im.aI.length<1:=wP;have hl4:8<im.aI.length:=wP;go_enter Tryz.func85,Tryz.ntmps85;go_wp2;go_ret;exact⟨by rw[Hn.af];rfl,(Below.refl _ _).alloc (oD _) _⟩
 have hl3:¬im.aI.length<1:=wP;have hl4:¬8<im.aI.length:=wP;have Cn:Hid (jL im.aI=ku 0 im.aI):=aj (by rw[Hd.af];simp[hl1,hl2]);clear Hd;go_enter Tryz.func85,Tryz.ntmps85;go_wp2;go_loopw [3] (fun i wr=>∃(k:Nat) (e:Int),i=ah k/\k<=im.aI.length/\0<=e/\e<=200000/\ku 0 im.aI=ku e (im.aI.drop k)/\(k=0->e=0)/\(∀p,0<k->im.aI[k-1]? =some p->e=ny (p.at_+p.size)/\0<=p.at_/\p.at_<=65536/\1<=p.size/\p.size<=65536)/\Below w w wr/\wr.cell? (ak w 2)=some (.slice sa im.aI.length jO)/\w.heap.size<wr) (fun i _=>im.aI.length-(intOf i).toNat);exact⟨0,0,rfl,alg _,wP,wP,arG,fun _=>rfl,fun p h=>absurd h (Nat.lt_irrefl 0),(Below.refl _ _).alloc (oD _) _,arG,arG⟩;obtain⟨k,e,rfl,hk,he0,he1,hse,hk0,hkp,hbel,hq,tO⟩:=hrel;have o9:=aj hse;have Hk0:=aj hk0;have Hkp:=aj hkp;have di:=aj hbel;have Hq:=aj hq;have hBr:=hbel.size;by_cases hlt:k<im.aI.length
 ·obtain rfl:=dP.af.addr wP
  obtain⟨s,hx⟩:∃s,im.aI[k]? =some s:=⟨_,gP hlt⟩;obtain⟨c,g0,g1,g2,g3,hc⟩:=(dP.af.below hbel).Ki k s hx;obtain⟨ca,cc,rfl⟩:=hc.form;have hr:=Hr.af s (dH hx);have mM:=aj (drop_cons im.aI k s hx);have Hx:=aj hx;have hcm:=hc.max;clear hse hx hc hk0 hkp;by_cases hg:0<=s.at_/\s.at_<=65536/\s.at_%64=0/\1<=s.size/\s.at_+s.size<=65536/\(s.bytes.length:Int)<=s.size/\0<=s.perm/\s.perm<=7
  ·have Tn:Hid (e<=s.at_->JB e s):=aj (fun h=>⟨h,hg.1,hg.2.1,hg.2.2.1,hg.2.2.2.1,hg.2.2.2.2.1,hg.2.2.2.2.2.1,hg.2.2.2.2.2.2.1,hg.2.2.2.2.2.2.2⟩)
   have sZ:Hid (e<=s.at_->ku 0 im.aI=ku (ny (s.at_+s.size)) (im.aI.drop (k+1))):=aj (fun h=>by rw[o9.af,mM.af,M6 (Tn.af h)]);have Hno:Hid (¬e<=s.at_->jL im.aI=false):=aj (fun h=>by rw[Cn.af,o9.af,mM.af,FO (fun hg=>h hg.1)]);obtain⟨h2,h3,h4,h5,h6,h7,h8,h9⟩:=hg
   have sP:Hid (∀p,0<k+1->im.aI[k+1-1]? =some p->ny (s.at_+s.size)=ny (p.at_+p.size)/\0<=p.at_/\p.at_<=65536/\1<=p.size/\p.size<=65536):=aj (fun p _ hp=>by
    rw[GI,Hx.af]at hp;obtain rfl:=Option.some.inj hp;exact⟨rfl,h2,h3,h5,wP⟩)
   have Hu0:Hid (0<=ny (s.at_+s.size)/\ny (s.at_+s.size)<=200000):=aj (by unfold ny;omega);have hm:(s.at_%64 != 0)=false:=by rw[bne_eq_false_iff_eq];exact h4
   clear h4;generalize rA:s.at_=sat at *;generalize amo:s.size=SS at *;generalize s.perm=ZC at *;have CB:=aj rA;have arh:=aj amo;clear rA amo;by_cases hk1:k=0
   ·subst hk1
    have he:=Hk0.af rfl;subst he;have Hy:=aj (sZ.af h2);simp only[Nat.zero_mul,Nat.add_zero]at g0 g1 g2 g3;clear hbel;go_wp2_with fail;go_quiet (fail);go_wp2;go_roundw;exact⟨1,_,arH,wP,Hu0.af.1,Hu0.af.2,Hy.af,fun h=>wP,sP.af,eZ (di.af.alloc hBr _) _,by rw[World.cell?_drewN,qF _ _ _ tO];exact Hq.af,by simp;omega⟩;simp[intOf];omega
   ·obtain⟨p,hp⟩:∃p,im.aI[k-1]? =some p:=⟨_,gP wP⟩
    obtain⟨hpe,p0,p1,p2,p3⟩:=Hkp.af p wP hp;obtain⟨_,q0,q1,_,_,_⟩:=(dP.af.below hbel).Ki (k-1) p hp;have hk2:0<k:=wP;obtain⟨kk,rfl⟩:∃kk,k=kk+1:=⟨k-1,wP⟩;simp only[GI]at q0 q1;have hsbz:sb<wr:=fD _ _ q0;have amq:(0:Int)<=kk:=wP;have amr:(kk:Int)<im.aI.length:=wP;have ams:kk<im.aI.length:=wP;have afE:0<=p.at_+p.size:=wP;have afF:p.at_+p.size<=1000000:=wP;clear hbel hp;generalize p.at_=pat at *;generalize p.size=psz at *;have Hpe:=aj hpe;clear hpe;by_cases h1:ny (pat+psz)<=sat
    ·have Hy:=aj (sZ.af (by rw[Hpe.af];exact h1))
     go_wp2_with fail;refine wp_region_quiet_lit TA TA ?_
     repeat (any_goals (first | go_big_quiet_step ((go_at_call 76;exact Wo (JA _ _ afE afF))) | quiet_step ((go_at_call 76;exact Wo (JA _ _ afE afF)))))
     all_goals (refine wpQuiet_nil ?_;intro _ hw';obtain⟨nq,hw''⟩:=hw';subst hw'')
     go_wp2;go_roundw;exact⟨kk+1+1,_,arH,wP,Hu0.af.1,Hu0.af.2,Hy.af,fun h=>wP,sP.af,eZ (di.af.alloc hBr _) _,by rw[World.cell?_drewN,qF _ _ _ tO];exact Hq.af,by simp;omega⟩;simp[intOf];omega
    ·have Hn:Hid (jL im.aI=false):=aj (Hno.af (by rw[Hpe.af];exact h1))
     go_wp2_with fail;refine wp_region_quiet_lit TA TA ?_
     repeat (any_goals (first | go_big_quiet_step ((go_at_call 76;exact Wo (JA _ _ afE afF))) | quiet_step ((go_at_call 76;exact Wo (JA _ _ afE afF)))))
     all_goals (refine wpQuiet_nil ?_;intro _ hw';obtain⟨nq,hw''⟩:=hw';subst hw'')
     go_wp2;go_ret;exact⟨by rw[Hn.af];rfl,eZ (di.af.alloc hBr _) _⟩
  ·have Hn:Hid (jL im.aI=false):=aj (by rw[Cn.af,o9.af,mM.af,FO (fun h=>hg h.2)])
   have Hg:=aj hg;clear hg hbel;generalize s.at_=sat at *;generalize s.size=SS at *;generalize s.perm=ZC at *;go_wp2_with fail
   all_goals first
    | (go_ret;exact⟨by rw[Hn.af];rfl,di.af.alloc hBr _⟩)
    | (exfalso;have:=Hg.af;(try simp only[arM,bne_eq_false_iff_eq,bne_iff_ne,beq_iff_eq,ne_eq]at *);omega)
 ·have Hn:Hid (jL im.aI=true):=aj (by rw[Cn.af,hse,zY wP];rfl)
  clear hse hbel;go_wp2;go_ret;exact⟨by rw[Hn.af];rfl,di.af⟩
end Go.Proofs.YtpjgjeadjjackaaGreat
