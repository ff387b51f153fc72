/- Lemmas. -/
import Derived.Test.YtpjgjeadjjackaaGreatBui4
import Derived.Test.YtpjgjeadjjackaaGreatBui3
import Derived.Deep.CutBlock
set_option linter.unusedVariables false
set_option linter.unusedSimpArgs false
set_option maxHeartbeats 64000000
set_option maxRecDepth 100000
namespace Go.Proofs.YtpjgjeadjjackaaGreat
open Go.RowKit
open Go.Proofs.Tryz renaming prog->asq
open _root_.Bool renaming and_eq_true->pJ,eq_iff_iff->Rq
open Go renaming heap_alloc_new->ah2,heap_alloc_old->dX,wpQuiet_nil->lD
open Go.World renaming block_lt_of_cell?->fD,cell?_alloc_lt->qF
open _root_.List renaming mem_of_getElem?->dH,getElem?_eq_getElem->gP,drop_eq_nil_of_le->zY,all_eq_false->P7
open _root_.Nat renaming zero_le->alg,le_refl->oD
variable {bf e:Int}{done l:List bF}{s:bF}{im:bK}
theorem uW {aI:List lS} (h:qW aI bf s=false):lu aI bf done (s :: l)=false:=by rw[lu,h];rfl
theorem JD {aI:List lS} {q:Nat} {t:bF} (ht:done[q]? =some t) (h:fI s t=true):lu aI bf done (s :: l)=false:=by
 have:(done.all fun t=> !fI s t)=false:=by rw[P7];exact⟨t,dH ht,by simp[h]⟩
 rw[lu,this];simp
theorem Qo {aI:List lS} (h:qW aI bf s=true) (h2:(done.all fun t=> !fI s t)=true):lu aI bf done (s :: l)=lu aI bf (done++[s]) l:=by rw[lu,h,h2];rfl
theorem XK {α:Type} (l:List α) (k:Nat) (x:α) (hx:l[k]? =some x):l.take (k+1)=l.take k++[x]:=by
 obtain⟨h,rfl⟩:=List.getElem?_eq_some_iff.1 hx;rw[List.take_succ_eq_append_getElem h]
theorem SX {aI:List lS} (h:bC s=false):qW aI bf s=false:=by rw[qW,h];rfl
theorem XL {aI:List lS} (h:bC s=true) (hd:s.asg=false):qW aI bf s=true:=by rw[qW,h,hd];rfl
theorem ZK {aI:List lS} (h:bC s=true) (hd:s.asg=true) (hk:s.ar3=3):qW aI bf s=(decide (s.size<=bf)&&decide (s.value<=bf-s.size)):=by rw[qW,h,hd,if_pos hk];rfl
theorem S9 {aI:List lS} (h:bC s=true) (hd:s.asg=true) (hk:s.ar3≠3):qW aI bf s=bZ aI s.value s.size 0:=by rw[qW,h,hd,if_neg hk];rfl
theorem Ta (h:bC s=true):0<=s.value/\0<=s.size:=by
 simp only[bC,pJ,arI]at h;omega
abbrev Tc (s:bF):Array Value:=(arK s)
theorem agT (w:World) (v:jv) (im:bK) (hs:LB rQ (·<w.heap.size) w v.aI im.aI) (hok:∀s∈im.aI,CU s) (hy:LB gq (·<w.heap.size) w v.av im.av) (ht:0<=im.aJ/\im.aJ<=4096):
  Calls asq 60 #[.agg (aW v im)] w fun e w'=>e=.returned (.bool (jE im))/\Below w w w':=by
 obtain⟨sa,sb,yu,jO,hsv,hsm,hsc,hat⟩:=hy.at;obtain⟨eO,cK,bR,gF,bS,dK,d9,ek,fM,fO,iH⟩:=v;simp only at hsv;subst hsv
 have HH:Hid (∀(w':World) (x n:Int),Below w w w'->(-9223372036854775808<=x/\x<=9223372036854775807)->(0<=n/\n<=9223372036854775807)->
  Calls asq 113 #[.agg (aW ⟨eO,cK,bR,.slice sa im.av.length jO,bS,dK,d9,ek,fM,fO,iH⟩ im),.agg #[ah x,ah n,ah 0]] w' fun e w''=>e=.returned (.bool (bZ im.aI x n 0))/\Below w' w' w''):=aj (fun w' x n hb hx hn=>G7 w' _ im x n 0 ((hs.below hb).mono hb.size) hok hx hn abD)
 unfold aW at *;have dP:=aj hat;have HD:Hid (jE im=(decide (im.av.length<=512)&&lu im.aI im.aJ [] im.av)):=aj rfl;clear hs hok hat hy;generalize hI:(Array.mk [ax im.arT,ah im.ar4,eO,cK,bR,.slice sa im.av.length jO,bS,dK,ah im.ase,d9,ek,fM,fO,iH,ah im.aJ]:Array Value)=I at HH;have F0:=aj (ah2 w (.cells I 44 (0,0)));have B1:=aj ((Below.refl w.heap.size w).alloc (oD _) (.cells I 44 (0,0)));subst hI;by_cases h5:im.av.length<=512
 case neg=>
  have Hn:Hid (jE im=false):=aj (by rw[HD.af,decide_eq_false (p:=im.av.length<=512) h5];rfl);have h6:512<im.av.length:=wP;go_enter Tryz.func60,Tryz.ntmps60;go_wp2;go_ret;exact⟨by rw[Hn.af];rfl,B1.af⟩
 have h6:¬512<im.av.length:=wP;have o9:Hid (jE im=lu im.aI im.aJ [] im.av):=aj (by rw[HD.af,decide_eq_true (p:=im.av.length<=512) h5];rfl);clear HD;go_enter Tryz.func60,Tryz.ntmps60;go_wp2_with fail
 go_loopw [14] (fun i wr=>∃(k:Nat),i=ah k/\k<=im.av.length/\jE im=lu im.aI im.aJ (im.av.take k) (im.av.drop k)/\Below w w wr/\
  wr.heap[w.heap.size]? =some (aB #[ax im.arT,ah im.ar4,eO,cK,bR,.slice sa im.av.length jO,bS,dK,ah im.ase,d9,ek,fM,fO,iH,ah im.aJ] 44)/\w.heap.size<wr) (fun i _=>im.av.length-(intOf i).toNat)
 exact⟨0,rfl,alg _,by rw[o9.af];simp,B1.af,F0.af,arG⟩;obtain⟨k,rfl,hk,hse,hbel,hF,tO⟩:=hrel;have Ae:=aj hse;have di:=aj hbel;have HF:=aj hF;have hBr:=hbel.size;clear hse o9;by_cases hlt:k<im.av.length
 ·obtain rfl:=dP.af.addr wP
  obtain⟨s,hx⟩:∃s,im.av[k]? =some s:=⟨_,gP hlt⟩;obtain⟨hso,g0,g1,g2,g3,g4,g5,g6,g7,g8⟩:=(dP.af.below hbel).rR k s hx;have mM:=aj (drop_cons im.av k s hx);have Htk:=aj (XK im.av k s hx);have tQ:=aj hso;have hsb:=fD _ _ g0;have yA:=aj (fun w=>Kj w s hso);have xg:=aj (di.af.alloc hBr (.cells (Tc s) 54 (0,0)));have Bj:=aj (ah2 wr (.cells (Tc s) 54 (0,0)));have Bl:=aj ((dX wr (.cells (Tc s) 54 (0,0)) tO).trans hF);unfold Tc at *;clear hx hso hbel hF HF di;go_upto_block 2 with fail
  have hz1:(wr.alloc (aB (arK s) 54)).heap.size=wr.heap.size+1:=arG;generalize wr.alloc (aB (arK s) 54)=w1 at *;clear g0 g1 g2 g3 g4 g5 g6 g7 g8;go_cut [3] (fun s3 wx=>s3=ah k/\qW im.aI im.aJ s=true/\Below w1 w1 wx)
  case first=>
   obtain⟨c0,c1,c2,c3,c4,c5,c6,c7,c8⟩:=lK Bj.af;go_wp2_with fail;refine(yA.af w1).mono ?_;rintro e w2 ⟨rfl,hb2⟩;have hz2:=hb2.size;have aif:=aj ((hb2.block wr.heap.size wP).trans Bj.af);have ac4:=aj ((hb2.block w.heap.size wP).trans Bl.af);have Oa:=aj (xg.af.trans (hb2.mono wP));have Hb2:=aj hb2;clear hb2 c0 c1 c2 c3 c4 c5 c6 c7 c8 yA
   cases hrt:bC s with
   | false=>
    have Hn:Hid (jE im=false):=aj (by rw[Ae.af,mM.af,uW (SX hrt)]);rw[uU hrt];clear hrt;go_wp2;go_ret;exact⟨by rw[Hn.af];rfl,Oa.af⟩
   | true=>
    have aii:=Ta hrt;have ZL:=aj hrt;rw[CS hrt];clear hrt;obtain⟨c0,c1,c2,c3,c4,c5,c6,c7,c8⟩:=lK aif.af
    cases hd:s.asg with
    | false=>
     rw[hd]at c6;have Hy:=aj (XL (aI:=im.aI) (bf:=im.aJ) ZL.af hd);clear hd;go_wp2_with fail;go_meet;exact⟨rfl,Hy.af,Hb2.af⟩
    | true=>
     rw[hd]at c6;have ZM:=aj hd;clear hd;by_cases hk3:s.ar3=3
     ·have Hy:=aj (ZK (aI:=im.aI) (bf:=im.aJ) ZL.af ZM.af hk3)
      obtain⟨i0,i1,i2,i3,i4,i5,i6,i7,i8,i9,dV,i11,i12,dZ,eB⟩:=bY ac4.af;have hbk:(s.ar3==3)=true:=by rw[beq_iff_eq];exact hk3
      have anY:=tQ.af.value;have anZ:=tQ.af.size;clear i0 i1 i2 i3 i4 i5 i6 i7 i8 i9 dV i11 i12 dZ hk3;by_cases hA:s.size<=im.aJ
      ·by_cases hB:s.value<=im.aJ-s.size
       ·have JE:Hid (qW im.aI im.aJ s=true):=aj (by rw[Hy.af];simp[hA,hB])
        have hA2:¬im.aJ<s.size:=wP;have hB2:¬im.aJ-s.size<s.value:=wP;go_wp2_with fail;go_meet;exact⟨rfl,JE.af,Hb2.af⟩
       ·have Hn:Hid (jE im=false):=aj (by rw[Ae.af,mM.af,uW (by rw[Hy.af];simp[hB])])
        have hA2:¬im.aJ<s.size:=wP;have hB2:im.aJ-s.size<s.value:=wP;go_wp2;go_ret;exact⟨by rw[Hn.af];rfl,Oa.af⟩
      ·have Hn:Hid (jE im=false):=aj (by rw[Ae.af,mM.af,uW (by rw[Hy.af];simp[hA])])
       have hA2:im.aJ<s.size:=wP;go_wp2;go_ret;exact⟨by rw[Hn.af];rfl,Oa.af⟩
     ·have Hy:=aj (S9 (aI:=im.aI) (bf:=im.aJ) ZL.af ZM.af hk3)
      obtain⟨i0,i1,i2,i3,i4,i5,i6,i7,i8,i9,dV,i11,i12,dZ,eB⟩:=bY ac4.af;have hbk:(s.ar3==3)=false:=by rw[arM];exact hk3
      have HHx:=aj (HH.af w2 s.value s.size (Oa.af) tQ.af.value ⟨aii.2,tQ.af.size.2⟩);go_wp2_with fail;refine HHx.af.mono ?_;rintro e w3 ⟨rfl,hb3⟩;have Hb3:=aj hb3;clear hb3 i0 i1 i2 i3 i4 i5 i6 i7 i8 i9 dV i11 i12 dZ eB HHx
      cases hh:bZ im.aI s.value s.size 0 with
      | true=>
       have JE:Hid (qW im.aI im.aJ s=true):=aj (by rw[Hy.af,hh]);clear hh;go_wp2_with fail;go_meet;exact⟨rfl,JE.af,Hb2.af.trans (Hb3.af.mono wP)⟩
      | false=>
       have Hn:Hid (jE im=false):=aj (by rw[Ae.af,mM.af,uW (by rw[Hy.af,hh])]);clear hh;go_wp2;go_ret;exact⟨by rw[Hn.af];rfl,Oa.af.trans (Hb3.af.mono wP)⟩
  case rest=>
   obtain⟨rfl,hyb,hbc⟩:=hcut;have Hyb:=aj hyb;have hzc:=hbc.size;have ZN:=(hbc.block w.heap.size wP).trans Bl.af;obtain⟨i0,i1,i2,i3,i4,i5,i6,i7,i8,i9,dV,i11,i12,dZ,eB⟩:=bY ZN;have Hbc:=aj hbc;clear hyb hbc ZN i0 i1 i2 i3 i4 i6 i7 i8 i9 dV i11 i12 dZ eB yA;generalize wr.heap.size=zr at *;go_wp2_with fail;go_loopw [60] (fun i wi=>∃(q:Nat),i=ah q/\q<=k/\(im.av.take q).all (fun t=> !fI s t)=true/\Below w1 w1 wi) (fun i _=>k-(intOf i).toNat);exact⟨0,rfl,alg _,rfl,Hbc.af⟩;obtain⟨q,rfl,hq,hall,hbi⟩:=hrel;have iT:=aj hall;have qi:=aj hbi;have hzi:=hbi.size;clear hall;by_cases hlt2:q<k
   ·obtain⟨t,hxt⟩:∃t,im.av[q]? =some t:=⟨_,gP wP⟩
    obtain⟨_,g0,g1,g2,g3,g4,g5,g6,g7,g8⟩:=(dP.af.below (xg.af.trans (hbi.mono wP))).rR q t hxt;have Dq:=aj (jM (fun t=> !fI s t) im.av q t hxt);have ZO:=aj (fun h=>JD (aI:=im.aI) (bf:=im.aJ) (done:=im.av.take k) (s:=s) (l:=im.av.drop (k+1)) (q:=q) (t:=t) (by rw[List.getElem?_take];simp[hlt2,hxt]) h);obtain⟨c0,c1,c2,c3,c4,c5,c6,c7,c8⟩:=lK ((hbi.block zr wP).trans Bj.af);have alo:=fD _ _ g0;have hsw:=fD _ _ c0;have FP:=aj (hbi.alloc hzi (aB (arK t) 54));have cs0:=(qF wr (aB (arK t) 54) (ak zr 0) hsw).trans c0;have cs1:=(qF wr (aB (arK t) 54) (ak zr 1) hsw).trans c1;have cs2:=(qF wr (aB (arK t) 54) (ak zr 2) hsw).trans c2;have cs6:=(qF wr (aB (arK t) 54) (ak zr 6) hsw).trans c6;clear hxt hbi qi c0 c1 c2 c3 c4 c5 c6 c7 c8;go_upto_region 17 with fail
    have HFt:=ah2 wr (aB (arK t) 54);generalize wr.alloc (aB (arK t) 54)=w5 at *;obtain⟨d0,d1,d2,d3,d4,d5,d6,d7,d8⟩:=lK HFt;clear HFt
    cases e1:s.asg with
    | false=>
     rw[e1]at cs6;have Hm:Hid (fI s t=false):=aj (by unfold fI;rw[e1];rfl);have j4:Hid ((im.av.take (q+1)).all (fun t=> !fI s t)=true):=aj (by rw[Dq.af,iT.af,Hm.af];rfl);go_wp2;go_roundw;exact⟨q+1,arH,wP,j4.af,FP.af⟩;simp[intOf];omega
    | true=>
    rw[e1]at cs6
    cases e2:t.asg with
    | false=>
     rw[e2]at d6;have Hm:Hid (fI s t=false):=aj (by unfold fI;rw[e1,e2];rfl);have j4:Hid ((im.av.take (q+1)).all (fun t=> !fI s t)=true):=aj (by rw[Dq.af,iT.af,Hm.af];rfl);go_wp2;go_roundw;exact⟨q+1,arH,wP,j4.af,FP.af⟩;simp[intOf];omega
    | true=>
    rw[e2]at d6;by_cases e3:s.arT=t.arT
    case neg=>
     have b3:(s.arT==t.arT)=false:=by rw[arM];exact e3
     have Hm:Hid (fI s t=false):=aj (by unfold fI;rw[decide_eq_false (p:=s.arT=t.arT) e3];simp);have j4:Hid ((im.av.take (q+1)).all (fun t=> !fI s t)=true):=aj (by rw[Dq.af,iT.af,Hm.af];rfl);go_wp2;go_roundw;exact⟨q+1,arH,wP,j4.af,FP.af⟩;simp[intOf];omega
    have b3:(s.arT==t.arT)=true:=by rw[beq_iff_eq];exact e3
    by_cases e4:s.asc=t.asc
    case pos=>
     have b4:(s.asc==t.asc)=true:=by rw[beq_iff_eq];exact e4
     have Hm:Hid (fI s t=true):=aj (by unfold fI;rw[e1,e2,decide_eq_true (p:=s.arT=t.arT) e3,decide_eq_true (p:=s.asc=t.asc) e4];rfl);have Hn:Hid (jE im=false):=aj (by rw[Ae.af,mM.af,ZO.af Hm.af]);go_wp2;go_ret;exact⟨by rw[Hn.af];rfl,xg.af.trans (FP.af.mono wP)⟩
    have b4:(s.asc==t.asc)=false:=by rw[arM];exact e4
    cases e5:s.old with
    | true=>
     rw[e5]at cs2;have Hm:Hid (fI s t=false):=aj (by unfold fI;rw[decide_eq_false (p:=s.asc=t.asc) e4,e5];simp);have j4:Hid ((im.av.take (q+1)).all (fun t=> !fI s t)=true):=aj (by rw[Dq.af,iT.af,Hm.af];rfl);go_wp2;go_roundw;exact⟨q+1,arH,wP,j4.af,FP.af⟩;simp[intOf];omega
    | false=>
    rw[e5]at cs2
    cases e6:t.old with
    | true=>
     rw[e6]at d2;have Hm:Hid (fI s t=false):=aj (by unfold fI;rw[decide_eq_false (p:=s.asc=t.asc) e4,e5,e6];simp);have j4:Hid ((im.av.take (q+1)).all (fun t=> !fI s t)=true):=aj (by rw[Dq.af,iT.af,Hm.af];rfl);go_wp2;go_roundw;exact⟨q+1,arH,wP,j4.af,FP.af⟩;simp[intOf];omega
    | false=>
     rw[e6]at d2;have Hm:Hid (fI s t=true):=aj (by unfold fI;rw[e1,e2,decide_eq_true (p:=s.arT=t.arT) e3,e5,e6];simp);have Hn:Hid (jE im=false):=aj (by rw[Ae.af,mM.af,ZO.af Hm.af]);go_wp2;go_ret;exact⟨by rw[Hn.af];rfl,xg.af.trans (FP.af.mono wP)⟩
   ·have j4:Hid ((im.av.take k).all (fun t=> !fI s t)=true):=aj (by have:=iT.af;rwa [show q=k by omega]at this)
    have aij:Hid (jE im=lu im.aI im.aJ (im.av.take (k+1)) (im.av.drop (k+1))):=aj (by rw[Ae.af,mM.af,Qo Hyb.af j4.af,Htk.af]);have ZP:=(hbi.block w.heap.size wP).trans Bl.af;clear hbi;go_wp2;go_roundw;exact⟨k+1,arH,wP,aij.af,xg.af.trans (qi.af.mono wP),ZP,wP⟩;simp[intOf];omega
 ·have hd:Hid (jE im=true):=aj (by rw[Ae.af,zY wP];rfl)
  clear hbel hF;go_wp2;go_ret;exact⟨by rw[hd.af];rfl,di.af⟩
def eP (im:bK) (r:iE):Bool:=
  if r.ar3=1 then decide (r.sym= -1)&&decide (0<=r.add)&&decide (r.add<=65536)&&bZ im.aI r.at_ 8 0
  else match gX im r.sym with
    | none=>false
    | some s=>
      (if r.ar3=0∨r.ar3=6 then decide (s.ar3≠3)&&bZ im.aI r.at_ 8 0
       else if r.ar3=7 then decide (r.add=0)&&bZ im.aI r.at_ 8 0
       else if r.ar3=3 then decide (s.ar3=3)&&decide (r.add=0)&&bZ im.aI r.at_ 8 0
       else if r.ar3=4∨r.ar3=5 then decide (s.ar3=3)&&bZ im.aI r.at_ 8 0
       else if r.ar3=2 then decide (s.ar3=2)&&s.asg&&decide (1<=s.size)&&decide (s.value=r.at_)&&decide (im.ar4%2=1)&&decide (r.add=0)&&bZ im.aI r.at_ s.size 2
       else false)
theorem Ry (im:bK) (r:iE):kz im r=((decide (-4294967296<=r.add)&&decide (r.add<=4294967296))&&eP im r):=by
  unfold kz eP;by_cases h1:r.ar3=1
  · rw[if_pos h1,if_pos h1,Rq]
    simp only[pJ,arI];constructor
    · intro h;exact⟨wP,h⟩
    · intro h;exact h.2
  · rw[if_neg h1,if_neg h1]
    cases gX im r.sym<;>simp
theorem abQ {r:iE} (h1:r.ar3≠1) (h:gX im r.sym=none):eP im r=false:=by rw[eP,if_neg h1,h]
theorem agU (f:Int) (h0:0<=f) (h1:f<16):(bits BinOp.and .i64 f 1 != 0)=decide (f%2=1):=by
  obtain⟨n,rfl⟩:∃n:Nat,f=n:=⟨f.toNat,wP⟩;have h:∀m:Nat,m<16->(bits BinOp.and .i64 (m:Int) 1 != 0)=decide ((m:Int)%2=1):=by decide +kernel
  exact h n wP
theorem ac5 (w:World) (v:jv) (im:bK) (r:iE) (hs:LB rQ (·<w.heap.size) w v.aI im.aI) (hok:∀s∈im.aI,CU s) (hy:LB gq (·<w.heap.size) w v.av im.av) (hfl:0<=im.ar4/\im.ar4<16)
    (hrs: -9223372036854775808<=r.sym/\r.sym<=9223372036854775807) (hra: -9223372036854775808<=r.at_/\r.at_<=9223372036854775807) (hsz:∀s∈im.av,s.size<=9223372036854775807):
    Calls asq 116 #[.agg (aW v im),.agg #[ah r.at_,ah r.ar3,ah r.sym,ah r.add]] w fun e w'=>e=.returned (.bool (eP im r))/\Below w w w':=by
  obtain⟨eO,cK,bR,gF,bS,dK,d9,ek,fM,fO,iH⟩:=v
  have HH:Hid (∀(w':World) (x n p:Int),Below w w w'->(-9223372036854775808<=x/\x<=9223372036854775807)->(0<=n/\n<=9223372036854775807)->p=0∨p=2∨p=4->
    Calls asq 113 #[.agg (aW ⟨eO,cK,bR,gF,bS,dK,d9,ek,fM,fO,iH⟩ im),.agg #[ah x,ah n,ah p]] w' fun e w''=>e=.returned (.bool (bZ im.aI x n p))/\Below w' w' w''):=aj (fun w' x n p hb hx hn hp=>G7 w' _ im x n p ((hs.below hb).mono hb.size) hok hx hn hp)
  have HS:Hid (∀(w':World),Below w w w'->Calls asq 118 #[.agg (aW ⟨eO,cK,bR,gF,bS,dK,d9,ek,fM,fO,iH⟩ im),ah r.sym] w' fun e w''=>e=.returned (uF im r.sym)/\Below w' w' w''):=aj (fun w' hb=>Rv w' _ im r.sym ((hy.below hb).mono hb.size) hrs);unfold aW at *;have Td:=aj (agU im.ar4 hfl.1 hfl.2);have lX:=aj hsz;clear hs hok hy hfl hsz;generalize hI:(Array.mk [ax im.arT,ah im.ar4,eO,cK,bR,gF,bS,dK,ah im.ase,d9,ek,fM,fO,iH,ah im.aJ]:Array Value)=I at HH HS;have F0:=aj (ah2 w (.cells I 44 (0,0)));have B1:=aj (((Below.refl w.heap.size w).alloc (oD _) (.cells I 44 (0,0))).alloc arG (aB #[ah r.at_,ah r.ar3,ah r.sym,ah r.add] 122));have G0:=aj (ah2 (w.alloc (.cells I 44 (0,0))) (aB #[ah r.at_,ah r.ar3,ah r.sym,ah r.add] 122));have F1:=aj ((dX (w.alloc (.cells I 44 (0,0))) (aB #[ah r.at_,ah r.ar3,ah r.sym,ah r.add] 122) arG).trans F0.af);have hz1:((w.alloc (.cells I 44 (0,0))).alloc (aB #[ah r.at_,ah r.ar3,ah r.sym,ah r.add] 122)).heap.size=w.heap.size+2:=arG;rw[World.size_alloc]at G0;subst hI;go_enter Tryz.func116,Tryz.ntmps116;go_wp2_with fail;generalize (w.alloc (aB #[ax im.arT,ah im.ar4,eO,cK,bR,gF,bS,dK,ah im.ase,d9,ek,fM,fO,iH,ah im.aJ] 44)).alloc (aB #[ah r.at_,ah r.ar3,ah r.sym,ah r.add] 122)=w1 at *;refine(HS.af w1 B1.af).mono ?_;rintro e w2 ⟨rfl,hb2⟩;have hz2:=hb2.size;have G2:=aj ((hb2.block (w.heap.size+1) wP).trans G0.af);have F2:=aj ((hb2.block w.heap.size wP).trans F1.af);have B2:=aj (B1.af.trans (hb2.mono wP));clear hb2 F0 G0 F1 B1 HS
  cases hsa:gX im r.sym with
  | none=>
    have hv:uF im r.sym=.tuple #[.agg arQ,.bool false]:=by rw[uF,Ja,hsa];rfl
    rw[hv];have JF:=aj hsa;clear hv hsa;have G3:=(dX w2 (aB arQ 54) (r:=w.heap.size+1) wP).trans G2.af;have F3:=(dX w2 (aB arQ 54) (r:=w.heap.size) wP).trans F2.af;have B3:=aj (B2.af.alloc wP (aB arQ 54));have t1:w2.cell? (ak (w+1) 1)=some (ah r.ar3):=aL G2.af rfl;have hzt:w.heap.size+1<w2.heap.size:=wP;go_upto_block 0 with fail
    have hz3:(w2.alloc (aB arQ 54)).heap.size=w2.heap.size+1:=arG;generalize w2.alloc (aB arQ 54)=w3 at *;have r0:w3.cell? (ak (w+1) 0)=some (ah r.at_):=aL G3 rfl;have r1:w3.cell? (ak (w+1) 1)=some (ah r.ar3):=aL G3 rfl;have r2:w3.cell? (ak (w+1) 2)=some (ah r.sym):=aL G3 rfl;have r3:w3.cell? (ak (w+1) 3)=some (ah r.add):=aL G3 rfl;obtain⟨i0,i1,i2,i3,i4,i5,i6,i7,i8,i9,dV,i11,i12,dZ,eB⟩:=bY F3;clear F3 G3 F2 G2 B2;by_cases k1:r.ar3=1
    case neg=>
      have b1:(r.ar3==1)=false:=by rw[arM];exact k1
      have Hr:=aj (abQ (im:=im) k1 JF.af);go_wp2
      all_goals go_ret
      all_goals exact⟨by rw[Hr.af];rfl,B3.af⟩
    case pos=>
      have b1:(r.ar3==1)=true:=by rw[beq_iff_eq];exact k1
      have HR:Hid (eP im r=(decide (r.sym= -1)&&decide (0<=r.add)&&decide (r.add<=65536)&&bZ im.aI r.at_ 8 0)):=aj (by rw[eP,if_pos k1]);by_cases p0:r.sym= -1
      case neg=>
        have q0:(r.sym== -1)=false:=by rw[arM];assumption
        have Hr:Hid (eP im r=false):=aj (by rw[HR.af,decide_eq_false (p:=r.sym= -1) p0];simp);go_wp2;go_ret;exact⟨by rw[Hr.af];rfl,B3.af⟩
      have q0:(r.sym== -1)=true:=by rw[beq_iff_eq];assumption
      by_cases p1:0<=r.add
      case neg=>
        have q1:decide (0<=r.add)=false:=by rw[arN];assumption
        have Hr:Hid (eP im r=false):=aj (by rw[HR.af,decide_eq_false (p:=0<=r.add) p1];simp);go_wp2;go_ret;exact⟨by rw[Hr.af];rfl,B3.af⟩
      have q1:decide (0<=r.add)=true:=by rw[arI];assumption
      by_cases p2:r.add<=65536
      case neg=>
        have q2:decide (r.add<=65536)=false:=by rw[arN];assumption
        have Hr:Hid (eP im r=false):=aj (by rw[HR.af,decide_eq_false (p:=r.add<=65536) p2];simp);go_wp2;go_ret;exact⟨by rw[Hr.af];rfl,B3.af⟩
      have q2:decide (r.add<=65536)=true:=by rw[arI];assumption
      have Hr:Hid (eP im r=bZ im.aI r.at_ 8 0):=aj (by rw[HR.af,decide_eq_true (p:=r.sym= -1) p0,decide_eq_true (p:=0<=r.add) p1,decide_eq_true (p:=r.add<=65536) p2];simp);have Hh:=aj (HH.af w3 r.at_ 8 0 B3.af hra abD abD);go_wp2_with fail;refine Hh.af.mono ?_;rintro e w4 ⟨rfl,hb4⟩;have B4:=aj (B3.af.trans (hb4.mono wP));clear hb4 i0 i1 i2 i3 i4 i5 i6 i7 i8 i9 dV i11 i12 dZ eB r0 r1 r2 r3;go_wp2;go_ret;exact⟨by rw[Hr.af];rfl,B4.af⟩
  | some s=>
    have hv:uF im r.sym=.tuple #[.agg (arK s),.bool true]:=by rw[uF,Ja,hsa];rfl
    rw[hv];have JF:=aj hsa;have hsz:=lX.af s (qa hsa).2.2;clear hv hsa;have S3:=ah2 w2 (aB (arK s) 54);have G3:=(dX w2 (aB (arK s) 54) (r:=w.heap.size+1) wP).trans G2.af;have F3:=(dX w2 (aB (arK s) 54) (r:=w.heap.size) wP).trans F2.af;have B3:=aj (B2.af.alloc wP (aB (arK s) 54));have t1:w2.cell? (ak (w+1) 1)=some (ah r.ar3):=aL G2.af rfl;have hzt:w.heap.size+1<w2.heap.size:=wP;go_upto_block 0 with fail
    have hz3:(w2.alloc (aB (arK s) 54)).heap.size=w2.heap.size+1:=arG;generalize w2.alloc (aB (arK s) 54)=w3 at *;have r0:w3.cell? (ak (w+1) 0)=some (ah r.at_):=aL G3 rfl;have r1:w3.cell? (ak (w+1) 1)=some (ah r.ar3):=aL G3 rfl;have r2:w3.cell? (ak (w+1) 2)=some (ah r.sym):=aL G3 rfl;have r3:w3.cell? (ak (w+1) 3)=some (ah r.add):=aL G3 rfl;obtain⟨i0,i1,i2,i3,i4,i5,i6,i7,i8,i9,dV,i11,i12,dZ,eB⟩:=bY F3;obtain⟨c0,c1,c2,c3,c4,c5,c6,c7,c8⟩:=lK S3;clear F3 G3 F2 G2 B2 S3;by_cases k1:r.ar3=1
    case pos=>
      have b1:(r.ar3==1)=true:=by rw[beq_iff_eq];exact k1
      have HR:Hid (eP im r=(decide (r.sym= -1)&&decide (0<=r.add)&&decide (r.add<=65536)&&bZ im.aI r.at_ 8 0)):=aj (by rw[eP,if_pos k1]);by_cases p0:r.sym= -1
      case neg=>
        have q0:(r.sym== -1)=false:=by rw[arM];assumption
        have Hr:Hid (eP im r=false):=aj (by rw[HR.af,decide_eq_false (p:=r.sym= -1) p0];simp);go_wp2;go_ret;exact⟨by rw[Hr.af];rfl,B3.af⟩
      have q0:(r.sym== -1)=true:=by rw[beq_iff_eq];assumption
      by_cases p1:0<=r.add
      case neg=>
        have q1:decide (0<=r.add)=false:=by rw[arN];assumption
        have Hr:Hid (eP im r=false):=aj (by rw[HR.af,decide_eq_false (p:=0<=r.add) p1];simp);go_wp2;go_ret;exact⟨by rw[Hr.af];rfl,B3.af⟩
      have q1:decide (0<=r.add)=true:=by rw[arI];assumption
      by_cases p2:r.add<=65536
      case neg=>
        have q2:decide (r.add<=65536)=false:=by rw[arN];assumption
        have Hr:Hid (eP im r=false):=aj (by rw[HR.af,decide_eq_false (p:=r.add<=65536) p2];simp);go_wp2;go_ret;exact⟨by rw[Hr.af];rfl,B3.af⟩
      have q2:decide (r.add<=65536)=true:=by rw[arI];assumption
      have Hr:Hid (eP im r=bZ im.aI r.at_ 8 0):=aj (by rw[HR.af,decide_eq_true (p:=r.sym= -1) p0,decide_eq_true (p:=0<=r.add) p1,decide_eq_true (p:=r.add<=65536) p2];simp);have Hh:=aj (HH.af w3 r.at_ 8 0 B3.af hra abD abD);go_wp2_with fail;refine Hh.af.mono ?_;rintro e w4 ⟨rfl,hb4⟩;have B4:=aj (B3.af.trans (hb4.mono wP));clear hb4 i0 i1 i2 i3 i4 i5 i6 i7 i8 i9 dV i11 i12 dZ eB r0 r1 r2 r3;go_wp2;go_ret;exact⟨by rw[Hr.af];rfl,B4.af⟩
    have b1:(r.ar3==1)=false:=by rw[arM];exact k1
    by_cases k0:r.ar3=0
    case pos=>
      have b0:(r.ar3==0)=true:=by rw[beq_iff_eq];exact k0
      have HR:Hid (eP im r=(decide (s.ar3≠3)&&bZ im.aI r.at_ 8 0)):=aj (by rw[eP,if_neg k1,JF.af];simp only[];rw[if_pos (Or.inl k0)]);by_cases p0:s.ar3≠3
      case neg=>
        have q0:(s.ar3==3)=true:=by rw[beq_iff_eq];exact Decidable.byContradiction p0
        have Hr:Hid (eP im r=false):=aj (by rw[HR.af,decide_eq_false (p:=s.ar3≠3) p0];simp);go_wp2;go_ret;exact⟨by rw[Hr.af];rfl,B3.af⟩
      have q0:(s.ar3==3)=false:=by rw[arM];assumption
      have Hr:Hid (eP im r=bZ im.aI r.at_ 8 0):=aj (by rw[HR.af,decide_eq_true (p:=s.ar3≠3) p0];simp);have Hh:=aj (HH.af w3 r.at_ 8 0 B3.af hra abD abD);go_wp2_with fail;refine Hh.af.mono ?_;rintro e w4 ⟨rfl,hb4⟩;have B4:=aj (B3.af.trans (hb4.mono wP));clear hb4 i0 i1 i2 i3 i4 i5 i6 i7 i8 i9 dV i11 i12 dZ eB r0 r1 r2 r3;go_wp2;go_ret;exact⟨by rw[Hr.af];rfl,B4.af⟩
    have b0:(r.ar3==0)=false:=by rw[arM];exact k0
    by_cases k6:r.ar3=6
    case pos=>
      have b6:(r.ar3==6)=true:=by rw[beq_iff_eq];exact k6
      have HR:Hid (eP im r=(decide (s.ar3≠3)&&bZ im.aI r.at_ 8 0)):=aj (by rw[eP,if_neg k1,JF.af];simp only[];rw[if_pos (Or.inr k6)]);by_cases p0:s.ar3≠3
      case neg=>
        have q0:(s.ar3==3)=true:=by rw[beq_iff_eq];exact Decidable.byContradiction p0
        have Hr:Hid (eP im r=false):=aj (by rw[HR.af,decide_eq_false (p:=s.ar3≠3) p0];simp);go_wp2;go_ret;exact⟨by rw[Hr.af];rfl,B3.af⟩
      have q0:(s.ar3==3)=false:=by rw[arM];assumption
      have Hr:Hid (eP im r=bZ im.aI r.at_ 8 0):=aj (by rw[HR.af,decide_eq_true (p:=s.ar3≠3) p0];simp);have Hh:=aj (HH.af w3 r.at_ 8 0 B3.af hra abD abD);go_wp2_with fail;refine Hh.af.mono ?_;rintro e w4 ⟨rfl,hb4⟩;have B4:=aj (B3.af.trans (hb4.mono wP));clear hb4 i0 i1 i2 i3 i4 i5 i6 i7 i8 i9 dV i11 i12 dZ eB r0 r1 r2 r3;go_wp2;go_ret;exact⟨by rw[Hr.af];rfl,B4.af⟩
    have b6:(r.ar3==6)=false:=by rw[arM];exact k6
    by_cases k7:r.ar3=7
    case pos=>
      have b7:(r.ar3==7)=true:=by rw[beq_iff_eq];exact k7
      have HR:Hid (eP im r=(decide (r.add=0)&&bZ im.aI r.at_ 8 0)):=aj (by rw[eP,if_neg k1,JF.af];simp only[];rw[if_neg wP,if_pos k7]);by_cases p0:r.add=0
      case neg=>
        have q0:(r.add==0)=false:=by rw[arM];assumption
        have Hr:Hid (eP im r=false):=aj (by rw[HR.af,decide_eq_false (p:=r.add=0) p0];simp);go_wp2;go_ret;exact⟨by rw[Hr.af];rfl,B3.af⟩
      have q0:(r.add==0)=true:=by rw[beq_iff_eq];assumption
      have Hr:Hid (eP im r=bZ im.aI r.at_ 8 0):=aj (by rw[HR.af,decide_eq_true (p:=r.add=0) p0];simp);have Hh:=aj (HH.af w3 r.at_ 8 0 B3.af hra abD abD);go_wp2_with fail;refine Hh.af.mono ?_;rintro e w4 ⟨rfl,hb4⟩;have B4:=aj (B3.af.trans (hb4.mono wP));clear hb4 i0 i1 i2 i3 i4 i5 i6 i7 i8 i9 dV i11 i12 dZ eB r0 r1 r2 r3;go_wp2;go_ret;exact⟨by rw[Hr.af];rfl,B4.af⟩
    have b7:(r.ar3==7)=false:=by rw[arM];exact k7
    by_cases k3:r.ar3=3
    case pos=>
      have b3:(r.ar3==3)=true:=by rw[beq_iff_eq];exact k3
      have HR:Hid (eP im r=(decide (s.ar3=3)&&decide (r.add=0)&&bZ im.aI r.at_ 8 0)):=aj (by rw[eP,if_neg k1,JF.af];simp only[];rw[if_neg wP,if_neg wP,if_pos k3]);by_cases p0:s.ar3=3
      case neg=>
        have q0:(s.ar3==3)=false:=by rw[arM];assumption
        have Hr:Hid (eP im r=false):=aj (by rw[HR.af,decide_eq_false (p:=s.ar3=3) p0];simp);go_wp2;go_ret;exact⟨by rw[Hr.af];rfl,B3.af⟩
      have q0:(s.ar3==3)=true:=by rw[beq_iff_eq];assumption
      by_cases p1:r.add=0
      case neg=>
        have q1:(r.add==0)=false:=by rw[arM];assumption
        have Hr:Hid (eP im r=false):=aj (by rw[HR.af,decide_eq_false (p:=r.add=0) p1];simp);go_wp2;go_ret;exact⟨by rw[Hr.af];rfl,B3.af⟩
      have q1:(r.add==0)=true:=by rw[beq_iff_eq];assumption
      have Hr:Hid (eP im r=bZ im.aI r.at_ 8 0):=aj (by rw[HR.af,decide_eq_true (p:=s.ar3=3) p0,decide_eq_true (p:=r.add=0) p1];simp);have Hh:=aj (HH.af w3 r.at_ 8 0 B3.af hra abD abD);go_wp2_with fail;refine Hh.af.mono ?_;rintro e w4 ⟨rfl,hb4⟩;have B4:=aj (B3.af.trans (hb4.mono wP));clear hb4 i0 i1 i2 i3 i4 i5 i6 i7 i8 i9 dV i11 i12 dZ eB r0 r1 r2 r3;go_wp2;go_ret;exact⟨by rw[Hr.af];rfl,B4.af⟩
    have b3:(r.ar3==3)=false:=by rw[arM];exact k3
    by_cases k4:r.ar3=4
    case pos=>
      have b4:(r.ar3==4)=true:=by rw[beq_iff_eq];exact k4
      have HR:Hid (eP im r=(decide (s.ar3=3)&&bZ im.aI r.at_ 8 0)):=aj (by rw[eP,if_neg k1,JF.af];simp only[];rw[if_neg wP,if_neg wP,if_neg wP,if_pos (Or.inl k4)]);by_cases p0:s.ar3=3
      case neg=>
        have q0:(s.ar3==3)=false:=by rw[arM];assumption
        have Hr:Hid (eP im r=false):=aj (by rw[HR.af,decide_eq_false (p:=s.ar3=3) p0];simp);go_wp2;go_ret;exact⟨by rw[Hr.af];rfl,B3.af⟩
      have q0:(s.ar3==3)=true:=by rw[beq_iff_eq];assumption
      have Hr:Hid (eP im r=bZ im.aI r.at_ 8 0):=aj (by rw[HR.af,decide_eq_true (p:=s.ar3=3) p0];simp);have Hh:=aj (HH.af w3 r.at_ 8 0 B3.af hra abD abD);go_wp2_with fail;refine Hh.af.mono ?_;rintro e w4 ⟨rfl,hb4⟩;have B4:=aj (B3.af.trans (hb4.mono wP));clear hb4 i0 i1 i2 i3 i4 i5 i6 i7 i8 i9 dV i11 i12 dZ eB r0 r1 r2 r3;go_wp2;go_ret;exact⟨by rw[Hr.af];rfl,B4.af⟩
    have b4:(r.ar3==4)=false:=by rw[arM];exact k4
    by_cases k5:r.ar3=5
    case pos=>
      have b5:(r.ar3==5)=true:=by rw[beq_iff_eq];exact k5
      have HR:Hid (eP im r=(decide (s.ar3=3)&&bZ im.aI r.at_ 8 0)):=aj (by rw[eP,if_neg k1,JF.af];simp only[];rw[if_neg wP,if_neg wP,if_neg wP,if_pos (Or.inr k5)]);by_cases p0:s.ar3=3
      case neg=>
        have q0:(s.ar3==3)=false:=by rw[arM];assumption
        have Hr:Hid (eP im r=false):=aj (by rw[HR.af,decide_eq_false (p:=s.ar3=3) p0];simp);go_wp2;go_ret;exact⟨by rw[Hr.af];rfl,B3.af⟩
      have q0:(s.ar3==3)=true:=by rw[beq_iff_eq];assumption
      have Hr:Hid (eP im r=bZ im.aI r.at_ 8 0):=aj (by rw[HR.af,decide_eq_true (p:=s.ar3=3) p0];simp);have Hh:=aj (HH.af w3 r.at_ 8 0 B3.af hra abD abD);go_wp2_with fail;refine Hh.af.mono ?_;rintro e w4 ⟨rfl,hb4⟩;have B4:=aj (B3.af.trans (hb4.mono wP));clear hb4 i0 i1 i2 i3 i4 i5 i6 i7 i8 i9 dV i11 i12 dZ eB r0 r1 r2 r3;go_wp2;go_ret;exact⟨by rw[Hr.af];rfl,B4.af⟩
    have b5:(r.ar3==5)=false:=by rw[arM];exact k5
    by_cases k2:r.ar3=2
    case pos=>
      have b2:(r.ar3==2)=true:=by rw[beq_iff_eq];exact k2
      have _bt:(s.ar3==3)=(s.ar3==3):=rfl;have HR:Hid (eP im r=(decide (s.ar3=2)&&s.asg&&decide (1<=s.size)&&decide (s.value=r.at_)&&decide (im.ar4%2=1)&&decide (r.add=0)&&bZ im.aI r.at_ s.size 2)):=aj (by rw[eP,if_neg k1,JF.af];simp only[];rw[if_neg wP,if_neg wP,if_neg wP,if_neg wP,if_pos k2]);by_cases p0:s.ar3=2
      case neg=>
        have q0:(s.ar3==2)=false:=by rw[arM];assumption
        have Hr:Hid (eP im r=false):=aj (by rw[HR.af,decide_eq_false (p:=s.ar3=2) p0];simp);go_wp2;go_ret;exact⟨by rw[Hr.af];rfl,B3.af⟩
      have q0:(s.ar3==2)=true:=by rw[beq_iff_eq];assumption
      cases hd:s.asg with
      | false=>
        rw[hd]at c6;have Hr:Hid (eP im r=false):=aj (by rw[HR.af,hd];simp);clear hd;go_wp2;go_ret;exact⟨by rw[Hr.af];rfl,B3.af⟩
      | true=>
      rw[hd]at c6;have Cn:=aj hd;clear hd;by_cases p2:1<=s.size
      case neg=>
        have q2:decide (1<=s.size)=false:=by rw[arN];assumption
        have Hr:Hid (eP im r=false):=aj (by rw[HR.af,decide_eq_false (p:=1<=s.size) p2];simp);go_wp2;go_ret;exact⟨by rw[Hr.af];rfl,B3.af⟩
      have q2:decide (1<=s.size)=true:=by rw[arI];assumption
      by_cases p3:s.value=r.at_
      case neg=>
        have q3:(s.value==r.at_)=false:=by rw[arM];assumption
        have Hr:Hid (eP im r=false):=aj (by rw[HR.af,decide_eq_false (p:=s.value=r.at_) p3];simp);go_wp2;go_ret;exact⟨by rw[Hr.af];rfl,B3.af⟩
      have q3:(s.value==r.at_)=true:=by rw[beq_iff_eq];assumption
      by_cases p4:im.ar4%2=1
      case neg=>
        have q4:(bits BinOp.and .i64 im.ar4 1 != 0)=false:=by rw[Td.af,arN];assumption
        have Hr:Hid (eP im r=false):=aj (by rw[HR.af,decide_eq_false (p:=im.ar4%2=1) p4];simp);go_wp2;go_ret;exact⟨by rw[Hr.af];rfl,B3.af⟩
      have q4:(bits BinOp.and .i64 im.ar4 1 != 0)=true:=by rw[Td.af,arI];assumption
      by_cases p5:r.add=0
      case neg=>
        have q5:(r.add==0)=false:=by rw[arM];assumption
        have Hr:Hid (eP im r=false):=aj (by rw[HR.af,decide_eq_false (p:=r.add=0) p5];simp);go_wp2;go_ret;exact⟨by rw[Hr.af];rfl,B3.af⟩
      have q5:(r.add==0)=true:=by rw[beq_iff_eq];assumption
      have Hr:Hid (eP im r=bZ im.aI r.at_ s.size 2):=aj (by rw[HR.af,decide_eq_true (p:=s.ar3=2) p0,Cn.af,decide_eq_true (p:=1<=s.size) p2,decide_eq_true (p:=s.value=r.at_) p3,decide_eq_true (p:=im.ar4%2=1) p4,decide_eq_true (p:=r.add=0) p5];simp);have Hh:=aj (HH.af w3 r.at_ s.size 2 B3.af hra ⟨wP,hsz⟩ abD);clear Cn;go_wp2_with fail;refine Hh.af.mono ?_;rintro e w4 ⟨rfl,hb4⟩;have B4:=aj (B3.af.trans (hb4.mono wP));clear hb4 i0 i1 i2 i3 i4 i5 i6 i7 i8 i9 dV i11 i12 dZ eB r0 r1 r2 r3;go_wp2;go_ret;exact⟨by rw[Hr.af];rfl,B4.af⟩
    have b2:(r.ar3==2)=false:=by rw[arM];exact k2
    have Hr:Hid (eP im r=false):=aj (by rw[eP,if_neg k1,JF.af];simp only[];rw[if_neg wP,if_neg wP,if_neg wP,if_neg wP,if_neg wP]);go_wp2;go_ret;exact⟨by rw[Hr.af];rfl,B3.af⟩
def uR (r:iE):Prop:=(-9223372036854775808<=r.sym/\r.sym<=9223372036854775807)/\(-9223372036854775808<=r.at_/\r.at_<=9223372036854775807)/\(-9223372036854775808<=r.add/\r.add<=9223372036854775807)
theorem yB (h:jL im.aI=true):∀s∈im.aI,CU s:=fun s hs=>by
 have:=nT h s hs;unfold CU;omega
theorem JG {r:iE} {l:List iE} (h:¬e<=r.at_):iA im e (r :: l)=false:=by rw[iA,decide_eq_false (p:=e<=r.at_) h];rfl
theorem Cy {r:iE} {l:List iE} (h:kz im r=false):iA im e (r :: l)=false:=by rw[iA,h];simp
theorem M8 {r:iE} {l:List iE} (h:e<=r.at_) (h2:kz im r=true):iA im e (r :: l)=iA im (r.at_+eU im r) l:=by rw[iA,h2,decide_eq_true (p:=e<=r.at_) h];rfl
abbrev Te (r:iE):Array Value:=#[ah r.at_,ah r.ar3,ah r.sym,ah r.add]
theorem abR (w:World) (v:jv) (im:bK) (hs:LB rQ (·<w.heap.size) w v.aI im.aI) (hg:jL im.aI=true) (hy:LB gq (·<w.heap.size) w v.av im.av) (hfl:0<=im.ar4/\im.ar4<16)
  (hr:LB mi (·<w.heap.size) w v.aO im.aO) (hrr:∀r∈im.aO,uR r) (hsz:∀s∈im.av,0<=s.size/\s.size<=9223372036854775807) (hsl:im.av.length<=512):
  Calls asq 62 #[.agg (aW v im)] w fun e w'=>e=.returned (.bool (jk im))/\Below w w w':=by
 obtain⟨ra,rb,roff,nO,kD,hrm,hrc,j3⟩:=hr.at;obtain⟨eO,cK,bR,gF,bS,dK,d9,ek,fM,fO,iH⟩:=v;simp only at kD;subst kD
 have HR:Hid (∀(w':World) (r:iE),Below w w w'->uR r->
  Calls asq 116 #[.agg (aW ⟨eO,cK,bR,gF,bS,dK,.slice ra im.aO.length nO,ek,fM,fO,iH⟩ im),.agg #[ah r.at_,ah r.ar3,ah r.sym,ah r.add]] w' fun e w''=>e=.returned (.bool (eP im r))/\Below w' w' w''):=aj (fun w' r hb hx=>ac5 w' _ im r ((hs.below hb).mono hb.size) (yB hg) ((hy.below hb).mono hb.size) hfl hx.1 hx.2.1 (fun s h=>(hsz s h).2))
 have HW:Hid (∀(w':World) (r:iE),Below w w w'->uR r->
  Calls asq 117 #[.agg (aW ⟨eO,cK,bR,gF,bS,dK,.slice ra im.aO.length nO,ek,fM,fO,iH⟩ im),.agg #[ah r.at_,ah r.ar3,ah r.sym,ah r.add]] w' fun e w''=>e=.returned (ah (eU im r))/\Below w' w' w''):=aj (fun w' r hb hx=>XI w' _ im r ((hy.below hb).mono hb.size) hx.1)
 unfold aW at *;have qh:=aj j3;have Hrr:=aj hrr;have lX:=aj hsz;have HD:Hid (jk im=(decide (im.aO.length<=512)&&iA im 0 im.aO)):=aj rfl;have Hg:=aj hg;clear hs hg hy hfl hr hrr hsz j3;generalize hI:(Array.mk [ax im.arT,ah im.ar4,eO,cK,bR,gF,bS,dK,ah im.ase,.slice ra im.aO.length nO,ek,fM,fO,iH,ah im.aJ]:Array Value)=I at HR HW;have F0:=aj (ah2 w (.cells I 44 (0,0)));have B1:=aj ((Below.refl w.heap.size w).alloc (oD _) (.cells I 44 (0,0)));subst hI;go_enter Tryz.func62,Tryz.ntmps62;go_wp2_with fail
 go_loopw [3,9] (fun e i wr=>∃(k:Nat) (x:Int),i=ah k/\e=ah x/\0<=x/\x<=65536/\k<=im.aO.length/\iA im 0 im.aO=iA im x (im.aO.drop k)/\Below w w wr/\
  wr.heap[w.heap.size]? =some (aB #[ax im.arT,ah im.ar4,eO,cK,bR,gF,bS,dK,ah im.ase,.slice ra im.aO.length nO,ek,fM,fO,iH,ah im.aJ] 44)/\w.heap.size<wr) (fun _ i _=>im.aO.length-(intOf i).toNat)
 exact⟨0,0,rfl,rfl,abD,abD,alg _,arG,B1.af,F0.af,arG⟩;obtain⟨k,x,rfl,rfl,hx0,hx1,hk,hse,hbel,hF,tO⟩:=hrel;have o9:=aj hse;have di:=aj hbel;have HF:=aj hF;have hBr:=hbel.size;clear hse;by_cases hlt:k<im.aO.length
 ·obtain rfl:=qh.af.addr wP
  obtain⟨r,hx⟩:∃r,im.aO[k]? =some r:=⟨_,gP hlt⟩;obtain⟨g0,g1,g2,g3⟩:=(qh.af.below hbel).NH k r hx;have hro:=Hrr.af r (dH hx);have an0:=hro.2;have H9:=aj hro;have mM:=aj (drop_cons im.aO k r hx);have hsb:=fD _ _ g0;have Az:=aj (ah2 wr (.cells (Te r) 122 (0,0)));have Bl:=aj ((dX wr (.cells (Te r) 122 (0,0)) tO).trans hF);have xh:=aj (di.af.alloc hBr (.cells (Te r) 122 (0,0)));unfold Te at *;clear hx hbel hF HF di hro;go_upto_region 5 with fail
  have hz1:(wr.alloc (aB #[ah r.at_,ah r.ar3,ah r.sym,ah r.add] 122)).heap.size=wr.heap.size+1:=arG;generalize wr.alloc (aB #[ah r.at_,ah r.ar3,ah r.sym,ah r.add] 122)=w1 at *;have r0:w1.cell? (ak wr 0)=some (ah r.at_):=aL Az.af rfl;have r1:w1.cell? (ak wr 1)=some (ah r.ar3):=aL Az.af rfl;have r2:w1.cell? (ak wr 2)=some (ah r.sym):=aL Az.af rfl;have r3:w1.cell? (ak wr 3)=some (ah r.add):=aL Az.af rfl;obtain⟨i0,i1,i2,i3,i4,i5,i6,i7,i8,i9,dV,i11,i12,dZ,eB⟩:=bY Bl.af;clear g0 g1 g2 g3;by_cases h1:x<=r.at_
  case neg=>
   have Hn:Hid (jk im=false):=aj (by rw[HD.af,o9.af,mM.af,JG h1];simp);have hd:decide (r.at_<x)=true:=by rw[arI];omega
   go_wp2;go_ret;exact⟨by rw[Hn.af];rfl,xh.af⟩
  have hd:decide (r.at_<x)=false:=by rw[arN];omega
  go_wp2_with fail;refine(acZ w1 r.add).mono ?_;rintro e w2 ⟨rfl,rfl⟩
  cases hsm:(decide (-4294967296<=r.add)&&decide (r.add<=4294967296))with
  | false=>
   have Hn:Hid (jk im=false):=aj (by rw[HD.af,o9.af,mM.af,Cy (by rw[Ry,hsm];rfl)];simp);clear hsm;go_wp2;go_ret;exact⟨by rw[Hn.af];rfl,xh.af⟩
  | true=>
   have Hsm:=aj hsm;clear hsm;go_wp2_with fail;refine(HR.af w2 r xh.af H9.af).mono ?_;rintro e w3 ⟨rfl,hb3⟩;have hz3:=hb3.size;have HB3:=aj (xh.af.trans (hb3.mono wP));have XM:=aj ((hb3.block w.heap.size wP).trans Bl.af);have HR3:=aj ((hb3.block wr.heap.size wP).trans Az.af);clear hb3 i0 i1 i2 i3 i4 i5 i6 i7 i8 i9 dV i11 i12 dZ eB r0 r1 r2 r3
   cases hrb:eP im r with
   | false=>
    have Hn:Hid (jk im=false):=aj (by rw[HD.af,o9.af,mM.af,Cy (by rw[Ry,hrb];simp)];simp);clear hrb;go_wp2;go_ret;exact⟨by rw[Hn.af];rfl,HB3.af⟩
   | true=>
    have hgood:kz im r=true:=by rw[Ry,hrb,Hsm.af];rfl
    have hrg:=Bi Hg.af hsl hgood;have xS:Hid (iA im 0 im.aO=iA im (r.at_+eU im r) (im.aO.drop (k+1))):=aj (by rw[o9.af,mM.af,M8 h1 hgood])
    have hw0:0<=eU im r:=by
     unfold eU
     split
     ·rename_i s hs
      have:=(lX.af s (qa hs).2.2).1
      split<;>omega
     ·omega
    obtain⟨i0,i1,i2,i3,i4,i5,i6,i7,i8,i9,dV,i11,i12,dZ,eB⟩:=bY XM.af;have r0:w3.cell? (ak wr 0)=some (ah r.at_):=aL HR3.af rfl;have r1:w3.cell? (ak wr 1)=some (ah r.ar3):=aL HR3.af rfl;have r2:w3.cell? (ak wr 2)=some (ah r.sym):=aL HR3.af rfl;have r3:w3.cell? (ak wr 3)=some (ah r.add):=aL HR3.af rfl;have l0:=fun x:Later w3=>x.cell i0
    have l1:=fun x:Later w3=>x.cell i1
    have l2:=fun x:Later w3=>x.cell i2
    have l3:=fun x:Later w3=>x.cell i3
    have l4:=fun x:Later w3=>x.cell i4
    have l5:=fun x:Later w3=>x.cell i5
    have l6:=fun x:Later w3=>x.cell i6
    have l7:=fun x:Later w3=>x.cell i7
    have l8:=fun x:Later w3=>x.cell i8
    have l9:=fun x:Later w3=>x.cell i9
    have l10:=fun x:Later w3=>x.cell dV
    have qj:=fun x:Later w3=>x.cell i11
    have Ez:=fun x:Later w3=>x.cell i12
    have EA:=fun x:Later w3=>x.cell dZ
    have EB:=fun x:Later w3=>x.cell eB
    have m0:=fun x:Later w3=>x.cell r0
    have m1:=fun x:Later w3=>x.cell r1
    have m2:=fun x:Later w3=>x.cell r2
    have m3:=fun x:Later w3=>x.cell r3
    clear hrb hgood i0 i1 i2 i3 i4 i5 i6 i7 i8 i9 dV i11 i12 dZ eB r0 r1 r2 r3;obtain⟨wd,hwd⟩:∃wd,eU im r=wd:=⟨_,rfl⟩;have yC:=aj (fun w' hb=>HW.af w' r hb H9.af);rw[hwd]at yC hrg hw0 xS;clear hwd;go_wp2_with fail;refine dG TA TA ?_
    repeat (go_big_quiet_step (first | (go_at_call 117;refine Later.call _ (yC.af _ ?_);exact HB3.af.trans ((Later.h _).mono wP))))
    refine lD ?_;rintro _ ⟨⟨wq,hq⟩,rfl⟩;try simp only at hq
    have Hq:=aj hq;clear hq l0 l1 l2 l3 l4 l5 l6 l7 l8 l9 l10 qj Ez EA EB m0 m1 m2 m3;go_wp2;go_roundw
    case rel=>
     have hq:=Hq.af;have:=hq.size;exact⟨k+1,r.at_+wd,arH,rfl,wP,wP,wP,xS.af,HB3.af.trans (hq.mono wP),(hq.block w.heap.size wP).trans XM.af,wP⟩
    simp[intOf];omega
 ·obtain⟨i0,i1,i2,i3,i4,i5,i6,i7,i8,i9,dV,i11,i12,dZ,eB⟩:=bY hF
  have hd:Hid (jk im=decide (im.aO.length<=512)):=aj (by rw[HD.af,o9.af,zY wP];simp[iA]);clear hbel hF i0 i1 i2 i3 i4 i5 i6 i7 i8 dV i11 i12 dZ eB;go_wp2;go_ret;exact⟨vE (by rw[hd.af,Rq];simp;omega),di.af⟩
def FQ (s:kV):Prop:=(-9223372036854775808<=s.sym/\s.sym<=9223372036854775807)/\(-9223372036854775808<=s.at_/\s.at_<=9223372036854775807)/\(-9223372036854775808<=s.stub/\s.stub<=9223372036854775807)
def sN (im:bK) (s:kV) (r:iE):Bool:=decide (r.at_<s.at_+8)&&decide (s.at_<r.at_+eU im r)
theorem xI (im:bK) (s:kV):vT im s=((match gX im s.sym with
   | some x=>decide (x.ar3=1)
   | none=>false)&&bZ im.aI s.at_ 8 0&&bZ im.aI s.stub 8 4&&im.aO.all fun r=> !sN im s r):=rfl
theorem M9 {s:kV} {l:List kV} (h:¬e<=s.at_):iF im e (s :: l)=false:=by rw[iF,decide_eq_false (p:=e<=s.at_) h];rfl
theorem qK {s:kV} {l:List kV} (h:vT im s=false):iF im e (s :: l)=false:=by rw[iF,h];simp
theorem Ob {s:kV} {l:List kV} (h:e<=s.at_) (h2:vT im s=true):iF im e (s :: l)=iF im (s.at_+8) l:=by rw[iF,h2,decide_eq_true (p:=e<=s.at_) h];rfl
theorem ac6 {s:kV} (h:gX im s.sym=none):vT im s=false:=by rw[xI,h];rfl
theorem ac7 {s:kV} {x:bF} (h:gX im s.sym=some x) (hk:x.ar3≠1):vT im s=false:=by rw[xI,h];simp[hk]
theorem aik {s:kV} (h:bZ im.aI s.at_ 8 0=false):vT im s=false:=by rw[xI,h];simp
theorem ac8 {s:kV} (h:bZ im.aI s.stub 8 4=false):vT im s=false:=by rw[xI,h];simp
theorem Tf {s:kV} {r:iE} {q:Nat} (hr:im.aO[q]? =some r) (h:sN im s r=true):vT im s=false:=by
  have:(im.aO.all fun r=> !sN im s r)=false:=by rw[P7];exact⟨r,dH hr,by simp[h]⟩
  rw[xI,this];simp
theorem ail {s:kV} {x:bF} (h:gX im s.sym=some x) (hk:x.ar3=1) (h1:bZ im.aI s.at_ 8 0=true) (h2:bZ im.aI s.stub 8 4=true) (h3:(im.aO.all fun r=> !sN im s r)=true):vT im s=true:=by
  rw[xI,h,h1,h2,h3];simp[hk]
theorem ac9 (w:World) (v:jv) (im:bK) (hs:LB rQ (·<w.heap.size) w v.aI im.aI) (hg:jL im.aI=true) (hy:LB gq (·<w.heap.size) w v.av im.av)
    (hr:LB mi (·<w.heap.size) w v.aO im.aO) (hrr:∀r∈im.aO,uR r) (hrel:jk im=true) (hsz:∀s∈im.av,0<=s.size/\s.size<=9223372036854775807) (hsl:im.av.length<=512)
    (ht:LB ER (·<w.heap.size) w v.asf im.asf) (hto:∀s∈im.asf,FQ s):
    Calls asq 63 #[.agg (aW v im)] w fun e w'=>e=.returned (.bool (kP im))/\Below w w w':=by
  obtain⟨ra,rb,roff,nO,kD,hrm,hrc,j3⟩:=hr.at;obtain⟨ta,tb,an1,Jb,htv,htm,htc,Jc⟩:=ht.at;obtain⟨eO,cK,bR,gF,bS,dK,d9,ek,fM,fO,iH⟩:=v;simp only at kD htv;subst kD htv
  have HH:Hid (∀(w':World) (x n p:Int),Below w w w'->(-9223372036854775808<=x/\x<=9223372036854775807)->(0<=n/\n<=9223372036854775807)->p=0∨p=2∨p=4->
    Calls asq 113 #[.agg (aW ⟨eO,cK,bR,gF,bS,dK,.slice ra im.aO.length nO,.slice ta im.asf.length Jb,fM,fO,iH⟩ im),.agg #[ah x,ah n,ah p]] w' fun e w''=>e=.returned (.bool (bZ im.aI x n p))/\Below w' w' w''):=aj (fun w' x n p hb hx hn hp=>G7 w' _ im x n p ((hs.below hb).mono hb.size) (yB hg) hx hn hp)
  have HS:Hid (∀(w':World) (i:Int),Below w w w'->(-9223372036854775808<=i/\i<=9223372036854775807)->Calls asq 118 #[.agg (aW ⟨eO,cK,bR,gF,bS,dK,.slice ra im.aO.length nO,.slice ta im.asf.length Jb,fM,fO,iH⟩ im),ah i] w' fun e w''=>e=.returned (uF im i)/\Below w' w' w''):=aj (fun w' i hb hi=>Rv w' _ im i ((hy.below hb).mono hb.size) hi)
  have HW:Hid (∀(w':World) (r:iE),Below w w w'->uR r->
    Calls asq 117 #[.agg (aW ⟨eO,cK,bR,gF,bS,dK,.slice ra im.aO.length nO,.slice ta im.asf.length Jb,fM,fO,iH⟩ im),.agg #[ah r.at_,ah r.ar3,ah r.sym,ah r.add]] w' fun e w''=>e=.returned (ah (eU im r))/\Below w' w' w''):=aj (fun w' r hb hx=>XI w' _ im r ((hy.below hb).mono hb.size) hx.1)
  unfold aW at *;have qh:=aj j3;have WK:=aj Jc;have Hrr:=aj hrr;have Hto:=aj hto;have lX:=aj hsz;have HD:Hid (kP im=(decide (im.asf.length<=128)&&iF im 0 im.asf)):=aj rfl;have Hg:=aj hg
  have aim:Hid (∀r∈im.aO,kz im r=true):=aj (by
    have h:=hrel;simp only[jk,pJ]at h;exact xR im _ _ h.2)
  clear hs hg hy hr hrr hrel hsz ht hto j3 Jc;generalize hI:(Array.mk [ax im.arT,ah im.ar4,eO,cK,bR,gF,bS,dK,ah im.ase,.slice ra im.aO.length nO,.slice ta im.asf.length Jb,fM,fO,iH,ah im.aJ]:Array Value)=I at HH HS HW;have F0:=aj (ah2 w (.cells I 44 (0,0)));have B1:=aj ((Below.refl w.heap.size w).alloc (oD _) (.cells I 44 (0,0)));subst hI;go_enter Tryz.func63,Tryz.ntmps63;go_wp2_with fail
  go_loopw [3,13] (fun e i wr=>∃(k:Nat) (x:Int),i=ah k/\e=ah x/\0<=x/\x<=100000/\k<=im.asf.length/\iF im 0 im.asf=iF im x (im.asf.drop k)/\Below w w wr/\
    wr.heap[w.heap.size]? =some (aB #[ax im.arT,ah im.ar4,eO,cK,bR,gF,bS,dK,ah im.ase,.slice ra im.aO.length nO,.slice ta im.asf.length Jb,fM,fO,iH,ah im.aJ] 44)/\w.heap.size<wr) (fun _ i _=>im.asf.length-(intOf i).toNat)
  exact⟨0,0,rfl,rfl,abD,abD,alg _,arG,B1.af,F0.af,arG⟩;obtain⟨k,x,rfl,rfl,hx0,hx1,hk,hse,hbel,hF,tO⟩:=hrel;have o9:=aj hse;have di:=aj hbel;have hBr:=hbel.size;clear hse;by_cases hlt:k<im.asf.length
  · obtain rfl:=WK.af.addr wP
    obtain⟨s,hx⟩:∃s,im.asf[k]? =some s:=⟨_,gP hlt⟩;obtain⟨g0,g1,g2⟩:=(WK.af.below hbel).Sk k s hx;have hso:=Hto.af s (dH hx);have hsa:=hso.2.1;have tQ:=aj hso;have mM:=aj (drop_cons im.asf k s hx);have hsb:=fD _ _ g0;have Bj:=aj (ah2 wr (aB #[ah s.at_,ah s.sym,ah s.stub] 65));have Bl:=aj ((dX wr (aB #[ah s.at_,ah s.sym,ah s.stub] 65) tO).trans hF);have xg:=aj (di.af.alloc hBr (aB #[ah s.at_,ah s.sym,ah s.stub] 65));clear hx hbel hF di hso;go_upto_region 5 with fail
    have hz1:(wr.alloc (aB #[ah s.at_,ah s.sym,ah s.stub] 65)).heap.size=wr.heap.size+1:=arG;generalize wr.alloc (aB #[ah s.at_,ah s.sym,ah s.stub] 65)=w1 at *;generalize wr.heap.size=zs at *;have t0:w1.cell? (ak zs 0)=some (ah s.at_):=aL Bj.af rfl;have t1:w1.cell? (ak zs 1)=some (ah s.sym):=aL Bj.af rfl;have t2:w1.cell? (ak zs 2)=some (ah s.stub):=aL Bj.af rfl;obtain⟨i0,i1,i2,i3,i4,i5,i6,i7,i8,i9,dV,i11,i12,dZ,eB⟩:=bY Bl.af;clear g0 g1 g2;go_wp2_with fail;refine(HS.af w1 s.sym xg.af tQ.af.1).mono ?_;rintro e w2 ⟨rfl,hb2⟩;have hz2:=hb2.size;have F2:=aj ((hb2.block w.heap.size wP).trans Bl.af);have S2:=aj ((hb2.block zs wP).trans Bj.af);have B2:=aj (xg.af.trans (hb2.mono wP));clear hb2 i0 i1 i2 i3 i4 i5 i6 i7 i8 i9 dV i11 i12 dZ eB t0 t1 t2
    cases hsy:gX im s.sym with
    | none=>
      have hv:uF im s.sym=.tuple #[.agg arQ,.bool false]:=by rw[uF,Ja,hsy];rfl
      rw[hv];have Hn:Hid (kP im=false):=aj (by rw[HD.af,o9.af,mM.af,qK (ac6 hsy)];simp);have B3:=aj (B2.af.alloc wP (aB arQ 54));clear hv hsy;go_wp2;go_ret;exact⟨by rw[Hn.af];rfl,B3.af⟩
    | some y=>
      have hv:uF im s.sym=.tuple #[.agg (arK y),.bool true]:=by rw[uF,Ja,hsy];rfl
      rw[hv];have Cm:=aj hsy;have Y3:=aj (ah2 w2 (aB (arK y) 54));have S3:=aj ((dX w2 (aB (arK y) 54) (r:=zs) wP).trans S2.af);have F3:=aj ((dX w2 (aB (arK y) 54) (r:=w.heap.size) wP).trans F2.af);have B3:=aj (B2.af.alloc wP (aB (arK y) 54));clear hv hsy S2 F2 B2;go_upto_region 6 with fail
      have hz3:(w2.alloc (aB (arK y) 54)).heap.size=w2.heap.size+1:=arG;generalize w2.alloc (aB (arK y) 54)=w3 at *;obtain⟨y0,y1,y2,y3,y4,y5,y6,y7,y8⟩:=lK Y3.af;have t0:w3.cell? (ak zs 0)=some (ah s.at_):=aL S3.af rfl;have t2:w3.cell? (ak zs 2)=some (ah s.stub):=aL S3.af rfl;by_cases hk1:y.ar3=1
      case neg=>
        have Hn:Hid (kP im=false):=aj (by rw[HD.af,o9.af,mM.af,qK (ac7 Cm.af hk1)];simp);have b1:(y.ar3 != 1)=true:=by rw[bne_iff_ne];exact hk1
        go_wp2;go_ret;exact⟨by rw[Hn.af];rfl,B3.af⟩
      have b1:(y.ar3 != 1)=false:=by rw[bne_eq_false_iff_eq];exact hk1
      by_cases h1:x<=s.at_
      case neg=>
        have Hn:Hid (kP im=false):=aj (by rw[HD.af,o9.af,mM.af,M9 h1];simp);have hd:decide (s.at_<x)=true:=by rw[arI];omega
        go_wp2;go_ret;exact⟨by rw[Hn.af];rfl,B3.af⟩
      have hd:decide (s.at_<x)=false:=by rw[arN];omega
      obtain⟨i0,i1,i2,i3,i4,i5,i6,i7,i8,i9,dV,i11,i12,dZ,eB⟩:=bY F3.af;have HH1:=aj (HH.af w3 s.at_ 8 0 B3.af tQ.af.2.1 abD abD);go_wp2_with fail;refine HH1.af.mono ?_;rintro e w4 ⟨rfl,hb4⟩;have Co:=hb4.size;have F4:=aj ((hb4.block w.heap.size wP).trans F3.af);have S4:=aj ((hb4.block zs wP).trans S3.af);have B4:=aj (B3.af.trans (hb4.mono wP));clear hb4 i0 i1 i2 i3 i4 i5 i6 i7 i8 i9 dV i11 i12 dZ eB t0 t2 y0 y1 y2 y3 y4 y5 y6 y7 y8 Y3 HH1
      cases Qp:bZ im.aI s.at_ 8 0 with
      | false=>
        have Hn:Hid (kP im=false):=aj (by rw[HD.af,o9.af,mM.af,qK (aik Qp)];simp);clear Qp;go_wp2;go_ret;exact⟨by rw[Hn.af];rfl,B4.af⟩
      | true=>
        have hat:=mE (nT Hg.af) Qp;have Hh1:=aj Qp;clear Qp;obtain⟨i0,i1,i2,i3,i4,i5,i6,i7,i8,i9,dV,i11,i12,dZ,eB⟩:=bY F4.af;have t0:w4.cell? (ak zs 0)=some (ah s.at_):=aL S4.af rfl;have t2:w4.cell? (ak zs 2)=some (ah s.stub):=aL S4.af rfl;have HH2:=aj (HH.af w4 s.stub 8 4 B4.af tQ.af.2.2 abD abD);go_wp2_with fail;refine HH2.af.mono ?_;rintro e w5 ⟨rfl,hb5⟩;have uX:=hb5.size;have F5:=aj ((hb5.block w.heap.size wP).trans F4.af);have S5:=aj ((hb5.block zs wP).trans S4.af);have B5:=aj (B4.af.trans (hb5.mono wP));clear hb5 i0 i1 i2 i3 i4 i5 i6 i7 i8 i9 dV i11 i12 dZ eB t0 t2 HH2
        cases Qq:bZ im.aI s.stub 8 4 with
        | false=>
          have Hn:Hid (kP im=false):=aj (by rw[HD.af,o9.af,mM.af,qK (ac8 Qq)];simp);clear Qq;go_wp2;go_ret;exact⟨by rw[Hn.af];rfl,B5.af⟩
        | true=>
          have Hh2:=aj Qq;clear Qq;obtain⟨i0,i1,i2,i3,i4,i5,i6,i7,i8,i9,dV,i11,i12,dZ,eB⟩:=bY F5.af;clear i0 i1 i2 i3 i4 i5 i6 i7 i8 dV i11 i12 dZ eB;go_wp2_with fail;go_loopw [56] (fun i wi=>∃(q:Nat),i=ah q/\q<=im.aO.length/\(im.aO.take q).all (fun r=> !sN im s r)=true/\Below w5 w5 wi) (fun i _=>im.aO.length-(intOf i).toNat);exact⟨0,rfl,alg _,rfl,Below.refl _ _⟩;obtain⟨q,rfl,hq,hall,hbi⟩:=hrel;have iT:=aj hall;have qi:=aj hbi;have hzi:=hbi.size;clear hall;have F6:=(hbi.block w.heap.size wP).trans F5.af;have S6:=(hbi.block zs wP).trans S5.af;by_cases hlt2:q<im.aO.length
          · obtain rfl:=qh.af.addr wP
            obtain⟨r,AA⟩:∃r,im.aO[q]? =some r:=⟨_,gP hlt2⟩;obtain⟨g0,g1,g2,g3⟩:=(qh.af.below (B5.af.trans (hbi.mono wP))).NH q r AA;have hro:=Hrr.af r (dH AA);have hrg:=Bi Hg.af hsl (aim.af r (dH AA));have Dq:=aj (jM (fun r=> !sN im s r) im.aO q r AA);have qL:=aj (Tf (im:=im) (s:=s) AA);have Hm:Hid (sN im s r=(decide (r.at_<s.at_+8)&&decide (s.at_<r.at_+eU im r))):=aj rfl
            have hw0:0<=eU im r:=by
              unfold eU
              split
              · rename_i s' hs'
                have:=(lX.af s' (qa hs').2.2).1
                split<;>omega
              · omega
            have H9:=aj hro;obtain⟨wd,hwd⟩:∃wd,eU im r=wd:=⟨_,rfl⟩;have yC:=aj (fun w' hb=>HW.af w' r hb H9.af);rw[hwd]at yC hrg hw0 Hm;have alo:=fD _ _ g0;have R7:=ah2 wr (aB #[ah r.at_,ah r.ar3,ah r.sym,ah r.add] 122);have F7:=(dX wr (aB #[ah r.at_,ah r.ar3,ah r.sym,ah r.add] 122) (r:=w.heap.size) wP).trans F6;have S7:=(dX wr (aB #[ah r.at_,ah r.ar3,ah r.sym,ah r.add] 122) (r:=zs) wP).trans S6;have B7:=aj (qi.af.alloc hzi (aB #[ah r.at_,ah r.ar3,ah r.sym,ah r.add] 122));clear AA hbi qi hro hwd F6 S6;go_upto_region 11 with fail
            have JH:(wr.alloc (aB #[ah r.at_,ah r.ar3,ah r.sym,ah r.add] 122)).heap.size=wr.heap.size+1:=arG;generalize wr.alloc (aB #[ah r.at_,ah r.ar3,ah r.sym,ah r.add] 122)=w7 at *;have t0:w7.cell? (ak zs 0)=some (ah s.at_):=aL S7 rfl;have r0:w7.cell? (ak wr 0)=some (ah r.at_):=aL R7 rfl;have r1:w7.cell? (ak wr 1)=some (ah r.ar3):=aL R7 rfl;have r2:w7.cell? (ak wr 2)=some (ah r.sym):=aL R7 rfl;have r3:w7.cell? (ak wr 3)=some (ah r.add):=aL R7 rfl;obtain⟨i0,i1,i2,i3,i4,i5,i6,i7,i8,i9,dV,i11,i12,dZ,eB⟩:=bY F7;have l0:=fun x:Later w7=>x.cell i0
            have l1:=fun x:Later w7=>x.cell i1
            have l2:=fun x:Later w7=>x.cell i2
            have l3:=fun x:Later w7=>x.cell i3
            have l4:=fun x:Later w7=>x.cell i4
            have l5:=fun x:Later w7=>x.cell i5
            have l6:=fun x:Later w7=>x.cell i6
            have l7:=fun x:Later w7=>x.cell i7
            have l8:=fun x:Later w7=>x.cell i8
            have l9:=fun x:Later w7=>x.cell i9
            have l10:=fun x:Later w7=>x.cell dV
            have qj:=fun x:Later w7=>x.cell i11
            have Ez:=fun x:Later w7=>x.cell i12
            have EA:=fun x:Later w7=>x.cell dZ
            have EB:=fun x:Later w7=>x.cell eB
            have n0:=fun x:Later w7=>x.cell t0
            have m0:=fun x:Later w7=>x.cell r0
            have m1:=fun x:Later w7=>x.cell r1
            have m2:=fun x:Later w7=>x.cell r2
            have m3:=fun x:Later w7=>x.cell r3
            clear i0 i1 i2 i3 i4 i5 i6 i7 i8 i9 dV i11 i12 dZ eB t0 r0 r1 r2 r3 g0 g1 g2 g3 R7 F7 S7;by_cases hm1:r.at_<s.at_+8
            case neg=>
              have Hmf:Hid (sN im s r=false):=aj (by rw[Hm.af,decide_eq_false (p:=r.at_<s.at_+8) hm1];rfl);have hd1:decide (r.at_<s.at_+8)=false:=by rw[arN];omega
              refine dG TA TA ?_
              repeat (go_big_quiet_step (fail))
              refine lD ?_;rintro _ ⟨⟨wq,hq⟩,rfl⟩;try simp only at hq
              have Hq:=aj hq;clear hq l0 l1 l2 l3 l4 l5 l6 l7 l8 l9 l10 qj Ez EA EB n0 m0 m1 m2 m3;go_wp2;go_roundw;exact⟨q+1,arH,wP,by rw[Dq.af,iT.af,Hmf.af];rfl,B7.af.trans (Hq.af.mono wP)⟩;simp[intOf];omega
            have hd1:decide (r.at_<s.at_+8)=true:=by rw[arI];omega
            by_cases hm2:s.at_<r.at_+wd
            case pos=>
              have Hn:Hid (kP im=false):=aj (by rw[HD.af,o9.af,mM.af,qK (qL.af (by rw[Hm.af,decide_eq_true (p:=r.at_<s.at_+8) hm1,decide_eq_true (p:=s.at_<r.at_+wd) hm2];rfl))];simp);have hd2:decide (s.at_<r.at_+wd)=true:=by rw[arI];omega
              refine dG TA TA ?_
              repeat (go_big_quiet_step (first | (go_at_call 117;refine Later.call _ (yC.af _ ?_);exact(B5.af.trans (B7.af.mono wP)).trans ((Later.h _).mono wP))))
              refine lD ?_;rintro _ ⟨⟨wq,hq⟩,rfl⟩;try simp only at hq
              have Hq:=aj hq;clear hq l0 l1 l2 l3 l4 l5 l6 l7 l8 l9 l10 qj Ez EA EB n0 m0 m1 m2 m3;go_wp2;go_ret;exact⟨by rw[Hn.af];rfl,(B5.af.trans (B7.af.mono wP)).trans (Hq.af.mono wP)⟩
            have Hmf:Hid (sN im s r=false):=aj (by rw[Hm.af,decide_eq_false (p:=s.at_<r.at_+wd) hm2];simp);have hd2:decide (s.at_<r.at_+wd)=false:=by rw[arN];omega
            refine dG TA TA ?_
            repeat (go_big_quiet_step (first | (go_at_call 117;refine Later.call _ (yC.af _ ?_);exact(B5.af.trans (B7.af.mono wP)).trans ((Later.h _).mono wP))))
            refine lD ?_;rintro _ ⟨⟨wq,hq⟩,rfl⟩;try simp only at hq
            have Hq:=aj hq;clear hq l0 l1 l2 l3 l4 l5 l6 l7 l8 l9 l10 qj Ez EA EB n0 m0 m1 m2 m3;go_wp2;go_roundw;exact⟨q+1,arH,wP,by rw[Dq.af,iT.af,Hmf.af];rfl,B7.af.trans (Hq.af.mono wP)⟩;simp[intOf];omega
          · have j4:Hid ((im.aO.all fun r=> !sN im s r)=true):=aj (by have:=iT.af;rwa [List.take_of_length_le wP]at this)
            have hok:=ail Cm.af hk1 Hh1.af Hh2.af j4.af;have xS:Hid (iF im 0 im.asf=iF im (s.at_+8) (im.asf.drop (k+1))):=aj (by rw[o9.af,mM.af,Ob h1 hok]);have t0:wr.cell? (ak zs 0)=some (ah s.at_):=aL S6 rfl;have HF6:=aj F6;clear hok hbi F6 S6;go_wp2;go_roundw;exact⟨k+1,s.at_+8,arH,by first | rfl | go_num,wP,wP,wP,xS.af,B5.af.trans (qi.af.mono wP),HF6.af,wP⟩;simp[intOf];omega
  · obtain⟨i0,i1,i2,i3,i4,i5,i6,i7,i8,i9,dV,i11,i12,dZ,eB⟩:=bY hF
    have hd:Hid (kP im=decide (im.asf.length<=128)):=aj (by rw[HD.af,o9.af,zY wP];simp[iF]);clear hbel hF i0 i1 i2 i3 i4 i5 i6 i7 i8 i9 i11 i12 dZ eB;go_wp2;go_ret;exact⟨vE (by rw[hd.af,Rq];simp;omega),di.af⟩
end Go.Proofs.YtpjgjeadjjackaaGreat
