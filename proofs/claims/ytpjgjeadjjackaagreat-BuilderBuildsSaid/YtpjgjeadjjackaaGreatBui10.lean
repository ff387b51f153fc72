/- Lemmas. -/
import Derived.Test.YtpjgjeadjjackaaGreatBui5
import Derived.Test.YtpjgjeadjjackaaGreatBui6
import Derived.Test.YtpjgjeadjjackaaGreatBui9
import Derived.Test.YtpjgjeadjjackaaGreatBui3
set_option linter.unusedVariables false
set_option linter.unusedSimpArgs false
set_option maxHeartbeats 64000000
set_option maxRecDepth 100000
namespace Go.Proofs.YtpjgjeadjjackaaGreat
open Go.RowKit
open Go.IntKind renaming wrap_u8'->Uk
open _root_.List renaming length_cons->oF,length_nil->aR
variable {S:Nat->Prop}{w:World}{v:jv}{im:bK}
abbrev lH (x:Int):Prop:= -9223372036854775808<=x/\x<=9223372036854775807
structure uK (S:Nat->Prop) (w:World) (v:jv) (im:bK):Prop where
 arT:im.arT.length<=9223372036854775807
 ar4:lH im.ar4
 aI:LB rQ S w v.aI im.aI
 xX:∀s∈im.aI,lH s.at_/\lH s.size/\lH s.perm
 ar6:LB GU S w v.ar6 im.ar6
 aF:LB lG S w v.aF im.aF
 av:LB gq S w v.av im.av
 ar9:LB tJ S w v.ar9 im.ar9
 wF:∀c∈im.ar9,c.length<=9223372036854775807
 ar8:LB jQ S w v.ar8 im.ar8
 xx:∀x∈im.ar8,0<=x/\x<18446744073709551616
 ase:lH im.ase
 aO:LB mi S w v.aO im.aO
 kU:∀r∈im.aO,uR r
 asf:LB ER S w v.asf im.asf
 yK:∀s∈im.asf,FQ s
 asb:LB dJ S w v.asb im.asb
 BH:∀x∈im.asb,lH x
 aP:LB dJ S w v.aP im.aP
 BI:∀x∈im.aP,lH x
 bf:LB fq S w v.bf im.bf
 aJ:lH im.aJ
theorem uK.asa {w':World} (h:uK S w v im) (hk:Keeps S w w'):uK S w' v im:=
 ⟨h.arT,h.ar4,h.aI.asa hk,h.xX,h.ar6.asa hk,h.aF.asa hk,h.av.asa hk,h.ar9.asa hk,h.wF,h.ar8.asa hk,h.xx,h.ase,h.aO.asa hk,h.kU,h.asf.asa hk,h.yK,h.asb.asa hk,h.BH,h.aP.asa hk,h.BI,h.bf.asa hk,h.aJ⟩
theorem uK.imp {S':Nat->Prop} (h:uK S w v im) (hk:∀b,S b->S' b):uK S' w v im:=
 ⟨h.arT,h.ar4,h.aI.imp hk,h.xX,h.ar6.imp hk,h.aF.imp hk,h.av.imp hk,h.ar9.imp hk,h.wF,h.ar8.imp hk,h.xx,h.ase,h.aO.imp hk,h.kU,h.asf.imp hk,h.yK,h.asb.imp hk,h.BH,h.aP.imp hk,h.BI,h.bf.imp hk,h.aJ⟩
theorem uK.later {w':World} (h:uK (·<w.heap.size) w v im) (hb:Below w w w'):uK (·<w'.heap.size) w' v im:=
 (h.asa (.of_below hb)).imp fun _ hb'=>Nat.lt_of_lt_of_le hb' hb.size
theorem TI (h:mH im=true):0<=im.ar4/\im.ar4<16:=by
 simp only[mH,Bool.and_eq_true,arI]at h;omega
theorem tX (hg:jL im.aI=true) (ht:qX im=true) (h:jE im=true):(∀s∈im.av,0<=s.size/\s.size<=9223372036854775807)/\im.av.length<=512:=by
 have h':=h;simp only[jE,Bool.and_eq_true,arI]at h';refine⟨fun s hs=> ?_,h'.1⟩;have:=Rx hg ht (zX _ _ _ _ h'.2 s hs);omega
theorem aav (h:mH im=false):kH im=90:=by rw[kH,if_pos h]
theorem aaw (h1:mH im=true) (h:jL im.aI=false):kH im=91:=by rw[kH,h1,if_neg arG,if_pos h]
theorem Fz (h1:mH im=true) (h2:jL im.aI=true) (h:qX im=false):kH im=96:=by rw[kH,h1,if_neg arG,h2,if_neg arG,if_pos h]
theorem aax (h1:mH im=true) (h2:jL im.aI=true) (h3:qX im=true) (h:jE im=false):kH im=92:=by rw[kH,h1,if_neg arG,h2,if_neg arG,h3,if_neg arG,if_pos h]
theorem X7 (h1:mH im=true) (h2:jL im.aI=true) (h3:qX im=true) (h4:jE im=true) (h:nA im=false):kH im=93:=by rw[kH,h1,if_neg arG,h2,if_neg arG,h3,if_neg arG,h4,if_neg arG,if_pos h]
theorem TJ (h1:mH im=true) (h2:jL im.aI=true) (h3:qX im=true) (h4:jE im=true) (h5:nA im=true) (h:jk im=false):kH im=94:=by rw[kH,h1,if_neg arG,h2,if_neg arG,h3,if_neg arG,h4,if_neg arG,h5,if_neg arG,if_pos h]
theorem X8 (h1:mH im=true) (h2:jL im.aI=true) (h3:qX im=true) (h4:jE im=true) (h5:nA im=true) (h6:jk im=true) (h:kP im=false):kH im=95:=by rw[kH,h1,if_neg arG,h2,if_neg arG,h3,if_neg arG,h4,if_neg arG,h5,if_neg arG,h6,if_neg arG,if_pos h]
theorem aay (h1:mH im=true) (h2:jL im.aI=true) (h3:qX im=true) (h4:jE im=true) (h5:nA im=true) (h6:jk im=true) (h7:kP im=true) (h:(jr im im.asb&&jr im im.aP)=false):kH im=97:=by rw[kH,h1,if_neg arG,h2,if_neg arG,h3,if_neg arG,h4,if_neg arG,h5,if_neg arG,h6,if_neg arG,h7,if_neg arG,if_pos h]
theorem aaz (h1:mH im=true) (h2:jL im.aI=true) (h3:qX im=true) (h4:jE im=true) (h5:nA im=true) (h6:jk im=true) (h7:kP im=true) (h:(jr im im.asb&&jr im im.aP)=true):kH im=0:=by rw[kH,h1,if_neg arG,h2,if_neg arG,h3,if_neg arG,h4,if_neg arG,h5,if_neg arG,h6,if_neg arG,h7,if_neg arG,h,if_neg arG]
theorem aiB (w:World) (v:jv) (im:bK) (hm:uK (·<w.heap.size) w v im):
  Calls Tryz.prog 20 #[.agg (aW v im)] w fun e w'=>e=.returned (ah (kH im))/\Below w w w':=by
 obtain⟨la,jB,hlv⟩:=hm.bf.form;have hlm:=hm.bf.max;obtain⟨eO,cK,bR,gF,bS,dK,d9,ek,fM,fO,iH⟩:=v;simp only at hlv;subst hlv;have HM:Hid (∀w',Below w w w'->uK (·<w'.heap.size) w' ⟨eO,cK,bR,gF,bS,dK,d9,ek,fM,fO,.slice la im.bf.length jB⟩ im):=aj (fun w' hb=>hm.later hb);clear hm;generalize hI:(Array.mk [ax im.arT,ah im.ar4,eO,cK,bR,gF,bS,dK,ah im.ase,d9,ek,fM,fO,.slice la im.bf.length jB,ah im.aJ]:Array Value)=I;have F0:=aj (heap_alloc_new w (.cells I 44 (0,0)));have B0:=aj ((Below.refl w.heap.size w).alloc (Nat.le_refl _) (.cells I 44 (0,0)));have hz0:(w.alloc (.cells I 44 (0,0))).heap.size=w.heap.size+1:=arG;subst hI;have hcells:aW ⟨eO,cK,bR,gF,bS,dK,d9,ek,fM,fO,.slice la im.bf.length jB⟩ im=#[ax im.arT,ah im.ar4,eO,cK,bR,gF,bS,dK,ah im.ase,d9,ek,fM,fO,.slice la im.bf.length jB,ah im.aJ]:=rfl;rw[hcells];clear hcells;go_enter Tryz.func20,Tryz.ntmps20;go_wp2_with fail;generalize w.alloc (aB #[ax im.arT,ah im.ar4,eO,cK,bR,gF,bS,dK,ah im.ase,d9,ek,fM,fO,.slice la im.bf.length jB,ah im.aJ] 44)=w0 at *;have C1:=aj (agN w0 _ im (HM.af w0 B0.af).ar6 (HM.af w0 B0.af).aF (HM.af w0 B0.af).arT);unfold aW at C1;obtain⟨i0,i1,i2,i3,i4,i5,i6,i7,i8,i9,dV,i11,i12,dZ,eB⟩:=bY F0.af;go_wp2_with fail;refine C1.af.mono ?_;rintro e w1 ⟨rfl,hb1⟩;have hz1:=hb1.size;have F1:=aj ((hb1.block w.heap.size wP).trans F0.af);have B1:=aj (B0.af.trans (hb1.mono wP));clear hb1 C1 i0 i1 i2 i3 i4 i5 i6 i7 i8 i9 dV i11 i12 dZ eB
 cases hb:mH im with
 | false=>
  have Hr:=aj (aav hb);clear hb;go_wp2;go_ret;exact⟨by rw[Hr.af];rfl,B1.af⟩
 | true=>
 have H1:=aj hb;clear hb;have C2:=aj (agO w1 _ im (HM.af w1 B1.af).aI (fun s hs=>⟨((HM.af w1 B1.af).xX s hs).1.1,((HM.af w1 B1.af).xX s hs).2.1.2⟩));unfold aW at C2;obtain⟨i0,i1,i2,i3,i4,i5,i6,i7,i8,i9,dV,i11,i12,dZ,eB⟩:=bY F1.af;go_wp2_with fail;refine C2.af.mono ?_;rintro e w2 ⟨rfl,hb2⟩;have hz2:=hb2.size;have F2:=aj ((hb2.block w.heap.size wP).trans F1.af);have B2:=aj (B1.af.trans (hb2.mono wP));clear hb2 C2 i0 i1 i2 i3 i4 i5 i6 i7 i8 i9 dV i11 i12 dZ eB
 cases hb:jL im.aI with
 | false=>
  have Hr:=aj (aaw H1.af hb);clear hb;go_wp2;go_ret;exact⟨by rw[Hr.af];rfl,B2.af⟩
 | true=>
 have H2:=aj hb;clear hb;obtain⟨i0,i1,i2,i3,i4,i5,i6,i7,i8,i9,dV,i11,i12,dZ,eB⟩:=bY F2.af;clear i0 i1 i2 i3 i4 i5 i6 i7 i8 i9 dV i11 i12;have HD:Hid (qX im=(decide (0<=im.aJ)&&decide (im.aJ<=4096)&&decide ((im.bf.length:Int)<=im.aJ))):=aj rfl;by_cases t0:0<=im.aJ
 case neg=>
  have hb:qX im=false:=by rw[HD.af,decide_eq_false (p:=0<=im.aJ) t0];simp
  have Hr:=aj (Fz H1.af H2.af hb);clear hb;have hd0:decide (im.aJ<0)=true:=by rw[arI];omega
  go_wp2;go_ret;exact⟨by rw[Hr.af];rfl,B2.af⟩
 have hd0:decide (im.aJ<0)=false:=by rw[arN];omega
 by_cases t1:im.aJ<=4096
 case neg=>
  have hb:qX im=false:=by rw[HD.af,decide_eq_false (p:=im.aJ<=4096) t1];simp
  have Hr:=aj (Fz H1.af H2.af hb);clear hb;have hd1:decide (4096<im.aJ)=true:=by rw[arI];omega
  go_wp2;go_ret;exact⟨by rw[Hr.af];rfl,B2.af⟩
 have hd1:decide (4096<im.aJ)=false:=by rw[arN];omega
 by_cases t2:(im.bf.length:Int)<=im.aJ
 case neg=>
  have hb:qX im=false:=by rw[HD.af,decide_eq_false (p:=(im.bf.length:Int)<=im.aJ) t2];simp
  have Hr:=aj (Fz H1.af H2.af hb);clear hb;have hd2:decide (im.aJ<(im.bf.length:Int))=true:=by rw[arI];omega
  go_wp2;go_ret;exact⟨by rw[Hr.af];rfl,B2.af⟩
 have hd2:decide (im.aJ<(im.bf.length:Int))=false:=by rw[arN];omega
 have H3:Hid (qX im=true):=aj (by rw[HD.af,decide_eq_true (p:=0<=im.aJ) t0,decide_eq_true (p:=im.aJ<=4096) t1,decide_eq_true (p:=(im.bf.length:Int)<=im.aJ) t2];rfl);have htl:0<=im.aJ/\im.aJ<=4096:=⟨t0,t1⟩;have C4:=aj (agT w2 _ im (HM.af w2 B2.af).aI (yB H2.af) (HM.af w2 B2.af).av htl);unfold aW at C4;obtain⟨i0,i1,i2,i3,i4,i5,i6,i7,i8,i9,dV,i11,i12,dZ,eB⟩:=bY F2.af;go_wp2_with fail;refine C4.af.mono ?_;rintro e w3 ⟨rfl,hb3⟩;have hz3:=hb3.size;have F3:=aj ((hb3.block w.heap.size wP).trans F2.af);have B3:=aj (B2.af.trans (hb3.mono wP));clear hb3 C4 i0 i1 i2 i3 i4 i5 i6 i7 i8 i9 dV i11 i12 dZ eB
 cases hb:jE im with
 | false=>
  have Hr:=aj (aax H1.af H2.af H3.af hb);clear hb;go_wp2;go_ret;exact⟨by rw[Hr.af];rfl,B3.af⟩
 | true=>
 have H4:=aj hb;clear hb;have C5:=aj (adk w3 im _ _ _ (HM.af w3 B3.af).ar9 (HM.af w3 B3.af).ar8 (HM.af w3 B3.af).av (HM.af w3 B3.af).xx);obtain⟨i0,i1,i2,i3,i4,i5,i6,i7,i8,i9,dV,i11,i12,dZ,eB⟩:=bY F3.af;go_wp2_with fail;refine C5.af.mono ?_;rintro e w4 ⟨rfl,hb4⟩;have Co:=hb4.size;have F4:=aj ((hb4.block w.heap.size wP).trans F3.af);have B4:=aj (B3.af.trans (hb4.mono wP));clear hb4 C5 i0 i1 i2 i3 i4 i5 i6 i7 i8 i9 dV i11 i12 dZ eB
 cases hb:nA im with
 | false=>
  have Hr:=aj (X7 H1.af H2.af H3.af H4.af hb);rw[Oi hb];clear hb;go_wp2;go_ret;exact⟨by rw[Hr.af];rfl,B4.af⟩
 | true=>
 have H5:=aj hb;rw[QA hb];clear hb;have C6:=aj (abR w4 _ im (HM.af w4 B4.af).aI H2.af (HM.af w4 B4.af).av (TI H1.af) (HM.af w4 B4.af).aO (HM.af w4 B4.af).kU (tX H2.af H3.af H4.af).1 (tX H2.af H3.af H4.af).2);unfold aW at C6;obtain⟨i0,i1,i2,i3,i4,i5,i6,i7,i8,i9,dV,i11,i12,dZ,eB⟩:=bY F4.af;go_wp2_with fail;refine C6.af.mono ?_;rintro e w5 ⟨rfl,hb5⟩;have uX:=hb5.size;have F5:=aj ((hb5.block w.heap.size wP).trans F4.af);have B5:=aj (B4.af.trans (hb5.mono wP));clear hb5 C6 i0 i1 i2 i3 i4 i5 i6 i7 i8 i9 dV i11 i12 dZ eB
 cases hb:jk im with
 | false=>
  have Hr:=aj (TJ H1.af H2.af H3.af H4.af H5.af hb);clear hb;go_wp2;go_ret;exact⟨by rw[Hr.af];rfl,B5.af⟩
 | true=>
 have H6:=aj hb;clear hb;have C7:=aj (ac9 w5 _ im (HM.af w5 B5.af).aI H2.af (HM.af w5 B5.af).av (HM.af w5 B5.af).aO (HM.af w5 B5.af).kU H6.af (tX H2.af H3.af H4.af).1 (tX H2.af H3.af H4.af).2 (HM.af w5 B5.af).asf (HM.af w5 B5.af).yK);unfold aW at C7;obtain⟨i0,i1,i2,i3,i4,i5,i6,i7,i8,i9,dV,i11,i12,dZ,eB⟩:=bY F5.af;go_wp2_with fail;refine C7.af.mono ?_;rintro e w6 ⟨rfl,hb6⟩;have JN:=hb6.size;have F6:=aj ((hb6.block w.heap.size wP).trans F5.af);have B6:=aj (B5.af.trans (hb6.mono wP));clear hb6 C7 i0 i1 i2 i3 i4 i5 i6 i7 i8 i9 dV i11 i12 dZ eB
 cases hb:kP im with
 | false=>
  have Hr:=aj (X8 H1.af H2.af H3.af H4.af H5.af H6.af hb);clear hb;go_wp2;go_ret;exact⟨by rw[Hr.af];rfl,B6.af⟩
 | true=>
 have H7:=aj hb;clear hb;have C8:=aj (agZ w6 _ im (HM.af w6 B6.af).aI (yB H2.af) (HM.af w6 B6.af).asb (HM.af w6 B6.af).aP (HM.af w6 B6.af).BH (HM.af w6 B6.af).BI);unfold aW at C8;obtain⟨i0,i1,i2,i3,i4,i5,i6,i7,i8,i9,dV,i11,i12,dZ,eB⟩:=bY F6.af;go_wp2_with fail;refine C8.af.mono ?_;rintro e w7 ⟨rfl,uN⟩;have JH:=uN.size;have F7:=aj ((uN.block w.heap.size wP).trans F6.af);have B7:=aj (B6.af.trans (uN.mono wP));clear uN C8 i0 i1 i2 i3 i4 i5 i6 i7 i8 i9 dV i11 i12 dZ eB
 cases hb:(jr im im.asb&&jr im im.aP)with
 | false=>
  have Hr:=aj (aay H1.af H2.af H3.af H4.af H5.af H6.af H7.af hb);clear hb;go_wp2;go_ret;exact⟨by rw[Hr.af];rfl,B7.af⟩
 | true=>
 have H8:=aj hb;clear hb;have Hr:=aj (aaz H1.af H2.af H3.af H4.af H5.af H6.af H7.af H8.af);go_wp2;go_ret;exact⟨by rw[Hr.af];rfl,B7.af⟩
theorem mF.anr {a:Option Addr} {b off:Nat} {l:List fu} (h:mF mh S w l a b off) (i:Nat) (x:fu) (hx:l[i]? =some x):Bb x/\w.cell? (ak b (off+i*5))=some (ah x.op)/\w.cell? (ak b (off+i*5+1))=some (ah x.a)/\
  w.cell? (ak b (off+i*5+2))=some (ah x.b)/\w.cell? (ak b (off+i*5+3))=some (ah x.c)/\w.cell? (ak b (off+i*5+4))=some (ah x.bU):=by
 obtain⟨row,⟨h1,h1'⟩,h2⟩:=h.row i x hx;subst h1;exact⟨h1',h2 0 _ rfl,h2 1 _ rfl,h2 2 _ rfl,h2 3 _ rfl,h2 4 _ rfl⟩
theorem yL (n:Int):IntKind.u8.wrap n=((jI n 0).toNat:Int):=by
 have:=X4 n 0 wP
 simpa using this
theorem TK {l:List fu} {k:Nat} {x:fu} (h:l[k]? =some x):ky (l.take (k+1))=ky (l.take k)++o8 x:=by
 rw[jR h];unfold ky;rw[List.flatMap_append];simp
theorem OE:∀l:List fu,(ky l).length=8*l.length
 | []=>rfl
 | x :: l=>by
  have:ky (x :: l)=o8 x++ky l:=rfl;rw[this,List.length_append,OE l,oF];have:(o8 x).length=8:=rfl;omega
theorem AL (n:Int) (i:Nat) (h:i<4):IntKind.u8.wrap (IntKind.u32.wrap n/2 ^ (8*i))=((jI n i).toNat:Int):=by
 have e:∀m:Nat,((UInt8.ofNat m).toNat:Int)=(m:Int)%256:=fun m=>arG
 unfold jI;rw[e,Uk,IntKind.wrap_u32'];have:i=0∨i=1∨i=2∨i=3:=wP;rcases this with rfl | rfl | rfl | rfl<;>simp only[Nat.mul_zero,Nat.mul_one,Nat.reduceMul,Nat.reducePow,Int.reducePow,Nat.pow_zero,Int.pow_zero]<;>omega
theorem aaA (w:World) (l:List UInt8) (hl:l.length<=9223372036854775807):LB fq (fun b=>b=w.heap.size) (w.alloc (.cells (l.map fun x:UInt8=>Value.int .u8 x.toNat).toArray 5 (0,0))) (.slice (some ⟨w.heap.size,0,none⟩) l.length l.length) l:=by
 refine⟨some (ak w 0),w.heap.size,0,l.length,rfl,hl,fun _=>rfl,⟨Nat.le_refl _,fun h=>by cases h⟩,fun _=>rfl,fun i x hx=>⟨[.int .u8 x.toNat],rfl,fun j u hu=> ?_⟩⟩
 match j,hu with
 | 0,hu=>
  simp at hu;subst hu;rw[Lib.cell_of_heap (heap_alloc_new _ _)];simp[fq,hx]
 | j+1,hu=>simp at hu
def akS (w:World) (is:List fu) (x:Ending) (w':World):Prop:=
 ∃r,x=.returned (.tuple #[r,ah (if is.all gJ then 0 else 40)])/\Below w w w'/\(is.all gJ=true->aX 5 fq w.heap.size (fun _=>False) w' r (ky is))
theorem adA (w:World) (u:Value) (is:List fu) (hu:LB mh S w u is) (hS:∀b,S b->b<w.heap.size) (hl:is.length<=100000000):
  Calls Tryz.prog 15 #[u] w (akS w is):=by
 obtain⟨ua,ub,nN,Ct,rfl,EH,huc,hat⟩:=hu.at;have Nk:=hat.addr;have dP:=aj (hat.asa (S:=S) (w':=w) (fun b _=>rfl));have HS:=aj hS;obtain ⟨m,hm⟩:=aiG is.length;have Hm:=aj hm;rw[<-hm]at EH huc Nk hl ⊢;clear hu hat hS hm;go_enter Tryz.func15,Tryz.ntmps15;go_wp2_with fail;go_loopw [4,11] (fun o i wr=>∃k:Nat,i=ah k/\k<=m/\(∀x∈is.take k,gJ x=true)/\aX 5 fq w.heap.size (fun b=>b<w) wr o (ky (is.take k))/\Below w w wr) (fun _ i _=>m-(intOf i).toNat);exact⟨0,rfl,Nat.zero_le _,arG,aX.nil _ _ _ _ _,Below.refl _ _⟩;obtain⟨k,rfl,hk,hok,ho,hb⟩:=hrel;have HO:=aj ho;have HB:=aj hb;have iy:=aj hok;have hz:=hb.size;clear ho hb hok;by_cases hlt:k<m
 ·obtain rfl:=Nk wP
  obtain⟨x,hx⟩:∃x,is[k]? =some x:=⟨_,List.getElem?_eq_getElem (by rw[<-Hm.af];exact hlt)⟩;have hbu:=HS.af _ (dP.af.mG (by rw[<-Hm.af];omega));obtain⟨hxo,g0,g1,g2,g3,g4⟩:=dP.af.anr k x hx;replace g0:=(HB.af.cell (p:=(ak ub (nN+k*5))) hbu).trans g0;replace g1:=(HB.af.cell (p:=(ak ub (nN+k*5+1))) hbu).trans g1;replace g2:=(HB.af.cell (p:=(ak ub (nN+k*5+2))) hbu).trans g2;replace g3:=(HB.af.cell (p:=(ak ub (nN+k*5+3))) hbu).trans g3;replace g4:=(HB.af.cell (p:=(ak ub (nN+k*5+4))) hbu).trans g4;have Hnt:=aj (TK hx);have TH:=aj (show (ky (is.take k)).length=8*k by rw[OE,List.length_take];have:=Hm.af;omega);have hk2:(k:Int)<(m:Int):=wP;have Bz:=aj (fun w=>XG w x hxo);have OG:Hid (x∈is):=aj (List.mem_of_getElem? hx);have HTk:Hid (is.take (k+1)=is.take k++[x]):=aj (jR hx);have HBa:=aj (HB.af.alloc hz (.cells (arW x) 58));have xW:=aj (HO.af.alloc (.cells (arW x) 58));have DF:=aj (heap_alloc_new wr (.cells (arW x) 58));have hza:wr.heap.size<(wr.alloc (.cells (arW x) 58)):=arG;clear hx;go_wp2_with fail;refine(Bz.af _).mono ?_;rintro e w5 ⟨rfl,hb5⟩;generalize wr.alloc (.cells (arW x) 58)=wa at *;have mQ:=aj (HBa.af.trans (hb5.mono wP));have sV:=aj (xW.af.below hb5);have kF:=aj ((hb5.block wr.heap.size hza).trans DF.af);have uX:wr.heap.size<w5:=by have:=hb5.size;omega
  clear g0 g1 g2 g3 g4 hb5;generalize wr.heap.size=xb at *
  cases hi:gJ x with
  | false=>
   have HE:Hid (iB x=40):=aj (by unfold iB;rw[hi];rfl)
   have HA:Hid (is.all gJ=false):=aj (by
    rw[List.all_eq_false];exact⟨x,OG.af,by rw[hi];simp⟩)
   rw[HE.af];clear hi;go_wp2;go_ret2;exact⟨_,by rw[HA.af];rfl,mQ.af,fun h=>by rw[HA.af]at h;cases h⟩
  | true=>
   have HE:Hid (iB x=0):=aj (by unfold iB;rw[hi];rfl);have Hi:=aj hi;rw[HE.af];clear hi;have f0:w5.cell? (ak xb 0)=some (ah x.op):=aL kF.af rfl;have f1:w5.cell? (ak xb 1)=some (ah x.a):=aL kF.af rfl;have f2:w5.cell? (ak xb 2)=some (ah x.b):=aL kF.af rfl;have f3:w5.cell? (ak xb 3)=some (ah x.c):=aL kF.af rfl;have f4:w5.cell? (ak xb 4)=some (ah x.bU):=aL kF.af rfl;obtain⟨oa,oc,hof⟩:=sV.af.form;rw[TH.af]at hof;subst hof;obtain⟨mm,hmm⟩:∃mm,IntKind.u32.wrap x.bU=mm:=⟨_,rfl⟩;have aof:0<=mm:=by rw[<-hmm,IntKind.wrap_u32'];omega
   obtain⟨b0,hb0⟩:∃b0,jI x.op 0=b0:=⟨_,rfl⟩;obtain⟨b1,hb1⟩:∃b1,jI x.a 0=b1:=⟨_,rfl⟩;obtain⟨b2,hb2⟩:∃b2,jI x.b 0=b2:=⟨_,rfl⟩;obtain⟨b3,hb3⟩:∃b3,jI x.c 0=b3:=⟨_,rfl⟩;obtain⟨b4,hb4⟩:∃b4,jI x.bU 0=b4:=⟨_,rfl⟩;obtain⟨b5,hb5⟩:∃b5,jI x.bU 1=b5:=⟨_,rfl⟩;obtain⟨b6,hb6⟩:∃b6,jI x.bU 2=b6:=⟨_,rfl⟩;obtain⟨b7,uN⟩:∃b7,jI x.bU 3=b7:=⟨_,rfl⟩;have HBy:Hid (o8 x=[b0,b1,b2,b3,b4,b5,b6,b7]):=aj (by unfold o8;rw[hb0,hb1,hb2,hb3,hb4,hb5,hb6,uN]);have e0:=yL x.op;have e1:=yL x.a;have e2:=yL x.b;have e3:=yL x.c;have e4:=AL x.bU 0 wP;have e5:=AL x.bU 1 wP;have e6:=AL x.bU 2 wP;have e7:=AL x.bU 3 wP;rw[hmm]at e4 e5 e6 e7;simp only[Nat.mul_zero,Int.pow_zero,Nat.mul_one,Nat.reduceMul,Int.ediv_one]at e4 e5 e6 e7;rw[hb0]at e0;rw[hb1]at e1;rw[hb2]at e2;rw[hb3]at e3;rw[hb4]at e4;rw[hb5]at e5;rw[hb6]at e6;rw[uN]at e7;clear hb0 hb1 hb2 hb3 hb4 hb5 hb6 uN;have e5':mm/256%256=(b5.toNat:Int):=by rw[<-e5,Uk];rfl
   have e6':mm/65536%256=(b6.toNat:Int):=by rw[<-e6,Uk];rfl
   have e7':mm/16777216%256=(b7.toNat:Int):=by rw[<-e7,Uk];rfl
   have F9:=aj ((sV.af.fJ (E':=fun b=>b<w5+1/\¬(Value.slice oa (8*k) oc).ownBlock=some b) jd (fun g hg h=>h.2 hg)).alloc (.cells #[.int .u8 b0.toNat,.int .u8 b1.toNat,.int .u8 b2.toNat,.int .u8 b3.toNat,.int .u8 b4.toNat,.int .u8 b5.toNat,.int .u8 b6.toNat,.int .u8 b7.toNat] 5));have lh:Hid ((w5.alloc (.cells #[.int .u8 b0.toNat,.int .u8 b1.toNat,.int .u8 b2.toNat,.int .u8 b3.toNat,.int .u8 b4.toNat,.int .u8 b5.toNat,.int .u8 b6.toNat,.int .u8 b7.toNat] 5)).heap.size=w5.heap.size+1):=aj arG;have vJ:=aj (aaA w5 [b0,b1,b2,b3,b4,b5,b6,b7] arG);go_wp2_with (at_builtin;go_loud (refine oH (v:=.slice oa (8*k) oc) (l:=ky (is.take k)) nI 42 (.int .u8 0) 1 Tryz.underlying42 mW rfl rfl (.tmp 23) (.tmp 47) rfl rfl F9.af (fun b hb=>by have h1:=hb.1;have h2:=lh.af;omega) (.slice (some ⟨w5.heap.size,0,none⟩) 8 8) [b0,b1,b2,b3,b4,b5,b6,b7] rfl vJ.af (by rw[TH.af];simp only[oF,aR];omega) (by rw[TH.af];simp only[oF,aR];omega) (by have h2:=lh.af;omega) ?_));intro v' w7 om yI Ff
   have di:Hid (Below w w w7):=aj (by
    have h2:=lh.af;exact mQ.af.trans (((Below.refl w.heap.size w5).alloc wP (.cells #[.int .u8 b0.toNat,.int .u8 b1.toNat,.int .u8 b2.toNat,.int .u8 b3.toNat,.int .u8 b4.toNat,.int .u8 b5.toNat,.int .u8 b6.toNat,.int .u8 b7.toNat] 5)).trans ((yI.imp (S':=(·<w.heap.size)) (fun b hb=>⟨by have hb:b<w:=hb;omega,fun e=>by have h3:=(sV.af.lt b e).1;have hb:b<w:=hb;omega⟩)).below)))
   have kT:=aj (om.fJ (E':=fun b=>b<w) jd (fun g hg h=>by have:=(om.lt g hg).1;omega))
   have aid:Hid (∀y∈is.take (k+1),gJ y=true):=aj (by
    intro y hy;rw[HTk.af]at hy;rcases List.mem_append.1 hy with h | h
    ·exact iy.af y h
    ·rw[List.mem_singleton.1 h];exact Hi.af)
   obtain⟨va,vc,rfl⟩:=om.form;clear om yI Ff e0 e1 e2 e3 e4 e5 e6 e7 e5' e6' e7' hmm f0 f1 f2 f3 f4;go_wp2;go_roundw;exact⟨k+1,arH,wP,aid.af,by rw[Hnt.af,HBy.af];exact kT.af,di.af⟩;simp[intOf];omega
 ·have hall:is.take k=is:=List.take_of_length_le (by have:=Hm.af;omega)
  have HA:Hid (is.all gJ=true):=aj (by rw[List.all_eq_true];intro x hx;exact iy.af x (by rw[hall];exact hx))
  have HE:=aj (show aX 5 fq w.heap.size (fun _=>False) wr u4 (ky is) by
   have h:=HO.af;rw[hall]at h;exact h.fJ jd (fun _ _ h=>h))
  clear hall;go_wp2;go_ret2;exact⟨_,by rw[HA.af];rfl,HB.af,fun _=>HE.af⟩
def aog (e:TypeId) (k:Nat) (w:World) (v:Value) (n:Nat):Prop:=n=0∨∃g c cur,v=.slice (some ⟨g,0,none⟩) n c/\w.heap[g]? =some (.cells cur e (0,0))/\n*k<=cur.size
def xA {α:Type} (e:TypeId) (K:Kind α) (S:Nat->Prop) (w:World) (v:Value) (l:List α):Prop:=LB K S w v l/\aog e K.k w v l.length
section
variable {α : Type} {e : TypeId} {K : Kind α} {S S' : Nat -> Prop} {w w' : World} {v : Value} {l : List α}
theorem xA.asa (h:xA e K S w v l) (hk:Keeps S w w'):xA e K S w' v l:=by
 refine⟨h.1.asa hk,?_⟩;rcases h.2 with h0 | ⟨g,c,cur,hv,hg,hn⟩
 ·exact Or.inl h0
 ·by_cases h0:l.length=0
  ·exact Or.inl h0
  ·obtain⟨a,b,off,cap,hf,_,_,hat⟩:=h.1.at
   have ha:=hat.addr wP;have hb:=hat.mG wP;rw[hv,ha]at hf
   cases hf
   exact Or.inr ⟨g,_,cur,hv,(hk g hb).trans hg,hn⟩
theorem xA.imp (h:xA e K S w v l) (hi:∀b,S b->S' b):xA e K S' w v l:=⟨h.1.imp hi,h.2⟩
theorem xA.nil (e:TypeId) (K:Kind α) (S:Nat->Prop) (w:World):xA e K S w (au) []:=⟨LB.nil K S w,Or.inl rfl⟩
theorem xA.form (h:xA e K S w v l):∃a c,v=.slice a l.length c:=h.1.form
theorem aX.QO {B:Nat} {E:Nat->Prop} (h:aX e K B E w v l):xA e K (fun b=>b<w/\¬E b) w v l:=by
 refine⟨h.lb,?_⟩;obtain⟨xs,h1,_⟩:=h;rcases h1.2 with ⟨_,h0⟩ | ⟨g,cap,cur,hv,_,hh,hle,_,hs,_⟩
 ·exact Or.inl h0
 ·exact Or.inr ⟨g,cap,cur,hv,hh,by rw[hs];exact Nat.mul_le_mul_right _ hle⟩
end
theorem LB.ar1 {α:Type} {K K':Kind α} {v:Value} {l:List α} (hk:K.k=K'.k) (hR:∀x r,K.R S w x r->K'.R S w x r) (h:LB K S w v l):LB K' S w v l:=by
 obtain⟨a,b,off,cap,hv,hm,ha,hc,hS,hr⟩:=h;refine⟨a,b,off,cap,hv,hm,ha,hc,hS,fun i x hx=> ?_⟩;obtain⟨r,h1,h2⟩:=hr i x hx;exact⟨r,hR x r h1,fun j u hu=>by rw[<-hk];exact h2 j u hu⟩
def CZ:Kind lS:={k:=4,R:=fun S w x r=>∃c,r=[ah x.at_,ah x.size,c,ah x.perm]/\xA 5 fq S w c x.bytes,len:=fun⟨_,h,_⟩=>by rw[h];rfl,asa:=fun⟨c,h,h'⟩ hk=>⟨c,h,h'.asa hk⟩,imp:=fun⟨c,h,h'⟩ hi=>⟨c,h,h'.imp hi⟩}
def OH:Kind AX:={k:=2,R:=fun S w x r=>∃c,r=[ax x.arT,c]/\xA 9 lG S w c x.asi/\x.arT.length<=9223372036854775807,len:=fun⟨_,h,_⟩=>by rw[h];rfl,asa:=fun⟨c,h,h',h3⟩ hk=>⟨c,h,h'.asa hk,h3⟩,imp:=fun⟨c,h,h',h3⟩ hi=>⟨c,h,h'.imp hi,h3⟩}
structure su (S:Nat->Prop) (w:World) (v:jv) (im:bK):Prop where
 arT:im.arT.length<=9223372036854775807
 ar4:lH im.ar4
 aI:xA 68 CZ S w v.aI im.aI
 xX:∀s∈im.aI,lH s.at_/\lH s.size/\lH s.perm
 ar6:xA 81 OH S w v.ar6 im.ar6
 aF:xA 9 lG S w v.aF im.aF
 av:xA 54 gq S w v.av im.av
 ar9:LB tJ S w v.ar9 im.ar9
 wF:∀c∈im.ar9,c.length<=9223372036854775807
 ar8:LB jQ S w v.ar8 im.ar8
 xx:∀x∈im.ar8,0<=x/\x<18446744073709551616
 ase:lH im.ase
 aO:LB mi S w v.aO im.aO
 kU:∀r∈im.aO,uR r
 asf:LB ER S w v.asf im.asf
 yK:∀s∈im.asf,FQ s
 asb:LB dJ S w v.asb im.asb
 BH:∀x∈im.asb,lH x
 aP:LB dJ S w v.aP im.aP
 BI:∀x∈im.aP,lH x
 bf:xA 5 fq S w v.bf im.bf
 aJ:lH im.aJ
section
variable {S S' : Nat -> Prop} {w w' : World} {v : jv} {im : bK}
theorem su.asa (h:su S w v im) (hk:Keeps S w w'):su S w' v im:=
 ⟨h.arT,h.ar4,h.aI.asa hk,h.xX,h.ar6.asa hk,h.aF.asa hk,h.av.asa hk,h.ar9.asa hk,h.wF,h.ar8.asa hk,h.xx,h.ase,h.aO.asa hk,h.kU,h.asf.asa hk,h.yK,h.asb.asa hk,h.BH,h.aP.asa hk,h.BI,h.bf.asa hk,h.aJ⟩
theorem su.imp (h:su S w v im) (hk:∀b,S b->S' b):su S' w v im:=
 ⟨h.arT,h.ar4,h.aI.imp hk,h.xX,h.ar6.imp hk,h.aF.imp hk,h.av.imp hk,h.ar9.imp hk,h.wF,h.ar8.imp hk,h.xx,h.ase,h.aO.imp hk,h.kU,h.asf.imp hk,h.yK,h.asb.imp hk,h.BH,h.aP.imp hk,h.BI,h.bf.imp hk,h.aJ⟩
theorem su.img (h:su S w v im):uK S w v im:=
 ⟨h.arT,h.ar4,LB.ar1 (K:=CZ) (K':=rQ) rfl (fun _ _ ⟨c,h1,h2⟩=>⟨c,h1,h2.1⟩) h.aI.1,h.xX,LB.ar1 (K:=OH) (K':=GU) rfl (fun _ _ ⟨c,h1,h2,h3⟩=>⟨c,h1,h2.1,h3⟩) h.ar6.1,h.aF.1,h.av.1,h.ar9,h.wF,h.ar8,h.xx,h.ase,h.aO,h.kU,h.asf,h.yK,h.asb,h.BH,h.aP,h.BI,h.bf.1,h.aJ⟩
end
end Go.Proofs.YtpjgjeadjjackaaGreat
