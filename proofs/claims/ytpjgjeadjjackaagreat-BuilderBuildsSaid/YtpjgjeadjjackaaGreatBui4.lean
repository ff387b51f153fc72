/- Lemmas. -/
import Derived.Test.YtpjgjeadjjackaaGreatBui2
import Derived.Test.YtpjgjeadjjackaaGreatBui1
import Derived.Test.YtpjgjeadjjackaaGreatBui3
import Derived.Deep.DeepCutAuto
set_option linter.unusedVariables false
set_option linter.unusedSimpArgs false
set_option maxHeartbeats 64000000
set_option maxRecDepth 100000
namespace Go.Proofs.YtpjgjeadjjackaaGreat
open Go.RowKit
open Go.Proofs.Tryz renaming prog->asq
open _root_.Array renaming getElem?_eq_none->Ku
open _root_.Bool renaming and_eq_true->pJ,eq_iff_iff->Rq,and_assoc->Kv,or_eq_true->aj6
open Go renaming heap_alloc_new->ah2,bodyPost_ret->qE
open Go.Lib renaming alloc_old->SK,cell_of_heap->aV
open Go.RowKit.Below renaming refl->PZ
open Go.World renaming cell?_alloc_lt->qF,block_lt_of_cell?->fD,size_alloc->lW
open _root_.List renaming getElem?_eq_getElem->gP,take_of_length_le->dh,getElem?_eq_some_iff->Sm,mem_of_getElem?->dH,mem_cons->Y1,take_succ_eq_append_getElem->wC,all_eq_true->P5,any_eq_true->vX
open _root_.Nat renaming le_refl->oD,zero_le->alg,lt_or_ge->oG
variable {im:bK}{s:List UInt8}
structure jv where
 aI:Value
 ar6:Value
 aF:Value
 av:Value
 ar9:Value
 ar8:Value
 aO:Value
 asf:Value
 asb:Value
 aP:Value
 bf:Value
def aW (v:jv) (im:bK):Array Value:=
 #[ax im.arT,ah im.ar4,v.aI,v.ar6,v.aF,v.av,v.ar9,v.ar8,ah im.ase,v.aO,v.asf,v.asb,v.aP,v.bf,ah im.aJ]
theorem any_take_succ {α:Type} (f:α->Bool) (l:List α) (k:Nat) (x:α) (hx:l[k]? =some x) (ha:(l.take k).any f=false) (hf:f x=false):(l.take (k+1)).any f=false:=by
 obtain⟨h,rfl⟩:=Sm.1 hx;rw[wC h,List.any_append,ha];simp[hf]
theorem acB {α:Type} (f:α->Bool) (l:List α) (k:Nat) (x:α) (hx:l[k]? =some x) (hf:f x=true):l.any f=true:=
 vX.2 ⟨x,dH hx,hf⟩
def CU (s:lS):Prop:=0<=s.at_/\s.at_<=65536/\1<=s.size/\s.size<=65536/\0<=s.perm/\s.perm<=7
def holdB (s:lS) (at_ n p:Int):Bool:=decide (s.at_<=at_)&&decide (n<=s.size)&&decide (at_-s.at_<=s.size-n)&&CR s.perm p
theorem SN (l:List lS) (at_ n p:Int):bZ l at_ n p=l.any fun s=>holdB s at_ n p:=rfl
theorem SQ (p q:Int) (h0:0<=p) (h1:p<=7) (hq:q=0∨q=2∨q=4):(bits BinOp.and .i64 p q==q)=CR p q:=by
 obtain⟨n,rfl⟩:∃n:Nat,p=n:=⟨p.toNat,wP⟩;have hn:n<=7:=wP;have h:∀m:Nat,m<=7->(bits BinOp.and .i64 ((m:Nat):Int) 0==0)=CR ((m:Nat):Int) 0/\(bits BinOp.and .i64 ((m:Nat):Int) 2==2)=CR ((m:Nat):Int) 2/\(bits BinOp.and .i64 ((m:Nat):Int) 4==4)=CR ((m:Nat):Int) 4:=by decide +kernel
 rcases hq with rfl | rfl | rfl
 ·exact(h n hn).1
 ·exact(h n hn).2.1
 ·exact(h n hn).2.2
theorem G7 (w:World) (v:jv) (im:bK) (at_ n p:Int) (hs:LB rQ (·<w.heap.size) w v.aI im.aI) (hok:∀s∈im.aI,CU s)
  (ha: -9223372036854775808<=at_/\at_<=9223372036854775807) (hn:0<=n/\n<=9223372036854775807) (hp:p=0∨p=2∨p=4):
  Calls asq 113 #[.agg (aW v im),.agg #[ah at_,ah n,ah p]] w fun e w'=>e=.returned (.bool (bZ im.aI at_ n p))/\Below w w w':=by
 rw[SN];unfold aW;obtain⟨sa,sb,yu,jO,hsv,hsm,hsc,hat⟩:=hs.at;rw[hsv];have dP:=aj hat;have iy:=aj hok;have Hp:=aj hp;clear hs hat hok hp hsv;go_enter Tryz.func113,Tryz.ntmps113;go_wp2;go_loopw [10] (fun i wr=>∃(k:Nat),i=ah k/\k<=im.aI.length/\(im.aI.take k).any (fun s=>holdB s at_ n p)=false/\Below w w wr/\wr.heap[w.heap.size+1]? =some (aB #[ah at_,ah n,ah p] 190)) (fun i _=>im.aI.length-(intOf i).toNat);exact⟨0,rfl,alg _,rfl,((PZ _ _).alloc (oD _) _).alloc arG _,by simpa only[lW] using ah2 (w.alloc _) _⟩;obtain⟨k,rfl,hk,hno,hbel,hq⟩:=hrel;have Hno:=aj hno;have di:=aj hbel;have Hq:=aj hq;have hBr:=hbel.size;by_cases hlt:k<im.aI.length
 ·obtain rfl:=dP.af.addr wP
  obtain⟨s,hx⟩:∃s,im.aI[k]? =some s:=⟨_,gP hlt⟩;obtain⟨c,g0,g1,g2,g3,hc⟩:=(dP.af.below hbel).Ki k s hx;obtain⟨ca,cc,rfl⟩:=hc.form;clear hc;obtain⟨o1,o2,o3,o4,o5,o6⟩:=iy.af s (dH hx);have q0:wr.cell? (ak (w+1) 0)=some (ah at_):=aL hq rfl;have q1:wr.cell? (ak (w+1) 1)=some (ah n):=aL hq rfl;have q2:wr.cell? (ak (w+1) 2)=some (ah p):=aL hq rfl;have hpb:=SQ s.perm p o5 o6 Hp.af;have Ru:Hid (holdB s at_ n p=true->im.aI.any (fun s=>holdB s at_ n p)=true):=aj (acB (fun s=>holdB s at_ n p) _ k s hx);have EZ:Hid (holdB s at_ n p=false->(im.aI.take (k+1)).any (fun s=>holdB s at_ n p)=false):=aj (any_take_succ (fun s=>holdB s at_ n p) _ k s hx Hno.af);have Hd:Hid (holdB s at_ n p=(decide (s.at_<=at_)&&decide (n<=s.size)&&decide (at_-s.at_<=s.size-n)&&CR s.perm p)):=aj rfl
  have tO:w.heap.size+1<wr.heap.size:=by
   rcases oG (w.heap.size+1) wr.heap.size with h' | h'
   ·exact h'
   ·rw[Ku h']at hq;cases hq
  clear hno hbel hq hx;generalize holdB s at_ n p=hb at *;generalize s.at_=sat at *;generalize s.size=SS at *;generalize s.perm=ZC at *;generalize CR ZC p=pb at *;by_cases h1:sat<=at_
  ·by_cases h2:n<=SS
   ·by_cases h3:at_-sat<=SS-n
    ·cases pb with
     | true=>
      have Hh:=aj (Ru.af (by rw[Hd.af];simp[h1,h2,h3]));go_wp2;go_ret;exact⟨by rw[Hh.af];rfl,di.af.alloc hBr _⟩
     | false=>
      have Hm:=aj (EZ.af (by rw[Hd.af];simp));go_wp2;go_roundw;exact⟨k+1,arH,wP,Hm.af,di.af.alloc hBr _,by rw[SK _ _ _ tO];exact Hq.af⟩;simp[intOf];omega
    ·have Hm:=aj (EZ.af (by rw[Hd.af];simp[h3]))
     go_wp2;go_roundw;exact⟨k+1,arH,wP,Hm.af,di.af.alloc hBr _,by rw[SK _ _ _ tO];exact Hq.af⟩;simp[intOf];omega
   ·have Hm:=aj (EZ.af (by rw[Hd.af];simp[h2]))
    go_wp2;go_roundw;exact⟨k+1,arH,wP,Hm.af,di.af.alloc hBr _,by rw[SK _ _ _ tO];exact Hq.af⟩;simp[intOf];omega
  ·have Hm:=aj (EZ.af (by rw[Hd.af];simp[h1]))
   go_wp2;go_roundw;exact⟨k+1,arH,wP,Hm.af,di.af.alloc hBr _,by rw[SK _ _ _ tO];exact Hq.af⟩;simp[intOf];omega
 ·have Hn2:Hid (im.aI.any (fun s=>holdB s at_ n p)=false):=aj (by have:=Hno.af;rw[dh wP]at this;exact this)
  clear hno hbel hq;go_wp2;go_ret;exact⟨by rw[Hn2.af];rfl,di.af⟩
theorem CV (w:World) (v:jv) (im:bK) (at_ n p:Int) (hs:LB rQ (·<w.heap.size) w v.aI im.aI) (hok:∀s∈im.aI,CU s)
  (ha: -9223372036854775808<=at_/\at_<=9223372036854775807) (hn:0<=n/\n<=9223372036854775807) (hp:p=0∨p=2∨p=4):
  Calls asq 136 #[.agg (aW v im),ah at_,ah n,ah p] w fun e w'=>e=.returned (.bool (bZ im.aI at_ n p))/\Below w w w':=by
 rw[SN];unfold aW;obtain⟨sa,sb,yu,jO,hsv,hsm,hsc,hat⟩:=hs.at;rw[hsv];have dP:=aj hat;have iy:=aj hok;have Hp:=aj hp;clear hs hat hok hp hsv;go_enter Tryz.func136,Tryz.ntmps136;go_wp2;go_loopw [9] (fun i wr=>∃(k:Nat),i=ah k/\k<=im.aI.length/\(im.aI.take k).any (fun s=>holdB s at_ n p)=false/\Below w w wr/\wr.cell? (ak w 2)=some (.slice sa im.aI.length jO)/\w.heap.size<wr) (fun i _=>im.aI.length-(intOf i).toNat);exact⟨0,rfl,alg _,rfl,(PZ _ _).alloc (oD _) _,arG,arG⟩;obtain⟨k,rfl,hk,hno,hbel,hq,tO⟩:=hrel;have Hno:=aj hno;have di:=aj hbel;have Hq:=aj hq;have hBr:=hbel.size;by_cases hlt:k<im.aI.length
 ·obtain rfl:=dP.af.addr wP
  obtain⟨s,hx⟩:∃s,im.aI[k]? =some s:=⟨_,gP hlt⟩;obtain⟨c,g0,g1,g2,g3,hc⟩:=(dP.af.below hbel).Ki k s hx;obtain⟨ca,cc,rfl⟩:=hc.form;clear hc;obtain⟨o1,o2,o3,o4,o5,o6⟩:=iy.af s (dH hx);have hpb:=SQ s.perm p o5 o6 Hp.af;have Ru:Hid (holdB s at_ n p=true->im.aI.any (fun s=>holdB s at_ n p)=true):=aj (acB (fun s=>holdB s at_ n p) _ k s hx);have EZ:Hid (holdB s at_ n p=false->(im.aI.take (k+1)).any (fun s=>holdB s at_ n p)=false):=aj (any_take_succ (fun s=>holdB s at_ n p) _ k s hx Hno.af);have Hd:Hid (holdB s at_ n p=(decide (s.at_<=at_)&&decide (n<=s.size)&&decide (at_-s.at_<=s.size-n)&&CR s.perm p)):=aj rfl;clear hno hbel hx;generalize holdB s at_ n p=hb at *;generalize s.at_=sat at *;generalize s.size=SS at *;generalize s.perm=ZC at *;generalize CR ZC p=pb at *
  cases pb with
  | false=>
   have Hm:=aj (EZ.af (by rw[Hd.af];simp));go_wp2;go_roundw;exact⟨k+1,arH,wP,Hm.af,di.af.alloc hBr _,by rw[qF _ _ _ tO];exact Hq.af,by simp;omega⟩;simp[intOf];omega
  | true=>
   by_cases h1:sat<=at_
   case neg=>
    have Hm:=aj (EZ.af (by rw[Hd.af];simp[h1]));go_wp2;go_roundw;exact⟨k+1,arH,wP,Hm.af,di.af.alloc hBr _,by rw[qF _ _ _ tO];exact Hq.af,by simp;omega⟩;simp[intOf];omega
   by_cases h2:n<=SS
   case neg=>
    have Hm:=aj (EZ.af (by rw[Hd.af];simp[h2]));go_wp2;go_roundw;exact⟨k+1,arH,wP,Hm.af,di.af.alloc hBr _,by rw[qF _ _ _ tO];exact Hq.af,by simp;omega⟩;simp[intOf];omega
   by_cases h3:at_<=sat+SS-n
   ·have Hh:=aj (Ru.af (by rw[Hd.af];simp[h1,h2];omega))
    go_wp2;go_ret;exact⟨by rw[Hh.af];rfl,di.af.alloc hBr _⟩
   ·have Hm:=aj (EZ.af (by rw[Hd.af];simp[h1,h2];omega))
    go_wp2;go_roundw;exact⟨k+1,arH,wP,Hm.af,di.af.alloc hBr _,by rw[qF _ _ _ tO];exact Hq.af,by simp;omega⟩;simp[intOf];omega
 ·have Hn2:Hid (im.aI.any (fun s=>holdB s at_ n p)=false):=aj (by have:=Hno.af;rw[dh wP]at this;exact this)
  clear hno hbel;go_wp2;go_ret;exact⟨by rw[Hn2.af];rfl,di.af⟩
theorem G8 (im:bK) (i:Int) (h:i<0):gX im i=none:=by rw[gX,if_pos h]
theorem G9 (im:bK) (i:Int) (h:(im.av.length:Int)<=i):gX im i=none:=by
 rw[gX,if_neg wP];exact List.getElem?_eq_none wP
theorem Kw (im:bK) (k:Nat) (s:bF) (h:im.av[k]? =some s):gX im k=some s:=by
 rw[gX,if_neg wP,Int.toNat_natCast];exact h
def ang:bF:=⟨[],[],false,0,false,0,false,0,0⟩
def Ja (im:bK) (i:Int):bF:=(gX im i).getD ang
def uF (im:bK) (i:Int):Value:=.tuple #[.agg (lT (Ja im i)).toArray,.bool (gX im i).isSome]
theorem Rv (w:World) (v:jv) (im:bK) (i:Int) (hs:LB gq (·<w.heap.size) w v.av im.av) (hi: -9223372036854775808<=i/\i<=9223372036854775807):
  Calls asq 118 #[.agg (aW v im),ah i] w fun e w'=>e=.returned (uF im i)/\Below w w w':=by
 unfold aW;obtain⟨sa,sb,yu,jO,hsv,hsm,hsc,hat⟩:=hs.at;rw[hsv];have dP:=aj hat;clear hs hat hsv;by_cases h1:i<0
 ·have Hv:Hid (uF im i=.tuple #[.agg arQ,.bool false]):=aj (by rw[uF,Ja,G8 im i h1];rfl)
  go_enter Tryz.func118,Tryz.ntmps118;go_wp2;refine qE (v:=.tuple #[.agg arQ,.bool false]) (by simp[results,Tryz.results118,go_sem]) rfl ⟨by rw[Hv.af],((PZ _ _).alloc (oD _) _).alloc arG _⟩
 by_cases h2:(im.av.length:Int)<=i
 ·have Hv:Hid (uF im i=.tuple #[.agg arQ,.bool false]):=aj (by rw[uF,Ja,G9 im i h2];rfl)
  go_enter Tryz.func118,Tryz.ntmps118;go_wp2;refine qE (v:=.tuple #[.agg arQ,.bool false]) (by simp[results,Tryz.results118,go_sem]) rfl ⟨by rw[Hv.af],((PZ _ _).alloc (oD _) _).alloc arG _⟩
 ·obtain⟨k,rfl⟩:∃k:Nat,i=k:=⟨i.toNat,wP⟩
  have hlt:k<im.av.length:=wP;obtain rfl:=dP.af.addr wP;obtain⟨s,hx⟩:∃s,im.av[k]? =some s:=⟨_,gP hlt⟩;obtain⟨_,g0,g1,g2,g3,g4,g5,g6,g7,g8⟩:=dP.af.rR k s hx;have Hv:Hid (uF im (k:Int)=.tuple #[.agg (arK s),.bool true]):=aj (by rw[uF,Ja,Kw im k s hx];rfl);have hsb:=fD _ _ g0;clear hx h1 h2;obtain⟨arT,asc,old,ar3,ar1,bq,asg,value,size⟩:=s;simp only at *;go_enter Tryz.func118,Tryz.ntmps118;go_wp2;refine qE (v:=.tuple #[.agg #[ax arT,ax asc,.bool old,ah ar3,.bool ar1,ah bq,.bool asg,ah value,ah size],.bool true]) (by simp[results,Tryz.results118,go_sem]) rfl ⟨by rw[Hv.af],((PZ _ _).alloc (oD _) _).alloc arG _⟩
theorem acZ (w:World) (n:Int):
  Calls asq 115 #[ah n] w fun e w'=>e=.returned (.bool (decide (-4294967296<=n)&&decide (n<=4294967296)))/\w'=w:=by
 by_cases h1: -4294967296<=n
 ·have hd1:decide (-4294967296<=n)=true:=by rw[arI];exact h1
  go_enter Tryz.func115,Tryz.ntmps115;go_wp2;go_ret;exact⟨vE (by simp[h1]),rfl⟩
 ·have hd1:decide (-4294967296<=n)=false:=by rw[arN];exact h1
  go_enter Tryz.func115,Tryz.ntmps115;go_wp2;go_ret;exact⟨vE (by simp[h1]),rfl⟩
theorem aib (n:Int) (h0:0<=n) (h:n%64=0):ny n=n:=by unfold ny;omega
theorem aic (n:Int) (h0:0<=n) (h:n%64≠0):ny n=n-n%64+64:=by unfold ny;omega
theorem JA (w:World) (n:Int) (h0:0<=n) (h1:n<=1000000):
  Calls asq 76 #[ah n] w fun e w'=>e=.returned (ah (ny n))/\w'=w:=by
 by_cases h:n%64=0
 ·have hb:(n%64==0)=true:=by rw[beq_iff_eq];exact h
  have Hr:=aj (aib n h0 h);clear h;go_enter Tryz.func76,Tryz.ntmps76;go_wp2;go_ret;exact⟨by rw[Hr.af];rfl,rfl⟩
 ·have hb:(n%64==0)=false:=by rw[arM];exact h
  have Hr:=aj (aic n h0 h);clear h;go_enter Tryz.func76,Tryz.ntmps76;go_wp2;go_ret;exact⟨by rw[Hr.af];rfl,rfl⟩
theorem bY {x:World} {b:Nat} {c0 c1 c2 c3 c4 c5 c6 c7 c8 c9 c10 c11 c12 c13 c14:Value} (h:x.heap[b]? =some (aB #[c0,c1,c2,c3,c4,c5,c6,c7,c8,c9,c10,c11,c12,c13,c14] 44)):
  x.cell? (ak b 0)=some c0/\x.cell? (ak b 1)=some c1/\x.cell? (ak b 2)=some c2/\x.cell? (ak b 3)=some c3/\x.cell? (ak b 4)=some c4/\x.cell? (ak b 5)=some c5/\x.cell? (ak b 6)=some c6/\x.cell? (ak b 7)=some c7/\
  x.cell? (ak b 8)=some c8/\x.cell? (ak b 9)=some c9/\x.cell? (ak b 10)=some c10/\x.cell? (ak b 11)=some c11/\x.cell? (ak b 12)=some c12/\x.cell? (ak b 13)=some c13/\x.cell? (ak b 14)=some c14:=by
 refine⟨?_,?_,?_,?_,?_,?_,?_,?_,?_,?_,?_,?_,?_,?_,?_⟩<;>(rw[aV h];rfl)
theorem Ky {r:iE} (h:gX im r.sym=none):eU im r=8:=by rw[eU,h]
theorem Bh {r:iE} {s:bF} (h:gX im r.sym=some s):eU im r=if r.ar3=2 then s.size else 8:=by rw[eU,h]
theorem XI (w:World) (v:jv) (im:bK) (r:iE) (hs:LB gq (·<w.heap.size) w v.av im.av) (hi: -9223372036854775808<=r.sym/\r.sym<=9223372036854775807):
  Calls asq 117 #[.agg (aW v im),.agg #[ah r.at_,ah r.ar3,ah r.sym,ah r.add]] w fun e w'=>e=.returned (ah (eU im r))/\Below w w w':=by
 have B1:=aj (((PZ w.heap.size w).alloc (oD _) (.cells (aW v im) 44 (0,0))).alloc arG (aB #[ah r.at_,ah r.ar3,ah r.sym,ah r.add] 122));have hsv:=hs.form;have HS:=aj (Rv ((w.alloc (.cells (aW v im) 44 (0,0))).alloc (aB #[ah r.at_,ah r.ar3,ah r.sym,ah r.add] 122)) v im r.sym ((hs.below B1.af).mono B1.af.size) hi)
 have F1:((w.alloc (.cells (aW v im) 44 (0,0))).alloc (aB #[ah r.at_,ah r.ar3,ah r.sym,ah r.add] 122)).heap[w.heap.size+1]? =some (aB #[ah r.at_,ah r.ar3,ah r.sym,ah r.add] 122):=by
  simpa only[lW] using ah2 (w.alloc (.cells (aW v im) 44 (0,0))) _
 have Ck:=aj F1;have Hn:Hid (gX im r.sym=none->eU im r=8):=aj Ky;have Hsm:Hid (∀s,gX im r.sym=some s->eU im r=if r.ar3=2 then s.size else 8):=aj (fun s h=>Bh h);clear hs F1;unfold aW at *;go_enter Tryz.func117,Tryz.ntmps117;go_wp2_with fail;refine HS.af.mono ?_;rintro e w2 ⟨rfl,hb2⟩;have F2:=(hb2.block (w.heap.size+1) arG).trans Ck.af;have B2:=aj (B1.af.trans (hb2.mono (by simp;omega)));have q1:w2.cell? (ak (w+1) 1)=some (ah r.ar3):=aL F2 rfl;have hB2:=B2.af.size;have tO:w.heap.size+1<w2.heap.size:=fD _ _ q1;clear hb2 F2 HS
 cases hsa:gX im r.sym with
 | none=>
  have Hw:=aj (Hn.af hsa);have hv:uF im r.sym=.tuple #[.agg arQ,.bool false]:=by rw[uF,Ja,hsa];rfl
  rw[hv];clear hv hsa;go_wp2;go_ret;exact⟨by rw[Hw.af];rfl,B2.af.alloc hB2 _⟩
 | some s=>
  have Hw:=aj (Hsm.af s hsa);have hv:uF im r.sym=.tuple #[.agg (arK s),.bool true]:=by rw[uF,Ja,hsa];rfl
  rw[hv];clear hv hsa;by_cases hk:r.ar3=2
  ·have ZE:Hid (eU im r=s.size):=aj (by rw[Hw.af,if_pos hk])
   go_wp2;go_ret;exact⟨by rw[ZE.af];rfl,B2.af.alloc hB2 _⟩
  ·have ZE:Hid (eU im r=8):=aj (by rw[Hw.af,if_neg hk])
   have hkb:(r.ar3==2)=false:=by rw[arM];exact hk
   go_wp2;go_ret;exact⟨by rw[ZE.af];rfl,B2.af.alloc hB2 _⟩
theorem NZ (w:World) (v:jv) (im:bK) (r:iE) (hs:LB gq (·<w.heap.size) w v.av im.av):
  Calls asq 141 #[.agg (aW v im),.agg #[ah r.at_,ah r.ar3,ah r.sym,ah r.add]] w fun e w'=>e=.returned (ah (eU im r))/\Below w w w':=by
 unfold aW;obtain⟨sa,sb,yu,jO,hsv,hsm,hsc,hat⟩:=hs.at;rw[hsv];have dP:=aj hat;clear hs hat hsv;obtain⟨Qn,ac0,Kz,ac1⟩:=r;simp only;by_cases hk:ac0=2
 case neg=>
  have Hw:Hid (eU im ⟨Qn,ac0,Kz,ac1⟩=8):=aj (by
   rw[eU];split
   ·rw[if_neg hk]
   ·rfl)
  have hkb:(ac0==2)=false:=by rw[arM];exact hk
  clear hk;go_enter Tryz.func141,Tryz.ntmps141;go_wp2;go_ret;exact⟨by rw[Hw.af];rfl,((PZ _ _).alloc (oD _) _).alloc arG _⟩
 case pos=>
  subst hk;by_cases h1:Kz<0
  ·have Hw:Hid (eU im ⟨Qn,2,Kz,ac1⟩=8):=aj (Ky (G8 im Kz h1))
   go_enter Tryz.func141,Tryz.ntmps141;go_wp2;go_ret;exact⟨by rw[Hw.af];rfl,((PZ _ _).alloc (oD _) _).alloc arG _⟩
  by_cases h2:(im.av.length:Int)<=Kz
  ·have Hw:Hid (eU im ⟨Qn,2,Kz,ac1⟩=8):=aj (Ky (G9 im Kz h2))
   go_enter Tryz.func141,Tryz.ntmps141;go_wp2;go_ret;exact⟨by rw[Hw.af];rfl,((PZ _ _).alloc (oD _) _).alloc arG _⟩
  ·obtain⟨k,rfl⟩:∃k:Nat,Kz=k:=⟨Kz.toNat,wP⟩
   have hlt:k<im.av.length:=wP;obtain rfl:=dP.af.addr wP;obtain⟨s,hx⟩:∃s,im.av[k]? =some s:=⟨_,gP hlt⟩;obtain⟨_,g0,g1,g2,g3,g4,g5,g6,g7,g8⟩:=dP.af.rR k s hx;have Hw:Hid (eU im ⟨Qn,2,(k:Int),ac1⟩=s.size):=aj (by rw[Bh (Kw im k s hx)];rfl);have hsb:=fD _ _ g0;clear hx h1 h2 g0 g1 g2 g3 g4 g5 g6 g7;go_enter Tryz.func141,Tryz.ntmps141;go_wp2;go_ret;exact⟨by rw[Hw.af];rfl,((PZ _ _).alloc (oD _) _).alloc arG _⟩
theorem mo {a b:Bool} (h:a=b):Value.bool a=.bool b:=by rw[h]
def HZ (im:bK):Bool:=(decide (im.arT=[])||iN im.arT)&&decide (0<=im.ar4)&&decide (im.ar4<16)&&decide (im.ar6.length<=16)&&decide (im.aF.length<=16)
def Y7 (n:AX):Bool:=sizedB n.arT&&decide (n.asi.length<=16)
theorem jM {α:Type} (f:α->Bool) (l:List α) (k:Nat) (x:α) (hx:l[k]? =some x):(l.take (k+1)).all f=((l.take k).all f&&f x):=by
 obtain⟨h,rfl⟩:=Sm.1 hx;rw[wC h,List.all_append];simp
theorem agN (w:World) (v:jv) (im:bK) (hne:LB GU (·<w.heap.size) w v.ar6 im.ar6) (hrp:LB lG (·<w.heap.size) w v.aF im.aF) (hz:im.arT.length<=9223372036854775807):
  Calls asq 58 #[.agg (aW v im)] w fun e w'=>e=.returned (.bool (mH im))/\Below w w w':=by
 have hsn:=size_mk im.arT;unfold aW;obtain⟨na,nb,N7,FN,sQ,hnm,hnc,Cw⟩:=hne.at;obtain⟨ra,rb,roff,nO,kD,hrm,hrc,j3⟩:=hrp.at;rw[sQ,kD];have B1:=aj ((PZ w.heap.size w).alloc (oD _) (aB #[ax im.arT,ah im.ar4,v.aI,.slice na im.ar6.length FN,.slice ra im.aF.length nO,v.av,v.ar9,v.ar8,ah im.ase,v.aO,v.asf,v.asb,v.aP,v.bf,ah im.aJ] 44));have F1:=aj (ah2 w (aB #[ax im.arT,ah im.ar4,v.aI,.slice na im.ar6.length FN,.slice ra im.aF.length nO,v.av,v.ar9,v.ar8,ah im.ase,v.aO,v.asf,v.asb,v.aP,v.bf,ah im.aJ] 44));have Cx:=aj Cw;have qh:=aj j3;have Hh:Hid (mH im=(HZ im&&im.ar6.all uQ&&im.aF.all sizedB)):=aj rfl;have H0:Hid (HZ im=((decide (im.arT=[])||iN im.arT)&&decide (0<=im.ar4)&&decide (im.ar4<16)&&decide (im.ar6.length<=16)&&decide (im.aF.length<=16))):=aj rfl;clear hne hrp Cw j3 sQ kD;go_enter Tryz.func58,Tryz.ntmps58;go_upto_region 1 with fail
 go_cut [3] (fun s3 wx=>s3=.bool (HZ im)/\Below w w wx/\wx.heap[w.heap.size]? =some (aB #[ax im.arT,ah im.ar4,v.aI,.slice na im.ar6.length FN,.slice ra im.aF.length nO,v.av,v.ar9,v.ar8,ah im.ase,v.aO,v.asf,v.asb,v.aP,v.bf,ah im.aJ] 44))
 case first=>
  cases hq:im.arT.isEmpty with
  | true=>
   have Hv:=aj (List.isEmpty_iff.1 hq);go_wp2_with fail
   all_goals go_meet
   all_goals first
    | (refine ⟨mo ?_,B1.af,F1.af⟩;rw[H0.af,Rq];simp[Hv.af];done)
    | (refine ⟨mo ?_,B1.af,F1.af⟩;rw[H0.af,Rq];simp[Hv.af];omega)
  | false=>
   have Hv:Hid (decide (im.arT=[])=false):=aj (by rw[arN];intro e;rw[e]at hq;simp at hq);go_wp2_with fail;refine(GV _ im.arT hz).mono ?_;rintro e w2 ⟨rfl,hb2⟩;have F2:=aj ((hb2.block w.heap.size arG).trans F1.af);have B2:=aj (B1.af.trans (hb2.mono B1.af.size));clear hb2;obtain⟨c0,c1,c2,c3,c4,c5,c6,c7,c8,c9,c10,c11,c12,c13,c14⟩:=bY F2.af
   cases hn:iN im.arT
   all_goals
    have Hn:=aj hn;go_wp2_with fail
    all_goals go_meet
    all_goals first
     | (refine ⟨mo ?_,B2.af,F2.af⟩;rw[H0.af,Rq];simp[Hv.af,Hn.af];done)
     | (refine ⟨mo ?_,B2.af,F2.af⟩;rw[H0.af,Rq];simp[Hv.af,Hn.af];omega)
 case rest=>
  obtain⟨rfl,hbw,hfw⟩:=hcut;have Bw:=aj hbw;have Fw:=aj hfw;obtain⟨c0,c1,c2,c3,c4,c5,c6,c7,c8,c9,c10,c11,c12,c13,c14⟩:=bY hfw;clear hbw hfw c0 c1 c2 c5 c6 c7 c8 c9 c10 c11 c12 c13 c14 H0 B1 F1;generalize HZ im=h0 at *;go_wp2_with fail;go_loopw [3,43] (fun s3 i wr=>∃k:Nat,i=ah k/\k<=im.ar6.length/\s3=.bool (h0&&(im.ar6.take k).all uQ)/\Below w w wr/\wr.heap[w.heap.size]? =some (aB #[ax im.arT,ah im.ar4,v.aI,.slice na im.ar6.length FN,.slice ra im.aF.length nO,v.av,v.ar9,v.ar8,ah im.ase,v.aO,v.asf,v.asb,v.aP,v.bf,ah im.aJ] 44)) (fun _ i _=>im.ar6.length-(intOf i).toNat);exact⟨0,rfl,alg _,arG,Bw.af,Fw.af⟩;obtain⟨k,rfl,hk,rfl,hbel,hf⟩:=hrel;have di:=aj hbel;have Hf:=aj hf;have hBr:=hbel.size
  have tO:w.heap.size<wr:=by
   rcases oG w.heap.size wr.heap.size with h' | h'
   ·exact h'
   ·rw[Ku h']at hf;cases hf
  by_cases hlt:k<im.ar6.length
  ·obtain rfl:=Cx.af.addr wP
   obtain⟨n,hx⟩:∃n,im.ar6[k]? =some n:=⟨_,gP hlt⟩;have ZF:=Cx.af.mG wP;obtain⟨c,g0w,g1w,ZG,hnz⟩:=Cx.af.Sj k n hx;have g0:=(hbel.cell (p:=(ak nb (N7+k*2))) ZF).trans g0w;have g1:=(hbel.cell (p:=(ak nb (N7+k*2+1))) ZF).trans g1w;clear g0w g1w;obtain⟨va,vb,voff,N8,rfl,xQ,hvc,kI⟩:=ZG.at;have yw:=aj kI;have yx:=aj (jM uQ im.ar6 k n hx);have hsz2:=size_mk n.arT;have Hn0:Hid (Y7 n=(decide (1<=n.arT.length)&&decide (n.arT.length<=200)&&decide (n.asi.length<=16))):=aj rfl;have Hnp:Hid (uQ n=(Y7 n&&n.asi.all iN)):=aj rfl;clear hbel hf ZG kI hx;generalize hok:(h0&&(im.ar6.take k).all uQ)=ok at *;have iy:=aj hok;clear hok;go_upto_region 5 with fail
   go_cut [3] (fun s3 wx=>s3=.bool (ok&&Y7 n)/\wx=wr.alloc (aB #[ax n.arT,.slice va n.asi.length N8] 81))
   case first=>
    cases ok with
    | false=>
     go_wp2_with fail;go_meet;exact⟨rfl,rfl⟩
    | true=>
     go_wp2_with fail
     all_goals go_meet
     all_goals first
      | (refine ⟨mo ?_,rfl⟩;rw[Hn0.af,Rq];simp;done)
      | (refine ⟨mo ?_,rfl⟩;rw[Hn0.af,Rq];simp;omega)
   case rest=>
    obtain⟨rfl,hwx⟩:=hcut;have Bc:Hid (Below w w wc):=aj (by rw[hwx];exact di.af.alloc hBr _);have Fc:Hid (wc.heap[w.heap.size]? =some (aB #[ax im.arT,ah im.ar4,v.aI,.slice (some ⟨nb,N7,none⟩) im.ar6.length FN,.slice ra im.aF.length nO,v.av,v.ar9,v.ar8,ah im.ase,v.aO,v.asf,v.asb,v.aP,v.bf,ah im.aJ] 44)):=aj (by rw[hwx,SK _ _ _ tO];exact Hf.af)
    have d1:wc.cell? (ak wr 1)=some (.slice va n.asi.length N8):=by
     rw[hwx,aV (ah2 wr _)];rfl
    clear hwx di Hf hBr tO g0 g1;generalize wr.heap.size=b5 at *;generalize hok2:(ok&&Y7 n)=ok2 at *;have aid:=aj hok2;clear hok2;go_wp2_with fail;go_loopw [3,69] (fun s3 j wi=>∃q:Nat,j=ah q/\q<=n.asi.length/\s3=.bool (ok2&&(n.asi.take q).all iN)/\Below w w wi/\wi.heap[w.heap.size]? =some (aB #[ax im.arT,ah im.ar4,v.aI,.slice (some ⟨nb,N7,none⟩) im.ar6.length FN,.slice ra im.aF.length nO,v.av,v.ar9,v.ar8,ah im.ase,v.aO,v.asf,v.asb,v.aP,v.bf,ah im.aJ] 44)) (fun _ j _=>n.asi.length-(intOf j).toNat);exact⟨0,rfl,alg _,arG,Bc.af,Fc.af⟩;obtain⟨q,rfl,hq,rfl,hbel,hf⟩:=hrel;have di:=aj hbel;have Hf:=aj hf;by_cases hlt2:q<n.asi.length
    ·obtain rfl:=yw.af.addr wP
     obtain⟨y,hy⟩:∃y,n.asi[q]? =some y:=⟨_,gP hlt2⟩;obtain⟨hv2,hyz⟩:=(yw.af.below hbel).I7 q y hy;have Cm:=aj (jM iN n.asi q y hy);clear hbel hf hy;generalize ZH:(ok2&&(n.asi.take q).all iN)=ok3 at *;have Rw:=aj ZH;clear ZH
     cases ok3 with
     | false=>
      go_wp2;go_roundw;exact⟨q+1,arH,wP,mo (by rw[Cm.af,<-Kv,Rw.af];rfl),di.af,Hf.af⟩;simp[intOf];omega
     | true=>
      have hzi:w.heap.size<=wr:=di.af.size
      have anX:w.heap.size<wr:=by
       rcases oG w.heap.size wr.heap.size with h' | h'
       ·exact h'
       ·have:=Hf.af;rw[Ku h']at this;cases this
      go_wp2_with fail;refine(GV _ y hyz).mono ?_;rintro e w5 ⟨rfl,hb5⟩;have B5:=aj (di.af.trans (hb5.mono hzi));have F5:=aj ((hb5.block w.heap.size anX).trans Hf.af);clear hb5;go_wp2;go_roundw;exact⟨q+1,arH,wP,mo (by rw[Cm.af,<-Kv,Rw.af];rfl),B5.af,F5.af⟩;simp[intOf];omega
    ·have iT:Hid (n.asi.take q=n.asi):=aj (dh wP)
     clear hbel hf;go_wp2;go_roundw;exact⟨k+1,arH,wP,mo (by rw[yx.af,Hnp.af,<-aid.af,<-iy.af,iT.af];simp[Kv]),di.af,Hf.af⟩;simp[intOf];omega
  ·have hf2:=hf
   obtain⟨c0,c1,c2,c3,c4,c5,c6,c7,c8,c9,c10,c11,c12,c13,c14⟩:=bY hf;have iT:Hid (im.ar6.take k=im.ar6):=aj (dh wP);rw[iT.af];generalize hok:(h0&&im.ar6.all uQ)=ok at *;have iy:=aj hok;clear hbel hf hf2 hok c0 c1 c2 c3 c5 c6 c7 c8 c9 c10 c11 c12 c13 c14;go_wp2_with fail;go_loop [3,83] (fun s3 i=>∃q:Nat,i=ah q/\q<=im.aF.length/\s3=.bool (ok&&(im.aF.take q).all sizedB)) (fun _ i=>im.aF.length-(intOf i).toNat);exact⟨0,rfl,alg _,arG⟩;obtain⟨q,rfl,hq,rfl⟩:=hrel;by_cases hlt2:q<im.aF.length
   ·obtain rfl:=qh.af.addr wP
    obtain⟨y,hy⟩:∃y,im.aF[q]? =some y:=⟨_,gP hlt2⟩;obtain⟨hv2,hyz⟩:=(qh.af.below di.af).I7 q y hy;have Cm:=aj (jM sizedB im.aF q y hy);have aqv:=size_mk y;have lX:Hid (sizedB y=(decide (1<=y.length)&&decide (y.length<=200))):=aj rfl;clear hy;generalize ZH:(ok&&(im.aF.take q).all sizedB)=ok3 at *;have Rw:=aj ZH;clear ZH
    cases ok3 with
    | false=>
     go_wp2;go_round;exact⟨q+1,arH,wP,mo (by rw[Cm.af,<-Kv,Rw.af];rfl)⟩;simp[intOf];omega
    | true=>
     by_cases hy1:1<=y.length
     ·have hd1:decide (1<=(y.length:Int))=true:=by rw[arI];omega
      by_cases hy2:y.length<=200
      ·have hd2:decide ((y.length:Int)<=200)=true:=by rw[arI];omega
       go_wp2;go_round;exact⟨q+1,arH,wP,mo (by rw[Cm.af,<-Kv,Rw.af,lX.af];simp[hy1,hy2])⟩;simp[intOf];omega
      ·have hd2:decide ((y.length:Int)<=200)=false:=by rw[arN];omega
       go_wp2;go_round;exact⟨q+1,arH,wP,mo (by rw[Cm.af,<-Kv,Rw.af,lX.af];simp[hy2])⟩;simp[intOf];omega
     ·have hd1:decide (1<=(y.length:Int))=false:=by rw[arN];omega
      go_wp2;go_round;exact⟨q+1,arH,wP,mo (by rw[Cm.af,<-Kv,Rw.af,lX.af];simp[hy1])⟩;simp[intOf];omega
   ·have j4:Hid (im.aF.take q=im.aF):=aj (dh wP)
    go_wp2;go_ret;exact⟨vE (by rw[Hh.af,j4.af]),di.af⟩
theorem drop_cons {α:Type} (l:List α) (k:Nat) (x:α) (hx:l[k]? =some x):l.drop k=x :: l.drop (k+1):=by
 obtain⟨h,rfl⟩:=Sm.1 hx;exact List.drop_eq_getElem_cons h
def JB (e:Int) (s:lS):Prop:=
 e<=s.at_/\0<=s.at_/\s.at_<=65536/\s.at_%64=0/\1<=s.size/\s.at_+s.size<=65536/\(s.bytes.length:Int)<=s.size/\0<=s.perm/\s.perm<=7
theorem M6 {e:Int} {s:lS} {l:List lS} (h:JB e s):ku e (s :: l)=ku (ny (s.at_+s.size)) l:=by
 obtain⟨h1,h2,h3,h4,h5,h6,h7,h8,h9⟩:=h;simp[ku,Ro,h1,h2,h3,h4,h5,h6,h7,h8,h9]
theorem FO {e:Int} {s:lS} {l:List lS} (h:¬JB e s):ku e (s :: l)=false:=by
 rw[ku];by_cases h1:(decide (e<=s.at_)&&Ro s)=true
 ·exfalso
  apply h;simp[Ro]at h1;unfold JB;omega
 ·simp only[Bool.not_eq_true]at h1
  rw[h1];rfl
theorem agO (w:World) (v:jv) (im:bK) (hs:LB rQ (·<w.heap.size) w v.aI im.aI) (hr:∀s∈im.aI,-9223372036854775808<=s.at_/\s.size<=9223372036854775807):
  Calls asq 59 #[.agg (aW v im)] w fun e w'=>e=.returned (.bool (jL im.aI))/\Below w w w':=by
 unfold aW;obtain⟨sa,sb,yu,jO,hsv,hsm,hsc,hat⟩:=hs.at;rw[hsv];have dP:=aj hat;have Hr:=aj hr;have Hd:Hid (jL im.aI=(decide (1<=im.aI.length)&&decide (im.aI.length<=8)&&ku 0 im.aI)):=aj rfl;clear hs hat hsv hr;go_enter Tryz.func59,Tryz.ntmps59;go_wp2;go_loopw [3,9] (fun s3 i wr=>∃(k:Nat) (e:Int),i=ah k/\k<=im.aI.length/\s3=ah e/\0<=e/\e<=200000/\ku 0 im.aI=ku e (im.aI.drop k)/\Below w w wr/\wr.cell? (ak w 2)=some (.slice sa im.aI.length jO)/\w.heap.size<wr) (fun _ i _=>im.aI.length-(intOf i).toNat);exact⟨0,0,rfl,alg _,rfl,wP,wP,arG,(PZ _ _).alloc (oD _) _,arG,arG⟩;obtain⟨k,e,rfl,hk,rfl,he0,he1,hse,hbel,hq,tO⟩:=hrel;have Hq:=aj hq;have o9:=aj hse;have di:=aj hbel;have hBr:=hbel.size;by_cases hlt:k<im.aI.length
 ·obtain rfl:=dP.af.addr wP
  obtain⟨s,hx⟩:∃s,im.aI[k]? =some s:=⟨_,gP hlt⟩;obtain⟨c,g0,g1,g2,g3,hc⟩:=(dP.af.below hbel).Ki k s hx;obtain⟨ca,cc,rfl⟩:=hc.form;have hr:=Hr.af s (dH hx);have mM:=aj (drop_cons im.aI k s hx);have hcm:=hc.max;clear hbel hse hx hc hq;by_cases hg:JB e s
  ·have Hn:Hid (ku 0 im.aI=ku (ny (s.at_+s.size)) (im.aI.drop (k+1))):=aj (by rw[o9.af,mM.af,M6 hg])
   obtain⟨h1,h2,h3,h4,h5,h6,h7,h8,h9⟩:=hg;have Hu:Hid (s.at_+(s.size+64-1)/64*64=ny (s.at_+s.size)):=aj (by unfold ny;omega);have hu0:0<=ny (s.at_+s.size):=by unfold ny;omega
   have hu1:ny (s.at_+s.size)<=200000:=by unfold ny;omega
   have hm:(s.at_%64 != 0)=false:=by rw[bne_eq_false_iff_eq];exact h4
   clear h4;have Hu0:=aj hu0;have Hu1:=aj hu1;clear hu0 hu1;generalize s.at_=sat at *;generalize s.size=SS at *;generalize s.perm=ZC at *;go_wp2;go_roundw;exact⟨k+1,_,arH,wP,by rw[<-Hu.af],Hu0.af,Hu1.af,Hn.af,di.af.alloc hBr _,by rw[qF _ _ _ tO];exact Hq.af,by simp;omega⟩;simp[intOf];omega
  ·have Hn:Hid (jL im.aI=false):=aj (by rw[Hd.af,o9.af,mM.af,FO hg];simp)
   have Hg:Hid (¬(e<=s.at_/\0<=s.at_/\s.at_<=65536/\s.at_%64=0/\1<=s.size/\s.at_+s.size<=65536/\(s.bytes.length:Int)<=s.size/\0<=s.perm/\s.perm<=7)):=aj hg;clear hg;generalize s.at_=sat at *;generalize s.size=SS at *;generalize s.perm=ZC at *;by_cases h1:e<=sat
   ·go_wp2
    all_goals first
     | (go_ret;exact⟨by rw[Hn.af];rfl,di.af.alloc hBr _⟩)
     | (exfalso;have:=Hg.af;(try simp only[arM,bne_eq_false_iff_eq,bne_iff_ne,beq_iff_eq,ne_eq]at *);omega)
   ·go_wp2
    go_ret;exact⟨by rw[Hn.af];rfl,di.af.alloc hBr _⟩
 ·have Hn:Hid (ku 0 im.aI=true):=aj (by rw[hse,List.drop_eq_nil_of_le wP];rfl)
  clear hse hbel;by_cases h1:1<=im.aI.length
  ·have hd1:decide (1<=(im.aI.length:Int))=true:=by rw[arI];omega
   go_wp2;go_ret;exact⟨vE (by rw[Hd.af,Hn.af,Rq];simp[h1];omega),di.af⟩
  ·have hd1:decide (1<=(im.aI.length:Int))=false:=by rw[arN];omega
   go_wp2;go_ret;exact⟨vE (by rw[Hd.af];simp[h1]),di.af⟩
theorem dA (size:Nat) (n:Int):(bD size n).length=size:=by simp[bD]
structure aqc {α:Type} (p:List UInt8->Option (α × List UInt8)) (f:α->List UInt8) (ok:α->Prop):Prop where
 aso:∀x t,ok x->p (f x++t)=some (x,t)
 back:∀l x t,p l=some (x,t)->ok x/\f x++t=l
def nS (size:Nat) (n:Int):Prop:=if size=8 then -9223372036854775808<=n/\n<9223372036854775808 else 0<=n/\n<256 ^ size
def aj7 (s:lS):Prop:=nS 4 s.at_/\nS 4 s.size/\nS 1 s.perm/\s.bytes.length<=1048576
def mJ (size n:Nat):Prop:=n<256 ^ size
theorem xH {size n:Nat} (hs:size<=4) (h:mJ size n):nS size (n:Int):=by
 unfold nS;rw[if_neg wP];refine⟨wP,?_⟩;have:((n:Nat):Int)<((256 ^ size:Nat):Int):=by unfold mJ at h;omega
 rwa [Int.natCast_pow]at this
def WI (l:List (List UInt8)):Prop:=mJ 1 l.length/\∀x∈l,x.length<=4096
def agP (n:AX):Prop:=n.arT.length<=4096/\WI n.asi
def aj8 (s:bF):Prop:=s.arT.length<=4096/\s.asc.length<=4096/\nS 1 s.ar3/\nS 1 s.bq/\nS 8 s.value/\nS 8 s.size
def anh (r:iE):Prop:=nS 1 r.ar3/\nS 8 r.at_/\nS 8 r.sym/\nS 8 r.add
def alj (s:kV):Prop:=nS 4 s.at_/\nS 4 s.sym/\nS 4 s.stub
structure aj9 (im:bK):Prop where
 arT:im.arT.length<=4096
 ar4:nS 1 im.ar4
 aI:mJ 1 im.aI.length/\∀s∈im.aI,aj7 s
 ar6:mJ 1 im.ar6.length/\∀n∈im.ar6,agP n
 aF:WI im.aF
 av:mJ 2 im.av.length/\∀s∈im.av,aj8 s
 ar9:mJ 2 im.ar9.length/\∀c∈im.ar9,mJ 2 c.length/\∀x∈c,nS 2 x
 ase:nS 1 im.ase
 ar8:mJ 1 im.ar8.length/\∀x∈im.ar8,0<=x/\x<18446744073709551616
 aO:mJ 2 im.aO.length/\∀r∈im.aO,anh r
 asf:mJ 2 im.asf.length/\∀s∈im.asf,alj s
 asb:mJ 1 im.asb.length/\∀x∈im.asb,nS 4 x
 aP:mJ 1 im.aP.length/\∀x∈im.aP,nS 4 x
 aJ:nS 2 im.aJ
 bf:im.bf.length<=1048576
def ac2 (im:bK):List UInt8:=
 pF Zh++(pF im.arT++(bD 1 im.ar4++((bD 1 im.aI.length++(im.aI.map Ei).flatten)++
 ((bD 1 im.ar6.length++(im.ar6.map zS).flatten)++((bD 1 im.aF.length++jH im.aF)++
 ((bD 2 im.av.length++(im.av.map Ej).flatten)++((bD 2 im.ar9.length++(im.ar9.map wV).flatten)++
 (bD 1 im.ase++((bD 1 im.ar8.length++numsL 8 im.ar8)++((bD 2 im.aO.length++(im.aO.map El).flatten)++
 ((bD 2 im.asf.length++(im.asf.map zT).flatten)++((bD 1 im.asb.length++numsL 4 im.asb)++((bD 1 im.aP.length++numsL 4 im.aP)++
 (bD 2 im.aJ++wU im.bf))))))))))))))
theorem aie (im:bK):ac2 im=PY im:=by
 unfold ac2 PY;simp only[List.append_assoc]
theorem XJ (h:kH im=0):mH im=true/\jL im.aI=true/\qX im=true/\jE im=true/\nA im=true/\jk im=true/\kP im=true/\jr im im.asb=true/\jr im im.aP=true:=by
 unfold kH at h;by_cases h1:mH im=false
 ·rw[if_pos h1]at h;cases h
 rw[if_neg h1]at h;by_cases h2:jL im.aI=false
 ·rw[if_pos h2]at h;cases h
 rw[if_neg h2]at h;by_cases h3:qX im=false
 ·rw[if_pos h3]at h;cases h
 rw[if_neg h3]at h;by_cases h4:jE im=false
 ·rw[if_pos h4]at h;cases h
 rw[if_neg h4]at h;by_cases h5:nA im=false
 ·rw[if_pos h5]at h;cases h
 rw[if_neg h5]at h;by_cases h6:jk im=false
 ·rw[if_pos h6]at h;cases h
 rw[if_neg h6]at h;by_cases h7:kP im=false
 ·rw[if_pos h7]at h;cases h
 rw[if_neg h7]at h;by_cases h8:(jr im im.asb&&jr im im.aP)=false
 ·rw[if_pos h8]at h;cases h
 simp only[Bool.not_eq_false,pJ]at*;exact⟨h1,h2,h3,h4,h5,h6,h7,h8.1,h8.2⟩
theorem M7:∀(l:List lS) (e:Int),ku e l=true->∀s∈l,Ro s=true
 | [],_,_,s,hs=>by cases hs
 | a :: l,e,h,s,hs=>by
  simp only[ku,pJ]at h;rcases Y1.1 hs with rfl | hs
  ·exact h.1.2
  ·exact M7 l _ h.2 s hs
theorem agQ {s:lS} (h:Ro s=true):0<=s.at_/\s.at_<=65536/\1<=s.size/\s.size<=65536/\0<=s.perm/\s.perm<=7/\s.at_+s.size<=65536/\(s.bytes.length:Int)<=s.size:=by
 simp only[Ro,pJ,arI]at h;omega
theorem nT (h:jL im.aI=true):∀s∈im.aI,0<=s.at_/\s.at_<=65536/\1<=s.size/\s.size<=65536/\0<=s.perm/\s.perm<=7/\s.at_+s.size<=65536/\(s.bytes.length:Int)<=s.size:=fun s hs=>by
 simp only[jL,pJ]at h;exact agQ (M7 _ _ h.2 s hs)
theorem mE {l:List lS} {at_ n p:Int} (hl:∀s∈l,0<=s.at_/\s.at_<=65536/\1<=s.size/\s.size<=65536/\0<=s.perm/\s.perm<=7/\s.at_+s.size<=65536/\(s.bytes.length:Int)<=s.size) (h:bZ l at_ n p=true):0<=at_/\n<=65536/\at_+n<=65536:=by
 obtain⟨s,hs,h2⟩:=vX.1 h;have:=hl s hs;simp only[pJ,arI]at h2;omega
theorem zX (aI:List lS) (bf:Int):∀(l done:List bF),lu aI bf done l=true->∀s∈l,qW aI bf s=true
 | [],_,_,s,hs=>by cases hs
 | a :: l,done,h,s,hs=>by
  simp only[lu,pJ]at h;rcases Y1.1 hs with rfl | hs
  ·exact h.1.1
  ·exact zX aI bf l _ h.2 s hs
theorem N9 (h:iN s=true):1<=s.length/\s.length<=64:=by
 simp only[iN,pJ,arI]at h;exact⟨h.1.2,h.2⟩
theorem SV (h:sizedB s=true):1<=s.length/\s.length<=200:=by
 simp only[sizedB,pJ,arI]at h;exact h
theorem ZI (h:(decide (s=[])||iN s)=true):s.length<=64:=by
 simp only[aj6,arI]at h;rcases h with h | h
 ·rw[h];decide
 ·exact(N9 h).2
theorem Rx (hg:jL im.aI=true) (ht:qX im=true) {s:bF} (h:qW im.aI im.aJ s=true):
  (1<=s.arT.length/\s.arT.length<=64)/\s.asc.length<=64/\(1<=s.ar3/\s.ar3<=3)/\(0<=s.bq/\s.bq<=2)/\(0<=s.value/\s.value<=65536)/\0<=s.size/\s.size<=65536:=by
 simp only[qW,pJ]at h;obtain⟨h1,h2⟩:=h;simp only[bC,pJ]at h1;obtain⟨⟨⟨⟨⟨⟨⟨⟨⟨a1,a2⟩,a3⟩,a4⟩,a5⟩,a6⟩,a7⟩,a8⟩,a9⟩,_⟩:=h1;simp only[arI]at a3 a4 a5 a6 a7 a8;refine⟨N9 a1,ZI a2,⟨a3,a4⟩,⟨a5,a6⟩,?_⟩
 cases hd:s.asg with
 | false=>
  rw[hd]at a9;simp at a9;omega
 | true=>
  rw[hd]at h2;simp only[Bool.not_true,Bool.false_or]at h2;simp only[qX,pJ,arI]at ht;by_cases hk:s.ar3=3
  ·rw[if_pos hk]at h2
   simp only[pJ,arI]at h2;omega
  ·rw[if_neg hk]at h2
   have:=mE (nT hg) h2;omega
theorem xR (im:bK):∀(l:List iE) (e:Int),iA im e l=true->∀r∈l,kz im r=true
 | [],_,_,s,hs=>by cases hs
 | a :: l,e,h,s,hs=>by
  simp only[iA,pJ]at h;rcases Y1.1 hs with rfl | hs
  ·exact h.1.2
  ·exact xR im l _ h.2 s hs
theorem JC (im:bK):∀(l:List kV) (e:Int),iF im e l=true->∀r∈l,vT im r=true
 | [],_,_,s,hs=>by cases hs
 | a :: l,e,h,s,hs=>by
  simp only[iF,pJ]at h;rcases Y1.1 hs with rfl | hs
  ·exact h.1.2
  ·exact JC im l _ h.2 s hs
theorem qa {i:Int} {s:bF} (h:gX im i=some s):0<=i/\i<im.av.length/\s∈im.av:=by
 unfold gX at h;by_cases hi:i<0
 ·rw[if_pos hi]at h;cases h
 ·rw[if_neg hi]at h
  have:=(Sm.1 h).1;exact⟨wP,wP,dH h⟩
theorem Bi (hg:jL im.aI=true) (hs:im.av.length<=512) {r:iE} (h:kz im r=true):
  (0<=r.at_/\r.at_+eU im r<=65536)/\(0<=r.ar3/\r.ar3<=7)/\(-1<=r.sym/\r.sym<=512)/\(-4294967296<=r.add/\r.add<=4294967296):=by
 unfold kz at h;by_cases hk:r.ar3=1
 ·rw[if_pos hk]at h
  simp only[pJ,arI]at h;have:=mE (nT hg) h.2
  have hw:eU im r=8:=by
   unfold eU
   split
   ·rw[if_neg wP]
   ·rfl
  omega
 ·rw[if_neg hk]at h
  cases hsy:gX im r.sym with
  | none=>rw[hsy]at h;cases h
  | some s=>
   rw[hsy]at h;have hr:=qa hsy;simp only[pJ,arI]at h;obtain⟨⟨h1,h2⟩,h3⟩:=h;have hw:eU im r=if r.ar3=2 then s.size else 8:=by rw[eU,hsy]
   by_cases k1:r.ar3=0∨r.ar3=6
   ·rw[if_pos k1]at h3
    simp only[pJ]at h3;have:=mE (nT hg) h3.2;rw[if_neg wP]at hw;omega
   rw[if_neg k1]at h3;by_cases k2:r.ar3=7
   ·rw[if_pos k2]at h3
    simp only[pJ]at h3;have:=mE (nT hg) h3.2;rw[if_neg wP]at hw;omega
   rw[if_neg k2]at h3;by_cases k3:r.ar3=3
   ·rw[if_pos k3]at h3
    simp only[pJ]at h3;have:=mE (nT hg) h3.2;rw[if_neg wP]at hw;omega
   rw[if_neg k3]at h3;by_cases k4:r.ar3=4∨r.ar3=5
   ·rw[if_pos k4]at h3
    simp only[pJ]at h3;have:=mE (nT hg) h3.2;rw[if_neg wP]at hw;omega
   rw[if_neg k4]at h3;by_cases k5:r.ar3=2
   ·rw[if_pos k5]at h3
    simp only[pJ]at h3;have:=mE (nT hg) h3.2;rw[if_pos k5]at hw;omega
   ·rw[if_neg k5]at h3;cases h3
theorem agR (hg:jL im.aI=true) (hs:im.av.length<=512) {s:kV} (h:vT im s=true):
  (0<=s.at_/\s.at_<=65536)/\(0<=s.sym/\s.sym<im.av.length)/\(0<=s.stub/\s.stub<=65536):=by
 simp only[vT,pJ]at h;obtain⟨⟨⟨h1,h2⟩,h3⟩,_⟩:=h;have a:=mE (nT hg) h2;have b:=mE (nT hg) h3
 cases hsy:gX im s.sym with
 | none=>rw[hsy]at h1;cases h1
 | some x=>
  have hr:=qa hsy;omega
theorem ac3 (h:nA im=true):∀c∈im.ar9,c.length<=512/\∀i∈c,0<=i/\i<512:=by
 have hd:∀c∈im.ar9,c.length<=(im.ar9.map List.length).sum:=by
  intro c hc;generalize im.ar9=bs at hc
  induction bs with
  | nil=>cases hc
  | cons b bs ih=>
   simp only[List.map_cons,List.sum_cons];rcases Y1.1 hc with rfl | hc
   ·omega
   ·have:=ih hc;omega
 simp only[nA,pJ,arI]at h;obtain⟨⟨⟨⟨⟨h1,_⟩,_⟩,_⟩,h5⟩,h6⟩:=h;have hf:=List.length_filter_le ow im.av;have h7:=(I8 im im.ar9 0).1 h5;intro c hc;refine⟨by have:=hd c hc;omega,fun i hi=> ?_⟩;obtain⟨j,hj⟩:=List.getElem?_of_mem hc;obtain⟨k,hk,rfl,_⟩:=EU.1 (h7.2 j c hj i hi);have:=((Dk _ _ _).1 hk).1;omega
theorem mY {size:Nat} {n:Int} (hs:size<=4) (h0:0<=n) (h1:n<(256:Int) ^ size):nS size n:=by
 unfold nS;rw[if_neg wP];exact⟨h0,h1⟩
theorem alk (h:kH im=0) (hw:∀x∈im.ar8,0<=x/\x<18446744073709551616):aj9 im:=by
 obtain⟨hh,hg,ht,hs,htb,hr,hsl,hi,hf⟩:=XJ h;have p1:(256:Int) ^ 1=256:=abD;have p2:(256:Int) ^ 2=65536:=abD;have p4:(256:Int) ^ 4=4294967296:=abD;have q1:256 ^ 1=256:=abD;have q2:256 ^ 2=65536:=abD;have hch:=ac3 htb;have hgs:=nT hg
 have ZJ:∀l,jr im l=true->mJ 1 l.length/\∀x∈l,nS 4 x:=by
  intro l hl;simp only[jr,pJ,arI]at hl;refine⟨by unfold mJ;omega,fun x hx=> ?_⟩;have:=mE hgs (P5.1 hl.2 x hx);exact mY abD this.1 wP
 have agS:∀l:List (List UInt8),l.length<=16->(∀x∈l,x.length<=4096)->WI l:=fun l h1 h2=>⟨by unfold mJ;omega,h2⟩
 have hh':=hh;simp only[mH,pJ]at hh;obtain⟨⟨⟨⟨⟨⟨a1,a2⟩,a3⟩,a4⟩,a5⟩,a6⟩,a7⟩:=hh;simp only[arI]at a2 a3 a4 a5;have hg':=hg;simp only[jL,pJ,arI]at hg';have ht':=ht;simp only[qX,pJ,arI]at ht';have hs':=hs;simp only[jE,pJ,arI]at hs';have alm:=htb;simp only[nA,pJ,arI]at alm;obtain⟨⟨⟨⟨⟨_,_⟩,b3⟩,b4⟩,_⟩,_⟩:=alm;simp only[oz,pJ,arI]at b4;obtain⟨⟨b5,b6⟩,b7⟩:=b4
 have b8:im.ar8.length<=64:=by
  simp only[aj6,arI]at b5;omega
 have hr':=hr;simp only[jk,pJ,arI]at hr';have aln:=hsl;simp only[kP,pJ,arI]at aln
 refine⟨by have:=ZI a1;omega,mY abD a2 wP,⟨by unfold mJ;omega,fun s hm=> ?_⟩,⟨by unfold mJ;omega,fun n hm=> ?_⟩,agS _ a5 (fun x hx=> ?_),⟨by unfold mJ;omega,fun s hm=> ?_⟩,
  ⟨by unfold mJ;omega,fun c hc=>⟨by have:=(hch c hc).1;unfold mJ;omega,fun x hx=> ?_⟩⟩,mY abD wP wP,⟨by unfold mJ;omega,hw⟩,⟨by unfold mJ;omega,fun r hm=> ?_⟩,⟨by unfold mJ;omega,fun s hm=> ?_⟩,
  ZJ _ hi,ZJ _ hf,mY abD wP wP,wP⟩
 ·have:=hgs s hm
  exact⟨mY abD wP wP,mY abD wP wP,mY abD wP wP,wP⟩
 ·have:=P5.1 a6 n hm
  simp only[uQ,pJ,arI]at this;obtain⟨⟨c1,c2⟩,c3⟩:=this;refine⟨by have:=SV c1;omega,agS _ c2 (fun x hx=> ?_)⟩;have:=N9 (P5.1 c3 x hx);omega
 ·have:=SV (P5.1 a7 x hx);omega
 ·have:=Rx hg ht (zX _ _ _ _ hs'.2 s hm)
  exact⟨wP,wP,mY abD wP wP,mY abD wP wP,by unfold nS;rw[if_pos rfl];omega,by unfold nS;rw[if_pos rfl];omega⟩
 ·have:=(hch c hc).2 x hx
  exact mY abD wP wP
 ·have:=Bi hg hs'.1 (xR _ _ _ hr'.2 r hm)
  have hat:r.at_<=9223372036854775807:=by
   have hw:0<=eU im r:=by
    unfold eU
    split
    ·rename_i s hsy
     have:=Rx hg ht (zX _ _ _ _ hs'.2 s (qa hsy).2.2)
     split<;>omega
    ·omega
   omega
  exact⟨mY abD wP wP,by unfold nS;rw[if_pos rfl];omega,by unfold nS;rw[if_pos rfl];omega,by unfold nS;rw[if_pos rfl];omega⟩
 ·have:=agR hg hs'.1 (JC _ _ _ aln.2 s hm)
  exact⟨mY abD wP wP,mY abD wP wP,mY abD wP wP⟩
end Go.Proofs.YtpjgjeadjjackaaGreat
