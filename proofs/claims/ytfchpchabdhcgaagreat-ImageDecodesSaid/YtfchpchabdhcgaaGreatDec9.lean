/- Lemmas. -/
import Derived.Test.YtfchpchabdhcgaaGreatDec8
import Derived.Deep.DeepCutAuto
set_option linter.unusedVariables false
set_option linter.unusedSimpArgs false
set_option maxHeartbeats 64000000
set_option maxRecDepth 100000
namespace Go.Proofs.YtfchpchabdhcgaaGreat
open Go.RowKit
theorem val_bool {a b:Bool} (h:a=b):Value.bool a=.bool b:=by rw [h]
def head0 (im:ImgL):Bool:=(decide (im.name=[])||nameB im.name)&&decide (0≤im.flags)&&decide (im.flags<16)&&decide (im.needed.length≤16)&&decide (im.runPath.length≤16)
def need0 (n:NeedL):Bool:=sizedB n.name&&decide (n.versions.length≤16)
theorem all_take_snoc {α:Type} (f:α→Bool) (l:List α) (k:Nat) (x:α) (hx:l[k]? =some x):(l.take (k+1)).all f=((l.take k).all f&&f x):=by
 obtain⟨h,rfl⟩:=List.getElem?_eq_some_iff.1 hx
 rw [List.take_succ_eq_append_getElem h,List.all_append]
 simp
theorem ihead_any (w:World) (v:ImgV) (im:ImgL) (hne:LB kNeed (·<w.heap.size) w v.needed im.needed) (hrp:LB kStr (·<w.heap.size) w v.runPath im.runPath) (hz:im.name.length≤9223372036854775807):
  Calls Tryz.prog 32 #[.agg (imgCells v im)] w fun e w'=>e=.returned (.bool (headB im))∧Below w.heap.size w w':=by
 have hsn:=size_mk im.name
 unfold imgCells
 obtain⟨na,nb,noff,ncap,hnv,hnm,hnc,hnat⟩:=hne.at
 obtain⟨ra,rb,roff,rcap,hrv,hrm,hrc,hrat⟩:=hrp.at
 rw [hnv,hrv]
 have B1:=Lib.hid ((Below.refl w.heap.size w).alloc (Nat.le_refl _) (.cells #[.string ⟨im.name.toArray⟩,.int .i64 im.flags,v.segs,.slice na im.needed.length ncap,.slice ra im.runPath.length rcap,v.syms,v.buckets,v.words,.int .i64 im.shift,v.relocs,v.slots,v.init,v.fini,v.tls,.int .i64 im.tlsSize] 40 (0,0)))
 have F1:=Lib.hid (heap_alloc_new w (.cells #[.string ⟨im.name.toArray⟩,.int .i64 im.flags,v.segs,.slice na im.needed.length ncap,.slice ra im.runPath.length rcap,v.syms,v.buckets,v.words,.int .i64 im.shift,v.relocs,v.slots,v.init,v.fini,v.tls,.int .i64 im.tlsSize] 40 (0,0)))
 have Hnat:=Lib.hid hnat
 have Hrat:=Lib.hid hrat
 have Hh:Hid (headB im=(head0 im&&im.needed.all needB&&im.runPath.all sizedB)):=Lib.hid rfl
 have H0:Hid (head0 im=((decide (im.name=[])||nameB im.name)&&decide (0≤im.flags)&&decide (im.flags<16)&&decide (im.needed.length≤16)&&decide (im.runPath.length≤16))):=Lib.hid rfl
 clear hne hrp hnat hrat hnv hrv
 go_enter Tryz.func32,Tryz.ntmps32
 go_upto_region 1 with fail
 go_cut [3] (fun s3 wx=>s3=.bool (head0 im)∧Below w.heap.size w wx∧wx.heap[w.heap.size]? =some (.cells #[.string ⟨im.name.toArray⟩,.int .i64 im.flags,v.segs,.slice na im.needed.length ncap,.slice ra im.runPath.length rcap,v.syms,v.buckets,v.words,.int .i64 im.shift,v.relocs,v.slots,v.init,v.fini,v.tls,.int .i64 im.tlsSize] 40 (0,0)))
 case first=>
  cases hq:im.name.isEmpty with
  | true=>
   have Hv:=Lib.hid (List.isEmpty_iff.1 hq)
   go_wp2_with fail
   all_goals go_meet
   all_goals first
    | (refine ⟨val_bool ?_,B1.out,F1.out⟩;rw [H0.out,Bool.eq_iff_iff];simp [Hv.out];done)
    | (refine ⟨val_bool ?_,B1.out,F1.out⟩;rw [H0.out,Bool.eq_iff_iff];simp [Hv.out];omega)
  | false=>
   have Hv:Hid (decide (im.name=[])=false):=Lib.hid (by rw [decide_eq_false_iff_not];intro e;rw [e]at hq;simp at hq)
   go_wp2_with fail
   refine(vname_any _ im.name hz).mono ?_
   rintro e w2 ⟨rfl,hb2⟩
   have F2:=Lib.hid ((hb2.block w.heap.size (by simp)).trans F1.out)
   have B2:=Lib.hid (B1.out.trans (hb2.mono B1.out.size))
   clear hb2
   obtain⟨c0,c1,c2,c3,c4,c5,c6,c7,c8,c9,c10,c11,c12,c13,c14⟩:=img_cells F2.out
   cases hn:nameB im.name
   all_goals
    have Hn:=Lib.hid hn
    go_wp2_with fail
    all_goals go_meet
    all_goals first
     | (refine ⟨val_bool ?_,B2.out,F2.out⟩;rw [H0.out,Bool.eq_iff_iff];simp [Hv.out,Hn.out];done)
     | (refine ⟨val_bool ?_,B2.out,F2.out⟩;rw [H0.out,Bool.eq_iff_iff];simp [Hv.out,Hn.out];omega)
 case rest=>
  obtain⟨rfl,hbw,hfw⟩:=hcut
  have Bw:=Lib.hid hbw
  have Fw:=Lib.hid hfw
  obtain⟨c0,c1,c2,c3,c4,c5,c6,c7,c8,c9,c10,c11,c12,c13,c14⟩:=img_cells hfw
  clear hbw hfw c0 c1 c2 c5 c6 c7 c8 c9 c10 c11 c12 c13 c14 H0 B1 F1
  generalize head0 im=h0 at *
  go_wp2_with fail
  go_loopw [3,43] (fun s3 i wr=>∃ k:Nat,i=.int .i64 k∧k≤im.needed.length∧s3=.bool (h0&&(im.needed.take k).all needB)∧Below w.heap.size w wr∧wr.heap[w.heap.size]? =some (.cells #[.string ⟨im.name.toArray⟩,.int .i64 im.flags,v.segs,.slice na im.needed.length ncap,.slice ra im.runPath.length rcap,v.syms,v.buckets,v.words,.int .i64 im.shift,v.relocs,v.slots,v.init,v.fini,v.tls,.int .i64 im.tlsSize] 40 (0,0))) (fun _ i _=>im.needed.length-(intOf i).toNat)
  case atStart=>exact⟨0,rfl,Nat.zero_le _,by simp,Bw.out,Fw.out⟩
  case round=>
   obtain⟨k,rfl,hk,rfl,hbel,hf⟩:=hrel
   have Hbel:=Lib.hid hbel
   have Hf:=Lib.hid hf
   have hBr:=hbel.size
   have hzq:w.heap.size<wr.heap.size:=by
    rcases Nat.lt_or_ge w.heap.size wr.heap.size with h' | h'
    ·exact h'
    ·rw [Array.getElem?_eq_none h']at hf;cases hf
   by_cases hlt:k<im.needed.length
   ·obtain rfl:=Hnat.out.addr (by omega)
    obtain⟨n,hx⟩:∃ n,im.needed[k]? =some n:=⟨_,List.getElem?_eq_getElem hlt⟩
    have hnbS:=Hnat.out.inS (by omega)
    obtain⟨c,g0w,g1w,hver,hnz⟩:=Hnat.out.need2 k n hx
    have g0:=(hbel.cell (p:=⟨nb,noff+k*2,none⟩) hnbS).trans g0w
    have g1:=(hbel.cell (p:=⟨nb,noff+k*2+1,none⟩) hnbS).trans g1w
    clear g0w g1w
    obtain⟨va,vb,voff,vcap,rfl,hvm,hvc,hvat⟩:=hver.at
    have Hvat:=Lib.hid hvat
    have Hsn:=Lib.hid (all_take_snoc needB im.needed k n hx)
    have hsz2:=size_mk n.name
    have Hn0:Hid (need0 n=(decide (1≤n.name.length)&&decide (n.name.length≤200)&&decide (n.versions.length≤16))):=Lib.hid rfl
    have Hnp:Hid (needB n=(need0 n&&n.versions.all nameB)):=Lib.hid rfl
    clear hbel hf hver hvat hx
    generalize hok:(h0&&(im.needed.take k).all needB)=ok at *
    have Hok:=Lib.hid hok
    clear hok
    go_upto_region 5 with fail
    go_cut [3] (fun s3 wx=>s3=.bool (ok&&need0 n)∧wx=wr.alloc (.cells #[.string ⟨n.name.toArray⟩,.slice va n.versions.length vcap] 67 (0,0)))
    case first=>
     cases ok with
     | false=>
      go_wp2_with fail
      go_meet
      exact⟨rfl,rfl⟩
     | true=>
      go_wp2_with fail
      all_goals go_meet
      all_goals first
       | (refine ⟨val_bool ?_,rfl⟩;rw [Hn0.out,Bool.eq_iff_iff];simp;done)
       | (refine ⟨val_bool ?_,rfl⟩;rw [Hn0.out,Bool.eq_iff_iff];simp;omega)
    case rest=>
     obtain⟨rfl,hwx⟩:=hcut
     have Bc:Hid (Below w.heap.size w wc):=Lib.hid (by rw [hwx];exact Hbel.out.alloc hBr _)
     have Fc:Hid (wc.heap[w.heap.size]? =some (.cells #[.string ⟨im.name.toArray⟩,.int .i64 im.flags,v.segs,.slice (some ⟨nb,noff,none⟩) im.needed.length ncap,.slice ra im.runPath.length rcap,v.syms,v.buckets,v.words,.int .i64 im.shift,v.relocs,v.slots,v.init,v.fini,v.tls,.int .i64 im.tlsSize] 40 (0,0))):=Lib.hid (by rw [hwx,Lib.alloc_old _ _ _ hzq];exact Hf.out)
     have d1:wc.cell? ⟨wr.heap.size,1,none⟩=some (.slice va n.versions.length vcap):=by
      rw [hwx,Lib.cell_of_heap (heap_alloc_new wr _)];rfl
     clear hwx Hbel Hf hBr hzq g0 g1
     generalize wr.heap.size=b5 at *
     generalize hok2:(ok&&need0 n)=ok2 at *
     have Hok2:=Lib.hid hok2
     clear hok2
     go_wp2_with fail
     go_loopw [3,69] (fun s3 j wi=>∃ q:Nat,j=.int .i64 q∧q≤n.versions.length∧s3=.bool (ok2&&(n.versions.take q).all nameB)∧Below w.heap.size w wi∧wi.heap[w.heap.size]? =some (.cells #[.string ⟨im.name.toArray⟩,.int .i64 im.flags,v.segs,.slice (some ⟨nb,noff,none⟩) im.needed.length ncap,.slice ra im.runPath.length rcap,v.syms,v.buckets,v.words,.int .i64 im.shift,v.relocs,v.slots,v.init,v.fini,v.tls,.int .i64 im.tlsSize] 40 (0,0))) (fun _ j _=>n.versions.length-(intOf j).toNat)
     case atStart=>exact⟨0,rfl,Nat.zero_le _,by simp,Bc.out,Fc.out⟩
     case round=>
      obtain⟨q,rfl,hq,rfl,hbel,hf⟩:=hrel
      have Hbel:=Lib.hid hbel
      have Hf:=Lib.hid hf
      by_cases hlt2:q<n.versions.length
      ·obtain rfl:=Hvat.out.addr (by omega)
       obtain⟨y,hy⟩:∃ y,n.versions[q]? =some y:=⟨_,List.getElem?_eq_getElem hlt2⟩
       obtain⟨hv2,hyz⟩:=(Hvat.out.below hbel).str1 q y hy
       have Hsy:=Lib.hid (all_take_snoc nameB n.versions q y hy)
       clear hbel hf hy
       generalize hok3:(ok2&&(n.versions.take q).all nameB)=ok3 at *
       have Hok3:=Lib.hid hok3
       clear hok3
       cases ok3 with
       | false=>
        go_wp2
        go_roundw
        case rel=>exact⟨q+1,by go_num,by omega,val_bool (by rw [Hsy.out,← Bool.and_assoc,Hok3.out];rfl),Hbel.out,Hf.out⟩
        case measure=>simp [intOf];omega
       | true=>
        have hzi:w.heap.size≤wr.heap.size:=Hbel.out.size
        have hzi2:w.heap.size<wr.heap.size:=by
         rcases Nat.lt_or_ge w.heap.size wr.heap.size with h' | h'
         ·exact h'
         ·have:=Hf.out;rw [Array.getElem?_eq_none h']at this;cases this
        go_wp2_with fail
        refine(vname_any _ y hyz).mono ?_
        rintro e w5 ⟨rfl,hb5⟩
        have B5:=Lib.hid (Hbel.out.trans (hb5.mono hzi))
        have F5:=Lib.hid ((hb5.block w.heap.size hzi2).trans Hf.out)
        clear hb5
        go_wp2
        go_roundw
        case rel=>exact⟨q+1,by go_num,by omega,val_bool (by rw [Hsy.out,← Bool.and_assoc,Hok3.out];rfl),B5.out,F5.out⟩
        case measure=>simp [intOf];omega
      ·have Hall:Hid (n.versions.take q=n.versions):=Lib.hid (List.take_of_length_le (by omega))
       clear hbel hf
       go_wp2
       go_roundw
       case rel=>exact⟨k+1,by go_num,by omega,val_bool (by rw [Hsn.out,Hnp.out,← Hok2.out,← Hok.out,Hall.out];simp [Bool.and_assoc]),Hbel.out,Hf.out⟩
       case measure=>simp [intOf];omega
   ·have hf2:=hf
    obtain⟨c0,c1,c2,c3,c4,c5,c6,c7,c8,c9,c10,c11,c12,c13,c14⟩:=img_cells hf
    have Hall:Hid (im.needed.take k=im.needed):=Lib.hid (List.take_of_length_le (by omega))
    rw [Hall.out]
    generalize hok:(h0&&im.needed.all needB)=ok at *
    have Hok:=Lib.hid hok
    clear hbel hf hf2 hok c0 c1 c2 c3 c5 c6 c7 c8 c9 c10 c11 c12 c13 c14
    go_wp2_with fail
    go_loop [3,83] (fun s3 i=>∃ q:Nat,i=.int .i64 q∧q≤im.runPath.length∧s3=.bool (ok&&(im.runPath.take q).all sizedB)) (fun _ i=>im.runPath.length-(intOf i).toNat)
    case atStart=>exact⟨0,rfl,Nat.zero_le _,by simp⟩
    case round=>
     obtain⟨q,rfl,hq,rfl⟩:=hrel
     by_cases hlt2:q<im.runPath.length
     ·obtain rfl:=Hrat.out.addr (by omega)
      obtain⟨y,hy⟩:∃ y,im.runPath[q]? =some y:=⟨_,List.getElem?_eq_getElem hlt2⟩
      obtain⟨hv2,hyz⟩:=(Hrat.out.below Hbel.out).str1 q y hy
      have Hsy:=Lib.hid (all_take_snoc sizedB im.runPath q y hy)
      have hszy:=size_mk y
      have Hsz:Hid (sizedB y=(decide (1≤y.length)&&decide (y.length≤200))):=Lib.hid rfl
      clear hy
      generalize hok3:(ok&&(im.runPath.take q).all sizedB)=ok3 at *
      have Hok3:=Lib.hid hok3
      clear hok3
      cases ok3 with
      | false=>
       go_wp2
       go_round
       case rel=>exact⟨q+1,by go_num,by omega,val_bool (by rw [Hsy.out,← Bool.and_assoc,Hok3.out];rfl)⟩
       case measure=>simp [intOf];omega
      | true=>
       by_cases hy1:1≤y.length
       ·have hd1:decide (1≤(y.length:Int))=true:=by rw [decide_eq_true_eq];omega
        by_cases hy2:y.length≤200
        ·have hd2:decide ((y.length:Int)≤200)=true:=by rw [decide_eq_true_eq];omega
         go_wp2
         go_round
         case rel=>exact⟨q+1,by go_num,by omega,val_bool (by rw [Hsy.out,← Bool.and_assoc,Hok3.out,Hsz.out];simp [hy1,hy2])⟩
         case measure=>simp [intOf];omega
        ·have hd2:decide ((y.length:Int)≤200)=false:=by rw [decide_eq_false_iff_not];omega
         go_wp2
         go_round
         case rel=>exact⟨q+1,by go_num,by omega,val_bool (by rw [Hsy.out,← Bool.and_assoc,Hok3.out,Hsz.out];simp [hy2])⟩
         case measure=>simp [intOf];omega
       ·have hd1:decide (1≤(y.length:Int))=false:=by rw [decide_eq_false_iff_not];omega
        go_wp2
        go_round
        case rel=>exact⟨q+1,by go_num,by omega,val_bool (by rw [Hsy.out,← Bool.and_assoc,Hok3.out,Hsz.out];simp [hy1])⟩
        case measure=>simp [intOf];omega
     ·have Hall2:Hid (im.runPath.take q=im.runPath):=Lib.hid (List.take_of_length_le (by omega))
      go_wp2
      go_ret
      exact⟨ret_bool' (by rw [Hh.out,Hall2.out]),Hbel.out⟩
end Go.Proofs.YtfchpchabdhcgaaGreat
