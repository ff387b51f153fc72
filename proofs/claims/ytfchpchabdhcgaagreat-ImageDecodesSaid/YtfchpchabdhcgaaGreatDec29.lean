/- Lemmas. -/
import Derived.Test.YtfchpchabdhcgaaGreatDec12
import Derived.Test.YtfchpchabdhcgaaGreatDec28
import Derived.Test.YtfchpchabdhcgaaGreatDec19
set_option linter.unusedVariables false
set_option linter.unusedSimpArgs false
set_option maxHeartbeats 64000000
set_option maxRecDepth 100000
namespace Go.Proofs.YtfchpchabdhcgaaGreat
open Go.RowKit
abbrev I64 (x:Int):Prop:= -9223372036854775808≤x∧x≤9223372036854775807
structure ImgM (S:Nat→Prop) (w:World) (v:ImgV) (im:ImgL):Prop where
 name:im.name.length≤9223372036854775807
 flags:I64 im.flags
 segs:LB kSeg S w v.segs im.segs
 segsR:∀ s∈im.segs,I64 s.at_∧I64 s.size∧I64 s.perm
 needed:LB kNeed S w v.needed im.needed
 runPath:LB kStr S w v.runPath im.runPath
 syms:LB kSym S w v.syms im.syms
 buckets:LB kInts S w v.buckets im.buckets
 bucketsL:∀ c∈im.buckets,c.length≤9223372036854775807
 words:LB kWord S w v.words im.words
 wordsR:∀ x∈im.words,0≤x∧x<18446744073709551616
 shift:I64 im.shift
 relocs:LB kRel S w v.relocs im.relocs
 relocsR:∀ r∈im.relocs,RelOk r
 slots:LB kSlot S w v.slots im.slots
 slotsR:∀ s∈im.slots,SlotOk s
 init:LB kInt S w v.init im.init
 initR:∀ x∈im.init,I64 x
 fini:LB kInt S w v.fini im.fini
 finiR:∀ x∈im.fini,I64 x
 tls:LB kByte S w v.tls im.tls
 tlsSize:I64 im.tlsSize
theorem ImgM.keeps {S:Nat→Prop} {w w':World} {v:ImgV} {im:ImgL} (h:ImgM S w v im) (hk:Keeps S w w'):ImgM S w' v im:=
 ⟨h.name,h.flags,h.segs.keeps hk,h.segsR,h.needed.keeps hk,h.runPath.keeps hk,h.syms.keeps hk,h.buckets.keeps hk,h.bucketsL,h.words.keeps hk,h.wordsR,h.shift,h.relocs.keeps hk,h.relocsR,h.slots.keeps hk,h.slotsR,h.init.keeps hk,h.initR,h.fini.keeps hk,h.finiR,h.tls.keeps hk,h.tlsSize⟩
theorem ImgM.imp {S S':Nat→Prop} {w:World} {v:ImgV} {im:ImgL} (h:ImgM S w v im) (hk:∀ b,S b→S' b):ImgM S' w v im:=
 ⟨h.name,h.flags,h.segs.imp hk,h.segsR,h.needed.imp hk,h.runPath.imp hk,h.syms.imp hk,h.buckets.imp hk,h.bucketsL,h.words.imp hk,h.wordsR,h.shift,h.relocs.imp hk,h.relocsR,h.slots.imp hk,h.slotsR,h.init.imp hk,h.initR,h.fini.imp hk,h.finiR,h.tls.imp hk,h.tlsSize⟩
theorem ImgM.later {w w':World} {v:ImgV} {im:ImgL} (h:ImgM (·<w.heap.size) w v im) (hb:Below w.heap.size w w'):ImgM (·<w'.heap.size) w' v im:=
 (h.keeps (.of_below hb)).imp fun _ hb'=>Nat.lt_of_lt_of_le hb' hb.size
theorem head_flags {im:ImgL} (h:headB im=true):0≤im.flags∧im.flags<16:=by
 simp only [headB,Bool.and_eq_true,decide_eq_true_eq]at h;omega
theorem syms_sizes {im:ImgL} (hg:segsB im.segs=true) (ht:tlsB im=true) (h:symsB im=true):(∀ s∈im.syms,0≤s.size∧s.size≤9223372036854775807)∧im.syms.length≤512:=by
 have h':=h
 simp only [symsB,Bool.and_eq_true,decide_eq_true_eq]at h'
 refine⟨fun s hs=> ?_,h'.1⟩
 have:=sym_good hg ht (symsFrom_each _ _ _ _ h'.2 s hs)
 omega
theorem may_head {im:ImgL} (h:headB im=false):mayL im=90:=by rw [mayL,if_pos h]
theorem may_segs {im:ImgL} (h1:headB im=true) (h:segsB im.segs=false):mayL im=91:=by rw [mayL,h1,if_neg (by simp),if_pos h]
theorem may_tls {im:ImgL} (h1:headB im=true) (h2:segsB im.segs=true) (h:tlsB im=false):mayL im=96:=by rw [mayL,h1,if_neg (by simp),h2,if_neg (by simp),if_pos h]
theorem may_syms {im:ImgL} (h1:headB im=true) (h2:segsB im.segs=true) (h3:tlsB im=true) (h:symsB im=false):mayL im=92:=by rw [mayL,h1,if_neg (by simp),h2,if_neg (by simp),h3,if_neg (by simp),if_pos h]
theorem may_table {im:ImgL} (h1:headB im=true) (h2:segsB im.segs=true) (h3:tlsB im=true) (h4:symsB im=true) (h:tableB im=false):mayL im=93:=by rw [mayL,h1,if_neg (by simp),h2,if_neg (by simp),h3,if_neg (by simp),h4,if_neg (by simp),if_pos h]
theorem may_relocs {im:ImgL} (h1:headB im=true) (h2:segsB im.segs=true) (h3:tlsB im=true) (h4:symsB im=true) (h5:tableB im=true) (h:relocsB im=false):mayL im=94:=by rw [mayL,h1,if_neg (by simp),h2,if_neg (by simp),h3,if_neg (by simp),h4,if_neg (by simp),h5,if_neg (by simp),if_pos h]
theorem may_slots {im:ImgL} (h1:headB im=true) (h2:segsB im.segs=true) (h3:tlsB im=true) (h4:symsB im=true) (h5:tableB im=true) (h6:relocsB im=true) (h:slotsB im=false):mayL im=95:=by rw [mayL,h1,if_neg (by simp),h2,if_neg (by simp),h3,if_neg (by simp),h4,if_neg (by simp),h5,if_neg (by simp),h6,if_neg (by simp),if_pos h]
theorem may_runs {im:ImgL} (h1:headB im=true) (h2:segsB im.segs=true) (h3:tlsB im=true) (h4:symsB im=true) (h5:tableB im=true) (h6:relocsB im=true) (h7:slotsB im=true) (h:(runB im im.init&&runB im im.fini)=false):mayL im=97:=by rw [mayL,h1,if_neg (by simp),h2,if_neg (by simp),h3,if_neg (by simp),h4,if_neg (by simp),h5,if_neg (by simp),h6,if_neg (by simp),h7,if_neg (by simp),if_pos h]
theorem may_good {im:ImgL} (h1:headB im=true) (h2:segsB im.segs=true) (h3:tlsB im=true) (h4:symsB im=true) (h5:tableB im=true) (h6:relocsB im=true) (h7:slotsB im=true) (h:(runB im im.init&&runB im im.fini)=true):mayL im=0:=by rw [mayL,h1,if_neg (by simp),h2,if_neg (by simp),h3,if_neg (by simp),h4,if_neg (by simp),h5,if_neg (by simp),h6,if_neg (by simp),h7,if_neg (by simp),h,if_neg (by simp)]
theorem imay_any (w:World) (v:ImgV) (im:ImgL) (hm:ImgM (·<w.heap.size) w v im):
  Calls Tryz.prog 13 #[.agg (imgCells v im)] w fun e w'=>e=.returned (.int .i64 (mayL im))∧Below w.heap.size w w':=by
 obtain⟨la,lcap,hlv⟩:=hm.tls.form
 have hlm:=hm.tls.max
 obtain⟨vsegs,vneeded,vrunPath,vsyms,vbuckets,vwords,vrelocs,vslots,vinit,vfini,vtls⟩:=v
 simp only at hlv
 subst hlv
 have HM:Hid (∀ w',Below w.heap.size w w'→ImgM (·<w'.heap.size) w' ⟨vsegs,vneeded,vrunPath,vsyms,vbuckets,vwords,vrelocs,vslots,vinit,vfini,.slice la im.tls.length lcap⟩ im):=Lib.hid (fun w' hb=>hm.later hb)
 clear hm
 generalize hI:(Array.mk [.string ⟨im.name.toArray⟩,.int .i64 im.flags,vsegs,vneeded,vrunPath,vsyms,vbuckets,vwords,.int .i64 im.shift,vrelocs,vslots,vinit,vfini,.slice la im.tls.length lcap,.int .i64 im.tlsSize]:Array Value)=I
 have F0:=Lib.hid (heap_alloc_new w (.cells I 40 (0,0)))
 have B0:=Lib.hid ((Below.refl w.heap.size w).alloc (Nat.le_refl _) (.cells I 40 (0,0)))
 have hz0:(w.alloc (.cells I 40 (0,0))).heap.size=w.heap.size+1:=by simp
 subst hI
 have hcells:imgCells ⟨vsegs,vneeded,vrunPath,vsyms,vbuckets,vwords,vrelocs,vslots,vinit,vfini,.slice la im.tls.length lcap⟩ im=#[.string ⟨im.name.toArray⟩,.int .i64 im.flags,vsegs,vneeded,vrunPath,vsyms,vbuckets,vwords,.int .i64 im.shift,vrelocs,vslots,vinit,vfini,.slice la im.tls.length lcap,.int .i64 im.tlsSize]:=rfl
 rw [hcells]
 clear hcells
 go_enter Tryz.func13,Tryz.ntmps13
 go_wp2_with fail
 generalize w.alloc (.cells #[.string ⟨im.name.toArray⟩,.int .i64 im.flags,vsegs,vneeded,vrunPath,vsyms,vbuckets,vwords,.int .i64 im.shift,vrelocs,vslots,vinit,vfini,.slice la im.tls.length lcap,.int .i64 im.tlsSize] 40 (0,0))=w0 at *
 have C1:=Lib.hid (ihead_any w0 _ im (HM.out w0 B0.out).needed (HM.out w0 B0.out).runPath (HM.out w0 B0.out).name)
 unfold imgCells at C1
 obtain⟨i0,i1,i2,i3,i4,i5,i6,i7,i8,i9,i10,i11,i12,i13,i14⟩:=img_cells F0.out
 go_wp2_with fail
 refine C1.out.mono ?_
 rintro e w1 ⟨rfl,hb1⟩
 have hz1:=hb1.size
 have F1:=Lib.hid ((hb1.block w.heap.size (by omega)).trans F0.out)
 have B1:=Lib.hid (B0.out.trans (hb1.mono (by omega)))
 clear hb1 C1 i0 i1 i2 i3 i4 i5 i6 i7 i8 i9 i10 i11 i12 i13 i14
 cases hb:headB im with
 | false=>
  have Hr:=Lib.hid (may_head hb)
  clear hb
  go_wp2
  go_ret
  exact⟨by rw [Hr.out];rfl,B1.out⟩
 | true=>
 have H1:=Lib.hid hb
 clear hb
 have C2:=Lib.hid (isegs_any w1 _ im (HM.out w1 B1.out).segs (fun s hs=>⟨((HM.out w1 B1.out).segsR s hs).1.1,((HM.out w1 B1.out).segsR s hs).2.1.2⟩))
 unfold imgCells at C2
 obtain⟨i0,i1,i2,i3,i4,i5,i6,i7,i8,i9,i10,i11,i12,i13,i14⟩:=img_cells F1.out
 go_wp2_with fail
 refine C2.out.mono ?_
 rintro e w2 ⟨rfl,hb2⟩
 have hz2:=hb2.size
 have F2:=Lib.hid ((hb2.block w.heap.size (by omega)).trans F1.out)
 have B2:=Lib.hid (B1.out.trans (hb2.mono (by omega)))
 clear hb2 C2 i0 i1 i2 i3 i4 i5 i6 i7 i8 i9 i10 i11 i12 i13 i14
 cases hb:segsB im.segs with
 | false=>
  have Hr:=Lib.hid (may_segs H1.out hb)
  clear hb
  go_wp2
  go_ret
  exact⟨by rw [Hr.out];rfl,B2.out⟩
 | true=>
 have H2:=Lib.hid hb
 clear hb
 obtain⟨i0,i1,i2,i3,i4,i5,i6,i7,i8,i9,i10,i11,i12,i13,i14⟩:=img_cells F2.out
 clear i0 i1 i2 i3 i4 i5 i6 i7 i8 i9 i10 i11 i12
 have HD:Hid (tlsB im=(decide (0≤im.tlsSize)&&decide (im.tlsSize≤4096)&&decide ((im.tls.length:Int)≤im.tlsSize))):=Lib.hid rfl
 by_cases t0:0≤im.tlsSize
 case neg=>
  have hb:tlsB im=false:=by rw [HD.out,decide_eq_false (p:=0≤im.tlsSize) t0];simp
  have Hr:=Lib.hid (may_tls H1.out H2.out hb)
  clear hb
  have hd0:decide (im.tlsSize<0)=true:=by rw [decide_eq_true_eq];omega
  go_wp2
  go_ret
  exact⟨by rw [Hr.out];rfl,B2.out⟩
 have hd0:decide (im.tlsSize<0)=false:=by rw [decide_eq_false_iff_not];omega
 by_cases t1:im.tlsSize≤4096
 case neg=>
  have hb:tlsB im=false:=by rw [HD.out,decide_eq_false (p:=im.tlsSize≤4096) t1];simp
  have Hr:=Lib.hid (may_tls H1.out H2.out hb)
  clear hb
  have hd1:decide (4096<im.tlsSize)=true:=by rw [decide_eq_true_eq];omega
  go_wp2
  go_ret
  exact⟨by rw [Hr.out];rfl,B2.out⟩
 have hd1:decide (4096<im.tlsSize)=false:=by rw [decide_eq_false_iff_not];omega
 by_cases t2:(im.tls.length:Int)≤im.tlsSize
 case neg=>
  have hb:tlsB im=false:=by rw [HD.out,decide_eq_false (p:=(im.tls.length:Int)≤im.tlsSize) t2];simp
  have Hr:=Lib.hid (may_tls H1.out H2.out hb)
  clear hb
  have hd2:decide (im.tlsSize<(im.tls.length:Int))=true:=by rw [decide_eq_true_eq];omega
  go_wp2
  go_ret
  exact⟨by rw [Hr.out];rfl,B2.out⟩
 have hd2:decide (im.tlsSize<(im.tls.length:Int))=false:=by rw [decide_eq_false_iff_not];omega
 have H3:Hid (tlsB im=true):=Lib.hid (by rw [HD.out,decide_eq_true (p:=0≤im.tlsSize) t0,decide_eq_true (p:=im.tlsSize≤4096) t1,decide_eq_true (p:=(im.tls.length:Int)≤im.tlsSize) t2];rfl)
 have htl:0≤im.tlsSize∧im.tlsSize≤4096:=⟨t0,t1⟩
 have C4:=Lib.hid (isyms_any w2 _ im (HM.out w2 B2.out).segs (segOk_of H2.out) (HM.out w2 B2.out).syms htl)
 unfold imgCells at C4
 obtain⟨i0,i1,i2,i3,i4,i5,i6,i7,i8,i9,i10,i11,i12,i13,i14⟩:=img_cells F2.out
 go_wp2_with fail
 refine C4.out.mono ?_
 rintro e w3 ⟨rfl,hb3⟩
 have hz3:=hb3.size
 have F3:=Lib.hid ((hb3.block w.heap.size (by omega)).trans F2.out)
 have B3:=Lib.hid (B2.out.trans (hb3.mono (by omega)))
 clear hb3 C4 i0 i1 i2 i3 i4 i5 i6 i7 i8 i9 i10 i11 i12 i13 i14
 cases hb:symsB im with
 | false=>
  have Hr:=Lib.hid (may_syms H1.out H2.out H3.out hb)
  clear hb
  go_wp2
  go_ret
  exact⟨by rw [Hr.out];rfl,B3.out⟩
 | true=>
 have H4:=Lib.hid hb
 clear hb
 have C5:=Lib.hid (tright_any w3 im _ _ _ (HM.out w3 B3.out).buckets (HM.out w3 B3.out).words (HM.out w3 B3.out).syms (HM.out w3 B3.out).wordsR)
 obtain⟨i0,i1,i2,i3,i4,i5,i6,i7,i8,i9,i10,i11,i12,i13,i14⟩:=img_cells F3.out
 go_wp2_with fail
 refine C5.out.mono ?_
 rintro e w4 ⟨rfl,hb4⟩
 have hz4:=hb4.size
 have F4:=Lib.hid ((hb4.block w.heap.size (by omega)).trans F3.out)
 have B4:=Lib.hid (B3.out.trans (hb4.mono (by omega)))
 clear hb4 C5 i0 i1 i2 i3 i4 i5 i6 i7 i8 i9 i10 i11 i12 i13 i14
 cases hb:tableB im with
 | false=>
  have Hr:=Lib.hid (may_table H1.out H2.out H3.out H4.out hb)
  rw [tableErr_bad hb]
  clear hb
  go_wp2
  go_ret
  exact⟨by rw [Hr.out];rfl,B4.out⟩
 | true=>
 have H5:=Lib.hid hb
 rw [tableErr_ok hb]
 clear hb
 have C6:=Lib.hid (irelocs_any w4 _ im (HM.out w4 B4.out).segs H2.out (HM.out w4 B4.out).syms (head_flags H1.out) (HM.out w4 B4.out).relocs (HM.out w4 B4.out).relocsR (syms_sizes H2.out H3.out H4.out).1 (syms_sizes H2.out H3.out H4.out).2)
 unfold imgCells at C6
 obtain⟨i0,i1,i2,i3,i4,i5,i6,i7,i8,i9,i10,i11,i12,i13,i14⟩:=img_cells F4.out
 go_wp2_with fail
 refine C6.out.mono ?_
 rintro e w5 ⟨rfl,hb5⟩
 have hz5:=hb5.size
 have F5:=Lib.hid ((hb5.block w.heap.size (by omega)).trans F4.out)
 have B5:=Lib.hid (B4.out.trans (hb5.mono (by omega)))
 clear hb5 C6 i0 i1 i2 i3 i4 i5 i6 i7 i8 i9 i10 i11 i12 i13 i14
 cases hb:relocsB im with
 | false=>
  have Hr:=Lib.hid (may_relocs H1.out H2.out H3.out H4.out H5.out hb)
  clear hb
  go_wp2
  go_ret
  exact⟨by rw [Hr.out];rfl,B5.out⟩
 | true=>
 have H6:=Lib.hid hb
 clear hb
 have C7:=Lib.hid (islots_any w5 _ im (HM.out w5 B5.out).segs H2.out (HM.out w5 B5.out).syms (HM.out w5 B5.out).relocs (HM.out w5 B5.out).relocsR H6.out (syms_sizes H2.out H3.out H4.out).1 (syms_sizes H2.out H3.out H4.out).2 (HM.out w5 B5.out).slots (HM.out w5 B5.out).slotsR)
 unfold imgCells at C7
 obtain⟨i0,i1,i2,i3,i4,i5,i6,i7,i8,i9,i10,i11,i12,i13,i14⟩:=img_cells F5.out
 go_wp2_with fail
 refine C7.out.mono ?_
 rintro e w6 ⟨rfl,hb6⟩
 have hz6:=hb6.size
 have F6:=Lib.hid ((hb6.block w.heap.size (by omega)).trans F5.out)
 have B6:=Lib.hid (B5.out.trans (hb6.mono (by omega)))
 clear hb6 C7 i0 i1 i2 i3 i4 i5 i6 i7 i8 i9 i10 i11 i12 i13 i14
 cases hb:slotsB im with
 | false=>
  have Hr:=Lib.hid (may_slots H1.out H2.out H3.out H4.out H5.out H6.out hb)
  clear hb
  go_wp2
  go_ret
  exact⟨by rw [Hr.out];rfl,B6.out⟩
 | true=>
 have H7:=Lib.hid hb
 clear hb
 have C8:=Lib.hid (iruns_any w6 _ im (HM.out w6 B6.out).segs (segOk_of H2.out) (HM.out w6 B6.out).init (HM.out w6 B6.out).fini (HM.out w6 B6.out).initR (HM.out w6 B6.out).finiR)
 unfold imgCells at C8
 obtain⟨i0,i1,i2,i3,i4,i5,i6,i7,i8,i9,i10,i11,i12,i13,i14⟩:=img_cells F6.out
 go_wp2_with fail
 refine C8.out.mono ?_
 rintro e w7 ⟨rfl,hb7⟩
 have hz7:=hb7.size
 have F7:=Lib.hid ((hb7.block w.heap.size (by omega)).trans F6.out)
 have B7:=Lib.hid (B6.out.trans (hb7.mono (by omega)))
 clear hb7 C8 i0 i1 i2 i3 i4 i5 i6 i7 i8 i9 i10 i11 i12 i13 i14
 cases hb:(runB im im.init&&runB im im.fini)with
 | false=>
  have Hr:=Lib.hid (may_runs H1.out H2.out H3.out H4.out H5.out H6.out H7.out hb)
  clear hb
  go_wp2
  go_ret
  exact⟨by rw [Hr.out];rfl,B7.out⟩
 | true=>
 have H8:=Lib.hid hb
 clear hb
 have Hr:=Lib.hid (may_good H1.out H2.out H3.out H4.out H5.out H6.out H7.out H8.out)
 go_wp2
 go_ret
 exact⟨by rw [Hr.out];rfl,B7.out⟩
end Go.Proofs.YtfchpchabdhcgaaGreat
