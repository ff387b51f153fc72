/- Lemmas that the claim is proved from: what calls of functions of the program come to (contracts), and plain laws. Each lemma bears its own conditions. -/
import Derived.Test.YtbliedldlimpgaaBas12
import Derived.Test.YtbliedldlimpgaaBas14
import Derived.Test.YtbliedldlimpgaaBas8
import Derived.Test.YtbliedldlimpgaaBas10
import Derived.Deep.DeepCutAuto
import Derived.Laws.Tables
import Derived.Laws.ResultCell

namespace Go.Proofs.Ytbliedldlimpgaa
set_option linter.unusedVariables false
set_option linter.unusedSimpArgs false
open Go.RowKit

abbrev I64 (x : Int) : Prop := -9223372036854775808 ≤ x ∧ x ≤ 9223372036854775807
/-- an image's value in memory, and what it reads as: its lists lie in blocks for which S holds, its numbers are Go's -/
structure ImgM (S : Nat → Prop) (w : World) (v : ImgV) (im : ImgL) : Prop where
  name : im.name.length ≤ 9223372036854775807
  flags : I64 im.flags
  segs : LB kSeg S w v.segs im.segs
  segsR : ∀ s ∈ im.segs, I64 s.at_ ∧ I64 s.size ∧ I64 s.perm
  needed : LB kNeed S w v.needed im.needed
  runPath : LB kStr S w v.runPath im.runPath
  syms : LB kSym S w v.syms im.syms
  buckets : LB kInts S w v.buckets im.buckets
  bucketsL : ∀ c ∈ im.buckets, c.length ≤ 9223372036854775807
  words : LB kWord S w v.words im.words
  wordsR : ∀ x ∈ im.words, 0 ≤ x ∧ x < 18446744073709551616
  shift : I64 im.shift
  relocs : LB kRel S w v.relocs im.relocs
  relocsR : ∀ r ∈ im.relocs, RelOk r
  slots : LB kSlot S w v.slots im.slots
  slotsR : ∀ s ∈ im.slots, SlotOk s
  init : LB kInt S w v.init im.init
  initR : ∀ x ∈ im.init, I64 x
  fini : LB kInt S w v.fini im.fini
  finiR : ∀ x ∈ im.fini, I64 x
  tls : LB kByte S w v.tls im.tls
  tlsSize : I64 im.tlsSize
theorem ImgM.keeps {S : Nat → Prop} {w w' : World} {v : ImgV} {im : ImgL} (h : ImgM S w v im) (hk : Keeps S w w') : ImgM S w' v im :=
  ⟨h.name, h.flags, h.segs.keeps hk, h.segsR, h.needed.keeps hk, h.runPath.keeps hk, h.syms.keeps hk, h.buckets.keeps hk, h.bucketsL, h.words.keeps hk, h.wordsR, h.shift, h.relocs.keeps hk, h.relocsR, h.slots.keeps hk, h.slotsR, h.init.keeps hk, h.initR, h.fini.keeps hk, h.finiR, h.tls.keeps hk, h.tlsSize⟩
theorem ImgM.imp {S S' : Nat → Prop} {w : World} {v : ImgV} {im : ImgL} (h : ImgM S w v im) (hk : ∀ b, S b → S' b) : ImgM S' w v im :=
  ⟨h.name, h.flags, h.segs.imp hk, h.segsR, h.needed.imp hk, h.runPath.imp hk, h.syms.imp hk, h.buckets.imp hk, h.bucketsL, h.words.imp hk, h.wordsR, h.shift, h.relocs.imp hk, h.relocsR, h.slots.imp hk, h.slotsR, h.init.imp hk, h.initR, h.fini.imp hk, h.finiR, h.tls.imp hk, h.tlsSize⟩
theorem ImgM.later {w w' : World} {v : ImgV} {im : ImgL} (h : ImgM (· < w.heap.size) w v im) (hb : Below w.heap.size w w') : ImgM (· < w'.heap.size) w' v im :=
  (h.keeps (.of_below hb)).imp fun _ hb' => Nat.lt_of_lt_of_le hb' hb.size
theorem head_flags {im : ImgL} (h : headB im = true) : 0 ≤ im.flags ∧ im.flags < 16 := by
  simp only [headB, Bool.and_eq_true, decide_eq_true_eq] at h; omega
theorem syms_sizes {im : ImgL} (hg : segsB im.segs = true) (ht : tlsB im = true) (h : symsB im = true) : (∀ s ∈ im.syms, 0 ≤ s.size ∧ s.size ≤ 9223372036854775807) ∧ im.syms.length ≤ 512 := by
  have h' := h
  simp only [symsB, Bool.and_eq_true, decide_eq_true_eq] at h'
  refine ⟨fun s hs => ?_, h'.1⟩
  have := sym_good hg ht (symsFrom_each _ _ _ _ h'.2 s hs)
  omega
theorem may_head {im : ImgL} (h : headB im = false) : mayL im = 90 := by rw [mayL, if_pos h]
theorem may_segs {im : ImgL} (h1 : headB im = true) (h : segsB im.segs = false) : mayL im = 91 := by rw [mayL, h1, if_neg (by simp), if_pos h]
theorem may_tls {im : ImgL} (h1 : headB im = true) (h2 : segsB im.segs = true) (h : tlsB im = false) : mayL im = 96 := by rw [mayL, h1, if_neg (by simp), h2, if_neg (by simp), if_pos h]
theorem may_syms {im : ImgL} (h1 : headB im = true) (h2 : segsB im.segs = true) (h3 : tlsB im = true) (h : symsB im = false) : mayL im = 92 := by rw [mayL, h1, if_neg (by simp), h2, if_neg (by simp), h3, if_neg (by simp), if_pos h]
theorem may_table {im : ImgL} (h1 : headB im = true) (h2 : segsB im.segs = true) (h3 : tlsB im = true) (h4 : symsB im = true) (h : tableB im = false) : mayL im = 93 := by rw [mayL, h1, if_neg (by simp), h2, if_neg (by simp), h3, if_neg (by simp), h4, if_neg (by simp), if_pos h]
theorem may_relocs {im : ImgL} (h1 : headB im = true) (h2 : segsB im.segs = true) (h3 : tlsB im = true) (h4 : symsB im = true) (h5 : tableB im = true) (h : relocsB im = false) : mayL im = 94 := by rw [mayL, h1, if_neg (by simp), h2, if_neg (by simp), h3, if_neg (by simp), h4, if_neg (by simp), h5, if_neg (by simp), if_pos h]
theorem may_slots {im : ImgL} (h1 : headB im = true) (h2 : segsB im.segs = true) (h3 : tlsB im = true) (h4 : symsB im = true) (h5 : tableB im = true) (h6 : relocsB im = true) (h : slotsB im = false) : mayL im = 95 := by rw [mayL, h1, if_neg (by simp), h2, if_neg (by simp), h3, if_neg (by simp), h4, if_neg (by simp), h5, if_neg (by simp), h6, if_neg (by simp), if_pos h]
theorem may_runs {im : ImgL} (h1 : headB im = true) (h2 : segsB im.segs = true) (h3 : tlsB im = true) (h4 : symsB im = true) (h5 : tableB im = true) (h6 : relocsB im = true) (h7 : slotsB im = true) (h : (runB im im.init && runB im im.fini) = false) : mayL im = 97 := by rw [mayL, h1, if_neg (by simp), h2, if_neg (by simp), h3, if_neg (by simp), h4, if_neg (by simp), h5, if_neg (by simp), h6, if_neg (by simp), h7, if_neg (by simp), if_pos h]
theorem may_good {im : ImgL} (h1 : headB im = true) (h2 : segsB im.segs = true) (h3 : tlsB im = true) (h4 : symsB im = true) (h5 : tableB im = true) (h6 : relocsB im = true) (h7 : slotsB im = true) (h : (runB im im.init && runB im im.fini) = true) : mayL im = 0 := by rw [mayL, h1, if_neg (by simp), h2, if_neg (by simp), h3, if_neg (by simp), h4, if_neg (by simp), h5, if_neg (by simp), h6, if_neg (by simp), h7, if_neg (by simp), h, if_neg (by simp)]

set_option maxHeartbeats 16000000 in
set_option maxRecDepth 100000 in
theorem imay_any (w : World) (v : ImgV) (im : ImgL) (hm : ImgM (· < w.heap.size) w v im) :
    Calls Try.prog 10 #[.agg (imgCells v im)] w fun e w' => e = .returned (.int .i64 (mayL im)) ∧ Below w.heap.size w w' := by
  obtain ⟨la, lcap, hlv⟩ := hm.tls.form
  have hlm := hm.tls.max
  obtain ⟨vsegs, vneeded, vrunPath, vsyms, vbuckets, vwords, vrelocs, vslots, vinit, vfini, vtls⟩ := v
  simp only at hlv
  subst hlv
  have HM : Hid (∀ w', Below w.heap.size w w' → ImgM (· < w'.heap.size) w' ⟨vsegs, vneeded, vrunPath, vsyms, vbuckets, vwords, vrelocs, vslots, vinit, vfini, .slice la im.tls.length lcap⟩ im) := Lib.hid (fun w' hb => hm.later hb)
  clear hm
  generalize hI : (Array.mk [.string ⟨im.name.toArray⟩, .int .i64 im.flags, vsegs, vneeded, vrunPath, vsyms, vbuckets, vwords, .int .i64 im.shift, vrelocs, vslots, vinit, vfini, .slice la im.tls.length lcap, .int .i64 im.tlsSize] : Array Value) = I
  have F0 := Lib.hid (heap_alloc_new w (.cells I 38 (0, 0)))
  have B0 := Lib.hid ((Below.refl w.heap.size w).alloc (Nat.le_refl _) (.cells I 38 (0, 0)))
  have hz0 : (w.alloc (.cells I 38 (0, 0))).heap.size = w.heap.size + 1 := by simp
  subst hI
  have hcells : imgCells ⟨vsegs, vneeded, vrunPath, vsyms, vbuckets, vwords, vrelocs, vslots, vinit, vfini, .slice la im.tls.length lcap⟩ im = #[.string ⟨im.name.toArray⟩, .int .i64 im.flags, vsegs, vneeded, vrunPath, vsyms, vbuckets, vwords, .int .i64 im.shift, vrelocs, vslots, vinit, vfini, .slice la im.tls.length lcap, .int .i64 im.tlsSize] := rfl
  rw [hcells]
  clear hcells
  go_enter Try.func10, Try.ntmps10
  go_wp2_with fail
  generalize w.alloc (.cells #[.string ⟨im.name.toArray⟩, .int .i64 im.flags, vsegs, vneeded, vrunPath, vsyms, vbuckets, vwords, .int .i64 im.shift, vrelocs, vslots, vinit, vfini, .slice la im.tls.length lcap, .int .i64 im.tlsSize] 38 (0, 0)) = w0 at *
  have C1 := Lib.hid (ihead_any w0 _ im (HM.out w0 B0.out).needed (HM.out w0 B0.out).runPath (HM.out w0 B0.out).name)
  unfold imgCells at C1
  obtain ⟨i0, i1, i2, i3, i4, i5, i6, i7, i8, i9, i10, i11, i12, i13, i14⟩ := img_cells F0.out
  go_wp2_with fail
  refine C1.out.mono ?_
  rintro e w1 ⟨rfl, hb1⟩
  have hz1 := hb1.size
  have F1 := Lib.hid ((hb1.block w.heap.size (by omega)).trans F0.out)
  have B1 := Lib.hid (B0.out.trans (hb1.mono (by omega)))
  clear hb1 C1 i0 i1 i2 i3 i4 i5 i6 i7 i8 i9 i10 i11 i12 i13 i14
  cases hb : headB im with
  | false =>
    have Hr := Lib.hid (may_head hb)
    clear hb
    go_wp2
    go_ret
    exact ⟨by rw [Hr.out]; rfl, B1.out⟩
  | true =>
  have H1 := Lib.hid hb
  clear hb
  have C2 := Lib.hid (isegs_any w1 _ im (HM.out w1 B1.out).segs (fun s hs => ⟨((HM.out w1 B1.out).segsR s hs).1.1, ((HM.out w1 B1.out).segsR s hs).2.1.2⟩))
  unfold imgCells at C2
  obtain ⟨i0, i1, i2, i3, i4, i5, i6, i7, i8, i9, i10, i11, i12, i13, i14⟩ := img_cells F1.out
  go_wp2_with fail
  refine C2.out.mono ?_
  rintro e w2 ⟨rfl, hb2⟩
  have hz2 := hb2.size
  have F2 := Lib.hid ((hb2.block w.heap.size (by omega)).trans F1.out)
  have B2 := Lib.hid (B1.out.trans (hb2.mono (by omega)))
  clear hb2 C2 i0 i1 i2 i3 i4 i5 i6 i7 i8 i9 i10 i11 i12 i13 i14
  cases hb : segsB im.segs with
  | false =>
    have Hr := Lib.hid (may_segs H1.out hb)
    clear hb
    go_wp2
    go_ret
    exact ⟨by rw [Hr.out]; rfl, B2.out⟩
  | true =>
  have H2 := Lib.hid hb
  clear hb
  obtain ⟨i0, i1, i2, i3, i4, i5, i6, i7, i8, i9, i10, i11, i12, i13, i14⟩ := img_cells F2.out
  clear i0 i1 i2 i3 i4 i5 i6 i7 i8 i9 i10 i11 i12
  have HD : Hid (tlsB im = (decide (0 ≤ im.tlsSize) && decide (im.tlsSize ≤ 4096) && decide ((im.tls.length : Int) ≤ im.tlsSize))) := Lib.hid rfl
  by_cases t0 : 0 ≤ im.tlsSize
  case neg =>
    have hb : tlsB im = false := by rw [HD.out, decide_eq_false (p := 0 ≤ im.tlsSize) t0]; simp
    have Hr := Lib.hid (may_tls H1.out H2.out hb)
    clear hb
    have hd0 : decide (im.tlsSize < 0) = true := by rw [decide_eq_true_eq]; omega
    go_wp2
    go_ret
    exact ⟨by rw [Hr.out]; rfl, B2.out⟩
  have hd0 : decide (im.tlsSize < 0) = false := by rw [decide_eq_false_iff_not]; omega
  by_cases t1 : im.tlsSize ≤ 4096
  case neg =>
    have hb : tlsB im = false := by rw [HD.out, decide_eq_false (p := im.tlsSize ≤ 4096) t1]; simp
    have Hr := Lib.hid (may_tls H1.out H2.out hb)
    clear hb
    have hd1 : decide (4096 < im.tlsSize) = true := by rw [decide_eq_true_eq]; omega
    go_wp2
    go_ret
    exact ⟨by rw [Hr.out]; rfl, B2.out⟩
  have hd1 : decide (4096 < im.tlsSize) = false := by rw [decide_eq_false_iff_not]; omega
  by_cases t2 : (im.tls.length : Int) ≤ im.tlsSize
  case neg =>
    have hb : tlsB im = false := by rw [HD.out, decide_eq_false (p := (im.tls.length : Int) ≤ im.tlsSize) t2]; simp
    have Hr := Lib.hid (may_tls H1.out H2.out hb)
    clear hb
    have hd2 : decide (im.tlsSize < (im.tls.length : Int)) = true := by rw [decide_eq_true_eq]; omega
    go_wp2
    go_ret
    exact ⟨by rw [Hr.out]; rfl, B2.out⟩
  have hd2 : decide (im.tlsSize < (im.tls.length : Int)) = false := by rw [decide_eq_false_iff_not]; omega
  have H3 : Hid (tlsB im = true) := Lib.hid (by rw [HD.out, decide_eq_true (p := 0 ≤ im.tlsSize) t0, decide_eq_true (p := im.tlsSize ≤ 4096) t1, decide_eq_true (p := (im.tls.length : Int) ≤ im.tlsSize) t2]; rfl)
  have htl : 0 ≤ im.tlsSize ∧ im.tlsSize ≤ 4096 := ⟨t0, t1⟩
  have C4 := Lib.hid (isyms_any w2 _ im (HM.out w2 B2.out).segs (segOk_of H2.out) (HM.out w2 B2.out).syms htl)
  unfold imgCells at C4
  obtain ⟨i0, i1, i2, i3, i4, i5, i6, i7, i8, i9, i10, i11, i12, i13, i14⟩ := img_cells F2.out
  go_wp2_with fail
  refine C4.out.mono ?_
  rintro e w3 ⟨rfl, hb3⟩
  have hz3 := hb3.size
  have F3 := Lib.hid ((hb3.block w.heap.size (by omega)).trans F2.out)
  have B3 := Lib.hid (B2.out.trans (hb3.mono (by omega)))
  clear hb3 C4 i0 i1 i2 i3 i4 i5 i6 i7 i8 i9 i10 i11 i12 i13 i14
  cases hb : symsB im with
  | false =>
    have Hr := Lib.hid (may_syms H1.out H2.out H3.out hb)
    clear hb
    go_wp2
    go_ret
    exact ⟨by rw [Hr.out]; rfl, B3.out⟩
  | true =>
  have H4 := Lib.hid hb
  clear hb
  have C5 := Lib.hid (tright_any w3 im _ _ _ (HM.out w3 B3.out).buckets (HM.out w3 B3.out).words (HM.out w3 B3.out).syms (HM.out w3 B3.out).wordsR)
  obtain ⟨i0, i1, i2, i3, i4, i5, i6, i7, i8, i9, i10, i11, i12, i13, i14⟩ := img_cells F3.out
  go_wp2_with fail
  refine C5.out.mono ?_
  rintro e w4 ⟨rfl, hb4⟩
  have hz4 := hb4.size
  have F4 := Lib.hid ((hb4.block w.heap.size (by omega)).trans F3.out)
  have B4 := Lib.hid (B3.out.trans (hb4.mono (by omega)))
  clear hb4 C5 i0 i1 i2 i3 i4 i5 i6 i7 i8 i9 i10 i11 i12 i13 i14
  cases hb : tableB im with
  | false =>
    have Hr := Lib.hid (may_table H1.out H2.out H3.out H4.out hb)
    rw [tableErr_bad hb]
    clear hb
    go_wp2
    go_ret
    exact ⟨by rw [Hr.out]; rfl, B4.out⟩
  | true =>
  have H5 := Lib.hid hb
  rw [tableErr_ok hb]
  clear hb
  have C6 := Lib.hid (irelocs_any w4 _ im (HM.out w4 B4.out).segs H2.out (HM.out w4 B4.out).syms (head_flags H1.out) (HM.out w4 B4.out).relocs (HM.out w4 B4.out).relocsR (syms_sizes H2.out H3.out H4.out).1 (syms_sizes H2.out H3.out H4.out).2)
  unfold imgCells at C6
  obtain ⟨i0, i1, i2, i3, i4, i5, i6, i7, i8, i9, i10, i11, i12, i13, i14⟩ := img_cells F4.out
  go_wp2_with fail
  refine C6.out.mono ?_
  rintro e w5 ⟨rfl, hb5⟩
  have hz5 := hb5.size
  have F5 := Lib.hid ((hb5.block w.heap.size (by omega)).trans F4.out)
  have B5 := Lib.hid (B4.out.trans (hb5.mono (by omega)))
  clear hb5 C6 i0 i1 i2 i3 i4 i5 i6 i7 i8 i9 i10 i11 i12 i13 i14
  cases hb : relocsB im with
  | false =>
    have Hr := Lib.hid (may_relocs H1.out H2.out H3.out H4.out H5.out hb)
    clear hb
    go_wp2
    go_ret
    exact ⟨by rw [Hr.out]; rfl, B5.out⟩
  | true =>
  have H6 := Lib.hid hb
  clear hb
  have C7 := Lib.hid (islots_any w5 _ im (HM.out w5 B5.out).segs H2.out (HM.out w5 B5.out).syms (HM.out w5 B5.out).relocs (HM.out w5 B5.out).relocsR H6.out (syms_sizes H2.out H3.out H4.out).1 (syms_sizes H2.out H3.out H4.out).2 (HM.out w5 B5.out).slots (HM.out w5 B5.out).slotsR)
  unfold imgCells at C7
  obtain ⟨i0, i1, i2, i3, i4, i5, i6, i7, i8, i9, i10, i11, i12, i13, i14⟩ := img_cells F5.out
  go_wp2_with fail
  refine C7.out.mono ?_
  rintro e w6 ⟨rfl, hb6⟩
  have hz6 := hb6.size
  have F6 := Lib.hid ((hb6.block w.heap.size (by omega)).trans F5.out)
  have B6 := Lib.hid (B5.out.trans (hb6.mono (by omega)))
  clear hb6 C7 i0 i1 i2 i3 i4 i5 i6 i7 i8 i9 i10 i11 i12 i13 i14
  cases hb : slotsB im with
  | false =>
    have Hr := Lib.hid (may_slots H1.out H2.out H3.out H4.out H5.out H6.out hb)
    clear hb
    go_wp2
    go_ret
    exact ⟨by rw [Hr.out]; rfl, B6.out⟩
  | true =>
  have H7 := Lib.hid hb
  clear hb
  have C8 := Lib.hid (iruns_any w6 _ im (HM.out w6 B6.out).segs (segOk_of H2.out) (HM.out w6 B6.out).init (HM.out w6 B6.out).fini (HM.out w6 B6.out).initR (HM.out w6 B6.out).finiR)
  unfold imgCells at C8
  obtain ⟨i0, i1, i2, i3, i4, i5, i6, i7, i8, i9, i10, i11, i12, i13, i14⟩ := img_cells F6.out
  go_wp2_with fail
  refine C8.out.mono ?_
  rintro e w7 ⟨rfl, hb7⟩
  have hz7 := hb7.size
  have F7 := Lib.hid ((hb7.block w.heap.size (by omega)).trans F6.out)
  have B7 := Lib.hid (B6.out.trans (hb7.mono (by omega)))
  clear hb7 C8 i0 i1 i2 i3 i4 i5 i6 i7 i8 i9 i10 i11 i12 i13 i14
  cases hb : (runB im im.init && runB im im.fini) with
  | false =>
    have Hr := Lib.hid (may_runs H1.out H2.out H3.out H4.out H5.out H6.out H7.out hb)
    clear hb
    go_wp2
    go_ret
    exact ⟨by rw [Hr.out]; rfl, B7.out⟩
  | true =>
  have H8 := Lib.hid hb
  clear hb
  have Hr := Lib.hid (may_good H1.out H2.out H3.out H4.out H5.out H6.out H7.out H8.out)
  go_wp2
  go_ret
  exact ⟨by rw [Hr.out]; rfl, B7.out⟩

end Go.Proofs.Ytbliedldlimpgaa

namespace Go.Proofs.Ytbliedldlimpgaa
set_option linter.unusedVariables false
set_option linter.unusedSimpArgs false
open Go.RowKit

/-- an image's local, in its block: what its cells hold -/
def imgBlock (name : List UInt8) (flags : Int) (v : ImgV) (shift tlsSize : Int) : Obj :=
  .cells #[.string ⟨name.toArray⟩, .int .i64 flags, v.segs, v.needed, v.runPath, v.syms, v.buckets, v.words, .int .i64 shift, v.relocs, v.slots, v.init, v.fini, v.tls, .int .i64 tlsSize] 38 (0, 0)

/-- bytes that a call made lie from its world's end on -/
theorem OwnK.lbB {α : Type} {e : TypeId} {K : Kind α} {f : α → Value} (hp : Plain K f) {B : Nat} {E : Nat → Prop} {w : World} {v : Value} {l : List α} (h : OwnK e K B E w v l) : LB K (fun b => b < w.heap.size ∧ B ≤ b) w v l :=
  (OwnK.lb (E := (· < B)) (.of_plain hp (h.plain_row hp) (fun g hg h' => by have := (h.lt g hg).1; omega))).imp (fun b hb => ⟨hb.1, Nat.le_of_not_lt hb.2⟩)
theorem okN_idx {size : Nat} {n : Int} (hs : size ≤ 4) (h : okN size n) : ∃ m : Nat, n = m ∧ okLen size m := ⟨n.toNat, okN_nat hs h⟩
theorem okN_int64 {size : Nat} {n : Int} (h : okN size n) (hs : size = 1 ∨ size = 2 ∨ size = 4 ∨ size = 8 := by decide) : -9223372036854775808 ≤ n ∧ n ≤ 9223372036854775807 := by
  rcases hs with rfl | rfl | rfl | rfl <;> (simp [okN] at h; omega)
/-- an image's bytes behind the first text -/
def tailP : List UInt8 → Option (ImgL × List UInt8) :=
  bindP textP fun name => bindP (numP 1) fun flags =>
  bindP (numP 1) fun n1 => bindP (manyP segP n1.toNat) fun segs =>
  bindP (numP 1) fun n2 => bindP (manyP needP n2.toNat) fun needed =>
  bindP (numP 1) fun n3 => bindP (textsP n3) fun runPath =>
  bindP (numP 2) fun n4 => bindP (manyP symP n4.toNat) fun syms =>
  bindP (numP 2) fun n5 => bindP (manyP chainP n5.toNat) fun buckets =>
  bindP (numP 1) fun shift => bindP (numP 1) fun n6 => bindP (manyP wordP n6.toNat) fun words =>
  bindP (numP 2) fun n7 => bindP (manyP relP n7.toNat) fun relocs =>
  bindP (numP 2) fun n8 => bindP (manyP slotP n8.toNat) fun slots =>
  bindP (numP 1) fun n9 => bindP (manyP (numP 4) n9.toNat) fun init =>
  bindP (numP 1) fun n10 => bindP (manyP (numP 4) n10.toNat) fun fini =>
  bindP (numP 2) fun tlsSize => bindP blockP fun tls t =>
  some (⟨name, flags, segs, needed, runPath, syms, buckets, words, shift, relocs, slots, init, fini, tls, tlsSize⟩, t)
theorem got_img {l : List UInt8} {x0 : List UInt8} {st0 st1 st : Option (List UInt8)} {o : Bool} {im : ImgL} (HG : Got textP (some l) x0 st0) (Ho : (!x0 == [99, 108, 101, 118, 105, 115, 49]) = o) (Hst : st1 = if o then none else st0) (h : Got tailP st1 im st) : Got imgP (some l) im st := by
  refine Got.bind (q := fun magic => if magic ≠ magicL then fun _ => none else tailP) HG ?_
  by_cases hx : x0 = magicL
  · have e : o = false := by rw [← Ho, hx]; rfl
    subst e
    rw [if_neg (by simpa using hx)]
    have e : st1 = st0 := Hst
    rw [← e]; exact h
  · have hb : (x0 == [99, 108, 101, 118, 105, 115, 49]) = false := by
      rw [beq_eq_false_iff_ne]; exact hx
    have e : o = true := by rw [← Ho, hb]; rfl
    subst e
    rw [if_pos hx]
    have e : st1 = none := Hst
    have hn : st = none := h.1 e
    exact ⟨fun _ => hn, fun l _ => ⟨fun _ => hn, fun y t h => (by cases h)⟩⟩
/-- an image with nothing in it -/
def emptyL : ImgL := ⟨[], 0, [], [], [], [], [], [], 0, [], [], [], [], [], 0⟩
theorem LB.one {α : Type} {K : Kind α} {S : Nat → Prop} {w : World} {v : Value} {l : List α} (h : LB K S w v l) : v.oneCell' = true := by
  obtain ⟨a, c, rfl⟩ := h.form
  rfl
theorem one_string (s : ByteArray) : (Value.string s).oneCell' = true := rfl
theorem one_int (k : IntKind) (n : Int) : (Value.int k n).oneCell' = true := rfl
theorem one_slice (a : Option Addr) (n c : Nat) : (Value.slice a n c).oneCell' = true := rfl
theorem imgM_empty (S : Nat → Prop) (w : World) : ImgM S w ⟨.slice none 0 0, .slice none 0 0, .slice none 0 0, .slice none 0 0, .slice none 0 0, .slice none 0 0, .slice none 0 0, .slice none 0 0, .slice none 0 0, .slice none 0 0, .slice none 0 0⟩ emptyL where
  name := Nat.zero_le _
  flags := ⟨by decide, by decide⟩
  segs := LB.nil _ _ _
  segsR := fun s hs => (by cases hs)
  needed := LB.nil _ _ _
  runPath := LB.nil _ _ _
  syms := LB.nil _ _ _
  buckets := LB.nil _ _ _
  bucketsL := fun s hs => (by cases hs)
  words := LB.nil _ _ _
  wordsR := fun s hs => (by cases hs)
  shift := ⟨by decide, by decide⟩
  relocs := LB.nil _ _ _
  relocsR := fun s hs => (by cases hs)
  slots := LB.nil _ _ _
  slotsR := fun s hs => (by cases hs)
  init := LB.nil _ _ _
  initR := fun s hs => (by cases hs)
  fini := LB.nil _ _ _
  finiR := fun s hs => (by cases hs)
  tls := LB.nil _ _ _
  tlsSize := ⟨by decide, by decide⟩
theorem results_row_tmp {P : Program} {fn : Func} {p u : Tmp} {ty : TypeId} (h : fn.results = #[.cell p ty, .tmp u]) (tmps : Array Value) (w : World) (g : Nat) (t : TypeId) (cs : Array Value) (fr : Nat × Nat) (d : TypeDesc)
    (hp : tmps.getD p undef = .pointer (some ⟨g, 0, none⟩)) (hg : w.heap[g]? = some (.cells cs t fr))
    (hu : P.underlying ty = some d) (hd : (match d with | .struct _ | .array _ _ => true | _ => false) = true) (hi : (P.info? ty).map (·.size) = some cs.size) :
    (results fn tmps).run P w = .ok (.tuple #[.agg cs, tmps.getD u undef]) w := by
  rw [results_cell_tmp h, hp]
  simp [asAddr, run_loadVar_row w g t ty cs fr d hg hu hd hi, Result.andThen]
theorem wrap_word (n : Int) : IntKind.u64.wrap n = n % 18446744073709551616 := by
  first | rfl | simp [IntKind.wrap] | (unfold IntKind.wrap; rfl)
theorem got_word {st st' : Option (List UInt8)} {n : Int} (h : Got (numP 8) st n st') (hk : okN 8 n) : Got wordP st (n % 18446744073709551616) st' ∧ (0 ≤ n % 18446744073709551616 ∧ n % 18446744073709551616 < 18446744073709551616) := by
  refine ⟨⟨h.1, fun l e => ?_⟩, by omega⟩
  obtain ⟨h1, h2⟩ := h.2 l e
  by_cases hl : 8 ≤ l.length
  · have e1 : numP 8 l = some (sgnL (valL (l.take 8)), l.drop 8) := by rw [numP, if_pos hl, if_pos rfl]
    have e2 : wordP l = some ((valL (l.take 8) : Int), l.drop 8) := by rw [wordP, if_pos hl]
    rw [e2]
    refine ⟨fun h => (by cases h), fun y t hy => ?_⟩
    obtain ⟨rfl, rfl⟩ := Prod.mk.inj (Option.some.inj hy)
    obtain ⟨hn, hs⟩ := h2 _ _ e1
    refine ⟨?_, hs⟩
    have hv := valL_lt (l.take 8)
    rw [List.length_take, Nat.min_eq_left hl] at hv
    have hv : valL (l.take 8) < 18446744073709551616 := hv
    rw [hn, sgnL]
    split <;> omega
  · have e1 : numP 8 l = none := by rw [numP, if_neg hl]
    have e2 : wordP l = none := by rw [wordP, if_neg hl]
    rw [e2]
    exact ⟨fun _ => h1 e1, fun y t hy => (by cases hy)⟩
theorem setCell_row {w : World} {b k : Nat} {cs : Array Value} {t : TypeId} {fr : Nat × Nat} (u : Value) (h : w.heap[b]? = some (.cells cs t fr)) : (w.setCell ⟨b, k, none⟩ u).heap[b]? = some (.cells (cs.setIfInBounds k u) t fr) := by
  simp [World.setCell, Array.getElem?_modify, h]
theorem row_of {w : World} {b : Nat} {l : List Value} {t : TypeId} {fr : Nat × Nat} (h : w.heap[b]? = some (.cells l.toArray t fr)) : ∀ j u, l[j]? = some u → w.cell? ⟨b, j, none⟩ = some u := by
  intro j u hu
  rw [Lib.cell_of_heap h]
  simpa using hu
theorem info_seg : (Try.prog.info? 72).map (fun i => (i.zero, i.size, i.bytes)) = some (some (.agg #[.int .i64 0, .int .i64 0, .slice none 0 0, .int .i64 0]), 4, 48) := by kernel_rfl
theorem info_need : (Try.prog.info? 81).map (fun i => (i.zero, i.size, i.bytes)) = some (some (.agg #[.string ⟨#[]⟩, .slice none 0 0]), 2, 40) := by kernel_rfl
theorem info_sym : (Try.prog.info? 54).map (fun i => (i.zero, i.size, i.bytes)) = some (some (.agg #[.string ⟨#[]⟩, .string ⟨#[]⟩, .bool false, .int .i64 0, .bool false, .int .i64 0, .bool false, .int .i64 0, .int .i64 0]), 9, 88) := by kernel_rfl
theorem info_reloc : (Try.prog.info? 57).map (fun i => (i.zero, i.size, i.bytes)) = some (some (.agg #[.int .i64 0, .int .i64 0, .int .i64 0, .int .i64 0]), 4, 32) := by kernel_rfl
theorem info_slot : (Try.prog.info? 69).map (fun i => (i.zero, i.size, i.bytes)) = some (some (.agg #[.int .i64 0, .int .i64 0, .int .i64 0]), 3, 24) := by kernel_rfl
theorem info_ints : (Try.prog.info? 35).map (fun i => (i.zero, i.size, i.bytes)) = some (some (.slice none 0 0), 1, 24) := by kernel_rfl
theorem info_word : (Try.prog.info? 63).map (fun i => (i.zero, i.size, i.bytes)) = some (some (.int .u64 0), 1, 8) := by kernel_rfl
theorem step_setRow (w : World) (g : Nat) (cs : Array Value) : Step (fun x => x ≠ g) w (w.setRow g cs) := ⟨rfl, rfl, rfl, by simp, fun b hb => setRow_other _ _ _ _ hb⟩

/-- what bytes are as an image, and what is wrong with them -/
def decL (b : List UInt8) : ImgL × Int := match wholeP b with
  | none => (emptyL, 98)
  | some x => if mayL x = 0 then (x, 0) else (emptyL, mayL x)
theorem LQ.done {α : Type} {e : TypeId} {K : Kind α} {p : List UInt8 → Option (α × List UInt8)} {ok : α → Prop} {lb rb gb : Nat} {S0 : Nat → Prop} {w0 w : World} {st0 : Option (List UInt8)} {v : Value} {k : Nat} (B : Nat) (hB : B ≤ w0.heap.size) (h : LQ e K p ok lb rb gb S0 w0 st0 w v k) :
    ∃ xs st, xs.length = k ∧ (∀ x ∈ xs, ok x) ∧ Got (manyP p k) st0 xs st ∧ LD lb rb gb w st ∧ Step (fun x => x < w0.heap.size ∧ S0 x) w0 w ∧ LB K (fun b => B ≤ b ∧ b < w.heap.size) w v xs := by
  obtain ⟨xs, st, h1, h2, h3, h4, h5, h6⟩ := h
  exact ⟨xs, st, h2, h3, h4, h5, h6, h1.lb.imp (fun b hb => ⟨Nat.le_trans hB (Nat.le_of_not_lt hb.2), hb.1⟩)⟩
theorem LB.far {α : Type} {K : Kind α} {B B' : Nat} {S : Nat → Prop} {w w' : World} {v : Value} {l : List α} (h : LB K (fun b => B ≤ b ∧ b < w.heap.size) w v l) (hs : Step S w w') (hS : ∀ b, B ≤ b → b < w.heap.size → S b) (hB : B' ≤ B) : LB K (fun b => B' ≤ b ∧ b < w'.heap.size) w' v l :=
  (h.keeps (fun b hb => hs.block b (hS b hb.1 hb.2))).imp (fun b hb => ⟨by omega, by have := hs.size; omega⟩)


/-- the n-th statement of a function's body, and what stands inside a block and a loop -/
def codeOf (f : Func) : Code := f.body.getD .skip
def behind : Nat → Code → Code
  | 0, c => c
  | n + 1, .seq _ b => behind n b
  | _ + 1, c => c
def firstOf : Code → Code
  | .seq a _ => a
  | c => c
def inBlk : Code → Code
  | .block _ c => c
  | c => c
def inLoop : Code → Code
  | .loop c => c
  | c => c
def dRest (f : Func) (n : Nat) : Code := behind n (codeOf f)
def dCode (f : Func) (n : Nat) : Code := firstOf (dRest f n)
/-- the first region of the loop in a statement -/
def dReg (f : Func) (n : Nat) : Code := firstOf (inBlk (firstOf (behind 2 (inLoop (inBlk (behind 1 (dCode f n)))))))
/-- what some slots of a frame hold -/
def FrL (t : Array Value) : List (Nat × Value) → Prop
  | [] => True
  | p :: l => t.getD p.1 undef = p.2 ∧ FrL t l
def Fr (xs : List (Nat × Value)) (a : Act) : Prop := a.tmps.size = 332 ∧ a.defers = [] ∧ FrL a.tmps xs
theorem lists_cons {n : Nat} {p : List Value → Prop} (h : ∀ x t, t.length = n → p (x :: t)) : ∀ l : List Value, l.length = n + 1 → p l := by
  intro l hl
  cases l with
  | nil => cases hl
  | cons x t => exact h x t (Nat.succ.inj hl)
theorem lists_nil {p : List Value → Prop} (h : p []) : ∀ l : List Value, l.length = 0 → p l := by
  intro l hl
  cases l with
  | nil => exact h
  | cons x t => cases hl
set_option maxRecDepth 100000 in
set_option maxHeartbeats 4000000 in
theorem frames {p : List Value → Prop} (h : ∀ V0 V1 V2 V3 V4 V5 V6 V7 V8 V9 V10 V11 V12 V13 V14 V15 V16 V17 V18 V19 V20 V21 V22 V23 V24 V25 V26 V27 V28 V29 V30 V31 V32 V33 V34 V35 V36 V37 V38 V39
    V40 V41 V42 V43 V44 V45 V46 V47 V48 V49 V50 V51 V52 V53 V54 V55 V56 V57 V58 V59 V60 V61 V62 V63 V64 V65 V66 V67 V68 V69 V70 V71 V72 V73 V74 V75 V76 V77 V78 V79
    V80 V81 V82 V83 V84 V85 V86 V87 V88 V89 V90 V91 V92 V93 V94 V95 V96 V97 V98 V99 V100 V101 V102 V103 V104 V105 V106 V107 V108 V109 V110 V111 V112 V113 V114 V115 V116 V117 V118 V119
    V120 V121 V122 V123 V124 V125 V126 V127 V128 V129 V130 V131 V132 V133 V134 V135 V136 V137 V138 V139 V140 V141 V142 V143 V144 V145 V146 V147 V148 V149 V150 V151 V152 V153 V154 V155 V156 V157 V158 V159
    V160 V161 V162 V163 V164 V165 V166 V167 V168 V169 V170 V171 V172 V173 V174 V175 V176 V177 V178 V179 V180 V181 V182 V183 V184 V185 V186 V187 V188 V189 V190 V191 V192 V193 V194 V195 V196 V197 V198 V199
    V200 V201 V202 V203 V204 V205 V206 V207 V208 V209 V210 V211 V212 V213 V214 V215 V216 V217 V218 V219 V220 V221 V222 V223 V224 V225 V226 V227 V228 V229 V230 V231 V232 V233 V234 V235 V236 V237 V238 V239
    V240 V241 V242 V243 V244 V245 V246 V247 V248 V249 V250 V251 V252 V253 V254 V255 V256 V257 V258 V259 V260 V261 V262 V263 V264 V265 V266 V267 V268 V269 V270 V271 V272 V273 V274 V275 V276 V277 V278 V279
    V280 V281 V282 V283 V284 V285 V286 V287 V288 V289 V290 V291 V292 V293 V294 V295 V296 V297 V298 V299 V300 V301 V302 V303 V304 V305 V306 V307 V308 V309 V310 V311 V312 V313 V314 V315 V316 V317 V318 V319
    V320 V321 V322 V323 V324 V325 V326 V327 V328 V329 V330 V331 : Value, p [V0, V1, V2, V3, V4, V5, V6, V7, V8, V9, V10, V11, V12, V13, V14, V15, V16, V17, V18, V19, V20, V21, V22, V23, V24, V25, V26, V27, V28, V29, V30, V31, V32, V33, V34, V35, V36, V37, V38, V39, V40, V41, V42, V43, V44, V45, V46, V47, V48, V49, V50, V51, V52, V53, V54, V55, V56, V57, V58, V59, V60, V61, V62, V63, V64, V65, V66, V67, V68, V69, V70, V71, V72, V73, V74, V75, V76, V77, V78, V79, V80, V81, V82, V83, V84, V85, V86, V87, V88, V89, V90, V91, V92, V93, V94, V95, V96, V97, V98, V99, V100, V101, V102, V103, V104, V105, V106, V107, V108, V109, V110, V111, V112, V113, V114, V115, V116, V117, V118, V119, V120, V121, V122, V123, V124, V125, V126, V127, V128, V129, V130, V131, V132, V133, V134, V135, V136, V137, V138, V139, V140, V141, V142, V143, V144, V145, V146, V147, V148, V149, V150, V151, V152, V153, V154, V155, V156, V157, V158, V159, V160, V161, V162, V163, V164, V165, V166, V167, V168, V169, V170, V171, V172, V173, V174, V175, V176, V177, V178, V179, V180, V181, V182, V183, V184, V185, V186, V187, V188, V189, V190, V191, V192, V193, V194, V195, V196, V197, V198, V199, V200, V201, V202, V203, V204, V205, V206, V207, V208, V209, V210, V211, V212, V213, V214, V215, V216, V217, V218, V219, V220, V221, V222, V223, V224, V225, V226, V227, V228, V229, V230, V231, V232, V233, V234, V235, V236, V237, V238, V239, V240, V241, V242, V243, V244, V245, V246, V247, V248, V249, V250, V251, V252, V253, V254, V255, V256, V257, V258, V259, V260, V261, V262, V263, V264, V265, V266, V267, V268, V269, V270, V271, V272, V273, V274, V275, V276, V277, V278, V279, V280, V281, V282, V283, V284, V285, V286, V287, V288, V289, V290, V291, V292, V293, V294, V295, V296, V297, V298, V299, V300, V301, V302, V303, V304, V305, V306, V307, V308, V309, V310, V311, V312, V313, V314, V315, V316, V317, V318, V319, V320, V321, V322, V323, V324, V325, V326, V327, V328, V329, V330, V331]) : ∀ l : List Value, l.length = 332 → p l := by
  iterate 332 (refine lists_cons (fun _ => ?_))
  exact lists_nil (h _ _ _ _ _ _ _ _ _ _ _ _ _ _ _ _ _ _ _ _ _ _ _ _ _ _ _ _ _ _ _ _ _ _ _ _ _ _ _ _
    _ _ _ _ _ _ _ _ _ _ _ _ _ _ _ _ _ _ _ _ _ _ _ _ _ _ _ _ _ _ _ _ _ _ _ _ _ _ _ _
    _ _ _ _ _ _ _ _ _ _ _ _ _ _ _ _ _ _ _ _ _ _ _ _ _ _ _ _ _ _ _ _ _ _ _ _ _ _ _ _
    _ _ _ _ _ _ _ _ _ _ _ _ _ _ _ _ _ _ _ _ _ _ _ _ _ _ _ _ _ _ _ _ _ _ _ _ _ _ _ _
    _ _ _ _ _ _ _ _ _ _ _ _ _ _ _ _ _ _ _ _ _ _ _ _ _ _ _ _ _ _ _ _ _ _ _ _ _ _ _ _
    _ _ _ _ _ _ _ _ _ _ _ _ _ _ _ _ _ _ _ _ _ _ _ _ _ _ _ _ _ _ _ _ _ _ _ _ _ _ _ _
    _ _ _ _ _ _ _ _ _ _ _ _ _ _ _ _ _ _ _ _ _ _ _ _ _ _ _ _ _ _ _ _ _ _ _ _ _ _ _ _
    _ _ _ _ _ _ _ _ _ _ _ _ _ _ _ _ _ _ _ _ _ _ _ _ _ _ _ _ _ _ _ _ _ _ _ _ _ _ _ _
    _ _ _ _ _ _ _ _ _ _ _ _)
set_option maxRecDepth 100000 in
theorem Fr.elim {xs : List (Nat × Value)} {a : Act} {C : Act → Prop} (h : Fr xs a) (k : ∀ V0 V1 V2 V3 V4 V5 V6 V7 V8 V9 V10 V11 V12 V13 V14 V15 V16 V17 V18 V19 V20 V21 V22 V23 V24 V25 V26 V27 V28 V29 V30 V31 V32 V33 V34 V35 V36 V37 V38 V39
    V40 V41 V42 V43 V44 V45 V46 V47 V48 V49 V50 V51 V52 V53 V54 V55 V56 V57 V58 V59 V60 V61 V62 V63 V64 V65 V66 V67 V68 V69 V70 V71 V72 V73 V74 V75 V76 V77 V78 V79
    V80 V81 V82 V83 V84 V85 V86 V87 V88 V89 V90 V91 V92 V93 V94 V95 V96 V97 V98 V99 V100 V101 V102 V103 V104 V105 V106 V107 V108 V109 V110 V111 V112 V113 V114 V115 V116 V117 V118 V119
    V120 V121 V122 V123 V124 V125 V126 V127 V128 V129 V130 V131 V132 V133 V134 V135 V136 V137 V138 V139 V140 V141 V142 V143 V144 V145 V146 V147 V148 V149 V150 V151 V152 V153 V154 V155 V156 V157 V158 V159
    V160 V161 V162 V163 V164 V165 V166 V167 V168 V169 V170 V171 V172 V173 V174 V175 V176 V177 V178 V179 V180 V181 V182 V183 V184 V185 V186 V187 V188 V189 V190 V191 V192 V193 V194 V195 V196 V197 V198 V199
    V200 V201 V202 V203 V204 V205 V206 V207 V208 V209 V210 V211 V212 V213 V214 V215 V216 V217 V218 V219 V220 V221 V222 V223 V224 V225 V226 V227 V228 V229 V230 V231 V232 V233 V234 V235 V236 V237 V238 V239
    V240 V241 V242 V243 V244 V245 V246 V247 V248 V249 V250 V251 V252 V253 V254 V255 V256 V257 V258 V259 V260 V261 V262 V263 V264 V265 V266 V267 V268 V269 V270 V271 V272 V273 V274 V275 V276 V277 V278 V279
    V280 V281 V282 V283 V284 V285 V286 V287 V288 V289 V290 V291 V292 V293 V294 V295 V296 V297 V298 V299 V300 V301 V302 V303 V304 V305 V306 V307 V308 V309 V310 V311 V312 V313 V314 V315 V316 V317 V318 V319
    V320 V321 V322 V323 V324 V325 V326 V327 V328 V329 V330 V331 : Value, Fr xs ⟨#[V0, V1, V2, V3, V4, V5, V6, V7, V8, V9, V10, V11, V12, V13, V14, V15, V16, V17, V18, V19, V20, V21, V22, V23, V24, V25, V26, V27, V28, V29, V30, V31, V32, V33, V34, V35, V36, V37, V38, V39, V40, V41, V42, V43, V44, V45, V46, V47, V48, V49, V50, V51, V52, V53, V54, V55, V56, V57, V58, V59, V60, V61, V62, V63, V64, V65, V66, V67, V68, V69, V70, V71, V72, V73, V74, V75, V76, V77, V78, V79, V80, V81, V82, V83, V84, V85, V86, V87, V88, V89, V90, V91, V92, V93, V94, V95, V96, V97, V98, V99, V100, V101, V102, V103, V104, V105, V106, V107, V108, V109, V110, V111, V112, V113, V114, V115, V116, V117, V118, V119, V120, V121, V122, V123, V124, V125, V126, V127, V128, V129, V130, V131, V132, V133, V134, V135, V136, V137, V138, V139, V140, V141, V142, V143, V144, V145, V146, V147, V148, V149, V150, V151, V152, V153, V154, V155, V156, V157, V158, V159, V160, V161, V162, V163, V164, V165, V166, V167, V168, V169, V170, V171, V172, V173, V174, V175, V176, V177, V178, V179, V180, V181, V182, V183, V184, V185, V186, V187, V188, V189, V190, V191, V192, V193, V194, V195, V196, V197, V198, V199, V200, V201, V202, V203, V204, V205, V206, V207, V208, V209, V210, V211, V212, V213, V214, V215, V216, V217, V218, V219, V220, V221, V222, V223, V224, V225, V226, V227, V228, V229, V230, V231, V232, V233, V234, V235, V236, V237, V238, V239, V240, V241, V242, V243, V244, V245, V246, V247, V248, V249, V250, V251, V252, V253, V254, V255, V256, V257, V258, V259, V260, V261, V262, V263, V264, V265, V266, V267, V268, V269, V270, V271, V272, V273, V274, V275, V276, V277, V278, V279, V280, V281, V282, V283, V284, V285, V286, V287, V288, V289, V290, V291, V292, V293, V294, V295, V296, V297, V298, V299, V300, V301, V302, V303, V304, V305, V306, V307, V308, V309, V310, V311, V312, V313, V314, V315, V316, V317, V318, V319, V320, V321, V322, V323, V324, V325, V326, V327, V328, V329, V330, V331], []⟩ → C ⟨#[V0, V1, V2, V3, V4, V5, V6, V7, V8, V9, V10, V11, V12, V13, V14, V15, V16, V17, V18, V19, V20, V21, V22, V23, V24, V25, V26, V27, V28, V29, V30, V31, V32, V33, V34, V35, V36, V37, V38, V39, V40, V41, V42, V43, V44, V45, V46, V47, V48, V49, V50, V51, V52, V53, V54, V55, V56, V57, V58, V59, V60, V61, V62, V63, V64, V65, V66, V67, V68, V69, V70, V71, V72, V73, V74, V75, V76, V77, V78, V79, V80, V81, V82, V83, V84, V85, V86, V87, V88, V89, V90, V91, V92, V93, V94, V95, V96, V97, V98, V99, V100, V101, V102, V103, V104, V105, V106, V107, V108, V109, V110, V111, V112, V113, V114, V115, V116, V117, V118, V119, V120, V121, V122, V123, V124, V125, V126, V127, V128, V129, V130, V131, V132, V133, V134, V135, V136, V137, V138, V139, V140, V141, V142, V143, V144, V145, V146, V147, V148, V149, V150, V151, V152, V153, V154, V155, V156, V157, V158, V159, V160, V161, V162, V163, V164, V165, V166, V167, V168, V169, V170, V171, V172, V173, V174, V175, V176, V177, V178, V179, V180, V181, V182, V183, V184, V185, V186, V187, V188, V189, V190, V191, V192, V193, V194, V195, V196, V197, V198, V199, V200, V201, V202, V203, V204, V205, V206, V207, V208, V209, V210, V211, V212, V213, V214, V215, V216, V217, V218, V219, V220, V221, V222, V223, V224, V225, V226, V227, V228, V229, V230, V231, V232, V233, V234, V235, V236, V237, V238, V239, V240, V241, V242, V243, V244, V245, V246, V247, V248, V249, V250, V251, V252, V253, V254, V255, V256, V257, V258, V259, V260, V261, V262, V263, V264, V265, V266, V267, V268, V269, V270, V271, V272, V273, V274, V275, V276, V277, V278, V279, V280, V281, V282, V283, V284, V285, V286, V287, V288, V289, V290, V291, V292, V293, V294, V295, V296, V297, V298, V299, V300, V301, V302, V303, V304, V305, V306, V307, V308, V309, V310, V311, V312, V313, V314, V315, V316, V317, V318, V319, V320, V321, V322, V323, V324, V325, V326, V327, V328, V329, V330, V331], []⟩) : C a := by
  obtain ⟨⟨l⟩, d⟩ := a
  obtain ⟨h1, h2, h3⟩ := h
  dsimp only at h2
  subst h2
  exact frames (p := fun l => Fr xs ⟨⟨l⟩, []⟩ → C ⟨⟨l⟩, []⟩) k l h1 ⟨h1, rfl, h3⟩
theorem FrL.get {t : Array Value} : ∀ {l : List (Nat × Value)}, FrL t l → ∀ p ∈ l, t.getD p.1 undef = p.2
  | _ :: _, h, p, hp => by
    cases hp with
    | head => exact h.1
    | tail _ hp => exact FrL.get h.2 p hp
/-- a loop whose round number i is known of: m rounds at most -/
theorem wp_loop_n {P : Program} {c : Code} {Q : Exit → Act → World → Prop} {a : Act} {w : World} {k m : Nat} (I : Nat → Act → World → Prop) (hc : ∀ q a w, I q a w → q ≤ m ∧ a.tmps.getD k undef = .int .i64 q) (h0 : I 0 a w)
    (round : ∀ q a w K, q ≤ m → I q a w → (∀ a' w', q < m → I (q + 1) a' w' → K a' w') → c.wp P (Exit.then K Q) a w) : (Code.loop c).wp P Q a w := by
  refine wp_loop (fun a w => ∃ q, I q a w) (fun a _ => m - (intOf (a.tmps.getD k undef)).toNat) ⟨0, h0⟩ ?_
  rintro a w ⟨q, hI⟩
  obtain ⟨hq, hk⟩ := hc q a w hI
  refine round q a w _ hq hI (fun a' w' hlt hI' => ⟨⟨q + 1, hI'⟩, ?_⟩)
  obtain ⟨hq', hk'⟩ := hc _ _ _ hI'
  rw [hk, hk']
  show m - (((q + 1 : Nat) : Int)).toNat < m - ((q : Nat) : Int).toNat
  omega
theorem d_seq (f : Func) (n : Nat) (h : (match dRest f n with | .seq _ _ => true | _ => false) = true) : dRest f n = .seq (dCode f n) (dRest f (n + 1)) := by
  have hb : ∀ n c, behind (n + 1) c = behind 1 (behind n c) := by
    intro n
    induction n with
    | zero => intro c; rfl
    | succ n ih =>
      intro c
      cases c with
      | seq a b => exact ih b
      | _ => rfl
  unfold dCode
  unfold dRest at h ⊢
  rw [hb n]
  generalize behind n (codeOf f) = c at h ⊢
  cases c with
  | seq a b => rfl
  | _ => cases h

end Go.Proofs.Ytbliedldlimpgaa
