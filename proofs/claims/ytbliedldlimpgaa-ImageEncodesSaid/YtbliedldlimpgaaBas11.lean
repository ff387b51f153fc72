/- Lemmas that the claim is proved from: what calls of functions of the program come to (contracts), and plain laws. Each lemma bears its own conditions. -/
import Derived.Test.YtbliedldlimpgaaBas10
import Derived.Test.YtbliedldlimpgaaBas7
import Derived.Test.YtbliedldlimpgaaBas9

namespace Go.Proofs.Ytbliedldlimpgaa
set_option linter.unusedVariables false
set_option linter.unusedSimpArgs false
open Go.RowKit

/-- may a relocation be, but for the size of what it adds? -/
def relocR (im : ImgL) (r : RelL) : Bool :=
  if r.kind = 1 then decide (r.sym = -1) && decide (0 ≤ r.add) && decide (r.add ≤ 65536) && holdsB im.segs r.at_ 8 0
  else match symAt im r.sym with
    | none => false
    | some s =>
      (if r.kind = 0 ∨ r.kind = 6 then decide (s.kind ≠ 3) && holdsB im.segs r.at_ 8 0
       else if r.kind = 7 then decide (r.add = 0) && holdsB im.segs r.at_ 8 0
       else if r.kind = 3 then decide (s.kind = 3) && decide (r.add = 0) && holdsB im.segs r.at_ 8 0
       else if r.kind = 4 ∨ r.kind = 5 then decide (s.kind = 3) && holdsB im.segs r.at_ 8 0
       else if r.kind = 2 then decide (s.kind = 2) && s.defined && decide (1 ≤ s.size) && decide (s.value = r.at_) && decide (im.flags % 2 = 1) && decide (r.add = 0) && holdsB im.segs r.at_ s.size 2
       else false)
theorem relocB_R (im : ImgL) (r : RelL) : relocB im r = ((decide (-4294967296 ≤ r.add) && decide (r.add ≤ 4294967296)) && relocR im r) := by
  unfold relocB relocR
  by_cases h1 : r.kind = 1
  · rw [if_pos h1, if_pos h1, Bool.eq_iff_iff]
    simp only [Bool.and_eq_true, decide_eq_true_eq]
    constructor
    · intro h; exact ⟨by omega, h⟩
    · intro h; exact h.2
  · rw [if_neg h1, if_neg h1]
    cases symAt im r.sym <;> simp
theorem relocR_none {im : ImgL} {r : RelL} (h1 : r.kind ≠ 1) (h : symAt im r.sym = none) : relocR im r = false := by rw [relocR, if_neg h1, h]
theorem flags_bit (f : Int) (h0 : 0 ≤ f) (h1 : f < 16) : (bits BinOp.and .i64 f 1 != 0) = decide (f % 2 = 1) := by
  obtain ⟨n, rfl⟩ : ∃ n : Nat, f = n := ⟨f.toNat, by omega⟩
  have h : ∀ m : Nat, m < 16 → (bits BinOp.and .i64 (m : Int) 1 != 0) = decide ((m : Int) % 2 = 1) := by decide +kernel
  exact h n (by omega)
set_option maxHeartbeats 16000000 in
set_option maxRecDepth 100000 in
theorem ireloc_any (w : World) (v : ImgV) (im : ImgL) (r : RelL) (hs : LB kSeg (· < w.heap.size) w v.segs im.segs) (hok : ∀ s ∈ im.segs, SegOk s) (hy : LB kSym (· < w.heap.size) w v.syms im.syms) (hfl : 0 ≤ im.flags ∧ im.flags < 16)
    (hrs : -9223372036854775808 ≤ r.sym ∧ r.sym ≤ 9223372036854775807) (hra : -9223372036854775808 ≤ r.at_ ∧ r.at_ ≤ 9223372036854775807) (hsz : ∀ s ∈ im.syms, s.size ≤ 9223372036854775807) :
    Calls Try.prog 67 #[.agg (imgCells v im), .agg #[.int .i64 r.at_, .int .i64 r.kind, .int .i64 r.sym, .int .i64 r.add]] w fun e w' => e = .returned (.bool (relocR im r)) ∧ Below w.heap.size w w' := by
  obtain ⟨vsegs, vneeded, vrunPath, vsyms, vbuckets, vwords, vrelocs, vslots, vinit, vfini, vtls⟩ := v
  have HH : Hid (∀ (w' : World) (x n p : Int), Below w.heap.size w w' → (-9223372036854775808 ≤ x ∧ x ≤ 9223372036854775807) → (0 ≤ n ∧ n ≤ 9223372036854775807) → p = 0 ∨ p = 2 ∨ p = 4 →
    Calls Try.prog 59 #[.agg (imgCells ⟨vsegs, vneeded, vrunPath, vsyms, vbuckets, vwords, vrelocs, vslots, vinit, vfini, vtls⟩ im), .agg #[.int .i64 x, .int .i64 n, .int .i64 p]] w' fun e w'' => e = .returned (.bool (holdsB im.segs x n p)) ∧ Below w'.heap.size w' w'') := Lib.hid (fun w' x n p hb hx hn hp => holds_any w' _ im x n p ((hs.below hb).mono hb.size) hok hx hn hp)
  have HS : Hid (∀ (w' : World), Below w.heap.size w w' → Calls Try.prog 69 #[.agg (imgCells ⟨vsegs, vneeded, vrunPath, vsyms, vbuckets, vwords, vrelocs, vslots, vinit, vfini, vtls⟩ im), .int .i64 r.sym] w' fun e w'' => e = .returned (symV im r.sym) ∧ Below w'.heap.size w' w'') := Lib.hid (fun w' hb => isym_any w' _ im r.sym ((hy.below hb).mono hb.size) hrs)
  unfold imgCells at *
  have Hfl := Lib.hid (flags_bit im.flags hfl.1 hfl.2)
  have Hsz := Lib.hid hsz
  clear hs hok hy hfl hsz
  generalize hI : (Array.mk [.string ⟨im.name.toArray⟩, .int .i64 im.flags, vsegs, vneeded, vrunPath, vsyms, vbuckets, vwords, .int .i64 im.shift, vrelocs, vslots, vinit, vfini, vtls, .int .i64 im.tlsSize] : Array Value) = I at HH HS
  have F0 := Lib.hid (heap_alloc_new w (.cells I 38 (0, 0)))
  have B1 := Lib.hid (((Below.refl w.heap.size w).alloc (Nat.le_refl _) (.cells I 38 (0, 0))).alloc (by simp) (.cells #[.int .i64 r.at_, .int .i64 r.kind, .int .i64 r.sym, .int .i64 r.add] 57 (0, 0)))
  have G0 := Lib.hid (heap_alloc_new (w.alloc (.cells I 38 (0, 0))) (.cells #[.int .i64 r.at_, .int .i64 r.kind, .int .i64 r.sym, .int .i64 r.add] 57 (0, 0)))
  have F1 := Lib.hid ((heap_alloc_old (w.alloc (.cells I 38 (0, 0))) (.cells #[.int .i64 r.at_, .int .i64 r.kind, .int .i64 r.sym, .int .i64 r.add] 57 (0, 0)) (by simp)).trans F0.out)
  have hz1 : ((w.alloc (.cells I 38 (0, 0))).alloc (.cells #[.int .i64 r.at_, .int .i64 r.kind, .int .i64 r.sym, .int .i64 r.add] 57 (0, 0))).heap.size = w.heap.size + 2 := by simp
  rw [World.size_alloc] at G0
  subst hI
  go_enter Try.func67, Try.ntmps67
  go_wp2_with fail
  generalize (w.alloc (.cells #[.string ⟨im.name.toArray⟩, .int .i64 im.flags, vsegs, vneeded, vrunPath, vsyms, vbuckets, vwords, .int .i64 im.shift, vrelocs, vslots, vinit, vfini, vtls, .int .i64 im.tlsSize] 38 (0, 0))).alloc (.cells #[.int .i64 r.at_, .int .i64 r.kind, .int .i64 r.sym, .int .i64 r.add] 57 (0, 0)) = w1 at *
  refine (HS.out w1 B1.out).mono ?_
  rintro e w2 ⟨rfl, hb2⟩
  have hz2 := hb2.size
  have G2 := Lib.hid ((hb2.block (w.heap.size + 1) (by omega)).trans G0.out)
  have F2 := Lib.hid ((hb2.block w.heap.size (by omega)).trans F1.out)
  have B2 := Lib.hid (B1.out.trans (hb2.mono (by omega)))
  clear hb2 F0 G0 F1 B1 HS
  cases hsa : symAt im r.sym with
  | none =>
    have hv : symV im r.sym = .tuple #[.agg #[.string ⟨#[]⟩, .string ⟨#[]⟩, .bool false, .int .i64 0, .bool false, .int .i64 0, .bool false, .int .i64 0, .int .i64 0], .bool false] := by rw [symV, symD, hsa]; rfl
    rw [hv]
    have Hsa := Lib.hid hsa
    clear hv hsa
    have G3 := (heap_alloc_old w2 (.cells #[.string ⟨#[]⟩, .string ⟨#[]⟩, .bool false, .int .i64 0, .bool false, .int .i64 0, .bool false, .int .i64 0, .int .i64 0] 54 (0, 0)) (r := w.heap.size + 1) (by omega)).trans G2.out
    have F3 := (heap_alloc_old w2 (.cells #[.string ⟨#[]⟩, .string ⟨#[]⟩, .bool false, .int .i64 0, .bool false, .int .i64 0, .bool false, .int .i64 0, .int .i64 0] 54 (0, 0)) (r := w.heap.size) (by omega)).trans F2.out
    have B3 := Lib.hid (B2.out.alloc (by omega) (.cells #[.string ⟨#[]⟩, .string ⟨#[]⟩, .bool false, .int .i64 0, .bool false, .int .i64 0, .bool false, .int .i64 0, .int .i64 0] 54 (0, 0)))
    have t1 : w2.cell? ⟨w.heap.size + 1, 1, none⟩ = some (.int .i64 r.kind) := by rw [Lib.cell_of_heap G2.out]; rfl
    have hzt : w.heap.size + 1 < w2.heap.size := by omega
    go_upto_block 0 with fail
    have hz3 : (w2.alloc (.cells #[.string ⟨#[]⟩, .string ⟨#[]⟩, .bool false, .int .i64 0, .bool false, .int .i64 0, .bool false, .int .i64 0, .int .i64 0] 54 (0, 0))).heap.size = w2.heap.size + 1 := by simp
    generalize w2.alloc (.cells #[.string ⟨#[]⟩, .string ⟨#[]⟩, .bool false, .int .i64 0, .bool false, .int .i64 0, .bool false, .int .i64 0, .int .i64 0] 54 (0, 0)) = w3 at *
    have r0 : w3.cell? ⟨w.heap.size + 1, 0, none⟩ = some (.int .i64 r.at_) := by rw [Lib.cell_of_heap G3]; rfl
    have r1 : w3.cell? ⟨w.heap.size + 1, 1, none⟩ = some (.int .i64 r.kind) := by rw [Lib.cell_of_heap G3]; rfl
    have r2 : w3.cell? ⟨w.heap.size + 1, 2, none⟩ = some (.int .i64 r.sym) := by rw [Lib.cell_of_heap G3]; rfl
    have r3 : w3.cell? ⟨w.heap.size + 1, 3, none⟩ = some (.int .i64 r.add) := by rw [Lib.cell_of_heap G3]; rfl
    obtain ⟨i0, i1, i2, i3, i4, i5, i6, i7, i8, i9, i10, i11, i12, i13, i14⟩ := img_cells F3
    clear F3 G3 F2 G2 B2
    by_cases k1 : r.kind = 1
    case neg =>
      have b1 : (r.kind == 1) = false := by rw [beq_eq_false_iff_ne]; exact k1
      have Hr := Lib.hid (relocR_none (im := im) k1 Hsa.out)
      go_wp2
      all_goals go_ret
      all_goals exact ⟨by rw [Hr.out]; rfl, B3.out⟩
    case pos =>
      have b1 : (r.kind == 1) = true := by rw [beq_iff_eq]; exact k1
      have HR : Hid (relocR im r = (decide (r.sym = -1) && decide (0 ≤ r.add) && decide (r.add ≤ 65536) && holdsB im.segs r.at_ 8 0)) := Lib.hid (by rw [relocR, if_pos k1])
      by_cases p0 : r.sym = -1
      case neg =>
        have q0 : (r.sym == -1) = false := by rw [beq_eq_false_iff_ne]; assumption
        have Hr : Hid (relocR im r = false) := Lib.hid (by rw [HR.out, decide_eq_false (p := r.sym = -1) p0]; simp)
        go_wp2
        go_ret
        exact ⟨by rw [Hr.out]; rfl, B3.out⟩
      have q0 : (r.sym == -1) = true := by rw [beq_iff_eq]; assumption
      by_cases p1 : 0 ≤ r.add
      case neg =>
        have q1 : decide (0 ≤ r.add) = false := by rw [decide_eq_false_iff_not]; assumption
        have Hr : Hid (relocR im r = false) := Lib.hid (by rw [HR.out, decide_eq_false (p := 0 ≤ r.add) p1]; simp)
        go_wp2
        go_ret
        exact ⟨by rw [Hr.out]; rfl, B3.out⟩
      have q1 : decide (0 ≤ r.add) = true := by rw [decide_eq_true_eq]; assumption
      by_cases p2 : r.add ≤ 65536
      case neg =>
        have q2 : decide (r.add ≤ 65536) = false := by rw [decide_eq_false_iff_not]; assumption
        have Hr : Hid (relocR im r = false) := Lib.hid (by rw [HR.out, decide_eq_false (p := r.add ≤ 65536) p2]; simp)
        go_wp2
        go_ret
        exact ⟨by rw [Hr.out]; rfl, B3.out⟩
      have q2 : decide (r.add ≤ 65536) = true := by rw [decide_eq_true_eq]; assumption
      have Hr : Hid (relocR im r = holdsB im.segs r.at_ 8 0) := Lib.hid (by rw [HR.out, decide_eq_true (p := r.sym = -1) p0, decide_eq_true (p := 0 ≤ r.add) p1, decide_eq_true (p := r.add ≤ 65536) p2]; simp)
      have Hh := Lib.hid (HH.out w3 r.at_ 8 0 B3.out hra (by decide) (by decide))
      go_wp2_with fail
      refine Hh.out.mono ?_
      rintro e w4 ⟨rfl, hb4⟩
      have B4 := Lib.hid (B3.out.trans (hb4.mono (by omega)))
      clear hb4 i0 i1 i2 i3 i4 i5 i6 i7 i8 i9 i10 i11 i12 i13 i14 r0 r1 r2 r3
      go_wp2
      go_ret
      exact ⟨by rw [Hr.out]; rfl, B4.out⟩
  | some s =>
    have hv : symV im r.sym = .tuple #[.agg #[.string ⟨s.name.toArray⟩, .string ⟨s.version.toArray⟩, .bool s.old, .int .i64 s.kind, .bool s.weak, .int .i64 s.vis, .bool s.defined, .int .i64 s.value, .int .i64 s.size], .bool true] := by rw [symV, symD, hsa]; rfl
    rw [hv]
    have Hsa := Lib.hid hsa
    have hsz := Hsz.out s (symAt_range hsa).2.2
    clear hv hsa
    have S3 := heap_alloc_new w2 (.cells #[.string ⟨s.name.toArray⟩, .string ⟨s.version.toArray⟩, .bool s.old, .int .i64 s.kind, .bool s.weak, .int .i64 s.vis, .bool s.defined, .int .i64 s.value, .int .i64 s.size] 54 (0, 0))
    have G3 := (heap_alloc_old w2 (.cells #[.string ⟨s.name.toArray⟩, .string ⟨s.version.toArray⟩, .bool s.old, .int .i64 s.kind, .bool s.weak, .int .i64 s.vis, .bool s.defined, .int .i64 s.value, .int .i64 s.size] 54 (0, 0)) (r := w.heap.size + 1) (by omega)).trans G2.out
    have F3 := (heap_alloc_old w2 (.cells #[.string ⟨s.name.toArray⟩, .string ⟨s.version.toArray⟩, .bool s.old, .int .i64 s.kind, .bool s.weak, .int .i64 s.vis, .bool s.defined, .int .i64 s.value, .int .i64 s.size] 54 (0, 0)) (r := w.heap.size) (by omega)).trans F2.out
    have B3 := Lib.hid (B2.out.alloc (by omega) (.cells #[.string ⟨s.name.toArray⟩, .string ⟨s.version.toArray⟩, .bool s.old, .int .i64 s.kind, .bool s.weak, .int .i64 s.vis, .bool s.defined, .int .i64 s.value, .int .i64 s.size] 54 (0, 0)))
    have t1 : w2.cell? ⟨w.heap.size + 1, 1, none⟩ = some (.int .i64 r.kind) := by rw [Lib.cell_of_heap G2.out]; rfl
    have hzt : w.heap.size + 1 < w2.heap.size := by omega
    go_upto_block 0 with fail
    have hz3 : (w2.alloc (.cells #[.string ⟨s.name.toArray⟩, .string ⟨s.version.toArray⟩, .bool s.old, .int .i64 s.kind, .bool s.weak, .int .i64 s.vis, .bool s.defined, .int .i64 s.value, .int .i64 s.size] 54 (0, 0))).heap.size = w2.heap.size + 1 := by simp
    generalize w2.alloc (.cells #[.string ⟨s.name.toArray⟩, .string ⟨s.version.toArray⟩, .bool s.old, .int .i64 s.kind, .bool s.weak, .int .i64 s.vis, .bool s.defined, .int .i64 s.value, .int .i64 s.size] 54 (0, 0)) = w3 at *
    have r0 : w3.cell? ⟨w.heap.size + 1, 0, none⟩ = some (.int .i64 r.at_) := by rw [Lib.cell_of_heap G3]; rfl
    have r1 : w3.cell? ⟨w.heap.size + 1, 1, none⟩ = some (.int .i64 r.kind) := by rw [Lib.cell_of_heap G3]; rfl
    have r2 : w3.cell? ⟨w.heap.size + 1, 2, none⟩ = some (.int .i64 r.sym) := by rw [Lib.cell_of_heap G3]; rfl
    have r3 : w3.cell? ⟨w.heap.size + 1, 3, none⟩ = some (.int .i64 r.add) := by rw [Lib.cell_of_heap G3]; rfl
    obtain ⟨i0, i1, i2, i3, i4, i5, i6, i7, i8, i9, i10, i11, i12, i13, i14⟩ := img_cells F3
    obtain ⟨c0, c1, c2, c3, c4, c5, c6, c7, c8⟩ := sym_cells S3
    clear F3 G3 F2 G2 B2 S3
    by_cases k1 : r.kind = 1
    case pos =>
      have b1 : (r.kind == 1) = true := by rw [beq_iff_eq]; exact k1
      have HR : Hid (relocR im r = (decide (r.sym = -1) && decide (0 ≤ r.add) && decide (r.add ≤ 65536) && holdsB im.segs r.at_ 8 0)) := Lib.hid (by rw [relocR, if_pos k1])
      by_cases p0 : r.sym = -1
      case neg =>
        have q0 : (r.sym == -1) = false := by rw [beq_eq_false_iff_ne]; assumption
        have Hr : Hid (relocR im r = false) := Lib.hid (by rw [HR.out, decide_eq_false (p := r.sym = -1) p0]; simp)
        go_wp2
        go_ret
        exact ⟨by rw [Hr.out]; rfl, B3.out⟩
      have q0 : (r.sym == -1) = true := by rw [beq_iff_eq]; assumption
      by_cases p1 : 0 ≤ r.add
      case neg =>
        have q1 : decide (0 ≤ r.add) = false := by rw [decide_eq_false_iff_not]; assumption
        have Hr : Hid (relocR im r = false) := Lib.hid (by rw [HR.out, decide_eq_false (p := 0 ≤ r.add) p1]; simp)
        go_wp2
        go_ret
        exact ⟨by rw [Hr.out]; rfl, B3.out⟩
      have q1 : decide (0 ≤ r.add) = true := by rw [decide_eq_true_eq]; assumption
      by_cases p2 : r.add ≤ 65536
      case neg =>
        have q2 : decide (r.add ≤ 65536) = false := by rw [decide_eq_false_iff_not]; assumption
        have Hr : Hid (relocR im r = false) := Lib.hid (by rw [HR.out, decide_eq_false (p := r.add ≤ 65536) p2]; simp)
        go_wp2
        go_ret
        exact ⟨by rw [Hr.out]; rfl, B3.out⟩
      have q2 : decide (r.add ≤ 65536) = true := by rw [decide_eq_true_eq]; assumption
      have Hr : Hid (relocR im r = holdsB im.segs r.at_ 8 0) := Lib.hid (by rw [HR.out, decide_eq_true (p := r.sym = -1) p0, decide_eq_true (p := 0 ≤ r.add) p1, decide_eq_true (p := r.add ≤ 65536) p2]; simp)
      have Hh := Lib.hid (HH.out w3 r.at_ 8 0 B3.out hra (by decide) (by decide))
      go_wp2_with fail
      refine Hh.out.mono ?_
      rintro e w4 ⟨rfl, hb4⟩
      have B4 := Lib.hid (B3.out.trans (hb4.mono (by omega)))
      clear hb4 i0 i1 i2 i3 i4 i5 i6 i7 i8 i9 i10 i11 i12 i13 i14 r0 r1 r2 r3
      go_wp2
      go_ret
      exact ⟨by rw [Hr.out]; rfl, B4.out⟩
    have b1 : (r.kind == 1) = false := by rw [beq_eq_false_iff_ne]; exact k1
    by_cases k0 : r.kind = 0
    case pos =>
      have b0 : (r.kind == 0) = true := by rw [beq_iff_eq]; exact k0
      have HR : Hid (relocR im r = (decide (s.kind ≠ 3) && holdsB im.segs r.at_ 8 0)) := Lib.hid (by rw [relocR, if_neg k1, Hsa.out]; simp only []; rw [if_pos (Or.inl k0)])
      by_cases p0 : s.kind ≠ 3
      case neg =>
        have q0 : (s.kind == 3) = true := by rw [beq_iff_eq]; exact Decidable.byContradiction p0
        have Hr : Hid (relocR im r = false) := Lib.hid (by rw [HR.out, decide_eq_false (p := s.kind ≠ 3) p0]; simp)
        go_wp2
        go_ret
        exact ⟨by rw [Hr.out]; rfl, B3.out⟩
      have q0 : (s.kind == 3) = false := by rw [beq_eq_false_iff_ne]; assumption
      have Hr : Hid (relocR im r = holdsB im.segs r.at_ 8 0) := Lib.hid (by rw [HR.out, decide_eq_true (p := s.kind ≠ 3) p0]; simp)
      have Hh := Lib.hid (HH.out w3 r.at_ 8 0 B3.out hra (by decide) (by decide))
      go_wp2_with fail
      refine Hh.out.mono ?_
      rintro e w4 ⟨rfl, hb4⟩
      have B4 := Lib.hid (B3.out.trans (hb4.mono (by omega)))
      clear hb4 i0 i1 i2 i3 i4 i5 i6 i7 i8 i9 i10 i11 i12 i13 i14 r0 r1 r2 r3
      go_wp2
      go_ret
      exact ⟨by rw [Hr.out]; rfl, B4.out⟩
    have b0 : (r.kind == 0) = false := by rw [beq_eq_false_iff_ne]; exact k0
    by_cases k6 : r.kind = 6
    case pos =>
      have b6 : (r.kind == 6) = true := by rw [beq_iff_eq]; exact k6
      have HR : Hid (relocR im r = (decide (s.kind ≠ 3) && holdsB im.segs r.at_ 8 0)) := Lib.hid (by rw [relocR, if_neg k1, Hsa.out]; simp only []; rw [if_pos (Or.inr k6)])
      by_cases p0 : s.kind ≠ 3
      case neg =>
        have q0 : (s.kind == 3) = true := by rw [beq_iff_eq]; exact Decidable.byContradiction p0
        have Hr : Hid (relocR im r = false) := Lib.hid (by rw [HR.out, decide_eq_false (p := s.kind ≠ 3) p0]; simp)
        go_wp2
        go_ret
        exact ⟨by rw [Hr.out]; rfl, B3.out⟩
      have q0 : (s.kind == 3) = false := by rw [beq_eq_false_iff_ne]; assumption
      have Hr : Hid (relocR im r = holdsB im.segs r.at_ 8 0) := Lib.hid (by rw [HR.out, decide_eq_true (p := s.kind ≠ 3) p0]; simp)
      have Hh := Lib.hid (HH.out w3 r.at_ 8 0 B3.out hra (by decide) (by decide))
      go_wp2_with fail
      refine Hh.out.mono ?_
      rintro e w4 ⟨rfl, hb4⟩
      have B4 := Lib.hid (B3.out.trans (hb4.mono (by omega)))
      clear hb4 i0 i1 i2 i3 i4 i5 i6 i7 i8 i9 i10 i11 i12 i13 i14 r0 r1 r2 r3
      go_wp2
      go_ret
      exact ⟨by rw [Hr.out]; rfl, B4.out⟩
    have b6 : (r.kind == 6) = false := by rw [beq_eq_false_iff_ne]; exact k6
    by_cases k7 : r.kind = 7
    case pos =>
      have b7 : (r.kind == 7) = true := by rw [beq_iff_eq]; exact k7
      have HR : Hid (relocR im r = (decide (r.add = 0) && holdsB im.segs r.at_ 8 0)) := Lib.hid (by rw [relocR, if_neg k1, Hsa.out]; simp only []; rw [if_neg (by omega), if_pos k7])
      by_cases p0 : r.add = 0
      case neg =>
        have q0 : (r.add == 0) = false := by rw [beq_eq_false_iff_ne]; assumption
        have Hr : Hid (relocR im r = false) := Lib.hid (by rw [HR.out, decide_eq_false (p := r.add = 0) p0]; simp)
        go_wp2
        go_ret
        exact ⟨by rw [Hr.out]; rfl, B3.out⟩
      have q0 : (r.add == 0) = true := by rw [beq_iff_eq]; assumption
      have Hr : Hid (relocR im r = holdsB im.segs r.at_ 8 0) := Lib.hid (by rw [HR.out, decide_eq_true (p := r.add = 0) p0]; simp)
      have Hh := Lib.hid (HH.out w3 r.at_ 8 0 B3.out hra (by decide) (by decide))
      go_wp2_with fail
      refine Hh.out.mono ?_
      rintro e w4 ⟨rfl, hb4⟩
      have B4 := Lib.hid (B3.out.trans (hb4.mono (by omega)))
      clear hb4 i0 i1 i2 i3 i4 i5 i6 i7 i8 i9 i10 i11 i12 i13 i14 r0 r1 r2 r3
      go_wp2
      go_ret
      exact ⟨by rw [Hr.out]; rfl, B4.out⟩
    have b7 : (r.kind == 7) = false := by rw [beq_eq_false_iff_ne]; exact k7
    by_cases k3 : r.kind = 3
    case pos =>
      have b3 : (r.kind == 3) = true := by rw [beq_iff_eq]; exact k3
      have HR : Hid (relocR im r = (decide (s.kind = 3) && decide (r.add = 0) && holdsB im.segs r.at_ 8 0)) := Lib.hid (by rw [relocR, if_neg k1, Hsa.out]; simp only []; rw [if_neg (by omega), if_neg (by omega), if_pos k3])
      by_cases p0 : s.kind = 3
      case neg =>
        have q0 : (s.kind == 3) = false := by rw [beq_eq_false_iff_ne]; assumption
        have Hr : Hid (relocR im r = false) := Lib.hid (by rw [HR.out, decide_eq_false (p := s.kind = 3) p0]; simp)
        go_wp2
        go_ret
        exact ⟨by rw [Hr.out]; rfl, B3.out⟩
      have q0 : (s.kind == 3) = true := by rw [beq_iff_eq]; assumption
      by_cases p1 : r.add = 0
      case neg =>
        have q1 : (r.add == 0) = false := by rw [beq_eq_false_iff_ne]; assumption
        have Hr : Hid (relocR im r = false) := Lib.hid (by rw [HR.out, decide_eq_false (p := r.add = 0) p1]; simp)
        go_wp2
        go_ret
        exact ⟨by rw [Hr.out]; rfl, B3.out⟩
      have q1 : (r.add == 0) = true := by rw [beq_iff_eq]; assumption
      have Hr : Hid (relocR im r = holdsB im.segs r.at_ 8 0) := Lib.hid (by rw [HR.out, decide_eq_true (p := s.kind = 3) p0, decide_eq_true (p := r.add = 0) p1]; simp)
      have Hh := Lib.hid (HH.out w3 r.at_ 8 0 B3.out hra (by decide) (by decide))
      go_wp2_with fail
      refine Hh.out.mono ?_
      rintro e w4 ⟨rfl, hb4⟩
      have B4 := Lib.hid (B3.out.trans (hb4.mono (by omega)))
      clear hb4 i0 i1 i2 i3 i4 i5 i6 i7 i8 i9 i10 i11 i12 i13 i14 r0 r1 r2 r3
      go_wp2
      go_ret
      exact ⟨by rw [Hr.out]; rfl, B4.out⟩
    have b3 : (r.kind == 3) = false := by rw [beq_eq_false_iff_ne]; exact k3
    by_cases k4 : r.kind = 4
    case pos =>
      have b4 : (r.kind == 4) = true := by rw [beq_iff_eq]; exact k4
      have HR : Hid (relocR im r = (decide (s.kind = 3) && holdsB im.segs r.at_ 8 0)) := Lib.hid (by rw [relocR, if_neg k1, Hsa.out]; simp only []; rw [if_neg (by omega), if_neg (by omega), if_neg (by omega), if_pos (Or.inl k4)])
      by_cases p0 : s.kind = 3
      case neg =>
        have q0 : (s.kind == 3) = false := by rw [beq_eq_false_iff_ne]; assumption
        have Hr : Hid (relocR im r = false) := Lib.hid (by rw [HR.out, decide_eq_false (p := s.kind = 3) p0]; simp)
        go_wp2
        go_ret
        exact ⟨by rw [Hr.out]; rfl, B3.out⟩
      have q0 : (s.kind == 3) = true := by rw [beq_iff_eq]; assumption
      have Hr : Hid (relocR im r = holdsB im.segs r.at_ 8 0) := Lib.hid (by rw [HR.out, decide_eq_true (p := s.kind = 3) p0]; simp)
      have Hh := Lib.hid (HH.out w3 r.at_ 8 0 B3.out hra (by decide) (by decide))
      go_wp2_with fail
      refine Hh.out.mono ?_
      rintro e w4 ⟨rfl, hb4⟩
      have B4 := Lib.hid (B3.out.trans (hb4.mono (by omega)))
      clear hb4 i0 i1 i2 i3 i4 i5 i6 i7 i8 i9 i10 i11 i12 i13 i14 r0 r1 r2 r3
      go_wp2
      go_ret
      exact ⟨by rw [Hr.out]; rfl, B4.out⟩
    have b4 : (r.kind == 4) = false := by rw [beq_eq_false_iff_ne]; exact k4
    by_cases k5 : r.kind = 5
    case pos =>
      have b5 : (r.kind == 5) = true := by rw [beq_iff_eq]; exact k5
      have HR : Hid (relocR im r = (decide (s.kind = 3) && holdsB im.segs r.at_ 8 0)) := Lib.hid (by rw [relocR, if_neg k1, Hsa.out]; simp only []; rw [if_neg (by omega), if_neg (by omega), if_neg (by omega), if_pos (Or.inr k5)])
      by_cases p0 : s.kind = 3
      case neg =>
        have q0 : (s.kind == 3) = false := by rw [beq_eq_false_iff_ne]; assumption
        have Hr : Hid (relocR im r = false) := Lib.hid (by rw [HR.out, decide_eq_false (p := s.kind = 3) p0]; simp)
        go_wp2
        go_ret
        exact ⟨by rw [Hr.out]; rfl, B3.out⟩
      have q0 : (s.kind == 3) = true := by rw [beq_iff_eq]; assumption
      have Hr : Hid (relocR im r = holdsB im.segs r.at_ 8 0) := Lib.hid (by rw [HR.out, decide_eq_true (p := s.kind = 3) p0]; simp)
      have Hh := Lib.hid (HH.out w3 r.at_ 8 0 B3.out hra (by decide) (by decide))
      go_wp2_with fail
      refine Hh.out.mono ?_
      rintro e w4 ⟨rfl, hb4⟩
      have B4 := Lib.hid (B3.out.trans (hb4.mono (by omega)))
      clear hb4 i0 i1 i2 i3 i4 i5 i6 i7 i8 i9 i10 i11 i12 i13 i14 r0 r1 r2 r3
      go_wp2
      go_ret
      exact ⟨by rw [Hr.out]; rfl, B4.out⟩
    have b5 : (r.kind == 5) = false := by rw [beq_eq_false_iff_ne]; exact k5
    by_cases k2 : r.kind = 2
    case pos =>
      have b2 : (r.kind == 2) = true := by rw [beq_iff_eq]; exact k2
      have _bt : (s.kind == 3) = (s.kind == 3) := rfl
      have HR : Hid (relocR im r = (decide (s.kind = 2) && s.defined && decide (1 ≤ s.size) && decide (s.value = r.at_) && decide (im.flags % 2 = 1) && decide (r.add = 0) && holdsB im.segs r.at_ s.size 2)) := Lib.hid (by rw [relocR, if_neg k1, Hsa.out]; simp only []; rw [if_neg (by omega), if_neg (by omega), if_neg (by omega), if_neg (by omega), if_pos k2])
      by_cases p0 : s.kind = 2
      case neg =>
        have q0 : (s.kind == 2) = false := by rw [beq_eq_false_iff_ne]; assumption
        have Hr : Hid (relocR im r = false) := Lib.hid (by rw [HR.out, decide_eq_false (p := s.kind = 2) p0]; simp)
        go_wp2
        go_ret
        exact ⟨by rw [Hr.out]; rfl, B3.out⟩
      have q0 : (s.kind == 2) = true := by rw [beq_iff_eq]; assumption
      cases hd : s.defined with
      | false =>
        rw [hd] at c6
        have Hr : Hid (relocR im r = false) := Lib.hid (by rw [HR.out, hd]; simp)
        clear hd
        go_wp2
        go_ret
        exact ⟨by rw [Hr.out]; rfl, B3.out⟩
      | true =>
      rw [hd] at c6
      have Hd2 := Lib.hid hd
      clear hd
      by_cases p2 : 1 ≤ s.size
      case neg =>
        have q2 : decide (1 ≤ s.size) = false := by rw [decide_eq_false_iff_not]; assumption
        have Hr : Hid (relocR im r = false) := Lib.hid (by rw [HR.out, decide_eq_false (p := 1 ≤ s.size) p2]; simp)
        go_wp2
        go_ret
        exact ⟨by rw [Hr.out]; rfl, B3.out⟩
      have q2 : decide (1 ≤ s.size) = true := by rw [decide_eq_true_eq]; assumption
      by_cases p3 : s.value = r.at_
      case neg =>
        have q3 : (s.value == r.at_) = false := by rw [beq_eq_false_iff_ne]; assumption
        have Hr : Hid (relocR im r = false) := Lib.hid (by rw [HR.out, decide_eq_false (p := s.value = r.at_) p3]; simp)
        go_wp2
        go_ret
        exact ⟨by rw [Hr.out]; rfl, B3.out⟩
      have q3 : (s.value == r.at_) = true := by rw [beq_iff_eq]; assumption
      by_cases p4 : im.flags % 2 = 1
      case neg =>
        have q4 : (bits BinOp.and .i64 im.flags 1 != 0) = false := by rw [Hfl.out, decide_eq_false_iff_not]; assumption
        have Hr : Hid (relocR im r = false) := Lib.hid (by rw [HR.out, decide_eq_false (p := im.flags % 2 = 1) p4]; simp)
        go_wp2
        go_ret
        exact ⟨by rw [Hr.out]; rfl, B3.out⟩
      have q4 : (bits BinOp.and .i64 im.flags 1 != 0) = true := by rw [Hfl.out, decide_eq_true_eq]; assumption
      by_cases p5 : r.add = 0
      case neg =>
        have q5 : (r.add == 0) = false := by rw [beq_eq_false_iff_ne]; assumption
        have Hr : Hid (relocR im r = false) := Lib.hid (by rw [HR.out, decide_eq_false (p := r.add = 0) p5]; simp)
        go_wp2
        go_ret
        exact ⟨by rw [Hr.out]; rfl, B3.out⟩
      have q5 : (r.add == 0) = true := by rw [beq_iff_eq]; assumption
      have Hr : Hid (relocR im r = holdsB im.segs r.at_ s.size 2) := Lib.hid (by rw [HR.out, decide_eq_true (p := s.kind = 2) p0, Hd2.out, decide_eq_true (p := 1 ≤ s.size) p2, decide_eq_true (p := s.value = r.at_) p3, decide_eq_true (p := im.flags % 2 = 1) p4, decide_eq_true (p := r.add = 0) p5]; simp)
      have Hh := Lib.hid (HH.out w3 r.at_ s.size 2 B3.out hra ⟨by omega, hsz⟩ (by decide))
      clear Hd2
      go_wp2_with fail
      refine Hh.out.mono ?_
      rintro e w4 ⟨rfl, hb4⟩
      have B4 := Lib.hid (B3.out.trans (hb4.mono (by omega)))
      clear hb4 i0 i1 i2 i3 i4 i5 i6 i7 i8 i9 i10 i11 i12 i13 i14 r0 r1 r2 r3
      go_wp2
      go_ret
      exact ⟨by rw [Hr.out]; rfl, B4.out⟩
    have b2 : (r.kind == 2) = false := by rw [beq_eq_false_iff_ne]; exact k2
    have Hr : Hid (relocR im r = false) := Lib.hid (by rw [relocR, if_neg k1, Hsa.out]; simp only []; rw [if_neg (by omega), if_neg (by omega), if_neg (by omega), if_neg (by omega), if_neg (by omega)])
    go_wp2
    go_ret
    exact ⟨by rw [Hr.out]; rfl, B3.out⟩

end Go.Proofs.Ytbliedldlimpgaa

namespace Go.Proofs.Ytbliedldlimpgaa
set_option linter.unusedVariables false
set_option linter.unusedSimpArgs false
open Go.RowKit

/-- a relocation's numbers are Go's -/
def RelOk (r : RelL) : Prop := (-9223372036854775808 ≤ r.sym ∧ r.sym ≤ 9223372036854775807) ∧ (-9223372036854775808 ≤ r.at_ ∧ r.at_ ≤ 9223372036854775807) ∧ (-9223372036854775808 ≤ r.add ∧ r.add ≤ 9223372036854775807)
theorem segOk_of {im : ImgL} (h : segsB im.segs = true) : ∀ s ∈ im.segs, SegOk s := fun s hs => by
  have := segs_good h s hs; unfold SegOk; omega
theorem relocsFrom_low {im : ImgL} {e : Int} {r : RelL} {l : List RelL} (h : ¬ e ≤ r.at_) : relocsFrom im e (r :: l) = false := by rw [relocsFrom, decide_eq_false (p := e ≤ r.at_) h]; rfl
theorem relocsFrom_bad {im : ImgL} {e : Int} {r : RelL} {l : List RelL} (h : relocB im r = false) : relocsFrom im e (r :: l) = false := by rw [relocsFrom, h]; simp
theorem relocsFrom_ok {im : ImgL} {e : Int} {r : RelL} {l : List RelL} (h : e ≤ r.at_) (h2 : relocB im r = true) : relocsFrom im e (r :: l) = relocsFrom im (r.at_ + wideL im r) l := by rw [relocsFrom, h2, decide_eq_true (p := e ≤ r.at_) h]; rfl
abbrev relArr (r : RelL) : Array Value := #[.int .i64 r.at_, .int .i64 r.kind, .int .i64 r.sym, .int .i64 r.add]

set_option maxHeartbeats 16000000 in
set_option maxRecDepth 100000 in
theorem irelocs_any (w : World) (v : ImgV) (im : ImgL) (hs : LB kSeg (· < w.heap.size) w v.segs im.segs) (hg : segsB im.segs = true) (hy : LB kSym (· < w.heap.size) w v.syms im.syms) (hfl : 0 ≤ im.flags ∧ im.flags < 16)
    (hr : LB kRel (· < w.heap.size) w v.relocs im.relocs) (hrr : ∀ r ∈ im.relocs, RelOk r) (hsz : ∀ s ∈ im.syms, 0 ≤ s.size ∧ s.size ≤ 9223372036854775807) (hsl : im.syms.length ≤ 512) :
    Calls Try.prog 24 #[.agg (imgCells v im)] w fun e w' => e = .returned (.bool (relocsB im)) ∧ Below w.heap.size w w' := by
  obtain ⟨ra, rb, roff, rcap, hrv, hrm, hrc, hrat⟩ := hr.at
  obtain ⟨vsegs, vneeded, vrunPath, vsyms, vbuckets, vwords, vrelocs, vslots, vinit, vfini, vtls⟩ := v
  simp only at hrv
  subst hrv
  have HR : Hid (∀ (w' : World) (r : RelL), Below w.heap.size w w' → RelOk r →
    Calls Try.prog 67 #[.agg (imgCells ⟨vsegs, vneeded, vrunPath, vsyms, vbuckets, vwords, .slice ra im.relocs.length rcap, vslots, vinit, vfini, vtls⟩ im), .agg #[.int .i64 r.at_, .int .i64 r.kind, .int .i64 r.sym, .int .i64 r.add]] w' fun e w'' => e = .returned (.bool (relocR im r)) ∧ Below w'.heap.size w' w'') := Lib.hid (fun w' r hb hx => ireloc_any w' _ im r ((hs.below hb).mono hb.size) (segOk_of hg) ((hy.below hb).mono hb.size) hfl hx.1 hx.2.1 (fun s h => (hsz s h).2))
  have HW : Hid (∀ (w' : World) (r : RelL), Below w.heap.size w w' → RelOk r →
    Calls Try.prog 68 #[.agg (imgCells ⟨vsegs, vneeded, vrunPath, vsyms, vbuckets, vwords, .slice ra im.relocs.length rcap, vslots, vinit, vfini, vtls⟩ im), .agg #[.int .i64 r.at_, .int .i64 r.kind, .int .i64 r.sym, .int .i64 r.add]] w' fun e w'' => e = .returned (.int .i64 (wideL im r)) ∧ Below w'.heap.size w' w'') := Lib.hid (fun w' r hb hx => iwide_any w' _ im r ((hy.below hb).mono hb.size) hx.1)
  unfold imgCells at *
  have Hrat := Lib.hid hrat
  have Hrr := Lib.hid hrr
  have Hsz := Lib.hid hsz
  have HD : Hid (relocsB im = (decide (im.relocs.length ≤ 512) && relocsFrom im 0 im.relocs)) := Lib.hid rfl
  have Hg := Lib.hid hg
  clear hs hg hy hfl hr hrr hsz hrat
  generalize hI : (Array.mk [.string ⟨im.name.toArray⟩, .int .i64 im.flags, vsegs, vneeded, vrunPath, vsyms, vbuckets, vwords, .int .i64 im.shift, .slice ra im.relocs.length rcap, vslots, vinit, vfini, vtls, .int .i64 im.tlsSize] : Array Value) = I at HR HW
  have F0 := Lib.hid (heap_alloc_new w (.cells I 38 (0, 0)))
  have B1 := Lib.hid ((Below.refl w.heap.size w).alloc (Nat.le_refl _) (.cells I 38 (0, 0)))
  subst hI
  go_enter Try.func24, Try.ntmps24
  go_wp2_with fail
  go_loopw [3, 9] (fun e i wr => ∃ (k : Nat) (x : Int), i = .int .i64 k ∧ e = .int .i64 x ∧ 0 ≤ x ∧ x ≤ 65536 ∧ k ≤ im.relocs.length ∧ relocsFrom im 0 im.relocs = relocsFrom im x (im.relocs.drop k) ∧ Below w.heap.size w wr ∧
    wr.heap[w.heap.size]? = some (.cells #[.string ⟨im.name.toArray⟩, .int .i64 im.flags, vsegs, vneeded, vrunPath, vsyms, vbuckets, vwords, .int .i64 im.shift, .slice ra im.relocs.length rcap, vslots, vinit, vfini, vtls, .int .i64 im.tlsSize] 38 (0, 0)) ∧ w.heap.size < wr.heap.size) (fun _ i _ => im.relocs.length - (intOf i).toNat)
  case atStart => exact ⟨0, 0, rfl, rfl, by decide, by decide, Nat.zero_le _, by simp, B1.out, F0.out, by simp⟩
  case round =>
    obtain ⟨k, x, rfl, rfl, hx0, hx1, hk, hse, hbel, hF, hzq⟩ := hrel
    have Hse := Lib.hid hse
    have Hbel := Lib.hid hbel
    have HF := Lib.hid hF
    have hBr := hbel.size
    clear hse
    by_cases hlt : k < im.relocs.length
    · obtain rfl := Hrat.out.addr (by omega)
      obtain ⟨r, hx⟩ : ∃ r, im.relocs[k]? = some r := ⟨_, List.getElem?_eq_getElem hlt⟩
      obtain ⟨g0, g1, g2, g3⟩ := (Hrat.out.below hbel).rel4 k r hx
      have hro := Hrr.out r (List.mem_of_getElem? hx)
      have hro2 := hro.2
      have Hro := Lib.hid hro
      have Hdc := Lib.hid (drop_cons im.relocs k r hx)
      have hsb := World.block_lt_of_cell? _ _ g0
      have HFr := Lib.hid (heap_alloc_new wr (.cells (relArr r) 57 (0, 0)))
      have HFi := Lib.hid ((heap_alloc_old wr (.cells (relArr r) 57 (0, 0)) hzq).trans hF)
      have HBr := Lib.hid (Hbel.out.alloc hBr (.cells (relArr r) 57 (0, 0)))
      unfold relArr at *
      clear hx hbel hF HF Hbel hro
      go_upto_region 5 with fail
      have hz1 : (wr.alloc (.cells #[.int .i64 r.at_, .int .i64 r.kind, .int .i64 r.sym, .int .i64 r.add] 57 (0, 0))).heap.size = wr.heap.size + 1 := by simp
      generalize wr.alloc (.cells #[.int .i64 r.at_, .int .i64 r.kind, .int .i64 r.sym, .int .i64 r.add] 57 (0, 0)) = w1 at *
      have r0 : w1.cell? ⟨wr.heap.size, 0, none⟩ = some (.int .i64 r.at_) := by rw [Lib.cell_of_heap HFr.out]; rfl
      have r1 : w1.cell? ⟨wr.heap.size, 1, none⟩ = some (.int .i64 r.kind) := by rw [Lib.cell_of_heap HFr.out]; rfl
      have r2 : w1.cell? ⟨wr.heap.size, 2, none⟩ = some (.int .i64 r.sym) := by rw [Lib.cell_of_heap HFr.out]; rfl
      have r3 : w1.cell? ⟨wr.heap.size, 3, none⟩ = some (.int .i64 r.add) := by rw [Lib.cell_of_heap HFr.out]; rfl
      obtain ⟨i0, i1, i2, i3, i4, i5, i6, i7, i8, i9, i10, i11, i12, i13, i14⟩ := img_cells HFi.out
      clear g0 g1 g2 g3
      by_cases h1 : x ≤ r.at_
      case neg =>
        have Hn : Hid (relocsB im = false) := Lib.hid (by rw [HD.out, Hse.out, Hdc.out, relocsFrom_low h1]; simp)
        have hd : decide (r.at_ < x) = true := by rw [decide_eq_true_eq]; omega
        go_wp2
        go_ret
        exact ⟨by rw [Hn.out]; rfl, HBr.out⟩
      have hd : decide (r.at_ < x) = false := by rw [decide_eq_false_iff_not]; omega
      go_wp2_with fail
      refine (ismall_any w1 r.add).mono ?_
      rintro e w2 ⟨rfl, rfl⟩
      cases hsm : (decide (-4294967296 ≤ r.add) && decide (r.add ≤ 4294967296)) with
      | false =>
        have Hn : Hid (relocsB im = false) := Lib.hid (by rw [HD.out, Hse.out, Hdc.out, relocsFrom_bad (by rw [relocB_R, hsm]; rfl)]; simp)
        clear hsm
        go_wp2
        go_ret
        exact ⟨by rw [Hn.out]; rfl, HBr.out⟩
      | true =>
        have Hsm := Lib.hid hsm
        clear hsm
        go_wp2_with fail
        refine (HR.out w2 r HBr.out Hro.out).mono ?_
        rintro e w3 ⟨rfl, hb3⟩
        have hz3 := hb3.size
        have HB3 := Lib.hid (HBr.out.trans (hb3.mono (by omega)))
        have HF3 := Lib.hid ((hb3.block w.heap.size (by omega)).trans HFi.out)
        have HR3 := Lib.hid ((hb3.block wr.heap.size (by omega)).trans HFr.out)
        clear hb3 i0 i1 i2 i3 i4 i5 i6 i7 i8 i9 i10 i11 i12 i13 i14 r0 r1 r2 r3
        cases hrb : relocR im r with
        | false =>
          have Hn : Hid (relocsB im = false) := Lib.hid (by rw [HD.out, Hse.out, Hdc.out, relocsFrom_bad (by rw [relocB_R, hrb]; simp)]; simp)
          clear hrb
          go_wp2
          go_ret
          exact ⟨by rw [Hn.out]; rfl, HB3.out⟩
        | true =>
          have hgood : relocB im r = true := by rw [relocB_R, hrb, Hsm.out]; rfl
          have hrg := reloc_good Hg.out hsl hgood
          have Hnx : Hid (relocsFrom im 0 im.relocs = relocsFrom im (r.at_ + wideL im r) (im.relocs.drop (k + 1))) := Lib.hid (by rw [Hse.out, Hdc.out, relocsFrom_ok h1 hgood])
          have hw0 : 0 ≤ wideL im r := by
            unfold wideL
            split
            · rename_i s hs
              have := (Hsz.out s (symAt_range hs).2.2).1
              split <;> omega
            · omega
          obtain ⟨i0, i1, i2, i3, i4, i5, i6, i7, i8, i9, i10, i11, i12, i13, i14⟩ := img_cells HF3.out
          have r0 : w3.cell? ⟨wr.heap.size, 0, none⟩ = some (.int .i64 r.at_) := by rw [Lib.cell_of_heap HR3.out]; rfl
          have r1 : w3.cell? ⟨wr.heap.size, 1, none⟩ = some (.int .i64 r.kind) := by rw [Lib.cell_of_heap HR3.out]; rfl
          have r2 : w3.cell? ⟨wr.heap.size, 2, none⟩ = some (.int .i64 r.sym) := by rw [Lib.cell_of_heap HR3.out]; rfl
          have r3 : w3.cell? ⟨wr.heap.size, 3, none⟩ = some (.int .i64 r.add) := by rw [Lib.cell_of_heap HR3.out]; rfl
          have l0 := fun x : Later w3 => x.cell i0
          have l1 := fun x : Later w3 => x.cell i1
          have l2 := fun x : Later w3 => x.cell i2
          have l3 := fun x : Later w3 => x.cell i3
          have l4 := fun x : Later w3 => x.cell i4
          have l5 := fun x : Later w3 => x.cell i5
          have l6 := fun x : Later w3 => x.cell i6
          have l7 := fun x : Later w3 => x.cell i7
          have l8 := fun x : Later w3 => x.cell i8
          have l9 := fun x : Later w3 => x.cell i9
          have l10 := fun x : Later w3 => x.cell i10
          have l11 := fun x : Later w3 => x.cell i11
          have l12 := fun x : Later w3 => x.cell i12
          have l13 := fun x : Later w3 => x.cell i13
          have l14 := fun x : Later w3 => x.cell i14
          have m0 := fun x : Later w3 => x.cell r0
          have m1 := fun x : Later w3 => x.cell r1
          have m2 := fun x : Later w3 => x.cell r2
          have m3 := fun x : Later w3 => x.cell r3
          clear hrb hgood i0 i1 i2 i3 i4 i5 i6 i7 i8 i9 i10 i11 i12 i13 i14 r0 r1 r2 r3
          obtain ⟨wd, hwd⟩ : ∃ wd, wideL im r = wd := ⟨_, rfl⟩
          have HWr := Lib.hid (fun w' hb => HW.out w' r hb Hro.out)
          rw [hwd] at HWr hrg hw0 Hnx
          clear hwd
          go_wp2_with fail
          refine wp_region_later (by kernel_rfl) (by kernel_rfl) ?_
          repeat (go_big_quiet_step (first | (go_at_call 68; refine Later.call _ (HWr.out _ ?_); exact HB3.out.trans ((Later.h _).mono (by omega)))))
          refine wpQuiet_nil ?_
          rintro _ ⟨⟨wq, hq⟩, rfl⟩
          try simp only at hq
          have Hq := Lib.hid hq
          clear hq l0 l1 l2 l3 l4 l5 l6 l7 l8 l9 l10 l11 l12 l13 l14 m0 m1 m2 m3
          go_wp2
          go_roundw
          case rel =>
            have hq := Hq.out
            have := hq.size
            exact ⟨k + 1, r.at_ + wd, by go_num, rfl, by omega, by omega, by omega, Hnx.out, HB3.out.trans (hq.mono (by omega)), (hq.block w.heap.size (by omega)).trans HF3.out, by omega⟩
          case measure => simp [intOf]; omega
    · obtain ⟨i0, i1, i2, i3, i4, i5, i6, i7, i8, i9, i10, i11, i12, i13, i14⟩ := img_cells hF
      have hd : Hid (relocsB im = decide (im.relocs.length ≤ 512)) := Lib.hid (by rw [HD.out, Hse.out, List.drop_eq_nil_of_le (by omega)]; simp [relocsFrom])
      clear hbel hF i0 i1 i2 i3 i4 i5 i6 i7 i8 i10 i11 i12 i13 i14
      go_wp2
      go_ret
      exact ⟨ret_bool' (by rw [hd.out, Bool.eq_iff_iff]; simp; omega), Hbel.out⟩

end Go.Proofs.Ytbliedldlimpgaa
