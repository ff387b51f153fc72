/- Lemmas that the claim is proved from: what calls of functions of the program come to (contracts), and plain laws. Each lemma bears its own conditions. -/
import Derived.Test.YtbliedldlimpgaaCut1
import Derived.BigQuiet
import Derived.Below
import Derived.KernelRfl
import Derived.Test.YtbliedldlimpgaaChecked
import Derived.IntWalk
import Derived.Deep.QuietTactic
import Derived.StillTail
import Derived.Deep.RegionHeld3
import Derived.Deep.RegionLaw
import Derived.StillTactics
import Derived.Laws.BitsAllLaws

namespace Go.Proofs.Ytbliedldlimpgaa
set_option linter.unusedVariables false
set_option linter.unusedSimpArgs false
open Go.RowKit

/-- may a relocation be, but for the size of what it adds? -/
def relocR (im : ImgL) (r : RelL) : Bool :=
  if r.kind = 1 then decide (r.sym = -1) && decide (0 ≤ r.add) && decide (r.add ≤ 65536) && holdsB im.segs r.at_ 8 0
  else match symAt im r.sym with
    | none => false
    | some s =>
      (if r.kind = 0 ∨ r.kind = 6 then decide (s.kind ≠ 3) && holdsB im.segs r.at_ 8 0
       else if r.kind = 7 then decide (r.add = 0) && holdsB im.segs r.at_ 8 0
       else if r.kind = 3 then decide (s.kind = 3) && decide (r.add = 0) && holdsB im.segs r.at_ 8 0
       else if r.kind = 4 ∨ r.kind = 5 then decide (s.kind = 3) && holdsB im.segs r.at_ 8 0
       else if r.kind = 2 then decide (s.kind = 2) && s.defined && decide (1 ≤ s.size) && decide (s.value = r.at_) && decide (im.flags % 2 = 1) && decide (r.add = 0) && holdsB im.segs r.at_ s.size 2
       else false)
theorem relocB_R (im : ImgL) (r : RelL) : relocB im r = ((decide (-4294967296 ≤ r.add) && decide (r.add ≤ 4294967296)) && relocR im r) := by
  unfold relocB relocR
  by_cases h1 : r.kind = 1
  · rw [if_pos h1, if_pos h1, Bool.eq_iff_iff]
    simp only [Bool.and_eq_true, decide_eq_true_eq]
    constructor
    · intro h; exact ⟨by omega, h⟩
    · intro h; exact h.2
  · rw [if_neg h1, if_neg h1]
    cases symAt im r.sym <;> simp
theorem relocR_none {im : ImgL} {r : RelL} (h1 : r.kind ≠ 1) (h : symAt im r.sym = none) : relocR im r = false := by rw [relocR, if_neg h1, h]
theorem flags_bit (f : Int) (h0 : 0 ≤ f) (h1 : f < 16) : (bits BinOp.and .i64 f 1 != 0) = decide (f % 2 = 1) := by
  obtain ⟨n, rfl⟩ : ∃ n : Nat, f = n := ⟨f.toNat, by omega⟩
  have h : ∀ m : Nat, m < 16 → (bits BinOp.and .i64 (m : Int) 1 != 0) = decide ((m : Int) % 2 = 1) := by decide +kernel
  exact h n (by omega)
set_option maxHeartbeats 16000000 in
set_option maxRecDepth 100000 in
theorem ireloc_any (w : World) (v : ImgV) (im : ImgL) (r : RelL) (hs : LB kSeg (· < w.heap.size) w v.segs im.segs) (hok : ∀ s ∈ im.segs, SegOk s) (hy : LB kSym (· < w.heap.size) w v.syms im.syms) (hfl : 0 ≤ im.flags ∧ im.flags < 16)
    (hrs : -9223372036854775808 ≤ r.sym ∧ r.sym ≤ 9223372036854775807) (hra : -9223372036854775808 ≤ r.at_ ∧ r.at_ ≤ 9223372036854775807) (hsz : ∀ s ∈ im.syms, s.size ≤ 9223372036854775807) :
    Calls Try.prog 67 #[.agg (imgCells v im), .agg #[.int .i64 r.at_, .int .i64 r.kind, .int .i64 r.sym, .int .i64 r.add]] w fun e w' => e = .returned (.bool (relocR im r)) ∧ Below w.heap.size w w' := by
  obtain ⟨vsegs, vneeded, vrunPath, vsyms, vbuckets, vwords, vrelocs, vslots, vinit, vfini, vtls⟩ := v
  have HH : Hid (∀ (w' : World) (x n p : Int), Below w.heap.size w w' → (-9223372036854775808 ≤ x ∧ x ≤ 9223372036854775807) → (0 ≤ n ∧ n ≤ 9223372036854775807) → p = 0 ∨ p = 2 ∨ p = 4 →
    Calls Try.prog 59 #[.agg (imgCells ⟨vsegs, vneeded, vrunPath, vsyms, vbuckets, vwords, vrelocs, vslots, vinit, vfini, vtls⟩ im), .agg #[.int .i64 x, .int .i64 n, .int .i64 p]] w' fun e w'' => e = .returned (.bool (holdsB im.segs x n p)) ∧ Below w'.heap.size w' w'') := Lib.hid (fun w' x n p hb hx hn hp => holds_any w' _ im x n p ((hs.below hb).mono hb.size) hok hx hn hp)
  have HS : Hid (∀ (w' : World), Below w.heap.size w w' → Calls Try.prog 69 #[.agg (imgCells ⟨vsegs, vneeded, vrunPath, vsyms, vbuckets, vwords, vrelocs, vslots, vinit, vfini, vtls⟩ im), .int .i64 r.sym] w' fun e w'' => e = .returned (symV im r.sym) ∧ Below w'.heap.size w' w'') := Lib.hid (fun w' hb => isym_any w' _ im r.sym ((hy.below hb).mono hb.size) hrs)
  unfold imgCells at *
  have Hfl := Lib.hid (flags_bit im.flags hfl.1 hfl.2)
  have Hsz := Lib.hid hsz
  clear hs hok hy hfl hsz
  generalize hI : (Array.mk [.string ⟨im.name.toArray⟩, .int .i64 im.flags, vsegs, vneeded, vrunPath, vsyms, vbuckets, vwords, .int .i64 im.shift, vrelocs, vslots, vinit, vfini, vtls, .int .i64 im.tlsSize] : Array Value) = I at HH HS
  have F0 := Lib.hid (heap_alloc_new w (.cells I 38 (0, 0)))
  have B1 := Lib.hid (((Below.refl w.heap.size w).alloc (Nat.le_refl _) (.cells I 38 (0, 0))).alloc (by simp) (.cells #[.int .i64 r.at_, .int .i64 r.kind, .int .i64 r.sym, .int .i64 r.add] 57 (0, 0)))
  have G0 := Lib.hid (heap_alloc_new (w.alloc (.cells I 38 (0, 0))) (.cells #[.int .i64 r.at_, .int .i64 r.kind, .int .i64 r.sym, .int .i64 r.add] 57 (0, 0)))
  have F1 := Lib.hid ((heap_alloc_old (w.alloc (.cells I 38 (0, 0))) (.cells #[.int .i64 r.at_, .int .i64 r.kind, .int .i64 r.sym, .int .i64 r.add] 57 (0, 0)) (by simp)).trans F0.out)
  have hz1 : ((w.alloc (.cells I 38 (0, 0))).alloc (.cells #[.int .i64 r.at_, .int .i64 r.kind, .int .i64 r.sym, .int .i64 r.add] 57 (0, 0))).heap.size = w.heap.size + 2 := by simp
  rw [World.size_alloc] at G0
  subst hI
  go_enter Try.func67, Try.ntmps67
  go_wp2_with fail
  generalize (w.alloc (.cells #[.string ⟨im.name.toArray⟩, .int .i64 im.flags, vsegs, vneeded, vrunPath, vsyms, vbuckets, vwords, .int .i64 im.shift, vrelocs, vslots, vinit, vfini, vtls, .int .i64 im.tlsSize] 38 (0, 0))).alloc (.cells #[.int .i64 r.at_, .int .i64 r.kind, .int .i64 r.sym, .int .i64 r.add] 57 (0, 0)) = w1 at *
  refine (HS.out w1 B1.out).mono ?_
  rintro e w2 ⟨rfl, hb2⟩
  have hz2 := hb2.size
  have G2 := Lib.hid ((hb2.block (w.heap.size + 1) (by omega)).trans G0.out)
  have F2 := Lib.hid ((hb2.block w.heap.size (by omega)).trans F1.out)
  have B2 := Lib.hid (B1.out.trans (hb2.mono (by omega)))
  clear hb2 F0 G0 F1 B1 HS
  cases hsa : symAt im r.sym with
  | none =>
    have hv : symV im r.sym = .tuple #[.agg #[.string ⟨#[]⟩, .string ⟨#[]⟩, .bool false, .int .i64 0, .bool false, .int .i64 0, .bool false, .int .i64 0, .int .i64 0], .bool false] := by rw [symV, symD, hsa]; rfl
    rw [hv]
    have Hsa := Lib.hid hsa
    clear hv hsa
    have G3 := (heap_alloc_old w2 (.cells #[.string ⟨#[]⟩, .string ⟨#[]⟩, .bool false, .int .i64 0, .bool false, .int .i64 0, .bool false, .int .i64 0, .int .i64 0] 54 (0, 0)) (r := w.heap.size + 1) (by omega)).trans G2.out
    have F3 := (heap_alloc_old w2 (.cells #[.string ⟨#[]⟩, .string ⟨#[]⟩, .bool false, .int .i64 0, .bool false, .int .i64 0, .bool false, .int .i64 0, .int .i64 0] 54 (0, 0)) (r := w.heap.size) (by omega)).trans F2.out
    have B3 := Lib.hid (B2.out.alloc (by omega) (.cells #[.string ⟨#[]⟩, .string ⟨#[]⟩, .bool false, .int .i64 0, .bool false, .int .i64 0, .bool false, .int .i64 0, .int .i64 0] 54 (0, 0)))
    have t1 : w2.cell? ⟨w.heap.size + 1, 1, none⟩ = some (.int .i64 r.kind) := by rw [Lib.cell_of_heap G2.out]; rfl
    have hzt : w.heap.size + 1 < w2.heap.size := by omega
    go_upto_block 0 with fail
    have hz3 : (w2.alloc (.cells #[.string ⟨#[]⟩, .string ⟨#[]⟩, .bool false, .int .i64 0, .bool false, .int .i64 0, .bool false, .int .i64 0, .int .i64 0] 54 (0, 0))).heap.size = w2.heap.size + 1 := by simp
    generalize w2.alloc (.cells #[.string ⟨#[]⟩, .string ⟨#[]⟩, .bool false, .int .i64 0, .bool false, .int .i64 0, .bool false, .int .i64 0, .int .i64 0] 54 (0, 0)) = w3 at *
    have r0 : w3.cell? ⟨w.heap.size + 1, 0, none⟩ = some (.int .i64 r.at_) := by rw [Lib.cell_of_heap G3]; rfl
    have r1 : w3.cell? ⟨w.heap.size + 1, 1, none⟩ = some (.int .i64 r.kind) := by rw [Lib.cell_of_heap G3]; rfl
    have r2 : w3.cell? ⟨w.heap.size + 1, 2, none⟩ = some (.int .i64 r.sym) := by rw [Lib.cell_of_heap G3]; rfl
    have r3 : w3.cell? ⟨w.heap.size + 1, 3, none⟩ = some (.int .i64 r.add) := by rw [Lib.cell_of_heap G3]; rfl
    obtain ⟨i0, i1, i2, i3, i4, i5, i6, i7, i8, i9, i10, i11, i12, i13, i14⟩ := img_cells F3
    clear F3 G3 F2 G2 B2
    by_cases k1 : r.kind = 1
    case neg =>
      have b1 : (r.kind == 1) = false := by rw [beq_eq_false_iff_ne]; exact k1
      have Hr := Lib.hid (relocR_none (im := im) k1 Hsa.out)
      go_wp2
      all_goals go_ret
      all_goals exact ⟨by rw [Hr.out]; rfl, B3.out⟩
    case pos =>
      have b1 : (r.kind == 1) = true := by rw [beq_iff_eq]; exact k1
      have HR : Hid (relocR im r = (decide (r.sym = -1) && decide (0 ≤ r.add) && decide (r.add ≤ 65536) && holdsB im.segs r.at_ 8 0)) := Lib.hid (by rw [relocR, if_pos k1])
      by_cases p0 : r.sym = -1
      case neg =>
        have q0 : (r.sym == -1) = false := by rw [beq_eq_false_iff_ne]; assumption
        have Hr : Hid (relocR im r = false) := Lib.hid (by rw [HR.out, decide_eq_false (p := r.sym = -1) p0]; simp)
        go_wp2
        go_ret
        exact ⟨by rw [Hr.out]; rfl, B3.out⟩
      have q0 : (r.sym == -1) = true := by rw [beq_iff_eq]; assumption
      by_cases p1 : 0 ≤ r.add
      case neg =>
        have q1 : decide (0 ≤ r.add) = false := by rw [decide_eq_false_iff_not]; assumption
        have Hr : Hid (relocR im r = false) := Lib.hid (by rw [HR.out, decide_eq_false (p := 0 ≤ r.add) p1]; simp)
        go_wp2
        go_ret
        exact ⟨by rw [Hr.out]; rfl, B3.out⟩
      have q1 : decide (0 ≤ r.add) = true := by rw [decide_eq_true_eq]; assumption
      by_cases p2 : r.add ≤ 65536
      case neg =>
        have q2 : decide (r.add ≤ 65536) = false := by rw [decide_eq_false_iff_not]; assumption
        have Hr : Hid (relocR im r = false) := Lib.hid (by rw [HR.out, decide_eq_false (p := r.add ≤ 65536) p2]; simp)
        go_wp2
        go_ret
        exact ⟨by rw [Hr.out]; rfl, B3.out⟩
      have q2 : decide (r.add ≤ 65536) = true := by rw [decide_eq_true_eq]; assumption
      have Hr : Hid (relocR im r = holdsB im.segs r.at_ 8 0) := Lib.hid (by rw [HR.out, decide_eq_true (p := r.sym = -1) p0, decide_eq_true (p := 0 ≤ r.add) p1, decide_eq_true (p := r.add ≤ 65536) p2]; simp)
      have Hh := Lib.hid (HH.out w3 r.at_ 8 0 B3.out hra (by decide) (by decide))
      go_wp2_with fail
      refine Hh.out.mono ?_
      rintro e w4 ⟨rfl, hb4⟩
      have B4 := Lib.hid (B3.out.trans (hb4.mono (by omega)))
      clear hb4 i0 i1 i2 i3 i4 i5 i6 i7 i8 i9 i10 i11 i12 i13 i14 r0 r1 r2 r3
      go_wp2
      go_ret
      exact ⟨by rw [Hr.out]; rfl, B4.out⟩
  | some s =>
    have hv : symV im r.sym = .tuple #[.agg #[.string ⟨s.name.toArray⟩, .string ⟨s.version.toArray⟩, .bool s.old, .int .i64 s.kind, .bool s.weak, .int .i64 s.vis, .bool s.defined, .int .i64 s.value, .int .i64 s.size], .bool true] := by rw [symV, symD, hsa]; rfl
    rw [hv]
    have Hsa := Lib.hid hsa
    have hsz := Hsz.out s (symAt_range hsa).2.2
    clear hv hsa
    have S3 := heap_alloc_new w2 (.cells #[.string ⟨s.name.toArray⟩, .string ⟨s.version.toArray⟩, .bool s.old, .int .i64 s.kind, .bool s.weak, .int .i64 s.vis, .bool s.defined, .int .i64 s.value, .int .i64 s.size] 54 (0, 0))
    have G3 := (heap_alloc_old w2 (.cells #[.string ⟨s.name.toArray⟩, .string ⟨s.version.toArray⟩, .bool s.old, .int .i64 s.kind, .bool s.weak, .int .i64 s.vis, .bool s.defined, .int .i64 s.value, .int .i64 s.size] 54 (0, 0)) (r := w.heap.size + 1) (by omega)).trans G2.out
    have F3 := (heap_alloc_old w2 (.cells #[.string ⟨s.name.toArray⟩, .string ⟨s.version.toArray⟩, .bool s.old, .int .i64 s.kind, .bool s.weak, .int .i64 s.vis, .bool s.defined, .int .i64 s.value, .int .i64 s.size] 54 (0, 0)) (r := w.heap.size) (by omega)).trans F2.out
    have B3 := Lib.hid (B2.out.alloc (by omega) (.cells #[.string ⟨s.name.toArray⟩, .string ⟨s.version.toArray⟩, .bool s.old, .int .i64 s.kind, .bool s.weak, .int .i64 s.vis, .bool s.defined, .int .i64 s.value, .int .i64 s.size] 54 (0, 0)))
    have t1 : w2.cell? ⟨w.heap.size + 1, 1, none⟩ = some (.int .i64 r.kind) := by rw [Lib.cell_of_heap G2.out]; rfl
    have hzt : w.heap.size + 1 < w2.heap.size := by omega
    go_upto_block 0 with fail
    have hz3 : (w2.alloc (.cells #[.string ⟨s.name.toArray⟩, .string ⟨s.version.toArray⟩, .bool s.old, .int .i64 s.kind, .bool s.weak, .int .i64 s.vis, .bool s.defined, .int .i64 s.value, .int .i64 s.size] 54 (0, 0))).heap.size = w2.heap.size + 1 := by simp
    generalize w2.alloc (.cells #[.string ⟨s.name.toArray⟩, .string ⟨s.version.toArray⟩, .bool s.old, .int .i64 s.kind, .bool s.weak, .int .i64 s.vis, .bool s.defined, .int .i64 s.value, .int .i64 s.size] 54 (0, 0)) = w3 at *
    have r0 : w3.cell? ⟨w.heap.size + 1, 0, none⟩ = some (.int .i64 r.at_) := by rw [Lib.cell_of_heap G3]; rfl
    have r1 : w3.cell? ⟨w.heap.size + 1, 1, none⟩ = some (.int .i64 r.kind) := by rw [Lib.cell_of_heap G3]; rfl
    have r2 : w3.cell? ⟨w.heap.size + 1, 2, none⟩ = some (.int .i64 r.sym) := by rw [Lib.cell_of_heap G3]; rfl
    have r3 : w3.cell? ⟨w.heap.size + 1, 3, none⟩ = some (.int .i64 r.add) := by rw [Lib.cell_of_heap G3]; rfl
    obtain ⟨i0, i1, i2, i3, i4, i5, i6, i7, i8, i9, i10, i11, i12, i13, i14⟩ := img_cells F3
    obtain ⟨c0, c1, c2, c3, c4, c5, c6, c7, c8⟩ := sym_cells S3
    clear F3 G3 F2 G2 B2 S3
    by_cases k1 : r.kind = 1
    case pos =>
      have b1 : (r.kind == 1) = true := by rw [beq_iff_eq]; exact k1
      have HR : Hid (relocR im r = (decide (r.sym = -1) && decide (0 ≤ r.add) && decide (r.add ≤ 65536) && holdsB im.segs r.at_ 8 0)) := Lib.hid (by rw [relocR, if_pos k1])
      by_cases p0 : r.sym = -1
      case neg =>
        have q0 : (r.sym == -1) = false := by rw [beq_eq_false_iff_ne]; assumption
        have Hr : Hid (relocR im r = false) := Lib.hid (by rw [HR.out, decide_eq_false (p := r.sym = -1) p0]; simp)
        go_wp2
        go_ret
        exact ⟨by rw [Hr.out]; rfl, B3.out⟩
      have q0 : (r.sym == -1) = true := by rw [beq_iff_eq]; assumption
      by_cases p1 : 0 ≤ r.add
      case neg =>
        have q1 : decide (0 ≤ r.add) = false := by rw [decide_eq_false_iff_not]; assumption
        have Hr : Hid (relocR im r = false) := Lib.hid (by rw [HR.out, decide_eq_false (p := 0 ≤ r.add) p1]; simp)
        go_wp2
        go_ret
        exact ⟨by rw [Hr.out]; rfl, B3.out⟩
      have q1 : decide (0 ≤ r.add) = true := by rw [decide_eq_true_eq]; assumption
      by_cases p2 : r.add ≤ 65536
      case neg =>
        have q2 : decide (r.add ≤ 65536) = false := by rw [decide_eq_false_iff_not]; assumption
        have Hr : Hid (relocR im r = false) := Lib.hid (by rw [HR.out, decide_eq_false (p := r.add ≤ 65536) p2]; simp)
        go_wp2
        go_ret
        exact ⟨by rw [Hr.out]; rfl, B3.out⟩
      have q2 : decide (r.add ≤ 65536) = true := by rw [decide_eq_true_eq]; assumption
      have Hr : Hid (relocR im r = holdsB im.segs r.at_ 8 0) := Lib.hid (by rw [HR.out, decide_eq_true (p := r.sym = -1) p0, decide_eq_true (p := 0 ≤ r.add) p1, decide_eq_true (p := r.add ≤ 65536) p2]; simp)
      have Hh := Lib.hid (HH.out w3 r.at_ 8 0 B3.out hra (by decide) (by decide))
      go_wp2_with fail
      refine Hh.out.mono ?_
      rintro e w4 ⟨rfl, hb4⟩
      have B4 := Lib.hid (B3.out.trans (hb4.mono (by omega)))
      clear hb4 i0 i1 i2 i3 i4 i5 i6 i7 i8 i9 i10 i11 i12 i13 i14 r0 r1 r2 r3
      go_wp2
      go_ret
      exact ⟨by rw [Hr.out]; rfl, B4.out⟩
    have b1 : (r.kind == 1) = false := by rw [beq_eq_false_iff_ne]; exact k1
    by_cases k0 : r.kind = 0
    case pos =>
      have b0 : (r.kind == 0) = true := by rw [beq_iff_eq]; exact k0
      have HR : Hid (relocR im r = (decide (s.kind ≠ 3) && holdsB im.segs r.at_ 8 0)) := Lib.hid (by rw [relocR, if_neg k1, Hsa.out]; simp only []; rw [if_pos (Or.inl k0)])
      by_cases p0 : s.kind ≠ 3
      case neg =>
        have q0 : (s.kind == 3) = true := by rw [beq_iff_eq]; exact Decidable.byContradiction p0
        have Hr : Hid (relocR im r = false) := Lib.hid (by rw [HR.out, decide_eq_false (p := s.kind ≠ 3) p0]; simp)
        go_wp2
        go_ret
        exact ⟨by rw [Hr.out]; rfl, B3.out⟩
      have q0 : (s.kind == 3) = false := by rw [beq_eq_false_iff_ne]; assumption
      have Hr : Hid (relocR im r = holdsB im.segs r.at_ 8 0) := Lib.hid (by rw [HR.out, decide_eq_true (p := s.kind ≠ 3) p0]; simp)
      have Hh := Lib.hid (HH.out w3 r.at_ 8 0 B3.out hra (by decide) (by decide))
      go_wp2_with fail
      refine Hh.out.mono ?_
      rintro e w4 ⟨rfl, hb4⟩
      have B4 := Lib.hid (B3.out.trans (hb4.mono (by omega)))
      clear hb4 i0 i1 i2 i3 i4 i5 i6 i7 i8 i9 i10 i11 i12 i13 i14 r0 r1 r2 r3
      go_wp2
      go_ret
      exact ⟨by rw [Hr.out]; rfl, B4.out⟩
    have b0 : (r.kind == 0) = false := by rw [beq_eq_false_iff_ne]; exact k0
    by_cases k6 : r.kind = 6
    case pos =>
      have b6 : (r.kind == 6) = true := by rw [beq_iff_eq]; exact k6
      have HR : Hid (relocR im r = (decide (s.kind ≠ 3) && holdsB im.segs r.at_ 8 0)) := Lib.hid (by rw [relocR, if_neg k1, Hsa.out]; simp only []; rw [if_pos (Or.inr k6)])
      by_cases p0 : s.kind ≠ 3
      case neg =>
        have q0 : (s.kind == 3) = true := by rw [beq_iff_eq]; exact Decidable.byContradiction p0
        have Hr : Hid (relocR im r = false) := Lib.hid (by rw [HR.out, decide_eq_false (p := s.kind ≠ 3) p0]; simp)
        go_wp2
        go_ret
        exact ⟨by rw [Hr.out]; rfl, B3.out⟩
      have q0 : (s.kind == 3) = false := by rw [beq_eq_false_iff_ne]; assumption
      have Hr : Hid (relocR im r = holdsB im.segs r.at_ 8 0) := Lib.hid (by rw [HR.out, decide_eq_true (p := s.kind ≠ 3) p0]; simp)
      have Hh := Lib.hid (HH.out w3 r.at_ 8 0 B3.out hra (by decide) (by decide))
      go_wp2_with fail
      refine Hh.out.mono ?_
      rintro e w4 ⟨rfl, hb4⟩
      have B4 := Lib.hid (B3.out.trans (hb4.mono (by omega)))
      clear hb4 i0 i1 i2 i3 i4 i5 i6 i7 i8 i9 i10 i11 i12 i13 i14 r0 r1 r2 r3
      go_wp2
      go_ret
      exact ⟨by rw [Hr.out]; rfl, B4.out⟩
    have b6 : (r.kind == 6) = false := by rw [beq_eq_false_iff_ne]; exact k6
    by_cases k7 : r.kind = 7
    case pos =>
      have b7 : (r.kind == 7) = true := by rw [beq_iff_eq]; exact k7
      have HR : Hid (relocR im r = (decide (r.add = 0) && holdsB im.segs r.at_ 8 0)) := Lib.hid (by rw [relocR, if_neg k1, Hsa.out]; simp only []; rw [if_neg (by omega), if_pos k7])
      by_cases p0 : r.add = 0
      case neg =>
        have q0 : (r.add == 0) = false := by rw [beq_eq_false_iff_ne]; assumption
        have Hr : Hid (relocR im r = false) := Lib.hid (by rw [HR.out, decide_eq_false (p := r.add = 0) p0]; simp)
        go_wp2
        go_ret
        exact ⟨by rw [Hr.out]; rfl, B3.out⟩
      have q0 : (r.add == 0) = true := by rw [beq_iff_eq]; assumption
      have Hr : Hid (relocR im r = holdsB im.segs r.at_ 8 0) := Lib.hid (by rw [HR.out, decide_eq_true (p := r.add = 0) p0]; simp)
      have Hh := Lib.hid (HH.out w3 r.at_ 8 0 B3.out hra (by decide) (by decide))
      go_wp2_with fail
      refine Hh.out.mono ?_
      rintro e w4 ⟨rfl, hb4⟩
      have B4 := Lib.hid (B3.out.trans (hb4.mono (by omega)))
      clear hb4 i0 i1 i2 i3 i4 i5 i6 i7 i8 i9 i10 i11 i12 i13 i14 r0 r1 r2 r3
      go_wp2
      go_ret
      exact ⟨by rw [Hr.out]; rfl, B4.out⟩
    have b7 : (r.kind == 7) = false := by rw [beq_eq_false_iff_ne]; exact k7
    by_cases k3 : r.kind = 3
    case pos =>
      have b3 : (r.kind == 3) = true := by rw [beq_iff_eq]; exact k3
      have HR : Hid (relocR im r = (decide (s.kind = 3) && decide (r.add = 0) && holdsB im.segs r.at_ 8 0)) := Lib.hid (by rw [relocR, if_neg k1, Hsa.out]; simp only []; rw [if_neg (by omega), if_neg (by omega), if_pos k3])
      by_cases p0 : s.kind = 3
      case neg =>
        have q0 : (s.kind == 3) = false := by rw [beq_eq_false_iff_ne]; assumption
        have Hr : Hid (relocR im r = false) := Lib.hid (by rw [HR.out, decide_eq_false (p := s.kind = 3) p0]; simp)
        go_wp2
        go_ret
        exact ⟨by rw [Hr.out]; rfl, B3.out⟩
      have q0 : (s.kind == 3) = true := by rw [beq_iff_eq]; assumption
      by_cases p1 : r.add = 0
      case neg =>
        have q1 : (r.add == 0) = false := by rw [beq_eq_false_iff_ne]; assumption
        have Hr : Hid (relocR im r = false) := Lib.hid (by rw [HR.out, decide_eq_false (p := r.add = 0) p1]; simp)
        go_wp2
        go_ret
        exact ⟨by rw [Hr.out]; rfl, B3.out⟩
      have q1 : (r.add == 0) = true := by rw [beq_iff_eq]; assumption
      have Hr : Hid (relocR im r = holdsB im.segs r.at_ 8 0) := Lib.hid (by rw [HR.out, decide_eq_true (p := s.kind = 3) p0, decide_eq_true (p := r.add = 0) p1]; simp)
      have Hh := Lib.hid (HH.out w3 r.at_ 8 0 B3.out hra (by decide) (by decide))
      go_wp2_with fail
      refine Hh.out.mono ?_
      rintro e w4 ⟨rfl, hb4⟩
      have B4 := Lib.hid (B3.out.trans (hb4.mono (by omega)))
      clear hb4 i0 i1 i2 i3 i4 i5 i6 i7 i8 i9 i10 i11 i12 i13 i14 r0 r1 r2 r3
      go_wp2
      go_ret
      exact ⟨by rw [Hr.out]; rfl, B4.out⟩
    have b3 : (r.kind == 3) = false := by rw [beq_eq_false_iff_ne]; exact k3
    by_cases k4 : r.kind = 4
    case pos =>
      have b4 : (r.kind == 4) = true := by rw [beq_iff_eq]; exact k4
      have HR : Hid (relocR im r = (decide (s.kind = 3) && holdsB im.segs r.at_ 8 0)) := Lib.hid (by rw [relocR, if_neg k1, Hsa.out]; simp only []; rw [if_neg (by omega), if_neg (by omega), if_neg (by omega), if_pos (Or.inl k4)])
      by_cases p0 : s.kind = 3
      case neg =>
        have q0 : (s.kind == 3) = false := by rw [beq_eq_false_iff_ne]; assumption
        have Hr : Hid (relocR im r = false) := Lib.hid (by rw [HR.out, decide_eq_false (p := s.kind = 3) p0]; simp)
        go_wp2
        go_ret
        exact ⟨by rw [Hr.out]; rfl, B3.out⟩
      have q0 : (s.kind == 3) = true := by rw [beq_iff_eq]; assumption
      have Hr : Hid (relocR im r = holdsB im.segs r.at_ 8 0) := Lib.hid (by rw [HR.out, decide_eq_true (p := s.kind = 3) p0]; simp)
      have Hh := Lib.hid (HH.out w3 r.at_ 8 0 B3.out hra (by decide) (by decide))
      go_wp2_with fail
      refine Hh.out.mono ?_
      rintro e w4 ⟨rfl, hb4⟩
      have B4 := Lib.hid (B3.out.trans (hb4.mono (by omega)))
      clear hb4 i0 i1 i2 i3 i4 i5 i6 i7 i8 i9 i10 i11 i12 i13 i14 r0 r1 r2 r3
      go_wp2
      go_ret
      exact ⟨by rw [Hr.out]; rfl, B4.out⟩
    have b4 : (r.kind == 4) = false := by rw [beq_eq_false_iff_ne]; exact k4
    by_cases k5 : r.kind = 5
    case pos =>
      have b5 : (r.kind == 5) = true := by rw [beq_iff_eq]; exact k5
      have HR : Hid (relocR im r = (decide (s.kind = 3) && holdsB im.segs r.at_ 8 0)) := Lib.hid (by rw [relocR, if_neg k1, Hsa.out]; simp only []; rw [if_neg (by omega), if_neg (by omega), if_neg (by omega), if_pos (Or.inr k5)])
      by_cases p0 : s.kind = 3
      case neg =>
        have q0 : (s.kind == 3) = false := by rw [beq_eq_false_iff_ne]; assumption
        have Hr : Hid (relocR im r = false) := Lib.hid (by rw [HR.out, decide_eq_false (p := s.kind = 3) p0]; simp)
        go_wp2
        go_ret
        exact ⟨by rw [Hr.out]; rfl, B3.out⟩
      have q0 : (s.kind == 3) = true := by rw [beq_iff_eq]; assumption
      have Hr : Hid (relocR im r = holdsB im.segs r.at_ 8 0) := Lib.hid (by rw [HR.out, decide_eq_true (p := s.kind = 3) p0]; simp)
      have Hh := Lib.hid (HH.out w3 r.at_ 8 0 B3.out hra (by decide) (by decide))
      go_wp2_with fail
      refine Hh.out.mono ?_
      rintro e w4 ⟨rfl, hb4⟩
      have B4 := Lib.hid (B3.out.trans (hb4.mono (by omega)))
      clear hb4 i0 i1 i2 i3 i4 i5 i6 i7 i8 i9 i10 i11 i12 i13 i14 r0 r1 r2 r3
      go_wp2
      go_ret
      exact ⟨by rw [Hr.out]; rfl, B4.out⟩
    have b5 : (r.kind == 5) = false := by rw [beq_eq_false_iff_ne]; exact k5
    by_cases k2 : r.kind = 2
    case pos =>
      have b2 : (r.kind == 2) = true := by rw [beq_iff_eq]; exact k2
      have _bt : (s.kind == 3) = (s.kind == 3) := rfl
      have HR : Hid (relocR im r = (decide (s.kind = 2) && s.defined && decide (1 ≤ s.size) && decide (s.value = r.at_) && decide (im.flags % 2 = 1) && decide (r.add = 0) && holdsB im.segs r.at_ s.size 2)) := Lib.hid (by rw [relocR, if_neg k1, Hsa.out]; simp only []; rw [if_neg (by omega), if_neg (by omega), if_neg (by omega), if_neg (by omega), if_pos k2])
      by_cases p0 : s.kind = 2
      case neg =>
        have q0 : (s.kind == 2) = false := by rw [beq_eq_false_iff_ne]; assumption
        have Hr : Hid (relocR im r = false) := Lib.hid (by rw [HR.out, decide_eq_false (p := s.kind = 2) p0]; simp)
        go_wp2
        go_ret
        exact ⟨by rw [Hr.out]; rfl, B3.out⟩
      have q0 : (s.kind == 2) = true := by rw [beq_iff_eq]; assumption
      cases hd : s.defined with
      | false =>
        rw [hd] at c6
        have Hr : Hid (relocR im r = false) := Lib.hid (by rw [HR.out, hd]; simp)
        clear hd
        go_wp2
        go_ret
        exact ⟨by rw [Hr.out]; rfl, B3.out⟩
      | true =>
      rw [hd] at c6
      have Hd2 := Lib.hid hd
      clear hd
      by_cases p2 : 1 ≤ s.size
      case neg =>
        have q2 : decide (1 ≤ s.size) = false := by rw [decide_eq_false_iff_not]; assumption
        have Hr : Hid (relocR im r = false) := Lib.hid (by rw [HR.out, decide_eq_false (p := 1 ≤ s.size) p2]; simp)
        go_wp2
        go_ret
        exact ⟨by rw [Hr.out]; rfl, B3.out⟩
      have q2 : decide (1 ≤ s.size) = true := by rw [decide_eq_true_eq]; assumption
      by_cases p3 : s.value = r.at_
      case neg =>
        have q3 : (s.value == r.at_) = false := by rw [beq_eq_false_iff_ne]; assumption
        have Hr : Hid (relocR im r = false) := Lib.hid (by rw [HR.out, decide_eq_false (p := s.value = r.at_) p3]; simp)
        go_wp2
        go_ret
        exact ⟨by rw [Hr.out]; rfl, B3.out⟩
      have q3 : (s.value == r.at_) = true := by rw [beq_iff_eq]; assumption
      by_cases p4 : im.flags % 2 = 1
      case neg =>
        have q4 : (bits BinOp.and .i64 im.flags 1 != 0) = false := by rw [Hfl.out, decide_eq_false_iff_not]; assumption
        have Hr : Hid (relocR im r = false) := Lib.hid (by rw [HR.out, decide_eq_false (p := im.flags % 2 = 1) p4]; simp)
        go_wp2
        go_ret
        exact ⟨by rw [Hr.out]; rfl, B3.out⟩
      have q4 : (bits BinOp.and .i64 im.flags 1 != 0) = true := by rw [Hfl.out, decide_eq_true_eq]; assumption
      by_cases p5 : r.add = 0
      case neg =>
        have q5 : (r.add == 0) = false := by rw [beq_eq_false_iff_ne]; assumption
        have Hr : Hid (relocR im r = false) := Lib.hid (by rw [HR.out, decide_eq_false (p := r.add = 0) p5]; simp)
        go_wp2
        go_ret
        exact ⟨by rw [Hr.out]; rfl, B3.out⟩
      have q5 : (r.add == 0) = true := by rw [beq_iff_eq]; assumption
      have Hr : Hid (relocR im r = holdsB im.segs r.at_ s.size 2) := Lib.hid (by rw [HR.out, decide_eq_true (p := s.kind = 2) p0, Hd2.out, decide_eq_true (p := 1 ≤ s.size) p2, decide_eq_true (p := s.value = r.at_) p3, decide_eq_true (p := im.flags % 2 = 1) p4, decide_eq_true (p := r.add = 0) p5]; simp)
      have Hh := Lib.hid (HH.out w3 r.at_ s.size 2 B3.out hra ⟨by omega, hsz⟩ (by decide))
      clear Hd2
      go_wp2_with fail
      refine Hh.out.mono ?_
      rintro e w4 ⟨rfl, hb4⟩
      have B4 := Lib.hid (B3.out.trans (hb4.mono (by omega)))
      clear hb4 i0 i1 i2 i3 i4 i5 i6 i7 i8 i9 i10 i11 i12 i13 i14 r0 r1 r2 r3
      go_wp2
      go_ret
      exact ⟨by rw [Hr.out]; rfl, B4.out⟩
    have b2 : (r.kind == 2) = false := by rw [beq_eq_false_iff_ne]; exact k2
    have Hr : Hid (relocR im r = false) := Lib.hid (by rw [relocR, if_neg k1, Hsa.out]; simp only []; rw [if_neg (by omega), if_neg (by omega), if_neg (by omega), if_neg (by omega), if_neg (by omega)])
    go_wp2
    go_ret
    exact ⟨by rw [Hr.out]; rfl, B3.out⟩

end Go.Proofs.Ytbliedldlimpgaa

/- A region that draws its order, whose operations only read and whose callees may make memory of their own: one walk, in the order of the text. The worlds that may come up: all those in which what stood ahead of the region is as it was. -/
namespace Go.Proofs.Ytbliedldlimpgaa
set_option linter.unusedVariables false
set_option linter.unusedSimpArgs false
open Go.RowKit

/-- a world in which all that stood in w is as it was -/
structure Later (w : World) where
  w' : World
  h : Below w.heap.size w w'
instance Later.inst (w : World) : Nonempty (Later w) := ⟨⟨w, Below.refl _ w⟩⟩
theorem Later.cell {w : World} (x : Later w) {p : Addr} {v : Value} (c : w.cell? p = some v) : x.w'.cell? p = some v := (x.h.cell (World.block_lt_of_cell? _ _ c)).trans c
theorem Later.lt {w : World} (x : Later w) {n : Nat} (h : n < w.heap.size) : n < x.w'.heap.size := Nat.lt_of_lt_of_le h x.h.size
theorem Later.call {P : Program} {w : World} (x : Later w) {f : FuncId} {args : Array Value} {v : Value} (h : Calls P f args x.w' fun e w' => e = .returned v ∧ Below x.w'.heap.size x.w' w') :
    Calls P f args x.w' fun e w'' => e = .returned v ∧ ∃ y : Later w, w'' = y.w' :=
  h.mono fun _ w' ⟨he, hb⟩ => ⟨he, ⟨⟨w', x.h.trans (hb.mono x.h.size)⟩, rfl⟩⟩
theorem Later.call_same {P : Program} {w : World} (x : Later w) {f : FuncId} {args : Array Value} {v : Value} (h : Calls P f args x.w' fun e w' => e = .returned v ∧ w' = x.w') :
    Calls P f args x.w' fun e w'' => e = .returned v ∧ ∃ y : Later w, w'' = y.w' :=
  h.mono fun _ w' ⟨he, hb⟩ => ⟨he, ⟨x, hb⟩⟩
theorem wp_region_later {P : Program} {id : Nat} {Q : Exit → Act → World → Prop} {a : Act} {w : World} {l : List Oper} (hm : P.follows .mixedOrders = true) (hB : Region.lexB .any l.toArray = true)
    (h : wpQuiet P l.toArray (fun w' => ∃ x : Later w, w' = x.w') (fun a' => ∀ w', (∃ x : Later w, w' = x.w') → Q .normal a' w') l a) : (Code.region id l.toArray true).wp P Q a w :=
  wp_region_quiet (C := fun w' => ∃ x : Later w, w' = x.w') hm hB ⟨⟨_, (Below.refl _ w).drew⟩, rfl⟩ (by simpa using h)

end Go.Proofs.Ytbliedldlimpgaa

namespace Go.Proofs.Ytbliedldlimpgaa
set_option linter.unusedVariables false
set_option linter.unusedSimpArgs false
open Go.RowKit

/-- a relocation's numbers are Go's -/
def RelOk (r : RelL) : Prop := (-9223372036854775808 ≤ r.sym ∧ r.sym ≤ 9223372036854775807) ∧ (-9223372036854775808 ≤ r.at_ ∧ r.at_ ≤ 9223372036854775807) ∧ (-9223372036854775808 ≤ r.add ∧ r.add ≤ 9223372036854775807)
theorem segOk_of {im : ImgL} (h : segsB im.segs = true) : ∀ s ∈ im.segs, SegOk s := fun s hs => by
  have := segs_good h s hs; unfold SegOk; omega
theorem relocsFrom_low {im : ImgL} {e : Int} {r : RelL} {l : List RelL} (h : ¬ e ≤ r.at_) : relocsFrom im e (r :: l) = false := by rw [relocsFrom, decide_eq_false (p := e ≤ r.at_) h]; rfl
theorem relocsFrom_bad {im : ImgL} {e : Int} {r : RelL} {l : List RelL} (h : relocB im r = false) : relocsFrom im e (r :: l) = false := by rw [relocsFrom, h]; simp
theorem relocsFrom_ok {im : ImgL} {e : Int} {r : RelL} {l : List RelL} (h : e ≤ r.at_) (h2 : relocB im r = true) : relocsFrom im e (r :: l) = relocsFrom im (r.at_ + wideL im r) l := by rw [relocsFrom, h2, decide_eq_true (p := e ≤ r.at_) h]; rfl
abbrev relArr (r : RelL) : Array Value := #[.int .i64 r.at_, .int .i64 r.kind, .int .i64 r.sym, .int .i64 r.add]

set_option maxHeartbeats 16000000 in
set_option maxRecDepth 100000 in
theorem irelocs_any (w : World) (v : ImgV) (im : ImgL) (hs : LB kSeg (· < w.heap.size) w v.segs im.segs) (hg : segsB im.segs = true) (hy : LB kSym (· < w.heap.size) w v.syms im.syms) (hfl : 0 ≤ im.flags ∧ im.flags < 16)
    (hr : LB kRel (· < w.heap.size) w v.relocs im.relocs) (hrr : ∀ r ∈ im.relocs, RelOk r) (hsz : ∀ s ∈ im.syms, 0 ≤ s.size ∧ s.size ≤ 9223372036854775807) (hsl : im.syms.length ≤ 512) :
    Calls Try.prog 24 #[.agg (imgCells v im)] w fun e w' => e = .returned (.bool (relocsB im)) ∧ Below w.heap.size w w' := by
  obtain ⟨ra, rb, roff, rcap, hrv, hrm, hrc, hrat⟩ := hr.at
  obtain ⟨vsegs, vneeded, vrunPath, vsyms, vbuckets, vwords, vrelocs, vslots, vinit, vfini, vtls⟩ := v
  simp only at hrv
  subst hrv
  have HR : Hid (∀ (w' : World) (r : RelL), Below w.heap.size w w' → RelOk r →
    Calls Try.prog 67 #[.agg (imgCells ⟨vsegs, vneeded, vrunPath, vsyms, vbuckets, vwords, .slice ra im.relocs.length rcap, vslots, vinit, vfini, vtls⟩ im), .agg #[.int .i64 r.at_, .int .i64 r.kind, .int .i64 r.sym, .int .i64 r.add]] w' fun e w'' => e = .returned (.bool (relocR im r)) ∧ Below w'.heap.size w' w'') := Lib.hid (fun w' r hb hx => ireloc_any w' _ im r ((hs.below hb).mono hb.size) (segOk_of hg) ((hy.below hb).mono hb.size) hfl hx.1 hx.2.1 (fun s h => (hsz s h).2))
  have HW : Hid (∀ (w' : World) (r : RelL), Below w.heap.size w w' → RelOk r →
    Calls Try.prog 68 #[.agg (imgCells ⟨vsegs, vneeded, vrunPath, vsyms, vbuckets, vwords, .slice ra im.relocs.length rcap, vslots, vinit, vfini, vtls⟩ im), .agg #[.int .i64 r.at_, .int .i64 r.kind, .int .i64 r.sym, .int .i64 r.add]] w' fun e w'' => e = .returned (.int .i64 (wideL im r)) ∧ Below w'.heap.size w' w'') := Lib.hid (fun w' r hb hx => iwide_any w' _ im r ((hy.below hb).mono hb.size) hx.1)
  unfold imgCells at *
  have Hrat := Lib.hid hrat
  have Hrr := Lib.hid hrr
  have Hsz := Lib.hid hsz
  have HD : Hid (relocsB im = (decide (im.relocs.length ≤ 512) && relocsFrom im 0 im.relocs)) := Lib.hid rfl
  have Hg := Lib.hid hg
  clear hs hg hy hfl hr hrr hsz hrat
  generalize hI : (Array.mk [.string ⟨im.name.toArray⟩, .int .i64 im.flags, vsegs, vneeded, vrunPath, vsyms, vbuckets, vwords, .int .i64 im.shift, .slice ra im.relocs.length rcap, vslots, vinit, vfini, vtls, .int .i64 im.tlsSize] : Array Value) = I at HR HW
  have F0 := Lib.hid (heap_alloc_new w (.cells I 38 (0, 0)))
  have B1 := Lib.hid ((Below.refl w.heap.size w).alloc (Nat.le_refl _) (.cells I 38 (0, 0)))
  subst hI
  go_enter Try.func24, Try.ntmps24
  go_wp2_with fail
  go_loopw [3, 9] (fun e i wr => ∃ (k : Nat) (x : Int), i = .int .i64 k ∧ e = .int .i64 x ∧ 0 ≤ x ∧ x ≤ 65536 ∧ k ≤ im.relocs.length ∧ relocsFrom im 0 im.relocs = relocsFrom im x (im.relocs.drop k) ∧ Below w.heap.size w wr ∧
    wr.heap[w.heap.size]? = some (.cells #[.string ⟨im.name.toArray⟩, .int .i64 im.flags, vsegs, vneeded, vrunPath, vsyms, vbuckets, vwords, .int .i64 im.shift, .slice ra im.relocs.length rcap, vslots, vinit, vfini, vtls, .int .i64 im.tlsSize] 38 (0, 0)) ∧ w.heap.size < wr.heap.size) (fun _ i _ => im.relocs.length - (intOf i).toNat)
  case atStart => exact ⟨0, 0, rfl, rfl, by decide, by decide, Nat.zero_le _, by simp, B1.out, F0.out, by simp⟩
  case round =>
    obtain ⟨k, x, rfl, rfl, hx0, hx1, hk, hse, hbel, hF, hzq⟩ := hrel
    have Hse := Lib.hid hse
    have Hbel := Lib.hid hbel
    have HF := Lib.hid hF
    have hBr := hbel.size
    clear hse
    by_cases hlt : k < im.relocs.length
    · obtain rfl := Hrat.out.addr (by omega)
      obtain ⟨r, hx⟩ : ∃ r, im.relocs[k]? = some r := ⟨_, List.getElem?_eq_getElem hlt⟩
      obtain ⟨g0, g1, g2, g3⟩ := (Hrat.out.below hbel).rel4 k r hx
      have hro := Hrr.out r (List.mem_of_getElem? hx)
      have hro2 := hro.2
      have Hro := Lib.hid hro
      have Hdc := Lib.hid (drop_cons im.relocs k r hx)
      have hsb := World.block_lt_of_cell? _ _ g0
      have HFr := Lib.hid (heap_alloc_new wr (.cells (relArr r) 57 (0, 0)))
      have HFi := Lib.hid ((heap_alloc_old wr (.cells (relArr r) 57 (0, 0)) hzq).trans hF)
      have HBr := Lib.hid (Hbel.out.alloc hBr (.cells (relArr r) 57 (0, 0)))
      unfold relArr at *
      clear hx hbel hF HF Hbel hro
      go_upto_region 5 with fail
      have hz1 : (wr.alloc (.cells #[.int .i64 r.at_, .int .i64 r.kind, .int .i64 r.sym, .int .i64 r.add] 57 (0, 0))).heap.size = wr.heap.size + 1 := by simp
      generalize wr.alloc (.cells #[.int .i64 r.at_, .int .i64 r.kind, .int .i64 r.sym, .int .i64 r.add] 57 (0, 0)) = w1 at *
      have r0 : w1.cell? ⟨wr.heap.size, 0, none⟩ = some (.int .i64 r.at_) := by rw [Lib.cell_of_heap HFr.out]; rfl
      have r1 : w1.cell? ⟨wr.heap.size, 1, none⟩ = some (.int .i64 r.kind) := by rw [Lib.cell_of_heap HFr.out]; rfl
      have r2 : w1.cell? ⟨wr.heap.size, 2, none⟩ = some (.int .i64 r.sym) := by rw [Lib.cell_of_heap HFr.out]; rfl
      have r3 : w1.cell? ⟨wr.heap.size, 3, none⟩ = some (.int .i64 r.add) := by rw [Lib.cell_of_heap HFr.out]; rfl
      obtain ⟨i0, i1, i2, i3, i4, i5, i6, i7, i8, i9, i10, i11, i12, i13, i14⟩ := img_cells HFi.out
      clear g0 g1 g2 g3
      by_cases h1 : x ≤ r.at_
      case neg =>
        have Hn : Hid (relocsB im = false) := Lib.hid (by rw [HD.out, Hse.out, Hdc.out, relocsFrom_low h1]; simp)
        have hd : decide (r.at_ < x) = true := by rw [decide_eq_true_eq]; omega
        go_wp2
        go_ret
        exact ⟨by rw [Hn.out]; rfl, HBr.out⟩
      have hd : decide (r.at_ < x) = false := by rw [decide_eq_false_iff_not]; omega
      go_wp2_with fail
      refine (ismall_any w1 r.add).mono ?_
      rintro e w2 ⟨rfl, rfl⟩
      cases hsm : (decide (-4294967296 ≤ r.add) && decide (r.add ≤ 4294967296)) with
      | false =>
        have Hn : Hid (relocsB im = false) := Lib.hid (by rw [HD.out, Hse.out, Hdc.out, relocsFrom_bad (by rw [relocB_R, hsm]; rfl)]; simp)
        clear hsm
        go_wp2
        go_ret
        exact ⟨by rw [Hn.out]; rfl, HBr.out⟩
      | true =>
        have Hsm := Lib.hid hsm
        clear hsm
        go_wp2_with fail
        refine (HR.out w2 r HBr.out Hro.out).mono ?_
        rintro e w3 ⟨rfl, hb3⟩
        have hz3 := hb3.size
        have HB3 := Lib.hid (HBr.out.trans (hb3.mono (by omega)))
        have HF3 := Lib.hid ((hb3.block w.heap.size (by omega)).trans HFi.out)
        have HR3 := Lib.hid ((hb3.block wr.heap.size (by omega)).trans HFr.out)
        clear hb3 i0 i1 i2 i3 i4 i5 i6 i7 i8 i9 i10 i11 i12 i13 i14 r0 r1 r2 r3
        cases hrb : relocR im r with
        | false =>
          have Hn : Hid (relocsB im = false) := Lib.hid (by rw [HD.out, Hse.out, Hdc.out, relocsFrom_bad (by rw [relocB_R, hrb]; simp)]; simp)
          clear hrb
          go_wp2
          go_ret
          exact ⟨by rw [Hn.out]; rfl, HB3.out⟩
        | true =>
          have hgood : relocB im r = true := by rw [relocB_R, hrb, Hsm.out]; rfl
          have hrg := reloc_good Hg.out hsl hgood
          have Hnx : Hid (relocsFrom im 0 im.relocs = relocsFrom im (r.at_ + wideL im r) (im.relocs.drop (k + 1))) := Lib.hid (by rw [Hse.out, Hdc.out, relocsFrom_ok h1 hgood])
          have hw0 : 0 ≤ wideL im r := by
            unfold wideL
            split
            · rename_i s hs
              have := (Hsz.out s (symAt_range hs).2.2).1
              split <;> omega
            · omega
          obtain ⟨i0, i1, i2, i3, i4, i5, i6, i7, i8, i9, i10, i11, i12, i13, i14⟩ := img_cells HF3.out
          have r0 : w3.cell? ⟨wr.heap.size, 0, none⟩ = some (.int .i64 r.at_) := by rw [Lib.cell_of_heap HR3.out]; rfl
          have r1 : w3.cell? ⟨wr.heap.size, 1, none⟩ = some (.int .i64 r.kind) := by rw [Lib.cell_of_heap HR3.out]; rfl
          have r2 : w3.cell? ⟨wr.heap.size, 2, none⟩ = some (.int .i64 r.sym) := by rw [Lib.cell_of_heap HR3.out]; rfl
          have r3 : w3.cell? ⟨wr.heap.size, 3, none⟩ = some (.int .i64 r.add) := by rw [Lib.cell_of_heap HR3.out]; rfl
          have l0 := fun x : Later w3 => x.cell i0
          have l1 := fun x : Later w3 => x.cell i1
          have l2 := fun x : Later w3 => x.cell i2
          have l3 := fun x : Later w3 => x.cell i3
          have l4 := fun x : Later w3 => x.cell i4
          have l5 := fun x : Later w3 => x.cell i5
          have l6 := fun x : Later w3 => x.cell i6
          have l7 := fun x : Later w3 => x.cell i7
          have l8 := fun x : Later w3 => x.cell i8
          have l9 := fun x : Later w3 => x.cell i9
          have l10 := fun x : Later w3 => x.cell i10
          have l11 := fun x : Later w3 => x.cell i11
          have l12 := fun x : Later w3 => x.cell i12
          have l13 := fun x : Later w3 => x.cell i13
          have l14 := fun x : Later w3 => x.cell i14
          have m0 := fun x : Later w3 => x.cell r0
          have m1 := fun x : Later w3 => x.cell r1
          have m2 := fun x : Later w3 => x.cell r2
          have m3 := fun x : Later w3 => x.cell r3
          clear hrb hgood i0 i1 i2 i3 i4 i5 i6 i7 i8 i9 i10 i11 i12 i13 i14 r0 r1 r2 r3
          obtain ⟨wd, hwd⟩ : ∃ wd, wideL im r = wd := ⟨_, rfl⟩
          have HWr := Lib.hid (fun w' hb => HW.out w' r hb Hro.out)
          rw [hwd] at HWr hrg hw0 Hnx
          clear hwd
          go_wp2_with fail
          refine wp_region_later (by kernel_rfl) (by kernel_rfl) ?_
          repeat (go_big_quiet_step (first | (go_at_call 68; refine Later.call _ (HWr.out _ ?_); exact HB3.out.trans ((Later.h _).mono (by omega)))))
          refine wpQuiet_nil ?_
          rintro _ ⟨⟨wq, hq⟩, rfl⟩
          try simp only at hq
          have Hq := Lib.hid hq
          clear hq l0 l1 l2 l3 l4 l5 l6 l7 l8 l9 l10 l11 l12 l13 l14 m0 m1 m2 m3
          go_wp2
          go_roundw
          case rel =>
            have hq := Hq.out
            have := hq.size
            exact ⟨k + 1, r.at_ + wd, by go_num, rfl, by omega, by omega, by omega, Hnx.out, HB3.out.trans (hq.mono (by omega)), (hq.block w.heap.size (by omega)).trans HF3.out, by omega⟩
          case measure => simp [intOf]; omega
    · obtain ⟨i0, i1, i2, i3, i4, i5, i6, i7, i8, i9, i10, i11, i12, i13, i14⟩ := img_cells hF
      have hd : Hid (relocsB im = decide (im.relocs.length ≤ 512)) := Lib.hid (by rw [HD.out, Hse.out, List.drop_eq_nil_of_le (by omega)]; simp [relocsFrom])
      clear hbel hF i0 i1 i2 i3 i4 i5 i6 i7 i8 i10 i11 i12 i13 i14
      go_wp2
      go_ret
      exact ⟨ret_bool' (by rw [hd.out, Bool.eq_iff_iff]; simp; omega), Hbel.out⟩

end Go.Proofs.Ytbliedldlimpgaa

namespace Go.Proofs.Ytbliedldlimpgaa
set_option linter.unusedVariables false
set_option linter.unusedSimpArgs false
open Go.RowKit

/-- a slot's number are Go's -/
def SlotOk (s : SlotL) : Prop := (-9223372036854775808 ≤ s.sym ∧ s.sym ≤ 9223372036854775807) ∧ (-9223372036854775808 ≤ s.at_ ∧ s.at_ ≤ 9223372036854775807) ∧ (-9223372036854775808 ≤ s.stub ∧ s.stub ≤ 9223372036854775807)
def meetB (im : ImgL) (s : SlotL) (r : RelL) : Bool := decide (r.at_ < s.at_ + 8) && decide (s.at_ < r.at_ + wideL im r)
theorem slotB_parts (im : ImgL) (s : SlotL) : slotB im s = ((match symAt im s.sym with
   | some x => decide (x.kind = 1)
   | none => false) && holdsB im.segs s.at_ 8 0 && holdsB im.segs s.stub 8 4 && im.relocs.all fun r => !meetB im s r) := rfl
theorem slotsFrom_low {im : ImgL} {e : Int} {s : SlotL} {l : List SlotL} (h : ¬ e ≤ s.at_) : slotsFrom im e (s :: l) = false := by rw [slotsFrom, decide_eq_false (p := e ≤ s.at_) h]; rfl
theorem slotsFrom_bad {im : ImgL} {e : Int} {s : SlotL} {l : List SlotL} (h : slotB im s = false) : slotsFrom im e (s :: l) = false := by rw [slotsFrom, h]; simp
theorem slotsFrom_ok {im : ImgL} {e : Int} {s : SlotL} {l : List SlotL} (h : e ≤ s.at_) (h2 : slotB im s = true) : slotsFrom im e (s :: l) = slotsFrom im (s.at_ + 8) l := by rw [slotsFrom, h2, decide_eq_true (p := e ≤ s.at_) h]; rfl
theorem slotB_none {im : ImgL} {s : SlotL} (h : symAt im s.sym = none) : slotB im s = false := by rw [slotB_parts, h]; rfl
theorem slotB_kind {im : ImgL} {s : SlotL} {x : SymL} (h : symAt im s.sym = some x) (hk : x.kind ≠ 1) : slotB im s = false := by rw [slotB_parts, h]; simp [hk]
theorem slotB_at {im : ImgL} {s : SlotL} (h : holdsB im.segs s.at_ 8 0 = false) : slotB im s = false := by rw [slotB_parts, h]; simp
theorem slotB_stub {im : ImgL} {s : SlotL} (h : holdsB im.segs s.stub 8 4 = false) : slotB im s = false := by rw [slotB_parts, h]; simp
theorem slotB_meet {im : ImgL} {s : SlotL} {r : RelL} {q : Nat} (hr : im.relocs[q]? = some r) (h : meetB im s r = true) : slotB im s = false := by
  have : (im.relocs.all fun r => !meetB im s r) = false := by rw [List.all_eq_false]; exact ⟨r, List.mem_of_getElem? hr, by simp [h]⟩
  rw [slotB_parts, this]; simp
theorem slotB_ok {im : ImgL} {s : SlotL} {x : SymL} (h : symAt im s.sym = some x) (hk : x.kind = 1) (h1 : holdsB im.segs s.at_ 8 0 = true) (h2 : holdsB im.segs s.stub 8 4 = true) (h3 : (im.relocs.all fun r => !meetB im s r) = true) : slotB im s = true := by
  rw [slotB_parts, h, h1, h2, h3]; simp [hk]

set_option maxHeartbeats 16000000 in
set_option maxRecDepth 100000 in
theorem islots_any (w : World) (v : ImgV) (im : ImgL) (hs : LB kSeg (· < w.heap.size) w v.segs im.segs) (hg : segsB im.segs = true) (hy : LB kSym (· < w.heap.size) w v.syms im.syms)
    (hr : LB kRel (· < w.heap.size) w v.relocs im.relocs) (hrr : ∀ r ∈ im.relocs, RelOk r) (hrel : relocsB im = true) (hsz : ∀ s ∈ im.syms, 0 ≤ s.size ∧ s.size ≤ 9223372036854775807) (hsl : im.syms.length ≤ 512)
    (ht : LB kSlot (· < w.heap.size) w v.slots im.slots) (hto : ∀ s ∈ im.slots, SlotOk s) :
    Calls Try.prog 25 #[.agg (imgCells v im)] w fun e w' => e = .returned (.bool (slotsB im)) ∧ Below w.heap.size w w' := by
  obtain ⟨ra, rb, roff, rcap, hrv, hrm, hrc, hrat⟩ := hr.at
  obtain ⟨ta, tb, toff, tcap, htv, htm, htc, htat⟩ := ht.at
  obtain ⟨vsegs, vneeded, vrunPath, vsyms, vbuckets, vwords, vrelocs, vslots, vinit, vfini, vtls⟩ := v
  simp only at hrv htv
  subst hrv htv
  have HH : Hid (∀ (w' : World) (x n p : Int), Below w.heap.size w w' → (-9223372036854775808 ≤ x ∧ x ≤ 9223372036854775807) → (0 ≤ n ∧ n ≤ 9223372036854775807) → p = 0 ∨ p = 2 ∨ p = 4 →
    Calls Try.prog 59 #[.agg (imgCells ⟨vsegs, vneeded, vrunPath, vsyms, vbuckets, vwords, .slice ra im.relocs.length rcap, .slice ta im.slots.length tcap, vinit, vfini, vtls⟩ im), .agg #[.int .i64 x, .int .i64 n, .int .i64 p]] w' fun e w'' => e = .returned (.bool (holdsB im.segs x n p)) ∧ Below w'.heap.size w' w'') := Lib.hid (fun w' x n p hb hx hn hp => holds_any w' _ im x n p ((hs.below hb).mono hb.size) (segOk_of hg) hx hn hp)
  have HS : Hid (∀ (w' : World) (i : Int), Below w.heap.size w w' → (-9223372036854775808 ≤ i ∧ i ≤ 9223372036854775807) → Calls Try.prog 69 #[.agg (imgCells ⟨vsegs, vneeded, vrunPath, vsyms, vbuckets, vwords, .slice ra im.relocs.length rcap, .slice ta im.slots.length tcap, vinit, vfini, vtls⟩ im), .int .i64 i] w' fun e w'' => e = .returned (symV im i) ∧ Below w'.heap.size w' w'') := Lib.hid (fun w' i hb hi => isym_any w' _ im i ((hy.below hb).mono hb.size) hi)
  have HW : Hid (∀ (w' : World) (r : RelL), Below w.heap.size w w' → RelOk r →
    Calls Try.prog 68 #[.agg (imgCells ⟨vsegs, vneeded, vrunPath, vsyms, vbuckets, vwords, .slice ra im.relocs.length rcap, .slice ta im.slots.length tcap, vinit, vfini, vtls⟩ im), .agg #[.int .i64 r.at_, .int .i64 r.kind, .int .i64 r.sym, .int .i64 r.add]] w' fun e w'' => e = .returned (.int .i64 (wideL im r)) ∧ Below w'.heap.size w' w'') := Lib.hid (fun w' r hb hx => iwide_any w' _ im r ((hy.below hb).mono hb.size) hx.1)
  unfold imgCells at *
  have Hrat := Lib.hid hrat
  have Htat := Lib.hid htat
  have Hrr := Lib.hid hrr
  have Hto := Lib.hid hto
  have Hsz := Lib.hid hsz
  have HD : Hid (slotsB im = (decide (im.slots.length ≤ 128) && slotsFrom im 0 im.slots)) := Lib.hid rfl
  have Hg := Lib.hid hg
  have Hrel : Hid (∀ r ∈ im.relocs, relocB im r = true) := Lib.hid (by
    have h := hrel
    simp only [relocsB, Bool.and_eq_true] at h
    exact relocsFrom_each im _ _ h.2)
  clear hs hg hy hr hrr hrel hsz ht hto hrat htat
  generalize hI : (Array.mk [.string ⟨im.name.toArray⟩, .int .i64 im.flags, vsegs, vneeded, vrunPath, vsyms, vbuckets, vwords, .int .i64 im.shift, .slice ra im.relocs.length rcap, .slice ta im.slots.length tcap, vinit, vfini, vtls, .int .i64 im.tlsSize] : Array Value) = I at HH HS HW
  have F0 := Lib.hid (heap_alloc_new w (.cells I 38 (0, 0)))
  have B1 := Lib.hid ((Below.refl w.heap.size w).alloc (Nat.le_refl _) (.cells I 38 (0, 0)))
  subst hI
  go_enter Try.func25, Try.ntmps25
  go_wp2_with fail
  go_loopw [3, 13] (fun e i wr => ∃ (k : Nat) (x : Int), i = .int .i64 k ∧ e = .int .i64 x ∧ 0 ≤ x ∧ x ≤ 100000 ∧ k ≤ im.slots.length ∧ slotsFrom im 0 im.slots = slotsFrom im x (im.slots.drop k) ∧ Below w.heap.size w wr ∧
    wr.heap[w.heap.size]? = some (.cells #[.string ⟨im.name.toArray⟩, .int .i64 im.flags, vsegs, vneeded, vrunPath, vsyms, vbuckets, vwords, .int .i64 im.shift, .slice ra im.relocs.length rcap, .slice ta im.slots.length tcap, vinit, vfini, vtls, .int .i64 im.tlsSize] 38 (0, 0)) ∧ w.heap.size < wr.heap.size) (fun _ i _ => im.slots.length - (intOf i).toNat)
  case atStart => exact ⟨0, 0, rfl, rfl, by decide, by decide, Nat.zero_le _, by simp, B1.out, F0.out, by simp⟩
  case round =>
    obtain ⟨k, x, rfl, rfl, hx0, hx1, hk, hse, hbel, hF, hzq⟩ := hrel
    have Hse := Lib.hid hse
    have Hbel := Lib.hid hbel
    have hBr := hbel.size
    clear hse
    by_cases hlt : k < im.slots.length
    · obtain rfl := Htat.out.addr (by omega)
      obtain ⟨s, hx⟩ : ∃ s, im.slots[k]? = some s := ⟨_, List.getElem?_eq_getElem hlt⟩
      obtain ⟨g0, g1, g2⟩ := (Htat.out.below hbel).slot3 k s hx
      have hso := Hto.out s (List.mem_of_getElem? hx)
      have hsa := hso.2.1
      have Hso := Lib.hid hso
      have Hdc := Lib.hid (drop_cons im.slots k s hx)
      have hsb := World.block_lt_of_cell? _ _ g0
      have HFs := Lib.hid (heap_alloc_new wr (.cells #[.int .i64 s.at_, .int .i64 s.sym, .int .i64 s.stub] 69 (0, 0)))
      have HFi := Lib.hid ((heap_alloc_old wr (.cells #[.int .i64 s.at_, .int .i64 s.sym, .int .i64 s.stub] 69 (0, 0)) hzq).trans hF)
      have HBs := Lib.hid (Hbel.out.alloc hBr (.cells #[.int .i64 s.at_, .int .i64 s.sym, .int .i64 s.stub] 69 (0, 0)))
      clear hx hbel hF Hbel hso
      go_upto_region 5 with fail
      have hz1 : (wr.alloc (.cells #[.int .i64 s.at_, .int .i64 s.sym, .int .i64 s.stub] 69 (0, 0))).heap.size = wr.heap.size + 1 := by simp
      generalize wr.alloc (.cells #[.int .i64 s.at_, .int .i64 s.sym, .int .i64 s.stub] 69 (0, 0)) = w1 at *
      generalize wr.heap.size = zs at *
      have t0 : w1.cell? ⟨zs, 0, none⟩ = some (.int .i64 s.at_) := by rw [Lib.cell_of_heap HFs.out]; rfl
      have t1 : w1.cell? ⟨zs, 1, none⟩ = some (.int .i64 s.sym) := by rw [Lib.cell_of_heap HFs.out]; rfl
      have t2 : w1.cell? ⟨zs, 2, none⟩ = some (.int .i64 s.stub) := by rw [Lib.cell_of_heap HFs.out]; rfl
      obtain ⟨i0, i1, i2, i3, i4, i5, i6, i7, i8, i9, i10, i11, i12, i13, i14⟩ := img_cells HFi.out
      clear g0 g1 g2
      go_wp2_with fail
      refine (HS.out w1 s.sym HBs.out Hso.out.1).mono ?_
      rintro e w2 ⟨rfl, hb2⟩
      have hz2 := hb2.size
      have F2 := Lib.hid ((hb2.block w.heap.size (by omega)).trans HFi.out)
      have S2 := Lib.hid ((hb2.block zs (by omega)).trans HFs.out)
      have B2 := Lib.hid (HBs.out.trans (hb2.mono (by omega)))
      clear hb2 i0 i1 i2 i3 i4 i5 i6 i7 i8 i9 i10 i11 i12 i13 i14 t0 t1 t2
      cases hsy : symAt im s.sym with
      | none =>
        have hv : symV im s.sym = .tuple #[.agg #[.string ⟨#[]⟩, .string ⟨#[]⟩, .bool false, .int .i64 0, .bool false, .int .i64 0, .bool false, .int .i64 0, .int .i64 0], .bool false] := by rw [symV, symD, hsy]; rfl
        rw [hv]
        have Hn : Hid (slotsB im = false) := Lib.hid (by rw [HD.out, Hse.out, Hdc.out, slotsFrom_bad (slotB_none hsy)]; simp)
        have B3 := Lib.hid (B2.out.alloc (by omega) (.cells #[.string ⟨#[]⟩, .string ⟨#[]⟩, .bool false, .int .i64 0, .bool false, .int .i64 0, .bool false, .int .i64 0, .int .i64 0] 54 (0, 0)))
        clear hv hsy
        go_wp2
        go_ret
        exact ⟨by rw [Hn.out]; rfl, B3.out⟩
      | some y =>
        have hv : symV im s.sym = .tuple #[.agg #[.string ⟨y.name.toArray⟩, .string ⟨y.version.toArray⟩, .bool y.old, .int .i64 y.kind, .bool y.weak, .int .i64 y.vis, .bool y.defined, .int .i64 y.value, .int .i64 y.size], .bool true] := by rw [symV, symD, hsy]; rfl
        rw [hv]
        have Hsy := Lib.hid hsy
        have Y3 := Lib.hid (heap_alloc_new w2 (.cells #[.string ⟨y.name.toArray⟩, .string ⟨y.version.toArray⟩, .bool y.old, .int .i64 y.kind, .bool y.weak, .int .i64 y.vis, .bool y.defined, .int .i64 y.value, .int .i64 y.size] 54 (0, 0)))
        have S3 := Lib.hid ((heap_alloc_old w2 (.cells #[.string ⟨y.name.toArray⟩, .string ⟨y.version.toArray⟩, .bool y.old, .int .i64 y.kind, .bool y.weak, .int .i64 y.vis, .bool y.defined, .int .i64 y.value, .int .i64 y.size] 54 (0, 0)) (r := zs) (by omega)).trans S2.out)
        have F3 := Lib.hid ((heap_alloc_old w2 (.cells #[.string ⟨y.name.toArray⟩, .string ⟨y.version.toArray⟩, .bool y.old, .int .i64 y.kind, .bool y.weak, .int .i64 y.vis, .bool y.defined, .int .i64 y.value, .int .i64 y.size] 54 (0, 0)) (r := w.heap.size) (by omega)).trans F2.out)
        have B3 := Lib.hid (B2.out.alloc (by omega) (.cells #[.string ⟨y.name.toArray⟩, .string ⟨y.version.toArray⟩, .bool y.old, .int .i64 y.kind, .bool y.weak, .int .i64 y.vis, .bool y.defined, .int .i64 y.value, .int .i64 y.size] 54 (0, 0)))
        clear hv hsy S2 F2 B2
        go_upto_region 6 with fail
        have hz3 : (w2.alloc (.cells #[.string ⟨y.name.toArray⟩, .string ⟨y.version.toArray⟩, .bool y.old, .int .i64 y.kind, .bool y.weak, .int .i64 y.vis, .bool y.defined, .int .i64 y.value, .int .i64 y.size] 54 (0, 0))).heap.size = w2.heap.size + 1 := by simp
        generalize w2.alloc (.cells #[.string ⟨y.name.toArray⟩, .string ⟨y.version.toArray⟩, .bool y.old, .int .i64 y.kind, .bool y.weak, .int .i64 y.vis, .bool y.defined, .int .i64 y.value, .int .i64 y.size] 54 (0, 0)) = w3 at *
        obtain ⟨y0, y1, y2, y3, y4, y5, y6, y7, y8⟩ := sym_cells Y3.out
        have t0 : w3.cell? ⟨zs, 0, none⟩ = some (.int .i64 s.at_) := by rw [Lib.cell_of_heap S3.out]; rfl
        have t2 : w3.cell? ⟨zs, 2, none⟩ = some (.int .i64 s.stub) := by rw [Lib.cell_of_heap S3.out]; rfl
        by_cases hk1 : y.kind = 1
        case neg =>
          have Hn : Hid (slotsB im = false) := Lib.hid (by rw [HD.out, Hse.out, Hdc.out, slotsFrom_bad (slotB_kind Hsy.out hk1)]; simp)
          have b1 : (y.kind != 1) = true := by rw [bne_iff_ne]; exact hk1
          go_wp2
          go_ret
          exact ⟨by rw [Hn.out]; rfl, B3.out⟩
        have b1 : (y.kind != 1) = false := by rw [bne_eq_false_iff_eq]; exact hk1
        by_cases h1 : x ≤ s.at_
        case neg =>
          have Hn : Hid (slotsB im = false) := Lib.hid (by rw [HD.out, Hse.out, Hdc.out, slotsFrom_low h1]; simp)
          have hd : decide (s.at_ < x) = true := by rw [decide_eq_true_eq]; omega
          go_wp2
          go_ret
          exact ⟨by rw [Hn.out]; rfl, B3.out⟩
        have hd : decide (s.at_ < x) = false := by rw [decide_eq_false_iff_not]; omega
        obtain ⟨i0, i1, i2, i3, i4, i5, i6, i7, i8, i9, i10, i11, i12, i13, i14⟩ := img_cells F3.out
        have HH1 := Lib.hid (HH.out w3 s.at_ 8 0 B3.out Hso.out.2.1 (by decide) (by decide))
        go_wp2_with fail
        refine HH1.out.mono ?_
        rintro e w4 ⟨rfl, hb4⟩
        have hz4 := hb4.size
        have F4 := Lib.hid ((hb4.block w.heap.size (by omega)).trans F3.out)
        have S4 := Lib.hid ((hb4.block zs (by omega)).trans S3.out)
        have B4 := Lib.hid (B3.out.trans (hb4.mono (by omega)))
        clear hb4 i0 i1 i2 i3 i4 i5 i6 i7 i8 i9 i10 i11 i12 i13 i14 t0 t2 y0 y1 y2 y3 y4 y5 y6 y7 y8 Y3 HH1
        cases hh1 : holdsB im.segs s.at_ 8 0 with
        | false =>
          have Hn : Hid (slotsB im = false) := Lib.hid (by rw [HD.out, Hse.out, Hdc.out, slotsFrom_bad (slotB_at hh1)]; simp)
          clear hh1
          go_wp2
          go_ret
          exact ⟨by rw [Hn.out]; rfl, B4.out⟩
        | true =>
          have hat := holds_range (segs_good Hg.out) hh1
          have Hh1 := Lib.hid hh1
          clear hh1
          obtain ⟨i0, i1, i2, i3, i4, i5, i6, i7, i8, i9, i10, i11, i12, i13, i14⟩ := img_cells F4.out
          have t0 : w4.cell? ⟨zs, 0, none⟩ = some (.int .i64 s.at_) := by rw [Lib.cell_of_heap S4.out]; rfl
          have t2 : w4.cell? ⟨zs, 2, none⟩ = some (.int .i64 s.stub) := by rw [Lib.cell_of_heap S4.out]; rfl
          have HH2 := Lib.hid (HH.out w4 s.stub 8 4 B4.out Hso.out.2.2 (by decide) (by decide))
          go_wp2_with fail
          refine HH2.out.mono ?_
          rintro e w5 ⟨rfl, hb5⟩
          have hz5 := hb5.size
          have F5 := Lib.hid ((hb5.block w.heap.size (by omega)).trans F4.out)
          have S5 := Lib.hid ((hb5.block zs (by omega)).trans S4.out)
          have B5 := Lib.hid (B4.out.trans (hb5.mono (by omega)))
          clear hb5 i0 i1 i2 i3 i4 i5 i6 i7 i8 i9 i10 i11 i12 i13 i14 t0 t2 HH2
          cases hh2 : holdsB im.segs s.stub 8 4 with
          | false =>
            have Hn : Hid (slotsB im = false) := Lib.hid (by rw [HD.out, Hse.out, Hdc.out, slotsFrom_bad (slotB_stub hh2)]; simp)
            clear hh2
            go_wp2
            go_ret
            exact ⟨by rw [Hn.out]; rfl, B5.out⟩
          | true =>
            have Hh2 := Lib.hid hh2
            clear hh2
            obtain ⟨i0, i1, i2, i3, i4, i5, i6, i7, i8, i9, i10, i11, i12, i13, i14⟩ := img_cells F5.out
            clear i0 i1 i2 i3 i4 i5 i6 i7 i8 i10 i11 i12 i13 i14
            go_wp2_with fail
            go_loopw [56] (fun i wi => ∃ (q : Nat), i = .int .i64 q ∧ q ≤ im.relocs.length ∧ (im.relocs.take q).all (fun r => !meetB im s r) = true ∧ Below w5.heap.size w5 wi) (fun i _ => im.relocs.length - (intOf i).toNat)
            case atStart => exact ⟨0, rfl, Nat.zero_le _, rfl, Below.refl _ _⟩
            case round =>
              obtain ⟨q, rfl, hq, hall, hbi⟩ := hrel
              have Hall := Lib.hid hall
              have Hbi := Lib.hid hbi
              have hzi := hbi.size
              clear hall
              have F6 := (hbi.block w.heap.size (by omega)).trans F5.out
              have S6 := (hbi.block zs (by omega)).trans S5.out
              by_cases hlt2 : q < im.relocs.length
              · obtain rfl := Hrat.out.addr (by omega)
                obtain ⟨r, hxr⟩ : ∃ r, im.relocs[q]? = some r := ⟨_, List.getElem?_eq_getElem hlt2⟩
                obtain ⟨g0, g1, g2, g3⟩ := (Hrat.out.below (B5.out.trans (hbi.mono (by omega)))).rel4 q r hxr
                have hro := Hrr.out r (List.mem_of_getElem? hxr)
                have hrg := reloc_good Hg.out hsl (Hrel.out r (List.mem_of_getElem? hxr))
                have Hsq := Lib.hid (all_take_snoc (fun r => !meetB im s r) im.relocs q r hxr)
                have Hbad := Lib.hid (slotB_meet (im := im) (s := s) hxr)
                have Hm : Hid (meetB im s r = (decide (r.at_ < s.at_ + 8) && decide (s.at_ < r.at_ + wideL im r))) := Lib.hid rfl
                have hw0 : 0 ≤ wideL im r := by
                  unfold wideL
                  split
                  · rename_i s' hs'
                    have := (Hsz.out s' (symAt_range hs').2.2).1
                    split <;> omega
                  · omega
                have Hro := Lib.hid hro
                obtain ⟨wd, hwd⟩ : ∃ wd, wideL im r = wd := ⟨_, rfl⟩
                have HWr := Lib.hid (fun w' hb => HW.out w' r hb Hro.out)
                rw [hwd] at HWr hrg hw0 Hm
                have hsbw := World.block_lt_of_cell? _ _ g0
                have R7 := heap_alloc_new wr (.cells #[.int .i64 r.at_, .int .i64 r.kind, .int .i64 r.sym, .int .i64 r.add] 57 (0, 0))
                have F7 := (heap_alloc_old wr (.cells #[.int .i64 r.at_, .int .i64 r.kind, .int .i64 r.sym, .int .i64 r.add] 57 (0, 0)) (r := w.heap.size) (by omega)).trans F6
                have S7 := (heap_alloc_old wr (.cells #[.int .i64 r.at_, .int .i64 r.kind, .int .i64 r.sym, .int .i64 r.add] 57 (0, 0)) (r := zs) (by omega)).trans S6
                have B7 := Lib.hid (Hbi.out.alloc hzi (.cells #[.int .i64 r.at_, .int .i64 r.kind, .int .i64 r.sym, .int .i64 r.add] 57 (0, 0)))
                clear hxr hbi Hbi hro hwd F6 S6
                go_upto_region 11 with fail
                have hz7 : (wr.alloc (.cells #[.int .i64 r.at_, .int .i64 r.kind, .int .i64 r.sym, .int .i64 r.add] 57 (0, 0))).heap.size = wr.heap.size + 1 := by simp
                generalize wr.alloc (.cells #[.int .i64 r.at_, .int .i64 r.kind, .int .i64 r.sym, .int .i64 r.add] 57 (0, 0)) = w7 at *
                have t0 : w7.cell? ⟨zs, 0, none⟩ = some (.int .i64 s.at_) := by rw [Lib.cell_of_heap S7]; rfl
                have r0 : w7.cell? ⟨wr.heap.size, 0, none⟩ = some (.int .i64 r.at_) := by rw [Lib.cell_of_heap R7]; rfl
                have r1 : w7.cell? ⟨wr.heap.size, 1, none⟩ = some (.int .i64 r.kind) := by rw [Lib.cell_of_heap R7]; rfl
                have r2 : w7.cell? ⟨wr.heap.size, 2, none⟩ = some (.int .i64 r.sym) := by rw [Lib.cell_of_heap R7]; rfl
                have r3 : w7.cell? ⟨wr.heap.size, 3, none⟩ = some (.int .i64 r.add) := by rw [Lib.cell_of_heap R7]; rfl
                obtain ⟨i0, i1, i2, i3, i4, i5, i6, i7, i8, i9, i10, i11, i12, i13, i14⟩ := img_cells F7
                have l0 := fun x : Later w7 => x.cell i0
                have l1 := fun x : Later w7 => x.cell i1
                have l2 := fun x : Later w7 => x.cell i2
                have l3 := fun x : Later w7 => x.cell i3
                have l4 := fun x : Later w7 => x.cell i4
                have l5 := fun x : Later w7 => x.cell i5
                have l6 := fun x : Later w7 => x.cell i6
                have l7 := fun x : Later w7 => x.cell i7
                have l8 := fun x : Later w7 => x.cell i8
                have l9 := fun x : Later w7 => x.cell i9
                have l10 := fun x : Later w7 => x.cell i10
                have l11 := fun x : Later w7 => x.cell i11
                have l12 := fun x : Later w7 => x.cell i12
                have l13 := fun x : Later w7 => x.cell i13
                have l14 := fun x : Later w7 => x.cell i14
                have n0 := fun x : Later w7 => x.cell t0
                have m0 := fun x : Later w7 => x.cell r0
                have m1 := fun x : Later w7 => x.cell r1
                have m2 := fun x : Later w7 => x.cell r2
                have m3 := fun x : Later w7 => x.cell r3
                clear i0 i1 i2 i3 i4 i5 i6 i7 i8 i9 i10 i11 i12 i13 i14 t0 r0 r1 r2 r3 g0 g1 g2 g3 R7 F7 S7
                by_cases hm1 : r.at_ < s.at_ + 8
                case neg =>
                  have Hmf : Hid (meetB im s r = false) := Lib.hid (by rw [Hm.out, decide_eq_false (p := r.at_ < s.at_ + 8) hm1]; rfl)
                  have hd1 : decide (r.at_ < s.at_ + 8) = false := by rw [decide_eq_false_iff_not]; omega
                  refine wp_region_later (by kernel_rfl) (by kernel_rfl) ?_
                  repeat (go_big_quiet_step (fail))
                  refine wpQuiet_nil ?_
                  rintro _ ⟨⟨wq, hq⟩, rfl⟩
                  try simp only at hq
                  have Hq := Lib.hid hq
                  clear hq l0 l1 l2 l3 l4 l5 l6 l7 l8 l9 l10 l11 l12 l13 l14 n0 m0 m1 m2 m3
                  go_wp2
                  go_roundw
                  case rel => exact ⟨q + 1, by go_num, by omega, by rw [Hsq.out, Hall.out, Hmf.out]; rfl, B7.out.trans (Hq.out.mono (by omega))⟩
                  case measure => simp [intOf]; omega
                have hd1 : decide (r.at_ < s.at_ + 8) = true := by rw [decide_eq_true_eq]; omega
                by_cases hm2 : s.at_ < r.at_ + wd
                case pos =>
                  have Hn : Hid (slotsB im = false) := Lib.hid (by rw [HD.out, Hse.out, Hdc.out, slotsFrom_bad (Hbad.out (by rw [Hm.out, decide_eq_true (p := r.at_ < s.at_ + 8) hm1, decide_eq_true (p := s.at_ < r.at_ + wd) hm2]; rfl))]; simp)
                  have hd2 : decide (s.at_ < r.at_ + wd) = true := by rw [decide_eq_true_eq]; omega
                  refine wp_region_later (by kernel_rfl) (by kernel_rfl) ?_
                  repeat (go_big_quiet_step (first | (go_at_call 68; refine Later.call _ (HWr.out _ ?_); exact (B5.out.trans (B7.out.mono (by omega))).trans ((Later.h _).mono (by omega)))))
                  refine wpQuiet_nil ?_
                  rintro _ ⟨⟨wq, hq⟩, rfl⟩
                  try simp only at hq
                  have Hq := Lib.hid hq
                  clear hq l0 l1 l2 l3 l4 l5 l6 l7 l8 l9 l10 l11 l12 l13 l14 n0 m0 m1 m2 m3
                  go_wp2
                  go_ret
                  exact ⟨by rw [Hn.out]; rfl, (B5.out.trans (B7.out.mono (by omega))).trans (Hq.out.mono (by omega))⟩
                have Hmf : Hid (meetB im s r = false) := Lib.hid (by rw [Hm.out, decide_eq_false (p := s.at_ < r.at_ + wd) hm2]; simp)
                have hd2 : decide (s.at_ < r.at_ + wd) = false := by rw [decide_eq_false_iff_not]; omega
                refine wp_region_later (by kernel_rfl) (by kernel_rfl) ?_
                repeat (go_big_quiet_step (first | (go_at_call 68; refine Later.call _ (HWr.out _ ?_); exact (B5.out.trans (B7.out.mono (by omega))).trans ((Later.h _).mono (by omega)))))
                refine wpQuiet_nil ?_
                rintro _ ⟨⟨wq, hq⟩, rfl⟩
                try simp only at hq
                have Hq := Lib.hid hq
                clear hq l0 l1 l2 l3 l4 l5 l6 l7 l8 l9 l10 l11 l12 l13 l14 n0 m0 m1 m2 m3
                go_wp2
                go_roundw
                case rel => exact ⟨q + 1, by go_num, by omega, by rw [Hsq.out, Hall.out, Hmf.out]; rfl, B7.out.trans (Hq.out.mono (by omega))⟩
                case measure => simp [intOf]; omega
              · have Hall2 : Hid ((im.relocs.all fun r => !meetB im s r) = true) := Lib.hid (by have := Hall.out; rwa [List.take_of_length_le (by omega)] at this)
                have hok := slotB_ok Hsy.out hk1 Hh1.out Hh2.out Hall2.out
                have Hnx : Hid (slotsFrom im 0 im.slots = slotsFrom im (s.at_ + 8) (im.slots.drop (k + 1))) := Lib.hid (by rw [Hse.out, Hdc.out, slotsFrom_ok h1 hok])
                have t0 : wr.cell? ⟨zs, 0, none⟩ = some (.int .i64 s.at_) := by rw [Lib.cell_of_heap S6]; rfl
                have HF6 := Lib.hid F6
                clear hok hbi F6 S6
                go_wp2
                go_roundw
                case rel => exact ⟨k + 1, s.at_ + 8, by go_num, by first | rfl | go_num, by omega, by omega, by omega, Hnx.out, B5.out.trans (Hbi.out.mono (by omega)), HF6.out, by omega⟩
                case measure => simp [intOf]; omega
    · obtain ⟨i0, i1, i2, i3, i4, i5, i6, i7, i8, i9, i10, i11, i12, i13, i14⟩ := img_cells hF
      have hd : Hid (slotsB im = decide (im.slots.length ≤ 128)) := Lib.hid (by rw [HD.out, Hse.out, List.drop_eq_nil_of_le (by omega)]; simp [slotsFrom])
      clear hbel hF i0 i1 i2 i3 i4 i5 i6 i7 i8 i9 i11 i12 i13 i14
      go_wp2
      go_ret
      exact ⟨ret_bool' (by rw [hd.out, Bool.eq_iff_iff]; simp; omega), Hbel.out⟩

end Go.Proofs.Ytbliedldlimpgaa

namespace Go.Proofs.Ytbliedldlimpgaa
set_option linter.unusedVariables false
set_option linter.unusedSimpArgs false
open Go.RowKit

theorem hashL_app : ∀ (a b : List UInt8) (h : Int), hashL h (a ++ b) = hashL (hashL h a) b
  | [], _, _ => rfl
  | c :: a, b, h => hashL_app a b _
theorem hashL_snoc (h : Int) (p : List UInt8) (k : Nat) (c : UInt8) (hk : k < p.length) (hc : p[k] = c) : hashL h (p.take (k + 1)) = (33 * hashL h (p.take k) + c.toNat) % 4294967296 := by
  rw [List.take_succ_eq_append_getElem hk, hashL_app, hc]; rfl
theorem hashL_range : ∀ (l : List UInt8) (h : Int), 0 ≤ h ∧ h < 4294967296 → 0 ≤ hashL h l ∧ hashL h l < 4294967296
  | [], _, hh => hh
  | c :: l, h, hh => hashL_range l _ ⟨Int.emod_nonneg _ (by decide), Int.emod_lt_of_pos _ (by decide)⟩
theorem more_wrap (hh : Int) (c : UInt8) (h : 0 ≤ hh ∧ hh < 4294967296) : (IntKind.u64.wrap (hh * 33 + IntKind.u64.wrap (c.toNat : Int))).tmod 4294967296 = (33 * hh + (c.toNat : Int)) % 4294967296 := by
  have hc := c.toNat_lt
  have h1 : IntKind.u64.wrap (c.toNat : Int) = (c.toNat : Int) := IntWalk.u64_in _ ⟨by omega, by omega⟩
  have h2 : IntKind.u64.wrap (hh * 33 + (c.toNat : Int)) = hh * 33 + (c.toNat : Int) := IntWalk.u64_in _ ⟨by omega, by omega⟩
  rw [h1, h2, Int.tmod_eq_emod_of_nonneg (by omega), Int.mul_comm]
theorem hashB_range (s : List UInt8) : 0 ≤ hashB s ∧ hashB s < 4294967296 := hashL_range s 5381 (by decide)

set_option maxHeartbeats 4000000 in
set_option maxRecDepth 100000 in
theorem shash_any (w : World) (p : List UInt8) (hp : p.length ≤ 9223372036854775807) :
    Calls Try.prog 64 #[.string ⟨p.toArray⟩] w fun e w' => e = .returned (.int .u32 (hashB p)) ∧ w' = w := by
  have hsz := size_mk p
  go_enter Try.func64, Try.ntmps64
  go_wp2
  go_loop [3, 7] (fun h i => ∃ k : Nat, k ≤ p.length ∧ i = .int .i64 k ∧ h = .int .u32 (hashL 5381 (p.take k))) (fun _ i => p.length - (intOf i).toNat)
  case atStart => exact ⟨0, Nat.zero_le _, rfl, rfl⟩
  case round =>
    obtain ⟨k, hk, rfl, rfl⟩ := hrel
    by_cases hlt : k < p.length
    · obtain ⟨c, hcx⟩ : ∃ c, p[k] = c := ⟨_, rfl⟩
      have hx : (⟨p.toArray⟩ : ByteArray)[k]'(by omega) = c := hcx
      have Hs := Lib.hid (hashL_snoc 5381 p k c hlt hcx)
      have hr := hashL_range (p.take k) 5381 (by decide)
      clear hcx
      generalize hashL 5381 (p.take k) = hh at *
      go_wp2
      go_round
      case rel => exact ⟨k + 1, by omega, by go_num, by rw [Hs.out]; go_num⟩
      case measure => simp [intOf]; omega
    · have He : Hid (hashL 5381 (p.take k) = hashB p) := Lib.hid (by rw [List.take_of_length_le (by omega)]; rfl)
      go_wp2
      go_ret
      exact ⟨by rw [He.out]; rfl, rfl⟩

set_option maxHeartbeats 4000000 in
set_option maxRecDepth 100000 in
theorem jmore_any (w : World) (h0 : Int) (p : List UInt8) (hp : p.length ≤ 9223372036854775807) (hh0 : 0 ≤ h0 ∧ h0 < 4294967296) :
    Calls Try.prog 98 #[.int .u32 h0, .string ⟨p.toArray⟩] w fun e w' => e = .returned (.int .u32 (hashL h0 p)) ∧ w' = w := by
  have hsz := size_mk p
  go_enter Try.func98, Try.ntmps98
  go_wp2
  go_loop [5, 6] (fun h i => ∃ k : Nat, k ≤ p.length ∧ i = .int .i64 k ∧ h = .int .u64 (hashL h0 (p.take k))) (fun _ i => p.length - (intOf i).toNat)
  case atStart => exact ⟨0, Nat.zero_le _, rfl, by go_num⟩
  case round =>
    obtain ⟨k, hk, rfl, rfl⟩ := hrel
    have hr := hashL_range (p.take k) h0 hh0
    by_cases hlt : k < p.length
    · obtain ⟨c, hcx⟩ : ∃ c, p[k] = c := ⟨_, rfl⟩
      have hx : (⟨p.toArray⟩ : ByteArray)[k]'(by omega) = c := hcx
      have Hs := Lib.hid (hashL_snoc h0 p k c hlt hcx)
      clear hcx
      generalize hashL h0 (p.take k) = hh at *
      go_wp2
      go_round
      case rel => exact ⟨k + 1, by omega, by go_num, by rw [Hs.out, ← more_wrap hh c hr]⟩
      case measure => simp [intOf]; omega
    · have He : Hid (hashL h0 (p.take k) = hashL h0 p) := Lib.hid (by rw [List.take_of_length_le (by omega)])
      generalize hashL h0 (p.take k) = hh at *
      go_wp2
      go_ret
      exact ⟨by rw [← He.out]; go_num, rfl⟩

set_option maxHeartbeats 1000000 in
theorem jhash_any (w : World) (p : List UInt8) (hp : p.length ≤ 9223372036854775807) :
    Calls Try.prog 79 #[.string ⟨p.toArray⟩] w fun e w' => e = .returned (.int .u32 (hashB p)) ∧ w' = w := by
  go_enter Try.func79, Try.ntmps79
  go_wp2_with fail
  refine (jmore_any _ 5381 p hp (by decide)).mono ?_
  rintro e w2 ⟨rfl, rfl⟩
  go_wp2
  go_ret
  exact ⟨rfl, rfl⟩

end Go.Proofs.Ytbliedldlimpgaa

namespace Go.Proofs.Ytbliedldlimpgaa
set_option linter.unusedVariables false
set_option linter.unusedSimpArgs false
open Go.RowKit

def powB (n : Nat) : Bool := decide (n = 1) || decide (n = 2) || decide (n = 4) || decide (n = 8) || decide (n = 16) || decide (n = 32) || decide (n = 64)
theorem sieveB_pow (ws : List Int) (s : Int) : sieveB ws s = (powB ws.length && decide (1 ≤ s) && decide (s ≤ 31)) := rfl
theorem powB_bits (n : Nat) (h0 : 1 ≤ n) (h1 : n ≤ 64) : (bits BinOp.and .i64 (n : Int) ((n : Int) - 1) != 0) = !powB n := by
  have h : ∀ m : Nat, m ≤ 64 → 1 ≤ m → (bits BinOp.and .i64 (m : Int) ((m : Int) - 1) != 0) = !powB m := by decide +kernel
  exact h n h1 h0
theorem powB_small (n : Nat) (h : ¬ (1 ≤ n ∧ n ≤ 64)) : powB n = false := by simp [powB]; omega
/-- what sieve.Right answers -/
def sieveErr (ws : List Int) (s : Int) : Int := if sieveB ws s then 0 else 20
theorem sieveErr_ok {ws : List Int} {s : Int} (h : powB ws.length = true) (h1 : 1 ≤ s) (h2 : s ≤ 31) : sieveErr ws s = 0 := by rw [sieveErr, sieveB_pow, h]; simp [h1, h2]
theorem sieveErr_no {ws : List Int} {s : Int} (h : ¬ (powB ws.length = true ∧ 1 ≤ s ∧ s ≤ 31)) : sieveErr ws s = 20 := by
  have : sieveB ws s = false := by
    rw [sieveB_pow]
    cases hp : powB ws.length <;> simp
    by_cases h1 : 1 ≤ s
    · exact fun _ => by
        by_cases h2 : s ≤ 31
        · exact absurd ⟨hp, h1, h2⟩ h
        · omega
    · intro h3; omega
  rw [sieveErr, this]; rfl

set_option maxHeartbeats 8000000 in
set_option maxRecDepth 100000 in
theorem sright_any (w : World) (ws : List Int) (a : Option Addr) (c : Nat) (s : Int) (hz : ws.length ≤ 9223372036854775807) :
    Calls Try.prog 60 #[.agg #[.slice a ws.length c, .int .i64 s]] w fun e w' => e = .returned (.int .i64 (sieveErr ws s)) ∧ Below w.heap.size w w' := by
  have Hb := Lib.hid ((Below.refl w.heap.size w).alloc (Nat.le_refl _) (.cells #[.slice a ws.length c, .int .i64 s] 30 (0, 0)))
  by_cases h1 : 1 ≤ ws.length
  case neg =>
    have Hr := Lib.hid (sieveErr_no (ws := ws) (s := s) (fun h => by have := h.1; rw [powB_small _ (by omega)] at this; cases this))
    have hl : ws.length < 1 := by omega
    go_enter Try.func60, Try.ntmps60
    go_wp2
    all_goals go_ret
    all_goals exact ⟨by rw [Hr.out]; rfl, Hb.out⟩
  by_cases h2 : ws.length ≤ 64
  case neg =>
    have Hr := Lib.hid (sieveErr_no (ws := ws) (s := s) (fun h => by have := h.1; rw [powB_small _ (by omega)] at this; cases this))
    have hl : ¬ ws.length < 1 := by omega
    have hl2 : 64 < ws.length := by omega
    go_enter Try.func60, Try.ntmps60
    go_wp2
    all_goals go_ret
    all_goals exact ⟨by rw [Hr.out]; rfl, Hb.out⟩
  have hl : ¬ ws.length < 1 := by omega
  have hl2 : ¬ 64 < ws.length := by omega
  have hbits := powB_bits ws.length h1 h2
  cases hp : powB ws.length with
  | false =>
    have Hr := Lib.hid (sieveErr_no (ws := ws) (s := s) (fun h => by have := h.1; rw [hp] at this; cases this))
    rw [hp] at hbits
    clear hp
    simp only [Bool.not_false] at hbits
    go_enter Try.func60, Try.ntmps60
    go_wp2
    all_goals go_ret
    all_goals exact ⟨by rw [Hr.out]; rfl, Hb.out⟩
  | true =>
    have Hy := Lib.hid (fun h3 h4 => sieveErr_ok (ws := ws) (s := s) hp h3 h4)
    have Hn := Lib.hid (fun h3 => sieveErr_no (ws := ws) (s := s) h3)
    rw [hp] at hbits
    clear hp
    simp only [Bool.not_true] at hbits
    by_cases h3 : s < 1
    · have Hr := Lib.hid (Hn.out (fun h => by omega))
      go_enter Try.func60, Try.ntmps60
      go_wp2
      all_goals go_ret
      all_goals exact ⟨by rw [Hr.out]; rfl, Hb.out⟩
    by_cases h4 : 31 < s
    · have Hr := Lib.hid (Hn.out (fun h => by omega))
      go_enter Try.func60, Try.ntmps60
      go_wp2
      all_goals go_ret
      all_goals exact ⟨by rw [Hr.out]; rfl, Hb.out⟩
    · have Hr := Lib.hid (Hy.out (by omega) (by omega))
      go_enter Try.func60, Try.ntmps60
      go_wp2
      all_goals go_ret
      all_goals exact ⟨by rw [Hr.out]; rfl, Hb.out⟩

end Go.Proofs.Ytbliedldlimpgaa

namespace Go.Proofs.Ytbliedldlimpgaa
set_option linter.unusedVariables false
set_option linter.unusedSimpArgs false
open Go.RowKit

theorem powB_iff (n : Nat) : powB n = true ↔ (n = 1 ∨ n = 2 ∨ n = 4 ∨ n = 8 ∨ n = 16 ∨ n = 32 ∨ n = 64) := by
  simp only [powB, Bool.or_eq_true, decide_eq_true_eq]; omega
theorem powB_next {n k : Nat} (hk : k = 1 ∨ k = 2 ∨ k = 4 ∨ k = 8 ∨ k = 16 ∨ k = 32 ∨ k = 64 ∨ k = 128) (h : powB n = true → k ≤ n) (hn : n ≠ k) : powB n = true → k * 2 ≤ n := by
  intro hp
  have h1 := h hp
  rw [powB_iff] at hp
  omega
theorem powB_at {n k : Nat} (hk : k = 1 ∨ k = 2 ∨ k = 4 ∨ k = 8 ∨ k = 16 ∨ k = 32 ∨ k = 64 ∨ k = 128) (h2 : k ≤ 64) (hn : n = k) : powB n = true := by rw [powB_iff]; omega
theorem powB_end {n k : Nat} (h : powB n = true → k ≤ n) (h2 : ¬ k ≤ 64) : powB n = false := by
  cases hp : powB n with
  | false => rfl
  | true =>
    have h1 := h hp
    rw [powB_iff] at hp
    omega

set_option maxHeartbeats 4000000 in
set_option maxRecDepth 100000 in
theorem jwords_any (w : World) (n : Nat) (hz : n ≤ 9223372036854775807) :
    Calls Try.prog 96 #[.int .i64 n] w fun e w' => e = .returned (.bool (powB n)) ∧ w' = w := by
  go_enter Try.func96, Try.ntmps96
  go_wp2
  go_loop [3] (fun i => ∃ k : Nat, i = .int .i64 k ∧ (k = 1 ∨ k = 2 ∨ k = 4 ∨ k = 8 ∨ k = 16 ∨ k = 32 ∨ k = 64 ∨ k = 128) ∧ (powB n = true → k ≤ n)) (fun i => 200 - (intOf i).toNat)
  case atStart => exact ⟨1, rfl, Or.inl rfl, fun h => by rw [powB_iff] at h; omega⟩
  case round =>
    obtain ⟨k, rfl, hk, hp⟩ := hrel
    have Hk := Lib.hid hk
    have Hp := Lib.hid hp
    have hk0 : 1 ≤ k ∧ k ≤ 128 := by omega
    clear hk hp
    by_cases h1 : k ≤ 64
    · by_cases h2 : n = k
      · have Hr := Lib.hid (powB_at Hk.out h1 h2)
        have hb : ((n : Int) == (k : Int)) = true := by rw [beq_iff_eq]; omega
        clear h2
        go_wp2
        go_ret
        exact ⟨by rw [Hr.out]; rfl, rfl⟩
      · have Hq := Lib.hid (powB_next Hk.out Hp.out h2)
        have hb : ((n : Int) == (k : Int)) = false := by rw [beq_eq_false_iff_ne]; omega
        clear h2
        go_wp2
        go_round
        case rel => exact ⟨k * 2, by go_num, by have := Hk.out; omega, Hq.out⟩
        case measure => simp [intOf]; omega
    · have Hr := Lib.hid (powB_end Hp.out h1)
      go_wp2
      go_ret
      exact ⟨by rw [Hr.out]; rfl, rfl⟩

set_option maxHeartbeats 8000000 in
set_option maxRecDepth 100000 in
theorem jfright_any (w : World) (ws : List Int) (a : Option Addr) (c : Nat) (s : Int) (hz : ws.length ≤ 9223372036854775807) :
    Calls Try.prog 74 #[.agg #[.slice a ws.length c, .int .i64 s]] w fun e w' => e = .returned (.bool (sieveB ws s)) ∧ Below w.heap.size w w' := by
  have Hb := Lib.hid ((Below.refl w.heap.size w).alloc (Nat.le_refl _) (.cells #[.slice a ws.length c, .int .i64 s] 30 (0, 0)))
  have Hd := Lib.hid (sieveB_pow ws s)
  go_enter Try.func74, Try.ntmps74
  go_wp2_with fail
  refine (jwords_any _ ws.length hz).mono ?_
  rintro e w2 ⟨rfl, rfl⟩
  cases hp : powB ws.length with
  | false =>
    have Hr : Hid (sieveB ws s = false) := Lib.hid (by rw [Hd.out, hp]; rfl)
    clear hp
    go_wp2
    all_goals go_ret
    all_goals exact ⟨by rw [Hr.out]; rfl, Hb.out⟩
  | true =>
    have Hr : Hid (sieveB ws s = (decide (1 ≤ s) && decide (s ≤ 31))) := Lib.hid (by rw [Hd.out, hp]; simp)
    clear hp
    by_cases h3 : 1 ≤ s
    · by_cases h4 : s ≤ 31
      · have Hr2 : Hid (sieveB ws s = true) := Lib.hid (by rw [Hr.out]; simp [h3, h4])
        go_wp2
        all_goals go_ret
        all_goals exact ⟨by rw [Hr2.out]; rfl, Hb.out⟩
      · have Hr2 : Hid (sieveB ws s = decide (s ≤ 31)) := Lib.hid (by rw [Hr.out]; simp [h3])
        have h5 : 31 < s := by omega
        go_wp2
        all_goals go_ret
        all_goals exact ⟨by rw [Hr2.out]; rfl, Hb.out⟩
    · have Hr2 : Hid (sieveB ws s = false) := Lib.hid (by rw [Hr.out]; simp [h3])
      go_wp2
      all_goals go_ret
      all_goals exact ⟨by rw [Hr2.out]; rfl, Hb.out⟩

end Go.Proofs.Ytbliedldlimpgaa

namespace Go.Proofs.Ytbliedldlimpgaa
set_option linter.unusedVariables false
set_option linter.unusedSimpArgs false
open Go.RowKit

theorem homeL_int (p : List UInt8) (n : Nat) : ((homeL p n : Nat) : Int) = hashB p % (n : Int) := by
  have h := (hashB_range p).1
  rw [homeL, Int.natCast_emod, Int.toNat_of_nonneg h]
theorem homeL_lt (p : List UInt8) (n : Nat) (h : 1 ≤ n) : homeL p n < n := Nat.mod_lt _ (by omega)

set_option maxHeartbeats 2000000 in
theorem jhome_any (w : World) (p : List UInt8) (n : Nat) (hp : p.length ≤ 9223372036854775807) (h1 : 1 ≤ n) (h2 : n ≤ 512) :
    Calls Try.prog 77 #[.string ⟨p.toArray⟩, .int .i64 n] w fun e w' => e = .returned (.int .i64 (homeL p n)) ∧ w' = w := by
  have hr := hashB_range p
  have hh := Lib.hid (homeL_int p n)
  have hlt := homeL_lt p n h1
  have hn0 : ((n : Int) == 0) = false := by rw [beq_eq_false_iff_ne]; omega
  have HJ := jhash_any w p hp
  generalize hashB p = g at *
  have ht : g.tmod (n : Int) = g % (n : Int) := Int.tmod_eq_emod_of_nonneg hr.1
  have hm0 : 0 ≤ g % (n : Int) := Int.emod_nonneg _ (by omega)
  have hm1 : g % (n : Int) < n := Int.emod_lt_of_pos _ (by omega)
  have hg : IntKind.u64.wrap g = g := IntWalk.u64_in _ ⟨by omega, by omega⟩
  have hnn : IntKind.u64.wrap (n : Int) = (n : Int) := IntWalk.u64_in _ ⟨by omega, by omega⟩
  go_enter Try.func77, Try.ntmps77
  go_wp2_with fail
  refine HJ.mono ?_
  rintro e w2 ⟨rfl, rfl⟩
  go_wp2
  go_ret
  refine ⟨?_, rfl⟩
  rw [hh.out]
  rfl

set_option maxHeartbeats 2000000 in
theorem jpower_any (w : World) (n : Nat) (h : n ≤ 63) :
    Calls Try.prog 92 #[.int .u32 n] w fun e w' => e = .returned (.int .u64 ((2 ^ n : Nat) : Int)) ∧ w' = w := by
  go_enter Try.func92, Try.ntmps92
  go_wp2
  go_loop [3, 4] (fun x i => ∃ k : Nat, k ≤ n ∧ i = .int .u32 k ∧ x = .int .u64 ((2 ^ k : Nat) : Int)) (fun _ i => n - (intOf i).toNat)
  case atStart => exact ⟨0, Nat.zero_le _, rfl, rfl⟩
  case round =>
    obtain ⟨k, hk, rfl, rfl⟩ := hrel
    by_cases hlt : k < n
    · have hP : 2 ^ k ≤ 4611686018427387904 := Nat.le_trans (Nat.pow_le_pow_right (by decide) (show k ≤ 62 by omega)) (by decide)
      have Hn := Lib.hid (Nat.pow_succ 2 k)
      generalize 2 ^ k = P at *
      go_wp2
      go_round
      case rel => exact ⟨k + 1, by omega, by go_num, by rw [Hn.out]; go_num⟩
      case measure => simp [intOf]; omega
    · have He : Hid (2 ^ k = 2 ^ n) := Lib.hid (by rw [show k = n by omega])
      generalize 2 ^ k = P at *
      go_wp2
      go_ret
      refine ⟨?_, rfl⟩
      show Ending.returned (.int .u64 (P : Int)) = _
      rw [He.out, Int.natCast_pow]
      rfl

set_option maxHeartbeats 2000000 in
theorem jshifted_any (w : World) (h : Nat) (n : Nat) (hh : h < 4294967296) (hn : n ≤ 64) :
    Calls Try.prog 55 #[.int .u32 h, .int .i64 n] w fun e w' => e = .returned (.int .u32 ((h / 2 ^ n : Nat) : Int)) ∧ w' = w := by
  go_enter Try.func55, Try.ntmps55
  go_wp2
  go_loop [0, 5] (fun x i => ∃ k : Nat, k ≤ n ∧ i = .int .i64 k ∧ x = .int .u32 ((h / 2 ^ k : Nat) : Int)) (fun _ i => n - (intOf i).toNat)
  case atStart => exact ⟨0, Nat.zero_le _, rfl, by simp⟩
  case round =>
    obtain ⟨k, hk, rfl, rfl⟩ := hrel
    have hP : h / 2 ^ k < 4294967296 := Nat.lt_of_le_of_lt (Nat.div_le_self _ _) hh
    by_cases hlt : k < n
    · have Hn : Hid (h / 2 ^ (k + 1) = h / 2 ^ k / 2) := Lib.hid (by rw [Nat.pow_succ, Nat.div_div_eq_div_mul])
      generalize h / 2 ^ k = P at *
      go_wp2
      go_round
      case rel => exact ⟨k + 1, by omega, by go_num, by rw [Hn.out]; go_num⟩
      case measure => simp [intOf]; omega
    · have He : Hid (h / 2 ^ k = h / 2 ^ n) := Lib.hid (by rw [show k = n by omega])
      generalize h / 2 ^ k = P at *
      go_wp2
      go_ret
      refine ⟨?_, rfl⟩
      show Ending.returned (.int .u32 (P : Int)) = _
      rw [He.out, Int.natCast_ediv, Int.natCast_pow]
      rfl

end Go.Proofs.Ytbliedldlimpgaa

namespace Go.Proofs.Ytbliedldlimpgaa
set_option linter.unusedVariables false
set_option linter.unusedSimpArgs false
open Go.RowKit

theorem bitB_yes {m P k : Nat} (hP : P = 2 ^ k) (h : m / P % 2 = 1) : bitB (m : Int) k = true := by
  rw [bitB, Int.toNat_natCast, ← hP, h]; rfl
theorem bitB_no {m P k : Nat} (hP : P = 2 ^ k) (h : ¬ m / P % 2 = 1) : bitB (m : Int) k = false := by
  rw [bitB, Int.toNat_natCast, ← hP, beq_eq_false_iff_ne]; exact h

set_option maxHeartbeats 2000000 in
theorem jhas_any (w : World) (m k : Nat) (hm : m < 18446744073709551616) (hk : k ≤ 63) :
    Calls Try.prog 91 #[.int .u64 m, .int .u32 k] w fun e w' => e = .returned (.bool (bitB (m : Int) k)) ∧ w' = w := by
  have HP := jpower_any w k hk
  have Hy := Lib.hid (@bitB_yes m (2 ^ k) k rfl)
  have Hn := Lib.hid (@bitB_no m (2 ^ k) k rfl)
  have hp : 1 ≤ 2 ^ k := Nat.one_le_two_pow
  have hp2 : 2 ^ k ≤ 9223372036854775808 := Nat.le_trans (Nat.pow_le_pow_right (by decide) hk) (by decide)
  generalize 2 ^ k = P at *
  have hp0 : ((P : Int) == 0) = false := by rw [beq_eq_false_iff_ne]; omega
  have hq : ((m / P : Nat) : Int) = (m : Int) / (P : Int) := Int.natCast_ediv m P
  have hqb : m / P ≤ m := Nat.div_le_self _ _
  generalize m / P = q at *
  go_enter Try.func91, Try.ntmps91
  go_wp2_with fail
  refine HP.mono ?_
  rintro e w2 ⟨rfl, rfl⟩
  by_cases h1 : q % 2 = 1
  · have Hr := Lib.hid (Hy.out h1)
    have hd : ((m : Int) / (P : Int) % 2 == 1) = true := by rw [beq_iff_eq]; omega
    go_wp2
    go_ret
    exact ⟨by rw [Hr.out]; rfl, rfl⟩
  · have Hr := Lib.hid (Hn.out h1)
    have hd : ((m : Int) / (P : Int) % 2 == 1) = false := by rw [beq_eq_false_iff_ne]; omega
    go_wp2
    go_ret
    exact ⟨by rw [Hr.out]; rfl, rfl⟩

end Go.Proofs.Ytbliedldlimpgaa

namespace Go.Proofs.Ytbliedldlimpgaa
set_option linter.unusedVariables false
set_option linter.unusedSimpArgs false
open Go.RowKit

set_option maxHeartbeats 8000000 in
set_option maxRecDepth 100000 in
theorem tbucket_any (w : World) (ba : Option Addr) (n bc : Nat) (vw : Value) (s : Int) (p : List UInt8) (hp : p.length ≤ 9223372036854775807) (h1 : 1 ≤ n) (h2 : n ≤ 512) :
    Calls Try.prog 62 #[.agg #[.slice ba n bc, vw, .int .i64 s], .string ⟨p.toArray⟩] w fun e w' => e = .returned (.int .i64 (homeL p n)) ∧ Below w.heap.size w w' := by
  have hr := hashB_range p
  have hh := Lib.hid (homeL_int p n)
  have hn0 : ((n : Int) == 0) = false := by rw [beq_eq_false_iff_ne]; omega
  have HJ := Lib.hid (fun w => shash_any w p hp)
  have Hb := Lib.hid ((Below.refl w.heap.size w).alloc (Nat.le_refl _) (.cells #[.slice ba n bc, vw, .int .i64 s] 32 (0, 0)))
  generalize hashB p = g at *
  have ht : g.tmod (n : Int) = g % (n : Int) := Int.tmod_eq_emod_of_nonneg hr.1
  have hm0 : 0 ≤ g % (n : Int) := Int.emod_nonneg _ (by omega)
  have hm1 : g % (n : Int) < n := Int.emod_lt_of_pos _ (by omega)
  have hnn : IntKind.u32.wrap (n : Int) = (n : Int) := by rw [IntKind.wrap]; simp [IntKind.bits, IntKind.signed]; omega
  go_enter Try.func62, Try.ntmps62
  go_wp2_with fail
  go_quiet ((go_at_call 64; exact Calls.quiet_of_same (HJ.out _)))
  go_wp2
  go_ret
  exact ⟨by rw [hh.out]; rfl, below_drewN Hb.out _⟩

end Go.Proofs.Ytbliedldlimpgaa

namespace Go.Proofs.Ytbliedldlimpgaa
set_option linter.unusedVariables false
set_option linter.unusedSimpArgs false
open Go.RowKit

def runD (im : ImgL) (k : Nat) : List Int := if k = 0 then im.init else im.fini
theorem runB_long (im : ImgL) (l : List Int) (h : ¬ l.length ≤ 8) : runB im l = false := by simp [runB, h]
theorem runB_bad (im : ImgL) (l : List Int) (k : Nat) (x : Int) (hx : l[k]? = some x) (h : holdsB im.segs x 8 4 = false) : runB im l = false := by
  have : l.all (fun a => holdsB im.segs a 8 4) = false := by rw [List.all_eq_false]; exact ⟨x, List.mem_of_getElem? hx, by simp [h]⟩
  rw [runB, this]; simp
theorem runB_all (im : ImgL) (l : List Int) (h : l.length ≤ 8) (ha : (l.all fun a => holdsB im.segs a 8 4) = true) : runB im l = true := by rw [runB, ha]; simp [h]

set_option maxHeartbeats 16000000 in
set_option maxRecDepth 100000 in
theorem iruns_any (w : World) (v : ImgV) (im : ImgL) (hs : LB kSeg (· < w.heap.size) w v.segs im.segs) (hok : ∀ s ∈ im.segs, SegOk s)
    (hi : LB kInt (· < w.heap.size) w v.init im.init) (hf : LB kInt (· < w.heap.size) w v.fini im.fini)
    (hri : ∀ x ∈ im.init, -9223372036854775808 ≤ x ∧ x ≤ 9223372036854775807) (hrf : ∀ x ∈ im.fini, -9223372036854775808 ≤ x ∧ x ≤ 9223372036854775807) :
    Calls Try.prog 26 #[.agg (imgCells v im)] w fun e w' => e = .returned (.bool (runB im im.init && runB im im.fini)) ∧ Below w.heap.size w w' := by
  obtain ⟨ia, ib, ioff, icap, hiv, him, hic, hiat⟩ := hi.at
  obtain ⟨fa, fb, foff, fcap, hfv, hfm, hfc, hfat⟩ := hf.at
  obtain ⟨vsegs, vneeded, vrunPath, vsyms, vbuckets, vwords, vrelocs, vslots, vinit, vfini, vtls⟩ := v
  simp only at hiv hfv
  subst hiv hfv
  have HH : Hid (∀ (w' : World) (x : Int), Below w.heap.size w w' → -9223372036854775808 ≤ x ∧ x ≤ 9223372036854775807 →
    Calls Try.prog 59 #[.agg (imgCells ⟨vsegs, vneeded, vrunPath, vsyms, vbuckets, vwords, vrelocs, vslots, .slice ia im.init.length icap, .slice fa im.fini.length fcap, vtls⟩ im), .agg #[.int .i64 x, .int .i64 8, .int .i64 4]] w' fun e w'' => e = .returned (.bool (holdsB im.segs x 8 4)) ∧ Below w'.heap.size w' w'') := Lib.hid (fun w' x hb hx => holds_any w' _ im x 8 4 ((hs.below hb).mono hb.size) hok hx (by decide) (by decide))
  unfold imgCells at *
  have Hiat := Lib.hid hiat
  have Hfat := Lib.hid hfat
  have Hri := Lib.hid hri
  have Hrf := Lib.hid hrf
  clear hs hok hi hf hiat hfat hri hrf
  generalize hI : (Array.mk [.string ⟨im.name.toArray⟩, .int .i64 im.flags, vsegs, vneeded, vrunPath, vsyms, vbuckets, vwords, .int .i64 im.shift, vrelocs, vslots, .slice ia im.init.length icap, .slice fa im.fini.length fcap, vtls, .int .i64 im.tlsSize] : Array Value) = I at HH
  have F0 := Lib.hid (heap_alloc_new w (.cells I 38 (0, 0)))
  subst hI
  go_enter Try.func26, Try.ntmps26
  go_wp2_with fail
  go_loopw [13] (fun i wr => ∃ k : Nat, i = .int .i64 k ∧ k ≤ 2 ∧ (1 ≤ k → runB im im.init = true) ∧ (2 ≤ k → runB im im.fini = true) ∧ Below w.heap.size w wr ∧
    wr.heap[w.heap.size]? = some (.cells #[.string ⟨im.name.toArray⟩, .int .i64 im.flags, vsegs, vneeded, vrunPath, vsyms, vbuckets, vwords, .int .i64 im.shift, vrelocs, vslots, .slice ia im.init.length icap, .slice fa im.fini.length fcap, vtls, .int .i64 im.tlsSize] 38 (0, 0)) ∧
    wr.cell? ⟨w.heap.size + 1, 0, none⟩ = some (.slice ia im.init.length icap) ∧ wr.cell? ⟨w.heap.size + 1, 1, none⟩ = some (.slice fa im.fini.length fcap) ∧ w.heap.size + 1 < wr.heap.size) (fun i _ => 2 - (intOf i).toNat)
  case atStart =>
    refine ⟨0, rfl, by omega, fun h => by omega, fun h => by omega, ((Below.refl _ _).alloc (Nat.le_refl _) _).alloc (by simp) _, ?_, ?_, ?_, by simp⟩
    · rw [heap_alloc_old _ _ (by simp)]
      exact F0.out
    all_goals
      have e2 := heap_alloc_new (w.alloc (.cells #[.string ⟨im.name.toArray⟩, .int .i64 im.flags, vsegs, vneeded, vrunPath, vsyms, vbuckets, vwords, .int .i64 im.shift, vrelocs, vslots, .slice ia im.init.length icap, .slice fa im.fini.length fcap, vtls, .int .i64 im.tlsSize] 38 (0, 0))) (.cells #[.slice ia im.init.length icap, .slice fa im.fini.length fcap] 35 (0, 0))
      simp only [World.size_alloc] at e2
      rw [Lib.cell_of_heap e2]
      rfl
  case round =>
    obtain ⟨k, rfl, hk, h1, h2, hbel, hF, hc0, hc1, hz⟩ := hrel
    have H1 := Lib.hid h1
    have H2 := Lib.hid h2
    have Bw := Lib.hid hbel
    have HF := Lib.hid hF
    have hBr := hbel.size
    by_cases hlt : k < 2
    · obtain ⟨l, la, lb, loff, lcap, hcell, hlm, hlc, hat, hrange, hbad, hgood⟩ : ∃ (l : List Int) (la : Option Addr) (lb loff lcap : Nat), wr.cell? ⟨w.heap.size + 1, k, none⟩ = some (.slice la l.length lcap) ∧ l.length ≤ 9223372036854775807 ∧ l.length ≤ lcap ∧ LAt kInt (· < w.heap.size) w l la lb loff ∧
          (∀ x ∈ l, -9223372036854775808 ≤ x ∧ x ≤ 9223372036854775807) ∧ (runB im l = false → (runB im im.init && runB im im.fini) = false) ∧ (runB im l = true → (1 ≤ k + 1 → runB im im.init = true) ∧ (2 ≤ k + 1 → runB im im.fini = true)) := by
        have hk01 : k = 0 ∨ k = 1 := by omega
        rcases hk01 with rfl | rfl
        · exact ⟨im.init, ia, ib, ioff, icap, hc0, him, hic, Hiat.out, Hri.out, fun h => by rw [h]; rfl, fun h => ⟨fun _ => h, fun h2 => by omega⟩⟩
        · exact ⟨im.fini, fa, fb, foff, fcap, hc1, hfm, hfc, Hfat.out, Hrf.out, fun h => by rw [h]; simp, fun h => ⟨fun _ => H1.out (by omega), fun _ => h⟩⟩
      have Hat := Lib.hid hat
      have Hrange := Lib.hid hrange
      have Hbad := Lib.hid hbad
      have Hgood := Lib.hid hgood
      have Hc0 := Lib.hid hc0
      have Hc1 := Lib.hid hc1
      clear hat hrange hbad hgood h1 h2 hc0 hc1 hF hbel Hiat Hfat
      by_cases hl8 : l.length ≤ 8
      case neg =>
        have Hr := Lib.hid (Hbad.out (runB_long im l hl8))
        have hl9 : 8 < l.length := by omega
        go_wp2
        go_ret
        exact ⟨by rw [Hr.out]; rfl, Bw.out⟩
      have hl9 : ¬ 8 < l.length := by omega
      have hkd : decide ((k : Int) < 2) = true := by rw [decide_eq_true_eq]; omega
      go_wp2_with fail
      go_loopw [22] (fun i wi => ∃ q : Nat, i = .int .i64 q ∧ q ≤ l.length ∧ ((l.take q).all fun a => holdsB im.segs a 8 4) = true ∧ Below w.heap.size w wi ∧ Below wr.heap.size wr wi) (fun i _ => l.length - (intOf i).toNat)
      case atStart => exact ⟨0, rfl, Nat.zero_le _, rfl, Bw.out, Below.refl _ _⟩
      case round =>
        obtain ⟨q, rfl, hq, hall, hb0, hb1⟩ := hrel
        have Hall := Lib.hid hall
        have Hb0 := Lib.hid hb0
        have Hb1 := Lib.hid hb1
        have hzi := hb1.size
        have hF2 := (hb1.block w.heap.size (by omega)).trans HF.out
        clear hall hb0 hb1
        by_cases hlt2 : q < l.length
        · obtain rfl := Hat.out.addr (by omega)
          obtain ⟨x, hx⟩ : ∃ x, l[q]? = some x := ⟨_, List.getElem?_eq_getElem hlt2⟩
          have hxc := (Hat.out.below Hb0.out).int1 q x hx
          have hxr := Hrange.out x (List.mem_of_getElem? hx)
          have Hyes : Hid (holdsB im.segs x 8 4 = true → ((l.take (q + 1)).all fun a => holdsB im.segs a 8 4) = true) := Lib.hid (fun h => by rw [all_take_snoc _ l q x hx, Hall.out, h]; rfl)
          have Hno : Hid (holdsB im.segs x 8 4 = false → (runB im im.init && runB im im.fini) = false) := Lib.hid (fun h => Hbad.out (runB_bad im l q x hx h))
          obtain ⟨q0, q1, q2, q3, q4, q5, q6, q7, q8, q9, q10, q11, q12, q13, q14⟩ := img_cells hF2
          have hHx := HH.out wr x Hb0.out hxr
          go_wp2_with fail
          refine hHx.mono ?_
          rintro e w2 ⟨rfl, hb2⟩
          have Hb2 := Lib.hid (Hb0.out.trans (hb2.mono (by omega)))
          have Hb3 := Lib.hid (Hb1.out.trans (hb2.mono (by omega)))
          have hz2 := hb2.size
          clear hb2 q0 q1 q2 q3 q4 q5 q6 q7 q8 q9 q10 q11 q12 q13 q14 hF2 hHx hxc hx
          cases hh : holdsB im.segs x 8 4 with
          | false =>
            have Hr := Lib.hid (Hno.out hh)
            clear hh
            go_wp2
            go_ret
            exact ⟨by rw [Hr.out]; rfl, Hb2.out⟩
          | true =>
            have Hy := Lib.hid (Hyes.out hh)
            clear hh
            go_wp2
            go_round
            case rel =>
              exact ⟨q + 1, by go_num, by omega, Hy.out, Hb2.out, Hb3.out⟩
            case measure => simp [intOf]; omega
        · have Hl := Lib.hid (Hgood.out (runB_all im l hl8 (by have := Hall.out; rwa [List.take_of_length_le (by omega)] at this)))
          go_wp2
          go_round
          case rel =>
            have e0 := Hb1.out.block (w.heap.size + 1) hz
            exact ⟨k + 1, by go_num, by omega, Hl.out.1, Hl.out.2, Hb0.out, hF2, by rw [World.cell?_of_block (a := ⟨w.heap.size + 1, 0, none⟩) e0]; exact Hc0.out, by rw [World.cell?_of_block (a := ⟨w.heap.size + 1, 1, none⟩) e0]; exact Hc1.out, by omega⟩
          case measure => simp [intOf]; omega
    · have Hr : Hid ((runB im im.init && runB im im.fini) = true) := Lib.hid (by rw [H1.out (by omega), H2.out (by omega)]; rfl)
      go_wp2
      go_ret
      exact ⟨by rw [Hr.out]; rfl, Bw.out⟩

end Go.Proofs.Ytbliedldlimpgaa

/- A region that draws its order, cut where its last operations wait for all the others (the stores of an assignment): the first ones in whatever order, then the last ones in a row. Conditions: checked by the kernel (phaseB). -/
namespace Go.Proofs.Ytbliedldlimpgaa
set_option linter.unusedVariables false
set_option linter.unusedSimpArgs false

section
variable {P : Program}

/-- a wait binds: of the head on earlier ones alone; the tail waits for all of the head -/
def phaseB (md : Region.Mode) (ops : Array Oper) (n : Nat) : Bool :=
  decide (n ≤ ops.size) &&
  ((List.range n).all fun i => match ops[i]? with
    | some o => (o.after.all fun e => !Region.binds md e || decide (e.on < i)) && (match o.guard with | some (g, _) => decide (g < n) | none => true)
    | none => false) &&
  ((List.range ops.size).all fun t => decide (t < n) || (List.range n).all fun i => Region.waitsFor md ops t i) &&
  Region.seqB md ops (ops.size - n) n (Array.replicate n true ++ Array.replicate (ops.size - n) false)

/-- what stands behind the head -/
def phaseQ (P : Program) (ops : Array Oper) (tail : List Oper) (Q : Exit → Act → World → Prop) : Exit → Act → World → Prop
  | .normal, a, w => wpList P ops Q tail a w
  | .exit i, a, w => Q (.exit i) a w
  | .goto l, a, w => Q (.goto l) a w
  | .ret, a, w => Q .ret a w
  | .panic c, a, w => Q (.panic c) a w
  | .outgrown, a, w => Q .outgrown a w

theorem wpAny_more {md : Region.Mode} {ops : Array Oper} {Q : Exit → Act → World → Prop} : ∀ (f : Nat) (listed : Array Bool) (a : Act) (w : World), wpAny P md ops Q f listed a w → wpAny P md ops Q (f + 1) listed a w
  | 0, _, _, _, h => ⟨fun _ => h.2, fun i hi => by rw [h.1] at hi; cases hi⟩
  | f + 1, _, _, _, h => ⟨h.1, fun i hi => wpOp_mono (fun a' w' h' => wpAny_more f _ a' w' h') (h.2 i hi)⟩
theorem wpAny_add {md : Region.Mode} {ops : Array Oper} {Q : Exit → Act → World → Prop} (f : Nat) (listed : Array Bool) (a : Act) (w : World) (h : wpAny P md ops Q f listed a w) : ∀ m, wpAny P md ops Q (f + m) listed a w
  | 0 => h
  | m + 1 => wpAny_more _ _ _ _ (wpAny_add f listed a w h m)

theorem phaseQ_wp {o : Oper} {ops : Array Oper} {tail : List Oper} {Q : Exit → Act → World → Prop} {a : Act} {w : World} {K : Act → World → Prop} (h : o.wp P a w K (phaseQ P ops tail Q)) : o.wp P a w K Q := by
  unfold Oper.wp at *
  generalize (execOp a.eval o).run P w = r at *
  cases r with
  | ok n w' =>
    cases n <;> simp only [Oper.upon] at h ⊢ <;>
      first
        | exact h
        | exact Calls.mono h (fun e w'' he => by cases e <;> exact he)
        | exact Rows.mono h (fun _ _ he => he)
  | halt x w' => cases x <;> simp only [Oper.upon] at h ⊢ <;> exact h

theorem yielded_take (l : List Oper) (n g : Nat) (tmps : Array Value) (h : g < n) : yielded (l.take n).toArray tmps g = yielded l.toArray tmps g := by
  unfold yielded
  simp [List.getElem?_take, h]

theorem waitsFor_after {md : Region.Mode} {ops : Array Oper} {t i : Nat} {o : Oper} (ho : ops[t]? = some o) (h : Region.waitsFor md ops t i = true) : ∃ e ∈ o.after, Region.binds md e = true ∧ e.on = i := by
  obtain ⟨oj, h1, h2⟩ := Region.waitsFor_spec h
  rw [ho] at h1
  cases h1
  exact h2

theorem getD_app (L : Array Bool) (m i : Nat) (h : i < L.size) (d : Bool) : (L ++ Array.replicate m false).getD i d = L.getD i d := by
  simp [Array.getD, Array.getElem_append, h, Nat.lt_add_right m h]
theorem getD_any (L : Array Bool) (i : Nat) (h : i < L.size) (d e : Bool) : L.getD i d = L.getD i e := by
  simp [Array.getD, h]

/-- the cut -/
theorem wpAny_phase {md : Region.Mode} {l : List Oper} {Q : Exit → Act → World → Prop} (n : Nat) (hB : phaseB md l.toArray n = true) :
    ∀ (f : Nat) (listed : Array Bool) (a : Act) (w : World), listed.size = n →
      wpAny P md (l.take n).toArray (phaseQ P l.toArray (l.drop n) Q) f listed a w →
      wpAny P md l.toArray Q (f + (l.length - n)) (listed ++ Array.replicate (l.length - n) false) a w := by
  simp only [phaseB, Bool.and_eq_true, decide_eq_true_eq] at hB
  obtain ⟨⟨⟨hn, hhead⟩, htail⟩, hseq⟩ := hB
  have hn' : n ≤ l.length := by simpa using hn
  have hh : ∀ i, i < n → ∃ o, l[i]? = some o ∧ (∀ e ∈ o.after, Region.binds md e = true → e.on < i) ∧ (∀ g b, o.guard = some (g, b) → g < n) := fun i hi => by
    have := (List.all_eq_true.1 hhead) i (List.mem_range.2 hi)
    have hil : i < l.length := by omega
    rw [List.getElem?_toArray, List.getElem?_eq_getElem hil] at this
    refine ⟨_, List.getElem?_eq_getElem hil, ?_, ?_⟩
    · simp only [Bool.and_eq_true] at this
      intro e he hb
      have h1 := Array.all_eq_true'.1 this.1 e he
      simpa [hb] using h1
    · simp only [Bool.and_eq_true] at this
      intro g b hg
      rw [hg] at this
      simpa using this.2
  have ht : ∀ t, n ≤ t → t < l.length → ∀ i, i < n → Region.waitsFor md l.toArray t i = true := fun t h1 h2 i hi => by
    have := (List.all_eq_true.1 htail) t (List.mem_range.2 (by simpa using h2))
    simp only [Bool.or_eq_true, decide_eq_true_eq] at this
    rcases this with h | h
    · omega
    · exact (List.all_eq_true.1 h) i (List.mem_range.2 hi)
  -- what may come up in the whole region, while one of the head has not come up
  have ready_head : ∀ listed : Array Bool, listed.size = n → ∀ i, i ∈ Region.ready md l.toArray (listed ++ Array.replicate (l.length - n) false) → (∃ k, k < n ∧ listed.getD k false = false) →
      i ∈ Region.ready md (l.take n).toArray listed := fun listed hs i hi hex => by
    obtain ⟨h1, o, ho, hall⟩ := mem_ready.1 hi
    obtain ⟨k, hk, hkf⟩ := hex
    have hil : i < l.length := by
      have := (Array.getElem?_eq_some_iff.1 ho).1
      simpa using this
    rcases Nat.lt_or_ge i n with hin | hin
    · refine mem_ready.2 ⟨?_, o, ?_, ?_⟩
      · rwa [getD_app _ _ _ (by omega)] at h1
      · simpa [List.getElem?_take, hin] using ho
      · intro e he hb
        have h2 := hall e he hb
        obtain ⟨o', ho', hb', _⟩ := hh i hin
        have : o = o' := by
          have : l.toArray[i]? = some o' := by simpa using ho'
          rw [ho] at this; exact Option.some.inj this
        subst this
        have h3 := hb' e he hb
        rwa [getD_app _ _ _ (by omega)] at h2
    · exfalso
      obtain ⟨e, he, hb, hon⟩ := waitsFor_after ho (ht i hin hil k hk)
      have h2 := hall e he hb
      rw [hon] at h2
      rw [getD_app _ _ _ (by omega), hkf] at h2
      cases h2
  -- none of the head may come up: all of it has
  have all_listed : ∀ listed : Array Bool, listed.size = n → Region.ready md (l.take n).toArray listed = [] → ∀ k, k < n → listed.getD k false = true := fun listed hs hr k => by
    induction k using Nat.strongRecOn with
    | _ k ih =>
      intro hk
      rcases hc : listed.getD k false with _ | _
      · exfalso
        obtain ⟨o, ho, hb, _⟩ := hh k hk
        have : k ∈ Region.ready md (l.take n).toArray listed := by
          refine mem_ready.2 ⟨?_, o, ?_, fun e he hbd => ih e.on (hb e he hbd) (by have := hb e he hbd; omega)⟩
          · rw [getD_any _ _ (by omega) true false]; exact hc
          · simpa [List.getElem?_take, hk] using ho
        rw [hr] at this
        cases this
      · rfl
  have finish : ∀ (listed : Array Bool) (a : Act) (w : World), listed.size = n → Region.ready md (l.take n).toArray listed = [] → wpList P l.toArray Q (l.drop n) a w →
      wpAny P md l.toArray Q (l.length - n) (listed ++ Array.replicate (l.length - n) false) a w := fun listed a w hs hr h => by
    have e : listed = Array.replicate n true := by
      apply Array.ext
      · simp [hs]
      · intro i h1 h2
        have := all_listed listed hs hr i (by omega)
        rw [Array.getD, dif_pos h1] at this
        simpa using this
    rw [e]
    have := wpAny_of_seq (P := P) (md := md) (ops := l.toArray) (Q' := Q) (l.drop n) n (Array.replicate n true ++ Array.replicate (l.length - n) false) a w (fun j => by simp [List.getElem?_drop]) (by simpa using hseq) h
    simpa using this
  intro f
  induction f with
  | zero =>
    intro listed a w hs h
    rw [Nat.zero_add]
    exact finish listed a w hs h.1 h.2
  | succ f ih =>
    intro listed a w hs h
    by_cases hr : Region.ready md (l.take n).toArray listed = []
    · have := wpAny_add _ _ _ _ (finish listed a w hs hr (h.1 hr)) (f + 1)
      rwa [Nat.add_comm] at this
    · have hex : ∃ k, k < n ∧ listed.getD k false = false := by
        obtain ⟨k, hk⟩ := List.exists_mem_of_ne_nil _ hr
        obtain ⟨h1, o, ho, _⟩ := mem_ready.1 hk
        have hkn : k < n := by
          have := (Array.getElem?_eq_some_iff.1 ho).1
          simp at this; omega
        refine ⟨k, hkn, ?_⟩
        rw [getD_any _ _ (by omega) false true]; exact h1
      rw [show f + 1 + (l.length - n) = (f + (l.length - n)) + 1 by omega]
      refine ⟨fun h0 => ?_, fun i hi => ?_⟩
      · exfalso
        obtain ⟨k, hk⟩ := List.exists_mem_of_ne_nil _ hr
        obtain ⟨h1, o, ho, hall⟩ := mem_ready.1 hk
        have hkn : k < n := by
          have := (Array.getElem?_eq_some_iff.1 ho).1
          simp at this; omega
        have : k ∈ Region.ready md l.toArray (listed ++ Array.replicate (l.length - n) false) := by
          refine mem_ready.2 ⟨?_, o, ?_, fun e he hb => ?_⟩
          · rwa [getD_app _ _ _ (by omega)]
          · simpa [List.getElem?_take, hkn] using ho
          · have h2 := hall e he hb
            obtain ⟨o', ho', hb', _⟩ := hh k hkn
            have : o = o' := by
              have h3 : l[k]? = some o := by simpa [List.getElem?_take, hkn] using ho
              rw [h3] at ho'; exact Option.some.inj ho'
            subst this
            have h3 := hb' e he hb
            rwa [getD_app _ _ _ (by omega)]
        rw [h0] at this
        cases this
      · have hir := ready_head listed hs i hi hex
        have hstep := h.2 i hir
        have hin : i < n := by
          obtain ⟨_, o, ho, _⟩ := mem_ready.1 hir
          have := (Array.getElem?_eq_some_iff.1 ho).1
          simp at this; omega
        obtain ⟨o, ho, _, hg⟩ := hh i hin
        have ho1 : l.toArray[i]? = some o := by simpa using ho
        have ho2 : (l.take n).toArray[i]? = some o := by simpa [List.getElem?_take, hin] using ho
        have hset : (listed ++ Array.replicate (l.length - n) false).setIfInBounds i true = listed.setIfInBounds i true ++ Array.replicate (l.length - n) false := by
          apply Array.ext_getElem?
          intro j
          by_cases hji : i = j
          · subst hji
            rw [Array.getElem?_setIfInBounds_self_of_lt (by simp; omega), Array.getElem?_append_left (by simp; omega), Array.getElem?_setIfInBounds_self_of_lt (by omega)]
          · rw [Array.getElem?_setIfInBounds_ne hji]
            rcases Nat.lt_or_ge j listed.size with h1 | h1
            · rw [Array.getElem?_append_left h1, Array.getElem?_append_left (by simpa using h1), Array.getElem?_setIfInBounds_ne hji]
            · rw [Array.getElem?_append_right h1, Array.getElem?_append_right (by simpa using h1), Array.size_setIfInBounds]
        have hw : Region.wanted o (yielded (l.take n).toArray a.tmps) = Region.wanted o (yielded l.toArray a.tmps) := by
          unfold Region.wanted
          cases hgd : o.guard with
          | none => rfl
          | some q => simp only [yielded_take l n q.1 a.tmps (hg q.1 q.2 hgd)]
        unfold wpOp at hstep ⊢
        simp only [ho1, ho2] at hstep ⊢
        rw [hset]
        rw [hw] at hstep
        split
        · rename_i hwt
          simp only [hwt, if_true] at hstep
          rcases hstep with hstep | ⟨h1, h2⟩
          · exact .inl (phaseQ_wp (Oper.wp_mono (fun a' w' h' => ih _ a' w' (by simpa using hs) h') hstep))
          · exact .inr ⟨h1, by obtain ⟨a', w', h'⟩ := h2; exact ⟨a', w', h'⟩⟩
        · rename_i hwt
          simp only [hwt] at hstep
          exact ih _ _ _ (by simpa using hs) hstep

/-- for the walk -/
theorem wp_region_phase {id : Nat} {Q : Exit → Act → World → Prop} {a : Act} {w : World} {l : List Oper} (n : Nat) (hm : P.follows .mixedOrders = true) (hB : phaseB .any l.toArray n = true)
    (h : wpAny P .any (l.take n).toArray (phaseQ P l.toArray (l.drop n) Q) n (Array.replicate n false) a { w with drawn := w.drawn + 1 }) : (Code.region id l.toArray true).wp P Q a w := by
  have hn : n ≤ l.length := by
    simp only [phaseB, Bool.and_eq_true, decide_eq_true_eq] at hB
    simpa using hB.1.1.1
  refine wp_region_any hm ?_
  have := wpAny_phase n hB n (Array.replicate n false) a _ (by simp) h
  have e : Array.replicate n false ++ Array.replicate (l.length - n) false = Array.replicate l.toArray.size false := by
    simp [Array.replicate_append_replicate, Nat.add_sub_cancel' hn]
  rw [e, Nat.add_sub_cancel' hn] at this
  simpa using this

end
end Go.Proofs.Ytbliedldlimpgaa

namespace Go.Proofs.Ytbliedldlimpgaa
set_option linter.unusedVariables false
set_option linter.unusedSimpArgs false
open Go.RowKit

set_option maxHeartbeats 16000000 in
set_option maxRecDepth 100000 in
theorem jruns_any (w : World) (v : ImgV) (im : ImgL) (hs : LB kSeg (· < w.heap.size) w v.segs im.segs) (hok : ∀ s ∈ im.segs, SegOk s)
    (hi : LB kInt (· < w.heap.size) w v.init im.init) (hf : LB kInt (· < w.heap.size) w v.fini im.fini)
    (hri : ∀ x ∈ im.init, -9223372036854775808 ≤ x ∧ x ≤ 9223372036854775807) (hrf : ∀ x ∈ im.fini, -9223372036854775808 ≤ x ∧ x ≤ 9223372036854775807) :
    Calls Try.prog 33 #[.agg (imgCells v im)] w fun e w' => e = .returned (.bool (runB im im.init && runB im im.fini)) ∧ Below w.heap.size w w' := by
  obtain ⟨ia, ib, ioff, icap, hiv, him, hic, hiat⟩ := hi.at
  obtain ⟨fa, fb, foff, fcap, hfv, hfm, hfc, hfat⟩ := hf.at
  obtain ⟨vsegs, vneeded, vrunPath, vsyms, vbuckets, vwords, vrelocs, vslots, vinit, vfini, vtls⟩ := v
  simp only at hiv hfv
  subst hiv hfv
  have HH : Hid (∀ (w' : World) (x : Int), Below w.heap.size w w' → -9223372036854775808 ≤ x ∧ x ≤ 9223372036854775807 →
    Calls Try.prog 17 #[.agg (imgCells ⟨vsegs, vneeded, vrunPath, vsyms, vbuckets, vwords, vrelocs, vslots, .slice ia im.init.length icap, .slice fa im.fini.length fcap, vtls⟩ im), .int .i64 x, .int .i64 8, .int .i64 4] w' fun e w'' => e = .returned (.bool (holdsB im.segs x 8 4)) ∧ Below w'.heap.size w' w'') := Lib.hid (fun w' x hb hx => jstands_any w' _ im x 8 4 ((hs.below hb).mono hb.size) hok hx (by decide) (by decide))
  unfold imgCells at *
  have Hiat := Lib.hid hiat
  have Hfat := Lib.hid hfat
  have Hri := Lib.hid hri
  have Hrf := Lib.hid hrf
  clear hs hok hi hf hiat hfat hri hrf
  generalize hI : (Array.mk [.string ⟨im.name.toArray⟩, .int .i64 im.flags, vsegs, vneeded, vrunPath, vsyms, vbuckets, vwords, .int .i64 im.shift, vrelocs, vslots, .slice ia im.init.length icap, .slice fa im.fini.length fcap, vtls, .int .i64 im.tlsSize] : Array Value) = I at HH
  have F0 := Lib.hid (heap_alloc_new w (.cells I 38 (0, 0)))
  subst hI
  go_enter Try.func33, Try.ntmps33
  go_wp2_with fail
  go_loopw [12] (fun i wr => ∃ k : Nat, i = .int .i64 k ∧ k ≤ 2 ∧ (1 ≤ k → runB im im.init = true) ∧ (2 ≤ k → runB im im.fini = true) ∧ Below w.heap.size w wr ∧
    wr.heap[w.heap.size]? = some (.cells #[.string ⟨im.name.toArray⟩, .int .i64 im.flags, vsegs, vneeded, vrunPath, vsyms, vbuckets, vwords, .int .i64 im.shift, vrelocs, vslots, .slice ia im.init.length icap, .slice fa im.fini.length fcap, vtls, .int .i64 im.tlsSize] 38 (0, 0)) ∧
    wr.cell? ⟨w.heap.size + 1, 0, none⟩ = some (.slice ia im.init.length icap) ∧ wr.cell? ⟨w.heap.size + 1, 1, none⟩ = some (.slice fa im.fini.length fcap) ∧ w.heap.size + 1 < wr.heap.size) (fun i _ => 2 - (intOf i).toNat)
  case atStart =>
    refine ⟨0, rfl, by omega, fun h => by omega, fun h => by omega, ((Below.refl _ _).alloc (Nat.le_refl _) _).alloc (by simp) _, ?_, ?_, ?_, by simp⟩
    · rw [heap_alloc_old _ _ (by simp)]
      exact F0.out
    all_goals
      have e2 := heap_alloc_new (w.alloc (.cells #[.string ⟨im.name.toArray⟩, .int .i64 im.flags, vsegs, vneeded, vrunPath, vsyms, vbuckets, vwords, .int .i64 im.shift, vrelocs, vslots, .slice ia im.init.length icap, .slice fa im.fini.length fcap, vtls, .int .i64 im.tlsSize] 38 (0, 0))) (.cells #[.slice ia im.init.length icap, .slice fa im.fini.length fcap] 35 (0, 0))
      simp only [World.size_alloc] at e2
      rw [Lib.cell_of_heap e2]
      rfl
  case round =>
    obtain ⟨k, rfl, hk, h1, h2, hbel, hF, hc0, hc1, hz⟩ := hrel
    have H1 := Lib.hid h1
    have H2 := Lib.hid h2
    have Bw := Lib.hid hbel
    have HF := Lib.hid hF
    have hBr := hbel.size
    by_cases hlt : k < 2
    · obtain ⟨l, la, lb, loff, lcap, hcell, hlm, hlc, hat, hrange, hbad, hgood⟩ : ∃ (l : List Int) (la : Option Addr) (lb loff lcap : Nat), wr.cell? ⟨w.heap.size + 1, k, none⟩ = some (.slice la l.length lcap) ∧ l.length ≤ 9223372036854775807 ∧ l.length ≤ lcap ∧ LAt kInt (· < w.heap.size) w l la lb loff ∧
          (∀ x ∈ l, -9223372036854775808 ≤ x ∧ x ≤ 9223372036854775807) ∧ (runB im l = false → (runB im im.init && runB im im.fini) = false) ∧ (runB im l = true → (1 ≤ k + 1 → runB im im.init = true) ∧ (2 ≤ k + 1 → runB im im.fini = true)) := by
        have hk01 : k = 0 ∨ k = 1 := by omega
        rcases hk01 with rfl | rfl
        · exact ⟨im.init, ia, ib, ioff, icap, hc0, him, hic, Hiat.out, Hri.out, fun h => by rw [h]; rfl, fun h => ⟨fun _ => h, fun h2 => by omega⟩⟩
        · exact ⟨im.fini, fa, fb, foff, fcap, hc1, hfm, hfc, Hfat.out, Hrf.out, fun h => by rw [h]; simp, fun h => ⟨fun _ => H1.out (by omega), fun _ => h⟩⟩
      have Hat := Lib.hid hat
      have Hrange := Lib.hid hrange
      have Hbad := Lib.hid hbad
      have Hgood := Lib.hid hgood
      have Hc0 := Lib.hid hc0
      have Hc1 := Lib.hid hc1
      clear hat hrange hbad hgood h1 h2 hc0 hc1 hF hbel Hiat Hfat
      by_cases hl8 : l.length ≤ 8
      case neg =>
        have Hr := Lib.hid (Hbad.out (runB_long im l hl8))
        have hl9 : 8 < l.length := by omega
        go_wp2
        go_ret
        exact ⟨by rw [Hr.out]; rfl, Bw.out⟩
      have hl9 : ¬ 8 < l.length := by omega
      have hkd : decide ((k : Int) < 2) = true := by rw [decide_eq_true_eq]; omega
      go_wp2_with fail
      go_loopw [5] (fun i wi => ∃ q : Nat, i = .int .i64 q ∧ q ≤ l.length ∧ ((l.take q).all fun a => holdsB im.segs a 8 4) = true ∧ Below w.heap.size w wi ∧ Below wr.heap.size wr wi) (fun i _ => l.length - (intOf i).toNat)
      case atStart => exact ⟨0, rfl, Nat.zero_le _, rfl, Bw.out, Below.refl _ _⟩
      case round =>
        obtain ⟨q, rfl, hq, hall, hb0, hb1⟩ := hrel
        have Hall := Lib.hid hall
        have Hb0 := Lib.hid hb0
        have Hb1 := Lib.hid hb1
        have hzi := hb1.size
        have hF2 := (hb1.block w.heap.size (by omega)).trans HF.out
        clear hall hb0 hb1
        by_cases hlt2 : q < l.length
        · obtain rfl := Hat.out.addr (by omega)
          obtain ⟨x, hx⟩ : ∃ x, l[q]? = some x := ⟨_, List.getElem?_eq_getElem hlt2⟩
          have hxc := (Hat.out.below Hb0.out).int1 q x hx
          have hxr := Hrange.out x (List.mem_of_getElem? hx)
          have Hyes : Hid (holdsB im.segs x 8 4 = true → ((l.take (q + 1)).all fun a => holdsB im.segs a 8 4) = true) := Lib.hid (fun h => by rw [all_take_snoc _ l q x hx, Hall.out, h]; rfl)
          have Hno : Hid (holdsB im.segs x 8 4 = false → (runB im im.init && runB im im.fini) = false) := Lib.hid (fun h => Hbad.out (runB_bad im l q x hx h))
          obtain ⟨q0, q1, q2, q3, q4, q5, q6, q7, q8, q9, q10, q11, q12, q13, q14⟩ := img_cells hF2
          have hHx := HH.out wr.drew x Hb0.out.drew hxr
          go_wp2_with fail
          refine wp_region_phase 7 (by kernel_rfl) (by kernel_rfl) ?_
          simp only [List.take_succ_cons, List.take_zero, List.drop_succ_cons, List.drop_zero, List.take_nil, List.drop_nil]
          refine wpAny_of_held (S := fun w' => w'.cell? ⟨w.heap.size, 0, none⟩ = some (.string ⟨im.name.toArray⟩) ∧ w'.cell? ⟨w.heap.size, 1, none⟩ = some (.int .i64 im.flags) ∧ w'.cell? ⟨w.heap.size, 2, none⟩ = some vsegs ∧ w'.cell? ⟨w.heap.size, 3, none⟩ = some vneeded ∧ w'.cell? ⟨w.heap.size, 4, none⟩ = some vrunPath ∧ w'.cell? ⟨w.heap.size, 5, none⟩ = some vsyms ∧ w'.cell? ⟨w.heap.size, 6, none⟩ = some vbuckets ∧ w'.cell? ⟨w.heap.size, 7, none⟩ = some vwords ∧ w'.cell? ⟨w.heap.size, 8, none⟩ = some (.int .i64 im.shift) ∧ w'.cell? ⟨w.heap.size, 9, none⟩ = some vrelocs ∧ w'.cell? ⟨w.heap.size, 10, none⟩ = some vslots ∧ w'.cell? ⟨w.heap.size, 11, none⟩ = some (.slice ia im.init.length icap) ∧ w'.cell? ⟨w.heap.size, 12, none⟩ = some (.slice fa im.fini.length fcap) ∧ w'.cell? ⟨w.heap.size, 13, none⟩ = some vtls ∧ w'.cell? ⟨w.heap.size, 14, none⟩ = some (.int .i64 im.tlsSize) ∧ w'.cell? ⟨lb, loff + q, none⟩ = some (.int .i64 x)) _ _ _ _ ?_
          have hHeld : (fun w' : World => w'.cell? ⟨w.heap.size, 0, none⟩ = some (.string ⟨im.name.toArray⟩) ∧ w'.cell? ⟨w.heap.size, 1, none⟩ = some (.int .i64 im.flags) ∧ w'.cell? ⟨w.heap.size, 2, none⟩ = some vsegs ∧ w'.cell? ⟨w.heap.size, 3, none⟩ = some vneeded ∧ w'.cell? ⟨w.heap.size, 4, none⟩ = some vrunPath ∧ w'.cell? ⟨w.heap.size, 5, none⟩ = some vsyms ∧ w'.cell? ⟨w.heap.size, 6, none⟩ = some vbuckets ∧ w'.cell? ⟨w.heap.size, 7, none⟩ = some vwords ∧ w'.cell? ⟨w.heap.size, 8, none⟩ = some (.int .i64 im.shift) ∧ w'.cell? ⟨w.heap.size, 9, none⟩ = some vrelocs ∧ w'.cell? ⟨w.heap.size, 10, none⟩ = some vslots ∧ w'.cell? ⟨w.heap.size, 11, none⟩ = some (.slice ia im.init.length icap) ∧ w'.cell? ⟨w.heap.size, 12, none⟩ = some (.slice fa im.fini.length fcap) ∧ w'.cell? ⟨w.heap.size, 13, none⟩ = some vtls ∧ w'.cell? ⟨w.heap.size, 14, none⟩ = some (.int .i64 im.tlsSize) ∧ w'.cell? ⟨lb, loff + q, none⟩ = some (.int .i64 x)) wr.drew := ⟨q0, q1, q2, q3, q4, q5, q6, q7, q8, q9, q10, q11, q12, q13, q14, hxc⟩
          show wpAnyH _ _ _ _ _ _ _ _ wr.drew
          refine wpAnyH_take (i := 0) (v := ?_) rfl (by kernel_rfl) (by kernel_rfl) (by kernel_rfl) (fun _ _ _ h => h) (Or.inl ⟨by rfl, ?_⟩) hHeld ?_
          rotate_left
          · (intro w hSw; (try dsimp only at hSw); go_simp; try with_reducible rfl)
          try simp only [Act.put, List.setIfInBounds_toArray, List.set_cons_zero, List.set_cons_succ]
          refine wpAnyH_take (i := 1) (v := ?_) rfl (by kernel_rfl) (by kernel_rfl) (by kernel_rfl) (fun _ _ _ h => h) (Or.inl ⟨by rfl, ?_⟩) hHeld ?_
          rotate_left
          · (intro w hSw; (try dsimp only at hSw); go_simp; try with_reducible rfl)
          try simp only [Act.put, List.setIfInBounds_toArray, List.set_cons_zero, List.set_cons_succ]
          refine wpAnyH_take (i := 2) (v := ?_) rfl (by kernel_rfl) (by kernel_rfl) (by kernel_rfl) (fun _ _ _ h => h) (Or.inl ⟨by rfl, ?_⟩) hHeld ?_
          rotate_left
          · (intro w hSw; (try dsimp only at hSw); go_simp; try with_reducible rfl)
          try simp only [Act.put, List.setIfInBounds_toArray, List.set_cons_zero, List.set_cons_succ]
          refine wpAnyH_take (i := 3) (v := ?_) rfl (by kernel_rfl) (by kernel_rfl) (by kernel_rfl) (fun _ _ _ h => h) (Or.inl ⟨by rfl, ?_⟩) hHeld ?_
          rotate_left
          · (intro w hSw; (try dsimp only at hSw); go_simp; try with_reducible rfl)
          try simp only [Act.put, List.setIfInBounds_toArray, List.set_cons_zero, List.set_cons_succ]
          refine wpAnyH_take (i := 4) (v := ?_) rfl (by kernel_rfl) (by kernel_rfl) (by kernel_rfl) (fun _ _ _ h => h) (Or.inl ⟨by rfl, ?_⟩) hHeld ?_
          rotate_left
          · (intro w hSw; (try dsimp only at hSw); go_simp; try with_reducible rfl)
          try simp only [Act.put, List.setIfInBounds_toArray, List.set_cons_zero, List.set_cons_succ]
          refine wpAnyH_ready (rs := [5]) (by kernel_rfl) (by simp) ?_
          refine AllReadyH.cons rfl (fun K hK => ?_) AllReadyH.nil
          go_simp
          refine hHx.mono ?_
          rintro e w2 ⟨rfl, hb2'⟩
          have hb2 : Below wr.heap.size wr w2 := ((Below.refl _ wr).drew).trans hb2'
          have Hb2 := Lib.hid (Hb0.out.trans (hb2.mono (by omega)))
          have Hb3 := Lib.hid (Hb1.out.trans (hb2.mono (by omega)))
          have hz2 := hb2.size
          have hF3 := (hb2.block w.heap.size (by omega)).trans hF2
          have hxc2 := (Hat.out.below Hb2.out).int1 q x hx
          obtain ⟨q0, q1, q2, q3, q4, q5, q6, q7, q8, q9, q10, q11, q12, q13, q14⟩ := img_cells hF3
          refine hK.out _ _ ⟨q0, q1, q2, q3, q4, q5, q6, q7, q8, q9, q10, q11, q12, q13, q14, hxc2⟩ (fun hHeld => ?_)
          clear hK K q0 q1 q2 q3 q4 q5 q6 q7 q8 q9 q10 q11 q12 q13 q14
          try simp only [Act.put, List.setIfInBounds_toArray, List.set_cons_zero, List.set_cons_succ]
          cases hh : holdsB im.segs x 8 4 with
          | false =>
            have Hr := Lib.hid (Hno.out hh)
            clear hh
            refine wpAnyH_take (i := 6) (v := ?_) rfl (by kernel_rfl) (by kernel_rfl) (by kernel_rfl) (fun _ _ _ h => h) (Or.inl ⟨by rfl, ?_⟩) hHeld ?_
            rotate_left
            · (intro w hSw; (try dsimp only at hSw); go_simp; try with_reducible rfl)
            try simp only [Act.put, List.setIfInBounds_toArray, List.set_cons_zero, List.set_cons_succ]
            refine wpAnyH_done (by kernel_rfl) ?_ _
            simp only [phaseQ]
            clear hHeld hxc2 hF3 hb2 hb2' hF2 hHx hxc hx
            go_wp2
            go_ret
            exact ⟨by rw [Hr.out]; rfl, Hb2.out⟩
          | true =>
            have Hy := Lib.hid (Hyes.out hh)
            clear hh
            refine wpAnyH_take (i := 6) (v := ?_) rfl (by kernel_rfl) (by kernel_rfl) (by kernel_rfl) (fun _ _ _ h => h) (Or.inl ⟨by rfl, ?_⟩) hHeld ?_
            rotate_left
            · (intro w hSw; (try dsimp only at hSw); go_simp; try with_reducible rfl)
            try simp only [Act.put, List.setIfInBounds_toArray, List.set_cons_zero, List.set_cons_succ]
            refine wpAnyH_done (by kernel_rfl) ?_ _
            simp only [phaseQ]
            clear hHeld hxc2 hF3 hb2 hb2' hF2 hHx hxc hx
            go_wp2
            go_round
            case rel => exact ⟨q + 1, by go_num, by omega, Hy.out, Hb2.out, Hb3.out⟩
            case measure => simp [intOf]; omega
        · have Hl := Lib.hid (Hgood.out (runB_all im l hl8 (by have := Hall.out; rwa [List.take_of_length_le (by omega)] at this)))
          go_wp2
          go_round
          case rel =>
            have e0 := Hb1.out.block (w.heap.size + 1) hz
            exact ⟨k + 1, by go_num, by omega, Hl.out.1, Hl.out.2, Hb0.out, hF2, by rw [World.cell?_of_block (a := ⟨w.heap.size + 1, 0, none⟩) e0]; exact Hc0.out, by rw [World.cell?_of_block (a := ⟨w.heap.size + 1, 1, none⟩) e0]; exact Hc1.out, by omega⟩
          case measure => simp [intOf]; omega
    · have Hr : Hid ((runB im im.init && runB im im.fini) = true) := Lib.hid (by rw [H1.out (by omega), H2.out (by omega)]; rfl)
      go_wp2
      go_ret
      exact ⟨by rw [Hr.out]; rfl, Bw.out⟩

end Go.Proofs.Ytbliedldlimpgaa

namespace Go.Proofs.Ytbliedldlimpgaa
set_option linter.unusedVariables false
set_option linter.unusedSimpArgs false
open Go.RowKit

set_option maxHeartbeats 8000000 in
set_option maxRecDepth 100000 in
theorem smarks_any (w : World) (a : Option Addr) (n c : Nat) (s : Int) (h : Nat) (hh : h < 4294967296) (h1 : 1 ≤ n) (h2 : n ≤ 64) (h3 : 1 ≤ s) (h4 : s ≤ 31) :
    Calls Try.prog 95 #[.agg #[.slice a n c, .int .i64 s], .int .u32 h] w fun e w' => e = .returned (.agg #[.int .i64 (bits .and .i64 ((h : Int) / 64) ((n : Int) - 1)), .int .u64 (bits .or .u64 (IntKind.u64.wrap (2 ^ (h % 64))) (IntKind.u64.wrap (2 ^ (h / 2 ^ s.toNat % 64))))]) ∧ Below w.heap.size w w' := by
  obtain ⟨sn, rfl⟩ : ∃ sn : Nat, s = sn := ⟨s.toNat, by omega⟩
  have e1 : ((h : Int)).tmod 64 = ((h % 64 : Nat) : Int) := by rw [Int.tmod_eq_emod_of_nonneg (by omega)]; omega
  have e2 : ((h : Int) / 2 ^ sn).tmod 64 = ((h / 2 ^ sn % 64 : Nat) : Int) := by
    rw [Int.tmod_eq_emod_of_nonneg (Int.ediv_nonneg (by omega) (Int.le_of_lt (Int.pow_pos (by decide)))), Int.natCast_emod, Int.natCast_ediv, Int.natCast_pow]
    rfl
  have k1 : h % 64 < 64 := Nat.mod_lt _ (by decide)
  have k2 : h / 2 ^ sn % 64 < 64 := Nat.mod_lt _ (by decide)
  generalize hb1 : h % 64 = b1 at *
  generalize hb2 : h / 2 ^ sn % 64 = b2 at *
  go_enter Try.func95, Try.ntmps95
  go_wp2_with fail
  refine wp_region_phase 19 (by kernel_rfl) (by kernel_rfl) ?_
  simp only [List.take_succ_cons, List.take_zero, List.drop_succ_cons, List.drop_zero, List.take_nil, List.drop_nil]
  have F0 : ((w.alloc (.cells #[.slice a n c, .int .i64 (sn : Int)] 30 (0, 0))).alloc (.cells #[.int .i64 0, .int .u64 0] 141 (0, 0))).heap[w.heap.size]? = some (.cells #[.slice a n c, .int .i64 (sn : Int)] 30 (0, 0)) := by
    rw [heap_alloc_old _ _ (by simp)]; exact heap_alloc_new w _
  have c0 := (Lib.cell_of_heap F0 0)
  have c1 := (Lib.cell_of_heap F0 1)
  refine wpAny_of_held (S := fun w' => w'.cell? ⟨w.heap.size, 0, none⟩ = some (.slice a n c) ∧ w'.cell? ⟨w.heap.size, 1, none⟩ = some (.int .i64 (sn : Int))) _ _ _ _ ?_
  have hHeld : (fun w' : World => w'.cell? ⟨w.heap.size, 0, none⟩ = some (.slice a n c) ∧ w'.cell? ⟨w.heap.size, 1, none⟩ = some (.int .i64 (sn : Int))) ((w.alloc (.cells #[.slice a n c, .int .i64 (sn : Int)] 30 (0, 0))).alloc (.cells #[.int .i64 0, .int .u64 0] 141 (0, 0))).drew := ⟨c0, c1⟩
  show wpAnyH _ _ _ _ _ _ _ _ (World.drew _)
  refine wpAnyH_take (i := 0) (v := ?_) rfl (by kernel_rfl) (by kernel_rfl) (by kernel_rfl) (fun _ _ _ h => h) (Or.inl ⟨by rfl, ?_⟩) hHeld ?_
  rotate_left
  · (intro w hSw; (try dsimp only at hSw); go_simp; try with_reducible rfl)
  try simp only [Act.put, List.setIfInBounds_toArray, List.set_cons_zero, List.set_cons_succ]
  refine wpAnyH_take (i := 1) (v := ?_) rfl (by kernel_rfl) (by kernel_rfl) (by kernel_rfl) (fun _ _ _ h => h) (Or.inl ⟨by rfl, ?_⟩) hHeld ?_
  rotate_left
  · (intro w hSw; (try dsimp only at hSw); go_simp; try with_reducible rfl)
  try simp only [Act.put, List.setIfInBounds_toArray, List.set_cons_zero, List.set_cons_succ]
  refine wpAnyH_take (i := 2) (v := ?_) rfl (by kernel_rfl) (by kernel_rfl) (by kernel_rfl) (fun _ _ _ h => h) (Or.inl ⟨by rfl, ?_⟩) hHeld ?_
  rotate_left
  · (intro w hSw; (try dsimp only at hSw); go_simp; try with_reducible rfl)
  try simp only [Act.put, List.setIfInBounds_toArray, List.set_cons_zero, List.set_cons_succ]
  refine wpAnyH_take (i := 3) (v := ?_) rfl (by kernel_rfl) (by kernel_rfl) (by kernel_rfl) (fun _ _ _ h => h) (Or.inl ⟨by rfl, ?_⟩) hHeld ?_
  rotate_left
  · (intro w hSw; (try dsimp only at hSw); go_simp; try with_reducible rfl)
  try simp only [Act.put, List.setIfInBounds_toArray, List.set_cons_zero, List.set_cons_succ]
  refine wpAnyH_take (i := 4) (v := ?_) rfl (by kernel_rfl) (by kernel_rfl) (by kernel_rfl) (fun _ _ _ h => h) (Or.inl ⟨by rfl, ?_⟩) hHeld ?_
  rotate_left
  · (intro w hSw; (try dsimp only at hSw); go_simp; try with_reducible rfl)
  try simp only [Act.put, List.setIfInBounds_toArray, List.set_cons_zero, List.set_cons_succ]
  refine wpAnyH_take (i := 5) (v := ?_) rfl (by kernel_rfl) (by kernel_rfl) (by kernel_rfl) (fun _ _ _ h => h) (Or.inl ⟨by rfl, ?_⟩) hHeld ?_
  rotate_left
  · (intro w hSw; (try dsimp only at hSw); go_simp; try with_reducible rfl)
  try simp only [Act.put, List.setIfInBounds_toArray, List.set_cons_zero, List.set_cons_succ]
  refine wpAnyH_take (i := 6) (v := ?_) rfl (by kernel_rfl) (by kernel_rfl) (by kernel_rfl) (fun _ _ _ h => h) (Or.inl ⟨by rfl, ?_⟩) hHeld ?_
  rotate_left
  · (intro w hSw; (try dsimp only at hSw); go_simp; try with_reducible rfl)
  try simp only [Act.put, List.setIfInBounds_toArray, List.set_cons_zero, List.set_cons_succ]
  refine wpAnyH_take (i := 7) (v := ?_) rfl (by kernel_rfl) (by kernel_rfl) (by kernel_rfl) (fun _ _ _ h => h) (Or.inl ⟨by rfl, ?_⟩) hHeld ?_
  rotate_left
  · (intro w hSw; (try dsimp only at hSw); go_simp; try with_reducible rfl)
  try simp only [Act.put, List.setIfInBounds_toArray, List.set_cons_zero, List.set_cons_succ]
  refine wpAnyH_take (i := 8) (v := ?_) rfl (by kernel_rfl) (by kernel_rfl) (by kernel_rfl) (fun _ _ _ h => h) (Or.inl ⟨by rfl, ?_⟩) hHeld ?_
  rotate_left
  · (intro w hSw; (try dsimp only at hSw); go_simp; try with_reducible rfl)
  try simp only [Act.put, List.setIfInBounds_toArray, List.set_cons_zero, List.set_cons_succ]
  refine wpAnyH_take (i := 9) (v := ?_) rfl (by kernel_rfl) (by kernel_rfl) (by kernel_rfl) (fun _ _ _ h => h) (Or.inl ⟨by rfl, ?_⟩) hHeld ?_
  rotate_left
  · (intro w hSw; (try dsimp only at hSw); go_simp; try with_reducible rfl)
  try simp only [Act.put, List.setIfInBounds_toArray, List.set_cons_zero, List.set_cons_succ]
  refine wpAnyH_take (i := 10) (v := ?_) rfl (by kernel_rfl) (by kernel_rfl) (by kernel_rfl) (fun _ _ _ h => h) (Or.inl ⟨by rfl, ?_⟩) hHeld ?_
  rotate_left
  · (intro w hSw; (try dsimp only at hSw); go_simp; try with_reducible rfl)
  try simp only [Act.put, List.setIfInBounds_toArray, List.set_cons_zero, List.set_cons_succ]
  refine wpAnyH_take (i := 11) (v := ?_) rfl (by kernel_rfl) (by kernel_rfl) (by kernel_rfl) (fun _ _ _ h => h) (Or.inl ⟨by rfl, ?_⟩) hHeld ?_
  rotate_left
  · (intro w hSw; (try dsimp only at hSw); go_simp; try with_reducible rfl)
  try simp only [Act.put, List.setIfInBounds_toArray, List.set_cons_zero, List.set_cons_succ]
  refine wpAnyH_take (i := 12) (v := ?_) rfl (by kernel_rfl) (by kernel_rfl) (by kernel_rfl) (fun _ _ _ h => h) (Or.inl ⟨by rfl, ?_⟩) hHeld ?_
  rotate_left
  · (intro w hSw; (try dsimp only at hSw); go_simp; try with_reducible rfl)
  try simp only [Act.put, List.setIfInBounds_toArray, List.set_cons_zero, List.set_cons_succ]
  refine wpAnyH_take (i := 13) (v := ?_) rfl (by kernel_rfl) (by kernel_rfl) (by kernel_rfl) (fun _ _ _ h => h) (Or.inl ⟨by rfl, ?_⟩) hHeld ?_
  rotate_left
  · (intro w hSw; (try dsimp only at hSw); go_simp; try with_reducible rfl)
  try simp only [Act.put, List.setIfInBounds_toArray, List.set_cons_zero, List.set_cons_succ]
  refine wpAnyH_take (i := 14) (v := ?_) rfl (by kernel_rfl) (by kernel_rfl) (by kernel_rfl) (fun _ _ _ h => h) (Or.inl ⟨by rfl, ?_⟩) hHeld ?_
  rotate_left
  · (intro w hSw; (try dsimp only at hSw); go_simp; try with_reducible rfl)
  try simp only [Act.put, List.setIfInBounds_toArray, List.set_cons_zero, List.set_cons_succ]
  refine wpAnyH_take (i := 15) (v := ?_) rfl (by kernel_rfl) (by kernel_rfl) (by kernel_rfl) (fun _ _ _ h => h) (Or.inl ⟨by rfl, ?_⟩) hHeld ?_
  rotate_left
  · (intro w hSw; (try dsimp only at hSw); go_simp; try with_reducible rfl)
  try simp only [Act.put, List.setIfInBounds_toArray, List.set_cons_zero, List.set_cons_succ]
  refine wpAnyH_take (i := 16) (v := ?_) rfl (by kernel_rfl) (by kernel_rfl) (by kernel_rfl) (fun _ _ _ h => h) (Or.inl ⟨by rfl, ?_⟩) hHeld ?_
  rotate_left
  · (intro w hSw; (try dsimp only at hSw); go_simp; try with_reducible rfl)
  try simp only [Act.put, List.setIfInBounds_toArray, List.set_cons_zero, List.set_cons_succ]
  refine wpAnyH_take (i := 17) (v := ?_) rfl (by kernel_rfl) (by kernel_rfl) (by kernel_rfl) (fun _ _ _ h => h) (Or.inl ⟨by rfl, ?_⟩) hHeld ?_
  rotate_left
  · (intro w hSw; (try dsimp only at hSw); go_simp; try with_reducible rfl)
  try simp only [Act.put, List.setIfInBounds_toArray, List.set_cons_zero, List.set_cons_succ]
  refine wpAnyH_take (i := 18) (v := ?_) rfl (by kernel_rfl) (by kernel_rfl) (by kernel_rfl) (fun _ _ _ h => h) (Or.inl ⟨by rfl, ?_⟩) hHeld ?_
  rotate_left
  · (intro w hSw; (try dsimp only at hSw); go_simp; try with_reducible rfl)
  try simp only [Act.put, List.setIfInBounds_toArray, List.set_cons_zero, List.set_cons_succ]
  refine wpAnyH_done (by kernel_rfl) ?_ _
  simp only [phaseQ]
  clear hHeld
  go_wp2
  have F1 : ((w.alloc (.cells #[.slice a n c, .int .i64 (sn : Int)] 30 (0, 0))).alloc (.cells #[.int .i64 (bits .and .i64 ((h : Int) / 64) ((n : Int) - 1)), .int .u64 (bits .or .u64 (IntKind.u64.wrap (2 ^ b1)) (IntKind.u64.wrap (2 ^ b2)))] 141 (0, 0))).drew.heap[w.heap.size + 1]? = some (.cells #[.int .i64 (bits .and .i64 ((h : Int) / 64) ((n : Int) - 1)), .int .u64 (bits .or .u64 (IntKind.u64.wrap (2 ^ b1)) (IntKind.u64.wrap (2 ^ b2)))] 141 (0, 0)) := by
    have := heap_alloc_new (w.alloc (.cells #[.slice a n c, .int .i64 (sn : Int)] 30 (0, 0))) (.cells #[.int .i64 (bits .and .i64 ((h : Int) / 64) ((n : Int) - 1)), .int .u64 (bits .or .u64 (IntKind.u64.wrap (2 ^ b1)) (IntKind.u64.wrap (2 ^ b2)))] 141 (0, 0))
    rw [World.size_alloc] at this
    exact this
  have d0 : ((w.alloc (.cells #[.slice a n c, .int .i64 (sn : Int)] 30 (0, 0))).alloc (.cells #[.int .i64 (bits .and .i64 ((h : Int) / 64) ((n : Int) - 1)), .int .u64 (bits .or .u64 (IntKind.u64.wrap (2 ^ b1)) (IntKind.u64.wrap (2 ^ b2)))] 141 (0, 0))).drew.cell? ⟨w.heap.size + 1, 0, none⟩ = some (.int .i64 (bits .and .i64 ((h : Int) / 64) ((n : Int) - 1))) := by rw [Lib.cell_of_heap F1]; rfl
  have d1 : ((w.alloc (.cells #[.slice a n c, .int .i64 (sn : Int)] 30 (0, 0))).alloc (.cells #[.int .i64 (bits .and .i64 ((h : Int) / 64) ((n : Int) - 1)), .int .u64 (bits .or .u64 (IntKind.u64.wrap (2 ^ b1)) (IntKind.u64.wrap (2 ^ b2)))] 141 (0, 0))).drew.cell? ⟨w.heap.size + 1, 1, none⟩ = some (.int .u64 (bits .or .u64 (IntKind.u64.wrap (2 ^ b1)) (IntKind.u64.wrap (2 ^ b2)))) := by rw [Lib.cell_of_heap F1]; rfl
  refine bodyPost_ret (v := .agg #[.int .i64 (bits .and .i64 ((h : Int) / 64) ((n : Int) - 1)), .int .u64 (bits .or .u64 (IntKind.u64.wrap (2 ^ b1)) (IntKind.u64.wrap (2 ^ b2)))]) (by simp [results, Try.results95, d0, d1, go_sem]) rfl ⟨by rw [Int.toNat_natCast, hb2], (((Below.refl _ _).alloc (Nat.le_refl _) _).alloc (by simp) _).drew⟩

end Go.Proofs.Ytbliedldlimpgaa

namespace Go.Proofs.Ytbliedldlimpgaa
set_option linter.unusedVariables false
set_option linter.unusedSimpArgs false
open Go.RowKit

theorem nat_two_bits (m k1 k2 : Nat) : m &&& (2 ^ k1 ||| 2 ^ k2) = 2 ^ k1 ||| 2 ^ k2 ↔ m.testBit k1 = true ∧ m.testBit k2 = true := by
  constructor
  · intro h
    have h1 := congrArg (fun x => x.testBit k1) h
    have h2 := congrArg (fun x => x.testBit k2) h
    simp only [Nat.testBit_and, Nat.testBit_or, Nat.testBit_two_pow_self] at h1 h2
    simp at h1 h2
    exact ⟨h1, h2⟩
  · rintro ⟨h1, h2⟩
    apply Nat.eq_of_testBit_eq
    intro i
    simp only [Nat.testBit_and, Nat.testBit_or, Nat.testBit_two_pow]
    by_cases e1 : k1 = i
    · subst e1; simp [h1]
    · by_cases e2 : k2 = i
      · subst e2; simp [h2]
      · simp [e1, e2]
theorem bitB_testBit (m k : Nat) : bitB (m : Int) k = m.testBit k := by
  rw [bitB, Int.toNat_natCast, Nat.testBit_eq_decide_div_mod_eq]
  rw [Bool.eq_iff_iff]; simp
theorem wrap_pow (k : Nat) (h : k < 64) : IntKind.u64.wrap ((2 : Int) ^ k) = ((2 ^ k : Nat) : Int) := by
  have : (2 ^ k : Nat) < 2 ^ 64 := Nat.pow_lt_pow_right (by decide) h
  have e : (2 : Nat) ^ 64 = 18446744073709551616 := by decide
  rw [show ((2 : Int) ^ k) = ((2 ^ k : Nat) : Int) by rw [Int.natCast_pow]; rfl]
  generalize 2 ^ k = P at *
  exact IntWalk.u64_in _ ⟨by omega, by omega⟩
/-- the mark's bits -/
theorem marks_bits (k1 k2 : Nat) (h1 : k1 < 64) (h2 : k2 < 64) : bits .or .u64 (IntKind.u64.wrap ((2 : Int) ^ k1)) (IntKind.u64.wrap ((2 : Int) ^ k2)) = ((2 ^ k1 ||| 2 ^ k2 : Nat) : Int) := by
  have a1 : (2 ^ k1 : Nat) < 2 ^ 64 := Nat.pow_lt_pow_right (by decide) h1
  have a2 : (2 ^ k2 : Nat) < 2 ^ 64 := Nat.pow_lt_pow_right (by decide) h2
  have e : (2 : Nat) ^ 64 = 18446744073709551616 := by decide
  rw [wrap_pow k1 h1, wrap_pow k2 h2, u64_or_nat _ _ (by omega) (by omega)]
theorem marks_lt (k1 k2 : Nat) (h1 : k1 < 64) (h2 : k2 < 64) : 2 ^ k1 ||| 2 ^ k2 < 18446744073709551616 :=
  Nat.or_lt_two_pow (n := 64) (Nat.pow_lt_pow_right (by decide) h1) (Nat.pow_lt_pow_right (by decide) h2)
theorem marks_miss (m k1 k2 : Nat) (hm : m < 18446744073709551616) (h1 : k1 < 64) (h2 : k2 < 64) :
    (bits .and .u64 (m : Int) ((2 ^ k1 ||| 2 ^ k2 : Nat) : Int) != ((2 ^ k1 ||| 2 ^ k2 : Nat) : Int)) = !(bitB (m : Int) k1 && bitB (m : Int) k2) := by
  rw [u64_and_nat _ _ hm (marks_lt k1 k2 h1 h2), bitB_testBit, bitB_testBit]
  have h := nat_two_bits m k1 k2
  rw [Bool.eq_iff_iff]
  simp only [bne_iff_ne, ne_eq, Int.natCast_inj, h, Bool.not_eq_true', Bool.and_eq_false_iff]
  cases m.testBit k1 <;> cases m.testBit k2 <;> simp
theorem i64_and_small (a b : Nat) (ha : a < 9223372036854775808) (hb : b < 9223372036854775808) : bits .and .i64 (a : Int) (b : Int) = ((a &&& b : Nat) : Int) := by
  have h1 : (BitVec.ofInt 64 (a : Int)).toNat = a := ofInt_u64 a (by omega)
  have h2 : (BitVec.ofInt 64 (b : Int)).toNat = b := ofInt_u64 b (by omega)
  have h3 : a &&& b < 9223372036854775808 := Nat.lt_of_le_of_lt Nat.and_le_left ha
  show IntKind.i64.wrap ((BitVec.ofInt 64 (a : Int) &&& BitVec.ofInt 64 (b : Int)).toNat : Int) = _
  rw [BitVec.toNat_and, h1, h2]
  simp [IntKind.wrap, IntKind.bits, IntKind.signed]
  omega
theorem pow_word (h n : Nat) (hh : h < 4294967296) (hp : powB n = true) : bits .and .i64 ((h : Int) / 64) ((n : Int) - 1) = ((h / 64 % n : Nat) : Int) := by
  rw [powB_iff] at hp
  rw [show ((h : Int) / 64) = ((h / 64 : Nat) : Int) by omega, show ((n : Int) - 1) = ((n - 1 : Nat) : Int) by omega, i64_and_small _ _ (by omega) (by omega)]
  congr 1
  rcases hp with rfl | rfl | rfl | rfl | rfl | rfl | rfl
  · exact Nat.and_two_pow_sub_one_eq_mod _ 0
  · exact Nat.and_two_pow_sub_one_eq_mod _ 1
  · exact Nat.and_two_pow_sub_one_eq_mod _ 2
  · exact Nat.and_two_pow_sub_one_eq_mod _ 3
  · exact Nat.and_two_pow_sub_one_eq_mod _ 4
  · exact Nat.and_two_pow_sub_one_eq_mod _ 5
  · exact Nat.and_two_pow_sub_one_eq_mod _ 6

set_option maxHeartbeats 8000000 in
set_option maxRecDepth 100000 in
theorem slacks_any (w : World) (v : Value) (ws : List Int) (s : Int) (h : Nat) (hw : LB kWord (· < w.heap.size) w v ws) (hr : ∀ x ∈ ws, 0 ≤ x ∧ x < 18446744073709551616) (hh : h < 4294967296) (hs : sieveB ws s = true) :
    Calls Try.prog 63 #[.agg #[v, .int .i64 s], .int .u32 h] w fun e w' => e = .returned (.bool (lacksB ws s (h : Int))) ∧ Below w.heap.size w w' := by
  obtain ⟨a, b, off, c, rfl, hm, hc, hat⟩ := hw.at
  have hse : sieveErr ws s = 0 := by rw [sieveErr, hs]; rfl
  rw [sieveB_pow] at hs
  simp only [Bool.and_eq_true, decide_eq_true_eq] at hs
  obtain ⟨⟨hp, hs1⟩, hs2⟩ := hs
  have hn := (powB_iff _).1 hp
  have hn1 : 1 ≤ ws.length ∧ ws.length ≤ 64 := by omega
  obtain rfl := hat.addr (by omega)
  have hk : h / 64 % ws.length < ws.length := Nat.mod_lt _ (by omega)
  obtain ⟨x, hx⟩ : ∃ x, ws[h / 64 % ws.length]? = some x := ⟨_, List.getElem?_eq_getElem hk⟩
  have hxr := hr x (List.mem_of_getElem? hx)
  obtain ⟨m, rfl⟩ : ∃ m : Nat, x = m := ⟨x.toNat, by omega⟩
  have k1 : h % 64 < 64 := Nat.mod_lt _ (by decide)
  have k2 : h / 2 ^ s.toNat % 64 < 64 := Nat.mod_lt _ (by decide)
  have Hres : Hid (lacksB ws s (h : Int) = (bits .and .u64 (m : Int) ((2 ^ (h % 64) ||| 2 ^ (h / 2 ^ s.toNat % 64) : Nat) : Int) != ((2 ^ (h % 64) ||| 2 ^ (h / 2 ^ s.toNat % 64) : Nat) : Int))) := Lib.hid (by
    rw [marks_miss m _ _ (by omega) k1 k2, lacksB, Int.toNat_natCast, List.getD_eq_getElem?_getD, hx]; rfl)
  have HR := Lib.hid (sright_any (w.alloc (.cells #[.slice (some ⟨b, off, none⟩) ws.length c, .int .i64 s] 30 (0, 0))) ws (some ⟨b, off, none⟩) c s (by omega))
  have HM := Lib.hid (fun w => smarks_any w (some ⟨b, off, none⟩) ws.length c s h hh hn1.1 hn1.2 hs1 hs2)
  have HW := Lib.hid (pow_word h ws.length hh hp)
  have HB := Lib.hid (marks_bits (h % 64) (h / 2 ^ s.toNat % 64) k1 k2)
  have F1 := Lib.hid (heap_alloc_new w (.cells #[.slice (some ⟨b, off, none⟩) ws.length c, .int .i64 s] 30 (0, 0)))
  have B1 := Lib.hid ((Below.refl w.heap.size w).alloc (Nat.le_refl _) (.cells #[.slice (some ⟨b, off, none⟩) ws.length c, .int .i64 s] 30 (0, 0)))
  have Hat := Lib.hid hat
  have hz1 : w.heap.size < (w.alloc (.cells #[.slice (some ⟨b, off, none⟩) ws.length c, .int .i64 s] 30 (0, 0))).heap.size := by simp
  clear hat hr hw hp hn hc hm
  rw [hse] at HR
  go_enter Try.func63, Try.ntmps63
  go_wp2_with fail
  generalize w.alloc (.cells #[.slice (some ⟨b, off, none⟩) ws.length c, .int .i64 s] 30 (0, 0)) = w1 at *
  refine HR.out.mono ?_
  rintro e w2 ⟨rfl, hb2⟩
  have B2 := Lib.hid (B1.out.trans (hb2.mono (by omega)))
  have F2 := (hb2.block _ hz1).trans F1.out
  have c0 : w2.cell? ⟨w.heap.size, 0, none⟩ = some (.slice (some ⟨b, off, none⟩) ws.length c) := by rw [Lib.cell_of_heap F2]; rfl
  have c1 : w2.cell? ⟨w.heap.size, 1, none⟩ = some (.int .i64 s) := by rw [Lib.cell_of_heap F2]; rfl
  have hz2 := hb2.size
  clear hb2 HR F1
  go_wp2_with fail
  refine (HM.out _).mono ?_
  rintro e w3 ⟨rfl, hb3⟩
  have B3 := Lib.hid (B2.out.trans (hb3.mono (by omega)))
  have F3 := (hb3.block w.heap.size (by omega)).trans F2
  have d0 : w3.cell? ⟨w.heap.size, 0, none⟩ = some (.slice (some ⟨b, off, none⟩) ws.length c) := by rw [Lib.cell_of_heap F3]; rfl
  have d1 : w3.cell? ⟨w.heap.size, 1, none⟩ = some (.int .i64 s) := by rw [Lib.cell_of_heap F3]; rfl
  have hz3 := hb3.size
  have hc := (Hat.out.below B3.out).word1 _ _ hx
  rw [HW.out, HB.out]
  clear hb3 F2 HM c0 c1 HW HB F3 hx
  generalize 2 ^ (h % 64) ||| 2 ^ (h / 2 ^ s.toNat % 64) = K at *
  generalize h / 64 % ws.length = q at *
  have hsb := World.block_lt_of_cell? _ _ hc
  have hsw : w.heap.size < w3.heap.size := by omega
  go_wp2_with fail
  go_quiet (fail)
  go_wp2
  go_ret
  exact ⟨by rw [Hres.out]; rfl, below_drewN (B3.out.alloc (by omega) _) _⟩

end Go.Proofs.Ytbliedldlimpgaa

namespace Go.Proofs.Ytbliedldlimpgaa
set_option linter.unusedVariables false
set_option linter.unusedSimpArgs false
open Go.RowKit

set_option maxHeartbeats 8000000 in
set_option maxRecDepth 100000 in
theorem jlacks_any (w : World) (v : Value) (ws : List Int) (s : Int) (h : Nat) (hw : LB kWord (· < w.heap.size) w v ws) (hr : ∀ x ∈ ws, 0 ≤ x ∧ x < 18446744073709551616) (hh : h < 4294967296) (hs : sieveB ws s = true) :
    Calls Try.prog 78 #[.agg #[v, .int .i64 s], .int .u32 h] w fun e w' => e = .returned (.bool (lacksB ws s (h : Int))) ∧ Below w.heap.size w w' := by
  obtain ⟨a, b, off, c, rfl, hm, hc, hat⟩ := hw.at
  have hsB := hs
  rw [sieveB_pow] at hs
  simp only [Bool.and_eq_true, decide_eq_true_eq] at hs
  obtain ⟨⟨hp, hs1⟩, hs2⟩ := hs
  have hn := (powB_iff _).1 hp
  have hn1 : 1 ≤ ws.length ∧ ws.length ≤ 64 := by omega
  obtain rfl := hat.addr (by omega)
  have hk : h / 64 % ws.length < ws.length := Nat.mod_lt _ (by omega)
  obtain ⟨x, hx⟩ : ∃ x, ws[h / 64 % ws.length]? = some x := ⟨_, List.getElem?_eq_getElem hk⟩
  have hxr := hr x (List.mem_of_getElem? hx)
  obtain ⟨m, rfl⟩ : ∃ m : Nat, x = m := ⟨x.toNat, by omega⟩
  obtain ⟨sn, rfl⟩ : ∃ sn : Nat, s = sn := ⟨s.toNat, by omega⟩
  have k1 : h % 64 < 64 := Nat.mod_lt _ (by decide)
  have k2 : h / 2 ^ sn % 64 < 64 := Nat.mod_lt _ (by decide)
  have Hres : Hid (lacksB ws (sn : Int) (h : Int) = (!bitB (m : Int) (h % 64) || !bitB (m : Int) (h / 2 ^ sn % 64))) := Lib.hid (by
    rw [lacksB, Int.toNat_natCast, List.getD_eq_getElem?_getD, hx, Int.toNat_natCast, Bool.not_and]; rfl)
  have HR := Lib.hid (jfright_any (w.alloc (.cells #[.slice (some ⟨b, off, none⟩) ws.length c, .int .i64 (sn : Int)] 30 (0, 0))) ws (some ⟨b, off, none⟩) c sn (by omega))
  rw [hsB] at HR
  have H1 := Lib.hid (fun w => jhas_any w m (h % 64) (by omega) (by omega))
  have H2 := Lib.hid (fun w => jhas_any w m (h / 2 ^ sn % 64) (by omega) (by omega))
  have H3 := Lib.hid (fun w => jshifted_any w h sn hh (by omega))
  have hq : h / 2 ^ sn ≤ h := Nat.div_le_self _ _
  have F1 := Lib.hid (heap_alloc_new w (.cells #[.slice (some ⟨b, off, none⟩) ws.length c, .int .i64 (sn : Int)] 30 (0, 0)))
  have B1 := Lib.hid ((Below.refl w.heap.size w).alloc (Nat.le_refl _) (.cells #[.slice (some ⟨b, off, none⟩) ws.length c, .int .i64 (sn : Int)] 30 (0, 0)))
  have Hat := Lib.hid hat
  have hz1 : w.heap.size < (w.alloc (.cells #[.slice (some ⟨b, off, none⟩) ws.length c, .int .i64 (sn : Int)] 30 (0, 0))).heap.size := by simp
  clear hat hr hw hp hn hc hm hsB
  go_enter Try.func78, Try.ntmps78
  go_wp2_with fail
  generalize w.alloc (.cells #[.slice (some ⟨b, off, none⟩) ws.length c, .int .i64 (sn : Int)] 30 (0, 0)) = w1 at *
  refine HR.out.mono ?_
  rintro e w2 ⟨rfl, hb2⟩
  have B2 := Lib.hid (B1.out.trans (hb2.mono (by omega)))
  have F2 := (hb2.block _ hz1).trans F1.out
  have c0 : w2.cell? ⟨w.heap.size, 0, none⟩ = some (.slice (some ⟨b, off, none⟩) ws.length c) := by rw [Lib.cell_of_heap F2]; rfl
  have c1 : w2.cell? ⟨w.heap.size, 1, none⟩ = some (.int .i64 (sn : Int)) := by rw [Lib.cell_of_heap F2]; rfl
  have hz2 := hb2.size
  have hcx := (Hat.out.below B2.out).word1 _ _ hx
  have e1 : ((h : Int) / 64).tmod (ws.length : Int) = ((h / 64 % ws.length : Nat) : Int) := by
    rw [Int.tmod_eq_emod_of_nonneg (by omega), Int.natCast_emod]; rfl
  have hl0 : ((ws.length : Int) == 0) = false := by rw [beq_eq_false_iff_ne]; omega
  clear hb2 HR F1 F2 hx
  generalize h / 64 % ws.length = q at *
  go_wp2_with fail
  go_quiet (fail)
  have e2 : ((h : Int)).tmod 64 = ((h % 64 : Nat) : Int) := by rw [Int.tmod_eq_emod_of_nonneg (by omega)]; omega
  generalize hb1 : h % 64 = b1 at *
  generalize h / 2 ^ sn = hd at *
  have e3 : (hd : Int).tmod 64 = ((hd % 64 : Nat) : Int) := by rw [Int.tmod_eq_emod_of_nonneg (by omega)]; omega
  generalize hb2 : hd % 64 = b2 at *
  go_wp2_with fail
  refine (H1.out _).mono ?_
  rintro e w3 ⟨rfl, rfl⟩
  go_wp2_with fail
  refine (H3.out _).mono ?_
  rintro e w3 ⟨rfl, rfl⟩
  go_wp2_with fail
  refine (H2.out _).mono ?_
  rintro e w3 ⟨rfl, rfl⟩
  cases hx1 : bitB (m : Int) b1
  all_goals
    have Hx1 := Lib.hid hx1
    clear hx1
    go_wp2
    go_ret
    exact ⟨by rw [Hres.out, Hx1.out]; rfl, below_drewN B2.out _⟩

end Go.Proofs.Ytbliedldlimpgaa

/- Lists that the call makes, of whatever kind of element; what an append leaves; worlds that keep a set of blocks. -/
namespace Go.Proofs.Ytbliedldlimpgaa
set_option linter.unusedVariables false
set_option linter.unusedSimpArgs false
open Go.RowKit

/-- the blocks for which S holds are as they were, and the rest of the world but for the heap -/
structure Step (S : Nat → Prop) (w w' : World) : Prop where
  os : w'.os = w.os
  tape : w'.tape = w.tape
  output : w'.output = w.output
  size : w.heap.size ≤ w'.heap.size
  block : ∀ b, S b → w'.heap[b]? = w.heap[b]?
theorem Step.refl (S : Nat → Prop) (w : World) : Step S w w := ⟨rfl, rfl, rfl, Nat.le_refl _, fun _ _ => rfl⟩
theorem Step.trans {S : Nat → Prop} {a b c : World} (h : Step S a b) (k : Step S b c) : Step S a c := ⟨k.os.trans h.os, k.tape.trans h.tape, k.output.trans h.output, Nat.le_trans h.size k.size, fun i hi => (k.block i hi).trans (h.block i hi)⟩
theorem Step.imp {S S' : Nat → Prop} {w w' : World} (h : Step S w w') (hi : ∀ b, S' b → S b) : Step S' w w' := ⟨h.os, h.tape, h.output, h.size, fun b hb => h.block b (hi b hb)⟩
theorem Step.drew {S : Nat → Prop} {a w : World} (h : Step S a w) : Step S a w.drew := ⟨h.os, h.tape, h.output, h.size, h.block⟩
theorem Step.drewN {S : Nat → Prop} {a w : World} (h : Step S a w) (n : Nat) : Step S a (w.drewN n) := ⟨h.os, h.tape, h.output, h.size, h.block⟩
theorem Step.alloc {S : Nat → Prop} {a w : World} (h : Step S a w) (hS : ∀ b, S b → b < w.heap.size) (o : Obj) : Step S a (w.alloc o) :=
  ⟨h.os, h.tape, h.output, Nat.le_trans h.size (by simp), fun b hb => (Below.heap_alloc w o b (hS b hb)).trans (h.block b hb)⟩
theorem Step.setCell {S : Nat → Prop} {a w : World} (h : Step S a w) {p : Addr} (hp : ¬ S p.block) (u : Value) : Step S a (w.setCell p u) :=
  ⟨h.os, h.tape, h.output, by simpa using h.size, fun b hb => (Below.heap_setCell w p u b (fun e => hp (e ▸ hb))).trans (h.block b hb)⟩
theorem Step.of_below {B : Nat} {w w' : World} (h : Below B w w') : Step (· < B) w w' := ⟨h.os, h.tape, h.output, h.size, h.block⟩
theorem Step.below {B : Nat} {w w' : World} (h : Step (· < B) w w') : Below B w w' := ⟨h.os, h.tape, h.output, h.size, h.block⟩
theorem Step.of_grown {S : Nat → Prop} {w w' : World} {row : Option Nat} (h : w.grownBy w' row) (hS : ∀ b, S b → b < w.heap.size ∧ row ≠ some b) : Step S w w' :=
  ⟨h.os, h.tape, h.output, h.size, fun b hb => h.block b (hS b hb).1 (fun e => (hS b hb).2 e.symm)⟩
theorem Step.keeps {S : Nat → Prop} {w w' : World} (h : Step S w w') : Keeps S w w' := h.block
theorem Step.cell {S : Nat → Prop} {w w' : World} (h : Step S w w') {p : Addr} (hp : S p.block) : w'.cell? p = w.cell? p := World.cell?_of_block (h.block p.block hp)
theorem LB.step {α : Type} {K : Kind α} {S : Nat → Prop} {w w' : World} {v : Value} {l : List α} (h : LB K S w v l) (hs : Step S w w') : LB K S w' v l := h.keeps hs.keeps

/-- the cells of a list of elements, one behind the other -/
def RowsOf {α : Type} (K : Kind α) (S : Nat → Prop) (w : World) : List α → List Value → Prop
  | [], xs => xs = []
  | x :: l, xs => ∃ r ys, xs = r ++ ys ∧ K.R S w x r ∧ RowsOf K S w l ys
section
variable {α : Type} {K : Kind α} {S S' : Nat → Prop} {w w' : World}
theorem RowsOf.keeps : ∀ {l : List α} {xs : List Value}, RowsOf K S w l xs → Keeps S w w' → RowsOf K S w' l xs
  | [], _, h, _ => h
  | _ :: _, _, ⟨r, ys, e, h1, h2⟩, hk => ⟨r, ys, e, K.keeps h1 hk, RowsOf.keeps h2 hk⟩
theorem RowsOf.imp : ∀ {l : List α} {xs : List Value}, RowsOf K S w l xs → (∀ b, S b → S' b) → RowsOf K S' w l xs
  | [], _, h, _ => h
  | _ :: _, _, ⟨r, ys, e, h1, h2⟩, hi => ⟨r, ys, e, K.imp h1 hi, RowsOf.imp h2 hi⟩
theorem RowsOf.snoc : ∀ {l : List α} {xs : List Value} {y : α} {r : List Value}, RowsOf K S w l xs → K.R S w y r → RowsOf K S w (l ++ [y]) (xs ++ r)
  | [], xs, y, r, h, hr => by
    have : xs = [] := h
    subst this
    exact ⟨r, [], by simp, hr, rfl⟩
  | _ :: _, _, y, r, ⟨r0, ys, e, h1, h2⟩, hr => ⟨r0, ys ++ r, by rw [e, List.append_assoc], h1, RowsOf.snoc h2 hr⟩
theorem RowsOf.app : ∀ {l m : List α} {xs ys : List Value}, RowsOf K S w l xs → RowsOf K S w m ys → RowsOf K S w (l ++ m) (xs ++ ys)
  | [], m, xs, ys, h, hm => by
    have : xs = [] := h
    subst this
    exact hm
  | _ :: _, m, _, ys, ⟨r0, zs, e, h1, h2⟩, hm => ⟨r0, zs ++ ys, by rw [e, List.append_assoc], h1, RowsOf.app h2 hm⟩
theorem RowsOf.length : ∀ {l : List α} {xs : List Value}, RowsOf K S w l xs → xs.length = l.length * K.k
  | [], xs, h => by
    have : xs = [] := h
    subst this; simp
  | _ :: l, _, ⟨r, ys, e, h1, h2⟩ => by
    rw [e, List.length_append, K.len h1, RowsOf.length h2, List.length_cons, Nat.succ_mul, Nat.add_comm]
theorem RowsOf.get : ∀ {l : List α} {xs : List Value}, RowsOf K S w l xs → ∀ i x, l[i]? = some x → ∃ r, K.R S w x r ∧ ∀ j u, r[j]? = some u → xs[i * K.k + j]? = some u
  | [], _, _, i, x, hx => by simp at hx
  | y :: l, _, ⟨r, ys, e, h1, h2⟩, i, x, hx => by
    have hl := K.len h1
    cases i with
    | zero =>
      simp at hx; subst hx
      refine ⟨r, h1, fun j u hu => ?_⟩
      rw [e, Nat.zero_mul, Nat.zero_add, List.getElem?_append_left (List.getElem?_eq_some_iff.1 hu).1]; exact hu
    | succ i =>
      obtain ⟨r', h3, h4⟩ := RowsOf.get h2 i x (by simpa using hx)
      refine ⟨r', h3, fun j u hu => ?_⟩
      rw [e, List.getElem?_append_right (by rw [hl, Nat.succ_mul]; omega), hl, Nat.succ_mul]
      rw [show i * K.k + K.k + j - K.k = i * K.k + j by omega]
      exact h4 j u hu
end

/-- v is a slice that the call made (its row is a block from B on, none of E's), and reads as l; what its elements lead to lies neither in E's blocks nor in its row -/
def OwnK {α : Type} (e : TypeId) (K : Kind α) (B : Nat) (E : Nat → Prop) (w : World) (v : Value) (l : List α) : Prop :=
  ∃ xs, w.ownsRow B e K.k v l.length xs ∧ RowsOf K (fun b => b < w.heap.size ∧ ¬ E b ∧ v.ownBlock ≠ some b) w l xs ∧ ∀ g, v.ownBlock = some g → ¬ E g
section
variable {α : Type} {e : TypeId} {K : Kind α} {B : Nat} {E : Nat → Prop} {w w' : World} {v : Value} {l : List α}
theorem OwnK.nil (e : TypeId) (K : Kind α) (B : Nat) (E : Nat → Prop) (w : World) : OwnK e K B E w (.slice none 0 0) [] :=
  ⟨[], World.ownsRow_nil w B e K.k, rfl, fun g h => by simp [Value.ownBlock] at h⟩
theorem OwnK.lt (h : OwnK e K B E w v l) : ∀ k, v.ownBlock = some k → B ≤ k ∧ k < w.heap.size := by
  obtain ⟨xs, h1, _⟩ := h; exact World.ownsRow.lt h1
theorem OwnK.notE (h : OwnK e K B E w v l) : ∀ k, v.ownBlock = some k → ¬ E k := by
  obtain ⟨xs, _, _, h3⟩ := h; exact h3
theorem OwnK.form (h : OwnK e K B E w v l) : ∃ a c, v = .slice a l.length c := by
  obtain ⟨xs, h1, _⟩ := h
  rcases h1.2 with ⟨rfl, h0⟩ | ⟨g, cap, cur, rfl, _⟩
  · exact ⟨none, 0, by rw [h0]⟩
  · exact ⟨_, _, rfl⟩
theorem OwnK.step {S : Nat → Prop} (h : OwnK e K B E w v l) (hs : Step S w w') (hS : ∀ b, b < w.heap.size → ¬ E b → S b) : OwnK e K B E w' v l := by
  obtain ⟨xs, h1, h2, h3⟩ := h
  have hlt := World.ownsRow.lt h1
  have hsz := hs.size
  refine ⟨xs, ⟨h1.1, ?_⟩, ?_, h3⟩
  · rcases h1.2 with h0 | ⟨g, cap, cur, hv, hg, hh, r⟩
    · exact Or.inl h0
    · refine Or.inr ⟨g, cap, cur, hv, hg, ?_, r⟩
      have ho : v.ownBlock = some g := by rw [hv]; rfl
      rw [hs.block g (hS g (hlt g ho).2 (h3 g ho))]; exact hh
  · exact (h2.keeps (fun b hb => hs.block b (hS b hb.1 hb.2.1))).imp (fun b hb => ⟨by omega, hb.2⟩)
theorem OwnK.below (h : OwnK e K B E w v l) (hb : Below w.heap.size w w') : OwnK e K B E w' v l := h.step (.of_below hb) fun _ h _ => h
theorem OwnK.alloc (h : OwnK e K B E w v l) (o : Obj) : OwnK e K B E (w.alloc o) v l := h.below ((Below.refl _ w).alloc (Nat.le_refl _) o)
theorem OwnK.drewN (h : OwnK e K B E w v l) (n : Nat) : OwnK e K B E (w.drewN n) v l := h.step ((Step.refl (fun _ => True) w).drewN n) fun _ _ _ => trivial
theorem OwnK.drew (h : OwnK e K B E w v l) : OwnK e K B E w.drew v l := h.step ((Step.refl (fun _ => True) w).drew) fun _ _ _ => trivial
theorem OwnK.mono {B' : Nat} (h : OwnK e K B E w v l) (hB : B' ≤ B) : OwnK e K B' E w v l := by
  obtain ⟨xs, h1, h2, h3⟩ := h
  refine ⟨xs, ⟨h1.1, ?_⟩, h2, h3⟩
  rcases h1.2 with h0 | ⟨g, cap, cur, hv, hg, r⟩
  · exact Or.inl h0
  · exact Or.inr ⟨g, cap, cur, hv, Nat.le_trans hB hg, r⟩
theorem OwnK.less {E' : Nat → Prop} (h : OwnK e K B E w v l) (hE : ∀ b, E' b → E b) : OwnK e K B E' w v l := by
  obtain ⟨xs, h1, h2, h3⟩ := h
  exact ⟨xs, h1, h2.imp fun b hb => ⟨hb.1, fun h => hb.2.1 (hE b h), hb.2.2⟩, fun g hg h => h3 g hg (hE g h)⟩
theorem OwnK.lb (h : OwnK e K B E w v l) : LB K (fun b => b < w.heap.size ∧ ¬ E b) w v l := by
  obtain ⟨xs, h1, h2, h3⟩ := h
  have h1' := h1
  have h2' := h2.imp (S' := fun b => b < w.heap.size ∧ ¬ E b) fun b hb => ⟨hb.1, hb.2.1⟩
  have hlt := World.ownsRow.lt h1
  rcases h1.2 with ⟨rfl, h0⟩ | ⟨g, cap, cur, rfl, hg, hh, hle, hcap, hs, ht⟩
  · obtain rfl : l = [] := List.eq_nil_of_length_eq_zero h0
    exact LB.nil _ _ _
  · refine ⟨some ⟨g, 0, none⟩, g, 0, cap, rfl, by unfold maxLen at hcap; omega, fun _ => rfl, ⟨hle, fun h => by cases h⟩, fun _ => ⟨(hlt g rfl).2, h3 g rfl⟩, fun i x hx => ?_⟩
    obtain ⟨r, hr, hc⟩ := h2'.get i x hx
    refine ⟨r, hr, fun j u hu => ?_⟩
    have := World.ownsRow.cells h1' (g := g) rfl _ _ (hc j u hu)
    simpa [Addr.add_lit, Nat.add_assoc] using this
theorem OwnK.len_le (h : OwnK e K B E w v l) : l.length ≤ 9223372036854775807 := h.lb.max

/-- append of one element to a list that the call has made; the cells of the element stand in a block -/
theorem wpList_appendK {ops : Array Oper} {rest : List Oper} {o : Oper} {a : Act} {Q : Exit → Act → World → Prop} (t : TypeId) (z : Value) (bytes : Nat) (ht : Try.prog.underlying t = some (.slice e)) (hinfo : (Try.prog.info? e).map (fun i => (i.zero, i.size, i.bytes)) = some (some z, K.k, bytes))
    (hzs : z.cells.size = K.k) (hk : 0 < K.k) (hgd : o.guard = none) (s x : Operand)
    (ho : o.op = .call { callee := .builtin .append, args := #[s, x], argTypes := #[t, t] })
    (n : Nat) (hn : l.length = n) (hs : a.eval s = v) (hown : OwnK e K B E w v l) (hE : ∀ b, E b → b < w.heap.size) (nb : Nat) (y : α) (row : List Value) (hx : a.eval x = .slice (some ⟨nb, 0, none⟩) 1 1)
    (hcell : ∀ j u, row[j]? = some u → w.cell? ⟨nb, j, none⟩ = some u) (hone : ∀ u ∈ row, u.oneCell' = true) (hrow : K.R (fun b => b < w.heap.size ∧ ¬ E b ∧ v.ownBlock ≠ some b) w y row)
    (hlen : (l.length + 1) * bytes ≤ 140737488355328) (hl63 : l.length < 1099511627776) (hB : B ≤ w.heap.size)
    (h : ∀ g c w', OwnK e K B E w' (.slice (some ⟨g, 0, none⟩) (n + 1) c) (l ++ [y]) → Step (fun b => b < w.heap.size ∧ v.ownBlock ≠ some b) w w' → g < w'.heap.size →
      wpList Try.prog ops Q rest (a.put o.dst (.slice (some ⟨g, 0, none⟩) (n + 1) c)) w') : wpList Try.prog ops Q (o :: rest) a w := by
  subst hn
  obtain ⟨i0, hi, hz0, hz1, hz2⟩ := info_parts hinfo
  obtain ⟨xs, h1, h2, h3⟩ := hown
  have hlt := World.ownsRow.lt h1
  refine wpList_append_lies w hgd s x t ho B e i0 z K.k bytes ht hi hz0 hz1 hz2 hzs hk v l.length xs hs h1 ⟨nb, 0, none⟩ 1 1 row hx (by rw [K.len hrow, Nat.one_mul]) ?_ hone (by decide) ?_ hlen hB _ rfl ?_
  · intro j u hj
    have := hcell j u hj
    simpa [Addr.add_lit] using this
  · unfold maxLen; omega
  · intro g c w' g1 g2 g3 g4
    have hst : Step (fun b => b < w.heap.size ∧ v.ownBlock ≠ some b) w w' := Step.of_grown g2 (fun b hb => ⟨hb.1, hb.2⟩)
    have hsz := hst.size
    have hgne : ∀ b, b < w.heap.size → v.ownBlock ≠ some b → b ≠ g := by
      intro b hb hne e
      subst e
      rcases g3 with h' | h'
      · exact hne h'
      · omega
    refine h g c w' ⟨xs ++ row, by simpa using g1, ?_, ?_⟩ hst g4
    · have hr := (h2.keeps (fun b hb => hst.block b ⟨hb.1, hb.2.2⟩)).snoc (K.keeps hrow (fun b hb => hst.block b ⟨hb.1, hb.2.2⟩))
      exact hr.imp fun b hb => ⟨by omega, hb.2.1, fun e => hgne b hb.1 hb.2.2 (by simpa [Value.ownBlock] using e.symm)⟩
    · intro g' hg' hEg
      have : g' = g := by simpa [Value.ownBlock] using hg'.symm
      subst this
      rcases g3 with h' | h'
      · exact h3 _ h' hEg
      · have := hE _ hEg; omega
end

end Go.Proofs.Ytbliedldlimpgaa

namespace Go.Proofs.Ytbliedldlimpgaa
set_option linter.unusedVariables false
set_option linter.unusedSimpArgs false
open Go.RowKit

theorem info_int : (Try.prog.info? 3).map (fun i => (i.zero, i.size, i.bytes)) = some (some (.int .i64 0), 1, 8) := by kernel_rfl
def toInts (l : List Nat) : List Int := l.map fun (k : Nat) => (k : Int)
theorem toInts_len (l : List Nat) : (toInts l).length = l.length := by simp [toInts]
theorem symN_at {syms : List SymL} {k : Nat} {s : SymL} (h : syms[k]? = some s) : symN syms k = s := by rw [symN, h]; rfl

set_option maxHeartbeats 4000000 in
set_option maxRecDepth 100000 in
theorem jseenl_any (w : World) (v : Value) (syms : List SymL) (hs : LB kSym (· < w.heap.size) w v syms) (hz : syms.length ≤ 512) :
    Calls Try.prog 75 #[v] w fun e w' => ∃ r, e = .returned r ∧ OwnK 3 kInt w.heap.size (fun _ => False) w' r (toInts (seenIx syms)) ∧ Below w.heap.size w w' := by
  obtain ⟨sa, sb, soff, scap, rfl, hsm, hsc, hat⟩ := hs.at
  have Hat := Lib.hid hat
  clear hs hat
  go_enter Try.func75, Try.ntmps75
  go_wp2
  go_loopw [3, 4] (fun o i wr => ∃ k : Nat, i = .int .i64 k ∧ k ≤ syms.length ∧ OwnK 3 kInt w.heap.size (fun _ => False) wr o (toInts (seenK syms k)) ∧ Below w.heap.size w wr) (fun _ i _ => syms.length - (intOf i).toNat)
  case atStart => exact ⟨0, rfl, Nat.zero_le _, by exact OwnK.nil _ _ _ _ _, Below.refl _ _⟩
  case round =>
    obtain ⟨k, rfl, hk, hown, hbel⟩ := hrel
    have hBr := hbel.size
    by_cases hlt : k < syms.length
    · obtain rfl := Hat.out.addr (by omega)
      obtain ⟨s, hx⟩ : ∃ s, syms[k]? = some s := ⟨_, List.getElem?_eq_getElem hlt⟩
      obtain ⟨_, g0, g1, g2, g3, g4, g5, g6, g7, g8⟩ := (Hat.out.below hbel).sym9 k s hx
      have HS := Lib.hid (seenK_succ syms k)
      rw [symN_at hx] at HS
      have hl := seenK_le syms k
      have hl2 := toInts_len (seenK syms k)
      obtain ⟨oa, oc, rfl⟩ := hown.form
      rw [hl2] at hown ⊢
      have Hown := Lib.hid hown
      have Hbel := Lib.hid hbel
      clear hown hbel hx
      have hsb := World.block_lt_of_cell? _ _ g0
      go_wp2_with fail
      refine (jseen_any wr s).mono ?_
      rintro e w2 ⟨rfl, hb2⟩
      have B2 := Lib.hid (Hbel.out.trans (hb2.mono hBr))
      have O2 := Lib.hid (Hown.out.below hb2)
      have hz2 := hb2.size
      clear hb2 g0 g1 g2 g3 g4 g5 g6 g7 g8 Hown Hbel
      cases hsn : seenB s with
      | false =>
        rw [hsn] at HS
        go_wp2
        go_roundw
        case rel =>
          have h1 := O2.out
          have h2 := HS.out
          simp only [Bool.false_eq_true, if_false, List.append_nil] at h2
          exact ⟨k + 1, by go_num, by omega, by rw [h2]; exact h1, B2.out⟩
        case measure => simp [intOf]; omega
      | true =>
        rw [hsn] at HS
        go_wp2_with (at_builtin; refine wpList_appendK (α := Int) (K := kInt) (e := 3) (B := w.heap.size) (E := fun _ => False) 35 (.int .i64 0) 8 Try.underlying35 info_int rfl (by decide) rfl (.tmp 16) (.tmp 18) rfl (seenK syms k).length hl2 rfl (O2.out.alloc _) (fun _ h => h.elim) w2.heap.size (k : Int) [.int .i64 (k : Int)] rfl ?c1 ?c2 rfl ?c3 ?c4 ?c5 ?_)
        case c1 =>
          intro j u hu
          match j, hu with
          | 0, hu => simp at hu; subst hu; simp
          | j + 1, hu => simp at hu
        case c2 => intro u hu; simp at hu; subst hu; rfl
        case c3 => omega
        case c4 => omega
        case c5 => simp; omega
        intro g c w3 hown3 hst3 _
        have Hown3 := Lib.hid hown3
        have hlo := (O2.out.alloc (.cells #[.int .i64 (k : Int)] 3 (0, 0))).lt
        have B3 := Lib.hid (((B2.out.alloc (by omega) (.cells #[.int .i64 (k : Int)] 3 (0, 0))).trans (hst3.imp (S' := (· < w.heap.size)) (fun b hb => ⟨by have h1 : b < w.heap.size := hb; omega, fun e => by have := (hlo b e).1; have h1 : b < w.heap.size := hb; omega⟩)).below))
        clear hown3 hst3 hlo
        go_wp2
        go_roundw
        case rel =>
          have h2 := HS.out
          simp only [if_true] at h2
          exact ⟨k + 1, by go_num, by omega, by rw [h2, toInts, List.map_append]; exact Hown3.out, B3.out⟩
        case measure => simp [intOf]; omega
    · have he : k = syms.length := by omega
      subst he
      have Hown := Lib.hid hown
      have Hbel := Lib.hid hbel
      clear hown hbel
      go_wp2
      go_ret
      exact ⟨_, rfl, Hown.out, Hbel.out⟩

end Go.Proofs.Ytbliedldlimpgaa
