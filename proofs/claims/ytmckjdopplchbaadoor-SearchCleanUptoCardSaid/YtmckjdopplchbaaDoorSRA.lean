/- Lemmas that the claim is proved from: what calls of functions of the program come to (contracts), and plain laws. Each lemma bears its own conditions. -/
import Derived.Test.YtmckjdopplchbaaDoorSR9
import Derived.Test.YtmckjdopplchbaaDoorTS3
namespace Go.Proofs.YtmckjdopplchbaaDoor
set_option linter.unusedVariables false
set_option linter.unusedSimpArgs false
open Go.RowKit

theorem cand_any (m : Int) (w : World) (name o : List UInt8) (rpv pv cv : Value) (rp ps : List (List UInt8)) (ks : List (List UInt8 × List UInt8)) (hm : w.cell? ⟨0, 0, none⟩ = some (.int .i64 m))
    (hrp : StrsB w.heap.size w rpv rp) (hps : StrsB w.heap.size w pv ps) (hks : PairsB w.heap.size w cv ks) (ho : o.length ≤ 5000) (hz : name.length ≤ 9223372036854775807) (hl : rp.length + ps.length ≤ 16000000) :
    Calls Tryd.prog 22 #[.string ⟨name.toArray⟩, .string ⟨o.toArray⟩, rpv, .agg #[pv, cv]] w (CandPost w (candL name o rp ps ks)) := by
  by_cases hn : namedN name = 0
  · by_cases hs : slashB name = true
    · exact cand_slash m w name o rpv pv cv rp ps ks hm ho hz (Or.inr hs)
    · exact cand_plain m w name o rpv pv cv rp ps ks hm hrp hps hks ho hl hn (by simpa using hs)
  · exact cand_slash m w name o rpv pv cv rp ps ks hm ho hz (Or.inl hn)
theorem ccand_any (w : World) (name o : List UInt8) (rpv pv cv : Value) (rp ps : List (List UInt8)) (ks : List (List UInt8 × List UInt8))
    (hrp : StrsB w.heap.size w rpv rp) (hps : StrsB w.heap.size w pv ps) (hks : PairsB w.heap.size w cv ks) (ho : o.length ≤ 5000) (hz : name.length ≤ 9223372036854775807) (hl : rp.length + ps.length ≤ 16000000) :
    Calls Tryd.prog 23 #[.string ⟨name.toArray⟩, .string ⟨o.toArray⟩, rpv, .agg #[pv, cv]] w (CandPost w (candL name o rp ps ks)) := by
  by_cases hn : namedN name = 0
  · by_cases hs : slashB name = true
    · exact ccand_slash w name o rpv pv cv rp ps ks ho hz (Or.inr hs)
    · exact ccand_plain w name o rpv pv cv rp ps ks hrp hps hks ho hl hn (by simpa using hs)
  · exact ccand_slash w name o rpv pv cv rp ps ks ho hz (Or.inl hn)

theorem candL_len (name o : List UInt8) (rp ps : List (List UInt8)) (ks : List (List UInt8 × List UInt8)) : (candL name o rp ps ks).1.length ≤ rp.length + ps.length + 3 := by
  have h1 := inL_len name o rp []
  have h2 := inL_len name o ps (inL name o [] rp)
  have h3 := knowL_len name ks (inL name o (inL name o [] rp) ps)
  have h4 := inL_len name o [wLibDir, wUsrDir] (knowL name ks (inL name o (inL name o [] rp) ps))
  simp only [List.length_nil, List.length_cons] at h1 h4
  unfold candL
  split
  · split
    · split
      · split
        · simp
        · simp
      · simp
    · rw [restL]; simp only; omega
  · simp

theorem strsB_nil (B : Nat) (w : World) : StrsB B w (.slice none 0 0) [] := ⟨none, 0, 0, 0, rfl, by simp, fun h => absurd h (by simp), by simp, fun h => absurd h (by simp), fun i hi => absurd hi (by simp)⟩
theorem pairsB_nil (B : Nat) (w : World) : PairsB B w (.slice none 0 0) [] := ⟨none, 0, 0, 0, rfl, by simp, fun h => absurd h (by simp), by simp, fun h => absurd h (by simp), fun i hi => absurd hi (by simp)⟩
theorem OwnS.toB {B : Nat} {w : World} {v : Value} {xs : List (List UInt8)} (h : OwnS B w v xs) : StrsB w.heap.size w v xs := h.strs.toB

set_option maxHeartbeats 1000000 in
set_option maxRecDepth 100000 in
theorem few_any (w : World) (name o : List UInt8) (rpv pv cv : Value) (hz : ByteArray.size ⟨o.toArray⟩ ≤ maxLen) :
    Calls Tryd.prog 21 #[.agg #[.string ⟨name.toArray⟩, .string ⟨o.toArray⟩, rpv, pv, cv]] w fun e w' => e = .returned (.bool (decide (o.length ≤ 5000))) ∧ Below w.heap.size w w' := by
  have hsz := size_mk o
  by_cases hl : o.length ≤ 5000
  · have hd : decide ((o.length : Int) ≤ 5000) = true := by rw [decide_eq_true_eq]; omega
    have Hd : Hid (decide (o.length ≤ 5000) = true) := Lib.hid (by rw [decide_eq_true_eq]; exact hl)
    clear hl
    go_enter Tryd.func21, Tryd.ntmps21
    go_wp2
    go_ret
    exact ⟨by rw [Hd.out]; rfl, (Below.refl _ _).alloc (Nat.le_refl _) _⟩
  · have hd : decide ((o.length : Int) ≤ 5000) = false := by rw [decide_eq_false_iff_not]; omega
    have Hd : Hid (decide (o.length ≤ 5000) = false) := Lib.hid (by rw [decide_eq_false_iff_not]; exact hl)
    clear hl
    go_enter Tryd.func21, Tryd.ntmps21
    go_wp2
    go_ret
    exact ⟨by rw [Hd.out]; rfl, (Below.refl _ _).alloc (Nat.le_refl _) _⟩

theorem awake_cand1 (m : Int) (w : World) (v : Value) (hm : w.cell? ⟨0, 0, none⟩ = some (.int .i64 m)) (hv : StrsB w.heap.size w v [[36, 79, 82, 73, 71, 73, 78, 47, 108, 105, 98]]) :
    Calls Tryd.prog 22 #[.string ⟨#[120, 46, 115, 111]⟩, .string ⟨#[47, 112]⟩, v, .agg #[.slice none 0 0, .slice none 0 0]] w fun e w' =>
      ∃ b off cap, e = .returned (.tuple #[.slice (some ⟨b, off, none⟩) 3 cap, .int .i64 0]) ∧ Strs w' (.slice (some ⟨b, off, none⟩) 3 cap) [[47, 112, 47, 108, 105, 98, 47, 120, 46, 115, 111], [47, 108, 105, 98, 47, 120, 46, 115, 111], [47, 117, 115, 114, 47, 108, 105, 98, 47, 120, 46, 115, 111]] ∧ Below w.heap.size w w' := by
  refine (cand_any m w [120, 46, 115, 111] [47, 112] v _ _ [[36, 79, 82, 73, 71, 73, 78, 47, 108, 105, 98]] [] [] hm hv (strsB_nil _ _) (pairsB_nil _ _) (by decide) (by decide) (by decide)).mono ?_
  rintro e w' ⟨u, rfl, hown, hb⟩
  rw [show candL [120, 46, 115, 111] [47, 112] [[36, 79, 82, 73, 71, 73, 78, 47, 108, 105, 98]] [] [] = ([[47, 112, 47, 108, 105, 98, 47, 120, 46, 115, 111], [47, 108, 105, 98, 47, 120, 46, 115, 111], [47, 117, 115, 114, 47, 108, 105, 98, 47, 120, 46, 115, 111]], 0) by decide +kernel] at hown ⊢
  have hs := hown.strs
  obtain ⟨a, b, off, cap, rfl, _, ha, _, hc⟩ := hown.strs
  obtain rfl := ha (by decide)
  exact ⟨b, off, cap, rfl, hs, hb⟩
theorem awake_cand2 (m : Int) (w : World) (hm : w.cell? ⟨0, 0, none⟩ = some (.int .i64 m)) :
    Calls Tryd.prog 22 #[.string ⟨#[97, 47, 98]⟩, .string ⟨#[47, 112]⟩, .slice none 0 0, .agg #[.slice none 0 0, .slice none 0 0]] w fun e w' =>
      ∃ u, e = .returned (.tuple #[u, .int .i64 30]) ∧ Below w.heap.size w w' := by
  refine (cand_any m w [97, 47, 98] [47, 112] _ _ _ [] [] [] hm (strsB_nil _ _) (strsB_nil _ _) (pairsB_nil _ _) (by decide) (by decide) (by decide)).mono ?_
  rintro e w' ⟨u, rfl, hown, hb⟩
  rw [show candL [97, 47, 98] [47, 112] [] [] [] = ([], 30) by decide +kernel]
  exact ⟨u, rfl, hb⟩

theorem strsB_lit1 (w : World) (x : List UInt8) : StrsB (w.heap.size + 1) (w.alloc (.cells #[.string ⟨x.toArray⟩] 9 (0, 0))) (.slice (some ⟨w.heap.size, 0, none⟩) 1 1) [x] := by
  refine ⟨some ⟨w.heap.size, 0, none⟩, w.heap.size, 0, 1, rfl, by simp, fun _ => rfl, by simp, fun _ => by omega, fun i hi => ?_⟩
  have h := heap_alloc_new w (.cells #[.string ⟨x.toArray⟩] 9 (0, 0))
  rw [Nat.zero_add, Lib.cell_of_heap h]
  match i, hi with
  | 0, _ => rfl
theorem strsB_lit3 (w : World) (x y z : List UInt8) : StrsB (w.heap.size + 1) (w.alloc (.cells #[.string ⟨x.toArray⟩, .string ⟨y.toArray⟩, .string ⟨z.toArray⟩] 9 (0, 0))) (.slice (some ⟨w.heap.size, 0, none⟩) 3 3) [x, y, z] := by
  refine ⟨some ⟨w.heap.size, 0, none⟩, w.heap.size, 0, 3, rfl, by simp, fun _ => rfl, by simp, fun _ => by omega, fun i hi => ?_⟩
  have h := heap_alloc_new w (.cells #[.string ⟨x.toArray⟩, .string ⟨y.toArray⟩, .string ⟨z.toArray⟩] 9 (0, 0))
  rw [Nat.zero_add, Lib.cell_of_heap h]
  match i, hi with
  | 0, _ => rfl
  | 1, _ => rfl
  | 2, _ => rfl
theorem Strs.allocd {w : World} {v : Value} {xs : List (List UInt8)} (h : Strs w v xs) (o : Obj) : Strs (w.alloc o) v xs :=
  (h.toB.below ((Below.refl _ _).alloc (Nat.le_refl _) o)).strs

set_option maxHeartbeats 2000000 in
set_option maxRecDepth 100000 in
theorem sawake_any (m : Int) (w : World) (hm : w.cell? ⟨0, 0, none⟩ = some (.int .i64 m)) :
    Calls Tryd.prog 20 #[] w fun e w' => e = .returned (.bool true) ∧ Below w.heap.size w w' := by
  have h0 : 0 < w.heap.size := World.block_lt_of_cell? w _ hm
  have B0 : Below w.heap.size w (w.alloc (.cells #[.string ⟨#[36, 79, 82, 73, 71, 73, 78, 47, 108, 105, 98]⟩] 9 (0, 0))) := (Below.refl _ _).alloc (Nat.le_refl _) _
  have H1 := Lib.hid (awake_cand1 m (w.alloc (.cells #[.string ⟨#[36, 79, 82, 73, 71, 73, 78, 47, 108, 105, 98]⟩] 9 (0, 0))) (.slice (some ⟨w.heap.size, 0, none⟩) 1 1) (by rw [B0.cell (p := ⟨0, 0, none⟩) h0]; exact hm) ((strsB_lit1 w _).mono (by simp)))
  have HB0 := Lib.hid B0
  have Hm := Lib.hid hm
  clear hm B0
  go_enter Tryd.func20, Tryd.ntmps20
  go_wp2_with fail
  refine H1.out.mono ?_
  rintro e w1 ⟨b, off, cap, rfl, hs, hb1⟩
  have Hb1 := Lib.hid (HB0.out.trans (hb1.mono (by simp)))
  have Hs1 := Lib.hid hs.toB
  have H2 := Lib.hid (awake_cand2 m w1 (by rw [Hb1.out.cell (p := ⟨0, 0, none⟩) h0]; exact Hm.out))
  clear hs hb1
  go_wp2_with fail
  refine H2.out.mono ?_
  rintro e w2 ⟨u, rfl, hb2⟩
  have Hb2 := Lib.hid (Hb1.out.trans (hb2.mono Hb1.out.size))
  have Hs2 := Lib.hid (Hs1.out.below hb2)
  clear hb2
  go_wp2_with fail
  have H3 := ssame2_any (w2.alloc (.cells #[.string ⟨#[47, 112, 47, 108, 105, 98, 47, 120, 46, 115, 111]⟩, .string ⟨#[47, 108, 105, 98, 47, 120, 46, 115, 111]⟩, .string ⟨#[47, 117, 115, 114, 47, 108, 105, 98, 47, 120, 46, 115, 111]⟩] 9 (0, 0))) (.slice (some ⟨b, off, none⟩) 3 cap) (.slice (some ⟨w2.heap.size, 0, none⟩) 3 3) _ _ (Hs2.out.strs.allocd _) (strsB_lit3 w2 _ _ _).strs
  refine H3.mono ?_
  rintro e w3 ⟨rfl, n, rfl⟩
  have Hb3 := Lib.hid (below_drewN (Hb2.out.alloc Hb2.out.size (.cells #[.string ⟨#[47, 112, 47, 108, 105, 98, 47, 120, 46, 115, 111]⟩, .string ⟨#[47, 108, 105, 98, 47, 120, 46, 115, 111]⟩, .string ⟨#[47, 117, 115, 114, 47, 108, 105, 98, 47, 120, 46, 115, 111]⟩] 9 (0, 0))) n)
  clear H3
  go_wp2
  go_ret
  exact ⟨by simp, Hb3.out⟩

end Go.Proofs.YtmckjdopplchbaaDoor
