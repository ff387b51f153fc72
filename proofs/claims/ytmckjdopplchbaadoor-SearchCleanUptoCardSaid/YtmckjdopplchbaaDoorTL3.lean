/- Lemmas that the claim is proved from: what calls of functions of the program come to (contracts), and plain laws. Each lemma bears its own conditions. -/
import Derived.Test.YtmckjdopplchbaaDoorTE3
namespace Go.Proofs.YtmckjdopplchbaaDoor
set_option linter.unusedVariables false
set_option linter.unusedSimpArgs false
open Go.RowKit

theorem exp_append (o b : List UInt8) : ∀ (a : List UInt8) (k : Nat) (x : List UInt8), k ≤ a.length → exp o k a = some x → exp o k (a ++ b) = (exp o 0 b).map (x ++ ·)
  | [], k, x, hk, h => by
    obtain rfl : k = 0 := by simpa using hk
    rw [exp_nil] at h
    obtain rfl : x = [] := by simpa using h.symm
    simp
  | c :: l, k + 1, x, hk, h => by
    rw [List.cons_append, exp]
    exact exp_append o b l k x (by simpa using hk) (by simpa [exp] using h)
  | c :: l, 0, x, _, h => by
    rw [List.cons_append]
    by_cases hc : c = 36
    · subst hc
      cases hO : wORIGIN.isPrefixOf l with
      | true =>
        have hlen : 6 ≤ l.length := by simpa [wORIGIN] using (List.isPrefixOf_iff_prefix.1 hO).length_le
        have hO' : wORIGIN.isPrefixOf (l ++ b) = true := List.isPrefixOf_iff_prefix.2 ((List.isPrefixOf_iff_prefix.1 hO).trans (List.prefix_append _ _))
        rw [exp, if_neg (by simp), if_pos hO] at h
        obtain ⟨y, hy, rfl⟩ := Option.map_eq_some_iff.1 h
        rw [exp, if_neg (by simp), if_pos hO', exp_append o b l 6 y hlen hy]
        cases exp o 0 b <;> simp
      | false =>
        cases hL : wLIB.isPrefixOf l with
        | true =>
          have hlen : 3 ≤ l.length := by simpa [wLIB] using (List.isPrefixOf_iff_prefix.1 hL).length_le
          have hL' : wLIB.isPrefixOf (l ++ b) = true := List.isPrefixOf_iff_prefix.2 ((List.isPrefixOf_iff_prefix.1 hL).trans (List.prefix_append _ _))
          have hO' : wORIGIN.isPrefixOf (l ++ b) = false := by
            obtain ⟨t, rfl⟩ := List.isPrefixOf_iff_prefix.1 hL
            simp [wORIGIN, wLIB, List.isPrefixOf]
          rw [exp, if_neg (by simp), if_neg (by simp [hO]), if_pos hL] at h
          obtain ⟨y, hy, rfl⟩ := Option.map_eq_some_iff.1 h
          rw [exp, if_neg (by simp), if_neg (by simp [hO']), if_pos hL', exp_append o b l 3 y hlen hy]
          cases exp o 0 b <;> simp
        | false =>
          rw [exp_bad _ _ hO hL] at h
          cases h
    · rw [exp_other _ _ _ hc] at h
      obtain ⟨y, hy, rfl⟩ := Option.map_eq_some_iff.1 h
      rw [exp_other _ _ _ hc, exp_append o b l 0 y (Nat.zero_le _) hy]
      cases exp o 0 b <;> simp

theorem fin_ok {r : Option (List UInt8)} (h : (fin r).2 = 0) : ∃ x, r = some x ∧ x.length ≤ 200 ∧ (fin r).1 = x := by
  unfold fin at h ⊢
  cases r with
  | none => simp at h
  | some x =>
    simp only at h ⊢
    split at h
    · rename_i hx; exact ⟨x, rfl, hx, by rw [if_pos hx]⟩
    · simp at h
theorem expandL_ok {t o : List UInt8} (h : (expandL t o).2 = 0) : t.length ≤ 200 ∧ ∃ x, exp o 0 t = some x ∧ x.length ≤ 200 ∧ (expandL t o).1 = x := by
  unfold expandL at h ⊢
  split at h
  · rename_i ht
    rw [if_pos ht]
    exact ⟨ht, fin_ok h⟩
  · simp at h
theorem expandL_le (t o : List UInt8) : (expandL t o).1.length ≤ 200 := by
  unfold expandL fin
  split
  · split
    · simp
    · split
      · assumption
      · simp
  · simp
/-- two texts one behind the other -/
theorem expandL_append {a b o : List UInt8} (ha : (expandL a o).2 = 0) (hb : (expandL b o).2 = 0) :
    expandL (a ++ b) o = if a.length + b.length ≤ 200 ∧ (expandL a o).1.length + (expandL b o).1.length ≤ 200 then ((expandL a o).1 ++ (expandL b o).1, 0) else ([], 2) := by
  obtain ⟨hla, x, hx, hlx, ex⟩ := expandL_ok ha
  obtain ⟨hlb, y, hy, hly, ey⟩ := expandL_ok hb
  rw [ex, ey]
  have h := exp_append o b a 0 x (Nat.zero_le _) hx
  rw [hy] at h
  rw [expandL, h]
  simp only [List.length_append, Option.map_some, fin]
  by_cases h1 : a.length + b.length ≤ 200
  · by_cases h2 : x.length + y.length ≤ 200 <;> simp [h1, h2]
  · simp [h1]

theorem mk_append (a b : List UInt8) : (⟨a.toArray⟩ : ByteArray) ++ ⟨b.toArray⟩ = ⟨(a ++ b).toArray⟩ := by
  apply ByteArray.ext
  rw [ByteArray.data_append]
  simp

set_option maxHeartbeats 4000000 in
set_option maxRecDepth 100000 in
theorem law_parts (m : Int) (w : World) (a b o : List UInt8) (hm : w.cell? ⟨0, 0, none⟩ = some (.int .i64 m)) :
    Calls Tryd.prog 5 #[.string ⟨a.toArray⟩, .string ⟨b.toArray⟩, .string ⟨o.toArray⟩] w fun e w' => e = .returned (.bool true) ∧ Below w.heap.size w w' := by
  have h0 : 0 < w.heap.size := World.block_lt_of_cell? w _ hm
  have hsa := size_mk a
  have hsb := size_mk b
  have hso := size_mk o
  have Hm := Lib.hid hm
  have H1 := Lib.hid (tawake_any m w hm)
  clear hm
  go_enter Tryd.func5, Tryd.ntmps5
  go_wp2_with fail
  refine H1.out.mono ?_
  rintro e w1 ⟨rfl, hb1⟩
  have hm1 : w1.cell? ⟨0, 0, none⟩ = some (.int .i64 m) := by rw [hb1.cell (p := ⟨0, 0, none⟩) h0]; exact Hm.out
  have Hm1 := Lib.hid hm1
  have Hb1 := Lib.hid hb1
  clear hm1 hb1
  by_cases hl : o.length ≤ 5000
  case neg =>
    go_wp2
    go_ret
    exact ⟨rfl, Hb1.out⟩
  by_cases hla : a.length ≤ 1000
  case neg =>
    go_wp2
    go_ret
    exact ⟨rfl, Hb1.out⟩
  by_cases hlb : b.length ≤ 1000
  case neg =>
    go_wp2
    go_ret
    exact ⟨rfl, Hb1.out⟩
  have H2 := Lib.hid (expand_any m w1 a o Hm1.out (Or.inl hl))
  have Happ := Lib.hid (@expandL_append a b o)
  go_wp2_with fail
  refine H2.out.mono ?_
  rintro e w2 ⟨rfl, hb2⟩
  have hm2 : w2.cell? ⟨0, 0, none⟩ = some (.int .i64 m) := by rw [hb2.cell (p := ⟨0, 0, none⟩) (Nat.lt_of_lt_of_le h0 Hb1.out.size)]; exact Hm1.out
  have Hm2 := Lib.hid hm2
  have Hb2 := Lib.hid (Hb1.out.trans (hb2.mono Hb1.out.size))
  clear hb2 hm2
  have H3 := Lib.hid (expand_any m w2 b o Hm2.out (Or.inl hl))
  go_wp2_with fail
  refine H3.out.mono ?_
  rintro e w3 ⟨rfl, hb3⟩
  have hm3 : w3.cell? ⟨0, 0, none⟩ = some (.int .i64 m) := by rw [hb3.cell (p := ⟨0, 0, none⟩) (Nat.lt_of_lt_of_le h0 Hb2.out.size)]; exact Hm2.out
  have Hm3 := Lib.hid hm3
  have Hb3 := Lib.hid (Hb2.out.trans (hb3.mono Hb2.out.size))
  clear hb3 hm3
  have H4 := Lib.hid (expand_any m w3 (a ++ b) o Hm3.out (Or.inl hl))
  have hap := mk_append a b
  go_wp2_with fail
  refine H4.out.mono ?_
  rintro e w4 ⟨rfl, hb4⟩
  have Hb4 := Lib.hid (Hb3.out.trans (hb4.mono Hb3.out.size))
  clear hb4 H1 H2 H3 H4 Hm Hm1 Hm2 Hm3 Hb1 Hb2 Hb3 hap
  have hxl := expandL_le a o
  have hyl := expandL_le b o
  generalize expandL (a ++ b) o = z at *
  generalize expandL b o = y at *
  generalize expandL a o = x at *
  obtain ⟨x1, x2⟩ := x
  obtain ⟨y1, y2⟩ := y
  simp only at hxl hyl
  have hx1 := size_mk x1
  have hy1 := size_mk y1
  by_cases hx : x2 = 0
  case neg =>
    go_wp2
    all_goals go_ret
    all_goals exact ⟨rfl, Hb4.out⟩
  by_cases hy : y2 = 0
  case neg =>
    go_wp2
    all_goals go_ret
    all_goals exact ⟨rfl, Hb4.out⟩
  subst hx hy
  have hz := Happ.out rfl rfl
  simp only at hz
  have hap := mk_append x1 y1
  by_cases h1 : a.length + b.length ≤ 200
  · by_cases h2 : x1.length + y1.length ≤ 200
    · rw [if_pos ⟨h1, h2⟩] at hz
      subst hz
      clear Happ
      go_wp2
      go_ret
      exact ⟨by simp, Hb4.out⟩
    · rw [if_neg (by simp [h2])] at hz
      subst hz
      clear Happ
      go_wp2
      go_ret
      exact ⟨by simp, Hb4.out⟩
  · rw [if_neg (by simp [h1])] at hz
    subst hz
    clear Happ
    go_wp2
    go_ret
    exact ⟨by simp, Hb4.out⟩

end Go.Proofs.YtmckjdopplchbaaDoor
