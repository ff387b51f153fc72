/- Lemmas that the claim is proved from: what calls of functions of the program come to (contracts), and plain laws. Each lemma bears its own conditions. -/
import Derived.Test.YtjnahiomnaedeaaGW2
namespace Go.Proofs.Ytjnahiomnaedeaa
set_option linter.unusedVariables false
set_option linter.unusedSimpArgs false
open Go.RowKit

theorem eq_of_nth {a b : List Int} (hl : a.length = b.length) (h : ∀ i, i < a.length → nth a i = nth b i) : a = b := by
  apply List.ext_getElem hl
  intro i h1 h2
  rw [← nth_eq a i h1, ← nth_eq b i h2]; exact h i h1

set_option maxHeartbeats 400000 in
theorem same_any (w : World) (v u : Value) (xs ys : List Int) (hx : Ints w v xs) (hy : Ints w u ys) :
    Calls Try.prog 14 #[v, u] w fun e w' => e = .returned (.bool (decide (xs = ys))) ∧ ∃ m, w' = w.drewN m := by
  obtain ⟨a, b, off, cap, rfl, hm, ha, hc⟩ := hx
  obtain ⟨a2, b2, off2, cap2, rfl, hm2, ha2, hc2⟩ := hy
  by_cases hl : xs.length = ys.length
  case neg =>
    have hlz : ((xs.length : Int) != (ys.length : Int)) = true := by rw [bne_iff_ne]; omega
    go_enter Try.func14, Try.ntmps14
    go_wp2
    go_ret
    exact ⟨ret_bool (by rw [eq_comm, decide_eq_false_iff_not]; intro e; rw [e] at hl; exact hl rfl), 0, rfl⟩
  have hlz : ((xs.length : Int) != (ys.length : Int)) = false := by rw [bne_eq_false_iff_eq]; omega
  have Hl := Lib.hid hl; clear hl
  go_enter Try.func14, Try.ntmps14
  go_wp2
  go_loopw [5] (fun i wr => ∃ k m : Nat, k ≤ xs.length ∧ i = .int .i64 k ∧ wr = w.drewN m ∧ ∀ j, j < k → nth xs j = nth ys j) (fun i _ => xs.length - (intOf i).toNat)
  case atStart => exact ⟨0, 0, Nat.zero_le _, rfl, rfl, fun _ h => absurd h (Nat.not_lt_zero _)⟩
  case round =>
    obtain ⟨k, m, hk, rfl, rfl, hn⟩ := hrel
    have Hn := Lib.hid hn; clear hn
    by_cases hlt : k < xs.length
    · have hlt2 : k < ys.length := by rw [← Hl.out]; exact hlt
      obtain rfl := ha (by omega)
      obtain rfl := ha2 (by omega)
      have gc := hc k hlt
      have gc2 := hc2 k hlt2
      by_cases he : nth xs k = nth ys k
      · have hez : (nth xs k != nth ys k) = false := by rw [bne_eq_false_iff_eq]; exact he
        have He := Lib.hid he; clear he
        go_wp2_with fail
        go_quiet (fail)
        go_wp2
        go_roundw
        case rel => exact ⟨k + 1, _, by omega, by go_num, rfl, fun j hj => by
          by_cases e : j = k
          · rw [e]; exact He.out
          · exact Hn.out j (by omega)⟩
        case measure => simp [intOf]; omega
      · have hez : (nth xs k != nth ys k) = true := by rw [bne_iff_ne]; exact he
        go_wp2_with fail
        go_quiet (fail)
        go_wp2
        go_ret
        exact ⟨ret_bool (by rw [eq_comm, decide_eq_false_iff_not]; intro e; rw [e] at he; exact he rfl), _, World.drewN_drewN _ _ _⟩
    · go_wp2
      go_ret
      exact ⟨ret_bool (by rw [eq_comm, decide_eq_true_eq]; exact eq_of_nth Hl.out fun j hj => Hn.out j (by omega)), _, rfl⟩

/-- the sum of the rows' lengths -/
def edgesN (g : List (List Int)) : Nat := (g.map List.length).sum
/-- what few tells -/
def fewB (g : List (List Int)) : Bool := decide (edgesN g ≤ 3000)
theorem edgesN_snoc (g : List (List Int)) (k : Nat) (h : k < g.length) : edgesN (g.take (k + 1)) = edgesN (g.take k) + (row g k).length := by
  rw [take_succ_row g k h]; simp [edgesN]
theorem edgesN_le (g : List (List Int)) (k : Nat) : edgesN (g.take k) ≤ edgesN g := by
  conv => rhs; rw [← List.take_append_drop k g]
  simp only [edgesN, List.map_append, List.sum_append]; omega
theorem row_le_edges (g : List (List Int)) (k : Nat) (h : k < g.length) : edgesN (g.take k) + (row g k).length ≤ edgesN g := by
  rw [← edgesN_snoc g k h]; exact edgesN_le g _

set_option maxHeartbeats 400000 in
theorem few_any (w : World) (ev : Value) (g : List (List Int)) (he : IntRows w ev g) :
    Calls Try.prog 10 #[ev] w fun e w' => e = .returned (.bool (fewB g)) ∧ w = w' := by
  obtain ⟨a, b, off, cap, rfl, hm, ha, hc⟩ := he
  go_enter Try.func10, Try.ntmps10
  go_wp2
  go_loop [3, 4] (fun n i => ∃ k : Nat, k ≤ g.length ∧ i = .int .i64 k ∧ n = .int .i64 (edgesN (g.take k) : Nat) ∧ edgesN (g.take k) ≤ 6000) (fun _ i => g.length - (intOf i).toNat)
  case atStart => exact ⟨0, Nat.zero_le _, rfl, by simp [edgesN], by simp [edgesN]⟩
  case round =>
    obtain ⟨k, hk, rfl, rfl, hn⟩ := hrel
    by_cases hlt : k < g.length
    · obtain rfl := ha (by omega)
      obtain ⟨rv, gc, hr⟩ := hc k hlt
      obtain ⟨ra, rb, roff, rcap, rfl, -, -, -⟩ := hr
      have Hs := Lib.hid (edgesN_snoc g k hlt)
      have hle := row_le_edges g k hlt
      by_cases h1 : 3000 < (row g k).length
      · go_wp2
        go_ret
        exact ⟨ret_bool (by simp [fewB]; omega), rfl⟩
      · by_cases h2 : 3000 < edgesN (g.take k)
        · go_wp2
          go_ret
          exact ⟨ret_bool (by simp [fewB]; omega), rfl⟩
        · go_wp2
          go_round
          case rel => exact ⟨k + 1, by omega, by go_num, by rw [Hs.out]; go_num, by rw [Hs.out]; omega⟩
          case measure => simp [intOf]; omega
    · have Ht := Lib.hid (show edgesN (g.take k) = edgesN g by rw [List.take_of_length_le (by omega)])
      go_wp2
      go_ret
      exact ⟨ret_bool (by rw [Ht.out, fewB]; simp; omega), rfl⟩

/-- what graph.Right answers -/
def rightE (g : List (List Int)) : Int := if rightB g then 0 else 130

theorem rightE_yes {g : List (List Int)} (h : rightB g = true) : rightE g = 0 := by simp [rightE, h]
theorem rightE_no {g : List (List Int)} (h : rightB g = false) : rightE g = 130 := by simp [rightE, h]

theorem ret_int {k : IntKind} {a b : Int} (h : a = b) : Ending.returned (.int k a) = .returned (.int k b) := by rw [h]

set_option maxHeartbeats 1000000 in
theorem gright_any (w : World) (ev : Value) (g : List (List Int)) (he : IntRows w ev g) :
    Calls Try.prog 19 #[ev] w fun e w' => e = .returned (.int .i64 (rightE g)) ∧ w = w' := by
  obtain ⟨a, b, off, cap, rfl, hm, ha, hc⟩ := he
  go_enter Try.func19, Try.ntmps19
  by_cases hbig : 256 < g.length
  · go_wp2
    go_ret
    exact ⟨ret_int (by rw [rightE_no]; simp [rightB]; omega), rfl⟩
  · go_wp2
    go_loop [12] (fun i => ∃ k : Nat, k ≤ g.length ∧ i = .int .i64 k ∧ (g.take k).all (nodesB g.length) = true) (fun i => g.length - (intOf i).toNat)
    case atStart => exact ⟨0, Nat.zero_le _, rfl, by simp⟩
    case round =>
      obtain ⟨k, hk, rfl, hn⟩ := hrel
      have Hn := Lib.hid hn; clear hn
      by_cases hlt : k < g.length
      · obtain rfl := ha (by omega)
        obtain ⟨rv, gc, hr⟩ := hc k hlt
        obtain ⟨ra, rb, roff, rcap, rfl, hrm, hra, hrc⟩ := hr
        have Hy := Lib.hid (all_step_row g (nodesB g.length) k hlt)
        have Hf := Lib.hid (all_no_row g (nodesB g.length) k hlt)
        go_wp2
        go_loop [18] (fun i => ∃ j : Nat, j ≤ (row g k).length ∧ i = .int .i64 j ∧ ((row g k).take j).all (okNode g.length) = true) (fun i => (row g k).length - (intOf i).toNat)
        case atStart => exact ⟨0, Nat.zero_le _, rfl, by simp⟩
        case round =>
          obtain ⟨j, hj, rfl, hn2⟩ := hrel
          have Hn2 := Lib.hid hn2; clear hn2
          by_cases hlt2 : j < (row g k).length
          · obtain rfl := hra (by omega)
            have gc2 := hrc j hlt2
            have Hy2 := Lib.hid (all_step_nth (row g k) (okNode g.length) j hlt2)
            have Hf2 := Lib.hid (all_no_nth (row g k) (okNode g.length) j hlt2)
            by_cases h0 : nth (row g k) j < 0
            · go_wp2
              go_ret
              exact ⟨ret_int (by rw [rightE_no]; rw [rightB, Hf.out (Hf2.out (okNode_no_lt h0))]; simp), rfl⟩
            · by_cases h1 : (g.length : Int) ≤ nth (row g k) j
              · go_wp2
                go_ret
                exact ⟨ret_int (by rw [rightE_no]; rw [rightB, Hf.out (Hf2.out (okNode_no_ge h1))]; simp), rfl⟩
              · go_wp2
                go_round
                case rel => exact ⟨j + 1, by omega, by go_num, Hy2.out Hn2.out (okNode_yes (by omega) (by omega))⟩
                case measure => simp [intOf]; omega
          · go_wp2
            go_round
            case rel => exact ⟨k + 1, by omega, by go_num, Hy.out Hn.out (all_end _ _ j hlt2 Hn2.out)⟩
            case measure => simp [intOf]; omega
      · go_wp2
        go_ret
        exact ⟨ret_int (by rw [rightE_yes]; rw [rightB, all_end g _ k hlt Hn.out]; simp; omega), rfl⟩

/-- what may answers -/
def mayB (g : List (List Int)) (l : List Int) : Bool := nodesB g.length l && rightB g

set_option maxHeartbeats 400000 in
theorem may_any (w : World) (ev v : Value) (g : List (List Int)) (xs : List Int) (he : IntRows w ev g) (h : Ints w v xs) :
    Calls Try.prog 21 #[ev, v] w fun e w' => e = .returned (.bool (mayB g xs)) ∧ w = w' := by
  have He := Lib.hid he
  obtain ⟨a, b, off, cap, rfl, hm, ha, hc⟩ := h
  obtain ⟨ea, eb, eoff, ecap, rfl, hem, -, -⟩ := he
  go_enter Try.func21, Try.ntmps21
  go_wp2
  go_loop [9] (fun i => ∃ k : Nat, k ≤ xs.length ∧ i = .int .i64 k ∧ (xs.take k).all (okNode g.length) = true) (fun i => xs.length - (intOf i).toNat)
  case atStart => exact ⟨0, Nat.zero_le _, rfl, by simp⟩
  case round =>
    obtain ⟨k, hk, rfl, hn⟩ := hrel
    have Hn := Lib.hid hn; clear hn
    by_cases hlt : k < xs.length
    · obtain rfl := ha (by omega)
      have gc := hc k hlt
      have Hy := Lib.hid (all_step_nth xs (okNode g.length) k hlt)
      have Hf := Lib.hid (all_no_nth xs (okNode g.length) k hlt)
      by_cases h0 : nth xs k < 0
      · go_wp2
        go_ret
        exact ⟨ret_bool (by rw [mayB, nodesB, Hf.out (okNode_no_lt (by omega))]; rfl), rfl⟩
      · by_cases h1 : (g.length : Int) ≤ nth xs k
        · go_wp2
          go_ret
          exact ⟨ret_bool (by rw [mayB, nodesB, Hf.out (okNode_no_ge (by omega))]; rfl), rfl⟩
        · go_wp2
          go_round
          case rel => exact ⟨k + 1, by omega, by go_num, Hy.out Hn.out (okNode_yes (by omega) (by omega))⟩
          case measure => simp [intOf]; omega
    · have Hend := Lib.hid (all_end xs _ k hlt Hn.out)
      cases hr : rightB g
      · have hq : (rightE g == 0) = false := by rw [rightE_no hr]; rfl
        go_wp2_with (go_at_call 19; refine (gright_any _ _ g He.out).mono ?_; rintro e w' ⟨rfl, rfl⟩)
        go_ret
        exact ⟨ret_bool (by rw [mayB, hr]; simp), rfl⟩
      · have hq : (rightE g == 0) = true := by rw [rightE_yes hr]; rfl
        go_wp2_with (go_at_call 19; refine (gright_any _ _ g He.out).mono ?_; rintro e w' ⟨rfl, rfl⟩)
        go_ret
        exact ⟨ret_bool (by rw [mayB, hr, nodesB, Hend.out]; simp), rfl⟩

end Go.Proofs.Ytjnahiomnaedeaa
