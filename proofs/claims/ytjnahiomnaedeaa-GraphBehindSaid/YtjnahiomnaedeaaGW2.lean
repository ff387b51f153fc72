/- Lemmas that the claim is proved from: what calls of functions of the program come to (contracts), and plain laws. Each lemma bears its own conditions. -/
import Derived.Test.YtjnahiomnaedeaaGW1
namespace Go.Proofs.Ytjnahiomnaedeaa
set_option linter.unusedVariables false
set_option linter.unusedSimpArgs false
open Go.RowKit

theorem ret_bool {a b : Bool} (h : a = b) : Ending.returned (.bool a) = .returned (.bool b) := by rw [h]

set_option maxHeartbeats 400000 in
theorem nodes_any (w : World) (ev v : Value) (g : List (List Int)) (xs : List Int) (he : IntRows w ev g) (h : Ints w v xs) :
    Calls Try.prog 13 #[ev, v] w fun e w' => e = .returned (.bool (nodesB g.length xs)) ∧ w = w' := by
  obtain ⟨a, b, off, cap, rfl, hm, ha, hc⟩ := h
  obtain ⟨ea, eb, eoff, ecap, rfl, hem, -, -⟩ := he
  go_enter Try.func13, Try.ntmps13
  go_wp2
  go_loop [5] (fun i => ∃ k : Nat, k ≤ xs.length ∧ i = .int .i64 k ∧ (xs.take k).all (okNode g.length) = true) (fun i => xs.length - (intOf i).toNat)
  case atStart => exact ⟨0, Nat.zero_le _, rfl, by simp⟩
  case round =>
    obtain ⟨k, hk, rfl, hn⟩ := hrel
    have Hn := Lib.hid hn; clear hn
    by_cases hlt : k < xs.length
    · obtain rfl := ha (by omega)
      have gc := hc k hlt
      have Hy := Lib.hid (all_step_nth xs (okNode g.length) k hlt)
      have Hf := Lib.hid (all_no_nth xs (okNode g.length) k hlt)
      by_cases h0 : nth xs k < 0
      · go_wp2
        go_ret
        exact ⟨ret_bool (Hf.out (okNode_no_lt (by omega))).symm, rfl⟩
      · by_cases h1 : (g.length : Int) ≤ nth xs k
        · go_wp2
          go_ret
          exact ⟨ret_bool (Hf.out (okNode_no_ge (by omega))).symm, rfl⟩
        · go_wp2
          go_round
          case rel => exact ⟨k + 1, by omega, by go_num, Hy.out Hn.out (okNode_yes (by omega) (by omega))⟩
          case measure => simp [intOf]; omega
    · go_wp2
      go_ret
      exact ⟨ret_bool (all_end xs _ k hlt Hn.out).symm, rfl⟩

set_option maxHeartbeats 400000 in
theorem rright_any (w : World) (ev : Value) (g : List (List Int)) (he : IntRows w ev g) :
    Calls Try.prog 12 #[ev] w fun e w' => e = .returned (.bool (rightB g)) ∧ w = w' := by
  have he' := Lib.hid he
  obtain ⟨a, b, off, cap, rfl, hm, ha, hc⟩ := he
  go_enter Try.func12, Try.ntmps12
  by_cases hbig : 256 < g.length
  · go_wp2
    go_ret
    exact ⟨ret_bool (by simp [rightB]; omega), rfl⟩
  · go_wp2
    go_loop [3] (fun i => ∃ k : Nat, k ≤ g.length ∧ i = .int .i64 k ∧ (g.take k).all (nodesB g.length) = true) (fun i => g.length - (intOf i).toNat)
    case atStart => exact ⟨0, Nat.zero_le _, rfl, by simp⟩
    case round =>
      obtain ⟨k, hk, rfl, hn⟩ := hrel
      have Hn := Lib.hid hn; clear hn
      by_cases hlt : k < g.length
      · obtain rfl := ha (by omega)
        obtain ⟨rv, gc, hr⟩ := hc k hlt
        have Hr := Lib.hid hr
        have Hy := Lib.hid (all_step_row g (nodesB g.length) k hlt)
        have Hf := Lib.hid (all_no_row g (nodesB g.length) k hlt)
        obtain ⟨ra, rb, roff, rcap, rfl, -, -, -⟩ := hr
        cases hb : nodesB g.length (row g k)
        · go_wp2_with (go_at_call 13; refine (nodes_any _ _ _ g (row g k) he'.out Hr.out).mono ?_; rintro e w' ⟨rfl, rfl⟩)
          go_ret
          exact ⟨ret_bool (by simp [rightB, Hf.out hb]), rfl⟩
        · go_wp2_with (go_at_call 13; refine (nodes_any _ _ _ g (row g k) he'.out Hr.out).mono ?_; rintro e w' ⟨rfl, rfl⟩)
          go_round
          case rel => exact ⟨k + 1, by omega, by go_num, Hy.out Hn.out hb⟩
          case measure => simp [intOf]; omega
      · go_wp2
        go_ret
        exact ⟨ret_bool (by rw [rightB, all_end g _ k hlt Hn.out]; simp; omega), rfl⟩

end Go.Proofs.Ytjnahiomnaedeaa
