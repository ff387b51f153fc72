/- Lemmas that the claim is proved from: what calls of functions of the program come to (contracts), and plain laws. Each lemma bears its own conditions. -/
import Derived.Test.YtjnahiomnaedeaaChecked
import Derived.Test.YtjnahiomnaedeaaGMem
import Derived.Outline
import Derived.BigQuiet
import Derived.Deep.QuietTactic
namespace Go.Proofs.Ytjnahiomnaedeaa
set_option linter.unusedVariables false
set_option linter.unusedSimpArgs false
open Go.RowKit

set_option maxHeartbeats 400000 in
theorem has_any (w : World) (v : Value) (xs : List Int) (n : Int) (h : Ints w v xs) :
    Calls Try.prog 17 #[v, .int .i64 n] w fun e w' => e = .returned (.bool (decide (n ∈ xs))) ∧ w = w' := by
  obtain ⟨a, b, off, cap, rfl, hm, ha, hc⟩ := h
  go_enter Try.func17, Try.ntmps17
  go_wp2
  go_loop [5] (fun i => ∃ k : Nat, k ≤ xs.length ∧ i = .int .i64 k ∧ n ∉ xs.take k) (fun i => xs.length - (intOf i).toNat)
  case atStart => exact ⟨0, Nat.zero_le _, rfl, by simp⟩
  case round =>
    obtain ⟨k, hk, rfl, hn⟩ := hrel
    have Hn := Lib.hid hn; clear hn
    by_cases hlt : k < xs.length
    · obtain rfl := ha (by omega)
      have g := hc k hlt
      have Ht := Lib.hid (take_succ_nth xs k hlt)
      have Hm : Hid (nth xs k ∈ xs) := by rw [nth_eq xs k hlt]; exact List.getElem_mem hlt
      go_wp2
      · have he : nth xs k = n := by simpa using (by assumption : (nth xs k == n) = true)
        go_ret
        exact ⟨by rw [← he]; simp [Hm.out], rfl⟩
      · have he : nth xs k ≠ n := by simpa using (by assumption : (nth xs k == n) = false)
        go_round
        case rel => exact ⟨k + 1, by omega, by go_num, by rw [Ht.out]; simp; exact ⟨Hn.out, fun e => he e.symm⟩⟩
        case measure => simp [intOf]; omega
    · go_wp2
      go_ret
      have e : k = xs.length := by omega
      have := Hn.out
      exact ⟨by rw [e] at this; simp at this; simp [this], rfl⟩

end Go.Proofs.Ytjnahiomnaedeaa
