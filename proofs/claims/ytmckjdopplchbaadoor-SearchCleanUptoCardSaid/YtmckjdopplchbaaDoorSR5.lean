/- Lemmas that the claim is proved from: what calls of functions of the program come to (contracts), and plain laws. Each lemma bears its own conditions. -/
import Derived.Test.YtmckjdopplchbaaDoorSR4
import Derived.Lib.IndexBytes
namespace Go.Proofs.YtmckjdopplchbaaDoor
set_option linter.unusedVariables false
set_option linter.unusedSimpArgs false
open Go.RowKit

theorem contains_slash (s : List UInt8) : Lib.contains s [47] = slashB s := by
  unfold Lib.contains slashB
  rw [Bool.eq_iff_iff, decide_eq_true_eq, List.contains_iff_mem]
  rcases index_byte s 47 with ⟨i, h1, h2, h3, _⟩ | ⟨hn, h1⟩
  · rw [h1]
    exact ⟨fun _ => by rw [h3]; simp, fun _ => by omega⟩
  · rw [h1]
    exact ⟨fun h => by omega, fun h => absurd h hn⟩

theorem contains_any (w : World) (s : List UInt8) :
    Calls Tryd.prog 36 #[.string ⟨s.toArray⟩, .string ⟨#[47]⟩] w fun e w' => e = .returned (.bool (slashB s)) ∧ w' = w := by
  have h := Tryd.strings_Contains_one ⟨s.toArray⟩ 47 w
  rw [← contains_slash, Lib.contains, Lib.index_one]
  exact h

end Go.Proofs.YtmckjdopplchbaaDoor
