/- Lemmas that the claim is proved from: what calls of functions of the program come to (contracts), and plain laws. Each lemma bears its own conditions. -/
import Derived.Test.YtmckjdopplchbaaDoorSR3
namespace Go.Proofs.YtmckjdopplchbaaDoor
set_option linter.unusedVariables false
set_option linter.unusedSimpArgs false
open Go.RowKit

/-- may a name be looked for? -/
def namedN (name : List UInt8) : Int := if name = [] ∨ 200 < name.length then 120 else 0

set_option maxHeartbeats 1000000 in
set_option maxRecDepth 100000 in
theorem named_any (w : World) (name : List UInt8) (hz : name.length ≤ 9223372036854775807) :
    Calls Tryd.prog 35 #[.string ⟨name.toArray⟩] w fun e w' => e = .returned (.int .i64 (namedN name)) ∧ w' = w := by
  have hsz := size_mk name
  cases hq : name.isEmpty with
  | true =>
    have Hn : Hid (namedN name = 120) := Lib.hid (if_pos (Or.inl (List.isEmpty_iff.1 hq)))
    go_enter Tryd.func35, Tryd.ntmps35
    go_wp2
    go_ret
    exact ⟨by rw [Hn.out]; rfl, rfl⟩
  | false =>
    have hne : name ≠ [] := fun e => by rw [e] at hq; simp at hq
    by_cases hl : 200 < name.length
    · have Hn : Hid (namedN name = 120) := Lib.hid (if_pos (Or.inr hl))
      clear hne
      go_enter Tryd.func35, Tryd.ntmps35
      go_wp2
      go_ret
      exact ⟨by rw [Hn.out]; rfl, rfl⟩
    · have Hn : Hid (namedN name = 0) := Lib.hid (if_neg (by simp [hne]; omega))
      clear hne
      go_enter Tryd.func35, Tryd.ntmps35
      go_wp2
      go_ret
      exact ⟨by rw [Hn.out]; rfl, rfl⟩

end Go.Proofs.YtmckjdopplchbaaDoor
