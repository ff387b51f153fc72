import Derived.Test.YtbjddfeihhdpoaaGreatDoorVh
set_option linter.unusedVariables false
set_option linter.unusedSimpArgs false
namespace Go.Proofs.YtbjddfeihhdpoaaGreatDoor
open Go
noncomputable def allN (f : Nat → Bool) (m : Nat) : Bool := Nat.rec (motive := fun _ => Bool) true (fun i ih => f i && ih) m
theorem allN_ok {f : Nat → Bool} : ∀ {m : Nat}, allN f m = true → ∀ i, i < m → f i = true
  | 0, _, i, h => by omega
  | m + 1, e, i, h => by
    have e : (f m && allN f m) = true := e
    rw [Bool.and_eq_true] at e
    by_cases hi : i = m
    · rw [hi]; exact e.1
    · exact allN_ok e.2 i (by omega)
noncomputable def l2 (n : Nat) : Bool := chkN s6F s6n s6H ((ev 10000).1 p6 ((fOf s5F).set 1 (.o (.c (.v (.int .u8 (.ofNat n)))))) (hOf s5n s5H))
theorem k8_0 : allN (fun i => l2 (0 + i)) 64 = true := by kernel_rfl
theorem k8_1 : allN (fun i => l2 (64 + i)) 64 = true := by kernel_rfl
theorem k8_2 : allN (fun i => l2 (128 + i)) 64 = true := by kernel_rfl
theorem k8_3 : allN (fun i => l2 (192 + i)) 64 = true := by kernel_rfl
end Go.Proofs.YtbjddfeihhdpoaaGreatDoor
