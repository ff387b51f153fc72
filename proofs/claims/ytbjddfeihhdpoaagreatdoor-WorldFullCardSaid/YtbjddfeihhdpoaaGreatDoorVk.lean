import Derived.Test.YtbjddfeihhdpoaaGreatDoorVh
set_option linter.unusedVariables false
set_option linter.unusedSimpArgs false
namespace Go.Proofs.YtbjddfeihhdpoaaGreatDoor
open Go
theorem k5_0 : chkK l1F l1n l1H (evK (ev 10000).1 b4 50 (fOf l0F) (hOf l0n l0H)) = true := by kernel_rfl
theorem k5_1 : chkK l2F l2n l2H (evK (ev 10000).1 b4 50 (fOf l1F) (hOf l1n l1H)) = true := by kernel_rfl
theorem k5_2 : chkK l3F l3n l3H (evK (ev 10000).1 b4 50 (fOf l2F) (hOf l2n l2H)) = true := by kernel_rfl
theorem k5_3 : chkK l4F l4n l4H (evK (ev 10000).1 b4 50 (fOf l3F) (hOf l3n l3H)) = true := by kernel_rfl
end Go.Proofs.YtbjddfeihhdpoaaGreatDoor
