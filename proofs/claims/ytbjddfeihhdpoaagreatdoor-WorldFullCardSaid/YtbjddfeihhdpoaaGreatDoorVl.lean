import Derived.Test.YtbjddfeihhdpoaaGreatDoorVh
set_option linter.unusedVariables false
set_option linter.unusedSimpArgs false
namespace Go.Proofs.YtbjddfeihhdpoaaGreatDoor
open Go
theorem k5_4 : chkK l5F l5n l5H (evK (ev 10000).1 b4 50 (fOf l4F) (hOf l4n l4H)) = true := by kernel_rfl
theorem k5_5 : chkK l6F l6n l6H (evK (ev 10000).1 b4 50 (fOf l5F) (hOf l5n l5H)) = true := by kernel_rfl
theorem k5_6 : chkK l7F l7n l7H (evK (ev 10000).1 b4 50 (fOf l6F) (hOf l6n l6H)) = true := by kernel_rfl
theorem k5_7 : chkK l8F l8n l8H (evK (ev 10000).1 b4 50 (fOf l7F) (hOf l7n l7H)) = true := by kernel_rfl
end Go.Proofs.YtbjddfeihhdpoaaGreatDoor
