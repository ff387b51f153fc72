import Derived.Test.YtbjddfeihhdpoaaGreatDoorVh
set_option linter.unusedVariables false
set_option linter.unusedSimpArgs false
namespace Go.Proofs.YtbjddfeihhdpoaaGreatDoor
open Go
theorem k1 : chkN s1F s1n s1H ((ev 10000).1 p1 (fOf s0F) (hOf s0n s0H)) = true := by kernel_rfl
end Go.Proofs.YtbjddfeihhdpoaaGreatDoor
