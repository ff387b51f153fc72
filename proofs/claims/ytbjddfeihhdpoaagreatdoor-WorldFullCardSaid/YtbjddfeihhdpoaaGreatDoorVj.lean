import Derived.Test.YtbjddfeihhdpoaaGreatDoorVh
set_option linter.unusedVariables false
set_option linter.unusedSimpArgs false
namespace Go.Proofs.YtbjddfeihhdpoaaGreatDoor
open Go
theorem k0 : chkN s0F s0n s0H ((ev 10000).1 p0 F0 H0) = true := by kernel_rfl
theorem k2 : chkN t2F t2n t2H ((ev 10000).1 p2 (fOf s1F) (hOf s1n s1H)) = true := by kernel_rfl
theorem k3 : chkN s2F s2n s2H ((ev 10000).1 p3 (fOf t2F) (hOf t2n t2H)) = true := by kernel_rfl
theorem k4 : chkN l0F l0n l0H ((ev 10000).1 p4 (fOf s2F) (hOf s2n s2H)) = true := by kernel_rfl
theorem k6 : chkX 0 s4F s4n s4H ((ev 10000).1 b4 (fOf l8F) (hOf l8n l8H)) = true := by kernel_rfl
theorem k7 : chkN s5F s5n s5H ((ev 10000).1 p5 (fOf s4F) (hOf s4n s4H)) = true := by kernel_rfl
noncomputable def chkR : Option (EX × T AT × AH) → Bool
  | some (.ret, F, h) => match resultsA Tryz.prog Tryz.f3 F h with
    | some (.o (.c (.v (.bool true)))) => true
    | _ => false
  | _ => false
theorem k9 : chkR ((ev 10000).1 q7 (fOf s6F) (hOf s6n s6H)) = true := by kernel_rfl
end Go.Proofs.YtbjddfeihhdpoaaGreatDoor
