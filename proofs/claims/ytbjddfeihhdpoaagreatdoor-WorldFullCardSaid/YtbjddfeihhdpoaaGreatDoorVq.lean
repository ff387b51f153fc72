import Derived.Test.YtbjddfeihhdpoaaGreatDoorCards
import Derived.JoinedCond
import Derived.KernelRfl
set_option linter.unusedVariables false
set_option linter.unusedSimpArgs false
namespace Go.Proofs.YtbjddfeihhdpoaaGreatDoor.worldFull
open Go

theorem a13 : (Rows.worldFullRow.named == Tryz.prog.varsNamed 3) = true := by kernel_rfl
theorem a17b : (Rows.worldFullRow.wideKeys == (Tryz.f3.params.toList ++ ((OpenSpec.ofChange Rows.worldFullSpec).bare).plain.varTypes Tryz.prog ++ Tryz.f3.resultTypes.toList).any (Tryz.prog.wideKeysFrom ·)) = true := by kernel_rfl
end Go.Proofs.YtbjddfeihhdpoaaGreatDoor.worldFull
