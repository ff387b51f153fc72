import Derived.Test.YtbjddfeihhdpoaaGreatDoorCards
import Derived.JoinedCond
import Derived.KernelRfl
set_option linter.unusedVariables false
set_option linter.unusedSimpArgs false
namespace Go.Proofs.YtbjddfeihhdpoaaGreatDoor.worldFull
open Go

theorem a1 : (Rows.worldFullRow.wf (OpenSpec.ofChange (OpenSpec.ofChange Rows.worldFullSpec).bare)) = true := by kernel_rfl
theorem a2 : (laidOutB Tryz.prog) = true := by kernel_rfl
theorem a3 : (mapsRowed Tryz.prog) = true := by kernel_rfl
theorem a4 : (Tryz.f3.params.all (Tryz.prog.readableRec ·)) = true := by kernel_rfl
theorem a5 : (namedTie Tryz.prog Rows.worldFullRow.named (OpenSpec.ofChange Rows.worldFullSpec).bare.vars) = true := by kernel_rfl
theorem a6 : (Rows.worldFullRow.stops == []) = true := by kernel_rfl
theorem a7 : (Tryz.prog.stops == []) = true := by kernel_rfl
theorem a8 : (Rows.worldFullRow.knobs == []) = true := by kernel_rfl
theorem a9 : (Tryz.prog.stopKnobs == []) = true := by kernel_rfl
theorem a14 : (Rows.worldFullRow.maps == (Tryz.f3.params.toList ++ ((OpenSpec.ofChange Rows.worldFullSpec).bare).plain.varTypes Tryz.prog).any (Tryz.prog.mapsRec ·)) = true := by kernel_rfl
theorem a15 : (Rows.worldFullRow.ifaces == (Tryz.f3.params.toList ++ ((OpenSpec.ofChange Rows.worldFullSpec).bare).plain.varTypes Tryz.prog).any (Tryz.prog.ifacesRec ·)) = true := by kernel_rfl
theorem a16 : (Rows.worldFullRow.mapsOut == Tryz.prog.mapsAmong Tryz.f3.resultTypes.toList) = true := by kernel_rfl
theorem a17 : (Rows.worldFullRow.loops == (Tryz.f3.params.toList ++ ((OpenSpec.ofChange Rows.worldFullSpec).bare).plain.varTypes Tryz.prog).any (Tryz.prog.loopsFrom ·)) = true := by kernel_rfl
end Go.Proofs.YtbjddfeihhdpoaaGreatDoor.worldFull
