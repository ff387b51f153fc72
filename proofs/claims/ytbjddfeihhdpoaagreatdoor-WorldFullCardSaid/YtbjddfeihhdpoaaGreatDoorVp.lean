import Derived.Test.YtbjddfeihhdpoaaGreatDoorCards
import Derived.JoinedCond
import Derived.KernelRfl
set_option linter.unusedVariables false
set_option linter.unusedSimpArgs false
namespace Go.Proofs.YtbjddfeihhdpoaaGreatDoor.worldFull
open Go

theorem a10 : (Rows.worldFullRow.inPlace == Tryz.prog.inPlace 3) = true := by kernel_rfl
theorem a11 : (Rows.worldFullRow.unfollowed == Tryz.prog.unfollowed 3) = true := by kernel_rfl
theorem a12 : (Rows.worldFullRow.recurses == Tryz.prog.recurses 3) = true := by
  have h : Tryz.prog.unfollowed 3 = true := (eq_of_beq a11).symm
  unfold Program.recurses
  rw [h]
  rfl
end Go.Proofs.YtbjddfeihhdpoaaGreatDoor.worldFull
