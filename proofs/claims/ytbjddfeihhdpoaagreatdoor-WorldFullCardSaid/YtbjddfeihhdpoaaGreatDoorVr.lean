import Derived.Test.YtbjddfeihhdpoaaGreatDoorCards
import Derived.JoinedCond
import Derived.KernelRfl
set_option linter.unusedVariables false
set_option linter.unusedSimpArgs false
namespace Go.Proofs.YtbjddfeihhdpoaaGreatDoor.worldFull
open Go

theorem a18 : ((OpenSpec.ofChange Rows.worldFullSpec).bare.vars.all (Tryz.prog.varReadable ·)) = true := by kernel_rfl
theorem a19 : (Tryz.f3.resultTypes.all (fun t => Tryz.prog.readableRec t && decide (t < Tryz.prog.types.size))) = true := by kernel_rfl
theorem a20 : (Rows.worldFullRow.ifacesOut == Tryz.f3.resultTypes.toList.any (Tryz.prog.ifacesRec ·)) = true := by kernel_rfl
theorem a21 : (Rows.worldFullRow.loopsOut == Tryz.f3.resultTypes.toList.any (Tryz.prog.loopsFrom ·)) = true := by kernel_rfl
theorem a22 : (Rows.worldFullRow.plainKeys == Tryz.prog.plainKeys) = true := by kernel_rfl
theorem a23 : (Rows.worldFullRow.shortTexts.isNone) = true := by kernel_rfl
theorem a23b : (Tryz.prog.stopsHeard) = true := by kernel_rfl
theorem a24 : (Tryz.prog.mayEnter) = true := by kernel_rfl
theorem a24b : (Rows.worldFullRow.lifted == Tryz.prog.liftsFinal) = true := by kernel_rfl
theorem a24c : (Tryz.prog.make == some Rows.worldFullRow.make) = true := by kernel_rfl
theorem a25 : (Rows.worldFullRow.kinds == (if Rows.worldFullRow.domain.isEmpty then [] else Tryz.f3.params.toList.map fun t => match Tryz.prog.underlying t with | some (.int k) => some k | _ => .none)) = true := by kernel_rfl
theorem a26 : (Rows.worldFullRow.pinned == Rows.worldFullRow.pinnedBy) = true := by kernel_rfl
theorem a27 : (Rows.worldFullRow.veiled == (Tryz.f3.params.toList ++ ((OpenSpec.ofChange Rows.worldFullSpec).bare).plain.varTypes Tryz.prog ++ Tryz.f3.resultTypes.toList).any (Tryz.prog.veiledRec ·)) = true := by kernel_rfl
theorem a28 : (Rows.worldFullRow.veiledFits Tryz.prog Tryz.f3.params.toList (Tryz.f3.params.toList ++ ((OpenSpec.ofChange Rows.worldFullSpec).bare).plain.varTypes Tryz.prog ++ Tryz.f3.resultTypes.toList)) = true := by kernel_rfl
theorem f_named : Tryz.prog.funcNamed "clevis/clevislaw22.WorldFull" = some 3 := by kernel_rfl
theorem goes_all : Tryz.prog.funcs.toList.any Func.goes = false := by kernel_rfl
theorem goes_of {P : Program} (h : P.funcs.toList.any Func.goes = false) (f : FuncId) : P.goes f = false := by
  have h1 : ∀ g : FuncId, (P.funcs[g]?).any Func.goes = false := fun g => by
    cases hg : P.funcs[g]? with
    | none => rfl
    | some fn =>
      show fn.goes = false
      have := List.any_eq_false.1 h fn (List.mem_of_getElem? (i := g) (by simpa using hg))
      simpa using this
  have h2 : P.funcs.any Func.goes = false := by rw [← Array.any_toList]; exact h
  unfold Program.goes
  rw [h2, Bool.and_false, Bool.or_false]
  exact List.any_eq_false.2 fun g _ => by rw [h1 g]; decide
theorem goes_by {P : Program} {c : OpenClaim} (h : P.funcs.toList.any Func.goes = false) (hs : c.start = .entering) : false = c.goesBy P := by
  unfold OpenClaim.goesBy Program.goesAt Program.goesFrom
  rw [hs]
  cases P.funcNamed c.func with
  | none => rfl
  | some f => simp [goes_of h f]
theorem looks_is : true = Tryz.prog.looks [] := by kernel_rfl
theorem main_is : Tryz.prog.mainIs = some (true, "9f2b51f71e361839e26d95db4e46afa72a286fdc483d55d6275d595fa51d900f".toList) := by kernel_rfl
end Go.Proofs.YtbjddfeihhdpoaaGreatDoor.worldFull
