/-
  Chapter 24's law SpaceStands: what the given row asks of the program, by running.
  Conditions: its contract.
-/
import Derived.Test.YtedfhdnpcnacmaaGreatDoorW24
namespace Go.Proofs.Pv
set_option linter.unusedVariables false
set_option linter.unusedSimpArgs false
open Go Go.Proofs Go.ChangeShapes Go.WideShapes Go.ChangeAt Go.RowKit
open Go.Proofs.YtedfhdnpcnacmaaGreatDoor
theorem rw_namedt : Tryz.pinned.checked.prog.funcNamed Rows.spaceStandsRow.func = some 6 := by kernel_rfl
theorem rw_instt : Tryz.f6.isInstance Tryz.pinned.checked.prog Rows.spaceStandsRow.origin Rows.spaceStandsRow.targs := (of_decide_eq_true (by kernel_rfl))
theorem rw_wrapt : Tryz.f6.isWrapper Tryz.pinned.checked.prog Rows.spaceStandsRow.wrapper Rows.spaceStandsRow.mainSum := (by unfold Func.isWrapper; first | (rw [if_pos (by decide +kernel)]; kernel_rfl) | (rw [if_neg (by decide +kernel)]; exact ⟨rfl, rfl⟩))
theorem rw_factst : joinedFacts Tryz.pinned.checked.prog 6 Tryz.f6 Rows.spaceStandsSpec Rows.spaceStandsRow = true := by kernel_rfl
end Go.Proofs.Pv
