/-
  Chapter 24's law SpaceWider: what the given row asks of the program, by running.
  Conditions: its contract.
-/
import Derived.Test.YtedfhdnpcnacmaaGreatDoorW24
namespace Go.Proofs.Pv
set_option linter.unusedVariables false
set_option linter.unusedSimpArgs false
open Go Go.Proofs Go.ChangeShapes Go.WideShapes Go.ChangeAt Go.RowKit
open Go.Proofs.YtedfhdnpcnacmaaGreatDoor
theorem rw_namedu : Tryz.pinned.checked.prog.funcNamed Rows.spaceWiderRow.func = some 7 := by kernel_rfl
theorem rw_instu : Tryz.f7.isInstance Tryz.pinned.checked.prog Rows.spaceWiderRow.origin Rows.spaceWiderRow.targs := (of_decide_eq_true (by kernel_rfl))
theorem rw_wrapu : Tryz.f7.isWrapper Tryz.pinned.checked.prog Rows.spaceWiderRow.wrapper Rows.spaceWiderRow.mainSum := (by unfold Func.isWrapper; first | (rw [if_pos (by decide +kernel)]; kernel_rfl) | (rw [if_neg (by decide +kernel)]; exact ⟨rfl, rfl⟩))
theorem rw_factsu : joinedFacts Tryz.pinned.checked.prog 7 Tryz.f7 Rows.spaceWiderSpec Rows.spaceWiderRow = true := by kernel_rfl
end Go.Proofs.Pv
