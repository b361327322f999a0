/-
  Chapter 24's law SpaceSpreads: what the given row asks of the program, by running.
  Conditions: its contract.
-/
import Derived.Test.YtedfhdnpcnacmaaGreatDoorW24
namespace Go.Proofs.Pv
set_option linter.unusedVariables false
set_option linter.unusedSimpArgs false
open Go Go.Proofs Go.ChangeShapes Go.WideShapes Go.ChangeAt Go.RowKit
open Go.Proofs.YtedfhdnpcnacmaaGreatDoor
theorem rw_nameds : Tryz.pinned.checked.prog.funcNamed Rows.spaceSpreadsRow.func = some 5 := by kernel_rfl
theorem rw_insts : Tryz.f5.isInstance Tryz.pinned.checked.prog Rows.spaceSpreadsRow.origin Rows.spaceSpreadsRow.targs := (of_decide_eq_true (by kernel_rfl))
theorem rw_wraps : Tryz.f5.isWrapper Tryz.pinned.checked.prog Rows.spaceSpreadsRow.wrapper Rows.spaceSpreadsRow.mainSum := (by unfold Func.isWrapper; first | (rw [if_pos (by decide +kernel)]; kernel_rfl) | (rw [if_neg (by decide +kernel)]; exact ⟨rfl, rfl⟩))
theorem rw_factss : joinedFacts Tryz.pinned.checked.prog 5 Tryz.f5 Rows.spaceSpreadsSpec Rows.spaceSpreadsRow = true := by kernel_rfl
end Go.Proofs.Pv
