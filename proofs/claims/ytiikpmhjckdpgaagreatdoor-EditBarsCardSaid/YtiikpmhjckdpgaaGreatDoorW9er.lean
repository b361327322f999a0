/-
  Chapter 9's law EditBars: what the given row asks of the program, by running.
  Conditions: none.
-/
import Derived.Test.YtiikpmhjckdpgaaGreatDoorW9
namespace Go.Proofs.Pv
set_option linter.unusedVariables false
set_option linter.unusedSimpArgs false
open Go Go.Proofs Go.ChangeShapes Go.WideShapes Go.ChangeAt Go.RowKit
open Go.Proofs.YtiikpmhjckdpgaaGreatDoor
theorem rw_namede : Tryz.pinned.checked.prog.funcNamed Rows.editBarsRow.func = some 3 := by kernel_rfl
theorem rw_inste : Tryz.f3.isInstance Tryz.pinned.checked.prog Rows.editBarsRow.origin Rows.editBarsRow.targs := (of_decide_eq_true (by kernel_rfl))
theorem rw_wrape : Tryz.f3.isWrapper Tryz.pinned.checked.prog Rows.editBarsRow.wrapper Rows.editBarsRow.mainSum := (by unfold Func.isWrapper; first | (rw [if_pos (by decide +kernel)]; kernel_rfl) | (rw [if_neg (by decide +kernel)]; exact ⟨rfl, rfl⟩))
theorem rw_factse : joinedFacts Tryz.pinned.checked.prog 3 Tryz.f3 Rows.editBarsSpec Rows.editBarsRow = true := by kernel_rfl
end Go.Proofs.Pv
