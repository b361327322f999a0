/-
  Chapter 24: a part of the proof.
  Conditions: none.
-/
import Derived.Test.YtedfhdnpcnacmaaGreatDoorW24
namespace Go.Proofs.Pv
set_option linter.unusedVariables false
set_option linter.unusedSimpArgs false
open Go Go.Proofs Go.ChangeShapes Go.WideShapes Go.ChangeAt Go.RowKit
open Go.Proofs.YtedfhdnpcnacmaaGreatDoor
theorem rw_named : Tryz.pinned.checked.prog.funcNamed Rows.spaceWidthsRow.func = some 4 := by kernel_rfl
#print axioms rw_named
theorem rw_inst : Tryz.f4.isInstance Tryz.pinned.checked.prog Rows.spaceWidthsRow.origin Rows.spaceWidthsRow.targs := (of_decide_eq_true (by kernel_rfl))
#print axioms rw_inst
theorem rw_wrap : Tryz.f4.isWrapper Tryz.pinned.checked.prog Rows.spaceWidthsRow.wrapper Rows.spaceWidthsRow.mainSum := (by unfold Func.isWrapper; first | (rw [if_pos (by decide +kernel)]; kernel_rfl) | (rw [if_neg (by decide +kernel)]; exact ⟨rfl, rfl⟩))
#print axioms rw_wrap
theorem rw_facts : joinedFacts Tryz.pinned.checked.prog 4 Tryz.f4 Rows.spaceWidthsSpec Rows.spaceWidthsRow = true := by kernel_rfl
#print axioms rw_facts
end Go.Proofs.Pv
