/-
  Chapter 9's law EditRight: what the given row asks of the program, by running.
  Conditions: none.
-/
import Derived.Test.YtpapgaocjhnoiaaGreatDoorW9
set_option linter.unusedVariables false
set_option linter.unusedSimpArgs false
namespace Go.Proofs.Pv
open Go Go.Proofs Go.ChangeShapes Go.WideShapes Go.ChangeAt Go.RowKit
open Go.Proofs.YtpapgaocjhnoiaaGreatDoor
theorem aOw:Tryz.pinned.checked.prog.funcNamed Rows.editRightRow.func=some 3:=by kernel_rfl
theorem aQ0:Tryz.f3.isInstance Tryz.pinned.checked.prog Rows.editRightRow.origin Rows.editRightRow.targs:=(of_decide_eq_true (by kernel_rfl))
theorem aQ1:Tryz.f3.isWrapper Tryz.pinned.checked.prog Rows.editRightRow.wrapper Rows.editRightRow.mainSum:=(by unfold Func.isWrapper;first|(rw[if_pos (by decide+kernel)];kernel_rfl)|(rw[if_neg (by decide+kernel)];exact⟨rfl,rfl⟩))
theorem aOx:joinedFacts Tryz.pinned.checked.prog 3 Tryz.f3 Rows.editRightSpec Rows.editRightRow=true:=by kernel_rfl
end Go.Proofs.Pv
