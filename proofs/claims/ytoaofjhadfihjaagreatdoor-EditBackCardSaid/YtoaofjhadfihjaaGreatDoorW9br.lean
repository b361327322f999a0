/-
  Chapter 9's law EditBack: what the given row asks of the program, by running.
  Conditions: none.
-/
import Derived.Test.YtoaofjhadfihjaaGreatDoorW9
set_option linter.unusedVariables false
set_option linter.unusedSimpArgs false
set_option maxRecDepth 100000
set_option maxHeartbeats 16000000
namespace Go.Proofs.Pv
open Go Go.Proofs Go.ChangeShapes Go.WideShapes Go.ChangeAt Go.RowKit
open Go.Proofs.YtoaofjhadfihjaaGreatDoor
theorem aN3:Tryz.pinned.checked.prog.funcNamed Rows.editBackRow.func=some 3:=by kernel_rfl
theorem aQx:Tryz.f3.isInstance Tryz.pinned.checked.prog Rows.editBackRow.origin Rows.editBackRow.targs:=(of_decide_eq_true (by kernel_rfl))
theorem aQy:Tryz.f3.isWrapper Tryz.pinned.checked.prog Rows.editBackRow.wrapper Rows.editBackRow.mainSum:=(by unfold Func.isWrapper;first|(rw[if_pos (by decide+kernel)];kernel_rfl)|(rw[if_neg (by decide+kernel)];exact⟨rfl,rfl⟩))
theorem aN4:joinedFacts Tryz.pinned.checked.prog 3 Tryz.f3 Rows.editBackSpec Rows.editBackRow=true:=by kernel_rfl
end Go.Proofs.Pv
