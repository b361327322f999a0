/-
  Chapter 9's law EditParts: what the given row asks of the program, by running.
  Conditions: none.
-/
import Derived.Test.YthaakfgepndmaaaGreatDoorW9
set_option linter.unusedVariables false
set_option linter.unusedSimpArgs false
set_option maxRecDepth 100000
set_option maxHeartbeats 16000000
namespace Go.Proofs.Pv
open Go Go.Proofs Go.ChangeShapes Go.WideShapes Go.ChangeAt Go.RowKit
open Go.Proofs.YthaakfgepndmaaaGreatDoor
theorem aLu:Tryz.pinned.checked.prog.funcNamed Rows.editPartsRow.func=some 3:=by kernel_rfl
theorem aOy:Tryz.f3.isInstance Tryz.pinned.checked.prog Rows.editPartsRow.origin Rows.editPartsRow.targs:=(of_decide_eq_true (by kernel_rfl))
theorem aOz:Tryz.f3.isWrapper Tryz.pinned.checked.prog Rows.editPartsRow.wrapper Rows.editPartsRow.mainSum:=(by unfold Func.isWrapper;first|(rw[if_pos (by decide+kernel)];kernel_rfl)|(rw[if_neg (by decide+kernel)];exact⟨rfl,rfl⟩))
theorem aLv:joinedFacts Tryz.pinned.checked.prog 3 Tryz.f3 Rows.editPartsSpec Rows.editPartsRow=true:=by kernel_rfl
end Go.Proofs.Pv
