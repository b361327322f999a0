/-
  Chapter 9's law EditRunBack: what the given row asks of the program, by running.
  Conditions: none.
-/
import Derived.Test.YtlcnbhiklpfpjaaGreatDoorW9
set_option linter.unusedVariables false
set_option linter.unusedSimpArgs false
set_option maxRecDepth 100000
set_option maxHeartbeats 16000000
namespace Go.Proofs.Pv
open Go Go.Proofs Go.ChangeShapes Go.WideShapes Go.ChangeAt Go.RowKit
open Go.Proofs.YtlcnbhiklpfpjaaGreatDoor
theorem aN3:Tryz.pinned.checked.prog.funcNamed Rows.editRunBackRow.func=some 3:=by kernel_rfl
theorem aQw:Tryz.f3.isInstance Tryz.pinned.checked.prog Rows.editRunBackRow.origin Rows.editRunBackRow.targs:=(of_decide_eq_true (by kernel_rfl))
theorem aQx:Tryz.f3.isWrapper Tryz.pinned.checked.prog Rows.editRunBackRow.wrapper Rows.editRunBackRow.mainSum:=(by unfold Func.isWrapper;first|(rw[if_pos (by decide+kernel)];kernel_rfl)|(rw[if_neg (by decide+kernel)];exact⟨rfl,rfl⟩))
theorem aN4:joinedFacts Tryz.pinned.checked.prog 3 Tryz.f3 Rows.editRunBackSpec Rows.editRunBackRow=true:=by kernel_rfl
end Go.Proofs.Pv
