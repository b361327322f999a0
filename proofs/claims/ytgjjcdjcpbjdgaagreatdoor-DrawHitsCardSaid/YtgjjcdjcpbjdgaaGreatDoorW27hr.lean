/-
  Chapter 27's law DrawHits: what the given row asks of the program, by running.
  Conditions: its contract.
-/
import Derived.Test.YtgjjcdjcpbjdgaaGreatDoorW27
namespace Go.Proofs.Pv
set_option linter.unusedVariables false
set_option linter.unusedSimpArgs false
open Go Go.Proofs Go.ChangeShapes Go.WideShapes Go.ChangeAt Go.RowKit
open Go.Proofs.YtgjjcdjcpbjdgaaGreatDoor
theorem rw_namedh : Tryz.pinned.checked.prog.funcNamed Rows.drawHitsRow.func = some 3 := by kernel_rfl
theorem rw_insth : Tryz.f3.isInstance Tryz.pinned.checked.prog Rows.drawHitsRow.origin Rows.drawHitsRow.targs := (of_decide_eq_true (by kernel_rfl))
theorem rw_wraph : Tryz.f3.isWrapper Tryz.pinned.checked.prog Rows.drawHitsRow.wrapper Rows.drawHitsRow.mainSum := (by unfold Func.isWrapper; first | (rw [if_pos (by decide +kernel)]; kernel_rfl) | (rw [if_neg (by decide +kernel)]; exact ⟨rfl, rfl⟩))
theorem rw_factsh : joinedFacts Tryz.pinned.checked.prog 3 Tryz.f3 Rows.drawHitsSpec Rows.drawHitsRow = true := by kernel_rfl
end Go.Proofs.Pv
