/-
  Chapter 9's law EditBars: it answers true for all arguments: the tied card.
  Conditions: none.
-/
import Derived.Test.YtiikpmhjckdpgaaGreatDoorW9ev
namespace Go.Proofs.Pv
set_option linter.unusedVariables false
set_option linter.unusedSimpArgs false
open Go Go.Proofs Go.ChangeShapes Go.WideShapes Go.ChangeAt Go.RowKit
open Go.Proofs.YtiikpmhjckdpgaaGreatDoor
theorem carde : Rows.EditBarsCardSaid :=
 Claim7.holds_tied_plain_at .later [] [.data, .data, .data, .pinned] true (true, "a528b1e61a3ad29d281f02edbbe5eae176b2425ef620c13acbc2c237119e638d") false rowe (fun _ h => by cases h) (by kernel_rfl) (fun _ h => by cases h) editBars_row_tie rfl ⟨rfl, rfl⟩ (by kernel_rfl) rfl
  (fun f fn hf hfn => by
   obtain rfl : f = 3 := Option.some.inj ((show Tryz.prog.funcNamed "partita/partitalaw09.EditBars" = some 3 by kernel_rfl).symm.trans hf) |>.symm
   obtain rfl : fn = Tryz.f3 := (Option.some.inj (Tryz.func3.symm.trans hfn)).symm
   exact ⟨by kernel_rfl, fun j t ht => by
    rw [Tryz.params3] at ht
    have hm : t ∈ [25, 34] := by simpa using Array.mem_of_getElem? ht
    have hall : ([25, 34].all fun u => !Tryz.prog.wantsStandIn u) = true := by kernel_rfl
    exact (show Tryz.prog.wantsStandIn t = false by simpa using List.all_eq_true.1 hall t hm)⟩)
  (by kernel_rfl)
end Go.Proofs.Pv
namespace Go.Proofs.YtiikpmhjckdpgaaGreatDoor
theorem editBars_card : Rows.EditBarsCardSaid := Go.Proofs.Pv.carde
#print axioms editBars_card
end Go.Proofs.YtiikpmhjckdpgaaGreatDoor
