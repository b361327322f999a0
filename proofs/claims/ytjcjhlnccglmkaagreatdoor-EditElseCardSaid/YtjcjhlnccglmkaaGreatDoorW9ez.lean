/-
  Chapter 9's law EditElse: it answers true for all arguments: the tied card.
  Conditions: none.
-/
import Derived.Test.YtjcjhlnccglmkaaGreatDoorW9ev
namespace Go.Proofs.Pv
set_option linter.unusedVariables false
set_option linter.unusedSimpArgs false
open Go Go.Proofs Go.ChangeShapes Go.WideShapes Go.ChangeAt Go.RowKit
open Go.Proofs.YtjcjhlnccglmkaaGreatDoor
theorem carde : Rows.EditElseCardSaid :=
  Claim7.holds_tied_plain_at .later [] [.data, .data, .data, .pinned] true (true, "53fce5e27af8301d7f984885cb2985355c4742ac96e375fea4d3153ef1c24a4a") false rowe (fun _ h => by cases h) (by kernel_rfl) (fun _ h => by cases h) editElse_row_tie rfl ⟨rfl, rfl⟩ (by kernel_rfl) rfl
    (fun f fn hf hfn => by
      obtain rfl : f = 3 := Option.some.inj ((show Tryz.prog.funcNamed "partita/partitalaw09.EditElse" = some 3 by kernel_rfl).symm.trans hf) |>.symm
      obtain rfl : fn = Tryz.f3 := (Option.some.inj (Tryz.func3.symm.trans hfn)).symm
      exact ⟨by kernel_rfl, fun j t ht => by
        rw [Tryz.params3] at ht
        have hm : t ∈ [25, 34] := by simpa using Array.mem_of_getElem? ht
        have hall : ([25, 34].all fun u => !Tryz.prog.wantsStandIn u) = true := by kernel_rfl
        exact (show Tryz.prog.wantsStandIn t = false by simpa using List.all_eq_true.1 hall t hm)⟩)
    (by kernel_rfl)
end Go.Proofs.Pv
namespace Go.Proofs.YtjcjhlnccglmkaaGreatDoor
theorem editElse_card : Rows.EditElseCardSaid := Go.Proofs.Pv.carde
#print axioms editElse_card
end Go.Proofs.YtjcjhlnccglmkaaGreatDoor
