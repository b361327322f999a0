/-
  Chapter 24's law SpaceStands: it answers true for all arguments: the tied card.
  Conditions: its contract.
-/
import Derived.Test.YtedfhdnpcnacmaaGreatDoorW24tv
namespace Go.Proofs.Pv
set_option linter.unusedVariables false
set_option linter.unusedSimpArgs false
open Go Go.Proofs Go.ChangeShapes Go.WideShapes Go.ChangeAt Go.RowKit
open Go.Proofs.YtedfhdnpcnacmaaGreatDoor
theorem cardt : Rows.SpaceStandsCardSaid :=
  Claim7.holds_tied_plain_at .later [] [.data, .data, .data, .pinned] true (true, "34629c36d7cdbe9ab007c7298200a3e9c2bf1477cafff73a61b3e79aa8177082") false rowt (fun _ h => by cases h) (by kernel_rfl) (fun _ h => by cases h) spaceStands_row_tie rfl ⟨rfl, rfl⟩ (by kernel_rfl) rfl
    (fun f fn hf hfn => by
      obtain rfl : f = 6 := Option.some.inj ((show Tryz.prog.funcNamed "partita/partitalaw24.SpaceStands" = some 6 by kernel_rfl).symm.trans hf) |>.symm
      obtain rfl : fn = Tryz.f6 := (Option.some.inj (Tryz.func6.symm.trans hfn)).symm
      exact ⟨by kernel_rfl, fun j t ht => by
        rw [Tryz.params6] at ht
        have hm : t ∈ [28, 3] := by simpa using Array.mem_of_getElem? ht
        have hall : ([28, 3].all fun u => !Tryz.prog.wantsStandIn u) = true := by kernel_rfl
        exact (show Tryz.prog.wantsStandIn t = false by simpa using List.all_eq_true.1 hall t hm)⟩)
    (by kernel_rfl)
end Go.Proofs.Pv
namespace Go.Proofs.YtedfhdnpcnacmaaGreatDoor
theorem spaceStands_card : Rows.SpaceStandsCardSaid := Go.Proofs.Pv.cardt
#print axioms spaceStands_card
end Go.Proofs.YtedfhdnpcnacmaaGreatDoor
