/-
  Chapter 27's law DrawHits: it answers true for all arguments: the tied card.
  Conditions: its contract.
-/
import Derived.Test.YtgjjcdjcpbjdgaaGreatDoorW27hv
namespace Go.Proofs.Pv
set_option linter.unusedVariables false
set_option linter.unusedSimpArgs false
open Go Go.Proofs Go.ChangeShapes Go.WideShapes Go.ChangeAt Go.RowKit
open Go.Proofs.YtgjjcdjcpbjdgaaGreatDoor
theorem cardh : Rows.DrawHitsCardSaid :=
  Claim7.holds_tied_plain_at .later [] [.data, .handle, .sentinel, .sentinel, .data, .data, .pinned] true (true, "3cff9c15f47d5cd520fbc1b53dc807883c159078a758fc7d6805ebd969096b63") true rowh (fun _ h => by cases h) (by kernel_rfl) (fun _ h => by cases h) drawHits_row_tie rfl ⟨rfl, rfl⟩ (by kernel_rfl) rfl
    (fun f fn hf hfn => by
      obtain rfl : f = 3 := Option.some.inj ((show Tryz.prog.funcNamed "partita/partitalaw27.DrawHits" = some 3 by kernel_rfl).symm.trans hf) |>.symm
      obtain rfl : fn = Tryz.f3 := (Option.some.inj (Tryz.func3.symm.trans hfn)).symm
      exact ⟨by kernel_rfl, fun j t ht => by
        rw [Tryz.params3] at ht
        have hm : t ∈ [22, 3, 3] := by simpa using Array.mem_of_getElem? ht
        have hall : ([22, 3, 3].all fun u => !Tryz.prog.wantsStandIn u) = true := by kernel_rfl
        exact (show Tryz.prog.wantsStandIn t = false by simpa using List.all_eq_true.1 hall t hm)⟩)
    (by kernel_rfl)
end Go.Proofs.Pv
namespace Go.Proofs.YtgjjcdjcpbjdgaaGreatDoor
theorem drawHits_card : Rows.DrawHitsCardSaid := Go.Proofs.Pv.cardh
#print axioms drawHits_card
end Go.Proofs.YtgjjcdjcpbjdgaaGreatDoor
