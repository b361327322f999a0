/-
  Chapter 9's law EditTitle: it answers true for all arguments: the tied card.
  Conditions: none.
-/
import Derived.Test.YtbeclcideapopaaGreatDoorW9tv
set_option linter.unusedVariables false
set_option linter.unusedSimpArgs false
set_option maxRecDepth 100000
set_option maxHeartbeats 16000000
namespace Go.Proofs.Pv
open Go Go.Proofs Go.ChangeShapes Go.WideShapes Go.ChangeAt Go.RowKit
open Go.Proofs.YtbeclcideapopaaGreatDoor
theorem cardt:Rows.EditTitleCardSaid:=
 Claim7.holds_tied_plain_at .later [] [.data,.data,.data,.pinned] true (true, "bf40271b3b25fafda845b4c4da7256f98d05591502fe75864628d5ce2a35e7a6") false rowt (fun _ h=>by cases h) (by kernel_rfl) (fun _ h=>by cases h) editTitle_row_tie rfl ⟨rfl,rfl⟩ (by kernel_rfl) rfl
  (fun f fn hf hfn=>by
   obtain rfl:f=3:=Option.some.inj ((show Tryz.prog.funcNamed "partita/partitalaw09.EditTitle" =some 3 by kernel_rfl).symm.trans hf)|>.symm
   obtain rfl:fn=Tryz.f3:=(Option.some.inj (Tryz.func3.symm.trans hfn)).symm
   exact⟨by kernel_rfl,fun j t ht=>by
    rw[Tryz.params3] at ht
    have hm:t∈[25,34,9]:=by simpa using Array.mem_of_getElem? ht
    have hall:([25,34,9].all fun u=>!Tryz.prog.wantsStandIn u)=true:=by kernel_rfl
    exact(show Tryz.prog.wantsStandIn t=false by simpa using List.all_eq_true.1 hall t hm)⟩)
  (by kernel_rfl)
end Go.Proofs.Pv
namespace Go.Proofs.YtbeclcideapopaaGreatDoor
theorem editTitle_card:Rows.EditTitleCardSaid:=Go.Proofs.Pv.cardt
#print axioms editTitle_card
end Go.Proofs.YtbeclcideapopaaGreatDoor
