/-
  Chapter 9's law EditBack: it answers true for all arguments: the tied card.
  Conditions: none.
-/
import Derived.Test.YtoaofjhadfihjaaGreatDoorW9bv
set_option linter.unusedVariables false
set_option linter.unusedSimpArgs false
set_option maxRecDepth 100000
set_option maxHeartbeats 16000000
namespace Go.Proofs.Pv
open Go Go.Proofs Go.ChangeShapes Go.WideShapes Go.ChangeAt Go.RowKit
open Go.Proofs.YtoaofjhadfihjaaGreatDoor
theorem cardb:Rows.EditBackCardSaid:=
 Claim7.holds_tied_plain_at .later [] [.data,.data,.data,.pinned] true (true, "2c9cf567b7df4f10b7d756a6dd90a32db22782fb5b466cd572c71b92b209f092") false rowb (fun _ h=>by cases h) (by kernel_rfl) (fun _ h=>by cases h) editBack_row_tie rfl ⟨rfl,rfl⟩ (by kernel_rfl) rfl
  (fun f fn hf hfn=>by
   obtain rfl:f=3:=Option.some.inj ((show Tryz.prog.funcNamed "partita/partitalaw09.EditBack" =some 3 by kernel_rfl).symm.trans hf)|>.symm
   obtain rfl:fn=Tryz.f3:=(Option.some.inj (Tryz.func3.symm.trans hfn)).symm
   exact⟨by kernel_rfl,fun j t ht=>by
    rw[Tryz.params3] at ht
    have hm:t∈[25,34]:=by simpa using Array.mem_of_getElem? ht
    have hall:([25,34].all fun u=>!Tryz.prog.wantsStandIn u)=true:=by kernel_rfl
    exact(show Tryz.prog.wantsStandIn t=false by simpa using List.all_eq_true.1 hall t hm)⟩)
  (by kernel_rfl)
end Go.Proofs.Pv
namespace Go.Proofs.YtoaofjhadfihjaaGreatDoor
theorem editBack_card:Rows.EditBackCardSaid:=Go.Proofs.Pv.cardb
#print axioms editBack_card
end Go.Proofs.YtoaofjhadfihjaaGreatDoor
