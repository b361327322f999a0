/-
  Chapter 9's law EditRunBack: it answers true for all arguments: the tied card.
  Conditions: none.
-/
import Derived.Test.YtlcnbhiklpfpjaaGreatDoorW9nv
set_option linter.unusedVariables false
set_option linter.unusedSimpArgs false
set_option maxRecDepth 100000
set_option maxHeartbeats 16000000
namespace Go.Proofs.Pv
open Go Go.Proofs Go.ChangeShapes Go.WideShapes Go.ChangeAt Go.RowKit
open Go.Proofs.YtlcnbhiklpfpjaaGreatDoor
theorem cardn:Rows.EditRunBackCardSaid:=
 Claim7.holds_tied_plain_at .later [] [.data,.data,.data,.pinned] true (true, "9ce699839e3d13e6a26074e0d792af8e1af65c1807c839006cc38bc240f8f78b") false rown (fun _ h=>by cases h) (by kernel_rfl) (fun _ h=>by cases h) editRunBack_row_tie rfl ⟨rfl,rfl⟩ (by kernel_rfl) rfl
  (fun f fn hf hfn=>by
   obtain rfl:f=3:=Option.some.inj ((show Tryz.prog.funcNamed "partita/partitalaw09.EditRunBack" =some 3 by kernel_rfl).symm.trans hf)|>.symm
   obtain rfl:fn=Tryz.f3:=(Option.some.inj (Tryz.func3.symm.trans hfn)).symm
   exact⟨by kernel_rfl,fun j t ht=>by
    rw[Tryz.params3] at ht
    have hm:t∈[25,26]:=by simpa using Array.mem_of_getElem? ht
    have hall:([25,26].all fun u=>!Tryz.prog.wantsStandIn u)=true:=by kernel_rfl
    exact(show Tryz.prog.wantsStandIn t=false by simpa using List.all_eq_true.1 hall t hm)⟩)
  (by kernel_rfl)
end Go.Proofs.Pv
namespace Go.Proofs.YtlcnbhiklpfpjaaGreatDoor
theorem editRunBack_card:Rows.EditRunBackCardSaid:=Go.Proofs.Pv.cardn
#print axioms editRunBack_card
end Go.Proofs.YtlcnbhiklpfpjaaGreatDoor
