/-
  Chapter 9's law EditRight: it answers true for all arguments: the tied card.
  Conditions: none.
-/
import Derived.Test.YtpapgaocjhnoiaaGreatDoorW9av
set_option linter.unusedVariables false
set_option linter.unusedSimpArgs false
namespace Go.Proofs.Pv
open Go Go.Proofs Go.ChangeShapes Go.WideShapes Go.ChangeAt Go.RowKit
open Go.Proofs.YtpapgaocjhnoiaaGreatDoor
theorem carda:Rows.EditRightCardSaid:=
 Claim7.holds_tied_plain_at .later [] [.data,.data,.data,.pinned] true (true, "741981a013d24c8adc99cf976ec57819772c2c0fc7ba9d20014d9377118c11df") false rowa (fun _ h=>by cases h) (by kernel_rfl) (fun _ h=>by cases h) editRight_row_tie rfl ⟨rfl,rfl⟩ (by kernel_rfl) rfl
  (fun f fn hf hfn=>by
   obtain rfl:f=3:=Option.some.inj ((show Tryz.prog.funcNamed "partita/partitalaw09.EditRight" =some 3 by kernel_rfl).symm.trans hf)|>.symm
   obtain rfl:fn=Tryz.f3:=(Option.some.inj (Tryz.func3.symm.trans hfn)).symm
   exact⟨by kernel_rfl,fun j t ht=>by
    rw[Tryz.params3] at ht
    have hm:t∈[25,34]:=by simpa using Array.mem_of_getElem? ht
    have hall:([25,34].all fun u=>!Tryz.prog.wantsStandIn u)=true:=by kernel_rfl
    exact(show Tryz.prog.wantsStandIn t=false by simpa using List.all_eq_true.1 hall t hm)⟩)
  (by kernel_rfl)
end Go.Proofs.Pv
namespace Go.Proofs.YtpapgaocjhnoiaaGreatDoor
theorem editRight_card:Rows.EditRightCardSaid:=Go.Proofs.Pv.carda
#print axioms editRight_card
end Go.Proofs.YtpapgaocjhnoiaaGreatDoor
