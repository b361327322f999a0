/-
  Chapter 24: a part of the proof.
  Conditions: none.
-/
import Derived.Test.YtedfhdnpcnacmaaGreatDoorW24v
import Derived.Test.YtedfhdnpcnacmaaGreatDoorW24r
namespace Go.Proofs.Pv
set_option linter.unusedVariables false
set_option linter.unusedSimpArgs false
open Go Go.Proofs Go.ChangeShapes Go.WideShapes Go.ChangeAt Go.RowKit
open Go.Proofs.YtedfhdnpcnacmaaGreatDoor
theorem widths_row (law : WidthsLaw) : Rows.SpaceWidthsSaid :=
  OpenClaim.holds_of_wide 4 Tryz.f4 rfl rfl rfl rfl rfl rfl rfl ⟨rfl, rfl, rfl, rfl, rfl⟩ rfl rfl rfl rfl rfl rw_named Tryz.func4 rw_facts rw_inst rw_wrap
    (fun os started H enc _ => widths_lifted law os started H enc)
#print axioms widths_row
end Go.Proofs.Pv
