/-
  Chapter 24's law SpaceWidths answers true for all columns: the tied card.
  Conditions: those that the given statement says.
-/
import Derived.Test.YtedfhdnpcnacmaaGreatDoorW24y
import Derived.Test.YtedfhdnpcnacmaaGreatDoorO24p
namespace Go.Proofs.YtedfhdnpcnacmaaGreatDoor
theorem spaceWidths_card : Rows.SpaceWidthsCardSaid := Go.Proofs.Pv.widths_card Go.Proofs.Pv.widths_law
#print axioms spaceWidths_card
end Go.Proofs.YtedfhdnpcnacmaaGreatDoor
