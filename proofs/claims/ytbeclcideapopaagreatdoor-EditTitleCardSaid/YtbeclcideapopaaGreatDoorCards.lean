/-
  DERIVED. GIVEN WITH THE SEED: THE CARDS: each row of YtbeclcideapopaaGreatDoorRows.lean that lists a variable, with what it lists TIED to the program's text (the seventh form; the later family's looks); each row that meets fmt, with fmt's text TOLD by the authors' own Lean function (tested against real Go, not proved from fmt's source: count such statements apart). THE CARD IS WHAT COUNTS. Prove the row's statement (the work); the ties are given (YtbeclcideapopaaGreatDoorTie.lean); close each card by the builder's one call (the guide's Derived/Test/ToyasCard.lean, 'card_holds'). Laid BY PROGRAM, IN A SANDBOX (cutbox-door.mjs). By AI agents, Wed Nov 11 2026. No macro, syntax, notation, axiom, sorry.
-/
import Derived.Test.YtbeclcideapopaaGreatDoorRows
import GoSem.ClaimSeven
namespace Go.Proofs.YtbeclcideapopaaGreatDoor
namespace Rows

/-- THE TIED CARD OF 'partitalaw09.EditTitle'. -/
def editTitleCard : Claim7 := { stood := { row := editTitleRow, standIns := [], harness := (true, "bf40271b3b25fafda845b4c4da7256f98d05591502fe75864628d5ce2a35e7a6"), looks := false }, kinds := [], alts := [], laidByText := true, laidKinds := [.data, .data, .data, .pinned], laidTests := true, laidLooks := .later }
def EditTitleCardSaid : Prop := Claim7.holds Tryz.pinned (.plain (OpenSpec.ofChange editTitleSpec)) editTitleCard

/-- THE SECOND FORM's CARD OF 'partitalaw09.EditTitle'. -/
def editTitleUptoCard : Claim7 := { stood := { row := editTitleUptoRow, standIns := [], harness := (true, "bf40271b3b25fafda845b4c4da7256f98d05591502fe75864628d5ce2a35e7a6"), looks := false }, kinds := [], alts := [], laidByText := true, laidKinds := [.data, .data, .data, .pinned], laidTests := true, laidLooks := .later }
def EditTitleUptoCardSaid : Prop := Claim7.holds Tryz.pinned (.plain (OpenSpec.upto editTitleSpec)) editTitleUptoCard
end Rows
end Go.Proofs.YtbeclcideapopaaGreatDoor
