/-
  DERIVED. GIVEN WITH THE SEED: THE CARDS: each row of YtoaofjhadfihjaaGreatDoorRows.lean that lists a variable, with what it lists TIED to the program's text (the seventh form; the later family's looks); each row that meets fmt, with fmt's text TOLD by the authors' own Lean function (tested against real Go, not proved from fmt's source: count such statements apart). THE CARD IS WHAT COUNTS. Prove the row's statement (the work); the ties are given (YtoaofjhadfihjaaGreatDoorTie.lean); close each card by the builder's one call (the guide's Derived/Test/ToyasCard.lean, 'card_holds'). Laid BY PROGRAM, IN A SANDBOX (cutbox-door.mjs). By AI agents, Wed Nov 11 2026. No macro, syntax, notation, axiom, sorry.
-/
import Derived.Test.YtoaofjhadfihjaaGreatDoorRows
import GoSem.ClaimSeven
namespace Go.Proofs.YtoaofjhadfihjaaGreatDoor
namespace Rows

/-- THE TIED CARD OF 'partitalaw09.EditBack'. -/
def editBackCard : Claim7 := { stood := { row := editBackRow, standIns := [], harness := (true, "2c9cf567b7df4f10b7d756a6dd90a32db22782fb5b466cd572c71b92b209f092"), looks := false }, kinds := [], alts := [], laidByText := true, laidKinds := [.data, .data, .data, .pinned], laidTests := true, laidLooks := .later }
def EditBackCardSaid : Prop := Claim7.holds Tryz.pinned (.plain (OpenSpec.ofChange editBackSpec)) editBackCard

/-- THE SECOND FORM's CARD OF 'partitalaw09.EditBack'. -/
def editBackUptoCard : Claim7 := { stood := { row := editBackUptoRow, standIns := [], harness := (true, "2c9cf567b7df4f10b7d756a6dd90a32db22782fb5b466cd572c71b92b209f092"), looks := false }, kinds := [], alts := [], laidByText := true, laidKinds := [.data, .data, .data, .pinned], laidTests := true, laidLooks := .later }
def EditBackUptoCardSaid : Prop := Claim7.holds Tryz.pinned (.plain (OpenSpec.upto editBackSpec)) editBackUptoCard
end Rows
end Go.Proofs.YtoaofjhadfihjaaGreatDoor
