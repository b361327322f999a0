/-
  DERIVED. GIVEN WITH THE SEED: THE CARDS: each row of YtiikpmhjckdpgaaGreatDoorRows.lean that lists a variable, with what it lists TIED to the program's text (the seventh form; the later family's looks); each row that meets fmt, with fmt's text TOLD by the authors' own Lean function (tested against real Go, not proved from fmt's source: count such statements apart). THE CARD IS WHAT COUNTS. Prove the row's statement (the work); the ties are given (YtiikpmhjckdpgaaGreatDoorTie.lean); close each card by the builder's one call (the guide's Derived/Test/ToyasCard.lean, 'card_holds'). Laid BY PROGRAM, IN A SANDBOX (cutbox-door.mjs). By AI agents, Wed Nov 11 2026. No macro, syntax, notation, axiom, sorry.
-/
import Derived.Test.YtiikpmhjckdpgaaGreatDoorRows
import GoSem.ClaimSeven
namespace Go.Proofs.YtiikpmhjckdpgaaGreatDoor
namespace Rows

/-- THE TIED CARD OF 'partitalaw09.EditBars'. -/
def editBarsCard : Claim7 := { stood := { row := editBarsRow, standIns := [], harness := (true, "a528b1e61a3ad29d281f02edbbe5eae176b2425ef620c13acbc2c237119e638d"), looks := false }, kinds := [], alts := [], laidByText := true, laidKinds := [.data, .data, .data, .pinned], laidTests := true, laidLooks := .later }
def EditBarsCardSaid : Prop := Claim7.holds Tryz.pinned (.plain (OpenSpec.ofChange editBarsSpec)) editBarsCard

/-- THE SECOND FORM's CARD OF 'partitalaw09.EditBars'. -/
def editBarsUptoCard : Claim7 := { stood := { row := editBarsUptoRow, standIns := [], harness := (true, "a528b1e61a3ad29d281f02edbbe5eae176b2425ef620c13acbc2c237119e638d"), looks := false }, kinds := [], alts := [], laidByText := true, laidKinds := [.data, .data, .data, .pinned], laidTests := true, laidLooks := .later }
def EditBarsUptoCardSaid : Prop := Claim7.holds Tryz.pinned (.plain (OpenSpec.upto editBarsSpec)) editBarsUptoCard
end Rows
end Go.Proofs.YtiikpmhjckdpgaaGreatDoor
