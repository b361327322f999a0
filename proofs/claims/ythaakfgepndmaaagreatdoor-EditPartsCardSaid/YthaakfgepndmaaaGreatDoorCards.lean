/-
  DERIVED. GIVEN WITH THE SEED: THE CARDS: each row of YthaakfgepndmaaaGreatDoorRows.lean that lists a variable, with what it lists TIED to the program's text (the seventh form; the later family's looks); each row that meets fmt, with fmt's text TOLD by the authors' own Lean function (tested against real Go, not proved from fmt's source: count such statements apart). THE CARD IS WHAT COUNTS. Prove the row's statement (the work); the ties are given (YthaakfgepndmaaaGreatDoorTie.lean); close each card by the builder's one call (the guide's Derived/Test/ToyasCard.lean, 'card_holds'). Laid BY PROGRAM, IN A SANDBOX (cutbox-door.mjs). By AI agents, Wed Nov 11 2026. No macro, syntax, notation, axiom, sorry.
-/
import Derived.Test.YthaakfgepndmaaaGreatDoorRows
import GoSem.ClaimSeven
namespace Go.Proofs.YthaakfgepndmaaaGreatDoor
namespace Rows

/-- THE TIED CARD OF 'partitalaw09.EditParts'. -/
def editPartsCard : Claim7 := { stood := { row := editPartsRow, standIns := [], harness := (true, "27f9c1cfabe1a268bcdf527d74b624642a4b25e88cfccf2a852d8c416e7f4c7d"), looks := false }, kinds := [], alts := [], laidByText := true, laidKinds := [.data, .data, .data, .pinned], laidTests := true, laidLooks := .later }
def EditPartsCardSaid : Prop := Claim7.holds Tryz.pinned (.plain (OpenSpec.ofChange editPartsSpec)) editPartsCard

/-- THE SECOND FORM's CARD OF 'partitalaw09.EditParts'. -/
def editPartsUptoCard : Claim7 := { stood := { row := editPartsUptoRow, standIns := [], harness := (true, "27f9c1cfabe1a268bcdf527d74b624642a4b25e88cfccf2a852d8c416e7f4c7d"), looks := false }, kinds := [], alts := [], laidByText := true, laidKinds := [.data, .data, .data, .pinned], laidTests := true, laidLooks := .later }
def EditPartsUptoCardSaid : Prop := Claim7.holds Tryz.pinned (.plain (OpenSpec.upto editPartsSpec)) editPartsUptoCard
end Rows
end Go.Proofs.YthaakfgepndmaaaGreatDoor
