/-
  DERIVED. GIVEN WITH THE SEED: THE CARDS: each row of YtlcnbhiklpfpjaaGreatDoorRows.lean that lists a variable, with what it lists TIED to the program's text (the seventh form; the later family's looks); each row that meets fmt, with fmt's text TOLD by the authors' own Lean function (tested against real Go, not proved from fmt's source: count such statements apart). THE CARD IS WHAT COUNTS. Prove the row's statement (the work); the ties are given (YtlcnbhiklpfpjaaGreatDoorTie.lean); close each card by the builder's one call (the guide's Derived/Test/ToyasCard.lean, 'card_holds'). Laid BY PROGRAM, IN A SANDBOX (cutbox-door.mjs). By AI agents, Wed Nov 11 2026. No macro, syntax, notation, axiom, sorry.
-/
import Derived.Test.YtlcnbhiklpfpjaaGreatDoorRows
import GoSem.ClaimSeven
namespace Go.Proofs.YtlcnbhiklpfpjaaGreatDoor
namespace Rows

/-- THE TIED CARD OF 'partitalaw09.EditRunBack'. -/
def editRunBackCard : Claim7 := { stood := { row := editRunBackRow, standIns := [], harness := (true, "9ce699839e3d13e6a26074e0d792af8e1af65c1807c839006cc38bc240f8f78b"), looks := false }, kinds := [], alts := [], laidByText := true, laidKinds := [.data, .data, .data, .pinned], laidTests := true, laidLooks := .later }
def EditRunBackCardSaid : Prop := Claim7.holds Tryz.pinned (.plain (OpenSpec.ofChange editRunBackSpec)) editRunBackCard

/-- THE SECOND FORM's CARD OF 'partitalaw09.EditRunBack'. -/
def editRunBackUptoCard : Claim7 := { stood := { row := editRunBackUptoRow, standIns := [], harness := (true, "9ce699839e3d13e6a26074e0d792af8e1af65c1807c839006cc38bc240f8f78b"), looks := false }, kinds := [], alts := [], laidByText := true, laidKinds := [.data, .data, .data, .pinned], laidTests := true, laidLooks := .later }
def EditRunBackUptoCardSaid : Prop := Claim7.holds Tryz.pinned (.plain (OpenSpec.upto editRunBackSpec)) editRunBackUptoCard
end Rows
end Go.Proofs.YtlcnbhiklpfpjaaGreatDoor
