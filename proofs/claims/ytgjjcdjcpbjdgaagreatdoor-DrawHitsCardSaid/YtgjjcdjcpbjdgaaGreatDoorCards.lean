/-
  DERIVED. GIVEN WITH THE SEED: THE CARDS: each row of YtgjjcdjcpbjdgaaGreatDoorRows.lean that lists a variable, with what it lists TIED to the program's text (the seventh form; the later family's looks); each row that meets fmt, with fmt's text TOLD by the authors' own Lean function (tested against real Go, not proved from fmt's source: count such statements apart). THE CARD IS WHAT COUNTS. Prove the row's statement (the work); the ties are given (YtgjjcdjcpbjdgaaGreatDoorTie.lean); close each card by the builder's one call (the guide's Derived/Test/ToyasCard.lean, 'card_holds'). Laid BY PROGRAM, IN A SANDBOX (cutbox-door.mjs). By AI agents, Wed Nov 11 2026. No macro, syntax, notation, axiom, sorry.
-/
import Derived.Test.YtgjjcdjcpbjdgaaGreatDoorRows
import GoSem.ClaimSeven
namespace Go.Proofs.YtgjjcdjcpbjdgaaGreatDoor
namespace Rows

/-- THE TIED CARD OF 'partitalaw27.DrawHits'. -/
def drawHitsCard : Claim7 := { stood := { row := drawHitsRow, standIns := [], harness := (true, "3cff9c15f47d5cd520fbc1b53dc807883c159078a758fc7d6805ebd969096b63"), looks := true }, kinds := [], alts := [], laidByText := true, laidKinds := [.data, .handle, .sentinel, .sentinel, .data, .data, .pinned], laidTests := true, laidLooks := .later }
def DrawHitsCardSaid : Prop := Claim7.holds Tryz.pinned (.plain (OpenSpec.ofChange drawHitsSpec)) drawHitsCard

/-- THE SECOND FORM's CARD OF 'partitalaw27.DrawHits'. -/
def drawHitsUptoCard : Claim7 := { stood := { row := drawHitsUptoRow, standIns := [], harness := (true, "3cff9c15f47d5cd520fbc1b53dc807883c159078a758fc7d6805ebd969096b63"), looks := true }, kinds := [], alts := [], laidByText := true, laidKinds := [.data, .handle, .sentinel, .sentinel, .data, .data, .pinned], laidTests := true, laidLooks := .later }
def DrawHitsUptoCardSaid : Prop := Claim7.holds Tryz.pinned (.plain (OpenSpec.upto drawHitsSpec)) drawHitsUptoCard
end Rows
end Go.Proofs.YtgjjcdjcpbjdgaaGreatDoor
