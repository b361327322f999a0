/-
  DERIVED. GIVEN WITH THE SEED: THE CARDS: each row of YtpapgaocjhnoiaaGreatDoorRows.lean that lists a variable, with what it lists TIED to the program's text (the seventh form; the later family's looks); each row that meets fmt, with fmt's text TOLD by the authors' own Lean function (tested against real Go, not proved from fmt's source: count such statements apart). THE CARD IS WHAT COUNTS. Prove the row's statement (the work); the ties are given (YtpapgaocjhnoiaaGreatDoorTie.lean); close each card by the builder's one call (the guide's Derived/Test/ToyasCard.lean, 'card_holds'). Laid BY PROGRAM, IN A SANDBOX (cutbox-door.mjs). By AI agents, Wed Nov 11 2026. No macro, syntax, notation, axiom, sorry.
-/
import Derived.Test.YtpapgaocjhnoiaaGreatDoorRows
import GoSem.ClaimSeven
namespace Go.Proofs.YtpapgaocjhnoiaaGreatDoor
namespace Rows

/-- THE TIED CARD OF 'partitalaw09.EditRight'. -/
def editRightCard : Claim7 := { stood := { row := editRightRow, standIns := [], harness := (true, "741981a013d24c8adc99cf976ec57819772c2c0fc7ba9d20014d9377118c11df"), looks := false }, kinds := [], alts := [], laidByText := true, laidKinds := [.data, .data, .data, .pinned], laidTests := true, laidLooks := .later }
def EditRightCardSaid : Prop := Claim7.holds Tryz.pinned (.plain (OpenSpec.ofChange editRightSpec)) editRightCard

/-- THE SECOND FORM's CARD OF 'partitalaw09.EditRight'. -/
def editRightUptoCard : Claim7 := { stood := { row := editRightUptoRow, standIns := [], harness := (true, "741981a013d24c8adc99cf976ec57819772c2c0fc7ba9d20014d9377118c11df"), looks := false }, kinds := [], alts := [], laidByText := true, laidKinds := [.data, .data, .data, .pinned], laidTests := true, laidLooks := .later }
def EditRightUptoCardSaid : Prop := Claim7.holds Tryz.pinned (.plain (OpenSpec.upto editRightSpec)) editRightUptoCard
end Rows
end Go.Proofs.YtpapgaocjhnoiaaGreatDoor
