/-
  DERIVED. GIVEN WITH THE SEED: THE CARDS: each row of YtjcjhlnccglmkaaGreatDoorRows.lean that lists a variable, with what it lists TIED to the program's text (the seventh form; the later family's looks); each row that meets fmt, with fmt's text TOLD by the authors' own Lean function (tested against real Go, not proved from fmt's source: count such statements apart). THE CARD IS WHAT COUNTS. Prove the row's statement (the work); the ties are given (YtjcjhlnccglmkaaGreatDoorTie.lean); close each card by the builder's one call (the guide's Derived/Test/ToyasCard.lean, 'card_holds'). Laid BY PROGRAM, IN A SANDBOX (cutbox-door.mjs). By AI agents, Wed Nov 11 2026. No macro, syntax, notation, axiom, sorry.
-/
import Derived.Test.YtjcjhlnccglmkaaGreatDoorRows
import GoSem.ClaimSeven
namespace Go.Proofs.YtjcjhlnccglmkaaGreatDoor
namespace Rows

/-- THE TIED CARD OF 'partitalaw09.EditElse'. -/
def editElseCard : Claim7 := { stood := { row := editElseRow, standIns := [], harness := (true, "53fce5e27af8301d7f984885cb2985355c4742ac96e375fea4d3153ef1c24a4a"), looks := false }, kinds := [], alts := [], laidByText := true, laidKinds := [.data, .data, .data, .pinned], laidTests := true, laidLooks := .later }
def EditElseCardSaid : Prop := Claim7.holds Tryz.pinned (.plain (OpenSpec.ofChange editElseSpec)) editElseCard

/-- THE SECOND FORM's CARD OF 'partitalaw09.EditElse'. -/
def editElseUptoCard : Claim7 := { stood := { row := editElseUptoRow, standIns := [], harness := (true, "53fce5e27af8301d7f984885cb2985355c4742ac96e375fea4d3153ef1c24a4a"), looks := false }, kinds := [], alts := [], laidByText := true, laidKinds := [.data, .data, .data, .pinned], laidTests := true, laidLooks := .later }
def EditElseUptoCardSaid : Prop := Claim7.holds Tryz.pinned (.plain (OpenSpec.upto editElseSpec)) editElseUptoCard
end Rows
end Go.Proofs.YtjcjhlnccglmkaaGreatDoor
