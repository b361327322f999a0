/-
  DERIVED. GIVEN WITH THE SEED: THE CARDS: each row of YtedfhdnpcnacmaaGreatDoorRows.lean that lists a variable, with what it lists TIED to the program's text (the seventh form; the later family's looks); each row that meets fmt, with fmt's text TOLD by the authors' own Lean function (tested against real Go, not proved from fmt's source: count such statements apart). THE CARD IS WHAT COUNTS. Prove the row's statement (the work); the ties are given (YtedfhdnpcnacmaaGreatDoorTie.lean); close each card by the builder's one call (the guide's Derived/Test/ToyasCard.lean, 'card_holds'). Laid BY PROGRAM, IN A SANDBOX (cutbox-door.mjs). By AI agents, Wed Nov 11 2026. No macro, syntax, notation, axiom, sorry.
-/
import Derived.Test.YtedfhdnpcnacmaaGreatDoorRows
import GoSem.ClaimSeven
namespace Go.Proofs.YtedfhdnpcnacmaaGreatDoor
namespace Rows

/-- THE TIED CARD OF 'partitalaw24.SpaceColumns'. -/
def spaceColumnsCard : Claim7 := { stood := { row := spaceColumnsRow, standIns := [], harness := (true, "34629c36d7cdbe9ab007c7298200a3e9c2bf1477cafff73a61b3e79aa8177082"), looks := false }, kinds := [], alts := [], laidByText := true, laidKinds := [.data, .data, .data, .pinned], laidTests := true, laidLooks := .later }
def SpaceColumnsCardSaid : Prop := Claim7.holds Tryz.pinned (.plain (OpenSpec.ofChange spaceColumnsSpec)) spaceColumnsCard

/-- THE TIED CARD OF 'partitalaw24.SpaceWidths'. -/
def spaceWidthsCard : Claim7 := { stood := { row := spaceWidthsRow, standIns := [], harness := (true, "34629c36d7cdbe9ab007c7298200a3e9c2bf1477cafff73a61b3e79aa8177082"), looks := false }, kinds := [], alts := [], laidByText := true, laidKinds := [.data, .data, .data, .pinned], laidTests := true, laidLooks := .later }
def SpaceWidthsCardSaid : Prop := Claim7.holds Tryz.pinned (.plain (OpenSpec.ofChange spaceWidthsSpec)) spaceWidthsCard

/-- THE TIED CARD OF 'partitalaw24.SpaceSpreads'. -/
def spaceSpreadsCard : Claim7 := { stood := { row := spaceSpreadsRow, standIns := [], harness := (true, "34629c36d7cdbe9ab007c7298200a3e9c2bf1477cafff73a61b3e79aa8177082"), looks := false }, kinds := [], alts := [], laidByText := true, laidKinds := [.data, .data, .data, .pinned], laidTests := true, laidLooks := .later }
def SpaceSpreadsCardSaid : Prop := Claim7.holds Tryz.pinned (.plain (OpenSpec.ofChange spaceSpreadsSpec)) spaceSpreadsCard

/-- THE TIED CARD OF 'partitalaw24.SpaceStands'. -/
def spaceStandsCard : Claim7 := { stood := { row := spaceStandsRow, standIns := [], harness := (true, "34629c36d7cdbe9ab007c7298200a3e9c2bf1477cafff73a61b3e79aa8177082"), looks := false }, kinds := [], alts := [], laidByText := true, laidKinds := [.data, .data, .data, .pinned], laidTests := true, laidLooks := .later }
def SpaceStandsCardSaid : Prop := Claim7.holds Tryz.pinned (.plain (OpenSpec.ofChange spaceStandsSpec)) spaceStandsCard

/-- THE TIED CARD OF 'partitalaw24.SpaceWider'. -/
def spaceWiderCard : Claim7 := { stood := { row := spaceWiderRow, standIns := [], harness := (true, "34629c36d7cdbe9ab007c7298200a3e9c2bf1477cafff73a61b3e79aa8177082"), looks := false }, kinds := [], alts := [], laidByText := true, laidKinds := [.data, .data, .data, .pinned], laidTests := true, laidLooks := .later }
def SpaceWiderCardSaid : Prop := Claim7.holds Tryz.pinned (.plain (OpenSpec.ofChange spaceWiderSpec)) spaceWiderCard

/-- THE TIED CARD OF 'partitalaw24.SpaceEach'. -/
def spaceEachCard : Claim7 := { stood := { row := spaceEachRow, standIns := [], harness := (true, "34629c36d7cdbe9ab007c7298200a3e9c2bf1477cafff73a61b3e79aa8177082"), looks := false }, kinds := [], alts := [], laidByText := true, laidKinds := [.data, .data, .data, .pinned], laidTests := true, laidLooks := .later }
def SpaceEachCardSaid : Prop := Claim7.holds Tryz.pinned (.plain (OpenSpec.ofChange spaceEachSpec)) spaceEachCard

/-- THE TIED CARD OF 'partitalaw24.SpaceApart'. -/
def spaceApartCard : Claim7 := { stood := { row := spaceApartRow, standIns := [], harness := (true, "34629c36d7cdbe9ab007c7298200a3e9c2bf1477cafff73a61b3e79aa8177082"), looks := false }, kinds := [], alts := [], laidByText := true, laidKinds := [.data, .data, .data, .pinned], laidTests := true, laidLooks := .later }
def SpaceApartCardSaid : Prop := Claim7.holds Tryz.pinned (.plain (OpenSpec.ofChange spaceApartSpec)) spaceApartCard

/-- THE TIED CARD OF 'partitalaw24.SpaceParts'. -/
def spacePartsCard : Claim7 := { stood := { row := spacePartsRow, standIns := [], harness := (true, "34629c36d7cdbe9ab007c7298200a3e9c2bf1477cafff73a61b3e79aa8177082"), looks := false }, kinds := [], alts := [], laidByText := true, laidKinds := [.data, .data, .data, .pinned], laidTests := true, laidLooks := .later }
def SpacePartsCardSaid : Prop := Claim7.holds Tryz.pinned (.plain (OpenSpec.ofChange spacePartsSpec)) spacePartsCard

/-- THE TIED CARD OF 'partitalaw24.SpaceBar'. -/
def spaceBarCard : Claim7 := { stood := { row := spaceBarRow, standIns := [], harness := (true, "34629c36d7cdbe9ab007c7298200a3e9c2bf1477cafff73a61b3e79aa8177082"), looks := false }, kinds := [], alts := [], laidByText := true, laidKinds := [.data, .data, .data, .pinned], laidTests := true, laidLooks := .later }
def SpaceBarCardSaid : Prop := Claim7.holds Tryz.pinned (.plain (OpenSpec.ofChange spaceBarSpec)) spaceBarCard

/-- THE TIED CARD OF 'partitalaw24.SpaceMeter'. -/
def spaceMeterCard : Claim7 := { stood := { row := spaceMeterRow, standIns := [], harness := (true, "34629c36d7cdbe9ab007c7298200a3e9c2bf1477cafff73a61b3e79aa8177082"), looks := false }, kinds := [], alts := [], laidByText := true, laidKinds := [.data, .data, .data, .pinned], laidTests := true, laidLooks := .later }
def SpaceMeterCardSaid : Prop := Claim7.holds Tryz.pinned (.plain (OpenSpec.ofChange spaceMeterSpec)) spaceMeterCard

/-- THE TIED CARD OF 'partitalaw24.SpaceOctave'. -/
def spaceOctaveCard : Claim7 := { stood := { row := spaceOctaveRow, standIns := [], harness := (true, "34629c36d7cdbe9ab007c7298200a3e9c2bf1477cafff73a61b3e79aa8177082"), looks := false }, kinds := [], alts := [], laidByText := true, laidKinds := [.data, .data, .data, .pinned], laidTests := true, laidLooks := .later }
def SpaceOctaveCardSaid : Prop := Claim7.holds Tryz.pinned (.plain (OpenSpec.ofChange spaceOctaveSpec)) spaceOctaveCard

/-- THE SECOND FORM's CARD OF 'partitalaw24.SpaceColumns'. -/
def spaceColumnsUptoCard : Claim7 := { stood := { row := spaceColumnsUptoRow, standIns := [], harness := (true, "34629c36d7cdbe9ab007c7298200a3e9c2bf1477cafff73a61b3e79aa8177082"), looks := false }, kinds := [], alts := [], laidByText := true, laidKinds := [.data, .data, .data, .pinned], laidTests := true, laidLooks := .later }
def SpaceColumnsUptoCardSaid : Prop := Claim7.holds Tryz.pinned (.plain (OpenSpec.upto spaceColumnsSpec)) spaceColumnsUptoCard

/-- THE SECOND FORM's CARD OF 'partitalaw24.SpaceWidths'. -/
def spaceWidthsUptoCard : Claim7 := { stood := { row := spaceWidthsUptoRow, standIns := [], harness := (true, "34629c36d7cdbe9ab007c7298200a3e9c2bf1477cafff73a61b3e79aa8177082"), looks := false }, kinds := [], alts := [], laidByText := true, laidKinds := [.data, .data, .data, .pinned], laidTests := true, laidLooks := .later }
def SpaceWidthsUptoCardSaid : Prop := Claim7.holds Tryz.pinned (.plain (OpenSpec.upto spaceWidthsSpec)) spaceWidthsUptoCard

/-- THE SECOND FORM's CARD OF 'partitalaw24.SpaceSpreads'. -/
def spaceSpreadsUptoCard : Claim7 := { stood := { row := spaceSpreadsUptoRow, standIns := [], harness := (true, "34629c36d7cdbe9ab007c7298200a3e9c2bf1477cafff73a61b3e79aa8177082"), looks := false }, kinds := [], alts := [], laidByText := true, laidKinds := [.data, .data, .data, .pinned], laidTests := true, laidLooks := .later }
def SpaceSpreadsUptoCardSaid : Prop := Claim7.holds Tryz.pinned (.plain (OpenSpec.upto spaceSpreadsSpec)) spaceSpreadsUptoCard

/-- THE SECOND FORM's CARD OF 'partitalaw24.SpaceStands'. -/
def spaceStandsUptoCard : Claim7 := { stood := { row := spaceStandsUptoRow, standIns := [], harness := (true, "34629c36d7cdbe9ab007c7298200a3e9c2bf1477cafff73a61b3e79aa8177082"), looks := false }, kinds := [], alts := [], laidByText := true, laidKinds := [.data, .data, .data, .pinned], laidTests := true, laidLooks := .later }
def SpaceStandsUptoCardSaid : Prop := Claim7.holds Tryz.pinned (.plain (OpenSpec.upto spaceStandsSpec)) spaceStandsUptoCard

/-- THE SECOND FORM's CARD OF 'partitalaw24.SpaceWider'. -/
def spaceWiderUptoCard : Claim7 := { stood := { row := spaceWiderUptoRow, standIns := [], harness := (true, "34629c36d7cdbe9ab007c7298200a3e9c2bf1477cafff73a61b3e79aa8177082"), looks := false }, kinds := [], alts := [], laidByText := true, laidKinds := [.data, .data, .data, .pinned], laidTests := true, laidLooks := .later }
def SpaceWiderUptoCardSaid : Prop := Claim7.holds Tryz.pinned (.plain (OpenSpec.upto spaceWiderSpec)) spaceWiderUptoCard

/-- THE SECOND FORM's CARD OF 'partitalaw24.SpaceEach'. -/
def spaceEachUptoCard : Claim7 := { stood := { row := spaceEachUptoRow, standIns := [], harness := (true, "34629c36d7cdbe9ab007c7298200a3e9c2bf1477cafff73a61b3e79aa8177082"), looks := false }, kinds := [], alts := [], laidByText := true, laidKinds := [.data, .data, .data, .pinned], laidTests := true, laidLooks := .later }
def SpaceEachUptoCardSaid : Prop := Claim7.holds Tryz.pinned (.plain (OpenSpec.upto spaceEachSpec)) spaceEachUptoCard

/-- THE SECOND FORM's CARD OF 'partitalaw24.SpaceApart'. -/
def spaceApartUptoCard : Claim7 := { stood := { row := spaceApartUptoRow, standIns := [], harness := (true, "34629c36d7cdbe9ab007c7298200a3e9c2bf1477cafff73a61b3e79aa8177082"), looks := false }, kinds := [], alts := [], laidByText := true, laidKinds := [.data, .data, .data, .pinned], laidTests := true, laidLooks := .later }
def SpaceApartUptoCardSaid : Prop := Claim7.holds Tryz.pinned (.plain (OpenSpec.upto spaceApartSpec)) spaceApartUptoCard

/-- THE SECOND FORM's CARD OF 'partitalaw24.SpaceParts'. -/
def spacePartsUptoCard : Claim7 := { stood := { row := spacePartsUptoRow, standIns := [], harness := (true, "34629c36d7cdbe9ab007c7298200a3e9c2bf1477cafff73a61b3e79aa8177082"), looks := false }, kinds := [], alts := [], laidByText := true, laidKinds := [.data, .data, .data, .pinned], laidTests := true, laidLooks := .later }
def SpacePartsUptoCardSaid : Prop := Claim7.holds Tryz.pinned (.plain (OpenSpec.upto spacePartsSpec)) spacePartsUptoCard

/-- THE SECOND FORM's CARD OF 'partitalaw24.SpaceBar'. -/
def spaceBarUptoCard : Claim7 := { stood := { row := spaceBarUptoRow, standIns := [], harness := (true, "34629c36d7cdbe9ab007c7298200a3e9c2bf1477cafff73a61b3e79aa8177082"), looks := false }, kinds := [], alts := [], laidByText := true, laidKinds := [.data, .data, .data, .pinned], laidTests := true, laidLooks := .later }
def SpaceBarUptoCardSaid : Prop := Claim7.holds Tryz.pinned (.plain (OpenSpec.upto spaceBarSpec)) spaceBarUptoCard

/-- THE SECOND FORM's CARD OF 'partitalaw24.SpaceMeter'. -/
def spaceMeterUptoCard : Claim7 := { stood := { row := spaceMeterUptoRow, standIns := [], harness := (true, "34629c36d7cdbe9ab007c7298200a3e9c2bf1477cafff73a61b3e79aa8177082"), looks := false }, kinds := [], alts := [], laidByText := true, laidKinds := [.data, .data, .data, .pinned], laidTests := true, laidLooks := .later }
def SpaceMeterUptoCardSaid : Prop := Claim7.holds Tryz.pinned (.plain (OpenSpec.upto spaceMeterSpec)) spaceMeterUptoCard

/-- THE SECOND FORM's CARD OF 'partitalaw24.SpaceOctave'. -/
def spaceOctaveUptoCard : Claim7 := { stood := { row := spaceOctaveUptoRow, standIns := [], harness := (true, "34629c36d7cdbe9ab007c7298200a3e9c2bf1477cafff73a61b3e79aa8177082"), looks := false }, kinds := [], alts := [], laidByText := true, laidKinds := [.data, .data, .data, .pinned], laidTests := true, laidLooks := .later }
def SpaceOctaveUptoCardSaid : Prop := Claim7.holds Tryz.pinned (.plain (OpenSpec.upto spaceOctaveSpec)) spaceOctaveUptoCard
end Rows
end Go.Proofs.YtedfhdnpcnacmaaGreatDoor
