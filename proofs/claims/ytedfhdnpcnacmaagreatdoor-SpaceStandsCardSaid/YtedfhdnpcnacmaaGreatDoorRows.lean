/-
  NARROWER THAN 'FOR EVERY INPUT', by the rows' own cells (each row's printed sentence says how): SpaceColumns: laid · SpaceWidths: laid · SpaceSpreads: laid · SpaceStands: laid · SpaceWider: laid · SpaceEach: laid · SpaceApart: laid · SpaceParts: laid · SpaceBar: laid · SpaceMeter: laid · SpaceOctave: laid.
  DERIVED. THE GIVEN ROWS OF THIS SEAT. 11 by the template 'for every input the law returns true; each argument reads behind the call as it read before'; 0 by the template 'total and deterministic' (their statements: YtedfhdnpcnacmaaGreatDoorTotals.lean).
  GIVEN WITH THE SEED: the statements are not yours to turn. If you find one false, say at which input.
  Laid BY PROGRAM, IN A SANDBOX (cutbox-rows.mjs): the forced cells as the released guide's own fill.sh prints them over the translation 48f93bf4ac1516ad… (all of the seat's roots in one cut). By AI agents, Wed Nov 11 2026. No macro, syntax, notation, axiom, sorry.
-/
import Derived.Test.YtedfhdnpcnacmaaGreatDoorChecked
import GoSem.PinnedTables
import GoSem.Claim
import GoSem.ClaimJoined
import GoSem.ClaimMapViews
import Derived.JoinedTies
import Derived.KernelRfl
namespace Go.Proofs.YtedfhdnpcnacmaaGreatDoor
/- THE CELL 'sum', in the pinned program and in every row, IS THE sha256 OF THE DUMP (.gsa) THAT YtedfhdnpcnacmaaGreatDoorProg.lean LOADS. Nothing in Lean hashes anything: it is a label: what it is worth is what the hold of that sum in a sandbox is worth. -/
noncomputable def Tryz.pinned : Pinned := { name := "ytedfhdnpcnacmaagreatdoor", sum := "48f93bf4ac1516ade8bc9121f7d3d9aff4846615a1cd843e9ca7f37baaf4ba72", checked := Tryz.checked }
namespace Rows
def none {H : Type} : Left H := { results := [], args := [] }

/- WHAT THE LISTED PACKAGE-LEVEL VARIABLES READ AS WHEN THE CALL BEGINS. Each datum BY PROGRAM (the guide's laid-datum.mjs) off the statement by which the dump's own 'gosem.cut.vars' lays the variable. In a bare row this is a premise. The card (YtedfhdnpcnacmaaGreatDoorCards.lean) ties it to the program's text. -/
def laid_unicode_utf8_acceptRanges {H : Type} : DataW H := .agg [.agg [.lit (.int .u8 128), .lit (.int .u8 191)], .agg [.lit (.int .u8 160), .lit (.int .u8 191)], .agg [.lit (.int .u8 128), .lit (.int .u8 159)], .agg [.lit (.int .u8 144), .lit (.int .u8 191)], .agg [.lit (.int .u8 128), .lit (.int .u8 143)], .agg [.lit (.int .u8 0), .lit (.int .u8 0)], .agg [.lit (.int .u8 0), .lit (.int .u8 0)], .agg [.lit (.int .u8 0), .lit (.int .u8 0)], .agg [.lit (.int .u8 0), .lit (.int .u8 0)], .agg [.lit (.int .u8 0), .lit (.int .u8 0)], .agg [.lit (.int .u8 0), .lit (.int .u8 0)], .agg [.lit (.int .u8 0), .lit (.int .u8 0)], .agg [.lit (.int .u8 0), .lit (.int .u8 0)], .agg [.lit (.int .u8 0), .lit (.int .u8 0)], .agg [.lit (.int .u8 0), .lit (.int .u8 0)], .agg [.lit (.int .u8 0), .lit (.int .u8 0)]]
def laid_partita_pitch_halfTones {H : Type} : DataW H := .agg [.lit (.int .i64 0), .lit (.int .i64 2), .lit (.int .i64 4), .lit (.int .i64 5), .lit (.int .i64 7), .lit (.int .i64 9), .lit (.int .i64 11)]
def laid_partita_value_dotted {H : Type} : DataW H := .agg [.agg [.lit (.int .i64 1), .lit (.int .i64 1)], .agg [.lit (.int .i64 3), .lit (.int .i64 2)], .agg [.lit (.int .i64 7), .lit (.int .i64 4)]]
/-- One of Go's own tables, pinned by name: the form's constant. -/
def laid_unicode_utf8_first : DataW Unit := Go.Pinned.utf8First

/-- 'partitalaw24.SpaceColumns': WHATEVER THE INPUT: true; the input reads as it did. -/
def spaceColumnsSpec : ChangeSpec := { name := "spaceColumns", fn := fun _ => fun
  | [d1, d2] => { results := [.lit (.bool true)], args := [d1, d2] }
  | _ => none }
def spaceColumnsRow : OpenClaim := { program := "ytedfhdnpcnacmaagreatdoor", sum := "48f93bf4ac1516ade8bc9121f7d3d9aff4846615a1cd843e9ca7f37baaf4ba72", func := "partita/partitalaw24.SpaceColumns", spec := "spaceColumns", unfollowed := true, recurses := true, named := ["unicode/utf8.first", "unicode/utf8.acceptRanges", "partita/pitch.halfTones", "partita/value.dotted"], plainKeys := false, apart := false, laid := [("unicode/utf8.acceptRanges", laid_unicode_utf8_acceptRanges), ("partita/pitch.halfTones", laid_partita_pitch_halfTones), ("partita/value.dotted", laid_partita_value_dotted), ("unicode/utf8.first", laid_unicode_utf8_first)] }
def SpaceColumnsSaid : Prop := spaceColumnsRow.holds Tryz.pinned (OpenSpec.ofChange spaceColumnsSpec)

/-- ITS FALSE NEIGHBOUR: 'it returns false'. Refute it at one input. -/
def spaceColumnsWrong : ChangeSpec := { name := "spaceColumns", fn := fun _ => fun
  | [d1, d2] => { results := [.lit (.bool false)], args := [d1, d2] }
  | _ => none }
def SpaceColumnsWrongFalsely : Prop := spaceColumnsRow.holds Tryz.pinned (OpenSpec.ofChange spaceColumnsWrong)

/-- 'partitalaw24.SpaceWidths': WHATEVER THE INPUT: true; the input reads as it did. -/
def spaceWidthsSpec : ChangeSpec := { name := "spaceWidths", fn := fun _ => fun
  | [d] => { results := [.lit (.bool true)], args := [d] }
  | _ => none }
def spaceWidthsRow : OpenClaim := { program := "ytedfhdnpcnacmaagreatdoor", sum := "48f93bf4ac1516ade8bc9121f7d3d9aff4846615a1cd843e9ca7f37baaf4ba72", func := "partita/partitalaw24.SpaceWidths", spec := "spaceWidths", unfollowed := true, recurses := true, named := ["unicode/utf8.first", "unicode/utf8.acceptRanges", "partita/pitch.halfTones", "partita/value.dotted"], plainKeys := false, apart := false, laid := [("unicode/utf8.acceptRanges", laid_unicode_utf8_acceptRanges), ("partita/pitch.halfTones", laid_partita_pitch_halfTones), ("partita/value.dotted", laid_partita_value_dotted), ("unicode/utf8.first", laid_unicode_utf8_first)] }
def SpaceWidthsSaid : Prop := spaceWidthsRow.holds Tryz.pinned (OpenSpec.ofChange spaceWidthsSpec)

/-- ITS FALSE NEIGHBOUR: 'it returns false'. Refute it at one input. -/
def spaceWidthsWrong : ChangeSpec := { name := "spaceWidths", fn := fun _ => fun
  | [d] => { results := [.lit (.bool false)], args := [d] }
  | _ => none }
def SpaceWidthsWrongFalsely : Prop := spaceWidthsRow.holds Tryz.pinned (OpenSpec.ofChange spaceWidthsWrong)

/-- 'partitalaw24.SpaceSpreads': WHATEVER THE INPUT: true; the input reads as it did. -/
def spaceSpreadsSpec : ChangeSpec := { name := "spaceSpreads", fn := fun _ => fun
  | [d1, d2] => { results := [.lit (.bool true)], args := [d1, d2] }
  | _ => none }
def spaceSpreadsRow : OpenClaim := { program := "ytedfhdnpcnacmaagreatdoor", sum := "48f93bf4ac1516ade8bc9121f7d3d9aff4846615a1cd843e9ca7f37baaf4ba72", func := "partita/partitalaw24.SpaceSpreads", spec := "spaceSpreads", unfollowed := true, recurses := true, named := ["unicode/utf8.first", "unicode/utf8.acceptRanges", "partita/pitch.halfTones", "partita/value.dotted"], plainKeys := false, apart := false, laid := [("unicode/utf8.acceptRanges", laid_unicode_utf8_acceptRanges), ("partita/pitch.halfTones", laid_partita_pitch_halfTones), ("partita/value.dotted", laid_partita_value_dotted), ("unicode/utf8.first", laid_unicode_utf8_first)] }
def SpaceSpreadsSaid : Prop := spaceSpreadsRow.holds Tryz.pinned (OpenSpec.ofChange spaceSpreadsSpec)

/-- ITS FALSE NEIGHBOUR: 'it returns false'. Refute it at one input. -/
def spaceSpreadsWrong : ChangeSpec := { name := "spaceSpreads", fn := fun _ => fun
  | [d1, d2] => { results := [.lit (.bool false)], args := [d1, d2] }
  | _ => none }
def SpaceSpreadsWrongFalsely : Prop := spaceSpreadsRow.holds Tryz.pinned (OpenSpec.ofChange spaceSpreadsWrong)

/-- 'partitalaw24.SpaceStands': WHATEVER THE INPUT: true; the input reads as it did. -/
def spaceStandsSpec : ChangeSpec := { name := "spaceStands", fn := fun _ => fun
  | [d1, d2] => { results := [.lit (.bool true)], args := [d1, d2] }
  | _ => none }
def spaceStandsRow : OpenClaim := { program := "ytedfhdnpcnacmaagreatdoor", sum := "48f93bf4ac1516ade8bc9121f7d3d9aff4846615a1cd843e9ca7f37baaf4ba72", func := "partita/partitalaw24.SpaceStands", spec := "spaceStands", unfollowed := true, recurses := true, named := ["unicode/utf8.first", "unicode/utf8.acceptRanges", "partita/pitch.halfTones", "partita/value.dotted"], plainKeys := false, apart := false, laid := [("unicode/utf8.acceptRanges", laid_unicode_utf8_acceptRanges), ("partita/pitch.halfTones", laid_partita_pitch_halfTones), ("partita/value.dotted", laid_partita_value_dotted), ("unicode/utf8.first", laid_unicode_utf8_first)] }
def SpaceStandsSaid : Prop := spaceStandsRow.holds Tryz.pinned (OpenSpec.ofChange spaceStandsSpec)

/-- ITS FALSE NEIGHBOUR: 'it returns false'. Refute it at one input. -/
def spaceStandsWrong : ChangeSpec := { name := "spaceStands", fn := fun _ => fun
  | [d1, d2] => { results := [.lit (.bool false)], args := [d1, d2] }
  | _ => none }
def SpaceStandsWrongFalsely : Prop := spaceStandsRow.holds Tryz.pinned (OpenSpec.ofChange spaceStandsWrong)

/-- 'partitalaw24.SpaceWider': WHATEVER THE INPUT: true; the input reads as it did. -/
def spaceWiderSpec : ChangeSpec := { name := "spaceWider", fn := fun _ => fun
  | [d1, d2] => { results := [.lit (.bool true)], args := [d1, d2] }
  | _ => none }
def spaceWiderRow : OpenClaim := { program := "ytedfhdnpcnacmaagreatdoor", sum := "48f93bf4ac1516ade8bc9121f7d3d9aff4846615a1cd843e9ca7f37baaf4ba72", func := "partita/partitalaw24.SpaceWider", spec := "spaceWider", unfollowed := true, recurses := true, named := ["unicode/utf8.first", "unicode/utf8.acceptRanges", "partita/pitch.halfTones", "partita/value.dotted"], plainKeys := false, apart := false, laid := [("unicode/utf8.acceptRanges", laid_unicode_utf8_acceptRanges), ("partita/pitch.halfTones", laid_partita_pitch_halfTones), ("partita/value.dotted", laid_partita_value_dotted), ("unicode/utf8.first", laid_unicode_utf8_first)] }
def SpaceWiderSaid : Prop := spaceWiderRow.holds Tryz.pinned (OpenSpec.ofChange spaceWiderSpec)

/-- ITS FALSE NEIGHBOUR: 'it returns false'. Refute it at one input. -/
def spaceWiderWrong : ChangeSpec := { name := "spaceWider", fn := fun _ => fun
  | [d1, d2] => { results := [.lit (.bool false)], args := [d1, d2] }
  | _ => none }
def SpaceWiderWrongFalsely : Prop := spaceWiderRow.holds Tryz.pinned (OpenSpec.ofChange spaceWiderWrong)

/-- 'partitalaw24.SpaceEach': WHATEVER THE INPUT: true; the input reads as it did. -/
def spaceEachSpec : ChangeSpec := { name := "spaceEach", fn := fun _ => fun
  | [d1, d2] => { results := [.lit (.bool true)], args := [d1, d2] }
  | _ => none }
def spaceEachRow : OpenClaim := { program := "ytedfhdnpcnacmaagreatdoor", sum := "48f93bf4ac1516ade8bc9121f7d3d9aff4846615a1cd843e9ca7f37baaf4ba72", func := "partita/partitalaw24.SpaceEach", spec := "spaceEach", unfollowed := true, recurses := true, named := ["unicode/utf8.first", "unicode/utf8.acceptRanges", "partita/pitch.halfTones", "partita/value.dotted"], plainKeys := false, apart := false, laid := [("unicode/utf8.acceptRanges", laid_unicode_utf8_acceptRanges), ("partita/pitch.halfTones", laid_partita_pitch_halfTones), ("partita/value.dotted", laid_partita_value_dotted), ("unicode/utf8.first", laid_unicode_utf8_first)] }
def SpaceEachSaid : Prop := spaceEachRow.holds Tryz.pinned (OpenSpec.ofChange spaceEachSpec)

/-- ITS FALSE NEIGHBOUR: 'it returns false'. Refute it at one input. -/
def spaceEachWrong : ChangeSpec := { name := "spaceEach", fn := fun _ => fun
  | [d1, d2] => { results := [.lit (.bool false)], args := [d1, d2] }
  | _ => none }
def SpaceEachWrongFalsely : Prop := spaceEachRow.holds Tryz.pinned (OpenSpec.ofChange spaceEachWrong)

/-- 'partitalaw24.SpaceApart': WHATEVER THE INPUT: true; the input reads as it did. -/
def spaceApartSpec : ChangeSpec := { name := "spaceApart", fn := fun _ => fun
  | [d1, d2, d3] => { results := [.lit (.bool true)], args := [d1, d2, d3] }
  | _ => none }
def spaceApartRow : OpenClaim := { program := "ytedfhdnpcnacmaagreatdoor", sum := "48f93bf4ac1516ade8bc9121f7d3d9aff4846615a1cd843e9ca7f37baaf4ba72", func := "partita/partitalaw24.SpaceApart", spec := "spaceApart", unfollowed := true, recurses := true, named := ["unicode/utf8.first", "unicode/utf8.acceptRanges", "partita/pitch.halfTones", "partita/value.dotted"], plainKeys := false, apart := false, laid := [("unicode/utf8.acceptRanges", laid_unicode_utf8_acceptRanges), ("partita/pitch.halfTones", laid_partita_pitch_halfTones), ("partita/value.dotted", laid_partita_value_dotted), ("unicode/utf8.first", laid_unicode_utf8_first)] }
def SpaceApartSaid : Prop := spaceApartRow.holds Tryz.pinned (OpenSpec.ofChange spaceApartSpec)

/-- ITS FALSE NEIGHBOUR: 'it returns false'. Refute it at one input. -/
def spaceApartWrong : ChangeSpec := { name := "spaceApart", fn := fun _ => fun
  | [d1, d2, d3] => { results := [.lit (.bool false)], args := [d1, d2, d3] }
  | _ => none }
def SpaceApartWrongFalsely : Prop := spaceApartRow.holds Tryz.pinned (OpenSpec.ofChange spaceApartWrong)

/-- 'partitalaw24.SpaceParts': WHATEVER THE INPUT: true; the input reads as it did. -/
def spacePartsSpec : ChangeSpec := { name := "spaceParts", fn := fun _ => fun
  | [d1, d2] => { results := [.lit (.bool true)], args := [d1, d2] }
  | _ => none }
def spacePartsRow : OpenClaim := { program := "ytedfhdnpcnacmaagreatdoor", sum := "48f93bf4ac1516ade8bc9121f7d3d9aff4846615a1cd843e9ca7f37baaf4ba72", func := "partita/partitalaw24.SpaceParts", spec := "spaceParts", unfollowed := true, recurses := true, named := ["unicode/utf8.first", "unicode/utf8.acceptRanges", "partita/pitch.halfTones", "partita/value.dotted"], plainKeys := false, apart := false, laid := [("unicode/utf8.acceptRanges", laid_unicode_utf8_acceptRanges), ("partita/pitch.halfTones", laid_partita_pitch_halfTones), ("partita/value.dotted", laid_partita_value_dotted), ("unicode/utf8.first", laid_unicode_utf8_first)] }
def SpacePartsSaid : Prop := spacePartsRow.holds Tryz.pinned (OpenSpec.ofChange spacePartsSpec)

/-- ITS FALSE NEIGHBOUR: 'it returns false'. Refute it at one input. -/
def spacePartsWrong : ChangeSpec := { name := "spaceParts", fn := fun _ => fun
  | [d1, d2] => { results := [.lit (.bool false)], args := [d1, d2] }
  | _ => none }
def SpacePartsWrongFalsely : Prop := spacePartsRow.holds Tryz.pinned (OpenSpec.ofChange spacePartsWrong)

/-- 'partitalaw24.SpaceBar': WHATEVER THE INPUT: true; the input reads as it did. -/
def spaceBarSpec : ChangeSpec := { name := "spaceBar", fn := fun _ => fun
  | [d1, d2, d3] => { results := [.lit (.bool true)], args := [d1, d2, d3] }
  | _ => none }
def spaceBarRow : OpenClaim := { program := "ytedfhdnpcnacmaagreatdoor", sum := "48f93bf4ac1516ade8bc9121f7d3d9aff4846615a1cd843e9ca7f37baaf4ba72", func := "partita/partitalaw24.SpaceBar", spec := "spaceBar", unfollowed := true, recurses := true, named := ["unicode/utf8.first", "unicode/utf8.acceptRanges", "partita/pitch.halfTones", "partita/value.dotted"], plainKeys := false, apart := false, laid := [("unicode/utf8.acceptRanges", laid_unicode_utf8_acceptRanges), ("partita/pitch.halfTones", laid_partita_pitch_halfTones), ("partita/value.dotted", laid_partita_value_dotted), ("unicode/utf8.first", laid_unicode_utf8_first)] }
def SpaceBarSaid : Prop := spaceBarRow.holds Tryz.pinned (OpenSpec.ofChange spaceBarSpec)

/-- ITS FALSE NEIGHBOUR: 'it returns false'. Refute it at one input. -/
def spaceBarWrong : ChangeSpec := { name := "spaceBar", fn := fun _ => fun
  | [d1, d2, d3] => { results := [.lit (.bool false)], args := [d1, d2, d3] }
  | _ => none }
def SpaceBarWrongFalsely : Prop := spaceBarRow.holds Tryz.pinned (OpenSpec.ofChange spaceBarWrong)

/-- 'partitalaw24.SpaceMeter': WHATEVER THE INPUT: true; the input reads as it did. -/
def spaceMeterSpec : ChangeSpec := { name := "spaceMeter", fn := fun _ => fun
  | [d1, d2] => { results := [.lit (.bool true)], args := [d1, d2] }
  | _ => none }
def spaceMeterRow : OpenClaim := { program := "ytedfhdnpcnacmaagreatdoor", sum := "48f93bf4ac1516ade8bc9121f7d3d9aff4846615a1cd843e9ca7f37baaf4ba72", func := "partita/partitalaw24.SpaceMeter", spec := "spaceMeter", unfollowed := true, recurses := true, named := ["unicode/utf8.first", "unicode/utf8.acceptRanges", "partita/pitch.halfTones", "partita/value.dotted"], plainKeys := false, apart := false, laid := [("unicode/utf8.acceptRanges", laid_unicode_utf8_acceptRanges), ("partita/pitch.halfTones", laid_partita_pitch_halfTones), ("partita/value.dotted", laid_partita_value_dotted), ("unicode/utf8.first", laid_unicode_utf8_first)] }
def SpaceMeterSaid : Prop := spaceMeterRow.holds Tryz.pinned (OpenSpec.ofChange spaceMeterSpec)

/-- ITS FALSE NEIGHBOUR: 'it returns false'. Refute it at one input. -/
def spaceMeterWrong : ChangeSpec := { name := "spaceMeter", fn := fun _ => fun
  | [d1, d2] => { results := [.lit (.bool false)], args := [d1, d2] }
  | _ => none }
def SpaceMeterWrongFalsely : Prop := spaceMeterRow.holds Tryz.pinned (OpenSpec.ofChange spaceMeterWrong)

/-- 'partitalaw24.SpaceOctave': WHATEVER THE INPUT: true; the input reads as it did. -/
def spaceOctaveSpec : ChangeSpec := { name := "spaceOctave", fn := fun _ => fun
  | [d1, d2, d3] => { results := [.lit (.bool true)], args := [d1, d2, d3] }
  | _ => none }
def spaceOctaveRow : OpenClaim := { program := "ytedfhdnpcnacmaagreatdoor", sum := "48f93bf4ac1516ade8bc9121f7d3d9aff4846615a1cd843e9ca7f37baaf4ba72", func := "partita/partitalaw24.SpaceOctave", spec := "spaceOctave", inPlace := ["slices.overlaps[partita/api.Event]", "slices.overlaps[partita/api.Bar]", "slices.overlaps[[]partita/api.Voice]", "slices.overlaps[[]partita/api.Dyn]", "slices.overlaps[partita/api.Voice]"], unfollowed := true, recurses := true, named := ["unicode/utf8.first", "unicode/utf8.acceptRanges", "partita/pitch.halfTones", "partita/value.dotted"], plainKeys := false, apart := false, laid := [("unicode/utf8.acceptRanges", laid_unicode_utf8_acceptRanges), ("partita/pitch.halfTones", laid_partita_pitch_halfTones), ("partita/value.dotted", laid_partita_value_dotted), ("unicode/utf8.first", laid_unicode_utf8_first)] }
def SpaceOctaveSaid : Prop := spaceOctaveRow.holds Tryz.pinned (OpenSpec.ofChange spaceOctaveSpec)

/-- ITS FALSE NEIGHBOUR: 'it returns false'. Refute it at one input. -/
def spaceOctaveWrong : ChangeSpec := { name := "spaceOctave", fn := fun _ => fun
  | [d1, d2, d3] => { results := [.lit (.bool false)], args := [d1, d2, d3] }
  | _ => none }
def SpaceOctaveWrongFalsely : Prop := spaceOctaveRow.holds Tryz.pinned (OpenSpec.ofChange spaceOctaveWrong)

/- THE SECOND FORM. 'bulk': how many values and letters a reading holds, each counted each time it is reached (what is shared counts as often as it is met; a slice's spare places count too). A statement '..UptoSaid' is the law's where the arguments, and the package variables that the reading takes, are together of bulk at most 1048576: NARROWER than '..Said'. Prove '..Said' where nothing that the law and all that it calls make is longer than what came in: it says more and counts as full. Else prove '..UptoSaid'. A law counts once. -/
mutual
def uptoBulk {H : Type} : DataW H → Nat
  | .lit (.string bytes) => bytes.length + 1
  | .lit _ => 1
  | .nil => 1
  | .ptr d => uptoBulk d + 1
  | .slice elems spare => uptoBulkAll elems + uptoBulkAll spare + 1
  | .agg parts => uptoBulkAll parts + 1
  | .iface _ d => uptoBulk d + 1
  | .map entries => uptoBulkEntries entries + 1
  | .held _ => 1
def uptoBulkAll {H : Type} : List (DataW H) → Nat
  | [] => 0
  | d :: r => uptoBulk d + uptoBulkAll r
def uptoBulkEntries {H : Type} : List (Lit × DataW H) → Nat
  | [] => 0
  | x :: r => uptoBulkEntry x + uptoBulkEntries r
def uptoBulkEntry {H : Type} : Lit × DataW H → Nat
  | (.string bytes, d) => bytes.length + uptoBulk d + 1
  | (_, d) => uptoBulk d + 1
 end
def uptoSmall : (H : Type) → List (DataW H) → Bool := fun _ ds => decide (uptoBulkAll ds ≤ 1048576)
def OpenSpec.upto (s : _root_.Go.ChangeSpec) : _root_.Go.OpenSpec := { _root_.Go.OpenSpec.ofChange s with cond := some uptoSmall }

/-- 'partitalaw24.SpaceColumns', WHERE WHAT IT READS IS OF BULK AT MOST 1048576: true; the input reads as it did. -/
def spaceColumnsUptoRow : OpenClaim := { program := "ytedfhdnpcnacmaagreatdoor", sum := "48f93bf4ac1516ade8bc9121f7d3d9aff4846615a1cd843e9ca7f37baaf4ba72", func := "partita/partitalaw24.SpaceColumns", spec := "spaceColumns", unfollowed := true, recurses := true, named := ["unicode/utf8.first", "unicode/utf8.acceptRanges", "partita/pitch.halfTones", "partita/value.dotted"], plainKeys := false, apart := false, laid := [("unicode/utf8.acceptRanges", laid_unicode_utf8_acceptRanges), ("partita/pitch.halfTones", laid_partita_pitch_halfTones), ("partita/value.dotted", laid_partita_value_dotted), ("unicode/utf8.first", laid_unicode_utf8_first)], narrowed := true }
def SpaceColumnsUptoSaid : Prop := spaceColumnsUptoRow.holds Tryz.pinned (OpenSpec.upto spaceColumnsSpec)

/-- 'partitalaw24.SpaceWidths', WHERE WHAT IT READS IS OF BULK AT MOST 1048576: true; the input reads as it did. -/
def spaceWidthsUptoRow : OpenClaim := { program := "ytedfhdnpcnacmaagreatdoor", sum := "48f93bf4ac1516ade8bc9121f7d3d9aff4846615a1cd843e9ca7f37baaf4ba72", func := "partita/partitalaw24.SpaceWidths", spec := "spaceWidths", unfollowed := true, recurses := true, named := ["unicode/utf8.first", "unicode/utf8.acceptRanges", "partita/pitch.halfTones", "partita/value.dotted"], plainKeys := false, apart := false, laid := [("unicode/utf8.acceptRanges", laid_unicode_utf8_acceptRanges), ("partita/pitch.halfTones", laid_partita_pitch_halfTones), ("partita/value.dotted", laid_partita_value_dotted), ("unicode/utf8.first", laid_unicode_utf8_first)], narrowed := true }
def SpaceWidthsUptoSaid : Prop := spaceWidthsUptoRow.holds Tryz.pinned (OpenSpec.upto spaceWidthsSpec)

/-- 'partitalaw24.SpaceSpreads', WHERE WHAT IT READS IS OF BULK AT MOST 1048576: true; the input reads as it did. -/
def spaceSpreadsUptoRow : OpenClaim := { program := "ytedfhdnpcnacmaagreatdoor", sum := "48f93bf4ac1516ade8bc9121f7d3d9aff4846615a1cd843e9ca7f37baaf4ba72", func := "partita/partitalaw24.SpaceSpreads", spec := "spaceSpreads", unfollowed := true, recurses := true, named := ["unicode/utf8.first", "unicode/utf8.acceptRanges", "partita/pitch.halfTones", "partita/value.dotted"], plainKeys := false, apart := false, laid := [("unicode/utf8.acceptRanges", laid_unicode_utf8_acceptRanges), ("partita/pitch.halfTones", laid_partita_pitch_halfTones), ("partita/value.dotted", laid_partita_value_dotted), ("unicode/utf8.first", laid_unicode_utf8_first)], narrowed := true }
def SpaceSpreadsUptoSaid : Prop := spaceSpreadsUptoRow.holds Tryz.pinned (OpenSpec.upto spaceSpreadsSpec)

/-- 'partitalaw24.SpaceStands', WHERE WHAT IT READS IS OF BULK AT MOST 1048576: true; the input reads as it did. -/
def spaceStandsUptoRow : OpenClaim := { program := "ytedfhdnpcnacmaagreatdoor", sum := "48f93bf4ac1516ade8bc9121f7d3d9aff4846615a1cd843e9ca7f37baaf4ba72", func := "partita/partitalaw24.SpaceStands", spec := "spaceStands", unfollowed := true, recurses := true, named := ["unicode/utf8.first", "unicode/utf8.acceptRanges", "partita/pitch.halfTones", "partita/value.dotted"], plainKeys := false, apart := false, laid := [("unicode/utf8.acceptRanges", laid_unicode_utf8_acceptRanges), ("partita/pitch.halfTones", laid_partita_pitch_halfTones), ("partita/value.dotted", laid_partita_value_dotted), ("unicode/utf8.first", laid_unicode_utf8_first)], narrowed := true }
def SpaceStandsUptoSaid : Prop := spaceStandsUptoRow.holds Tryz.pinned (OpenSpec.upto spaceStandsSpec)

/-- 'partitalaw24.SpaceWider', WHERE WHAT IT READS IS OF BULK AT MOST 1048576: true; the input reads as it did. -/
def spaceWiderUptoRow : OpenClaim := { program := "ytedfhdnpcnacmaagreatdoor", sum := "48f93bf4ac1516ade8bc9121f7d3d9aff4846615a1cd843e9ca7f37baaf4ba72", func := "partita/partitalaw24.SpaceWider", spec := "spaceWider", unfollowed := true, recurses := true, named := ["unicode/utf8.first", "unicode/utf8.acceptRanges", "partita/pitch.halfTones", "partita/value.dotted"], plainKeys := false, apart := false, laid := [("unicode/utf8.acceptRanges", laid_unicode_utf8_acceptRanges), ("partita/pitch.halfTones", laid_partita_pitch_halfTones), ("partita/value.dotted", laid_partita_value_dotted), ("unicode/utf8.first", laid_unicode_utf8_first)], narrowed := true }
def SpaceWiderUptoSaid : Prop := spaceWiderUptoRow.holds Tryz.pinned (OpenSpec.upto spaceWiderSpec)

/-- 'partitalaw24.SpaceEach', WHERE WHAT IT READS IS OF BULK AT MOST 1048576: true; the input reads as it did. -/
def spaceEachUptoRow : OpenClaim := { program := "ytedfhdnpcnacmaagreatdoor", sum := "48f93bf4ac1516ade8bc9121f7d3d9aff4846615a1cd843e9ca7f37baaf4ba72", func := "partita/partitalaw24.SpaceEach", spec := "spaceEach", unfollowed := true, recurses := true, named := ["unicode/utf8.first", "unicode/utf8.acceptRanges", "partita/pitch.halfTones", "partita/value.dotted"], plainKeys := false, apart := false, laid := [("unicode/utf8.acceptRanges", laid_unicode_utf8_acceptRanges), ("partita/pitch.halfTones", laid_partita_pitch_halfTones), ("partita/value.dotted", laid_partita_value_dotted), ("unicode/utf8.first", laid_unicode_utf8_first)], narrowed := true }
def SpaceEachUptoSaid : Prop := spaceEachUptoRow.holds Tryz.pinned (OpenSpec.upto spaceEachSpec)

/-- 'partitalaw24.SpaceApart', WHERE WHAT IT READS IS OF BULK AT MOST 1048576: true; the input reads as it did. -/
def spaceApartUptoRow : OpenClaim := { program := "ytedfhdnpcnacmaagreatdoor", sum := "48f93bf4ac1516ade8bc9121f7d3d9aff4846615a1cd843e9ca7f37baaf4ba72", func := "partita/partitalaw24.SpaceApart", spec := "spaceApart", unfollowed := true, recurses := true, named := ["unicode/utf8.first", "unicode/utf8.acceptRanges", "partita/pitch.halfTones", "partita/value.dotted"], plainKeys := false, apart := false, laid := [("unicode/utf8.acceptRanges", laid_unicode_utf8_acceptRanges), ("partita/pitch.halfTones", laid_partita_pitch_halfTones), ("partita/value.dotted", laid_partita_value_dotted), ("unicode/utf8.first", laid_unicode_utf8_first)], narrowed := true }
def SpaceApartUptoSaid : Prop := spaceApartUptoRow.holds Tryz.pinned (OpenSpec.upto spaceApartSpec)

/-- 'partitalaw24.SpaceParts', WHERE WHAT IT READS IS OF BULK AT MOST 1048576: true; the input reads as it did. -/
def spacePartsUptoRow : OpenClaim := { program := "ytedfhdnpcnacmaagreatdoor", sum := "48f93bf4ac1516ade8bc9121f7d3d9aff4846615a1cd843e9ca7f37baaf4ba72", func := "partita/partitalaw24.SpaceParts", spec := "spaceParts", unfollowed := true, recurses := true, named := ["unicode/utf8.first", "unicode/utf8.acceptRanges", "partita/pitch.halfTones", "partita/value.dotted"], plainKeys := false, apart := false, laid := [("unicode/utf8.acceptRanges", laid_unicode_utf8_acceptRanges), ("partita/pitch.halfTones", laid_partita_pitch_halfTones), ("partita/value.dotted", laid_partita_value_dotted), ("unicode/utf8.first", laid_unicode_utf8_first)], narrowed := true }
def SpacePartsUptoSaid : Prop := spacePartsUptoRow.holds Tryz.pinned (OpenSpec.upto spacePartsSpec)

/-- 'partitalaw24.SpaceBar', WHERE WHAT IT READS IS OF BULK AT MOST 1048576: true; the input reads as it did. -/
def spaceBarUptoRow : OpenClaim := { program := "ytedfhdnpcnacmaagreatdoor", sum := "48f93bf4ac1516ade8bc9121f7d3d9aff4846615a1cd843e9ca7f37baaf4ba72", func := "partita/partitalaw24.SpaceBar", spec := "spaceBar", unfollowed := true, recurses := true, named := ["unicode/utf8.first", "unicode/utf8.acceptRanges", "partita/pitch.halfTones", "partita/value.dotted"], plainKeys := false, apart := false, laid := [("unicode/utf8.acceptRanges", laid_unicode_utf8_acceptRanges), ("partita/pitch.halfTones", laid_partita_pitch_halfTones), ("partita/value.dotted", laid_partita_value_dotted), ("unicode/utf8.first", laid_unicode_utf8_first)], narrowed := true }
def SpaceBarUptoSaid : Prop := spaceBarUptoRow.holds Tryz.pinned (OpenSpec.upto spaceBarSpec)

/-- 'partitalaw24.SpaceMeter', WHERE WHAT IT READS IS OF BULK AT MOST 1048576: true; the input reads as it did. -/
def spaceMeterUptoRow : OpenClaim := { program := "ytedfhdnpcnacmaagreatdoor", sum := "48f93bf4ac1516ade8bc9121f7d3d9aff4846615a1cd843e9ca7f37baaf4ba72", func := "partita/partitalaw24.SpaceMeter", spec := "spaceMeter", unfollowed := true, recurses := true, named := ["unicode/utf8.first", "unicode/utf8.acceptRanges", "partita/pitch.halfTones", "partita/value.dotted"], plainKeys := false, apart := false, laid := [("unicode/utf8.acceptRanges", laid_unicode_utf8_acceptRanges), ("partita/pitch.halfTones", laid_partita_pitch_halfTones), ("partita/value.dotted", laid_partita_value_dotted), ("unicode/utf8.first", laid_unicode_utf8_first)], narrowed := true }
def SpaceMeterUptoSaid : Prop := spaceMeterUptoRow.holds Tryz.pinned (OpenSpec.upto spaceMeterSpec)

/-- 'partitalaw24.SpaceOctave', WHERE WHAT IT READS IS OF BULK AT MOST 1048576: true; the input reads as it did. -/
def spaceOctaveUptoRow : OpenClaim := { program := "ytedfhdnpcnacmaagreatdoor", sum := "48f93bf4ac1516ade8bc9121f7d3d9aff4846615a1cd843e9ca7f37baaf4ba72", func := "partita/partitalaw24.SpaceOctave", spec := "spaceOctave", inPlace := ["slices.overlaps[partita/api.Event]", "slices.overlaps[partita/api.Bar]", "slices.overlaps[[]partita/api.Voice]", "slices.overlaps[[]partita/api.Dyn]", "slices.overlaps[partita/api.Voice]"], unfollowed := true, recurses := true, named := ["unicode/utf8.first", "unicode/utf8.acceptRanges", "partita/pitch.halfTones", "partita/value.dotted"], plainKeys := false, apart := false, laid := [("unicode/utf8.acceptRanges", laid_unicode_utf8_acceptRanges), ("partita/pitch.halfTones", laid_partita_pitch_halfTones), ("partita/value.dotted", laid_partita_value_dotted), ("unicode/utf8.first", laid_unicode_utf8_first)], narrowed := true }
def SpaceOctaveUptoSaid : Prop := spaceOctaveUptoRow.holds Tryz.pinned (OpenSpec.upto spaceOctaveSpec)

end Rows
end Go.Proofs.YtedfhdnpcnacmaaGreatDoor
