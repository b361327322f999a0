/-
  Chapter 27's laws: from a law's contract on the abstract machine to the given statement, its row and its card.
  Conditions: the variables hold what the program's text lays.
-/
import Derived.Test.YtgjjcdjcpbjdgaaGreatDoorPvY
import Derived.Test.YtgjjcdjcpbjdgaaGreatDoorK27base
import Derived.Test.YtgjjcdjcpbjdgaaGreatDoorRows
import Derived.Test.YtgjjcdjcpbjdgaaGreatDoorTie
import Derived.Test.YtgjjcdjcpbjdgaaGreatDoorCards
import Derived.WalkKit
import Derived.ProofKit
import Derived.OpenShut
import Derived.ChangeOld
import Derived.Below
import Derived.Lay
import Derived.LaidOnce
import Derived.LaidMore
import Derived.LaidHandle
import Derived.MakeChecks
import Derived.SevenTiedAt
namespace Go.Proofs.Pv
set_option linter.unusedVariables false
set_option linter.unusedSimpArgs false
open Go Go.Proofs Go.ChangeShapes Go.WideShapes Go.ChangeAt Go.RowKit
open Go.Proofs.YtgjjcdjcpbjdgaaGreatDoor

def laid : List (String × DataW Unit) := [("unicode/utf8.acceptRanges", Rows.laid_unicode_utf8_acceptRanges), ("errors.errorType", Rows.laid_errors_errorType), ("partita/systems.errArg", Rows.laid_partita_systems_errArg), ("partita/systems.errBreak", Rows.laid_partita_systems_errBreak), ("partita/pitch.halfTones", Rows.laid_partita_pitch_halfTones), ("partita/value.dotted", Rows.laid_partita_value_dotted), ("unicode/utf8.first", Rows.laid_unicode_utf8_first)]
/-- The listed variables but the handle. -/
def laidD : List (String × DataW Unit) := [("unicode/utf8.acceptRanges", Rows.laid_unicode_utf8_acceptRanges), ("partita/systems.errArg", Rows.laid_partita_systems_errArg), ("partita/systems.errBreak", Rows.laid_partita_systems_errBreak), ("partita/pitch.halfTones", Rows.laid_partita_pitch_halfTones), ("partita/value.dotted", Rows.laid_partita_value_dotted), ("unicode/utf8.first", Rows.laid_unicode_utf8_first)]
theorem own : ownKnob Tryz.prog.godebug = Option.none := by kernel_rfl
theorem laidOut : laidOutB Tryz.prog = true := by kernel_rfl

/-- A start that meets the condition: the heap that the door's run leaves, the data laid over it. -/
noncomputable def start (os : Os) : World := (World.doorLaid Tryz.prog 77 os).layVars Tryz.prog laidD
theorem start_os (os : Os) : (start os).os = os := by
  unfold start
  rw [World.layVars_os]; rfl
theorem laidMet_over {P : Program} {w0 w' : World} {laid : List (String × DataW Unit)} (hh : w'.heap = (w0.layVars P laid).heap) (hf : w0.layFits P laid [] = true) (hi : w0.layIfaces P laid w' = true) : laidMet P laid w' := by
  have e1 : (laid.filter fun x => (laid.map (·.1)).contains x.1) = laid := List.filter_eq_self.2 fun x hx => List.contains_iff_mem.2 (List.mem_map.2 ⟨x, hx, rfl⟩)
  have e2 : (laid.filter fun x => !(laid.map (·.1)).contains x.1) = [] := List.filter_eq_nil_iff.2 fun x hx => by rw [List.contains_iff_mem.2 (List.mem_map.2 ⟨x, hx, rfl⟩)]; simp
  exact laidMet_layVars (w0 := w0) (laid.map (·.1)) [] (by rw [e1]; exact hh) (by rw [e1]; exact hf) (by rw [e1]; exact hi) (by rw [e2]; exact LaidIn.none)
theorem start_met0 (os : Os) : laidMet Tryz.prog laidD (start os) :=
  laidMet_over (w0 := World.doorLaid Tryz.prog 77 os) rfl (by kernel_rfl) (by kernel_rfl)
theorem split_laid : (laid.filter fun x => x.2.handleName?.isNone) = laidD := by kernel_rfl
theorem start_met (os : Os) (args : Array Value) : laidMetH Tryz.prog laid ((start os).forCall (fun _ _ => 0) ⟨#[], args, []⟩).memory :=
  laidMetH_of_parts (by rw [split_laid]; exact (start_met0 os).of_heap (by simp [World.memory, World.forCall, Input.heap])) (by kernel_rfl)
theorem start_shaped (os : Os) (args : Array Value) : ((start os).forCall (fun _ _ => 0) ⟨#[], args, []⟩).Shaped Tryz.prog := World.shaped_of_ZipB (by kernel_rfl) (by kernel_rfl)

theorem g6n : Tryz.prog.globalNamed "partita/value.dotted" = some 6 := by kernel_rfl
theorem g4n : Tryz.prog.globalNamed "unicode/utf8.acceptRanges" = some 4 := by kernel_rfl
theorem g5n : Tryz.prog.globalNamed "partita/pitch.halfTones" = some 5 := by kernel_rfl
theorem g6t : (Tryz.prog.globals[6]?).map (·.type) = some 374 := by kernel_rfl
theorem g4t : (Tryz.prog.globals[4]?).map (·.type) = some 316 := by kernel_rfl
theorem g5t : (Tryz.prog.globals[5]?).map (·.type) = some 318 := by kernel_rfl

theorem glob_at {H : Type} {enc : TypeId × Value → H} {spare : Nat → Bool} {held : Bool} {W : World} {g t d fuel : Nat} {n : String} {cs : Array Value} {x : DataW H} {p : List MemPlace} {cells : List AV} (hg : Tryz.prog.globalNamed n = some g) (hv : W.var? Tryz.prog n = some cs)
    (h : DataW.trod enc Tryz.prog W 0 spare held fuel t cs.toList = some (x, p)) (hp : plainT Tryz.prog d t = true) (hc : avD Tryz.prog d t x = cells) : Rel (imm W) noL noT (.vp cells) (.pointer (some ⟨g, 0, Option.none⟩)) := by
  rw [← hc]
  refine glob_rel (x := (x, p)) hp h fun i v hi => ?_
  rw [World.var?_cell hg hv i]
  simpa using hi

theorem of_laid {W : World} (h : laidMetH Tryz.prog laid W) : ∀ g cells, gl g = some cells → Rel (imm W) noL noT (.vp cells) (.pointer (some ⟨g, 0, Option.none⟩)) := by
  have hD : laidMet Tryz.prog laidD W := by
    have h2 := h
    unfold laidMetH at h2
    generalize hf : (laid.filter fun x => x.2.handleName?.isSome) = fl at h2
    cases fl with
    | nil => exact absurd hf (by
        have : (laid.filter fun x => x.2.handleName?.isSome).length = 1 := by kernel_rfl
        intro e; rw [e] at this; cases this)
    | cons a tl =>
      have h3 := h2.1
      rwa [split_laid] at h3
  obtain ⟨ps, ⟨a4, t4, c4, f4, p4, q4, hg4, ht4, hv4, hd4, ⟨_, _, _, _, _, _, _, _, _, _, ⟨_, _, _, _, _, _, _, _, _, _, ⟨a5, t5, c5, f5, p5, q5, hg5, ht5, hv5, hd5, ⟨a6, t6, c6, f6, p6, q6, hg6, ht6, hv6, hd6, _, _⟩, _⟩, _⟩, _⟩, _⟩, _⟩ := hD
  obtain rfl := Option.some.inj (g4n.symm.trans hg4)
  obtain rfl := Option.some.inj (g5n.symm.trans hg5)
  obtain rfl := Option.some.inj (g6n.symm.trans hg6)
  obtain rfl := Option.some.inj (g4t.symm.trans ht4)
  obtain rfl := Option.some.inj (g5t.symm.trans ht5)
  obtain rfl := Option.some.inj (g6t.symm.trans ht6)
  intro g cells hc
  match g, hc with
  | 0, hc => cases hc
  | 1, hc => cases hc
  | 2, hc => cases hc
  | 3, hc => cases hc
  | 4, hc => exact glob_at (d := 4) g4n hv4 hd4 (by kernel_rfl) ((show avD Tryz.prog 4 316 Rows.laid_unicode_utf8_acceptRanges = _ by kernel_rfl).trans (Option.some.inj hc))
  | 5, hc => exact glob_at (d := 4) g5n hv5 hd5 (by kernel_rfl) ((show avD Tryz.prog 4 318 Rows.laid_partita_pitch_halfTones = _ by kernel_rfl).trans (Option.some.inj hc))
  | 6, hc => exact glob_at (d := 4) g6n hv6 hd6 (by kernel_rfl) ((show avD Tryz.prog 4 374 Rows.laid_partita_value_dotted = _ by kernel_rfl).trans (Option.some.inj hc))
  | n + 7, hc =>
    have hc' : (if Nat.beq (n + 7) 1000109 then some [] else Option.none) = some cells := hc
    split at hc'
    · cases hc'
      exact .vp (fun _ => undef) (fun q hq => by simp at hq) (fun i hi => by simp at hi)
    · cases hc'

theorem okWide_arr {P : Program} {w : World} {r : Reach} {base : Nat} {t : TypeId} {v : Value} {n : Nat} {e : TypeId} (ht : P.underlying t = some (.array n e)) (h : Value.okWide P w r base t v) : ∃ cs, v = .agg cs := by
  simp only [Value.okWide, ht] at h
  obtain ⟨cs, h1, _⟩ := h
  exact ⟨cs, h1⟩
end Go.Proofs.Pv
