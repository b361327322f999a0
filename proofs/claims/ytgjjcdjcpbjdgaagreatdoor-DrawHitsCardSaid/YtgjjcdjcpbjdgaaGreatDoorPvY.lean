/-
  The abstract machine, part Y: a contract as a call of the model.
  Conditions: the arguments, and the globals' cells, are what the abstract values tell.
-/
import Derived.Test.YtgjjcdjcpbjdgaaGreatDoorPvX
import Derived.Below
import Derived.CallsIn
namespace Go.Proofs.Pv
set_option linter.unusedVariables false
set_option linter.unusedSimpArgs false
open Go Go.RowKit
variable {P : Program} {G : Nat → Option (List AV)}

theorem PC.calls {f : FuncId} {args : List AV} {R : AV → Prop} (h : PC P G f args R) {W : World} {vs : Array Value} (hargs : RelL (Rel (imm W) noL noT) args vs.toList)
    (hg : ∀ g cells, G g = some cells → Rel (imm W) noL noT (.vp cells) (.pointer (some ⟨g, 0, none⟩))) :
    Calls P f vs W fun e W' => (∃ v av, e = .returned v ∧ Rel (imm W') noL noT av v ∧ R av) ∧ Below W.heap.size W W' := by
  let M0 : Mem := { I := imm W, L := noL, T := noT, F := fun b => W.heap[b]? }
  have inv0 : Inv G M0 (fun _ => False) (fun _ => none) W W :=
    ⟨fun b o v h => h, fun b ob h => h, rfl, rfl, rfl, fun _ _ => ⟨rfl, rfl⟩, fun key blk h => (by cases h), fun k1 k2 b1 b2 b h => (by cases h), hg, fun _ _ _ => trivial⟩
  obtain ⟨_, hc⟩ := h Fence.wide ⟨fun _ => trivial, rfl⟩ rfl W M0 W vs rfl rfl inv0 hargs
  refine (callsIn_wide.1 (hc 0)).mono ?_
  rintro e W' ⟨M', v, av, rfl, hle, inv, hv, hR⟩
  have hold : ∀ k ob, W.heap[k]? = some ob → W'.heap[k]? = some ob := fun k ob hk => inv.far k ob (hle.F k ob hk)
  refine ⟨⟨v, av, rfl, Rel.mono0 (fun b o x hx => inv.imm b o x hx) hv (fun _ _ h => h) (fun _ _ h => h), hR⟩, inv.os, inv.tape, inv.out, ?_, fun k hk => ?_⟩
  · rcases Nat.eq_zero_or_pos W.heap.size with h0 | h0
    · omega
    · have h1 : W.heap[W.heap.size - 1]? = some W.heap[W.heap.size - 1] := Array.getElem?_eq_getElem (by omega)
      have := lt_of_heap (hold _ _ h1)
      omega
  · have h1 : W.heap[k]? = some W.heap[k] := Array.getElem?_eq_getElem hk
    rw [h1]; exact hold k _ h1

theorem Rel.of_bool {I : Imm} {L : Lo} {T : To} {b : Bool} {v : Value} (h : Rel I L T (.bool b) v) : v = .bool b := by cases h; rfl

/-- A law's contract: it answers true. -/
theorem PC.law {f : FuncId} {args : List AV} (h : PC P G f args (fun v => v = .bool true)) {W : World} {vs : Array Value} (hargs : RelL (Rel (imm W) noL noT) args vs.toList)
    (hg : ∀ g cells, G g = some cells → Rel (imm W) noL noT (.vp cells) (.pointer (some ⟨g, 0, none⟩))) :
    Calls P f vs W fun e W' => e = .returned (.bool true) ∧ Below W.heap.size W W' := by
  refine (h.calls hargs hg).mono ?_
  rintro e W' ⟨⟨v, av, rfl, hv, rfl⟩, hb⟩
  exact ⟨by rw [Rel.of_bool hv], hb⟩

/-- A variable's cells, read as data, are what they tell. -/
theorem glob_rel {H : Type} {enc : TypeId × Value → H} {spare : Nat → Bool} {held : Bool} {W : World} {g : Nat} {t : TypeId} {d fuel : Nat} {cs : List Value} {x : DataW H × List MemPlace} (hp : plainT P d t = true) (h : DataW.trod enc P W 0 spare held fuel t cs = some x)
    (hc : ∀ i v, cs[i]? = some v → W.cell? ⟨g, i, none⟩ = some v) : Rel (imm W) noL noT (.vp (avD P d t x.1)) (.pointer (some ⟨g, 0, none⟩)) := by
  obtain ⟨h1, _⟩ := trod_rel d t fuel cs x hp h
  refine .vp (fun q => cs.getD q undef) (fun q hq => ?_) (fun i hi => ?_)
  · have hq' : q < cs.length := by rw [← h1.1]; exact hq
    have := hc q _ (List.getElem?_eq_getElem hq')
    simp only [imm, Nat.zero_add, this]
    simp [hq']
  · have hi' : i < cs.length := by rw [← h1.1]; exact hi
    have := h1.get i hi hi'
    simpa [hi'] using this

end Go.Proofs.Pv
