/-
  The abstract machine, part E: each operation of the abstract machine is what the model does.
  Conditions: the invariant 'Inv' and related slots.
-/
import Derived.Test.YtgjjcdjcpbjdgaaGreatDoorPvD
import Derived.Laws.CopyRow
import Derived.Laws.AppendOwn
namespace Go.Proofs.Pv
set_option linter.unusedVariables false
set_option linter.unusedSimpArgs false
open Go
variable {P : Program} {G : Nat → Option (List AV)} {M : Mem} {al : Nat → Prop} {hp : Hp} {W w : World}

/-- What is to be shown of an operation that gives a value. -/
def ValOk (G : Nat → Option (List AV)) (M : Mem) (al : Nat → Prop) (hp : Hp) (W : World) (r : Result Value) (av : AV) : Prop :=
  ∃ v w' M', r = .ok v w' ∧ M.le M' ∧ Inv G M' al hp W w' ∧ M'.rel av v

theorem valOk_same (inv : Inv G M al hp W w) {r : Result Value} {av : AV} {v : Value} (h : r = .ok v w) (hr : M.rel av v) : ValOk G M al hp W r av :=
  ⟨v, w, M, h, M.le_refl, inv, hr⟩

/-! ### Loads, addresses, fields -/
theorem loadAt_ok (inv : Inv G M al hp W w) {t : TypeId} {a av : AV} {va : Value} (ha : M.rel a va) (h : aload P hp t a = some av) :
    ∃ v, (Instr.loadAt t va).run P w = .ok v w ∧ M.rel av v := by
  unfold aload at h
  split at h
  · rename_i n key off hn
    split at h
    · rename_i cs hk
      obtain ⟨d, hd⟩ := sz_und hn
      split at h
      · rename_i hle
        cases ha with
        | ptr hL =>
          obtain ⟨b, hb, hc⟩ := cellsAt_live inv hk
          rw [hL] at hb; cases hb
          obtain ⟨v, h1, h2⟩ := run_loadVar_at (P := P) hd hn (by simpa using hc.drop off) h
          exact ⟨v, by simp [Instr.loadAt, Instr.sureAddr, h1], h2⟩
      · cases h
    · cases h
  · rename_i n cs hn
    obtain ⟨d, hd⟩ := sz_und hn
    cases ha with
    | vp vs hI hR =>
      obtain ⟨v, h1, h2⟩ := run_loadVar_at (P := P) hd hn (cellsAt_vp inv vs hI hR) h
      exact ⟨v, by simp [Instr.loadAt, Instr.sureAddr, h1], h2⟩
  · cases h

theorem fld_und {t : TypeId} {i off n : Nat} {ft : TypeId} (h : fld P t i = some (off, n, ft)) :
    ∃ fs f, P.underlying t = some (.struct fs) ∧ fs[i]? = some f ∧ f.offset = off ∧ f.type = ft ∧ sz P ft = some n := by
  unfold fld at h
  split at h
  · rename_i fs hu
    split at h
    · rename_i f hf
      split at h
      · rename_i n' hn
        simp only [Option.some.injEq, Prod.mk.injEq] at h
        obtain ⟨rfl, rfl, rfl⟩ := h
        exact ⟨fs, f, hu, hf, rfl, rfl, hn⟩
      · cases h
    · cases h
  · cases h

theorem Rel.vp_drop {I : Imm} {L : Lo} {T : To} {cs : List AV} {b o : Nat} (vs : Nat → Value) (hI : ∀ q, q < cs.length → I b (o + q) = some (vs q))
    (hR : ∀ i (hi : i < cs.length), Rel I noL noT cs[i] (vs i)) (n : Nat) : Rel I L T (.vp (cs.drop n)) (.pointer (some ⟨b, o + n, none⟩)) :=
  .vp (fun q => vs (n + q)) (fun q hq => by rw [Nat.add_assoc]; exact hI _ (by simp at hq; omega)) (fun i hi => by simpa using hR (n + i) (by simp at hi; omega))

theorem fieldAt_ok {t : TypeId} {x av : AV} {vx : Value} {f : Nat} (hx : M.rel x vx) (h : afaddr P t x f = some av) :
    ∃ v, (Instr.fieldAt t vx f).run P w = .ok v w ∧ M.rel av v := by
  unfold afaddr at h
  split at h
  · rename_i off n ft key o hf
    split at h
    · cases h
    · rename_i hn
      simp only [Option.some.injEq] at h; subst h
      obtain ⟨fs, fl, h1, h2, rfl, rfl, h4⟩ := fld_und hf
      cases hx with
      | ptr hL =>
        refine ⟨.pointer (some ⟨_, o + fl.offset, none⟩), ?_, .ptr hL⟩
        simp [Instr.fieldAt, run_und h1, h2, Instr.sureAddr, fieldPlace, run_sizeOf h4, hn, Addr.add_none]
  · rename_i off n ft cs hf
    split at h
    · cases h
    · rename_i hn
      simp only [Option.some.injEq] at h; subst h
      obtain ⟨fs, fl, h1, h2, rfl, rfl, h4⟩ := fld_und hf
      cases hx with
      | @vp _ _ _ b o vs hI hR =>
        refine ⟨.pointer (some ⟨b, o + fl.offset, none⟩), ?_, Rel.vp_drop vs hI hR _⟩
        have hn0 : n ≠ 0 := fun e => hn (.inl e)
        simp [Instr.fieldAt, run_und h1, h2, Instr.sureAddr, fieldPlace, run_sizeOf h4, hn0, Addr.add_none]
  · cases h

/-- A part of a struct's value. -/
theorem part_ok {I : Imm} {L : Lo} {T : To} {t : TypeId} {cs : List AV} {vs : Array Value} {off : Nat} {av : AV} (hs : vs.size = cs.length)
    (hr : ∀ i (h : i < cs.length) (h' : i < vs.size), Rel I L T cs[i] vs[i]) (h : partA P t cs off = some av) : ∃ v, (part t vs off).run P w = .ok v w ∧ Rel I L T av v := by
  unfold partA at h
  split at h
  · cases h
  · rename_i n hn
    obtain ⟨d, hd⟩ := sz_und hn
    by_cases ha : ag P t = true
    · simp only [ha, if_true] at h
      split at h
      · rename_i hle
        simp only [Option.some.injEq] at h; subst h
        refine ⟨.agg (vs.extract off (off + n)), by simp [part, run_isAgg hd, ha, run_sizeOf hn], .agg (by simp; omega) (fun i h1 h2 => ?_)⟩
        simp at h1 h2
        simpa using hr (off + i) (by omega) (by omega)
      · cases h
    · simp only [Bool.not_eq_true] at ha
      simp only [ha, Bool.false_eq_true, if_false] at h
      have hlt : off < cs.length := by
        rcases Nat.lt_or_ge off cs.length with h' | h'
        · exact h'
        · simp [List.getElem?_eq_none h'] at h
      have hlt' : off < vs.size := by omega
      refine ⟨vs[off], by simp [part, run_isAgg hd, ha, hlt'], ?_⟩
      have : av = cs[off] := by simpa [hlt] using h.symm
      subst this; exact hr off hlt hlt'

end Go.Proofs.Pv
