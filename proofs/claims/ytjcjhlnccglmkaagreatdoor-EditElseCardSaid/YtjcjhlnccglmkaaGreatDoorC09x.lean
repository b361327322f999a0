/-
  EditElse: the law answers true for all scores and edits.
  Conditions: the types' own bounds; the law's awake answers true.
-/
import Derived.Test.YtjcjhlnccglmkaaGreatDoorC09w
namespace Go.Proofs.Pv
open Go Go.Proofs
set_option linter.unusedSimpArgs false
set_option linter.unusedVariables false
set_option maxRecDepth 100000
set_option maxHeartbeats 4000000
theorem fewL_len {α : Type} {n : Nat} {p : α → Bool} {l : List α} (h : fewL n p l = true) : l.length ≤ n ∧ ∀ x ∈ l, p x = true := by
  simp only [fewL, Bool.and_eq_true, decide_eq_true_eq, List.all_eq_true] at h
  exact ⟨by omega, h.2⟩
theorem fewEv_small {e : Ev} (h : e.fewB = true) : e.small := by
  simp only [Ev.fewB, Bool.and_eq_true, decide_eq_true_eq] at h
  exact ⟨by omega, by omega, by omega⟩
theorem fewEvs_small {l : List Ev} (h : fewEvs l = true) : l.length ≤ 12 ∧ ∀ e ∈ l, e.small := by
  obtain ⟨h1, h2⟩ := fewL_len h
  exact ⟨h1, fun e he => fewEv_small (h2 e he)⟩
structure FewS (s : Sc) : Prop where
  small : s.small
  ends : ∀ b ∈ s.bars, b.turn.endings.length ≤ 1000000
  evs : ∀ p ∈ s.parts, ∀ c ∈ p.cells, ∀ v ∈ c, v.l.length ≤ 12
theorem few_small {s : Sc} (ht : s.typed) (h : s.fewB = true) : FewS s := by
  simp only [Sc.fewB, Bool.and_eq_true, Bool.not_eq_true', decide_eq_false_iff_not, List.all_eq_true] at h
  obtain ⟨⟨h1, h2, h3, h4⟩, h5⟩ := h
  obtain ⟨b1, b2⟩ := fewL_len h4
  have hb : ∀ b ∈ s.bars, b.meter.groups.length ≤ 12 ∧ b.turn.endings.length ≤ 12 ∧ b.tempos.length ≤ 12 := by
    intro b hb
    have := b2 b hb
    simp only [Ba.fewB, Bool.not_eq_true', Bool.or_eq_false_iff, decide_eq_false_iff_not] at this
    omega
  have hp : ∀ p ∈ s.parts, (∀ c ∈ p.cells, c.length ≤ 4 ∧ ∀ v ∈ c, v.l.length ≤ 12 ∧ ∀ e ∈ v.l, e.small) ∧ ∀ d ∈ p.dyns, d.length ≤ 12 := by
    intro p hp
    have := h5 p hp
    simp only [Pa.fewB, Bool.and_eq_true] at this
    obtain ⟨_, q1, q2⟩ := this
    obtain ⟨_, q3⟩ := fewL_len q1
    obtain ⟨_, q4⟩ := fewL_len q2
    refine ⟨fun c hc => ?_, fun d hd => ?_⟩
    · have := q3 c hc
      simp only [fewCe, Bool.and_eq_true, Bool.not_eq_true', decide_eq_false_iff_not, List.all_eq_true] at this
      exact ⟨by omega, fun v hv => fewEvs_small (this.2 v hv)⟩
    · have := q4 d hd
      simp only [fewDy, Bool.not_eq_true', decide_eq_false_iff_not] at this
      omega
  refine ⟨⟨fun b hb' => ?_, fun p hp' => ⟨fun c hc => ?_, fun d hd => ?_⟩, by omega, by omega⟩, fun b hb' => by have := hb b hb'; omega, fun p hp' c hc v hv => (((hp p hp').1 c hc).2 v hv).1⟩
  · have h := hb b hb'
    have t := ht.bars b hb'
    exact ⟨by omega, t.1, t.2.1, by omega, t.2.2⟩
  · have h := (hp p hp').1 c hc
    exact ⟨by omega, fun v hv => ⟨by have := (h.2 v hv).1; omega, (h.2 v hv).2⟩⟩
  · have h := (hp p hp').2 d hd
    exact ⟨by omega, ht.parts p hp' d hd⟩
theorem nat_of {x : Int} {n : Nat} (h : 0 ≤ x ∧ x < (n : Nat)) : ∃ k : Nat, x = (k : Nat) ∧ k < n := ⟨x.toNat, by omega, by omega⟩
theorem repl_mem {l es : List Ev} {a n : Nat} {e : Ev} (h : e ∈ repl l a n es) : e ∈ l ∨ e ∈ es := by
  simp only [repl, List.mem_append] at h
  rcases h with (h | h) | h
  · exact .inl (List.mem_of_mem_take h)
  · exact .inr h
  · exact .inl (List.mem_of_mem_drop h)
theorem repl_len {l es : List Ev} {a n : Nat} (h : a + n ≤ l.length) : (repl l a n es).length ≤ l.length + es.length := by
  simp only [repl, List.length_append, List.length_take, List.length_drop]; omega
theorem else_law (s : Sc) (o : EOp) (hup : PC Tryz.prog gl 4 [] (fun v => v = .bool true)) (hs : s.typed) (ho : o.typed) : PC Tryz.prog gl 3 [s.av, o.av] (fun v => v = .bool true) := by
  by_cases hf : s.fewB = true ∧ o.fewB = true
  rotate_left
  · exact else_few s o hup hf
  obtain ⟨h1, h2⟩ := hf
  obtain ⟨hsm, hend, hevs⟩ := few_small hs h1
  by_cases hchk : s.checkR.2 = 0
  rotate_left
  · exact else_err s o hup h1 h2 _ hchk (apply_unright s (kind1 o) hsm hchk)
  have hr := right_of hchk
  have hg := good_of hr hsm hend
  have hoe : o.events.length ≤ 12 ∧ ∀ e ∈ o.events, e.small := by
    simp only [EOp.fewB, Bool.and_eq_true] at h2
    exact fewEvs_small h2.1.2.2.2.2
  by_cases hP : 0 ≤ o.part ∧ o.part < (s.parts.length : Nat)
  rotate_left
  · exact else_err s o hup h1 h2 90 (by decide) (apply_noP s (kind1 o) rfl hsm hg hchk hP)
  by_cases hB : 0 ≤ o.bar ∧ o.bar < (s.bars.length : Nat)
  rotate_left
  · exact else_err s o hup h1 h2 90 (by decide) (apply_noB s (kind1 o) rfl hsm hg hchk hP hB)
  obtain ⟨j0, hp, hj⟩ := nat_of hP
  obtain ⟨b0, hq, hbb⟩ := nat_of hB
  have hm : s.parts.getD j0 pa0 ∈ s.parts := by rw [List.getD_eq_getElem?_getD, List.getElem?_eq_getElem hj]; exact List.getElem_mem hj
  have hb0 : b0 < (s.parts.getD j0 pa0).cells.length := by rw [(hr.len _ hm).1]; exact hbb
  have hm2 : (s.parts.getD j0 pa0).cells.getD b0 [] ∈ (s.parts.getD j0 pa0).cells := by rw [List.getD_eq_getElem?_getD (l := (s.parts.getD j0 pa0).cells), List.getElem?_eq_getElem hb0]; exact List.getElem_mem hb0
  by_cases hV : 0 ≤ o.voice ∧ o.voice < (((s.parts.getD j0 pa0).cells.getD b0 []).length : Nat)
  rotate_left
  · exact else_err s o hup h1 h2 90 (by decide) (apply_noV s (kind1 o) rfl hsm hg hchk j0 b0 hj hbb hb0 hp hq hV)
  obtain ⟨v0, hv, hv0⟩ := nat_of hV
  have hm3 : ((s.parts.getD j0 pa0).cells.getD b0 []).getD v0 ⟨[]⟩ ∈ (s.parts.getD j0 pa0).cells.getD b0 [] := by rw [List.getD_eq_getElem?_getD (l := (s.parts.getD j0 pa0).cells.getD b0 []), List.getElem?_eq_getElem hv0]; exact List.getElem_mem hv0
  have hl12 := hevs _ hm _ hm2 _ hm3
  have hvs : (((s.parts.getD j0 pa0).cells.getD b0 []).getD v0 ⟨[]⟩).small := ((hsm.parts _ hm).voices _ hm2).2 _ hm3
  by_cases hS : 0 ≤ o.at_ ∧ 0 ≤ o.count ∧ o.at_ ≤ ((((s.parts.getD j0 pa0).cells.getD b0 []).getD v0 ⟨[]⟩).l.length : Nat) ∧ o.count ≤ ((((s.parts.getD j0 pa0).cells.getD b0 []).getD v0 ⟨[]⟩).l.length : Nat) - o.at_
  rotate_left
  · exact else_err s o hup h1 h2 90 (by decide) (apply_noS s (kind1 o) rfl hsm hg hchk j0 b0 v0 hj hbb hb0 hv0 hp hq hv hS (by omega) ho.at_)
  obtain ⟨a, ha, -⟩ := nat_of (n := 13) (x := o.at_) (by omega)
  obtain ⟨n, hn, -⟩ := nat_of (n := 13) (x := o.count) (by omega)
  have han : a + n ≤ (((s.parts.getD j0 pa0).cells.getD b0 []).getD v0 ⟨[]⟩).l.length := by omega
  have hrl := repl_len (es := o.events) han
  have hts : (putVo s j0 b0 v0 (repl (((s.parts.getD j0 pa0).cells.getD b0 []).getD v0 ⟨[]⟩).l a n o.events)).small := put_small hsm hj hb0 hv0 ⟨by show (repl _ _ _ _).length ≤ 1000000; omega, fun e he => (repl_mem he).elim (hvs.2 e) (hoe.2 e)⟩
  have hos : ∀ e ∈ o.events, e.short := fun e he => ⟨(hoe.2 e he).1, (hoe.2 e he).2.1, (hoe.2 e he).2.2⟩
  by_cases htc : (putVo s j0 b0 v0 (repl (((s.parts.getD j0 pa0).cells.getD b0 []).getD v0 ⟨[]⟩).l a n o.events)).checkR.2 = 0
  · exact else_own s o hup hg h1 h2 j0 b0 v0 a n hj hb0 hv0 hp hq hv ha hn _ _ rfl (apply_own s (kind1 o) rfl hsm hg hchk j0 b0 v0 a n hj hbb hb0 hv0 hp hq hv ha hn _ rfl han (by omega) (by show o.events.length ≤ 1000000; omega) hos (by show _ + o.events.length + 1 ≤ 1000000; omega) hts htc)
  · exact else_err s o hup h1 h2 _ htc (apply_wrong s (kind1 o) rfl hsm hg hchk j0 b0 v0 a n hj hbb hb0 hv0 hp hq hv ha hn _ rfl han (by omega) (by show o.events.length ≤ 1000000; omega) hos (by show _ + o.events.length + 1 ≤ 1000000; omega) hts htc)
end Go.Proofs.Pv
