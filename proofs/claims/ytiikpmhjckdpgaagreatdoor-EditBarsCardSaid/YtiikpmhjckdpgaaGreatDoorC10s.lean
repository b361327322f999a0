/-
  Layer 9: edit.Apply at edits that put bars in, or take them out: an error, or a right score with so many bars more, or less.
  Conditions: a small typed score; a small typed edit.
-/
import Derived.Test.YtiikpmhjckdpgaaGreatDoorC10p
import Derived.Test.YtiikpmhjckdpgaaGreatDoorC10q
import Derived.Test.YtiikpmhjckdpgaaGreatDoorC10r
import Derived.Test.YtiikpmhjckdpgaaGreatDoorC09w
import Derived.Test.YtiikpmhjckdpgaaGreatDoorPvBF
namespace Go.Proofs.Pv
open Go Go.Proofs
set_option linter.unusedSimpArgs false
set_option linter.unusedVariables false
set_option maxRecDepth 100000
set_option maxHeartbeats 4000000
structure EOp.typedB (o : EOp) : Prop where
 bar : I64 o.bar
 bars : ∀ b ∈ o.bars, b.typed
 dyns : ∀ l ∈ o.dyns, ∀ d ∈ l, ∀ t ∈ d, t.at_.fits
def applyRes (t : Sc) (k : Int) (bk : List AV) : AV := if t.checkR.2 = 0 then .tup [t.av, .agg (.int .i64 k :: bk), .int .i64 0] else errR t.checkR.2
theorem fewBa {b : Ba} (h : b.fewB = true) : b.meter.groups.length ≤ 12 ∧ b.turn.endings.length ≤ 12 ∧ b.tempos.length ≤ 12 := by
 simp only [Ba.fewB, Bool.not_eq_true', Bool.or_eq_false_iff, decide_eq_false_iff_not] at h
 omega
theorem fewCe_small {c : List Vo} (h : fewCe c = true) : c.length ≤ 4 ∧ ∀ v ∈ c, v.l.length ≤ 12 ∧ ∀ e ∈ v.l, e.small := by
 simp only [fewCe, Bool.and_eq_true, Bool.not_eq_true', decide_eq_false_iff_not, List.all_eq_true] at h
 exact ⟨by omega, fun v hv => fewEvs_small (h.2 v hv)⟩
theorem fewDy_small {d : List Dy} (h : fewDy d = true) : d.length ≤ 12 := by
 simp only [fewDy, Bool.not_eq_true', decide_eq_false_iff_not] at h
 omega
theorem small_short {e : Ev} (h : e.small) : e.short := ⟨h.1, h.2.1, h.2.2⟩
theorem ce_short {c : List Vo} (h : fewCe c = true) : cellShort c := by
 obtain ⟨h1, h2⟩ := fewCe_small h
 exact ⟨by omega, fun v hv => ⟨by have := (h2 v hv).1; omega, fun e he => small_short ((h2 v hv).2 e he)⟩⟩
theorem ba_ok {b : Ba} (h : b.fewB = true) (t : b.typed) : b.ok := by
 have := fewBa h
 exact ⟨by omega, t.1, t.2.1, by omega, t.2.2⟩
theorem ba_short {b : Ba} (h : b.fewB = true) : b.short := by
 have := fewBa h
 exact ⟨by omega, by omega, by omega⟩
structure FewT (s : Sc) : Prop where
 nb : s.bars.length ≤ 6
 np : s.parts.length ≤ 4
 bars : ∀ b ∈ s.bars, b.fewB = true
 cells : ∀ p ∈ s.parts, p.cells.length ≤ 6 ∧ ∀ c ∈ p.cells, fewCe c = true
 dyns : ∀ p ∈ s.parts, p.dyns.length ≤ 6 ∧ ∀ d ∈ p.dyns, fewDy d = true
theorem few_tells {s : Sc} (h : s.fewB = true) : FewT s := by
 simp only [Sc.fewB, Bool.and_eq_true, Bool.not_eq_true', decide_eq_false_iff_not, List.all_eq_true] at h
 obtain ⟨⟨h1, h2, h3, h4⟩, h5⟩ := h
 obtain ⟨b1, b2⟩ := fewL_len h4
 refine ⟨by omega, by omega, b2, fun p hp => ?_, fun p hp => ?_⟩
 all_goals have := h5 p hp
 all_goals simp only [Pa.fewB, Bool.and_eq_true] at this
 ·exact fewL_len this.2.1
 ·exact fewL_len this.2.2
structure FewO (o : EOp) : Prop where
 bars : o.bars.length ≤ 6 ∧ ∀ b ∈ o.bars, b.fewB = true
 nc : o.cells.length ≤ 4
 nd : o.dyns.length ≤ 4
 cells : ∀ l ∈ o.cells, l.length ≤ 6 ∧ ∀ c ∈ l, fewCe c = true
 dyns : ∀ l ∈ o.dyns, l.length ≤ 6 ∧ ∀ d ∈ l, fewDy d = true
theorem fewO_tells {o : EOp} (h : o.fewB = true) : FewO o := by
 simp only [EOp.fewB, Bool.and_eq_true, Bool.not_eq_true', decide_eq_false_iff_not, List.all_eq_true] at h
 obtain ⟨⟨h1, h2, h3, h4, h5⟩, h6, h7⟩ := h
 exact ⟨fewL_len h4, by omega, by omega, fun l hl => fewL_len (h6 l hl), fun l hl => fewL_len (h7 l hl)⟩
theorem pa_shortB {s : Sc} (h : FewT s) {p : Pa} (hp : p ∈ s.parts) : p.shortB := by
 have c := h.cells p hp
 have d := h.dyns p hp
 exact ⟨by omega, fun x hx => ce_short (c.2 x hx), by omega, fun x hx => by have := fewDy_small (d.2 x hx); omega⟩
theorem mem_ins {α : Type} {l es : List α} {a : Nat} {x : α} (h : x ∈ insL l es a) : x ∈ l ∨ x ∈ es := by
 simp only [insL, List.mem_append] at h
 rcases h with (h | h) | h
 ·exact .inl (List.mem_of_mem_take h)
 ·exact .inr h
 ·exact .inl (List.mem_of_mem_drop h)
theorem mem_del {α : Type} {l : List α} {a d : Nat} {x : α} (h : x ∈ delL l a d) : x ∈ l := by
 simp only [delL, List.mem_append] at h
 rcases h with h | h
 ·exact List.mem_of_mem_take h
 ·exact List.mem_of_mem_drop h
theorem ce_small {c : List Vo} (h : fewCe c = true) : c.length ≤ 1000000 ∧ ∀ v ∈ c, v.small := by
 obtain ⟨h1, h2⟩ := fewCe_small h
 exact ⟨by omega, fun v hv => ⟨by have := (h2 v hv).1; omega, (h2 v hv).2⟩⟩
theorem pa_smallI {s : Sc} (hf : FewT s) (ht : s.typed) {p : Pa} (hp : p ∈ s.parts) {c : List (List Vo)} {d : List (List Dy)} (hc : ∀ x ∈ c, fewCe x = true) (hd : ∀ x ∈ d, fewDy x = true ∧ ∀ t ∈ x, t.at_.fits) (b : Nat) : Pa.small ⟨p.name, p.clef, p.channel, insL p.cells c b, insL p.dyns d b⟩ := by
 refine ⟨fun x hx => ?_, fun x hx => ?_⟩
 ·rcases mem_ins hx with h | h
  ·exact ce_small ((hf.cells p hp).2 x h)
  ·exact ce_small (hc x h)
 ·rcases mem_ins hx with h | h
  ·exact ⟨by have := fewDy_small ((hf.dyns p hp).2 x h); omega, ht.parts p hp x h⟩
  ·exact ⟨by have := fewDy_small (hd x h).1; omega, (hd x h).2⟩
theorem pa_smallD {s : Sc} (hf : FewT s) (ht : s.typed) {p : Pa} (hp : p ∈ s.parts) (b c : Nat) : Pa.small ⟨p.name, p.clef, p.channel, delL p.cells b c, delL p.dyns b c⟩ := by
 refine ⟨fun x hx => ce_small ((hf.cells p hp).2 x (mem_del hx)), fun x hx => ?_⟩
 exact ⟨by have := fewDy_small ((hf.dyns p hp).2 x (mem_del hx)); omega, ht.parts p hp x (mem_del hx)⟩
def BarsTo (s : Sc) (o : EOp) (r : AV) : Prop := (∃ e, e ≠ 0 ∧ r = errR e) ∨ ∃ t b n l2 l3 l4, r = .tup [t.av, .agg (.int .i64 (5 - o.kind) :: bkL b n l2 l3 l4), .int .i64 0] ∧ Right t ∧ (t.bars.length : Int) = (s.bars.length : Int) + (if o.kind = 2 then (o.bars.length : Int) else - o.count) ∧ t.parts.length = s.parts.length
theorem res_to {s t : Sc} {o : EOp} {b n : Int} {l2 l3 l4 : List AV} {k : Int} (hk : k = 5 - o.kind) (h1 : (t.bars.length : Int) = (s.bars.length : Int) + (if o.kind = 2 then (o.bars.length : Int) else - o.count)) (h2 : t.parts.length = s.parts.length) : BarsTo s o (applyRes t k (bkL b n l2 l3 l4)) := by
 unfold applyRes
 by_cases h : t.checkR.2 = 0
 ·rw [if_pos h]
  exact .inr ⟨t, b, n, l2, l3, l4, by rw [hk], right_of h, h1, h2⟩
 ·rw [if_neg h]
  exact .inl ⟨_, h, rfl⟩
theorem fitB_true {α : Type} {np nb : Nat} {l : List (List α)} (h : fitB np nb l = true) : l.length = np ∧ ∀ x ∈ l, x.length = nb := by
 simp only [fitB, Bool.and_eq_true, decide_eq_true_eq, Bool.not_eq_true', List.any_eq_false, ne_eq, Decidable.not_not] at h
 exact ⟨by omega, fun x hx => by have := h.2 x hx; omega⟩
theorem len_is1 {α : Type} : ∀ {l : List α}, l.length = 1 → ∃ a, l = [a]
 | [a], _ => ⟨a, rfl⟩
theorem len_is2 {α : Type} : ∀ {l : List α}, l.length = 2 → ∃ a b, l = [a, b]
 | [a, b], _ => ⟨a, b, rfl⟩
theorem len_is3 {α : Type} : ∀ {l : List α}, l.length = 3 → ∃ a b c, l = [a, b, c]
 | [a, b, c], _ => ⟨a, b, c, rfl⟩
theorem len_is4 {α : Type} : ∀ {l : List α}, l.length = 4 → ∃ a b c d, l = [a, b, c, d]
 | [a, b, c, d], _ => ⟨a, b, c, d, rfl⟩
section
variable (t : ByteArray) (bs : List Ba) (p0 : Pa) (o : EOp) (hs : Sc.small ⟨t, bs, [p0]⟩) (hchk : (Sc.mk t bs [p0]).checkR.2 = 0) (hbl : bs.length ≤ 1000) (hbs : ∀ b ∈ bs, b.short) (hnb : 0 < bs.length) (h0 : p0.shortB) (ha0 : p0.cells.length = bs.length) (hb0 : p0.dyns.length = bs.length)
include hs hchk hbl hbs hnb h0 ha0 hb0
theorem applyIn1_pc (hk : o.kind = 2) (b : Nat) (HB : o.bar = (b : Nat)) (hb : b ≤ bs.length) (hbr : ∀ x ∈ o.bars, x.short) (hnb2 : o.bars.length ≤ 1000) (c0 : List (List Vo)) (d0 : List (List Dy)) (hc : o.cells = [c0]) (hd : o.dyns = [d0]) (hc0 : c0.length = o.bars.length) (hd0 : d0.length = o.bars.length) (hs0 : ∀ c ∈ c0, cellShort c) (hy0 : ∀ d ∈ d0, d.length ≤ 1000000) (hts : (Sc.mk t (insL bs o.bars b) [p0.ins c0 d0 b]).small) : PC Tryz.prog gl 7 [(Sc.mk t bs [p0]).av, o.av] (fun v => v = applyRes (Sc.mk t (insL bs o.bars b) [p0.ins c0 d0 b]) 3 (bkL (b : Nat) (o.bars.length : Nat) [] [] [])) := by
 unfold applyRes
 by_cases htc : (Sc.mk t (insL bs o.bars b) [p0.ins c0 d0 b]).checkR.2 = 0
 ·rw [if_pos htc]
  exact PC.of_ownT (sty := fun _ => false) (applyIn1 t bs p0 o hs hchk hbl hbs hnb h0 ha0 hb0 hk b HB hb hbr hnb2 c0 d0 hc hd hc0 hd0 hs0 hy0 hts _ _ ⟨fun _ => ⟨rfl, rfl⟩⟩ ⟨fun h => absurd htc h⟩) 5 (by simp only [List.map_cons, List.map_nil]; rw [nowSc1 (d := 1) t _ (p0.ins c0 d0 b) (fun _ => rfl) rfl rfl rfl rfl]; rfl)
 ·rw [if_neg htc]
  exact PC.of_ownT (sty := fun _ => false) (applyIn1 t bs p0 o hs hchk hbl hbs hnb h0 ha0 hb0 hk b HB hb hbr hnb2 c0 d0 hc hd hc0 hd0 hs0 hy0 hts _ _ ⟨fun h => absurd h htc⟩ ⟨fun _ => ⟨rfl, rfl⟩⟩) 5 rfl
theorem applyOut1_pc (hk : o.kind = 3) (b c : Nat) (HB : o.bar = (b : Nat)) (HC : o.count = (c : Nat)) (hb : b + c ≤ bs.length) (hts : (Sc.mk t (delL bs b c) [p0.del b c]).small) : PC Tryz.prog gl 7 [(Sc.mk t bs [p0]).av, o.av] (fun v => v = applyRes (Sc.mk t (delL bs b c) [p0.del b c]) 2 (bkL (b : Nat) 0 (((bs.drop b).take c).map Ba.av) [.sl 1 (((p0.cells.drop b).take c).map cellAV) .none] [.sl 1 (((p0.dyns.drop b).take c).map dynsAV) .none])) := by
 unfold applyRes
 by_cases htc : (Sc.mk t (delL bs b c) [p0.del b c]).checkR.2 = 0
 ·rw [if_pos htc]
  exact PC.of_ownT (sty := fun _ => false) (applyOut1 t bs p0 o hs hchk hbl hbs hnb h0 ha0 hb0 hk b c HB HC hb hts _ _ ⟨fun _ => ⟨rfl, rfl⟩⟩ ⟨fun h => absurd htc h⟩) 5 (by simp only [List.map_cons, List.map_nil]; rw [nowSc1 (d := 1) t _ (p0.del b c) (fun _ => rfl) rfl rfl rfl rfl]; rfl)
 ·rw [if_neg htc]
  exact PC.of_ownT (sty := fun _ => false) (applyOut1 t bs p0 o hs hchk hbl hbs hnb h0 ha0 hb0 hk b c HB HC hb hts _ _ ⟨fun h => absurd h htc⟩ ⟨fun _ => ⟨rfl, rfl⟩⟩) 5 rfl
end
section
variable (t : ByteArray) (bs : List Ba) (p0 : Pa) (o : EOp) (hs : Sc.typed ⟨t, bs, [p0]⟩) (ho : o.typedB) (hf : FewT ⟨t, bs, [p0]⟩) (hfo : FewO o) (hsm : Sc.small ⟨t, bs, [p0]⟩) (hchk : (Sc.mk t bs [p0]).checkR.2 = 0)
include hs ho hf hfo hsm hchk
theorem barsIn1_to (hk : o.kind = 2) (b : Nat) (HB : o.bar = (b : Nat)) (hb : b ≤ bs.length) (hfc : fitB 1 o.bars.length o.cells = true) (hfd : fitB 1 o.bars.length o.dyns = true) : ∃ r, (PC Tryz.prog gl 7 [(Sc.mk t bs [p0]).av, o.av] (fun v => v = r)) ∧ BarsTo ⟨t, bs, [p0]⟩ o r := by
 have hr := right_of hchk
 have hnb : 0 < bs.length := hr.b0
 have hbl : bs.length ≤ 1000 := by have := hf.nb; simp only at this; omega
 have hbs : ∀ b ∈ bs, b.short := fun b hb' => ba_short (hf.bars b hb')
 have m0 : p0 ∈ (Sc.mk t bs [p0]).parts := by simp
 have h0 := pa_shortB hf m0
 obtain ⟨ha0, hb0⟩ : p0.cells.length = bs.length ∧ p0.dyns.length = bs.length := hr.len p0 m0
 obtain ⟨lc, hcl⟩ := fitB_true hfc
 obtain ⟨ld, hdl⟩ := fitB_true hfd
 obtain ⟨c0, hc⟩ := len_is1 lc
 obtain ⟨d0, hd⟩ := len_is1 ld
 have mc0 : c0 ∈ o.cells := by rw [hc]; simp
 have md0 : d0 ∈ o.dyns := by rw [hd]; simp
 have hts : (Sc.mk t (insL bs o.bars b) [p0.ins c0 d0 b]).small := ⟨fun x hx => (mem_ins hx).elim (fun h => hsm.bars x h) (fun h => ba_ok (hfo.bars.2 x h) (ho.bars x h)), fun p hp => by
  simp only [List.mem_cons, List.not_mem_nil, or_false] at hp
  rcases hp with rfl
  exact pa_smallI hf hs m0 (fun x hx => (hfo.cells c0 mc0).2 x hx) (fun x hx => ⟨(hfo.dyns d0 md0).2 x hx, ho.dyns d0 md0 x hx⟩) b
  , by show (insL bs o.bars b).length ≤ 1000000; rw [insL_len hb]; have := hfo.bars.1; omega, by simp⟩
 refine ⟨_, applyIn1_pc t bs p0 o hsm hchk hbl hbs hnb h0 ha0 hb0 hk b HB hb (fun x hx => ba_short (hfo.bars.2 x hx)) (by have := hfo.bars.1; omega) c0 d0 hc hd (hcl c0 mc0) (hdl d0 md0) (fun x hx => ce_short ((hfo.cells c0 mc0).2 x hx)) (fun x hx => by have := fewDy_small ((hfo.dyns d0 md0).2 x hx); omega) hts, res_to (by rw [hk]; rfl) ?_ rfl⟩
 show ((insL bs o.bars b).length : Int) = _
 rw [insL_len hb, if_pos hk]; show _ = (bs.length : Int) + _; omega
omit ho hfo in
theorem barsOut1_to (hk : o.kind = 3) (b c : Nat) (HB : o.bar = (b : Nat)) (HC : o.count = (c : Nat)) (hb : b + c ≤ bs.length) : ∃ r, (PC Tryz.prog gl 7 [(Sc.mk t bs [p0]).av, o.av] (fun v => v = r)) ∧ BarsTo ⟨t, bs, [p0]⟩ o r := by
 have hr := right_of hchk
 have hnb : 0 < bs.length := hr.b0
 have hbl : bs.length ≤ 1000 := by have := hf.nb; simp only at this; omega
 have hbs : ∀ b ∈ bs, b.short := fun b hb' => ba_short (hf.bars b hb')
 have m0 : p0 ∈ (Sc.mk t bs [p0]).parts := by simp
 have h0 := pa_shortB hf m0
 obtain ⟨ha0, hb0⟩ : p0.cells.length = bs.length ∧ p0.dyns.length = bs.length := hr.len p0 m0
 have hts : (Sc.mk t (delL bs b c) [p0.del b c]).small := ⟨fun x hx => hsm.bars x (mem_del hx), fun p hp => by
  simp only [List.mem_cons, List.not_mem_nil, or_false] at hp
  rcases hp with rfl
  exact pa_smallD hf hs m0 b c
  , by show (delL bs b c).length ≤ 1000000; rw [delL_len hb]; omega, by simp⟩
 refine ⟨_, applyOut1_pc t bs p0 o hsm hchk hbl hbs hnb h0 ha0 hb0 hk b c HB HC hb hts, res_to (by rw [hk]; rfl) ?_ rfl⟩
 show ((delL bs b c).length : Int) = _
 rw [delL_len hb, if_neg (by rw [hk]; decide), HC]; show _ = (bs.length : Int) + _; omega
end
section
variable (t : ByteArray) (bs : List Ba) (p0 p1 : Pa) (o : EOp) (hs : Sc.small ⟨t, bs, [p0, p1]⟩) (hchk : (Sc.mk t bs [p0, p1]).checkR.2 = 0) (hbl : bs.length ≤ 1000) (hbs : ∀ b ∈ bs, b.short) (hnb : 0 < bs.length) (h0 : p0.shortB) (ha0 : p0.cells.length = bs.length) (hb0 : p0.dyns.length = bs.length) (h1 : p1.shortB) (ha1 : p1.cells.length = bs.length) (hb1 : p1.dyns.length = bs.length)
include hs hchk hbl hbs hnb h0 ha0 hb0 h1 ha1 hb1
theorem applyIn2_pc (hk : o.kind = 2) (b : Nat) (HB : o.bar = (b : Nat)) (hb : b ≤ bs.length) (hbr : ∀ x ∈ o.bars, x.short) (hnb2 : o.bars.length ≤ 1000) (c0 c1 : List (List Vo)) (d0 d1 : List (List Dy)) (hc : o.cells = [c0, c1]) (hd : o.dyns = [d0, d1]) (hc0 : c0.length = o.bars.length) (hd0 : d0.length = o.bars.length) (hs0 : ∀ c ∈ c0, cellShort c) (hy0 : ∀ d ∈ d0, d.length ≤ 1000000) (hc1 : c1.length = o.bars.length) (hd1 : d1.length = o.bars.length) (hs1 : ∀ c ∈ c1, cellShort c) (hy1 : ∀ d ∈ d1, d.length ≤ 1000000) (hts : (Sc.mk t (insL bs o.bars b) [p0.ins c0 d0 b, p1.ins c1 d1 b]).small) : PC Tryz.prog gl 7 [(Sc.mk t bs [p0, p1]).av, o.av] (fun v => v = applyRes (Sc.mk t (insL bs o.bars b) [p0.ins c0 d0 b, p1.ins c1 d1 b]) 3 (bkL (b : Nat) (o.bars.length : Nat) [] [] [])) := by
 unfold applyRes
 by_cases htc : (Sc.mk t (insL bs o.bars b) [p0.ins c0 d0 b, p1.ins c1 d1 b]).checkR.2 = 0
 ·rw [if_pos htc]
  exact PC.of_ownT (sty := fun _ => false) (applyIn2 t bs p0 p1 o hs hchk hbl hbs hnb h0 ha0 hb0 h1 ha1 hb1 hk b HB hb hbr hnb2 c0 c1 d0 d1 hc hd hc0 hd0 hs0 hy0 hc1 hd1 hs1 hy1 hts _ _ ⟨fun _ => ⟨rfl, rfl⟩⟩ ⟨fun h => absurd htc h⟩) 5 (by simp only [List.map_cons, List.map_nil]; rw [nowSc2 (d := 1) t _ (p0.ins c0 d0 b) (p1.ins c1 d1 b) (fun _ => rfl) rfl rfl rfl rfl rfl rfl]; rfl)
 ·rw [if_neg htc]
  exact PC.of_ownT (sty := fun _ => false) (applyIn2 t bs p0 p1 o hs hchk hbl hbs hnb h0 ha0 hb0 h1 ha1 hb1 hk b HB hb hbr hnb2 c0 c1 d0 d1 hc hd hc0 hd0 hs0 hy0 hc1 hd1 hs1 hy1 hts _ _ ⟨fun h => absurd h htc⟩ ⟨fun _ => ⟨rfl, rfl⟩⟩) 5 rfl
theorem applyOut2_pc (hk : o.kind = 3) (b c : Nat) (HB : o.bar = (b : Nat)) (HC : o.count = (c : Nat)) (hb : b + c ≤ bs.length) (hts : (Sc.mk t (delL bs b c) [p0.del b c, p1.del b c]).small) : PC Tryz.prog gl 7 [(Sc.mk t bs [p0, p1]).av, o.av] (fun v => v = applyRes (Sc.mk t (delL bs b c) [p0.del b c, p1.del b c]) 2 (bkL (b : Nat) 0 (((bs.drop b).take c).map Ba.av) [.sl 1 (((p0.cells.drop b).take c).map cellAV) .none, .sl 1 (((p1.cells.drop b).take c).map cellAV) .none] [.sl 1 (((p0.dyns.drop b).take c).map dynsAV) .none, .sl 1 (((p1.dyns.drop b).take c).map dynsAV) .none])) := by
 unfold applyRes
 by_cases htc : (Sc.mk t (delL bs b c) [p0.del b c, p1.del b c]).checkR.2 = 0
 ·rw [if_pos htc]
  exact PC.of_ownT (sty := fun _ => false) (applyOut2 t bs p0 p1 o hs hchk hbl hbs hnb h0 ha0 hb0 h1 ha1 hb1 hk b c HB HC hb hts _ _ ⟨fun _ => ⟨rfl, rfl⟩⟩ ⟨fun h => absurd htc h⟩) 5 (by simp only [List.map_cons, List.map_nil]; rw [nowSc2 (d := 1) t _ (p0.del b c) (p1.del b c) (fun _ => rfl) rfl rfl rfl rfl rfl rfl]; rfl)
 ·rw [if_neg htc]
  exact PC.of_ownT (sty := fun _ => false) (applyOut2 t bs p0 p1 o hs hchk hbl hbs hnb h0 ha0 hb0 h1 ha1 hb1 hk b c HB HC hb hts _ _ ⟨fun h => absurd h htc⟩ ⟨fun _ => ⟨rfl, rfl⟩⟩) 5 rfl
end
section
variable (t : ByteArray) (bs : List Ba) (p0 p1 : Pa) (o : EOp) (hs : Sc.typed ⟨t, bs, [p0, p1]⟩) (ho : o.typedB) (hf : FewT ⟨t, bs, [p0, p1]⟩) (hfo : FewO o) (hsm : Sc.small ⟨t, bs, [p0, p1]⟩) (hchk : (Sc.mk t bs [p0, p1]).checkR.2 = 0)
include hs ho hf hfo hsm hchk
theorem barsIn2_to (hk : o.kind = 2) (b : Nat) (HB : o.bar = (b : Nat)) (hb : b ≤ bs.length) (hfc : fitB 2 o.bars.length o.cells = true) (hfd : fitB 2 o.bars.length o.dyns = true) : ∃ r, (PC Tryz.prog gl 7 [(Sc.mk t bs [p0, p1]).av, o.av] (fun v => v = r)) ∧ BarsTo ⟨t, bs, [p0, p1]⟩ o r := by
 have hr := right_of hchk
 have hnb : 0 < bs.length := hr.b0
 have hbl : bs.length ≤ 1000 := by have := hf.nb; simp only at this; omega
 have hbs : ∀ b ∈ bs, b.short := fun b hb' => ba_short (hf.bars b hb')
 have m0 : p0 ∈ (Sc.mk t bs [p0, p1]).parts := by simp
 have h0 := pa_shortB hf m0
 obtain ⟨ha0, hb0⟩ : p0.cells.length = bs.length ∧ p0.dyns.length = bs.length := hr.len p0 m0
 have m1 : p1 ∈ (Sc.mk t bs [p0, p1]).parts := by simp
 have h1 := pa_shortB hf m1
 obtain ⟨ha1, hb1⟩ : p1.cells.length = bs.length ∧ p1.dyns.length = bs.length := hr.len p1 m1
 obtain ⟨lc, hcl⟩ := fitB_true hfc
 obtain ⟨ld, hdl⟩ := fitB_true hfd
 obtain ⟨c0, c1, hc⟩ := len_is2 lc
 obtain ⟨d0, d1, hd⟩ := len_is2 ld
 have mc0 : c0 ∈ o.cells := by rw [hc]; simp
 have md0 : d0 ∈ o.dyns := by rw [hd]; simp
 have mc1 : c1 ∈ o.cells := by rw [hc]; simp
 have md1 : d1 ∈ o.dyns := by rw [hd]; simp
 have hts : (Sc.mk t (insL bs o.bars b) [p0.ins c0 d0 b, p1.ins c1 d1 b]).small := ⟨fun x hx => (mem_ins hx).elim (fun h => hsm.bars x h) (fun h => ba_ok (hfo.bars.2 x h) (ho.bars x h)), fun p hp => by
  simp only [List.mem_cons, List.not_mem_nil, or_false] at hp
  rcases hp with rfl | rfl
  ·exact pa_smallI hf hs m0 (fun x hx => (hfo.cells c0 mc0).2 x hx) (fun x hx => ⟨(hfo.dyns d0 md0).2 x hx, ho.dyns d0 md0 x hx⟩) b
  ·exact pa_smallI hf hs m1 (fun x hx => (hfo.cells c1 mc1).2 x hx) (fun x hx => ⟨(hfo.dyns d1 md1).2 x hx, ho.dyns d1 md1 x hx⟩) b
  , by show (insL bs o.bars b).length ≤ 1000000; rw [insL_len hb]; have := hfo.bars.1; omega, by simp⟩
 refine ⟨_, applyIn2_pc t bs p0 p1 o hsm hchk hbl hbs hnb h0 ha0 hb0 h1 ha1 hb1 hk b HB hb (fun x hx => ba_short (hfo.bars.2 x hx)) (by have := hfo.bars.1; omega) c0 c1 d0 d1 hc hd (hcl c0 mc0) (hdl d0 md0) (fun x hx => ce_short ((hfo.cells c0 mc0).2 x hx)) (fun x hx => by have := fewDy_small ((hfo.dyns d0 md0).2 x hx); omega) (hcl c1 mc1) (hdl d1 md1) (fun x hx => ce_short ((hfo.cells c1 mc1).2 x hx)) (fun x hx => by have := fewDy_small ((hfo.dyns d1 md1).2 x hx); omega) hts, res_to (by rw [hk]; rfl) ?_ rfl⟩
 show ((insL bs o.bars b).length : Int) = _
 rw [insL_len hb, if_pos hk]; show _ = (bs.length : Int) + _; omega
omit ho hfo in
theorem barsOut2_to (hk : o.kind = 3) (b c : Nat) (HB : o.bar = (b : Nat)) (HC : o.count = (c : Nat)) (hb : b + c ≤ bs.length) : ∃ r, (PC Tryz.prog gl 7 [(Sc.mk t bs [p0, p1]).av, o.av] (fun v => v = r)) ∧ BarsTo ⟨t, bs, [p0, p1]⟩ o r := by
 have hr := right_of hchk
 have hnb : 0 < bs.length := hr.b0
 have hbl : bs.length ≤ 1000 := by have := hf.nb; simp only at this; omega
 have hbs : ∀ b ∈ bs, b.short := fun b hb' => ba_short (hf.bars b hb')
 have m0 : p0 ∈ (Sc.mk t bs [p0, p1]).parts := by simp
 have h0 := pa_shortB hf m0
 obtain ⟨ha0, hb0⟩ : p0.cells.length = bs.length ∧ p0.dyns.length = bs.length := hr.len p0 m0
 have m1 : p1 ∈ (Sc.mk t bs [p0, p1]).parts := by simp
 have h1 := pa_shortB hf m1
 obtain ⟨ha1, hb1⟩ : p1.cells.length = bs.length ∧ p1.dyns.length = bs.length := hr.len p1 m1
 have hts : (Sc.mk t (delL bs b c) [p0.del b c, p1.del b c]).small := ⟨fun x hx => hsm.bars x (mem_del hx), fun p hp => by
  simp only [List.mem_cons, List.not_mem_nil, or_false] at hp
  rcases hp with rfl | rfl
  ·exact pa_smallD hf hs m0 b c
  ·exact pa_smallD hf hs m1 b c
  , by show (delL bs b c).length ≤ 1000000; rw [delL_len hb]; omega, by simp⟩
 refine ⟨_, applyOut2_pc t bs p0 p1 o hsm hchk hbl hbs hnb h0 ha0 hb0 h1 ha1 hb1 hk b c HB HC hb hts, res_to (by rw [hk]; rfl) ?_ rfl⟩
 show ((delL bs b c).length : Int) = _
 rw [delL_len hb, if_neg (by rw [hk]; decide), HC]; show _ = (bs.length : Int) + _; omega
end
section
variable (t : ByteArray) (bs : List Ba) (p0 p1 p2 : Pa) (o : EOp) (hs : Sc.small ⟨t, bs, [p0, p1, p2]⟩) (hchk : (Sc.mk t bs [p0, p1, p2]).checkR.2 = 0) (hbl : bs.length ≤ 1000) (hbs : ∀ b ∈ bs, b.short) (hnb : 0 < bs.length) (h0 : p0.shortB) (ha0 : p0.cells.length = bs.length) (hb0 : p0.dyns.length = bs.length) (h1 : p1.shortB) (ha1 : p1.cells.length = bs.length) (hb1 : p1.dyns.length = bs.length) (h2 : p2.shortB) (ha2 : p2.cells.length = bs.length) (hb2 : p2.dyns.length = bs.length)
include hs hchk hbl hbs hnb h0 ha0 hb0 h1 ha1 hb1 h2 ha2 hb2
theorem applyIn3_pc (hk : o.kind = 2) (b : Nat) (HB : o.bar = (b : Nat)) (hb : b ≤ bs.length) (hbr : ∀ x ∈ o.bars, x.short) (hnb2 : o.bars.length ≤ 1000) (c0 c1 c2 : List (List Vo)) (d0 d1 d2 : List (List Dy)) (hc : o.cells = [c0, c1, c2]) (hd : o.dyns = [d0, d1, d2]) (hc0 : c0.length = o.bars.length) (hd0 : d0.length = o.bars.length) (hs0 : ∀ c ∈ c0, cellShort c) (hy0 : ∀ d ∈ d0, d.length ≤ 1000000) (hc1 : c1.length = o.bars.length) (hd1 : d1.length = o.bars.length) (hs1 : ∀ c ∈ c1, cellShort c) (hy1 : ∀ d ∈ d1, d.length ≤ 1000000) (hc2 : c2.length = o.bars.length) (hd2 : d2.length = o.bars.length) (hs2 : ∀ c ∈ c2, cellShort c) (hy2 : ∀ d ∈ d2, d.length ≤ 1000000) (hts : (Sc.mk t (insL bs o.bars b) [p0.ins c0 d0 b, p1.ins c1 d1 b, p2.ins c2 d2 b]).small) : PC Tryz.prog gl 7 [(Sc.mk t bs [p0, p1, p2]).av, o.av] (fun v => v = applyRes (Sc.mk t (insL bs o.bars b) [p0.ins c0 d0 b, p1.ins c1 d1 b, p2.ins c2 d2 b]) 3 (bkL (b : Nat) (o.bars.length : Nat) [] [] [])) := by
 unfold applyRes
 by_cases htc : (Sc.mk t (insL bs o.bars b) [p0.ins c0 d0 b, p1.ins c1 d1 b, p2.ins c2 d2 b]).checkR.2 = 0
 ·rw [if_pos htc]
  exact PC.of_ownT (sty := fun _ => false) (applyIn3 t bs p0 p1 p2 o hs hchk hbl hbs hnb h0 ha0 hb0 h1 ha1 hb1 h2 ha2 hb2 hk b HB hb hbr hnb2 c0 c1 c2 d0 d1 d2 hc hd hc0 hd0 hs0 hy0 hc1 hd1 hs1 hy1 hc2 hd2 hs2 hy2 hts _ _ ⟨fun _ => ⟨rfl, rfl⟩⟩ ⟨fun h => absurd htc h⟩) 5 (by simp only [List.map_cons, List.map_nil]; rw [nowSc3 (d := 1) t _ (p0.ins c0 d0 b) (p1.ins c1 d1 b) (p2.ins c2 d2 b) (fun _ => rfl) rfl rfl rfl rfl rfl rfl rfl rfl]; rfl)
 ·rw [if_neg htc]
  exact PC.of_ownT (sty := fun _ => false) (applyIn3 t bs p0 p1 p2 o hs hchk hbl hbs hnb h0 ha0 hb0 h1 ha1 hb1 h2 ha2 hb2 hk b HB hb hbr hnb2 c0 c1 c2 d0 d1 d2 hc hd hc0 hd0 hs0 hy0 hc1 hd1 hs1 hy1 hc2 hd2 hs2 hy2 hts _ _ ⟨fun h => absurd h htc⟩ ⟨fun _ => ⟨rfl, rfl⟩⟩) 5 rfl
theorem applyOut3_pc (hk : o.kind = 3) (b c : Nat) (HB : o.bar = (b : Nat)) (HC : o.count = (c : Nat)) (hb : b + c ≤ bs.length) (hts : (Sc.mk t (delL bs b c) [p0.del b c, p1.del b c, p2.del b c]).small) : PC Tryz.prog gl 7 [(Sc.mk t bs [p0, p1, p2]).av, o.av] (fun v => v = applyRes (Sc.mk t (delL bs b c) [p0.del b c, p1.del b c, p2.del b c]) 2 (bkL (b : Nat) 0 (((bs.drop b).take c).map Ba.av) [.sl 1 (((p0.cells.drop b).take c).map cellAV) .none, .sl 1 (((p1.cells.drop b).take c).map cellAV) .none, .sl 1 (((p2.cells.drop b).take c).map cellAV) .none] [.sl 1 (((p0.dyns.drop b).take c).map dynsAV) .none, .sl 1 (((p1.dyns.drop b).take c).map dynsAV) .none, .sl 1 (((p2.dyns.drop b).take c).map dynsAV) .none])) := by
 unfold applyRes
 by_cases htc : (Sc.mk t (delL bs b c) [p0.del b c, p1.del b c, p2.del b c]).checkR.2 = 0
 ·rw [if_pos htc]
  exact PC.of_ownT (sty := fun _ => false) (applyOut3 t bs p0 p1 p2 o hs hchk hbl hbs hnb h0 ha0 hb0 h1 ha1 hb1 h2 ha2 hb2 hk b c HB HC hb hts _ _ ⟨fun _ => ⟨rfl, rfl⟩⟩ ⟨fun h => absurd htc h⟩) 5 (by simp only [List.map_cons, List.map_nil]; rw [nowSc3 (d := 1) t _ (p0.del b c) (p1.del b c) (p2.del b c) (fun _ => rfl) rfl rfl rfl rfl rfl rfl rfl rfl]; rfl)
 ·rw [if_neg htc]
  exact PC.of_ownT (sty := fun _ => false) (applyOut3 t bs p0 p1 p2 o hs hchk hbl hbs hnb h0 ha0 hb0 h1 ha1 hb1 h2 ha2 hb2 hk b c HB HC hb hts _ _ ⟨fun h => absurd h htc⟩ ⟨fun _ => ⟨rfl, rfl⟩⟩) 5 rfl
end
section
variable (t : ByteArray) (bs : List Ba) (p0 p1 p2 : Pa) (o : EOp) (hs : Sc.typed ⟨t, bs, [p0, p1, p2]⟩) (ho : o.typedB) (hf : FewT ⟨t, bs, [p0, p1, p2]⟩) (hfo : FewO o) (hsm : Sc.small ⟨t, bs, [p0, p1, p2]⟩) (hchk : (Sc.mk t bs [p0, p1, p2]).checkR.2 = 0)
include hs ho hf hfo hsm hchk
theorem barsIn3_to (hk : o.kind = 2) (b : Nat) (HB : o.bar = (b : Nat)) (hb : b ≤ bs.length) (hfc : fitB 3 o.bars.length o.cells = true) (hfd : fitB 3 o.bars.length o.dyns = true) : ∃ r, (PC Tryz.prog gl 7 [(Sc.mk t bs [p0, p1, p2]).av, o.av] (fun v => v = r)) ∧ BarsTo ⟨t, bs, [p0, p1, p2]⟩ o r := by
 have hr := right_of hchk
 have hnb : 0 < bs.length := hr.b0
 have hbl : bs.length ≤ 1000 := by have := hf.nb; simp only at this; omega
 have hbs : ∀ b ∈ bs, b.short := fun b hb' => ba_short (hf.bars b hb')
 have m0 : p0 ∈ (Sc.mk t bs [p0, p1, p2]).parts := by simp
 have h0 := pa_shortB hf m0
 obtain ⟨ha0, hb0⟩ : p0.cells.length = bs.length ∧ p0.dyns.length = bs.length := hr.len p0 m0
 have m1 : p1 ∈ (Sc.mk t bs [p0, p1, p2]).parts := by simp
 have h1 := pa_shortB hf m1
 obtain ⟨ha1, hb1⟩ : p1.cells.length = bs.length ∧ p1.dyns.length = bs.length := hr.len p1 m1
 have m2 : p2 ∈ (Sc.mk t bs [p0, p1, p2]).parts := by simp
 have h2 := pa_shortB hf m2
 obtain ⟨ha2, hb2⟩ : p2.cells.length = bs.length ∧ p2.dyns.length = bs.length := hr.len p2 m2
 obtain ⟨lc, hcl⟩ := fitB_true hfc
 obtain ⟨ld, hdl⟩ := fitB_true hfd
 obtain ⟨c0, c1, c2, hc⟩ := len_is3 lc
 obtain ⟨d0, d1, d2, hd⟩ := len_is3 ld
 have mc0 : c0 ∈ o.cells := by rw [hc]; simp
 have md0 : d0 ∈ o.dyns := by rw [hd]; simp
 have mc1 : c1 ∈ o.cells := by rw [hc]; simp
 have md1 : d1 ∈ o.dyns := by rw [hd]; simp
 have mc2 : c2 ∈ o.cells := by rw [hc]; simp
 have md2 : d2 ∈ o.dyns := by rw [hd]; simp
 have hts : (Sc.mk t (insL bs o.bars b) [p0.ins c0 d0 b, p1.ins c1 d1 b, p2.ins c2 d2 b]).small := ⟨fun x hx => (mem_ins hx).elim (fun h => hsm.bars x h) (fun h => ba_ok (hfo.bars.2 x h) (ho.bars x h)), fun p hp => by
  simp only [List.mem_cons, List.not_mem_nil, or_false] at hp
  rcases hp with rfl | rfl | rfl
  ·exact pa_smallI hf hs m0 (fun x hx => (hfo.cells c0 mc0).2 x hx) (fun x hx => ⟨(hfo.dyns d0 md0).2 x hx, ho.dyns d0 md0 x hx⟩) b
  ·exact pa_smallI hf hs m1 (fun x hx => (hfo.cells c1 mc1).2 x hx) (fun x hx => ⟨(hfo.dyns d1 md1).2 x hx, ho.dyns d1 md1 x hx⟩) b
  ·exact pa_smallI hf hs m2 (fun x hx => (hfo.cells c2 mc2).2 x hx) (fun x hx => ⟨(hfo.dyns d2 md2).2 x hx, ho.dyns d2 md2 x hx⟩) b
  , by show (insL bs o.bars b).length ≤ 1000000; rw [insL_len hb]; have := hfo.bars.1; omega, by simp⟩
 refine ⟨_, applyIn3_pc t bs p0 p1 p2 o hsm hchk hbl hbs hnb h0 ha0 hb0 h1 ha1 hb1 h2 ha2 hb2 hk b HB hb (fun x hx => ba_short (hfo.bars.2 x hx)) (by have := hfo.bars.1; omega) c0 c1 c2 d0 d1 d2 hc hd (hcl c0 mc0) (hdl d0 md0) (fun x hx => ce_short ((hfo.cells c0 mc0).2 x hx)) (fun x hx => by have := fewDy_small ((hfo.dyns d0 md0).2 x hx); omega) (hcl c1 mc1) (hdl d1 md1) (fun x hx => ce_short ((hfo.cells c1 mc1).2 x hx)) (fun x hx => by have := fewDy_small ((hfo.dyns d1 md1).2 x hx); omega) (hcl c2 mc2) (hdl d2 md2) (fun x hx => ce_short ((hfo.cells c2 mc2).2 x hx)) (fun x hx => by have := fewDy_small ((hfo.dyns d2 md2).2 x hx); omega) hts, res_to (by rw [hk]; rfl) ?_ rfl⟩
 show ((insL bs o.bars b).length : Int) = _
 rw [insL_len hb, if_pos hk]; show _ = (bs.length : Int) + _; omega
omit ho hfo in
theorem barsOut3_to (hk : o.kind = 3) (b c : Nat) (HB : o.bar = (b : Nat)) (HC : o.count = (c : Nat)) (hb : b + c ≤ bs.length) : ∃ r, (PC Tryz.prog gl 7 [(Sc.mk t bs [p0, p1, p2]).av, o.av] (fun v => v = r)) ∧ BarsTo ⟨t, bs, [p0, p1, p2]⟩ o r := by
 have hr := right_of hchk
 have hnb : 0 < bs.length := hr.b0
 have hbl : bs.length ≤ 1000 := by have := hf.nb; simp only at this; omega
 have hbs : ∀ b ∈ bs, b.short := fun b hb' => ba_short (hf.bars b hb')
 have m0 : p0 ∈ (Sc.mk t bs [p0, p1, p2]).parts := by simp
 have h0 := pa_shortB hf m0
 obtain ⟨ha0, hb0⟩ : p0.cells.length = bs.length ∧ p0.dyns.length = bs.length := hr.len p0 m0
 have m1 : p1 ∈ (Sc.mk t bs [p0, p1, p2]).parts := by simp
 have h1 := pa_shortB hf m1
 obtain ⟨ha1, hb1⟩ : p1.cells.length = bs.length ∧ p1.dyns.length = bs.length := hr.len p1 m1
 have m2 : p2 ∈ (Sc.mk t bs [p0, p1, p2]).parts := by simp
 have h2 := pa_shortB hf m2
 obtain ⟨ha2, hb2⟩ : p2.cells.length = bs.length ∧ p2.dyns.length = bs.length := hr.len p2 m2
 have hts : (Sc.mk t (delL bs b c) [p0.del b c, p1.del b c, p2.del b c]).small := ⟨fun x hx => hsm.bars x (mem_del hx), fun p hp => by
  simp only [List.mem_cons, List.not_mem_nil, or_false] at hp
  rcases hp with rfl | rfl | rfl
  ·exact pa_smallD hf hs m0 b c
  ·exact pa_smallD hf hs m1 b c
  ·exact pa_smallD hf hs m2 b c
  , by show (delL bs b c).length ≤ 1000000; rw [delL_len hb]; omega, by simp⟩
 refine ⟨_, applyOut3_pc t bs p0 p1 p2 o hsm hchk hbl hbs hnb h0 ha0 hb0 h1 ha1 hb1 h2 ha2 hb2 hk b c HB HC hb hts, res_to (by rw [hk]; rfl) ?_ rfl⟩
 show ((delL bs b c).length : Int) = _
 rw [delL_len hb, if_neg (by rw [hk]; decide), HC]; show _ = (bs.length : Int) + _; omega
end
section
variable (t : ByteArray) (bs : List Ba) (p0 p1 p2 p3 : Pa) (o : EOp) (hs : Sc.small ⟨t, bs, [p0, p1, p2, p3]⟩) (hchk : (Sc.mk t bs [p0, p1, p2, p3]).checkR.2 = 0) (hbl : bs.length ≤ 1000) (hbs : ∀ b ∈ bs, b.short) (hnb : 0 < bs.length) (h0 : p0.shortB) (ha0 : p0.cells.length = bs.length) (hb0 : p0.dyns.length = bs.length) (h1 : p1.shortB) (ha1 : p1.cells.length = bs.length) (hb1 : p1.dyns.length = bs.length) (h2 : p2.shortB) (ha2 : p2.cells.length = bs.length) (hb2 : p2.dyns.length = bs.length) (h3 : p3.shortB) (ha3 : p3.cells.length = bs.length) (hb3 : p3.dyns.length = bs.length)
include hs hchk hbl hbs hnb h0 ha0 hb0 h1 ha1 hb1 h2 ha2 hb2 h3 ha3 hb3
theorem applyIn4_pc (hk : o.kind = 2) (b : Nat) (HB : o.bar = (b : Nat)) (hb : b ≤ bs.length) (hbr : ∀ x ∈ o.bars, x.short) (hnb2 : o.bars.length ≤ 1000) (c0 c1 c2 c3 : List (List Vo)) (d0 d1 d2 d3 : List (List Dy)) (hc : o.cells = [c0, c1, c2, c3]) (hd : o.dyns = [d0, d1, d2, d3]) (hc0 : c0.length = o.bars.length) (hd0 : d0.length = o.bars.length) (hs0 : ∀ c ∈ c0, cellShort c) (hy0 : ∀ d ∈ d0, d.length ≤ 1000000) (hc1 : c1.length = o.bars.length) (hd1 : d1.length = o.bars.length) (hs1 : ∀ c ∈ c1, cellShort c) (hy1 : ∀ d ∈ d1, d.length ≤ 1000000) (hc2 : c2.length = o.bars.length) (hd2 : d2.length = o.bars.length) (hs2 : ∀ c ∈ c2, cellShort c) (hy2 : ∀ d ∈ d2, d.length ≤ 1000000) (hc3 : c3.length = o.bars.length) (hd3 : d3.length = o.bars.length) (hs3 : ∀ c ∈ c3, cellShort c) (hy3 : ∀ d ∈ d3, d.length ≤ 1000000) (hts : (Sc.mk t (insL bs o.bars b) [p0.ins c0 d0 b, p1.ins c1 d1 b, p2.ins c2 d2 b, p3.ins c3 d3 b]).small) : PC Tryz.prog gl 7 [(Sc.mk t bs [p0, p1, p2, p3]).av, o.av] (fun v => v = applyRes (Sc.mk t (insL bs o.bars b) [p0.ins c0 d0 b, p1.ins c1 d1 b, p2.ins c2 d2 b, p3.ins c3 d3 b]) 3 (bkL (b : Nat) (o.bars.length : Nat) [] [] [])) := by
 unfold applyRes
 by_cases htc : (Sc.mk t (insL bs o.bars b) [p0.ins c0 d0 b, p1.ins c1 d1 b, p2.ins c2 d2 b, p3.ins c3 d3 b]).checkR.2 = 0
 ·rw [if_pos htc]
  exact PC.of_ownT (sty := fun _ => false) (applyIn4 t bs p0 p1 p2 p3 o hs hchk hbl hbs hnb h0 ha0 hb0 h1 ha1 hb1 h2 ha2 hb2 h3 ha3 hb3 hk b HB hb hbr hnb2 c0 c1 c2 c3 d0 d1 d2 d3 hc hd hc0 hd0 hs0 hy0 hc1 hd1 hs1 hy1 hc2 hd2 hs2 hy2 hc3 hd3 hs3 hy3 hts _ _ ⟨fun _ => ⟨rfl, rfl⟩⟩ ⟨fun h => absurd htc h⟩) 5 (by simp only [List.map_cons, List.map_nil]; rw [nowSc4 (d := 1) t _ (p0.ins c0 d0 b) (p1.ins c1 d1 b) (p2.ins c2 d2 b) (p3.ins c3 d3 b) (fun _ => rfl) rfl rfl rfl rfl rfl rfl rfl rfl rfl rfl]; rfl)
 ·rw [if_neg htc]
  exact PC.of_ownT (sty := fun _ => false) (applyIn4 t bs p0 p1 p2 p3 o hs hchk hbl hbs hnb h0 ha0 hb0 h1 ha1 hb1 h2 ha2 hb2 h3 ha3 hb3 hk b HB hb hbr hnb2 c0 c1 c2 c3 d0 d1 d2 d3 hc hd hc0 hd0 hs0 hy0 hc1 hd1 hs1 hy1 hc2 hd2 hs2 hy2 hc3 hd3 hs3 hy3 hts _ _ ⟨fun h => absurd h htc⟩ ⟨fun _ => ⟨rfl, rfl⟩⟩) 5 rfl
theorem applyOut4_pc (hk : o.kind = 3) (b c : Nat) (HB : o.bar = (b : Nat)) (HC : o.count = (c : Nat)) (hb : b + c ≤ bs.length) (hts : (Sc.mk t (delL bs b c) [p0.del b c, p1.del b c, p2.del b c, p3.del b c]).small) : PC Tryz.prog gl 7 [(Sc.mk t bs [p0, p1, p2, p3]).av, o.av] (fun v => v = applyRes (Sc.mk t (delL bs b c) [p0.del b c, p1.del b c, p2.del b c, p3.del b c]) 2 (bkL (b : Nat) 0 (((bs.drop b).take c).map Ba.av) [.sl 1 (((p0.cells.drop b).take c).map cellAV) .none, .sl 1 (((p1.cells.drop b).take c).map cellAV) .none, .sl 1 (((p2.cells.drop b).take c).map cellAV) .none, .sl 1 (((p3.cells.drop b).take c).map cellAV) .none] [.sl 1 (((p0.dyns.drop b).take c).map dynsAV) .none, .sl 1 (((p1.dyns.drop b).take c).map dynsAV) .none, .sl 1 (((p2.dyns.drop b).take c).map dynsAV) .none, .sl 1 (((p3.dyns.drop b).take c).map dynsAV) .none])) := by
 unfold applyRes
 by_cases htc : (Sc.mk t (delL bs b c) [p0.del b c, p1.del b c, p2.del b c, p3.del b c]).checkR.2 = 0
 ·rw [if_pos htc]
  exact PC.of_ownT (sty := fun _ => false) (applyOut4 t bs p0 p1 p2 p3 o hs hchk hbl hbs hnb h0 ha0 hb0 h1 ha1 hb1 h2 ha2 hb2 h3 ha3 hb3 hk b c HB HC hb hts _ _ ⟨fun _ => ⟨rfl, rfl⟩⟩ ⟨fun h => absurd htc h⟩) 5 (by simp only [List.map_cons, List.map_nil]; rw [nowSc4 (d := 1) t _ (p0.del b c) (p1.del b c) (p2.del b c) (p3.del b c) (fun _ => rfl) rfl rfl rfl rfl rfl rfl rfl rfl rfl rfl]; rfl)
 ·rw [if_neg htc]
  exact PC.of_ownT (sty := fun _ => false) (applyOut4 t bs p0 p1 p2 p3 o hs hchk hbl hbs hnb h0 ha0 hb0 h1 ha1 hb1 h2 ha2 hb2 h3 ha3 hb3 hk b c HB HC hb hts _ _ ⟨fun h => absurd h htc⟩ ⟨fun _ => ⟨rfl, rfl⟩⟩) 5 rfl
end
section
variable (t : ByteArray) (bs : List Ba) (p0 p1 p2 p3 : Pa) (o : EOp) (hs : Sc.typed ⟨t, bs, [p0, p1, p2, p3]⟩) (ho : o.typedB) (hf : FewT ⟨t, bs, [p0, p1, p2, p3]⟩) (hfo : FewO o) (hsm : Sc.small ⟨t, bs, [p0, p1, p2, p3]⟩) (hchk : (Sc.mk t bs [p0, p1, p2, p3]).checkR.2 = 0)
include hs ho hf hfo hsm hchk
theorem barsIn4_to (hk : o.kind = 2) (b : Nat) (HB : o.bar = (b : Nat)) (hb : b ≤ bs.length) (hfc : fitB 4 o.bars.length o.cells = true) (hfd : fitB 4 o.bars.length o.dyns = true) : ∃ r, (PC Tryz.prog gl 7 [(Sc.mk t bs [p0, p1, p2, p3]).av, o.av] (fun v => v = r)) ∧ BarsTo ⟨t, bs, [p0, p1, p2, p3]⟩ o r := by
 have hr := right_of hchk
 have hnb : 0 < bs.length := hr.b0
 have hbl : bs.length ≤ 1000 := by have := hf.nb; simp only at this; omega
 have hbs : ∀ b ∈ bs, b.short := fun b hb' => ba_short (hf.bars b hb')
 have m0 : p0 ∈ (Sc.mk t bs [p0, p1, p2, p3]).parts := by simp
 have h0 := pa_shortB hf m0
 obtain ⟨ha0, hb0⟩ : p0.cells.length = bs.length ∧ p0.dyns.length = bs.length := hr.len p0 m0
 have m1 : p1 ∈ (Sc.mk t bs [p0, p1, p2, p3]).parts := by simp
 have h1 := pa_shortB hf m1
 obtain ⟨ha1, hb1⟩ : p1.cells.length = bs.length ∧ p1.dyns.length = bs.length := hr.len p1 m1
 have m2 : p2 ∈ (Sc.mk t bs [p0, p1, p2, p3]).parts := by simp
 have h2 := pa_shortB hf m2
 obtain ⟨ha2, hb2⟩ : p2.cells.length = bs.length ∧ p2.dyns.length = bs.length := hr.len p2 m2
 have m3 : p3 ∈ (Sc.mk t bs [p0, p1, p2, p3]).parts := by simp
 have h3 := pa_shortB hf m3
 obtain ⟨ha3, hb3⟩ : p3.cells.length = bs.length ∧ p3.dyns.length = bs.length := hr.len p3 m3
 obtain ⟨lc, hcl⟩ := fitB_true hfc
 obtain ⟨ld, hdl⟩ := fitB_true hfd
 obtain ⟨c0, c1, c2, c3, hc⟩ := len_is4 lc
 obtain ⟨d0, d1, d2, d3, hd⟩ := len_is4 ld
 have mc0 : c0 ∈ o.cells := by rw [hc]; simp
 have md0 : d0 ∈ o.dyns := by rw [hd]; simp
 have mc1 : c1 ∈ o.cells := by rw [hc]; simp
 have md1 : d1 ∈ o.dyns := by rw [hd]; simp
 have mc2 : c2 ∈ o.cells := by rw [hc]; simp
 have md2 : d2 ∈ o.dyns := by rw [hd]; simp
 have mc3 : c3 ∈ o.cells := by rw [hc]; simp
 have md3 : d3 ∈ o.dyns := by rw [hd]; simp
 have hts : (Sc.mk t (insL bs o.bars b) [p0.ins c0 d0 b, p1.ins c1 d1 b, p2.ins c2 d2 b, p3.ins c3 d3 b]).small := ⟨fun x hx => (mem_ins hx).elim (fun h => hsm.bars x h) (fun h => ba_ok (hfo.bars.2 x h) (ho.bars x h)), fun p hp => by
  simp only [List.mem_cons, List.not_mem_nil, or_false] at hp
  rcases hp with rfl | rfl | rfl | rfl
  ·exact pa_smallI hf hs m0 (fun x hx => (hfo.cells c0 mc0).2 x hx) (fun x hx => ⟨(hfo.dyns d0 md0).2 x hx, ho.dyns d0 md0 x hx⟩) b
  ·exact pa_smallI hf hs m1 (fun x hx => (hfo.cells c1 mc1).2 x hx) (fun x hx => ⟨(hfo.dyns d1 md1).2 x hx, ho.dyns d1 md1 x hx⟩) b
  ·exact pa_smallI hf hs m2 (fun x hx => (hfo.cells c2 mc2).2 x hx) (fun x hx => ⟨(hfo.dyns d2 md2).2 x hx, ho.dyns d2 md2 x hx⟩) b
  ·exact pa_smallI hf hs m3 (fun x hx => (hfo.cells c3 mc3).2 x hx) (fun x hx => ⟨(hfo.dyns d3 md3).2 x hx, ho.dyns d3 md3 x hx⟩) b
  , by show (insL bs o.bars b).length ≤ 1000000; rw [insL_len hb]; have := hfo.bars.1; omega, by simp⟩
 refine ⟨_, applyIn4_pc t bs p0 p1 p2 p3 o hsm hchk hbl hbs hnb h0 ha0 hb0 h1 ha1 hb1 h2 ha2 hb2 h3 ha3 hb3 hk b HB hb (fun x hx => ba_short (hfo.bars.2 x hx)) (by have := hfo.bars.1; omega) c0 c1 c2 c3 d0 d1 d2 d3 hc hd (hcl c0 mc0) (hdl d0 md0) (fun x hx => ce_short ((hfo.cells c0 mc0).2 x hx)) (fun x hx => by have := fewDy_small ((hfo.dyns d0 md0).2 x hx); omega) (hcl c1 mc1) (hdl d1 md1) (fun x hx => ce_short ((hfo.cells c1 mc1).2 x hx)) (fun x hx => by have := fewDy_small ((hfo.dyns d1 md1).2 x hx); omega) (hcl c2 mc2) (hdl d2 md2) (fun x hx => ce_short ((hfo.cells c2 mc2).2 x hx)) (fun x hx => by have := fewDy_small ((hfo.dyns d2 md2).2 x hx); omega) (hcl c3 mc3) (hdl d3 md3) (fun x hx => ce_short ((hfo.cells c3 mc3).2 x hx)) (fun x hx => by have := fewDy_small ((hfo.dyns d3 md3).2 x hx); omega) hts, res_to (by rw [hk]; rfl) ?_ rfl⟩
 show ((insL bs o.bars b).length : Int) = _
 rw [insL_len hb, if_pos hk]; show _ = (bs.length : Int) + _; omega
omit ho hfo in
theorem barsOut4_to (hk : o.kind = 3) (b c : Nat) (HB : o.bar = (b : Nat)) (HC : o.count = (c : Nat)) (hb : b + c ≤ bs.length) : ∃ r, (PC Tryz.prog gl 7 [(Sc.mk t bs [p0, p1, p2, p3]).av, o.av] (fun v => v = r)) ∧ BarsTo ⟨t, bs, [p0, p1, p2, p3]⟩ o r := by
 have hr := right_of hchk
 have hnb : 0 < bs.length := hr.b0
 have hbl : bs.length ≤ 1000 := by have := hf.nb; simp only at this; omega
 have hbs : ∀ b ∈ bs, b.short := fun b hb' => ba_short (hf.bars b hb')
 have m0 : p0 ∈ (Sc.mk t bs [p0, p1, p2, p3]).parts := by simp
 have h0 := pa_shortB hf m0
 obtain ⟨ha0, hb0⟩ : p0.cells.length = bs.length ∧ p0.dyns.length = bs.length := hr.len p0 m0
 have m1 : p1 ∈ (Sc.mk t bs [p0, p1, p2, p3]).parts := by simp
 have h1 := pa_shortB hf m1
 obtain ⟨ha1, hb1⟩ : p1.cells.length = bs.length ∧ p1.dyns.length = bs.length := hr.len p1 m1
 have m2 : p2 ∈ (Sc.mk t bs [p0, p1, p2, p3]).parts := by simp
 have h2 := pa_shortB hf m2
 obtain ⟨ha2, hb2⟩ : p2.cells.length = bs.length ∧ p2.dyns.length = bs.length := hr.len p2 m2
 have m3 : p3 ∈ (Sc.mk t bs [p0, p1, p2, p3]).parts := by simp
 have h3 := pa_shortB hf m3
 obtain ⟨ha3, hb3⟩ : p3.cells.length = bs.length ∧ p3.dyns.length = bs.length := hr.len p3 m3
 have hts : (Sc.mk t (delL bs b c) [p0.del b c, p1.del b c, p2.del b c, p3.del b c]).small := ⟨fun x hx => hsm.bars x (mem_del hx), fun p hp => by
  simp only [List.mem_cons, List.not_mem_nil, or_false] at hp
  rcases hp with rfl | rfl | rfl | rfl
  ·exact pa_smallD hf hs m0 b c
  ·exact pa_smallD hf hs m1 b c
  ·exact pa_smallD hf hs m2 b c
  ·exact pa_smallD hf hs m3 b c
  , by show (delL bs b c).length ≤ 1000000; rw [delL_len hb]; omega, by simp⟩
 refine ⟨_, applyOut4_pc t bs p0 p1 p2 p3 o hsm hchk hbl hbs hnb h0 ha0 hb0 h1 ha1 hb1 h2 ha2 hb2 h3 ha3 hb3 hk b c HB HC hb hts, res_to (by rw [hk]; rfl) ?_ rfl⟩
 show ((delL bs b c).length : Int) = _
 rw [delL_len hb, if_neg (by rw [hk]; decide), HC]; show _ = (bs.length : Int) + _; omega
end
theorem bars_to (s : Sc) (o : EOp) (hs : s.typed) (ho : o.typed) (hoB : o.typedB) (h1 : s.fewB = true) (h2 : o.fewB = true) (hk : o.kind = 2 ∨ o.kind = 3) : ∃ r, (PC Tryz.prog gl 7 [s.av, o.av] (fun v => v = r)) ∧ BarsTo s o r := by
 obtain ⟨hsm, hend, -⟩ := few_small hs h1
 by_cases hchk : s.checkR.2 = 0
 rotate_left
 ·exact ⟨_, apply_unright s o hsm hchk, .inl ⟨_, hchk, rfl⟩⟩
 have hr := right_of hchk
 have hg := good_of hr hsm hend
 have hf := few_tells h1
 have hfo := fewO_tells h2
 have hbl : s.bars.length ≤ 1000 := by have := hf.nb; omega
 have e90 : ∀ {P : Prop}, (PC Tryz.prog gl 7 [s.av, o.av] (fun v => v = errR 90)) → ∃ r, (PC Tryz.prog gl 7 [s.av, o.av] (fun v => v = r)) ∧ BarsTo s o r := fun h => ⟨_, h, .inl ⟨90, by decide, rfl⟩⟩
 rcases hk with hk | hk
 ·by_cases hB : 0 ≤ o.bar ∧ o.bar < ((s.bars.length : Nat) : Int) + 1
  rotate_left
  ·exact e90 (P := True) (apply_noIn s o hk hsm hg hchk hbl hB)
  cases hfc : fitB s.parts.length o.bars.length o.cells with
  | false => exact e90 (P := True) (apply_noCe s o hk hsm hg hchk hbl (by have := hfo.nc; omega) hB hfc)
  | true =>
   cases hfd : fitB s.parts.length o.bars.length o.dyns with
   | false => exact e90 (P := True) (apply_noDy s o hk hsm hg hchk hbl (by have := hfo.nc; omega) (by have := hfo.nd; omega) hB hfc hfd)
   | true =>
    obtain ⟨b, hb, -⟩ := nat_of (n := s.bars.length + 1) (x := o.bar) (by omega)
    obtain ⟨t, bs, ps⟩ := s
    match ps, hf.np, hr.p0, hs, hf, hsm, hchk, hfc, hfd with
    | [p0], _, _, hs, hf, hsm, hchk, hfc, hfd => exact barsIn1_to t bs p0 o hs hoB hf hfo hsm hchk hk b hb (by simp only at hB; omega) hfc hfd
    | [p0, p1], _, _, hs, hf, hsm, hchk, hfc, hfd => exact barsIn2_to t bs p0 p1 o hs hoB hf hfo hsm hchk hk b hb (by simp only at hB; omega) hfc hfd
    | [p0, p1, p2], _, _, hs, hf, hsm, hchk, hfc, hfd => exact barsIn3_to t bs p0 p1 p2 o hs hoB hf hfo hsm hchk hk b hb (by simp only at hB; omega) hfc hfd
    | [p0, p1, p2, p3], _, _, hs, hf, hsm, hchk, hfc, hfd => exact barsIn4_to t bs p0 p1 p2 p3 o hs hoB hf hfo hsm hchk hk b hb (by simp only at hB; omega) hfc hfd
    | [], _, h, _, _, _, _, _, _ => simp at h
    | _ :: _ :: _ :: _ :: _ :: _, h, _, _, _, _, _, _, _ => simp at h <;> omega
 ·by_cases hS : 0 ≤ o.bar ∧ 0 ≤ o.count ∧ o.bar ≤ ((s.bars.length : Nat) : Int) ∧ o.count ≤ ((s.bars.length : Nat) : Int) - o.bar
  rotate_left
  ·exact e90 (P := True) (apply_noOut s o hk hsm hg hchk hbl hoB.bar hS)
  obtain ⟨b, hb, -⟩ := nat_of (n := s.bars.length + 1) (x := o.bar) (by omega)
  obtain ⟨c, hc, -⟩ := nat_of (n := s.bars.length + 1) (x := o.count) (by omega)
  obtain ⟨t, bs, ps⟩ := s
  match ps, hf.np, hr.p0, hs, hf, hsm, hchk with
  | [p0], _, _, hs, hf, hsm, hchk => exact barsOut1_to t bs p0 o hs hf hsm hchk hk b c hb hc (by simp only at hS; omega)
  | [p0, p1], _, _, hs, hf, hsm, hchk => exact barsOut2_to t bs p0 p1 o hs hf hsm hchk hk b c hb hc (by simp only at hS; omega)
  | [p0, p1, p2], _, _, hs, hf, hsm, hchk => exact barsOut3_to t bs p0 p1 p2 o hs hf hsm hchk hk b c hb hc (by simp only at hS; omega)
  | [p0, p1, p2, p3], _, _, hs, hf, hsm, hchk => exact barsOut4_to t bs p0 p1 p2 p3 o hs hf hsm hchk hk b c hb hc (by simp only at hS; omega)
  | [], _, h, _, _, _, _ => simp at h
  | _ :: _ :: _ :: _ :: _ :: _, h, _, _, _, _, _ => simp at h <;> omega
end Go.Proofs.Pv
