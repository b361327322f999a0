/-
  Layer 8's check of a score: lists of pitches, places that rise, bars, parts.
  Conditions: the lists are not longer than a machine's memory; the numbers are machine numbers.
-/
import Derived.Test.YtiikpmhjckdpgaaGreatDoorC08e
namespace Go.Proofs.Pv
open Go Go.Proofs
set_option linter.unusedSimpArgs false
set_option linter.unusedVariables false
set_option maxRecDepth 10000
set_option maxHeartbeats 4000000
def Pi.same (a b : Pi) : Bool := (a.step == b.step) && ((a.alter == b.alter) && (a.octave == b.octave))
theorem indexPi_ok (l : List Pi) (x : Pi) (hl : l.length ≤ 1000000) : PC Tryz.prog gl 122 [.sl 3 (l.map Pi.av) .none, x.av] (fun v => v = .int .i64 (firstI (fun y => x.same y) l)) := by
 (refine PC.introY 2 mix (fn := Tryz.f122) Tryz.func122 rfl (names 122 _ Tryz.func122) fun F hF hro W => ?_; simp -implicitDefEqProofs only [Tryz.ntmps122, Tryz.results122, entL, Nat.reduceAdd, Nat.reduceSub])
 repeat' (simp -implicitDefEqProofs (disch := first | assumption | omega) only [runsY, lstY, facts, Nat.reduceAdd, Int.reduceNeg, Pi.av, *])
 refine OY_for (mkM 19 [0, 3, 7, 8]) [] 100 l.length (fun i (_ : Unit) => ⟨[.sl 3 (l.map Pi.av) .none, .ud, .ud, .ptr 0 0, .ud, .ud, .ud, .int .i64 (l.length : Nat), .int .i64 (i : Nat), .ud, .ud, .ud, .ud, .ud, .ud, .ud, .ud, .ud, .ud], []⟩) (fun _ _ => ⟨[(0, .cells [.int .i64 x.step, .int .i64 x.alter, .int .i64 x.octave])], 100⟩) (fun i _ => ∀ j, j < i → ∀ h : j < l.length, x.same l[j] = false) () prev0 rfl rfl ?_
 rintro i ⟨⟩ hi hQ
 repeat' (first
  | simp -implicitDefEqProofs (disch := first | assumption | omega) only [runsY, lstY, facts, if_pos, Nat.reduceAdd, Int.reduceNeg, wrap_in, List.getElem?_eq_getElem, Pi.av, *]
  | ((with_reducible refine condK_dec (fun _ => ?_) (fun _ => ?_)) <;> try omega)
  | ((with_reducible refine condK_split (fun _ => ?_) (fun _ => ?_)) <;> try omega)
  | ((with_reducible refine OY_drawn ?_); refine OY_draw' _ rfl (by decide +kernel) ?_))
 ·rename_i h1 h2
  rw [firstI_hit (p := fun y => x.same y) (i := i) (by omega) h2 fun j h h' => hQ j h' h]
 ·rename_i h1 h2
  exact OY_next () (by omega) (prevN hQ fun _ => h2) rfl rfl
 ·rename_i h1
  rw [firstI_none (p := fun y => x.same y) fun j h => hQ j (by omega) h]
theorem containsPi_ok (l : List Pi) (x : Pi) (hl : l.length ≤ 1000000) : PC Tryz.prog gl 79 [.sl 3 (l.map Pi.av) .none, x.av] (fun v => v = .bool (l.any fun y => x.same y)) := by
 (refine PC.introY 1 mix (fn := Tryz.f79) Tryz.func79 rfl (names 79 _ Tryz.func79) fun F hF hro W => ?_; simp -implicitDefEqProofs only [Tryz.ntmps79, Tryz.results79, entL, Nat.reduceAdd, Nat.reduceSub])
 repeat' (first
  | simp -implicitDefEqProofs (disch := first | assumption | omega) only [runsY, lstY, facts, if_pos, Nat.reduceAdd, Pi.av, *]
  | ((with_reducible refine OY_at 122 ?_); refine PC.useY hF (indexPi_ok l x hl) (rfl) fun v hv => ?_; subst hv))
 all_goals rw [firstI_ge]
def nameEv (s : ByteArray) : Ev := ⟨1, [⟨0, 0, 4⟩], [false], ⟨0, 0, 0, 0⟩, [], s⟩
theorem nameEv_small (s : ByteArray) : (nameEv s).small := ⟨by show 1 ≤ _; omega, by show 1 ≤ _; omega, by show 0 ≤ _; omega⟩
def nameB (s : ByteArray) : Bool := decide (s.size ≤ 40) && (nameEv s).right
theorem name_ok (s : ByteArray) : PC Tryz.prog gl 30 [.str s] (fun v => v = .bool (nameB s)) := by
 (refine PC.introY 1 mix (fn := Tryz.f30) Tryz.func30 rfl (names 30 _ Tryz.func30) fun F hF hro W => ?_; simp -implicitDefEqProofs only [Tryz.ntmps30, Tryz.results30, entL, Nat.reduceAdd, Nat.reduceSub])
 repeat' (first
  | simp -implicitDefEqProofs (disch := first | assumption | omega) only [runsY, lstY, facts, if_pos, Nat.reduceAdd, Nat.reduceLT, Nat.reduceLeDiff, *]
  | ((with_reducible refine sstep_dec (fun _ => ?_) (fun _ => ?_)) <;> try omega)
  | ((with_reducible refine OY_at 68 ?_); refine PC.useY hF (eventRight_ok (nameEv s) (nameEv_small s)) (rfl) fun v hv => ?_; subst hv))
 ·rename_i h
  have : decide (s.size ≤ 40) = true := decide_eq_true (by omega)
  rw [nameB, this, Bool.true_and]
 ·rename_i h
  have : decide (s.size ≤ 40) = false := decide_eq_false (by omega)
  rw [nameB, this, Bool.false_and]
theorem bar1_ok (t : Te) : PC Tryz.prog gl 70 [t.av] (fun v => v = t.at_.av) := by
 (refine PC.introY 1 mix (fn := Tryz.f70) Tryz.func70 rfl (names 70 _ Tryz.func70) fun F hF hro W => ?_; simp -implicitDefEqProofs only [Tryz.ntmps70, Tryz.results70, entL, Nat.reduceAdd, Nat.reduceSub])
 repeat' (simp -implicitDefEqProofs (disch := first | assumption | omega) only [runsY, lstY, facts, if_pos, Nat.reduceAdd, Nat.reduceEqDiff, Nat.reduceLeDiff, Te.av, Ra.av, *])
theorem loud1_ok (t : Dy) : PC Tryz.prog gl 118 [t.av] (fun v => v = t.at_.av) := by
 (refine PC.introY 1 mix (fn := Tryz.f118) Tryz.func118 rfl (names 118 _ Tryz.func118) fun F hF hro W => ?_; simp -implicitDefEqProofs only [Tryz.ntmps118, Tryz.results118, entL, Nat.reduceAdd, Nat.reduceSub])
 repeat' (simp -implicitDefEqProofs (disch := first | assumption | omega) only [runsY, lstY, facts, if_pos, Nat.reduceAdd, Nat.reduceEqDiff, Nat.reduceLeDiff, Dy.av, Ra.av, *])
def Te.odd (t : Te) : Bool := decide (t.micros < 100000) || decide (t.micros > 4000000)
def Dy.odd (t : Dy) : Bool := decide (t.level < 1) || decide (t.level > 127)
theorem bar2_ok (t : Te) : PC Tryz.prog gl 71 [t.av] (fun v => v = .bool t.odd) := by
 (refine PC.introY 1 mix (fn := Tryz.f71) Tryz.func71 rfl (names 71 _ Tryz.func71) fun F hF hro W => ?_; simp -implicitDefEqProofs only [Tryz.ntmps71, Tryz.results71, entL, Nat.reduceAdd, Nat.reduceSub])
 repeat' (first
  | simp -implicitDefEqProofs (disch := first | assumption | omega) only [runsY, lstY, facts, if_pos, Nat.reduceAdd, Nat.reduceLeDiff, Te.av, *]
  | ((with_reducible refine sstep_ndec (fun _ => ?_) (fun _ => ?_)) <;> try omega))
 all_goals first | grind [Te.odd] | (simp_all [Te.odd]; done) | (simp [Te.odd, *]; omega)
theorem loud2_ok (t : Dy) : PC Tryz.prog gl 119 [t.av] (fun v => v = .bool t.odd) := by
 (refine PC.introY 1 mix (fn := Tryz.f119) Tryz.func119 rfl (names 119 _ Tryz.func119) fun F hF hro W => ?_; simp -implicitDefEqProofs only [Tryz.ntmps119, Tryz.results119, entL, Nat.reduceAdd, Nat.reduceSub])
 repeat' (first
  | simp -implicitDefEqProofs (disch := first | assumption | omega) only [runsY, lstY, facts, if_pos, Nat.reduceAdd, Nat.reduceLeDiff, Dy.av, *]
  | ((with_reducible refine sstep_ndec (fun _ => ?_) (fun _ => ?_)) <;> try omega))
 all_goals first | grind [Dy.odd] | (simp_all [Dy.odd]; done) | (simp [Dy.odd, *]; omega)
theorem take_map_succ {α β : Type} {f : α → β} {l : List α} {i : Nat} (h : i < l.length) : (l.take (i + 1)).map f = (l.take i).map f ++ [f l[i]] := by
 rw [List.take_add_one, List.getElem?_eq_getElem h, Option.toList_some, List.map_append]; rfl
def tkS (n1 : Nat) (k : Nat) (x : Tk) : St := match x with
 | .tok _ => ⟨[(k, .tok)], n1⟩
 | _ => ⟨[], n1⟩
theorem placesTe_ok (l : List Te) (hl : l.length ≤ 1000000) : PC Tryz.prog gl 74 [.sl 4 (l.map Te.av) .none, .fn 70 [] []] (fun v => v = .sl 2 (l.map fun t => t.at_.av) .none) := by
 (refine PC.introY 2 mix (fn := Tryz.f74) Tryz.func74 rfl (names 74 _ Tryz.func74) fun F hF hro W => ?_; simp -implicitDefEqProofs only [Tryz.ntmps74, Tryz.results74, entL, Nat.reduceAdd, Nat.reduceSub])
 repeat' (simp -implicitDefEqProofs (disch := first | assumption | omega) only [runsY, lstY, facts, Nat.reduceAdd, *])
 refine OY_for (mkM 21 [1, 4, 7, 8, 9]) [(4, 100)] 101 l.length (fun i (x : Tk) => ⟨[.ud, .fn 70 [] [], .ud, .ud, .sl 2 ((l.take i).map fun t => t.at_.av) x, .ud, .ud, .sl 4 (l.map Te.av) .none, .int .i64 (l.length : Nat), .int .i64 (i : Nat), .ud, .ud, .ud, .ud, .ud, .ud, .ud, .ud, .ud, .ud, .ud], []⟩) (fun _ x => tkS 101 100 x) (fun i x => (x = .full ∧ i = 0) ∨ x = .tok 100) .full (.inl ⟨rfl, rfl⟩) rfl rfl ?_
 rintro i x hi hQ
 have hlen : (l.take i).length = i := by simp; omega
 rcases hQ with ⟨rfl, rfl⟩ | rfl
 all_goals repeat' (first
  | simp -implicitDefEqProofs (disch := first | assumption | omega) only [runsY, lstY, facts, if_pos, Nat.reduceAdd, Nat.reduceEqDiff, Nat.reduceLT, Nat.reduceLeDiff, Int.reduceLE, Int.reduceAdd, tkS, hlen, wrap_in, List.getElem?_eq_getElem, Te.av, Ra.av, *]
  | ((with_reducible refine condK_dec (fun _ => ?_) (fun _ => ?_)) <;> try omega)
  | ((with_reducible refine OY_at 70 ?_); refine PC.useY hF (bar1_ok _) (rfl) fun v hv => ?_; subst hv))
 ·exact OY_next (.tok 100) (by omega) (.inr rfl) rfl (by simp only [take_map_succ (show 0 < l.length by omega)]; rfl)
 ·have e : l = [] := List.length_eq_zero_iff.1 (by omega)
  subst e; rfl
 ·exact OY_next (.tok 100) (by omega) (.inr rfl) rfl (by simp only [take_map_succ (show i < l.length by omega)]; rfl)
 ·rw [List.take_of_length_le (by omega)]
theorem placesDy_ok (l : List Dy) (hl : l.length ≤ 1000000) : PC Tryz.prog gl 120 [.sl 4 (l.map Dy.av) .none, .fn 118 [] []] (fun v => v = .sl 2 (l.map fun t => t.at_.av) .none) := by
 (refine PC.introY 2 mix (fn := Tryz.f120) Tryz.func120 rfl (names 120 _ Tryz.func120) fun F hF hro W => ?_; simp -implicitDefEqProofs only [Tryz.ntmps120, Tryz.results120, entL, Nat.reduceAdd, Nat.reduceSub])
 repeat' (simp -implicitDefEqProofs (disch := first | assumption | omega) only [runsY, lstY, facts, Nat.reduceAdd, *])
 refine OY_for (mkM 21 [1, 4, 7, 8, 9]) [(4, 100)] 101 l.length (fun i (x : Tk) => ⟨[.ud, .fn 118 [] [], .ud, .ud, .sl 2 ((l.take i).map fun t => t.at_.av) x, .ud, .ud, .sl 4 (l.map Dy.av) .none, .int .i64 (l.length : Nat), .int .i64 (i : Nat), .ud, .ud, .ud, .ud, .ud, .ud, .ud, .ud, .ud, .ud, .ud], []⟩) (fun _ x => tkS 101 100 x) (fun i x => (x = .full ∧ i = 0) ∨ x = .tok 100) .full (.inl ⟨rfl, rfl⟩) rfl rfl ?_
 rintro i x hi hQ
 have hlen : (l.take i).length = i := by simp; omega
 rcases hQ with ⟨rfl, rfl⟩ | rfl
 all_goals repeat' (first
  | simp -implicitDefEqProofs (disch := first | assumption | omega) only [runsY, lstY, facts, if_pos, Nat.reduceAdd, Nat.reduceEqDiff, Nat.reduceLT, Nat.reduceLeDiff, Int.reduceLE, Int.reduceAdd, tkS, hlen, wrap_in, List.getElem?_eq_getElem, Dy.av, Ra.av, *]
  | ((with_reducible refine condK_dec (fun _ => ?_) (fun _ => ?_)) <;> try omega)
  | ((with_reducible refine OY_at 118 ?_); refine PC.useY hF (loud1_ok _) (rfl) fun v hv => ?_; subst hv))
 ·exact OY_next (.tok 100) (by omega) (.inr rfl) rfl (by simp only [take_map_succ (show 0 < l.length by omega)]; rfl)
 ·have e : l = [] := List.length_eq_zero_iff.1 (by omega)
  subst e; rfl
 ·exact OY_next (.tok 100) (by omega) (.inr rfl) rfl (by simp only [take_map_succ (show i < l.length by omega)]; rfl)
 ·rw [List.take_of_length_le (by omega)]
def riseAt (l : List Ra) (len : Ra) (i : Nat) : Bool := (l.getD i ⟨0, 0⟩).right && (decide (0 ≤ (l.getD i ⟨0, 0⟩).num) && (decide ((l.getD i ⟨0, 0⟩).cmp len < 0) && (decide (i = 0) || decide ((l.getD (i - 1) ⟨0, 0⟩).cmp (l.getD i ⟨0, 0⟩) < 0))))
def risingB (l : List Ra) (len : Ra) : Bool := allN l.length (riseAt l len)
theorem rising_ok (l : List Ra) (len : Ra) (hl : l.length ≤ 1000000) (hf : ∀ a ∈ l, a.fits) (hlen : len.fits) : PC Tryz.prog gl 73 [.sl 2 (l.map Ra.av) .none, len.av] (fun v => v = .bool (risingB l len)) := by
 (refine PC.introY 2 mix (fn := Tryz.f73) Tryz.func73 rfl (names 73 _ Tryz.func73) fun F hF hro W => ?_; simp -implicitDefEqProofs only [Tryz.ntmps73, Tryz.results73, entL, Nat.reduceAdd, Nat.reduceSub])
 repeat' (simp -implicitDefEqProofs (disch := first | assumption | omega) only [runsY, lstY, facts, Nat.reduceAdd, Ra.av, *])
 refine OY_for (mkM 43 [0, 3, 7, 8, 9]) [] 100 l.length (fun i (_ : Unit) => ⟨[.sl 2 (l.map Ra.av) .none, .ud, .ud, .ptr 0 0, .ud, .ud, .ud, .sl 2 (l.map Ra.av) .none, .int .i64 (l.length : Nat), .int .i64 (i : Nat), .ud, .ud, .ud, .ud, .ud, .ud, .ud, .ud, .ud, .ud, .ud, .ud, .ud, .ud, .ud, .ud, .ud, .ud, .ud, .ud, .ud, .ud, .ud, .ud, .ud, .ud, .ud, .ud, .ud, .ud, .ud, .ud, .ud], []⟩) (fun _ _ => ⟨[(0, .cells [.int .i64 len.num, .int .i64 len.den])], 100⟩) (fun i _ => ∀ j, j < i → riseAt l len j = true) () prev0 rfl rfl ?_
 rintro i ⟨⟩ hi hQ
 have hg : ∀ (h : i < l.length), l.getD i ⟨0, 0⟩ = l[i] := fun h => by simp [h]
 have hg1 : ∀ (h : i - 1 < l.length), l.getD (i - 1) ⟨0, 0⟩ = l[i - 1] := fun h => by simp [h]
 repeat' (first
  | simp -implicitDefEqProofs (disch := first | assumption | omega) only [runsY, lstY, facts, if_pos, Nat.reduceAdd, Nat.reduceLeDiff, wrap_in, List.getElem?_eq_getElem, toNat_pred, Ra.av, *]
  | ((with_reducible refine sr_at 113 ?_); refine srstep_call (ratioRight_ok l[i] (hf _ (List.getElem_mem (by omega)))) (rfl) ?_)
  | ((with_reducible refine sr_at 114 ?_); refine srstep_call (ratioCompare_ok l[i] len (hf _ (List.getElem_mem (by omega))) hlen) (rfl) ?_)
  | ((with_reducible refine sr_at 114 ?_); refine srstep_call (ratioCompare_ok (l[i - 1]'(by omega)) l[i] (hf _ (List.getElem_mem (by omega))) (hf _ (List.getElem_mem (by omega)))) (rfl) ?_)
  | ((with_reducible refine condK_dec (fun _ => ?_) (fun _ => ?_)) <;> try omega)
  | ((with_reducible refine srstep_ndec (fun _ => ?_) (fun _ => ?_)) <;> try omega)
  | ((with_reducible refine srstep_dec (fun _ => ?_) (fun _ => ?_)) <;> try omega)
  | ((with_reducible refine srstep_nsplit (fun _ => ?_) (fun _ => ?_)) <;> try omega)
  | ((with_reducible refine OY_drawn ?_); refine OY_draw' _ rfl (by decide +kernel) ?_))
 ·rename_i h1 h2
  have e := hg (by omega)
  have hr : riseAt l len i = false := by rw [riseAt, e]; simp_all
  rw [risingB, allN_false (i := i) (by omega) hr]
 ·rename_i h1 h2 h3
  have e := hg (by omega)
  have hr : riseAt l len i = false := by rw [riseAt, e, decide_eq_false (show ¬ 0 ≤ l[i].num by omega)]; simp
  rw [risingB, allN_false (i := i) (by omega) hr]
 ·rename_i h1 h2 h3 h4
  have e := hg (by omega)
  have hr : riseAt l len i = false := by rw [riseAt, e, decide_eq_false (show ¬ l[i].cmp len < 0 by omega)]; simp
  rw [risingB, allN_false (i := i) (by omega) hr]
 ·rename_i h1 h2 h3 h4 h5 h6
  have e := hg (by omega)
  have e1 := hg1 (by omega)
  have hr : riseAt l len i = false := by rw [riseAt, e, e1, decide_eq_false (show ¬ l[i - 1].cmp l[i] < 0 by omega), decide_eq_false (show ¬ i = 0 by omega)]; simp
  rw [risingB, allN_false (i := i) (by omega) hr]
 ·rename_i h1 h2 h3 h4 h5 h6
  have e := hg (by omega)
  have e1 := hg1 (by omega)
  have h2' : l[i].right = true := by simpa using h2
  exact OY_next () (by omega) (prevN hQ (by rw [riseAt, e, e1, h2', decide_eq_true (show 0 ≤ l[i].num by omega), decide_eq_true (show l[i].cmp len < 0 by omega), decide_eq_true (show l[i - 1].cmp l[i] < 0 by omega)]; simp)) rfl rfl
 ·rename_i h1 h2 h3 h4 h5
  have e := hg (by omega)
  have h2' : l[i].right = true := by simpa using h2
  exact OY_next () (by omega) (prevN hQ (by rw [riseAt, e, h2', decide_eq_true (show 0 ≤ l[i].num by omega), decide_eq_true (show l[i].cmp len < 0 by omega), decide_eq_true (show i = 0 by omega)]; simp)) rfl rfl
 ·rw [risingB, allN_true fun j hj => hQ j (by omega)]
structure Ba.ok (b : Ba) : Prop where
 groups : b.meter.groups.length ≤ 1000000
 num : I64 b.meter.num
 den : I64 b.meter.den
 tempos : b.tempos.length ≤ 1000000
 at_ : ∀ t ∈ b.tempos, t.at_.fits
def Ba.errR (b : Ba) : Int :=
 if b.meter.lenR.2 = 0 then
  (if b.key.right = true then (if (risingB (b.tempos.map fun t => t.at_) b.meter.lenR.1 && !(b.tempos.any Te.odd)) = true then 0 else 110) else 30)
 else b.meter.lenR.2
theorem bar_ok (b : Ba) (h : b.ok) : PC Tryz.prog gl 31 [b.av] (fun v => v = .int .i64 b.errR) := by
 (refine PC.introY 1 mix (fn := Tryz.f31) Tryz.func31 rfl (names 31 _ Tryz.func31) fun F hF hro W => ?_; simp -implicitDefEqProofs only [Tryz.ntmps31, Tryz.results31, entL, Nat.reduceAdd, Nat.reduceSub])
 repeat' (first
  | simp -implicitDefEqProofs (disch := first | assumption | omega) only [runsY, lstY, facts, if_pos, Nat.reduceAdd, Nat.reduceEqDiff, Nat.reduceLeDiff, Ba.av, ratV, *]
  | ((with_reducible refine sr_at 74 ?_); refine srstep_call (placesTe_ok b.tempos h.tempos) (rfl) ?_)
  | ((with_reducible refine sr_at 73 ?_); refine srstep_call (rising_ok (b.tempos.map fun t => t.at_) b.meter.lenR.1 (by simpa using h.tempos) (fun a ha => by obtain ⟨t, ht, rfl⟩ := List.mem_map.1 ha; exact h.at_ t ht) meLenR_fits) ((by simp only [List.map_cons, List.map_nil, List.map_map]; rfl)) ?_)
  | ((with_reducible refine sr_at 75 ?_); refine srstep_call (containsFuncTe_ok b.tempos _ [] Te.odd h.tempos rfl rfl (fun _ => rfl) (fun a _ => bar2_ok a)) (rfl) ?_)
  | ((with_reducible refine condK_nsplit (fun _ => ?_) (fun _ => ?_)) <;> try omega)
  | ((with_reducible refine condK_split (fun _ => ?_) (fun _ => ?_)) <;> try omega)
  | ((with_reducible refine srstep_nsplit (fun _ => ?_) (fun _ => ?_)) <;> try omega)
  | ((with_reducible refine OY_drawn ?_); refine OY_draw' _ rfl (by decide +kernel) ?_)
  | ((with_reducible refine OY_at 69 ?_); refine PC.useY hF (meterLength_ok b.meter h.groups h.num h.den) (rfl) fun v hv => ?_; subst hv)
  | ((with_reducible refine OY_at 72 ?_); refine PC.useY hF (keyRight_ok b.key) (rfl) fun v hv => ?_; subst hv))
 all_goals simp_all [Ba.errR]
theorem loud_ok (l : List Dy) (len : Ra) (hl : l.length ≤ 1000000) (hf : ∀ t ∈ l, t.at_.fits) (hlen : len.fits) : PC Tryz.prog gl 77 [.sl 4 (l.map Dy.av) .none, len.av] (fun v => v = .int .i64 (if (risingB (l.map fun t => t.at_) len && !(l.any Dy.odd)) = true then 0 else 120)) := by
 (refine PC.introY 1 mix (fn := Tryz.f77) Tryz.func77 rfl (names 77 _ Tryz.func77) fun F hF hro W => ?_; simp -implicitDefEqProofs only [Tryz.ntmps77, Tryz.results77, entL, Nat.reduceAdd, Nat.reduceSub])
 repeat' (first
  | simp -implicitDefEqProofs (disch := first | assumption | omega) only [runsY, lstY, facts, if_pos, Nat.reduceAdd, Ra.av, *]
  | ((with_reducible refine sr_at 120 ?_); refine srstep_call (placesDy_ok l hl) (rfl) ?_)
  | ((with_reducible refine sr_at 73 ?_); refine srstep_call (rising_ok (l.map fun t => t.at_) len (by simpa using hl) (fun a ha => by obtain ⟨t, ht, rfl⟩ := List.mem_map.1 ha; exact hf t ht) hlen) ((by simp only [List.map_cons, List.map_nil, List.map_map]; rfl)) ?_)
  | ((with_reducible refine sr_at 121 ?_); refine srstep_call (containsFuncDy_ok l _ [] Dy.odd hl rfl rfl (fun _ => rfl) (fun a _ => loud2_ok a)) (rfl) ?_)
  | ((with_reducible refine condK_split (fun _ => ?_) (fun _ => ?_)) <;> try omega)
  | ((with_reducible refine srstep_nsplit (fun _ => ?_) (fun _ => ?_)) <;> try omega)
  | ((with_reducible refine OY_drawn ?_); refine OY_draw' _ rfl (by decide +kernel) ?_))
 all_goals simp_all
def Pa.right (p : Pa) (bars : Int) : Bool := nameB p.name && (decide (0 ≤ p.clef ∧ p.clef ≤ 3 ∧ 0 ≤ p.channel ∧ p.channel < 16) && (decide ((p.cells.length : Int) = bars) && decide ((p.dyns.length : Int) = bars)))
theorem scPart_ok (p : Pa) (bars : Int) : PC Tryz.prog gl 32 [p.av, .int .i64 bars] (fun v => v = .int .i64 (if p.right bars = true then 0 else 80)) := by
 (refine PC.introY 1 mix (fn := Tryz.f32) Tryz.func32 rfl (names 32 _ Tryz.func32) fun F hF hro W => ?_; simp -implicitDefEqProofs only [Tryz.ntmps32, Tryz.results32, entL, Nat.reduceAdd, Nat.reduceSub])
 repeat' (first
  | simp -implicitDefEqProofs (disch := first | assumption | omega) only [runsY, lstY, facts, if_pos, Nat.reduceAdd, Nat.reduceLeDiff, Pa.av, *]
  | ((with_reducible refine condK_split (fun _ => ?_) (fun _ => ?_)) <;> try omega)
  | ((with_reducible refine sstep_ndec (fun _ => ?_) (fun _ => ?_)) <;> try omega)
  | ((with_reducible refine sstep_nsplit (fun _ => ?_) (fun _ => ?_)) <;> try omega)
  | ((with_reducible refine OY_at 30 ?_); refine PC.useY hF (name_ok p.name) (rfl) fun v hv => ?_; subst hv))
 all_goals trace_state
 all_goals first | grind [Pa.right] | (simp_all [Pa.right]; done) | (simp [Pa.right, *]; omega)
end Go.Proofs.Pv
