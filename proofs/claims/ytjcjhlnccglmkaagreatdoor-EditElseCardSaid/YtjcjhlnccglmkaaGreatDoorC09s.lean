/-
  Layer 9's reference: is a score small; is what an edit needs small?
  The references' sameness: each thing is the same as itself.
  Conditions: none but those that each statement names.
-/
import Derived.Test.YtjcjhlnccglmkaaGreatDoorC09q
namespace Go.Proofs.Pv
open Go Go.Proofs
set_option linter.unusedSimpArgs false
set_option linter.unusedVariables false
set_option maxRecDepth 100000
set_option maxHeartbeats 2000000
theorem getEv {l : List Ev} {i : Nat} (h : i < l.length) : l[i]? = some l[i] := List.getElem?_eq_getElem h
theorem getVo {l : List Vo} {i : Nat} (h : i < l.length) : l[i]? = some l[i] := List.getElem?_eq_getElem h
theorem getCe {l : List (List Vo)} {i : Nat} (h : i < l.length) : l[i]? = some l[i] := List.getElem?_eq_getElem h
theorem getDs {l : List (List Dy)} {i : Nat} (h : i < l.length) : l[i]? = some l[i] := List.getElem?_eq_getElem h
theorem getBa {l : List Ba} {i : Nat} (h : i < l.length) : l[i]? = some l[i] := List.getElem?_eq_getElem h
theorem getPa {l : List Pa} {i : Nat} (h : i < l.length) : l[i]? = some l[i] := List.getElem?_eq_getElem h
theorem getCs {l : List (List (List Vo))} {i : Nat} (h : i < l.length) : l[i]? = some l[i] := List.getElem?_eq_getElem h
theorem getDds {l : List (List (List Dy))} {i : Nat} (h : i < l.length) : l[i]? = some l[i] := List.getElem?_eq_getElem h
/-- A list of so many at most, all of which are small. -/
def fewL {α : Type} (n : Nat) (p : α → Bool) (l : List α) : Bool := decide ((l.length : Int) ≤ (n : Nat)) && l.all p
def upTo {α : Type} (p : α → Bool) (l : List α) (i : Nat) : Prop := ∀ j (hj : j < l.length), j < i → p l[j] = true
theorem upTo_zero {α : Type} {p : α → Bool} {l : List α} : upTo p l 0 := fun j _ h => absurd h (Nat.not_lt_zero j)
theorem upTo_succ {α : Type} {p : α → Bool} {l : List α} {i : Nat} (h : upTo p l i) (hi : i < l.length) (hp : p l[i] = true) : upTo p l (i + 1) := fun j hj hji => by
  rcases Nat.lt_or_ge j i with h1 | h1
  · exact h j hj h1
  · have : j = i := by omega
    subst this; exact hp
theorem upTo_bad {α : Type} {p : α → Bool} {l : List α} {i : Nat} (hi : i < l.length) (h : p l[i] = false) : l.all p = false := by
  rw [List.all_eq_false]
  exact ⟨l[i], List.getElem_mem hi, by simp [h]⟩
theorem upTo_all {α : Type} {p : α → Bool} {l : List α} {i : Nat} (hi : l.length ≤ i) (hQ : upTo p l i) : l.all p = true := by
  rw [List.all_eq_true]
  intro x hx
  obtain ⟨j, hj, rfl⟩ := List.mem_iff_getElem.1 hx
  exact hQ j hj (by omega)
theorem fewL_bad {α : Type} {n : Nat} {p : α → Bool} {l : List α} {i : Nat} (hi : i < l.length) (h : p l[i] = false) : fewL n p l = false := by
  simp [fewL, upTo_bad hi h]
theorem fewL_end {α : Type} {n : Nat} {p : α → Bool} {l : List α} {i : Nat} (hi : l.length ≤ i ∨ n < i) (hQ : upTo p l i) : fewL n p l = decide ((l.length : Int) ≤ (n : Nat)) := by
  by_cases h : l.length ≤ n
  · simp [fewL, upTo_all (i := i) (by omega) hQ]
  · have : ¬ ((l.length : Int) ≤ (n : Nat)) := by omega
    simp [fewL, this]
def Ev.fewB (e : Ev) : Bool := decide ((e.pitches.length : Int) ≤ 20) && (decide ((e.ties.length : Int) ≤ 20) && (decide ((e.marks.length : Int) ≤ 20) && decide ((e.word.size : Int) ≤ 100)))
theorem few6_ok (e : Ev) : PC Tryz.prog gl 29 [e.av] (fun v => v = .bool e.fewB) := by
  (refine PC.introZ 1 mix (fn := Tryz.f29) Tryz.func29 rfl (names 29 _ Tryz.func29) fun F hF hro W => ?_; simp -implicitDefEqProofs only [Tryz.ntmps29, Tryz.results29, fr0, st0, List.length_cons, List.length_nil, List.cons_append, List.nil_append, Nat.reduceAdd, Nat.reduceSub, List.replicate_succ, List.replicate_zero])
  repeat' (first
    | simp -implicitDefEqProofs only [↓reduceIte, runsY, lstY, facts, Nat.reduceAdd, Nat.reduceLeDiff, Ev.av, *]
    | ((with_reducible refine sstep_dec (fun _ => ?_) (fun _ => ?_)) <;> try (exfalso; omega)))
  all_goals first | grind [Ev.fewB] | (simp_all [Ev.fewB]; done) | (simp [Ev.fewB, *]; omega)
def fewEvs (l : List Ev) : Bool := fewL 12 Ev.fewB l
theorem fewEvs_ok (l : List Ev) : PC Tryz.prog gl 14 [.sl 9 (l.map Ev.av) .none] (fun v => v = .bool (fewEvs l)) := by
  (refine PC.introZ 2 mix (fn := Tryz.f14) Tryz.func14 rfl (names 14 _ Tryz.func14) fun F hF hro W => ?_; simp -implicitDefEqProofs only [Tryz.ntmps14, Tryz.results14, fr0, st0, List.length_cons, List.length_nil, List.cons_append, List.nil_append, Nat.reduceAdd, Nat.reduceSub, List.replicate_succ, List.replicate_zero])
  repeat' (simp -implicitDefEqProofs only [runsY, lstY, Nat.reduceAdd, *])
  refine OZ_for [true, false, false, true, false, false, false, false, false, false, false, false, false, false, false, false, false, false, false, false, false, false, false] [] 100 13 (fun i (_ : Unit) => ⟨[.sl 9 (l.map Ev.av) .none, .undef, .undef, .int .i64 (i : Nat), .undef, .undef, .undef, .undef, .undef, .undef, .undef, .undef, .undef, .undef, .undef, .undef, .undef, .undef, .undef, .undef, .undef, .undef, .undef], []⟩) (fun _ _ => ⟨[], 100⟩) (fun i _ => upTo Ev.fewB l i) () upTo_zero rfl rfl ?_
  rintro i x hi hQ
  repeat' (first
    | simp -implicitDefEqProofs only [↓reduceIte, runsY, lstY, facts, Nat.reduceAdd, *]
    | simp -implicitDefEqProofs (disch := first | assumption | omega) only [runsY, lstY, facts, if_pos, Nat.reduceAdd, wrap_in, getEv, Ev.av, *]
    | ((with_reducible refine condK_dec (fun _ => ?_) (fun _ => ?_)) <;> try (exfalso; omega))
    | ((with_reducible refine condK_nsplit (fun _ => ?_) (fun _ => ?_)) <;> try (exfalso; omega))
    | ((with_reducible refine sstep_dec (fun _ => ?_) (fun _ => ?_)) <;> try (exfalso; omega))
    | ((with_reducible refine OZ_at 29 ?_); refine PC.useZ hF (few6_ok _) (rfl) fun v hv => ?_; subst hv))
  · rename_i h1 h2 h3
    exact OZ_next () (by omega) (upTo_succ hQ (by omega) h3) rfl rfl
  · rename_i h1 h2 h3
    rw [fewEvs, fewL_bad (by omega) h3]
  · rename_i h1 h2
    rw [fewEvs, fewL_end (.inr (by omega)) hQ]; rfl
  · rename_i h1
    rw [fewEvs, fewL_end (.inl (by omega)) hQ]; rfl
def fewDy (d : List Dy) : Bool := !decide ((12 : Int) < (d.length : Int))
def fewDys (l : List (List Dy)) : Bool := fewL 6 fewDy l
theorem fewDys_ok (l : List (List Dy)) : PC Tryz.prog gl 13 [.sl 1 (l.map dynsAV) .none] (fun v => v = .bool (fewDys l)) := by
  (refine PC.introZ 2 mix (fn := Tryz.f13) Tryz.func13 rfl (names 13 _ Tryz.func13) fun F hF hro W => ?_; simp -implicitDefEqProofs only [Tryz.ntmps13, Tryz.results13, fr0, st0, List.length_cons, List.length_nil, List.cons_append, List.nil_append, Nat.reduceAdd, Nat.reduceSub, List.replicate_succ, List.replicate_zero])
  repeat' (simp -implicitDefEqProofs only [runsY, lstY, Nat.reduceAdd, *])
  refine OZ_for [true, false, false, true, false, false, false, false, false, false, false, false, false, false, false, false, false, false, false, false, false, false, false] [] 100 7 (fun i (_ : Unit) => ⟨[.sl 1 (l.map dynsAV) .none, .undef, .undef, .int .i64 (i : Nat), .undef, .undef, .undef, .undef, .undef, .undef, .undef, .undef, .undef, .undef, .undef, .undef, .undef, .undef, .undef, .undef, .undef, .undef, .undef], []⟩) (fun _ _ => ⟨[], 100⟩) (fun i _ => upTo fewDy l i) () upTo_zero rfl rfl ?_
  rintro i x hi hQ
  repeat' (first
    | simp -implicitDefEqProofs only [↓reduceIte, runsY, lstY, facts, Nat.reduceAdd, *]
    | simp -implicitDefEqProofs (disch := first | assumption | omega) only [runsY, lstY, facts, Nat.reduceAdd, wrap_in, getDs, dynsAV, *]
    | ((with_reducible refine condK_dec (fun _ => ?_) (fun _ => ?_)) <;> try (exfalso; omega))
    | ((with_reducible refine sstep_dec (fun _ => ?_) (fun _ => ?_)) <;> try (exfalso; omega)))
  all_goals first
    | (rw [fewDys, fewL_bad (i := i) (by omega) (by simp only [fewDy, Bool.not_eq_true', Bool.not_eq_false', Bool.or_eq_true, Bool.or_eq_false_iff, Bool.and_eq_true, decide_eq_true_eq, decide_eq_false_iff_not]; omega)])
    | (rw [fewDys, fewL_end (i := i) (by omega) hQ]; rfl)
    | exact OZ_next () (by omega) (upTo_succ hQ (by omega) (by simp only [fewDy, Bool.not_eq_true', Bool.not_eq_false', Bool.or_eq_true, Bool.or_eq_false_iff, Bool.and_eq_true, decide_eq_true_eq, decide_eq_false_iff_not]; omega)) rfl rfl
def Ba.fewB (b : Ba) : Bool := !(decide ((12 : Int) < (b.meter.groups.length : Int)) || (decide ((12 : Int) < (b.turn.endings.length : Int)) || decide ((12 : Int) < (b.tempos.length : Int))))
def fewBas (l : List Ba) : Bool := fewL 6 Ba.fewB l
theorem fewBas_ok (l : List Ba) : PC Tryz.prog gl 11 [.sl 14 (l.map Ba.av) .none] (fun v => v = .bool (fewBas l)) := by
  (refine PC.introZ 2 mix (fn := Tryz.f11) Tryz.func11 rfl (names 11 _ Tryz.func11) fun F hF hro W => ?_; simp -implicitDefEqProofs only [Tryz.ntmps11, Tryz.results11, fr0, st0, List.length_cons, List.length_nil, List.cons_append, List.nil_append, Nat.reduceAdd, Nat.reduceSub, List.replicate_succ, List.replicate_zero])
  repeat' (simp -implicitDefEqProofs only [runsY, lstY, Nat.reduceAdd, *])
  refine OZ_for [true, false, false, true, false, false, false, false, false, false, false, false, false, false, false, false, false, false, false, false, false, false, false, false, false, false, false, false, false, false, false, false, false, false, false, false, false, false, false, false, false, false, false, false] [] 100 7 (fun i (_ : Unit) => ⟨[.sl 14 (l.map Ba.av) .none, .undef, .undef, .int .i64 (i : Nat), .undef, .undef, .undef, .undef, .undef, .undef, .undef, .undef, .undef, .undef, .undef, .undef, .undef, .undef, .undef, .undef, .undef, .undef, .undef, .undef, .undef, .undef, .undef, .undef, .undef, .undef, .undef, .undef, .undef, .undef, .undef, .undef, .undef, .undef, .undef, .undef, .undef, .undef, .undef, .undef], []⟩) (fun _ _ => ⟨[], 100⟩) (fun i _ => upTo Ba.fewB l i) () upTo_zero rfl rfl ?_
  rintro i x hi hQ
  repeat' (first
    | simp -implicitDefEqProofs only [↓reduceIte, runsY, lstY, facts, Nat.reduceAdd, *]
    | simp -implicitDefEqProofs (disch := first | assumption | omega) only [runsY, lstY, facts, Nat.reduceAdd, Nat.reduceEqDiff, Nat.reduceLT, Nat.reduceLeDiff, wrap_in, getBa, Ba.av, *]
    | ((with_reducible refine condK_dec (fun _ => ?_) (fun _ => ?_)) <;> try (exfalso; omega))
    | ((with_reducible refine sstep_ndec (fun _ => ?_) (fun _ => ?_)) <;> try (exfalso; omega))
    | ((with_reducible refine sstep_dec (fun _ => ?_) (fun _ => ?_)) <;> try (exfalso; omega)))
  all_goals first
    | (rw [fewBas, fewL_bad (i := i) (by omega) (by simp only [Ba.fewB, Bool.not_eq_true', Bool.not_eq_false', Bool.or_eq_true, Bool.or_eq_false_iff, Bool.and_eq_true, decide_eq_true_eq, decide_eq_false_iff_not]; omega)])
    | (rw [fewBas, fewL_end (i := i) (by omega) hQ]; rfl)
    | exact OZ_next () (by omega) (upTo_succ hQ (by omega) (by simp only [Ba.fewB, Bool.not_eq_true', Bool.not_eq_false', Bool.or_eq_true, Bool.or_eq_false_iff, Bool.and_eq_true, decide_eq_true_eq, decide_eq_false_iff_not]; omega)) rfl rfl
def fewCe (c : List Vo) : Bool := !decide ((4 : Int) < (c.length : Int)) && c.all fun v => fewEvs v.l
def fewCes (l : List (List Vo)) : Bool := fewL 6 fewCe l
theorem fewCes_ok (l : List (List Vo)) : PC Tryz.prog gl 12 [.sl 1 (l.map cellAV) .none] (fun v => v = .bool (fewCes l)) := by
  (refine PC.introZ 2 mix (fn := Tryz.f12) Tryz.func12 rfl (names 12 _ Tryz.func12) fun F hF hro W => ?_; simp -implicitDefEqProofs only [Tryz.ntmps12, Tryz.results12, fr0, st0, List.length_cons, List.length_nil, List.cons_append, List.nil_append, Nat.reduceAdd, Nat.reduceSub, List.replicate_succ, List.replicate_zero])
  repeat' (simp -implicitDefEqProofs only [runsY, lstY, Nat.reduceAdd, *])
  refine OZ_for [true, false, false, true, false, false, false, false, false, false, false, false, false, false, false, false, false, false, false, false, false, false, false, false, false, false, false, false, false, false, false, false, false, false, false, false, false, false, false, false, false, false, false] [] 100 7 (fun i (_ : Unit) => ⟨[.sl 1 (l.map cellAV) .none, .undef, .undef, .int .i64 (i : Nat), .undef, .undef, .undef, .undef, .undef, .undef, .undef, .undef, .undef, .undef, .undef, .undef, .undef, .undef, .undef, .undef, .undef, .undef, .undef, .undef, .undef, .undef, .undef, .undef, .undef, .undef, .undef, .undef, .undef, .undef, .undef, .undef, .undef, .undef, .undef, .undef, .undef, .undef, .undef], []⟩) (fun _ _ => ⟨[], 100⟩) (fun i _ => upTo fewCe l i) () upTo_zero rfl rfl ?_
  rintro i x hi hQ
  repeat' (first
    | simp -implicitDefEqProofs only [↓reduceIte, runsY, lstY, facts, Nat.reduceAdd, *]
    | simp -implicitDefEqProofs (disch := first | assumption | omega) only [runsY, lstY, facts, Nat.reduceAdd, getCe, cellAV, *]
    | ((with_reducible refine condK_dec (fun _ => ?_) (fun _ => ?_)) <;> try (exfalso; omega))
    | ((with_reducible refine sstep_dec (fun _ => ?_) (fun _ => ?_)) <;> try (exfalso; omega)))
  · rename_i h1 h2 h3
    rw [fewCes, fewL_bad (i := i) (by omega) (by simp [fewCe, h3])]
  · rename_i h1 h2 h3
    have hi' : i < l.length := by omega
    refine OZ_for [true, false, false, true, true, false, false, false, false, false, false, false, false, false, false, false, false, false, false, false, false, false, false, false, false, false, false, false, false, false, false, false, false, false, false, false, false, false, false, false, false, false, false] [] 200 l[i].length (fun k (_ : Unit) => ⟨[.sl 1 (l.map cellAV) .none, .undef, .undef, .int .i64 (i : Nat), .int .i64 (k : Nat), .undef, .undef, .undef, .undef, .undef, .undef, .undef, .undef, .undef, .undef, .undef, .undef, .undef, .undef, .undef, .undef, .undef, .undef, .undef, .undef, .undef, .undef, .undef, .undef, .undef, .undef, .undef, .undef, .undef, .undef, .undef, .undef, .undef, .undef, .undef, .undef, .undef, .undef], []⟩) (fun _ _ => ⟨[], 200⟩) (fun k _ => upTo (fun v : Vo => fewEvs v.l) l[i] k) () upTo_zero rfl rfl ?_
    rintro k y hk hQ2
    by_cases hkl : k < l[i].length
    · repeat' (first
    | simp -implicitDefEqProofs only [↓reduceIte, runsY, lstY, facts, Nat.reduceAdd, getCe, getVo, cellAV, Vo.av, *]
    | simp -implicitDefEqProofs (disch := first | assumption | omega) only [wrap_in, *]
    | ((with_reducible refine condK_dec (fun _ => ?_) (fun _ => ?_)) <;> try (exfalso; omega))
    | ((with_reducible refine condK_nsplit (fun _ => ?_) (fun _ => ?_)) <;> try (exfalso; omega))
    | ((with_reducible refine OZ_at 14 ?_); refine PC.useZ hF (fewEvs_ok _) (rfl) fun v hv => ?_; subst hv))
      · rename_i h4
        exact OZ_next () hkl (upTo_succ hQ2 hkl h4) rfl rfl
      · rename_i h4
        rw [fewCes, fewL_bad (i := i) hi' (by rw [fewCe, upTo_bad (p := fun v : Vo => fewEvs v.l) hkl h4, Bool.and_false])]
    · repeat' (first
    | simp -implicitDefEqProofs only [↓reduceIte, runsY, lstY, facts, Nat.reduceAdd, getCe, cellAV, *]
    | simp -implicitDefEqProofs (disch := first | assumption | omega) only [wrap_in, *]
    | ((with_reducible refine condK_dec (fun _ => ?_) (fun _ => ?_)) <;> try (exfalso; omega)))
      have hall := upTo_all (i := k) (by omega) hQ2
      exact OZ_next () (by omega) (upTo_succ hQ hi' (by rw [fewCe, hall, Bool.and_true]; simp only [Bool.not_eq_true', decide_eq_false_iff_not]; omega)) rfl rfl
  · rename_i h1 h2
    rw [fewCes, fewL_end (.inr (by omega)) hQ]; rfl
  · rename_i h1
    rw [fewCes, fewL_end (.inl (by omega)) hQ]; rfl
def Pa.fewB (p : Pa) : Bool := !decide ((100 : Int) < (p.name.size : Int)) && (fewCes p.cells && fewDys p.dyns)
def Sc.fewB (s : Sc) : Bool := (!decide ((6 : Int) < (s.bars.length : Int)) && (!decide ((4 : Int) < (s.parts.length : Int)) && (!decide ((100 : Int) < (s.title.size : Int)) && fewBas s.bars))) && s.parts.all Pa.fewB
theorem few_ok (s : Sc) : PC Tryz.prog gl 5 [s.av] (fun v => v = .bool s.fewB) := by
  (refine PC.introZ 2 mix (fn := Tryz.f5) Tryz.func5 rfl (names 5 _ Tryz.func5) fun F hF hro W => ?_; simp -implicitDefEqProofs only [Tryz.ntmps5, Tryz.results5, fr0, st0, List.length_cons, List.length_nil, List.cons_append, List.nil_append, Nat.reduceAdd, Nat.reduceSub, List.replicate_succ, List.replicate_zero])
  repeat' (first
    | simp -implicitDefEqProofs only [↓reduceIte, runsY, lstY, facts, Nat.reduceAdd, Nat.reduceLeDiff, Sc.av, *]
    | ((with_reducible refine condK_nsplit (fun _ => ?_) (fun _ => ?_)) <;> try (exfalso; omega))
    | ((with_reducible refine sstep_ndec (fun _ => ?_) (fun _ => ?_)) <;> try (exfalso; omega))
    | ((with_reducible refine OZ_at 11 ?_); refine PC.useZ hF (fewBas_ok _) (rfl) fun v hv => ?_; subst hv))
  all_goals first
    | grind [Sc.fewB]
    | skip
  refine OZ_for [false, true, false, true, false, false, false, false, false, false, false, false, false, false, false, false, false, false, false, false, false, false, false, false, false, false, false, false, false, false, false, false, false, false, false, false, false, false, false, false, false, false, false, false, false, false, false, false, false, false, false, false, false, false, false] [] 100 s.parts.length (fun i (_ : Unit) => ⟨[.undef, .ptr 0 0, .undef, .int .i64 (i : Nat), .undef, .undef, .undef, .undef, .undef, .undef, .undef, .undef, .undef, .undef, .undef, .undef, .undef, .undef, .undef, .undef, .undef, .undef, .undef, .undef, .undef, .undef, .undef, .undef, .undef, .undef, .undef, .undef, .undef, .undef, .undef, .undef, .undef, .undef, .undef, .undef, .undef, .undef, .undef, .undef, .undef, .undef, .undef, .undef, .undef, .undef, .undef, .undef, .undef, .undef, .undef], []⟩) (fun _ _ => ⟨[(0, .cells [.str s.title, .sl 14 (s.bars.map Ba.av) .none, .sl 5 (s.parts.map Pa.av) .none])], 100⟩) (fun i _ => upTo Pa.fewB s.parts i) () upTo_zero rfl rfl ?_
  rintro i x hi hQ
  by_cases hil : i < s.parts.length
  · repeat' (first
    | simp -implicitDefEqProofs only [↓reduceIte, runsY, lstY, facts, Nat.reduceAdd, Nat.reduceEqDiff, Nat.reduceLeDiff, getPa, Pa.av, *]
    | simp -implicitDefEqProofs (disch := first | assumption | omega) only [wrap_in, *]
    | ((with_reducible refine condK_dec (fun _ => ?_) (fun _ => ?_)) <;> try (exfalso; omega))
    | ((with_reducible refine condK_nsplit (fun _ => ?_) (fun _ => ?_)) <;> try (exfalso; omega))
    | ((with_reducible refine sstep_ndec (fun _ => ?_) (fun _ => ?_)) <;> try (exfalso; omega))
    | ((with_reducible refine sstep_nsplit (fun _ => ?_) (fun _ => ?_)) <;> try (exfalso; omega))
    | ((with_reducible refine OZ_at 12 ?_); refine PC.useZ hF (fewCes_ok _) (rfl) fun v hv => ?_; subst hv)
    | ((with_reducible refine OZ_at 13 ?_); refine PC.useZ hF (fewDys_ok _) (rfl) fun v hv => ?_; subst hv))
    all_goals first
      | (rw [Sc.fewB, upTo_bad (p := Pa.fewB) hil (by grind [Pa.fewB]), Bool.and_false])
      | exact OZ_next () hil (upTo_succ hQ hil (by grind [Pa.fewB])) rfl rfl
  · repeat' (first
    | simp -implicitDefEqProofs only [↓reduceIte, runsY, lstY, facts, Nat.reduceAdd, Nat.reduceLeDiff, *]
    | ((with_reducible refine condK_dec (fun _ => ?_) (fun _ => ?_)) <;> try (exfalso; omega)))
    have hall := upTo_all (i := i) (by omega) hQ
    grind [Sc.fewB]
def EOp.fewB (o : EOp) : Bool := (!decide ((100 : Int) < (o.text.size : Int)) && (!decide ((4 : Int) < (o.cells.length : Int)) && (!decide ((4 : Int) < (o.dyns.length : Int)) && (fewBas o.bars && fewEvs o.events)))) && (o.cells.all fewCes && o.dyns.all fewDys)
theorem fewOp_ok (o : EOp) : PC Tryz.prog gl 6 [o.av] (fun v => v = .bool o.fewB) := by
  (refine PC.introZ 2 mix (fn := Tryz.f6) Tryz.func6 rfl (names 6 _ Tryz.func6) fun F hF hro W => ?_; simp -implicitDefEqProofs only [Tryz.ntmps6, Tryz.results6, fr0, st0, List.length_cons, List.length_nil, List.cons_append, List.nil_append, Nat.reduceAdd, Nat.reduceSub, List.replicate_succ, List.replicate_zero])
  repeat' (first
    | simp -implicitDefEqProofs only [↓reduceIte, runsY, lstY, facts, Nat.reduceAdd, Nat.reduceLeDiff, EOp.av, *]
    | ((with_reducible refine condK_nsplit (fun _ => ?_) (fun _ => ?_)) <;> try (exfalso; omega))
    | ((with_reducible refine sstep_ndec (fun _ => ?_) (fun _ => ?_)) <;> try (exfalso; omega))
    | ((with_reducible refine sstep_nsplit (fun _ => ?_) (fun _ => ?_)) <;> try (exfalso; omega))
    | ((with_reducible refine OZ_at 11 ?_); refine PC.useZ hF (fewBas_ok _) (rfl) fun v hv => ?_; subst hv)
    | ((with_reducible refine OZ_at 14 ?_); refine PC.useZ hF (fewEvs_ok _) (rfl) fun v hv => ?_; subst hv))
  all_goals first
    | grind [EOp.fewB]
    | skip
  refine OZ_for [false, true, false, true, false, false, false, false, false, false, false, false, false, false, false, false, false, false, false, false, false, false, false, false, false, false, false, false, false, false, false, false, false, false, false, false, false, false, false, false, false, false, false, false, false, false, false, false, false, false, false, false, false, false, false, false, false, false, false, false, false] [] 100 o.cells.length (fun i (_ : Unit) => ⟨[.undef, .ptr 0 0, .undef, .int .i64 (i : Nat), .undef, .undef, .undef, .undef, .undef, .undef, .undef, .undef, .undef, .undef, .undef, .undef, .undef, .undef, .undef, .undef, .undef, .undef, .undef, .undef, .undef, .undef, .undef, .undef, .undef, .undef, .undef, .undef, .undef, .undef, .undef, .undef, .undef, .undef, .undef, .undef, .undef, .undef, .undef, .undef, .undef, .undef, .undef, .undef, .undef, .undef, .undef, .undef, .undef, .undef, .undef, .undef, .undef, .undef, .undef, .undef, .undef], []⟩) (fun _ _ => ⟨[(0, .cells o.cells13)], 100⟩) (fun i _ => upTo fewCes o.cells i) () upTo_zero rfl rfl ?_
  rintro i x hi hQ
  by_cases hil : i < o.cells.length
  · repeat' (first
    | simp -implicitDefEqProofs only [↓reduceIte, runsY, lstY, facts, Nat.reduceAdd, Nat.reduceLeDiff, getCs, EOp.cells13, cellsAV, *]
    | simp -implicitDefEqProofs (disch := first | assumption | omega) only [wrap_in, *]
    | ((with_reducible refine condK_dec (fun _ => ?_) (fun _ => ?_)) <;> try (exfalso; omega))
    | ((with_reducible refine condK_nsplit (fun _ => ?_) (fun _ => ?_)) <;> try (exfalso; omega))
    | ((with_reducible refine OZ_at 12 ?_); refine PC.useZ hF (fewCes_ok _) (rfl) fun v hv => ?_; subst hv))
    all_goals first
      | (rw [EOp.fewB, upTo_bad (p := fewCes) hil (by assumption), Bool.false_and, Bool.and_false])
      | exact OZ_next () hil (upTo_succ hQ hil (by assumption)) rfl rfl
  · repeat' (first
    | simp -implicitDefEqProofs only [↓reduceIte, runsY, lstY, facts, Nat.reduceAdd, Nat.reduceLeDiff, EOp.cells13, *]
    | ((with_reducible refine condK_dec (fun _ => ?_) (fun _ => ?_)) <;> try (exfalso; omega)))
    refine OZ_for [false, true, false, false, true, false, false, false, false, false, false, false, false, false, false, false, false, false, false, false, false, false, false, false, false, false, false, false, false, false, false, false, false, false, false, false, false, false, false, false, false, false, false, false, false, false, false, false, false, false, false, false, false, false, false, false, false, false, false, false, false] [] 200 o.dyns.length (fun i (_ : Unit) => ⟨[.undef, .ptr 0 0, .undef, .undef, .int .i64 (i : Nat), .undef, .undef, .undef, .undef, .undef, .undef, .undef, .undef, .undef, .undef, .undef, .undef, .undef, .undef, .undef, .undef, .undef, .undef, .undef, .undef, .undef, .undef, .undef, .undef, .undef, .undef, .undef, .undef, .undef, .undef, .undef, .undef, .undef, .undef, .undef, .undef, .undef, .undef, .undef, .undef, .undef, .undef, .undef, .undef, .undef, .undef, .undef, .undef, .undef, .undef, .undef, .undef, .undef, .undef, .undef, .undef], []⟩) (fun _ _ => ⟨[(0, .cells o.cells13)], 200⟩) (fun i _ => upTo fewDys o.dyns i) () upTo_zero rfl rfl ?_
    rintro k y hk hQ2
    by_cases hkl : k < o.dyns.length
    · repeat' (first
    | simp -implicitDefEqProofs only [↓reduceIte, runsY, lstY, facts, Nat.reduceAdd, Nat.reduceLeDiff, getDds, EOp.cells13, dynssAV, *]
    | simp -implicitDefEqProofs (disch := first | assumption | omega) only [wrap_in, *]
    | ((with_reducible refine condK_dec (fun _ => ?_) (fun _ => ?_)) <;> try (exfalso; omega))
    | ((with_reducible refine condK_nsplit (fun _ => ?_) (fun _ => ?_)) <;> try (exfalso; omega))
    | ((with_reducible refine OZ_at 13 ?_); refine PC.useZ hF (fewDys_ok _) (rfl) fun v hv => ?_; subst hv))
      all_goals first
        | (rw [EOp.fewB, upTo_bad (p := fewDys) hkl (by assumption), Bool.and_false, Bool.and_false])
        | exact OZ_next () hkl (upTo_succ hQ2 hkl (by assumption)) rfl rfl
    · repeat' (first
    | simp -implicitDefEqProofs only [↓reduceIte, runsY, lstY, facts, Nat.reduceAdd, Nat.reduceLeDiff, EOp.cells13, *]
    | ((with_reducible refine condK_dec (fun _ => ?_) (fun _ => ?_)) <;> try (exfalso; omega)))
      have hall := upTo_all (i := i) (by omega) hQ
      have hall2 := upTo_all (i := k) (by omega) hQ2
      grind [EOp.fewB]
end Go.Proofs.Pv
namespace Go.Proofs.Pv
open Go Go.Proofs
set_option linter.unusedSimpArgs false
set_option linter.unusedVariables false
set_option maxRecDepth 100000
set_option maxHeartbeats 4000000
theorem getPi {l : List Pi} {i : Nat} (h : i < l.length) : l[i]? = some l[i] := List.getElem?_eq_getElem h
theorem getBo {l : List Bool} {i : Nat} (h : i < l.length) : l[i]? = some l[i] := List.getElem?_eq_getElem h
theorem getIn {l : List Int} {i : Nat} (h : i < l.length) : l[i]? = some l[i] := List.getElem?_eq_getElem h
theorem getTe {l : List Te} {i : Nat} (h : i < l.length) : l[i]? = some l[i] := List.getElem?_eq_getElem h
theorem getDy {l : List Dy} {i : Nat} (h : i < l.length) : l[i]? = some l[i] := List.getElem?_eq_getElem h
theorem same5_ok (a : Me) (h : a.groups.length ≤ 1000000) : PC Tryz.prog gl 65 [a.av, a.av] (fun v => v = .bool true) := by
  (refine PC.introZ 2 mix (fn := Tryz.f65) Tryz.func65 rfl (names 65 _ Tryz.func65) fun F hF hro W => ?_; simp -implicitDefEqProofs only [Tryz.ntmps65, Tryz.results65, fr0, st0, List.length_cons, List.length_nil, List.cons_append, List.nil_append, Nat.reduceAdd, Nat.reduceSub, List.replicate_succ, List.replicate_zero])
  repeat' (simp -implicitDefEqProofs only [↓reduceIte, runsY, lstY, facts, Nat.reduceAdd, Nat.reduceEqDiff, Nat.reduceLeDiff, Me.av, bne_self_eq_false, *])
  refine OZ_for [false, false, true, true, false, true, false, false, false, false, false, false, false, false, false, false, false, false, false, false, false, false, false, false, false, false, false, false, false, false, false, false, false, false, false, false, false, false, false, false, false, false, false, false, false] [] 100 a.groups.length (fun i (_ : Unit) => ⟨[.undef, .undef, .ptr 0 0, .ptr 1 0, .undef, .int .i64 (i : Nat), .undef, .undef, .undef, .undef, .undef, .undef, .undef, .undef, .undef, .undef, .undef, .undef, .undef, .undef, .undef, .undef, .undef, .undef, .undef, .undef, .undef, .undef, .undef, .undef, .undef, .undef, .undef, .undef, .undef, .undef, .undef, .undef, .undef, .undef, .undef, .undef, .undef, .undef, .undef], []⟩) (fun _ _ => ⟨[(1, .cells [.int .i64 a.num, .int .i64 a.den, .sl 1 (a.groups.map (AV.int .i64)) .none]), (0, .cells [.int .i64 a.num, .int .i64 a.den, .sl 1 (a.groups.map (AV.int .i64)) .none])], 100⟩) (fun i _ => i ≤ a.groups.length) () (Nat.zero_le _) rfl rfl ?_
  rintro i x hi -
  by_cases hil : i < a.groups.length
  · repeat' (first
    | simp -implicitDefEqProofs only [↓reduceIte, runsY, lstY, facts, Nat.reduceAdd, Nat.reduceEqDiff, Nat.reduceLeDiff, getIn, bne_self_eq_false, *]
    | simp -implicitDefEqProofs (disch := first | assumption | omega) only [wrap_in, *]
    | ((with_reducible refine condK_dec (fun _ => ?_) (fun _ => ?_)) <;> try (exfalso; omega))
    | ((with_reducible refine OZ_drawn ?_); refine OZ_draw' _ rfl (by decide +kernel) ?_))
    exact OZ_next () hil (by omega) rfl rfl
  · repeat' (first
    | simp -implicitDefEqProofs only [↓reduceIte, runsY, lstY, facts, Nat.reduceAdd, Nat.reduceEqDiff, Nat.reduceLeDiff, *]
    | ((with_reducible refine condK_dec (fun _ => ?_) (fun _ => ?_)) <;> try (exfalso; omega)))
theorem same6_ok (a : Ev) (h : a.short) : PC Tryz.prog gl 131 [a.av, a.av] (fun v => v = .bool true) := by
  obtain ⟨h1, h2, h3⟩ := h
  (refine PC.introZ 2 mix (fn := Tryz.f131) Tryz.func131 rfl (names 131 _ Tryz.func131) fun F hF hro W => ?_; simp -implicitDefEqProofs only [Tryz.ntmps131, Tryz.results131, fr0, st0, List.length_cons, List.length_nil, List.cons_append, List.nil_append, Nat.reduceAdd, Nat.reduceSub, List.replicate_succ, List.replicate_zero])
  repeat' (simp -implicitDefEqProofs only [↓reduceIte, runsY, lstY, facts, Nat.reduceAdd, Nat.reduceEqDiff, Nat.reduceLeDiff, Ev.av, bne_self_eq_false, *])
  refine OZ_for [false, false, true, true, false, true, false, false, false, false, false, false, false, false, false, false, false, false, false, false, false, false, false, false, false, false, false, false, false, false, false, false, false, false, false, false, false, false, false, false, false, false, false, false, false, false, false, false, false, false, false, false, false, false, false, false, false, false, false, false, false, false, false, false, false, false, false, false, false, false, false, false, false, false, false, false, false, false, false, false, false, false, false, false, false, false, false, false, false, false, false, false, false, false, false, false, false, false, false, false, false, false, false, false, false, false, false, false] [] 100 a.pitches.length (fun i (_ : Unit) => ⟨[.undef, .undef, .ptr 0 0, .ptr 1 0, .undef, .int .i64 (i : Nat), .undef, .undef, .undef, .undef, .undef, .undef, .undef, .undef, .undef, .undef, .undef, .undef, .undef, .undef, .undef, .undef, .undef, .undef, .undef, .undef, .undef, .undef, .undef, .undef, .undef, .undef, .undef, .undef, .undef, .undef, .undef, .undef, .undef, .undef, .undef, .undef, .undef, .undef, .undef, .undef, .undef, .undef, .undef, .undef, .undef, .undef, .undef, .undef, .undef, .undef, .undef, .undef, .undef, .undef, .undef, .undef, .undef, .undef, .undef, .undef, .undef, .undef, .undef, .undef, .undef, .undef, .undef, .undef, .undef, .undef, .undef, .undef, .undef, .undef, .undef, .undef, .undef, .undef, .undef, .undef, .undef, .undef, .undef, .undef, .undef, .undef, .undef, .undef, .undef, .undef, .undef, .undef, .undef, .undef, .undef, .undef, .undef, .undef, .undef, .undef, .undef, .undef], []⟩) (fun _ _ => ⟨[(1, .cells a.cells), (0, .cells a.cells)], 100⟩) (fun i _ => i ≤ a.pitches.length) () (Nat.zero_le _) rfl rfl ?_
  rintro i x hi -
  by_cases hil : i < a.pitches.length
  · repeat' (first
    | simp -implicitDefEqProofs only [↓reduceIte, runsY, lstY, facts, Nat.reduceAdd, Nat.reduceEqDiff, Nat.reduceLeDiff, getPi, Pi.av, Ev.cells, *]
    | simp -implicitDefEqProofs (disch := first | assumption | omega) only [wrap_in, *]
    | ((with_reducible refine condK_dec (fun _ => ?_) (fun _ => ?_)) <;> try (exfalso; omega))
    | ((with_reducible refine OZ_drawn ?_); refine OZ_draw' _ rfl (by decide +kernel) ?_))
    exact OZ_next () hil (by omega) rfl rfl
  · repeat' (first
    | simp -implicitDefEqProofs only [↓reduceIte, runsY, lstY, facts, Nat.reduceAdd, Nat.reduceEqDiff, Nat.reduceLeDiff, Ev.cells, *]
    | ((with_reducible refine condK_dec (fun _ => ?_) (fun _ => ?_)) <;> try (exfalso; omega)))
    refine OZ_for [false, false, true, true, false, false, true, false, false, false, false, false, false, false, false, false, false, false, false, false, false, false, false, false, false, false, false, false, false, false, false, false, false, false, false, false, false, false, false, false, false, false, false, false, false, false, false, false, false, false, false, false, false, false, false, false, false, false, false, false, false, false, false, false, false, false, false, false, false, false, false, false, false, false, false, false, false, false, false, false, false, false, false, false, false, false, false, false, false, false, false, false, false, false, false, false, false, false, false, false, false, false, false, false, false, false, false, false] [] 200 a.ties.length (fun i (_ : Unit) => ⟨[.undef, .undef, .ptr 0 0, .ptr 1 0, .undef, .undef, .int .i64 (i : Nat), .undef, .undef, .undef, .undef, .undef, .undef, .undef, .undef, .undef, .undef, .undef, .undef, .undef, .undef, .undef, .undef, .undef, .undef, .undef, .undef, .undef, .undef, .undef, .undef, .undef, .undef, .undef, .undef, .undef, .undef, .undef, .undef, .undef, .undef, .undef, .undef, .undef, .undef, .undef, .undef, .undef, .undef, .undef, .undef, .undef, .undef, .undef, .undef, .undef, .undef, .undef, .undef, .undef, .undef, .undef, .undef, .undef, .undef, .undef, .undef, .undef, .undef, .undef, .undef, .undef, .undef, .undef, .undef, .undef, .undef, .undef, .undef, .undef, .undef, .undef, .undef, .undef, .undef, .undef, .undef, .undef, .undef, .undef, .undef, .undef, .undef, .undef, .undef, .undef, .undef, .undef, .undef, .undef, .undef, .undef, .undef, .undef, .undef, .undef, .undef, .undef], []⟩) (fun _ _ => ⟨[(1, .cells a.cells), (0, .cells a.cells)], 200⟩) (fun i _ => i ≤ a.ties.length) () (Nat.zero_le _) rfl rfl ?_
    rintro j x hj -
    by_cases hjl : j < a.ties.length
    · repeat' (first
    | simp -implicitDefEqProofs only [↓reduceIte, runsY, lstY, facts, Nat.reduceAdd, Nat.reduceEqDiff, Nat.reduceLeDiff, getBo, Ev.cells, *]
    | simp -implicitDefEqProofs (disch := first | assumption | omega) only [wrap_in, *]
    | ((with_reducible refine condK_dec (fun _ => ?_) (fun _ => ?_)) <;> try (exfalso; omega))
    | ((with_reducible refine OZ_drawn ?_); refine OZ_draw' _ rfl (by decide +kernel) ?_))
      exact OZ_next () hjl (by omega) rfl rfl
    · repeat' (first
    | simp -implicitDefEqProofs only [↓reduceIte, runsY, lstY, facts, Nat.reduceAdd, Nat.reduceEqDiff, Nat.reduceLeDiff, Ev.cells, *]
    | ((with_reducible refine condK_dec (fun _ => ?_) (fun _ => ?_)) <;> try (exfalso; omega)))
      refine OZ_for [false, false, true, true, false, false, false, true, false, false, false, false, false, false, false, false, false, false, false, false, false, false, false, false, false, false, false, false, false, false, false, false, false, false, false, false, false, false, false, false, false, false, false, false, false, false, false, false, false, false, false, false, false, false, false, false, false, false, false, false, false, false, false, false, false, false, false, false, false, false, false, false, false, false, false, false, false, false, false, false, false, false, false, false, false, false, false, false, false, false, false, false, false, false, false, false, false, false, false, false, false, false, false, false, false, false, false, false] [] 300 a.marks.length (fun i (_ : Unit) => ⟨[.undef, .undef, .ptr 0 0, .ptr 1 0, .undef, .undef, .undef, .int .i64 (i : Nat), .undef, .undef, .undef, .undef, .undef, .undef, .undef, .undef, .undef, .undef, .undef, .undef, .undef, .undef, .undef, .undef, .undef, .undef, .undef, .undef, .undef, .undef, .undef, .undef, .undef, .undef, .undef, .undef, .undef, .undef, .undef, .undef, .undef, .undef, .undef, .undef, .undef, .undef, .undef, .undef, .undef, .undef, .undef, .undef, .undef, .undef, .undef, .undef, .undef, .undef, .undef, .undef, .undef, .undef, .undef, .undef, .undef, .undef, .undef, .undef, .undef, .undef, .undef, .undef, .undef, .undef, .undef, .undef, .undef, .undef, .undef, .undef, .undef, .undef, .undef, .undef, .undef, .undef, .undef, .undef, .undef, .undef, .undef, .undef, .undef, .undef, .undef, .undef, .undef, .undef, .undef, .undef, .undef, .undef, .undef, .undef, .undef, .undef, .undef, .undef], []⟩) (fun _ _ => ⟨[(1, .cells a.cells), (0, .cells a.cells)], 300⟩) (fun i _ => i ≤ a.marks.length) () (Nat.zero_le _) rfl rfl ?_
      rintro k x hk -
      by_cases hkl : k < a.marks.length
      · repeat' (first
    | simp -implicitDefEqProofs only [↓reduceIte, runsY, lstY, facts, Nat.reduceAdd, Nat.reduceEqDiff, Nat.reduceLeDiff, getIn, Ev.cells, bne_self_eq_false, *]
    | simp -implicitDefEqProofs (disch := first | assumption | omega) only [wrap_in, *]
    | ((with_reducible refine condK_dec (fun _ => ?_) (fun _ => ?_)) <;> try (exfalso; omega))
    | ((with_reducible refine OZ_drawn ?_); refine OZ_draw' _ rfl (by decide +kernel) ?_))
        exact OZ_next () hkl (by omega) rfl rfl
      · repeat' (first
    | simp -implicitDefEqProofs only [↓reduceIte, runsY, lstY, facts, Nat.reduceAdd, Nat.reduceEqDiff, Nat.reduceLeDiff, Ev.cells, *]
    | ((with_reducible refine condK_dec (fun _ => ?_) (fun _ => ?_)) <;> try (exfalso; omega)))
theorem same7_ok (a : Vo) (h : a.l.length ≤ 1000000) (hs : ∀ e ∈ a.l, e.short) : PC Tryz.prog gl 101 [a.av, a.av] (fun v => v = .bool true) := by
  (refine PC.introZ 2 mix (fn := Tryz.f101) Tryz.func101 rfl (names 101 _ Tryz.func101) fun F hF hro W => ?_; simp -implicitDefEqProofs only [Tryz.ntmps101, Tryz.results101, fr0, st0, List.length_cons, List.length_nil, List.cons_append, List.nil_append, Nat.reduceAdd, Nat.reduceSub, List.replicate_succ, List.replicate_zero])
  repeat' (simp -implicitDefEqProofs only [↓reduceIte, runsY, lstY, facts, Nat.reduceAdd, Nat.reduceEqDiff, Vo.av, bne_self_eq_false, *])
  refine OZ_for [false, false, true, true, false, true, false, false, false, false, false, false, false, false, false, false, false, false, false, false, false, false, false, false, false, false, false, false, false, false, false, false] [] 100 a.l.length (fun i (_ : Unit) => ⟨[.undef, .undef, .ptr 0 0, .ptr 1 0, .undef, .int .i64 (i : Nat), .undef, .undef, .undef, .undef, .undef, .undef, .undef, .undef, .undef, .undef, .undef, .undef, .undef, .undef, .undef, .undef, .undef, .undef, .undef, .undef, .undef, .undef, .undef, .undef, .undef, .undef], []⟩) (fun _ _ => ⟨[(1, .cells [.sl 9 (a.l.map Ev.av) .none]), (0, .cells [.sl 9 (a.l.map Ev.av) .none])], 100⟩) (fun i _ => i ≤ a.l.length) () (Nat.zero_le _) rfl rfl ?_
  rintro i x hi -
  by_cases hil : i < a.l.length
  · repeat' (first
    | simp -implicitDefEqProofs only [↓reduceIte, runsY, lstY, facts, Nat.reduceAdd, Nat.reduceEqDiff, getEv, Ev.av, *]
    | ((with_reducible refine sr_at 131 ?_); refine srstep_call (same6_ok a.l[i] (hs _ (List.getElem_mem hil))) (rfl) ?_)
    | simp -implicitDefEqProofs (disch := first | assumption | omega) only [wrap_in, *]
    | ((with_reducible refine condK_dec (fun _ => ?_) (fun _ => ?_)) <;> try (exfalso; omega))
    | ((with_reducible refine OZ_drawn ?_); refine OZ_draw' _ rfl (by decide +kernel) ?_))
    exact OZ_next () hil (by omega) rfl rfl
  · repeat' (first
    | simp -implicitDefEqProofs only [↓reduceIte, runsY, lstY, facts, Nat.reduceAdd, Nat.reduceEqDiff, *]
    | ((with_reducible refine condK_dec (fun _ => ?_) (fun _ => ?_)) <;> try (exfalso; omega)))
theorem sameCell_ok (a : List Vo) (h : a.length ≤ 1000000) (hs : ∀ v ∈ a, v.l.length ≤ 1000000 ∧ ∀ e ∈ v.l, e.short) : PC Tryz.prog gl 66 [(cellAV a), (cellAV a)] (fun v => v = .bool true) := by
  (refine PC.introZ 2 mix (fn := Tryz.f66) Tryz.func66 rfl (names 66 _ Tryz.func66) fun F hF hro W => ?_; simp -implicitDefEqProofs only [Tryz.ntmps66, Tryz.results66, fr0, st0, List.length_cons, List.length_nil, List.cons_append, List.nil_append, Nat.reduceAdd, Nat.reduceSub, List.replicate_succ, List.replicate_zero])
  repeat' (simp -implicitDefEqProofs only [↓reduceIte, runsY, lstY, facts, Nat.reduceAdd, cellAV, bne_self_eq_false, *])
  refine OZ_for [true, true, false, false, false, true, false, false, false, false, false, false, false, false, false, false, false, false, false, false, false, false, false, false, false, false, false, false, false] [] 100 a.length (fun i (_ : Unit) => ⟨[.sl 1 (a.map Vo.av) .none, .sl 1 (a.map Vo.av) .none, .undef, .undef, .undef, .int .i64 (i : Nat), .undef, .undef, .undef, .undef, .undef, .undef, .undef, .undef, .undef, .undef, .undef, .undef, .undef, .undef, .undef, .undef, .undef, .undef, .undef, .undef, .undef, .undef, .undef], []⟩) (fun _ _ => ⟨[], 100⟩) (fun i _ => i ≤ a.length) () (Nat.zero_le _) rfl rfl ?_
  rintro i x hi -
  by_cases hil : i < a.length
  · repeat' (first
    | simp -implicitDefEqProofs only [↓reduceIte, runsY, lstY, facts, Nat.reduceAdd, getVo, Vo.av, *]
    | ((with_reducible refine sr_at 101 ?_); refine srstep_call (same7_ok a[i] (hs _ (List.getElem_mem hil)).1 (hs _ (List.getElem_mem hil)).2) (rfl) ?_)
    | simp -implicitDefEqProofs (disch := first | assumption | omega) only [wrap_in, *]
    | ((with_reducible refine condK_dec (fun _ => ?_) (fun _ => ?_)) <;> try (exfalso; omega))
    | ((with_reducible refine OZ_drawn ?_); refine OZ_draw' _ rfl (by decide +kernel) ?_))
    exact OZ_next () hil (by omega) rfl rfl
  · repeat' (first
    | simp -implicitDefEqProofs only [↓reduceIte, runsY, lstY, facts, Nat.reduceAdd, *]
    | ((with_reducible refine condK_dec (fun _ => ?_) (fun _ => ?_)) <;> try (exfalso; omega)))
theorem sameDyns_ok (a : List Dy) (h : a.length ≤ 1000000) : PC Tryz.prog gl 67 [(dynsAV a), (dynsAV a)] (fun v => v = .bool true) := by
  (refine PC.introZ 2 mix (fn := Tryz.f67) Tryz.func67 rfl (names 67 _ Tryz.func67) fun F hF hro W => ?_; simp -implicitDefEqProofs only [Tryz.ntmps67, Tryz.results67, fr0, st0, List.length_cons, List.length_nil, List.cons_append, List.nil_append, Nat.reduceAdd, Nat.reduceSub, List.replicate_succ, List.replicate_zero])
  repeat' (simp -implicitDefEqProofs only [↓reduceIte, runsY, lstY, facts, Nat.reduceAdd, dynsAV, bne_self_eq_false, *])
  refine OZ_for [true, true, false, false, false, true, false, false, false, false, false, false, false, false, false, false, false, false, false, false, false, false, false, false, false, false] [] 100 a.length (fun i (_ : Unit) => ⟨[.sl 4 (a.map Dy.av) .none, .sl 4 (a.map Dy.av) .none, .undef, .undef, .undef, .int .i64 (i : Nat), .undef, .undef, .undef, .undef, .undef, .undef, .undef, .undef, .undef, .undef, .undef, .undef, .undef, .undef, .undef, .undef, .undef, .undef, .undef, .undef], []⟩) (fun _ _ => ⟨[], 100⟩) (fun i _ => i ≤ a.length) () (Nat.zero_le _) rfl rfl ?_
  rintro i x hi -
  by_cases hil : i < a.length
  · repeat' (first
    | simp -implicitDefEqProofs only [↓reduceIte, runsY, lstY, facts, Nat.reduceAdd, getDy, Dy.av, *]
    | simp -implicitDefEqProofs (disch := first | assumption | omega) only [wrap_in, *]
    | ((with_reducible refine condK_dec (fun _ => ?_) (fun _ => ?_)) <;> try (exfalso; omega))
    | ((with_reducible refine OZ_drawn ?_); refine OZ_draw' _ rfl (by decide +kernel) ?_))
    exact OZ_next () hil (by omega) rfl rfl
  · repeat' (first
    | simp -implicitDefEqProofs only [↓reduceIte, runsY, lstY, facts, Nat.reduceAdd, *]
    | ((with_reducible refine condK_dec (fun _ => ?_) (fun _ => ?_)) <;> try (exfalso; omega)))
end Go.Proofs.Pv
