/-
  Layer 9's reference: is a score small; is what an edit needs small?
  Conditions: none.
-/
import Derived.Test.YtiikpmhjckdpgaaGreatDoorC09k
namespace Go.Proofs.Pv
open Go Go.Proofs
set_option linter.unusedSimpArgs false
set_option linter.unusedVariables false
set_option maxRecDepth 100000
set_option maxHeartbeats 2000000
theorem getEv {l : List Ev} {i : Nat} (h : i < l.length) : l[i]? = some l[i] := List.getElem?_eq_getElem h
theorem getVo {l : List Vo} {i : Nat} (h : i < l.length) : l[i]? = some l[i] := List.getElem?_eq_getElem h
theorem getCe {l : List (List Vo)} {i : Nat} (h : i < l.length) : l[i]? = some l[i] := List.getElem?_eq_getElem h
theorem getDs {l : List (List Dy)} {i : Nat} (h : i < l.length) : l[i]? = some l[i] := List.getElem?_eq_getElem h
theorem getBa {l : List Ba} {i : Nat} (h : i < l.length) : l[i]? = some l[i] := List.getElem?_eq_getElem h
theorem getPa {l : List Pa} {i : Nat} (h : i < l.length) : l[i]? = some l[i] := List.getElem?_eq_getElem h
theorem getCs {l : List (List (List Vo))} {i : Nat} (h : i < l.length) : l[i]? = some l[i] := List.getElem?_eq_getElem h
theorem getDds {l : List (List (List Dy))} {i : Nat} (h : i < l.length) : l[i]? = some l[i] := List.getElem?_eq_getElem h
def fewL {α : Type} (n : Nat) (p : α → Bool) (l : List α) : Bool := decide ((l.length : Int) ≤ (n : Nat)) && l.all p
def upTo {α : Type} (p : α → Bool) (l : List α) (i : Nat) : Prop := ∀ j (hj : j < l.length), j < i → p l[j] = true
theorem upTo_zero {α : Type} {p : α → Bool} {l : List α} : upTo p l 0 := fun j _ h => absurd h (Nat.not_lt_zero j)
theorem upTo_succ {α : Type} {p : α → Bool} {l : List α} {i : Nat} (h : upTo p l i) (hi : i < l.length) (hp : p l[i] = true) : upTo p l (i + 1) := fun j hj hji => by
 rcases Nat.lt_or_ge j i with h1 | h1
 ·exact h j hj h1
 ·have : j = i := by omega
  subst this; exact hp
theorem upTo_bad {α : Type} {p : α → Bool} {l : List α} {i : Nat} (hi : i < l.length) (h : p l[i] = false) : l.all p = false := by
 rw [List.all_eq_false]
 exact ⟨l[i], List.getElem_mem hi, by simp [h]⟩
theorem upTo_all {α : Type} {p : α → Bool} {l : List α} {i : Nat} (hi : l.length ≤ i) (hQ : upTo p l i) : l.all p = true := by
 rw [List.all_eq_true]
 intro x hx
 obtain ⟨j, hj, rfl⟩ := List.mem_iff_getElem.1 hx
 exact hQ j hj (by omega)
theorem fewL_bad {α : Type} {n : Nat} {p : α → Bool} {l : List α} {i : Nat} (hi : i < l.length) (h : p l[i] = false) : fewL n p l = false := by
 simp [fewL, upTo_bad hi h]
theorem fewL_end {α : Type} {n : Nat} {p : α → Bool} {l : List α} {i : Nat} (hi : l.length ≤ i ∨ n < i) (hQ : upTo p l i) : fewL n p l = decide ((l.length : Int) ≤ (n : Nat)) := by
 by_cases h : l.length ≤ n
 ·simp [fewL, upTo_all (i := i) (by omega) hQ]
 ·have : ¬ ((l.length : Int) ≤ (n : Nat)) := by omega
  simp [fewL, this]
def Ev.fewB (e : Ev) : Bool := decide ((e.pitches.length : Int) ≤ 20) && (decide ((e.ties.length : Int) ≤ 20) && (decide ((e.marks.length : Int) ≤ 20) && decide ((e.word.size : Int) ≤ 100)))
theorem few6_ok (e : Ev) : PC Tryz.prog gl 29 [e.av] (fun v => v = .bool e.fewB) := by
 (refine PC.introZ 1 mix (fn := Tryz.f29) Tryz.func29 rfl (names 29 _ Tryz.func29) fun F hF hro W => ?_; simp -implicitDefEqProofs only [Tryz.ntmps29, Tryz.results29, entL, Nat.reduceAdd, Nat.reduceSub])
 repeat' (first
  | simp -implicitDefEqProofs only [↓reduceIte, runsY, lstY, facts, Nat.reduceAdd, Nat.reduceLeDiff, Ev.av, *]
  | ((with_reducible refine sstep_dec (fun _ => ?_) (fun _ => ?_)) <;> try omega))
 all_goals first | grind [Ev.fewB] | (simp_all [Ev.fewB]; done) | (simp [Ev.fewB, *]; omega)
def fewEvs (l : List Ev) : Bool := fewL 12 Ev.fewB l
theorem fewEvs_ok (l : List Ev) : PC Tryz.prog gl 14 [.sl 9 (l.map Ev.av) .none] (fun v => v = .bool (fewEvs l)) := by
 (refine PC.introZ 2 mix (fn := Tryz.f14) Tryz.func14 rfl (names 14 _ Tryz.func14) fun F hF hro W => ?_; simp -implicitDefEqProofs only [Tryz.ntmps14, Tryz.results14, entL, Nat.reduceAdd, Nat.reduceSub])
 repeat' (simp -implicitDefEqProofs only [runsY, lstY, Nat.reduceAdd, *])
 refine OZ_for (mkM 23 [0, 3]) [] 100 13 (fun i (_ : Unit) => ⟨[.sl 9 (l.map Ev.av) .none, .ud, .ud, .int .i64 (i : Nat), .ud, .ud, .ud, .ud, .ud, .ud, .ud, .ud, .ud, .ud, .ud, .ud, .ud, .ud, .ud, .ud, .ud, .ud, .ud], []⟩) (fun _ _ => ⟨[], 100⟩) (fun i _ => upTo Ev.fewB l i) () upTo_zero rfl rfl ?_
 rintro i x hi hQ
 repeat' (first
  | simp -implicitDefEqProofs only [↓reduceIte, runsY, lstY, facts, Nat.reduceAdd, *]
  | simp -implicitDefEqProofs (disch := first | assumption | omega) only [runsY, lstY, facts, if_pos, Nat.reduceAdd, wrap_in, getEv, Ev.av, *]
  | ((with_reducible refine condK_dec (fun _ => ?_) (fun _ => ?_)) <;> try omega)
  | ((with_reducible refine condK_nsplit (fun _ => ?_) (fun _ => ?_)) <;> try omega)
  | ((with_reducible refine sstep_dec (fun _ => ?_) (fun _ => ?_)) <;> try omega)
  | ((with_reducible refine OZ_at 29 ?_); refine PC.useZ hF (few6_ok _) (rfl) fun v hv => ?_; subst hv))
 ·rename_i h1 h2 h3
  exact OZ_next () (by omega) (upTo_succ hQ (by omega) h3) rfl rfl
 ·rename_i h1 h2 h3
  rw [fewEvs, fewL_bad (by omega) h3]
 ·rename_i h1 h2
  rw [fewEvs, fewL_end (.inr (by omega)) hQ]; rfl
 ·rename_i h1
  rw [fewEvs, fewL_end (.inl (by omega)) hQ]; rfl
def fewDy (d : List Dy) : Bool := !decide ((12 : Int) < (d.length : Int))
def fewDys (l : List (List Dy)) : Bool := fewL 6 fewDy l
theorem fewDys_ok (l : List (List Dy)) : PC Tryz.prog gl 13 [.sl 1 (l.map dynsAV) .none] (fun v => v = .bool (fewDys l)) := by
 (refine PC.introZ 2 mix (fn := Tryz.f13) Tryz.func13 rfl (names 13 _ Tryz.func13) fun F hF hro W => ?_; simp -implicitDefEqProofs only [Tryz.ntmps13, Tryz.results13, entL, Nat.reduceAdd, Nat.reduceSub])
 repeat' (simp -implicitDefEqProofs only [runsY, lstY, Nat.reduceAdd, *])
 refine OZ_for (mkM 23 [0, 3]) [] 100 7 (fun i (_ : Unit) => ⟨[.sl 1 (l.map dynsAV) .none, .ud, .ud, .int .i64 (i : Nat), .ud, .ud, .ud, .ud, .ud, .ud, .ud, .ud, .ud, .ud, .ud, .ud, .ud, .ud, .ud, .ud, .ud, .ud, .ud], []⟩) (fun _ _ => ⟨[], 100⟩) (fun i _ => upTo fewDy l i) () upTo_zero rfl rfl ?_
 rintro i x hi hQ
 repeat' (first
  | simp -implicitDefEqProofs only [↓reduceIte, runsY, lstY, facts, Nat.reduceAdd, *]
  | simp -implicitDefEqProofs (disch := first | assumption | omega) only [runsY, lstY, facts, Nat.reduceAdd, wrap_in, getDs, dynsAV, *]
  | ((with_reducible refine condK_dec (fun _ => ?_) (fun _ => ?_)) <;> try omega)
  | ((with_reducible refine sstep_dec (fun _ => ?_) (fun _ => ?_)) <;> try omega))
 all_goals first
  | (rw [fewDys, fewL_bad (i := i) (by omega) (by simp only [fewDy, Bool.not_eq_true', Bool.not_eq_false', Bool.or_eq_true, Bool.or_eq_false_iff, Bool.and_eq_true, decide_eq_true_eq, decide_eq_false_iff_not]; omega)])
  | (rw [fewDys, fewL_end (i := i) (by omega) hQ]; rfl)
  | exact OZ_next () (by omega) (upTo_succ hQ (by omega) (by simp only [fewDy, Bool.not_eq_true', Bool.not_eq_false', Bool.or_eq_true, Bool.or_eq_false_iff, Bool.and_eq_true, decide_eq_true_eq, decide_eq_false_iff_not]; omega)) rfl rfl
def Ba.fewB (b : Ba) : Bool := !(decide ((12 : Int) < (b.meter.groups.length : Int)) || (decide ((12 : Int) < (b.turn.endings.length : Int)) || decide ((12 : Int) < (b.tempos.length : Int))))
def fewBas (l : List Ba) : Bool := fewL 6 Ba.fewB l
theorem fewBas_ok (l : List Ba) : PC Tryz.prog gl 11 [.sl 14 (l.map Ba.av) .none] (fun v => v = .bool (fewBas l)) := by
 (refine PC.introZ 2 mix (fn := Tryz.f11) Tryz.func11 rfl (names 11 _ Tryz.func11) fun F hF hro W => ?_; simp -implicitDefEqProofs only [Tryz.ntmps11, Tryz.results11, entL, Nat.reduceAdd, Nat.reduceSub])
 repeat' (simp -implicitDefEqProofs only [runsY, lstY, Nat.reduceAdd, *])
 refine OZ_for (mkM 44 [0, 3]) [] 100 7 (fun i (_ : Unit) => ⟨[.sl 14 (l.map Ba.av) .none, .ud, .ud, .int .i64 (i : Nat), .ud, .ud, .ud, .ud, .ud, .ud, .ud, .ud, .ud, .ud, .ud, .ud, .ud, .ud, .ud, .ud, .ud, .ud, .ud, .ud, .ud, .ud, .ud, .ud, .ud, .ud, .ud, .ud, .ud, .ud, .ud, .ud, .ud, .ud, .ud, .ud, .ud, .ud, .ud, .ud], []⟩) (fun _ _ => ⟨[], 100⟩) (fun i _ => upTo Ba.fewB l i) () upTo_zero rfl rfl ?_
 rintro i x hi hQ
 repeat' (first
  | simp -implicitDefEqProofs only [↓reduceIte, runsY, lstY, facts, Nat.reduceAdd, *]
  | simp -implicitDefEqProofs (disch := first | assumption | omega) only [runsY, lstY, facts, Nat.reduceAdd, Nat.reduceEqDiff, Nat.reduceLT, Nat.reduceLeDiff, wrap_in, getBa, Ba.av, *]
  | ((with_reducible refine condK_dec (fun _ => ?_) (fun _ => ?_)) <;> try omega)
  | ((with_reducible refine sstep_ndec (fun _ => ?_) (fun _ => ?_)) <;> try omega)
  | ((with_reducible refine sstep_dec (fun _ => ?_) (fun _ => ?_)) <;> try omega))
 all_goals first
  | (rw [fewBas, fewL_bad (i := i) (by omega) (by simp only [Ba.fewB, Bool.not_eq_true', Bool.not_eq_false', Bool.or_eq_true, Bool.or_eq_false_iff, Bool.and_eq_true, decide_eq_true_eq, decide_eq_false_iff_not]; omega)])
  | (rw [fewBas, fewL_end (i := i) (by omega) hQ]; rfl)
  | exact OZ_next () (by omega) (upTo_succ hQ (by omega) (by simp only [Ba.fewB, Bool.not_eq_true', Bool.not_eq_false', Bool.or_eq_true, Bool.or_eq_false_iff, Bool.and_eq_true, decide_eq_true_eq, decide_eq_false_iff_not]; omega)) rfl rfl
def fewCe (c : List Vo) : Bool := !decide ((4 : Int) < (c.length : Int)) && c.all fun v => fewEvs v.l
def fewCes (l : List (List Vo)) : Bool := fewL 6 fewCe l
theorem fewCes_ok (l : List (List Vo)) : PC Tryz.prog gl 12 [.sl 1 (l.map cellAV) .none] (fun v => v = .bool (fewCes l)) := by
  (refine PC.introZ 2 mix (fn := Tryz.f12) Tryz.func12 rfl (names 12 _ Tryz.func12) fun F hF hro W => ?_; simp -implicitDefEqProofs only [Tryz.ntmps12, Tryz.results12, entL, Nat.reduceAdd, Nat.reduceSub])
  repeat' (simp -implicitDefEqProofs only [runsY, lstY, Nat.reduceAdd, *])
  refine OZ_for (mkM 43 [0, 3]) [] 100 7 (fun i (_ : Unit) => ⟨[.sl 1 (l.map cellAV) .none, .ud, .ud, .int .i64 (i : Nat), .ud, .ud, .ud, .ud, .ud, .ud, .ud, .ud, .ud, .ud, .ud, .ud, .ud, .ud, .ud, .ud, .ud, .ud, .ud, .ud, .ud, .ud, .ud, .ud, .ud, .ud, .ud, .ud, .ud, .ud, .ud, .ud, .ud, .ud, .ud, .ud, .ud, .ud, .ud], []⟩) (fun _ _ => ⟨[], 100⟩) (fun i _ => upTo fewCe l i) () upTo_zero rfl rfl ?_
  rintro i x hi hQ
  repeat' (first
    | simp -implicitDefEqProofs only [↓reduceIte, runsY, lstY, facts, Nat.reduceAdd, *]
    | simp -implicitDefEqProofs (disch := first | assumption | omega) only [runsY, lstY, facts, Nat.reduceAdd, getCe, cellAV, *]
    | ((with_reducible refine condK_dec (fun _ => ?_) (fun _ => ?_)) <;> try omega)
    | ((with_reducible refine sstep_dec (fun _ => ?_) (fun _ => ?_)) <;> try omega))
  · rename_i h1 h2 h3
    rw [fewCes, fewL_bad (i := i) (by omega) (by simp [fewCe, h3])]
  · rename_i h1 h2 h3
    have hi' : i < l.length := by omega
    refine OZ_for (mkM 43 [0, 3, 4]) [] 200 l[i].length (fun k (_ : Unit) => ⟨[.sl 1 (l.map cellAV) .none, .ud, .ud, .int .i64 (i : Nat), .int .i64 (k : Nat), .ud, .ud, .ud, .ud, .ud, .ud, .ud, .ud, .ud, .ud, .ud, .ud, .ud, .ud, .ud, .ud, .ud, .ud, .ud, .ud, .ud, .ud, .ud, .ud, .ud, .ud, .ud, .ud, .ud, .ud, .ud, .ud, .ud, .ud, .ud, .ud, .ud, .ud], []⟩) (fun _ _ => ⟨[], 200⟩) (fun k _ => upTo (fun v : Vo => fewEvs v.l) l[i] k) () upTo_zero rfl rfl ?_
    rintro k y hk hQ2
    by_cases hkl : k < l[i].length
    · repeat' (first
    | simp -implicitDefEqProofs only [↓reduceIte, runsY, lstY, facts, Nat.reduceAdd, getCe, getVo, cellAV, Vo.av, *]
    | simp -implicitDefEqProofs (disch := first | assumption | omega) only [wrap_in, *]
    | ((with_reducible refine condK_dec (fun _ => ?_) (fun _ => ?_)) <;> try omega)
    | ((with_reducible refine condK_nsplit (fun _ => ?_) (fun _ => ?_)) <;> try omega)
    | ((with_reducible refine OZ_at 14 ?_); refine PC.useZ hF (fewEvs_ok _) (rfl) fun v hv => ?_; subst hv))
      · rename_i h4
        exact OZ_next () hkl (upTo_succ hQ2 hkl h4) rfl rfl
      · rename_i h4
        rw [fewCes, fewL_bad (i := i) hi' (by rw [fewCe, upTo_bad (p := fun v : Vo => fewEvs v.l) hkl h4, Bool.and_false])]
    · repeat' (first
    | simp -implicitDefEqProofs only [↓reduceIte, runsY, lstY, facts, Nat.reduceAdd, getCe, cellAV, *]
    | simp -implicitDefEqProofs (disch := first | assumption | omega) only [wrap_in, *]
    | ((with_reducible refine condK_dec (fun _ => ?_) (fun _ => ?_)) <;> try omega))
      have hall := upTo_all (i := k) (by omega) hQ2
      exact OZ_next () (by omega) (upTo_succ hQ hi' (by rw [fewCe, hall, Bool.and_true]; simp only [Bool.not_eq_true', decide_eq_false_iff_not]; omega)) rfl rfl
  · rename_i h1 h2
    rw [fewCes, fewL_end (.inr (by omega)) hQ]; rfl
  · rename_i h1
    rw [fewCes, fewL_end (.inl (by omega)) hQ]; rfl
def Pa.fewB (p : Pa) : Bool := !decide ((100 : Int) < (p.name.size : Int)) && (fewCes p.cells && fewDys p.dyns)
def Sc.fewB (s : Sc) : Bool := (!decide ((6 : Int) < (s.bars.length : Int)) && (!decide ((4 : Int) < (s.parts.length : Int)) && (!decide ((100 : Int) < (s.title.size : Int)) && fewBas s.bars))) && s.parts.all Pa.fewB
theorem few_ok (s : Sc) : PC Tryz.prog gl 5 [s.av] (fun v => v = .bool s.fewB) := by
 (refine PC.introZ 2 mix (fn := Tryz.f5) Tryz.func5 rfl (names 5 _ Tryz.func5) fun F hF hro W => ?_; simp -implicitDefEqProofs only [Tryz.ntmps5, Tryz.results5, entL, Nat.reduceAdd, Nat.reduceSub])
 repeat' (first
  | simp -implicitDefEqProofs only [↓reduceIte, runsY, lstY, facts, Nat.reduceAdd, Nat.reduceLeDiff, Sc.av, *]
  | ((with_reducible refine condK_nsplit (fun _ => ?_) (fun _ => ?_)) <;> try omega)
  | ((with_reducible refine sstep_ndec (fun _ => ?_) (fun _ => ?_)) <;> try omega)
  | ((with_reducible refine OZ_at 11 ?_); refine PC.useZ hF (fewBas_ok _) (rfl) fun v hv => ?_; subst hv))
 all_goals first
  | grind [Sc.fewB]
  | skip
 refine OZ_for (mkM 55 [1, 3]) [] 100 s.parts.length (fun i (_ : Unit) => ⟨[.ud, .ptr 0 0, .ud, .int .i64 (i : Nat), .ud, .ud, .ud, .ud, .ud, .ud, .ud, .ud, .ud, .ud, .ud, .ud, .ud, .ud, .ud, .ud, .ud, .ud, .ud, .ud, .ud, .ud, .ud, .ud, .ud, .ud, .ud, .ud, .ud, .ud, .ud, .ud, .ud, .ud, .ud, .ud, .ud, .ud, .ud, .ud, .ud, .ud, .ud, .ud, .ud, .ud, .ud, .ud, .ud, .ud, .ud], []⟩) (fun _ _ => ⟨[(0, .cells [.str s.title, .sl 14 (s.bars.map Ba.av) .none, .sl 5 (s.parts.map Pa.av) .none])], 100⟩) (fun i _ => upTo Pa.fewB s.parts i) () upTo_zero rfl rfl ?_
 rintro i x hi hQ
 by_cases hil : i < s.parts.length
 ·repeat' (first
  | simp -implicitDefEqProofs only [↓reduceIte, runsY, lstY, facts, Nat.reduceAdd, Nat.reduceEqDiff, Nat.reduceLeDiff, getPa, Pa.av, *]
  | simp -implicitDefEqProofs (disch := first | assumption | omega) only [wrap_in, *]
  | ((with_reducible refine condK_dec (fun _ => ?_) (fun _ => ?_)) <;> try omega)
  | ((with_reducible refine condK_nsplit (fun _ => ?_) (fun _ => ?_)) <;> try omega)
  | ((with_reducible refine sstep_ndec (fun _ => ?_) (fun _ => ?_)) <;> try omega)
  | ((with_reducible refine sstep_nsplit (fun _ => ?_) (fun _ => ?_)) <;> try omega)
  | ((with_reducible refine OZ_at 12 ?_); refine PC.useZ hF (fewCes_ok _) (rfl) fun v hv => ?_; subst hv)
  | ((with_reducible refine OZ_at 13 ?_); refine PC.useZ hF (fewDys_ok _) (rfl) fun v hv => ?_; subst hv))
  all_goals first
   | (rw [Sc.fewB, upTo_bad (p := Pa.fewB) hil (by grind [Pa.fewB]), Bool.and_false])
   | exact OZ_next () hil (upTo_succ hQ hil (by grind [Pa.fewB])) rfl rfl
 ·repeat' (first
  | simp -implicitDefEqProofs only [↓reduceIte, runsY, lstY, facts, Nat.reduceAdd, Nat.reduceLeDiff, *]
  | ((with_reducible refine condK_dec (fun _ => ?_) (fun _ => ?_)) <;> try omega))
  have hall := upTo_all (i := i) (by omega) hQ
  grind [Sc.fewB]
def EOp.fewB (o : EOp) : Bool := (!decide ((100 : Int) < (o.text.size : Int)) && (!decide ((4 : Int) < (o.cells.length : Int)) && (!decide ((4 : Int) < (o.dyns.length : Int)) && (fewBas o.bars && fewEvs o.events)))) && (o.cells.all fewCes && o.dyns.all fewDys)
theorem fewOp_ok (o : EOp) : PC Tryz.prog gl 6 [o.av] (fun v => v = .bool o.fewB) := by
  (refine PC.introZ 2 mix (fn := Tryz.f6) Tryz.func6 rfl (names 6 _ Tryz.func6) fun F hF hro W => ?_; simp -implicitDefEqProofs only [Tryz.ntmps6, Tryz.results6, entL, Nat.reduceAdd, Nat.reduceSub])
  repeat' (first
    | simp -implicitDefEqProofs only [↓reduceIte, runsY, lstY, facts, Nat.reduceAdd, Nat.reduceLeDiff, EOp.av, *]
    | ((with_reducible refine condK_nsplit (fun _ => ?_) (fun _ => ?_)) <;> try omega)
    | ((with_reducible refine sstep_ndec (fun _ => ?_) (fun _ => ?_)) <;> try omega)
    | ((with_reducible refine sstep_nsplit (fun _ => ?_) (fun _ => ?_)) <;> try omega)
    | ((with_reducible refine OZ_at 11 ?_); refine PC.useZ hF (fewBas_ok _) (rfl) fun v hv => ?_; subst hv)
    | ((with_reducible refine OZ_at 14 ?_); refine PC.useZ hF (fewEvs_ok _) (rfl) fun v hv => ?_; subst hv))
  all_goals first
    | grind [EOp.fewB]
    | skip
  refine OZ_for (mkM 61 [1, 3]) [] 100 o.cells.length (fun i (_ : Unit) => ⟨[.ud, .ptr 0 0, .ud, .int .i64 (i : Nat), .ud, .ud, .ud, .ud, .ud, .ud, .ud, .ud, .ud, .ud, .ud, .ud, .ud, .ud, .ud, .ud, .ud, .ud, .ud, .ud, .ud, .ud, .ud, .ud, .ud, .ud, .ud, .ud, .ud, .ud, .ud, .ud, .ud, .ud, .ud, .ud, .ud, .ud, .ud, .ud, .ud, .ud, .ud, .ud, .ud, .ud, .ud, .ud, .ud, .ud, .ud, .ud, .ud, .ud, .ud, .ud, .ud], []⟩) (fun _ _ => ⟨[(0, .cells o.cells13)], 100⟩) (fun i _ => upTo fewCes o.cells i) () upTo_zero rfl rfl ?_
  rintro i x hi hQ
  by_cases hil : i < o.cells.length
  · repeat' (first
    | simp -implicitDefEqProofs only [↓reduceIte, runsY, lstY, facts, Nat.reduceAdd, Nat.reduceLeDiff, getCs, EOp.cells13, cellsAV, *]
    | simp -implicitDefEqProofs (disch := first | assumption | omega) only [wrap_in, *]
    | ((with_reducible refine condK_dec (fun _ => ?_) (fun _ => ?_)) <;> try omega)
    | ((with_reducible refine condK_nsplit (fun _ => ?_) (fun _ => ?_)) <;> try omega)
    | ((with_reducible refine OZ_at 12 ?_); refine PC.useZ hF (fewCes_ok _) (rfl) fun v hv => ?_; subst hv))
    all_goals first
      | (rw [EOp.fewB, upTo_bad (p := fewCes) hil (by assumption), Bool.false_and, Bool.and_false])
      | exact OZ_next () hil (upTo_succ hQ hil (by assumption)) rfl rfl
  · repeat' (first
    | simp -implicitDefEqProofs only [↓reduceIte, runsY, lstY, facts, Nat.reduceAdd, Nat.reduceLeDiff, EOp.cells13, *]
    | ((with_reducible refine condK_dec (fun _ => ?_) (fun _ => ?_)) <;> try omega))
    refine OZ_for (mkM 61 [1, 4]) [] 200 o.dyns.length (fun i (_ : Unit) => ⟨[.ud, .ptr 0 0, .ud, .ud, .int .i64 (i : Nat), .ud, .ud, .ud, .ud, .ud, .ud, .ud, .ud, .ud, .ud, .ud, .ud, .ud, .ud, .ud, .ud, .ud, .ud, .ud, .ud, .ud, .ud, .ud, .ud, .ud, .ud, .ud, .ud, .ud, .ud, .ud, .ud, .ud, .ud, .ud, .ud, .ud, .ud, .ud, .ud, .ud, .ud, .ud, .ud, .ud, .ud, .ud, .ud, .ud, .ud, .ud, .ud, .ud, .ud, .ud, .ud], []⟩) (fun _ _ => ⟨[(0, .cells o.cells13)], 200⟩) (fun i _ => upTo fewDys o.dyns i) () upTo_zero rfl rfl ?_
    rintro k y hk hQ2
    by_cases hkl : k < o.dyns.length
    · repeat' (first
    | simp -implicitDefEqProofs only [↓reduceIte, runsY, lstY, facts, Nat.reduceAdd, Nat.reduceLeDiff, getDds, EOp.cells13, dynssAV, *]
    | simp -implicitDefEqProofs (disch := first | assumption | omega) only [wrap_in, *]
    | ((with_reducible refine condK_dec (fun _ => ?_) (fun _ => ?_)) <;> try omega)
    | ((with_reducible refine condK_nsplit (fun _ => ?_) (fun _ => ?_)) <;> try omega)
    | ((with_reducible refine OZ_at 13 ?_); refine PC.useZ hF (fewDys_ok _) (rfl) fun v hv => ?_; subst hv))
      all_goals first
        | (rw [EOp.fewB, upTo_bad (p := fewDys) hkl (by assumption), Bool.and_false, Bool.and_false])
        | exact OZ_next () hkl (upTo_succ hQ2 hkl (by assumption)) rfl rfl
    · repeat' (first
    | simp -implicitDefEqProofs only [↓reduceIte, runsY, lstY, facts, Nat.reduceAdd, Nat.reduceLeDiff, EOp.cells13, *]
    | ((with_reducible refine condK_dec (fun _ => ?_) (fun _ => ?_)) <;> try omega))
      have hall := upTo_all (i := i) (by omega) hQ
      have hall2 := upTo_all (i := k) (by omega) hQ2
      grind [EOp.fewB]
end Go.Proofs.Pv
