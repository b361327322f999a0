/-
  The references' sameness of bars, parts, scores: each is the same as itself.
  Conditions: lists of a million things at most.
-/
import Derived.Test.YtjcjhlnccglmkaaGreatDoorC09s
namespace Go.Proofs.Pv
open Go Go.Proofs
set_option linter.unusedSimpArgs false
set_option linter.unusedVariables false
set_option maxRecDepth 100000
set_option maxHeartbeats 4000000
def Ba.cells14 (b : Ba) : List AV := [.int .i64 b.meter.num, .int .i64 b.meter.den, .sl 1 (b.meter.groups.map (AV.int .i64)) .none, .int .i64 b.key.fifths, .bool b.key.minor,
  .bool b.turn.begin_, .int .i64 b.turn.times, .sl 1 (b.turn.endings.map (AV.int .i64)) .none, .bool b.turn.sign, .bool b.turn.coda, .bool b.turn.tocoda, .bool b.turn.fine, .int .i64 b.turn.jump, .sl 4 (b.tempos.map Te.av) .none]
def Tu.cells8 (t : Tu) : List AV := [.bool t.begin_, .int .i64 t.times, .sl 1 (t.endings.map (AV.int .i64)) .none, .bool t.sign, .bool t.coda, .bool t.tocoda, .bool t.fine, .int .i64 t.jump]
theorem sameBar_ok (a : Ba) (h : a.short) : PC Tryz.prog gl 26 [a.av, a.av] (fun v => v = .bool true) := by
  obtain ⟨h1, h2, h3⟩ := h
  have h5 := same5_ok a.meter h1
  (refine PC.introZ 2 mix (fn := Tryz.f26) Tryz.func26 rfl (names 26 _ Tryz.func26) fun F hF hro W => ?_; simp -implicitDefEqProofs only [Tryz.ntmps26, Tryz.results26, fr0, st0, List.length_cons, List.length_nil, List.cons_append, List.nil_append, Nat.reduceAdd, Nat.reduceSub, List.replicate_succ, List.replicate_zero])
  repeat' (first
    | simp -implicitDefEqProofs only [↓reduceIte, runsY, lstY, facts, Nat.reduceAdd, Nat.reduceEqDiff, Nat.reduceLeDiff, Ba.av, bne_self_eq_false, *]
    | ((with_reducible refine OZ_at 65 ?_); refine PC.useZ hF h5 (rfl) fun v hv => ?_; subst hv))
  refine OZ_for [false, false, true, true, false, true, true, false, true, false, false, false, false, false, false, false, false, false, false, false, false, false, false, false, false, false, false, false, false, false, false, false, false, false, false, false, false, false, false, false, false, false, false, false, false, false, false, false, false, false, false, false, false, false, false, false, false, false, false, false, false, false, false, false, false, false, false, false, false, false, false, false, false, false, false, false, false, false, false, false, false, false, false, false, false, false, false, false, false, false, false, false, false, false, false, false, false, false, false, false, false, false, false, false, false, false, false, false, false, false, false, false, false, false, false, false, false, false, false, false, false, false, false, false, false, false, false, false, false] [] 100 a.turn.endings.length (fun i (_ : Unit) => ⟨[.undef, .undef, .ptr 0 0, .ptr 1 0, .undef, .ptr 5 0, .ptr 9 0, .undef, .int .i64 (i : Nat), .undef, .undef, .undef, .undef, .undef, .undef, .undef, .undef, .undef, .undef, .undef, .undef, .undef, .undef, .undef, .undef, .undef, .undef, .undef, .undef, .undef, .undef, .undef, .undef, .undef, .undef, .undef, .undef, .undef, .undef, .undef, .undef, .undef, .undef, .undef, .undef, .undef, .undef, .undef, .undef, .undef, .undef, .undef, .undef, .undef, .undef, .undef, .undef, .undef, .undef, .undef, .undef, .undef, .undef, .undef, .undef, .undef, .undef, .undef, .undef, .undef, .undef, .undef, .undef, .undef, .undef, .undef, .undef, .undef, .undef, .undef, .undef, .undef, .undef, .undef, .undef, .undef, .undef, .undef, .undef, .undef, .undef, .undef, .undef, .undef, .undef, .undef, .undef, .undef, .undef, .undef, .undef, .undef, .undef, .undef, .undef, .undef, .undef, .undef, .undef, .undef, .undef, .undef, .undef, .undef, .undef, .undef, .undef, .undef, .undef, .undef, .undef, .undef, .undef, .undef, .undef, .undef, .undef, .undef, .undef], []⟩) (fun _ _ => ⟨[(9, .cells a.turn.cells8), (5, .cells a.turn.cells8), (1, .cells a.cells14), (0, .cells a.cells14)], 100⟩) (fun i _ => i ≤ a.turn.endings.length) () (Nat.zero_le _) rfl rfl ?_
  rintro i x hi -
  by_cases hil : i < a.turn.endings.length
  · repeat' (first
    | simp -implicitDefEqProofs only [↓reduceIte, runsY, lstY, facts, Nat.reduceAdd, Nat.reduceEqDiff, Nat.reduceLeDiff, getIn, Tu.cells8, Ba.cells14, bne_self_eq_false, *]
    | simp -implicitDefEqProofs (disch := first | assumption | omega) only [wrap_in, *]
    | ((with_reducible refine condK_dec (fun _ => ?_) (fun _ => ?_)) <;> try (exfalso; omega))
    | ((with_reducible refine OZ_drawn ?_); refine OZ_draw' _ rfl (by decide +kernel) ?_))
    exact OZ_next () hil (by omega) rfl rfl
  · repeat' (first
    | simp -implicitDefEqProofs only [↓reduceIte, runsY, lstY, facts, Nat.reduceAdd, Nat.reduceEqDiff, Nat.reduceLeDiff, Tu.cells8, Ba.cells14, *]
    | ((with_reducible refine condK_dec (fun _ => ?_) (fun _ => ?_)) <;> try (exfalso; omega)))
    refine OZ_for [false, false, true, true, false, false, false, false, false, true, false, false, false, false, false, false, false, false, false, false, false, false, false, false, false, false, false, false, false, false, false, false, false, false, false, false, false, false, false, false, false, false, false, false, false, false, false, false, false, false, false, false, false, false, false, false, false, false, false, false, false, false, false, false, false, false, false, false, false, false, false, false, false, false, false, false, false, false, false, false, false, false, false, false, false, false, false, false, false, false, false, false, false, false, false, false, false, false, false, false, false, false, false, false, false, false, false, false, false, false, false, false, false, false, false, false, false, false, false, false, false, false, false, false, false, false, false, false, false] [] 200 a.tempos.length (fun i (_ : Unit) => ⟨[.undef, .undef, .ptr 0 0, .ptr 1 0, .undef, .undef, .undef, .undef, .undef, .int .i64 (i : Nat), .undef, .undef, .undef, .undef, .undef, .undef, .undef, .undef, .undef, .undef, .undef, .undef, .undef, .undef, .undef, .undef, .undef, .undef, .undef, .undef, .undef, .undef, .undef, .undef, .undef, .undef, .undef, .undef, .undef, .undef, .undef, .undef, .undef, .undef, .undef, .undef, .undef, .undef, .undef, .undef, .undef, .undef, .undef, .undef, .undef, .undef, .undef, .undef, .undef, .undef, .undef, .undef, .undef, .undef, .undef, .undef, .undef, .undef, .undef, .undef, .undef, .undef, .undef, .undef, .undef, .undef, .undef, .undef, .undef, .undef, .undef, .undef, .undef, .undef, .undef, .undef, .undef, .undef, .undef, .undef, .undef, .undef, .undef, .undef, .undef, .undef, .undef, .undef, .undef, .undef, .undef, .undef, .undef, .undef, .undef, .undef, .undef, .undef, .undef, .undef, .undef, .undef, .undef, .undef, .undef, .undef, .undef, .undef, .undef, .undef, .undef, .undef, .undef, .undef, .undef, .undef, .undef, .undef, .undef], []⟩) (fun _ _ => ⟨[(9, .cells a.turn.cells8), (5, .cells a.turn.cells8), (1, .cells a.cells14), (0, .cells a.cells14)], 200⟩) (fun i _ => i ≤ a.tempos.length) () (Nat.zero_le _) rfl rfl ?_
    rintro j x hj -
    by_cases hjl : j < a.tempos.length
    · repeat' (first
    | simp -implicitDefEqProofs only [↓reduceIte, runsY, lstY, facts, Nat.reduceAdd, Nat.reduceEqDiff, Nat.reduceLeDiff, getTe, Te.av, Tu.cells8, Ba.cells14, *]
    | simp -implicitDefEqProofs (disch := first | assumption | omega) only [wrap_in, *]
    | ((with_reducible refine condK_dec (fun _ => ?_) (fun _ => ?_)) <;> try (exfalso; omega))
    | ((with_reducible refine OZ_drawn ?_); refine OZ_draw' _ rfl (by decide +kernel) ?_))
      exact OZ_next () hjl (by omega) rfl rfl
    · repeat' (first
    | simp -implicitDefEqProofs only [↓reduceIte, runsY, lstY, facts, Nat.reduceAdd, Nat.reduceEqDiff, Nat.reduceLeDiff, Tu.cells8, Ba.cells14, *]
    | ((with_reducible refine condK_dec (fun _ => ?_) (fun _ => ?_)) <;> try (exfalso; omega)))
theorem samePart_ok (a : Pa) (h : a.good) : PC Tryz.prog gl 27 [a.av, a.av] (fun v => v = .bool true) := by
  obtain ⟨h1, h2, h3, h4, h5⟩ := h
  have hc : ∀ c ∈ a.cells, PC Tryz.prog gl 66 [cellAV c, cellAV c] (fun v => v = .bool true) := fun c hc => sameCell_ok c (h3 c hc).hi fun v hv => ⟨((h3 c hc).vo v hv).hi, ((h3 c hc).vo v hv).ev⟩
  (refine PC.introZ 2 mix (fn := Tryz.f27) Tryz.func27 rfl (names 27 _ Tryz.func27) fun F hF hro W => ?_; simp -implicitDefEqProofs only [Tryz.ntmps27, Tryz.results27, fr0, st0, List.length_cons, List.length_nil, List.cons_append, List.nil_append, Nat.reduceAdd, Nat.reduceSub, List.replicate_succ, List.replicate_zero])
  repeat' (simp -implicitDefEqProofs only [↓reduceIte, runsY, lstY, facts, Nat.reduceAdd, Nat.reduceEqDiff, Nat.reduceLeDiff, Pa.av, bne_self_eq_false, *])
  refine OZ_for [false, false, true, true, false, true, false, false, false, false, false, false, false, false, false, false, false, false, false, false, false, false, false, false, false, false, false, false, false, false, false, false, false, false, false, false, false, false, false, false, false, false, false, false, false, false, false, false, false, false, false, false, false, false, false, false, false, false, false, false, false, false, false, false, false, false, false, false, false, false, false, false, false, false, false, false, false, false, false, false, false, false, false, false, false, false] [] 100 a.cells.length (fun i (_ : Unit) => ⟨[.undef, .undef, .ptr 0 0, .ptr 1 0, .undef, .int .i64 (i : Nat), .undef, .undef, .undef, .undef, .undef, .undef, .undef, .undef, .undef, .undef, .undef, .undef, .undef, .undef, .undef, .undef, .undef, .undef, .undef, .undef, .undef, .undef, .undef, .undef, .undef, .undef, .undef, .undef, .undef, .undef, .undef, .undef, .undef, .undef, .undef, .undef, .undef, .undef, .undef, .undef, .undef, .undef, .undef, .undef, .undef, .undef, .undef, .undef, .undef, .undef, .undef, .undef, .undef, .undef, .undef, .undef, .undef, .undef, .undef, .undef, .undef, .undef, .undef, .undef, .undef, .undef, .undef, .undef, .undef, .undef, .undef, .undef, .undef, .undef, .undef, .undef, .undef, .undef, .undef, .undef], []⟩) (fun _ _ => ⟨[(1, .cells a.cells5), (0, .cells a.cells5)], 100⟩) (fun i _ => i ≤ a.cells.length) () (Nat.zero_le _) rfl rfl ?_
  rintro i x hi -
  by_cases hil : i < a.cells.length
  · have hci := hc _ (List.getElem_mem hil)
    repeat' (first
    | simp -implicitDefEqProofs only [↓reduceIte, runsY, lstY, facts, Nat.reduceAdd, Nat.reduceEqDiff, Nat.reduceLeDiff, getCe, cellAV, Pa.cells5, *]
    | ((with_reducible refine sr_at 66 ?_); refine srstep_call hci (rfl) ?_)
    | simp -implicitDefEqProofs (disch := first | assumption | omega) only [wrap_in, *]
    | ((with_reducible refine condK_dec (fun _ => ?_) (fun _ => ?_)) <;> try (exfalso; omega))
    | ((with_reducible refine OZ_drawn ?_); refine OZ_draw' _ rfl (by decide +kernel) ?_))
    exact OZ_next () hil (by omega) rfl rfl
  · repeat' (first
    | simp -implicitDefEqProofs only [↓reduceIte, runsY, lstY, facts, Nat.reduceAdd, Nat.reduceEqDiff, Nat.reduceLeDiff, Pa.cells5, *]
    | ((with_reducible refine condK_dec (fun _ => ?_) (fun _ => ?_)) <;> try (exfalso; omega)))
    refine OZ_for [false, false, true, true, false, false, false, true, false, false, false, false, false, false, false, false, false, false, false, false, false, false, false, false, false, false, false, false, false, false, false, false, false, false, false, false, false, false, false, false, false, false, false, false, false, false, false, false, false, false, false, false, false, false, false, false, false, false, false, false, false, false, false, false, false, false, false, false, false, false, false, false, false, false, false, false, false, false, false, false, false, false, false, false, false, false] [] 200 a.dyns.length (fun i (_ : Unit) => ⟨[.undef, .undef, .ptr 0 0, .ptr 1 0, .undef, .undef, .undef, .int .i64 (i : Nat), .undef, .undef, .undef, .undef, .undef, .undef, .undef, .undef, .undef, .undef, .undef, .undef, .undef, .undef, .undef, .undef, .undef, .undef, .undef, .undef, .undef, .undef, .undef, .undef, .undef, .undef, .undef, .undef, .undef, .undef, .undef, .undef, .undef, .undef, .undef, .undef, .undef, .undef, .undef, .undef, .undef, .undef, .undef, .undef, .undef, .undef, .undef, .undef, .undef, .undef, .undef, .undef, .undef, .undef, .undef, .undef, .undef, .undef, .undef, .undef, .undef, .undef, .undef, .undef, .undef, .undef, .undef, .undef, .undef, .undef, .undef, .undef, .undef, .undef, .undef, .undef, .undef, .undef], []⟩) (fun _ _ => ⟨[(1, .cells a.cells5), (0, .cells a.cells5)], 200⟩) (fun i _ => i ≤ a.dyns.length) () (Nat.zero_le _) rfl rfl ?_
    rintro j x hj -
    by_cases hjl : j < a.dyns.length
    · have hdj := sameDyns_ok _ (h5 _ (List.getElem_mem hjl))
      repeat' (first
    | simp -implicitDefEqProofs only [↓reduceIte, runsY, lstY, facts, Nat.reduceAdd, Nat.reduceEqDiff, Nat.reduceLeDiff, getDs, dynsAV, Pa.cells5, *]
    | ((with_reducible refine sr_at 67 ?_); refine srstep_call hdj (rfl) ?_)
    | simp -implicitDefEqProofs (disch := first | assumption | omega) only [wrap_in, *]
    | ((with_reducible refine condK_dec (fun _ => ?_) (fun _ => ?_)) <;> try (exfalso; omega))
    | ((with_reducible refine OZ_drawn ?_); refine OZ_draw' _ rfl (by decide +kernel) ?_))
      exact OZ_next () hjl (by omega) rfl rfl
    · repeat' (first
    | simp -implicitDefEqProofs only [↓reduceIte, runsY, lstY, facts, Nat.reduceAdd, Nat.reduceEqDiff, Nat.reduceLeDiff, Pa.cells5, *]
    | ((with_reducible refine condK_dec (fun _ => ?_) (fun _ => ?_)) <;> try (exfalso; omega)))
theorem same_ok (a : Sc) (h : a.good) : PC Tryz.prog gl 8 [a.av, a.av] (fun v => v = .bool true) := by
  obtain ⟨h1, h2, h3, h4, h5⟩ := h
  (refine PC.introZ 2 mix (fn := Tryz.f8) Tryz.func8 rfl (names 8 _ Tryz.func8) fun F hF hro W => ?_; simp -implicitDefEqProofs only [Tryz.ntmps8, Tryz.results8, fr0, st0, List.length_cons, List.length_nil, List.cons_append, List.nil_append, Nat.reduceAdd, Nat.reduceSub, List.replicate_succ, List.replicate_zero])
  repeat' (simp -implicitDefEqProofs only [↓reduceIte, runsY, lstY, facts, Nat.reduceAdd, Nat.reduceEqDiff, Nat.reduceLeDiff, Sc.av, bne_self_eq_false, *])
  refine OZ_for [false, false, true, true, false, true, false, false, false, false, false, false, false, false, false, false, false, false, false, false, false, false, false, false, false, false, false, false, false, false, false, false, false, false, false, false, false, false, false, false, false, false, false, false, false, false, false, false, false, false, false, false, false, false, false, false, false, false, false, false, false, false, false, false, false, false, false, false, false, false, false, false] [] 100 a.bars.length (fun i (_ : Unit) => ⟨[.undef, .undef, .ptr 0 0, .ptr 1 0, .undef, .int .i64 (i : Nat), .undef, .undef, .undef, .undef, .undef, .undef, .undef, .undef, .undef, .undef, .undef, .undef, .undef, .undef, .undef, .undef, .undef, .undef, .undef, .undef, .undef, .undef, .undef, .undef, .undef, .undef, .undef, .undef, .undef, .undef, .undef, .undef, .undef, .undef, .undef, .undef, .undef, .undef, .undef, .undef, .undef, .undef, .undef, .undef, .undef, .undef, .undef, .undef, .undef, .undef, .undef, .undef, .undef, .undef, .undef, .undef, .undef, .undef, .undef, .undef, .undef, .undef, .undef, .undef, .undef, .undef], []⟩) (fun _ _ => ⟨[(1, .cells [.str a.title, .sl 14 (a.bars.map Ba.av) .none, .sl 5 (a.parts.map Pa.av) .none]), (0, .cells [.str a.title, .sl 14 (a.bars.map Ba.av) .none, .sl 5 (a.parts.map Pa.av) .none])], 100⟩) (fun i _ => i ≤ a.bars.length) () (Nat.zero_le _) rfl rfl ?_
  rintro i x hi -
  by_cases hil : i < a.bars.length
  · have hci := sameBar_ok _ (h5 _ (List.getElem_mem hil))
    repeat' (first
    | simp -implicitDefEqProofs only [↓reduceIte, runsY, lstY, facts, Nat.reduceAdd, Nat.reduceEqDiff, Nat.reduceLeDiff, getBa, Ba.av, *]
    | ((with_reducible refine sr_at 26 ?_); refine srstep_call hci (rfl) ?_)
    | simp -implicitDefEqProofs (disch := first | assumption | omega) only [wrap_in, *]
    | ((with_reducible refine condK_dec (fun _ => ?_) (fun _ => ?_)) <;> try (exfalso; omega))
    | ((with_reducible refine OZ_drawn ?_); refine OZ_draw' _ rfl (by decide +kernel) ?_))
    exact OZ_next () hil (by omega) rfl rfl
  · repeat' (first
    | simp -implicitDefEqProofs only [↓reduceIte, runsY, lstY, facts, Nat.reduceAdd, Nat.reduceEqDiff, Nat.reduceLeDiff, *]
    | ((with_reducible refine condK_dec (fun _ => ?_) (fun _ => ?_)) <;> try (exfalso; omega)))
    refine OZ_for [false, false, true, true, false, false, false, true, false, false, false, false, false, false, false, false, false, false, false, false, false, false, false, false, false, false, false, false, false, false, false, false, false, false, false, false, false, false, false, false, false, false, false, false, false, false, false, false, false, false, false, false, false, false, false, false, false, false, false, false, false, false, false, false, false, false, false, false, false, false, false, false] [] 200 a.parts.length (fun i (_ : Unit) => ⟨[.undef, .undef, .ptr 0 0, .ptr 1 0, .undef, .undef, .undef, .int .i64 (i : Nat), .undef, .undef, .undef, .undef, .undef, .undef, .undef, .undef, .undef, .undef, .undef, .undef, .undef, .undef, .undef, .undef, .undef, .undef, .undef, .undef, .undef, .undef, .undef, .undef, .undef, .undef, .undef, .undef, .undef, .undef, .undef, .undef, .undef, .undef, .undef, .undef, .undef, .undef, .undef, .undef, .undef, .undef, .undef, .undef, .undef, .undef, .undef, .undef, .undef, .undef, .undef, .undef, .undef, .undef, .undef, .undef, .undef, .undef, .undef, .undef, .undef, .undef, .undef, .undef], []⟩) (fun _ _ => ⟨[(1, .cells [.str a.title, .sl 14 (a.bars.map Ba.av) .none, .sl 5 (a.parts.map Pa.av) .none]), (0, .cells [.str a.title, .sl 14 (a.bars.map Ba.av) .none, .sl 5 (a.parts.map Pa.av) .none])], 200⟩) (fun i _ => i ≤ a.parts.length) () (Nat.zero_le _) rfl rfl ?_
    rintro j x hj -
    by_cases hjl : j < a.parts.length
    · have hdj := samePart_ok _ (h3 _ (List.getElem_mem hjl))
      repeat' (first
    | simp -implicitDefEqProofs only [↓reduceIte, runsY, lstY, facts, Nat.reduceAdd, Nat.reduceEqDiff, Nat.reduceLeDiff, getPa, Pa.av, *]
    | ((with_reducible refine sr_at 27 ?_); refine srstep_call hdj (rfl) ?_)
    | simp -implicitDefEqProofs (disch := first | assumption | omega) only [wrap_in, *]
    | ((with_reducible refine condK_dec (fun _ => ?_) (fun _ => ?_)) <;> try (exfalso; omega))
    | ((with_reducible refine OZ_drawn ?_); refine OZ_draw' _ rfl (by decide +kernel) ?_))
      exact OZ_next () hjl (by omega) rfl rfl
    · repeat' (first
    | simp -implicitDefEqProofs only [↓reduceIte, runsY, lstY, facts, Nat.reduceAdd, Nat.reduceEqDiff, Nat.reduceLeDiff, *]
    | ((with_reducible refine condK_dec (fun _ => ?_) (fun _ => ?_)) <;> try (exfalso; omega)))
end Go.Proofs.Pv
