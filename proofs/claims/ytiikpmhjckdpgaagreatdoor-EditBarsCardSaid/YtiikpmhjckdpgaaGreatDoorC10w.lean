/-
  A typed edit: its place, its bars and its dynamics are bounded, too.
  EditBars: the law answers true for all scores and edits.
  Conditions: none but those that each statement names.
-/
import Derived.Test.YtiikpmhjckdpgaaGreatDoorC09w
import Derived.Test.YtiikpmhjckdpgaaGreatDoorC10s
namespace Go.Proofs.Pv
open Go Go.Proofs
set_option linter.unusedSimpArgs false
set_option linter.unusedVariables false
set_option maxRecDepth 100000
theorem okV_dss1B {d : Nat} {cs : List AV} (h : okV Tryz.prog (d + 5) 42 cs) : ∃ l : List (List Dy), cs = [dynssAV l] ∧ ∀ a ∈ l, ∀ t ∈ a, t.at_.fits := by obtain ⟨l, e, q⟩ := okV_dss h; exact ⟨l, e, q⟩
theorem okV_dsssB {d : Nat} {cs : List AV} (h : okV Tryz.prog (d + 6) 30 cs) : ∃ l : List (List (List Dy)), cs = [.sl 1 (l.map dynssAV) .none] ∧ ∀ a ∈ l, ∀ x ∈ a, ∀ t ∈ x, t.at_.fits := by
 obtain ⟨rows, rfl, _, hr⟩ := okV_sliceG Tryz.underlying30 h
 obtain ⟨l, rfl, hq⟩ := rows_of (f := dynssAV) (Q := fun a : (List (List Dy)) => ∀ x ∈ a, ∀ t ∈ x, t.at_.fits) rows fun r hr' => by
  obtain ⟨c, rfl, hk⟩ := hr r hr'
  obtain ⟨a, e1, q1⟩ := okV_dss1B hk
  exact ⟨a, by rw [e1]; simp only [mkRow, ag42, Bool.false_eq_true, if_false]; rfl, q1⟩
 exact ⟨l, by rw [show Tryz.prog.cellsOf 42 = 1 from by kernel_rfl], hq⟩
theorem okV_opB {d : Nat} {cs : List AV} (h : okV Tryz.prog (d + 10) 34 cs) : ∃ a : EOp, cs = a.cells13 ∧ a.typed ∧ a.typedB := by
 have t0 : okTs Tryz.prog (okV Tryz.prog (d + 9)) [3, 27, 3, 28, 22, 29, 30, 32, 9] cs := okV_structG Tryz.underlying34 h
 obtain ⟨_, _, rfl, g0, t1⟩ := okTs_cons t0
 obtain ⟨k, rfl, ik⟩ := okV_int g0
 obtain ⟨_, _, rfl, g1, t2⟩ := okTs_cons t1
 obtain ⟨p, rfl, qp⟩ := okV_pl g1
 obtain ⟨_, _, rfl, g2, t3⟩ := okTs_cons t2
 obtain ⟨n, rfl, i_n⟩ := okV_int g2
 obtain ⟨_, _, rfl, g3, t4⟩ := okTs_cons t3
 obtain ⟨e, rfl, qe⟩ := okV_evs g3
 obtain ⟨_, _, rfl, g4, t5⟩ := okTs_cons t4
 obtain ⟨b, rfl, qb⟩ := okV_bas g4
 obtain ⟨_, _, rfl, g5, t6⟩ := okTs_cons t5
 obtain ⟨c, rfl, qc⟩ := okV_cess g5
 obtain ⟨_, _, rfl, g6, t7⟩ := okTs_cons t6
 obtain ⟨y, rfl, qy⟩ := okV_dsssB g6
 obtain ⟨_, _, rfl, g7, t8⟩ := okTs_cons t7
 obtain ⟨v, rfl, qv⟩ := okV_iv g7
 obtain ⟨_, _, rfl, g8, t9⟩ := okTs_cons t8
 obtain ⟨t, rfl⟩ := okV_str g8
 obtain rfl := okTs_nil t9
 exact ⟨⟨k, p.1, p.2.1, p.2.2.1, p.2.2.2, n, e, b, c, y, v.1, v.2, t⟩, rfl, ⟨qp.2.2.2, i_n⟩, ⟨qp.2.1, qb, qy⟩⟩
theorem opsB_of {d : Nat} {cs : List AV} (h : okV Tryz.prog (d + 10) 34 cs) : ∃ o : EOp, AV.agg cs = o.av ∧ o.typed ∧ o.typedB := by
 obtain ⟨o, rfl, q1, q2⟩ := okV_opB h
 exact ⟨o, rfl, q1, q2⟩
end Go.Proofs.Pv
namespace Go.Proofs.Pv
open Go Go.Proofs
set_option linter.unusedSimpArgs false
set_option linter.unusedVariables false
set_option maxRecDepth 100000
set_option maxHeartbeats 8000000
theorem bars_few (s : Sc) (o : EOp) (hup : PC Tryz.prog gl 4 [] (fun v => v = .bool true)) (h : ¬ (s.fewB = true ∧ o.fewB = true ∧ (o.kind = 2 ∨ o.kind = 3))) : PC Tryz.prog gl 3 [s.av, o.av] (fun v => v = .bool true) := by
 (refine PC.introZ 2 mix (fn := Tryz.f3) Tryz.func3 rfl (names 3 _ Tryz.func3) fun F hF hro W => ?_; simp -implicitDefEqProofs only [Tryz.ntmps3, Tryz.results3, entL, Nat.reduceAdd, Nat.reduceSub])
 repeat' (first
  | simp -implicitDefEqProofs (maxSteps := 9999999) only [↓reduceIte, runsY, lstY, facts, Nat.reduceAdd, Nat.reduceEqDiff, Nat.reduceLeDiff, Sc.av, EOp.av, *]
  | ((with_reducible refine condK_split (fun _ => ?_) (fun _ => ?_)) <;> try omega)
  | ((with_reducible refine sstep_nsplit (fun _ => ?_) (fun _ => ?_)) <;> try omega)
  | ((with_reducible refine sstep_split (fun _ => ?_) (fun _ => ?_)) <;> try omega)
  | ((with_reducible refine OZ_at 4 ?_); refine PC.useZ hF hup (rfl) fun v hv => ?_; subst hv)
  | ((with_reducible refine OZ_at 5 ?_); refine PC.useZ hF (few_ok s) (rfl) fun v hv => ?_; subst hv)
  | ((with_reducible refine OZ_at 6 ?_); refine PC.useZ hF (fewOp_ok o) (rfl) fun v hv => ?_; subst hv))
 all_goals (exfalso; simp_all; done)
theorem bars_err (s : Sc) (o : EOp) (hup : PC Tryz.prog gl 4 [] (fun v => v = .bool true)) (h1 : s.fewB = true) (h2 : o.fewB = true) (hk : o.kind = 2 ∨ o.kind = 3) (e : Int) (he : e ≠ 0) (hap : PC Tryz.prog gl 7 [s.av, o.av] (fun v => v = errR e)) : PC Tryz.prog gl 3 [s.av, o.av] (fun v => v = .bool true) := by
 (refine PC.introZ 2 mix (fn := Tryz.f3) Tryz.func3 rfl (names 3 _ Tryz.func3) fun F hF hro W => ?_; simp -implicitDefEqProofs only [Tryz.ntmps3, Tryz.results3, entL, Nat.reduceAdd, Nat.reduceSub])
 repeat' (first
  | simp -implicitDefEqProofs (maxSteps := 9999999) only [↓reduceIte, runsY, lstY, facts, Nat.reduceAdd, Nat.reduceEqDiff, Nat.reduceLeDiff, Sc.av, EOp.av, errR, *]
  | ((with_reducible refine condK_split (fun _ => ?_) (fun _ => ?_)) <;> try omega)
  | ((with_reducible refine sstep_split (fun _ => ?_) (fun _ => ?_)) <;> try omega)
  | ((with_reducible refine OZ_at 4 ?_); refine PC.useZ hF hup (rfl) fun v hv => ?_; subst hv)
  | ((with_reducible refine OZ_at 5 ?_); refine PC.useZ hF (few_ok s) (rfl) fun v hv => ?_; subst hv)
  | ((with_reducible refine OZ_at 6 ?_); refine PC.useZ hF (fewOp_ok o) (rfl) fun v hv => ?_; subst hv)
  | ((with_reducible refine OZ_at 7 ?_); refine PC.useZ hF hap (rfl) fun v hv => ?_; subst hv))
 all_goals (exfalso; simp_all; done)
theorem bars_ownI (s : Sc) (o : EOp) (hup : PC Tryz.prog gl 4 [] (fun v => v = .bool true)) (h1 : s.fewB = true) (h2 : o.fewB = true) (hk : o.kind = 2) (t : Sc) (b n : Int) (l2 l3 l4 : List AV) (hap : PC Tryz.prog gl 7 [s.av, o.av] (fun v => v = .tup [t.av, .agg (.int .i64 3 :: bkL b n l2 l3 l4), .int .i64 0]))
  (hlen : ∀ p ∈ t.parts, p.cells.length = t.bars.length ∧ p.dyns.length = t.bars.length) (hbt : t.bars.length ≤ 1000) (hbs : s.bars.length ≤ 1000) (hpt : t.parts.length ≤ 1000) (hb : (t.bars.length : Int) = (s.bars.length : Int) + (o.bars.length : Int)) (hpl : t.parts.length = s.parts.length) : PC Tryz.prog gl 3 [s.av, o.av] (fun v => v = .bool true) := by
 have hbb := Box.mk hb
 have hpp := Box.mk hpl
 have hob : o.bars.length ≤ 1000 := by omega
 clear hb hpl
 have hfo := fewOp_ok o
 simp only [EOp.av, Sc.av, hk, bkL] at hfo hap
 rw [h2] at hfo
 (refine PC.introZ 2 mix (fn := Tryz.f3) Tryz.func3 rfl (names 3 _ Tryz.func3) fun F hF hro W => ?_; simp -implicitDefEqProofs only [Tryz.ntmps3, Tryz.results3, entL, Nat.reduceAdd, Nat.reduceSub])
 repeat' (first
  | simp -implicitDefEqProofs (maxSteps := 9999999) only [↓reduceIte, runsY, lstY, facts, Nat.reduceAdd, Nat.reduceEqDiff, Nat.reduceLeDiff, Int.reduceBEq, Int.reduceBNe, Sc.av, EOp.av, hk, *]
  | ((with_reducible refine OZ_at 4 ?_); refine PC.useZ hF hup (rfl) fun v hv => ?_; subst hv)
  | ((with_reducible refine OZ_at 5 ?_); refine PC.useZ hF (few_ok s) (rfl) fun v hv => ?_; subst hv)
  | ((with_reducible refine OZ_at 6 ?_); refine PC.useZ hF hfo (rfl) fun v hv => ?_; subst hv)
  | ((with_reducible refine OZ_at 7 ?_); refine PC.useZ hF hap (rfl) fun v hv => ?_; subst hv))
 refine OZ_for (mkM 110 [2, 3, 5, 6, 7, 9, 10]) [] 100 t.parts.length (fun i (_ : Unit) => ⟨[.ud, .ud, .ptr 0 0, .ptr 1 0, .ud, .bool true, .ptr 23 0, .ptr 24 0, .ud, .int .i64 (o.bars.length : Nat), .int .i64 (i : Nat), .ud, .ud, .ud, .ud, .ud, .ud, .ud, .ud, .ud, .ud, .ud, .ud, .ud, .ud, .ud, .ud, .ud, .ud, .ud, .ud, .ud, .ud, .ud, .ud, .ud, .ud, .ud, .ud, .ud, .ud, .ud, .ud, .ud, .ud, .ud, .ud, .ud, .ud, .ud, .ud, .ud, .ud, .ud, .ud, .ud, .ud, .ud, .ud, .ud, .ud, .ud, .ud, .ud, .ud, .ud, .ud, .ud, .ud, .ud, .ud, .ud, .ud, .ud, .ud, .ud, .ud, .ud, .ud, .ud, .ud, .ud, .ud, .ud, .ud, .ud, .ud, .ud, .ud, .ud, .ud, .ud, .ud, .ud, .ud, .ud, .ud, .ud, .ud, .ud, .ud, .ud, .ud, .ud, .ud, .ud, .ud, .ud, .ud, .ud], []⟩)
  (fun _ _ => ⟨[(24, .cells (.int .i64 3 :: bkL b n l2 l3 l4)), (23, .cells [.str t.title, .sl 14 (t.bars.map Ba.av) .none, .sl 5 (t.parts.map Pa.av) .none]), (1, .cells (opL o 2 o.bar o.count)), (0, .cells [.str s.title, .sl 14 (s.bars.map Ba.av) .none, .sl 5 (s.parts.map Pa.av) .none])], 100⟩) (fun i _ => i < 1001) () (by omega) rfl rfl ?_
 rintro i x hi hQ
 simp only [bkL, opL]
 rcases Nat.lt_or_ge i t.parts.length with hlt | hge
 ·obtain ⟨q1, q2⟩ := hlen t.parts[i] (List.getElem_mem hlt)
  have hwi : IntKind.i64.wrap ((i : Int) + 1) = (i : Int) + 1 := wrap_in (by omega)
  have hil : (i : Int) < ((t.parts.length : Nat) : Int) := by omega
  repeat' (first
  | simp -implicitDefEqProofs (maxSteps := 9999999) only [↓reduceIte, runsY, lstY, facts, Nat.reduceAdd, Nat.reduceEqDiff, Nat.reduceLT, Nat.reduceLeDiff, getPa, Pa.av, bne_self_eq_false, vops_nil, vops_cons, vstep_val, drawVK_at, *]
  | ((with_reducible refine OZ_drawn ?_); refine OZ_drawV (by decide +kernel) ?_)
  | ((with_reducible refine wend ?_ ?_); · kernel_rfl))
  exact OZ_next () hlt (by omega) rfl rfl
 ·have hi' : i = t.parts.length := by omega
  subst hi'
  have hw2 : IntKind.i64.wrap (((s.bars.length : Nat) : Int) + ((o.bars.length : Nat) : Int)) = ((s.bars.length : Nat) : Int) + ((o.bars.length : Nat) : Int) := wrap_in (by have := hbb.out; omega)
  have hx1 : (((t.bars.length : Nat) : Int) == ((s.bars.length : Nat) : Int) + ((o.bars.length : Nat) : Int)) = true := by simpa using hbb.out
  have hx2 : (((t.parts.length : Nat) : Int) == ((s.parts.length : Nat) : Int)) = true := by rw [hpp.out]; simp
  have hlt2 : ¬ ((t.parts.length : Nat) : Int) < ((t.parts.length : Nat) : Int) := by omega
  repeat' (simp -implicitDefEqProofs (maxSteps := 9999999) only [↓reduceIte, runsY, lstY, facts, Nat.reduceAdd, Nat.reduceEqDiff, Nat.reduceLeDiff, Int.reduceLE, Int.reduceNeg, Int.reduceSub, wrap_in, *])
theorem bars_ownO (s : Sc) (o : EOp) (hup : PC Tryz.prog gl 4 [] (fun v => v = .bool true)) (h1 : s.fewB = true) (h2 : o.fewB = true) (hk : o.kind = 3) (t : Sc) (b n : Int) (l2 l3 l4 : List AV) (hap : PC Tryz.prog gl 7 [s.av, o.av] (fun v => v = .tup [t.av, .agg (.int .i64 2 :: bkL b n l2 l3 l4), .int .i64 0]))
  (hlen : ∀ p ∈ t.parts, p.cells.length = t.bars.length ∧ p.dyns.length = t.bars.length) (hbt : t.bars.length ≤ 1000) (hbs : s.bars.length ≤ 1000) (hpt : t.parts.length ≤ 1000) (hb : (t.bars.length : Int) = (s.bars.length : Int) + (- o.count)) (hpl : t.parts.length = s.parts.length) : PC Tryz.prog gl 3 [s.av, o.av] (fun v => v = .bool true) := by
 have hbb := Box.mk hb
 have hpp := Box.mk hpl
 have hcn : -1000 ≤ o.count ∧ o.count ≤ 1000 := by omega
 have hwn : IntKind.i64.wrap (0 - o.count) = 0 - o.count := wrap_in (by omega)
 clear hb hpl
 have hfo := fewOp_ok o
 simp only [EOp.av, Sc.av, hk, bkL] at hfo hap
 rw [h2] at hfo
 (refine PC.introZ 2 mix (fn := Tryz.f3) Tryz.func3 rfl (names 3 _ Tryz.func3) fun F hF hro W => ?_; simp -implicitDefEqProofs only [Tryz.ntmps3, Tryz.results3, entL, Nat.reduceAdd, Nat.reduceSub])
 repeat' (first
  | simp -implicitDefEqProofs (maxSteps := 9999999) only [↓reduceIte, runsY, lstY, facts, Nat.reduceAdd, Nat.reduceEqDiff, Nat.reduceLeDiff, Int.reduceBNe, Sc.av, EOp.av, hk, *]
  | ((with_reducible refine OZ_at 4 ?_); refine PC.useZ hF hup (rfl) fun v hv => ?_; subst hv)
  | ((with_reducible refine OZ_at 5 ?_); refine PC.useZ hF (few_ok s) (rfl) fun v hv => ?_; subst hv)
  | ((with_reducible refine OZ_at 6 ?_); refine PC.useZ hF hfo (rfl) fun v hv => ?_; subst hv)
  | ((with_reducible refine OZ_at 7 ?_); refine PC.useZ hF hap (rfl) fun v hv => ?_; subst hv))
 refine OZ_for (mkM 110 [2, 3, 5, 6, 7, 9, 10]) [] 100 t.parts.length (fun i (_ : Unit) => ⟨[.ud, .ud, .ptr 0 0, .ptr 1 0, .ud, .bool true, .ptr 26 0, .ptr 27 0, .ud, .int .i64 (0 - o.count), .int .i64 (i : Nat), .ud, .ud, .ud, .ud, .ud, .ud, .ud, .ud, .ud, .ud, .ud, .ud, .ud, .ud, .ud, .ud, .ud, .ud, .ud, .ud, .ud, .ud, .ud, .ud, .ud, .ud, .ud, .ud, .ud, .ud, .ud, .ud, .ud, .ud, .ud, .ud, .ud, .ud, .ud, .ud, .ud, .ud, .ud, .ud, .ud, .ud, .ud, .ud, .ud, .ud, .ud, .ud, .ud, .ud, .ud, .ud, .ud, .ud, .ud, .ud, .ud, .ud, .ud, .ud, .ud, .ud, .ud, .ud, .ud, .ud, .ud, .ud, .ud, .ud, .ud, .ud, .ud, .ud, .ud, .ud, .ud, .ud, .ud, .ud, .ud, .ud, .ud, .ud, .ud, .ud, .ud, .ud, .ud, .ud, .ud, .ud, .ud, .ud, .ud], []⟩)
  (fun _ _ => ⟨[(27, .cells (.int .i64 2 :: bkL b n l2 l3 l4)), (26, .cells [.str t.title, .sl 14 (t.bars.map Ba.av) .none, .sl 5 (t.parts.map Pa.av) .none]), (1, .cells (opL o 3 o.bar o.count)), (0, .cells [.str s.title, .sl 14 (s.bars.map Ba.av) .none, .sl 5 (s.parts.map Pa.av) .none])], 100⟩) (fun i _ => i < 1001) () (by omega) rfl rfl ?_
 rintro i x hi hQ
 simp only [bkL, opL]
 rcases Nat.lt_or_ge i t.parts.length with hlt | hge
 ·obtain ⟨q1, q2⟩ := hlen t.parts[i] (List.getElem_mem hlt)
  have hwi : IntKind.i64.wrap ((i : Int) + 1) = (i : Int) + 1 := wrap_in (by omega)
  have hil : (i : Int) < ((t.parts.length : Nat) : Int) := by omega
  repeat' (first
  | simp -implicitDefEqProofs (maxSteps := 9999999) only [↓reduceIte, runsY, lstY, facts, Nat.reduceAdd, Nat.reduceEqDiff, Nat.reduceLT, Nat.reduceLeDiff, getPa, Pa.av, bne_self_eq_false, vops_nil, vops_cons, vstep_val, drawVK_at, *]
  | ((with_reducible refine OZ_drawn ?_); refine OZ_drawV (by decide +kernel) ?_)
  | ((with_reducible refine wend ?_ ?_); · kernel_rfl))
  exact OZ_next () hlt (by omega) rfl rfl
 ·have hi' : i = t.parts.length := by omega
  subst hi'
  have hw2 : IntKind.i64.wrap (((s.bars.length : Nat) : Int) + (0 - o.count)) = ((s.bars.length : Nat) : Int) + (0 - o.count) := wrap_in (by have := hbb.out; omega)
  have hx1 : (((t.bars.length : Nat) : Int) == ((s.bars.length : Nat) : Int) + (0 - o.count)) = true := by simpa using hbb.out
  have hx2 : (((t.parts.length : Nat) : Int) == ((s.parts.length : Nat) : Int)) = true := by rw [hpp.out]; simp
  have hlt2 : ¬ ((t.parts.length : Nat) : Int) < ((t.parts.length : Nat) : Int) := by omega
  repeat' (simp -implicitDefEqProofs (maxSteps := 9999999) only [↓reduceIte, runsY, lstY, facts, Nat.reduceAdd, Nat.reduceEqDiff, Nat.reduceLeDiff, Int.reduceLE, Int.reduceNeg, Int.reduceSub, wrap_in, *])
theorem bars_law (s : Sc) (o : EOp) (hup : PC Tryz.prog gl 4 [] (fun v => v = .bool true)) (hs : s.typed) (ho : o.typed) (hoB : o.typedB) : PC Tryz.prog gl 3 [s.av, o.av] (fun v => v = .bool true) := by
 by_cases hf : s.fewB = true ∧ o.fewB = true ∧ (o.kind = 2 ∨ o.kind = 3)
 rotate_left
 ·exact bars_few s o hup hf
 obtain ⟨h1, h2, hk⟩ := hf
 obtain ⟨r, hap, hto⟩ := bars_to s o hs ho hoB h1 h2 hk
 have hn := (few_tells h1).nb
 rcases hto with ⟨e, he, rfl⟩ | ⟨t, b, n, l2, l3, l4, rfl, hr, hb, hp⟩
 ·exact bars_err s o hup h1 h2 hk e he hap
 have hb1 := hr.b1
 have hp1 := hr.p1
 rcases hk with hk | hk
 ·rw [show (5 - o.kind : Int) = 3 by rw [hk]; rfl] at hap
  rw [if_pos hk] at hb
  exact bars_ownI s o hup h1 h2 hk t b n l2 l3 l4 hap hr.len (by omega) (by omega) (by omega) hb hp
 ·rw [show (5 - o.kind : Int) = 2 by rw [hk]; rfl] at hap
  rw [if_neg (by rw [hk]; decide)] at hb
  exact bars_ownO s o hup h1 h2 hk t b n l2 l3 l4 hap hr.len (by omega) (by omega) (by omega) hb hp
end Go.Proofs.Pv
