/-
  Chapter 27: whether a shape holds a point: the document's answer.
  Conditions: none.
-/
import Derived.Test.YtgjjcdjcpbjdgaaGreatDoorO27e
namespace Go.Proofs.Pv
set_option linter.unusedVariables false
set_option linter.unusedSimpArgs false
open Go Go.Proofs
set_option linter.unusedSimpArgs false
set_option maxRecDepth 10000

theorem holdsB_far {a : Sh} {x y z : Int} (hz : z ∈ nears a x y) (h : nearB z = false) : holdsB a x y = false := by
  have : (nears a x y).all nearB = false := by rw [List.all_eq_false]; exact ⟨_, hz, by rw [h]; exact Bool.false_ne_true⟩
  rw [holdsB, this]; rfl
theorem dec_sub (x a w : Int) : decide (x - a < w) = decide (x < a + w) := by
  by_cases h : x < a + w
  · rw [decide_eq_true h, decide_eq_true (by omega)]
  · rw [decide_eq_false h, decide_eq_false (by omega)]
theorem refHolds_ok (a : Sh) (x y : Int) : PC Tryz.prog gl 13 [a.av, .int .i64 x, .int .i64 y] (fun v => v = .bool (holdsB a x y)) := by
  refine PC.introX 1 mix (fn := Tryz.f13) Tryz.func13 rfl (names 13 _ Tryz.func13) fun F hF hro W => ?_
  simp -implicitDefEqProofs only [Tryz.ntmps13, Tryz.results13, fr0, st0, List.length_cons, List.length_nil, List.cons_append, List.nil_append, Nat.reduceAdd, Nat.reduceSub, List.replicate_succ, List.replicate_zero]
  simp -implicitDefEqProofs only [runs, List.getD_cons_zero, List.getD_cons_succ, List.set_cons_zero, List.set_cons_succ, List.getElem?_cons_zero, List.getElem?_cons_succ, Option.map_some, if_true, ite_true, if_false, ite_false, List.length_cons, List.length_nil, List.drop_zero, List.drop_succ_cons, List.take_succ_cons, List.take_zero, List.head?_cons, List.nil_append, List.cons_append, List.append_nil, List.all_cons, List.all_nil, Option.getD_some, List.map_cons, List.map_nil, List.size_toArray, eq_self, Nat.reduceAdd, Nat.reduceEqDiff, Nat.reduceLT, Nat.reduceLeDiff, Nat.reduceSub, List.replicate_succ, List.replicate_zero, Nat.reduceMul, List.isEmpty_cons, List.isEmpty_nil, Int.cast_ofNat_Int, Int.reduceLT, Int.reduceLE, Int.reduceToNat, Int.toNat_zero, Int.toNat_natCast, Int.natCast_nonneg, Int.reduceGE, Int.reduceGT, facts, Sh.av, Bool.false_beq, Bool.not_true, Bool.not_false, beq_self_eq_true]
  refine PC.useX hF (near_ok a.x) rfl fun v hv => ?_
  subst hv
  cases h0 : nearB a.x with
  | false =>
    simp -implicitDefEqProofs only [runs, List.getD_cons_zero, List.getD_cons_succ, List.set_cons_zero, List.set_cons_succ, List.getElem?_cons_zero, List.getElem?_cons_succ, Option.map_some, if_true, ite_true, if_false, ite_false, List.length_cons, List.length_nil, List.drop_zero, List.drop_succ_cons, List.take_succ_cons, List.take_zero, List.head?_cons, List.nil_append, List.cons_append, List.append_nil, List.all_cons, List.all_nil, Option.getD_some, List.map_cons, List.map_nil, List.size_toArray, eq_self, Nat.reduceAdd, Nat.reduceEqDiff, Nat.reduceLT, Nat.reduceLeDiff, Nat.reduceSub, List.replicate_succ, List.replicate_zero, Nat.reduceMul, List.isEmpty_cons, List.isEmpty_nil, Int.cast_ofNat_Int, Int.reduceLT, Int.reduceLE, Int.reduceToNat, Int.toNat_zero, Int.toNat_natCast, Int.natCast_nonneg, Int.reduceGE, Int.reduceGT, facts, h0, Bool.true_beq, Bool.false_beq, Bool.not_true, Bool.not_false, beq_self_eq_true]
    try simp -implicitDefEqProofs only [fins, List.take_succ_cons, List.take_zero, List.map_cons, List.map_nil, List.all_cons, List.all_nil]
    rw [holdsB_far (z := a.x) (by simp [nears]) h0]
  | true =>
  simp -implicitDefEqProofs only [runs, List.getD_cons_zero, List.getD_cons_succ, List.set_cons_zero, List.set_cons_succ, List.getElem?_cons_zero, List.getElem?_cons_succ, Option.map_some, if_true, ite_true, if_false, ite_false, List.length_cons, List.length_nil, List.drop_zero, List.drop_succ_cons, List.take_succ_cons, List.take_zero, List.head?_cons, List.nil_append, List.cons_append, List.append_nil, List.all_cons, List.all_nil, Option.getD_some, List.map_cons, List.map_nil, List.size_toArray, eq_self, Nat.reduceAdd, Nat.reduceEqDiff, Nat.reduceLT, Nat.reduceLeDiff, Nat.reduceSub, List.replicate_succ, List.replicate_zero, Nat.reduceMul, List.isEmpty_cons, List.isEmpty_nil, Int.cast_ofNat_Int, Int.reduceLT, Int.reduceLE, Int.reduceToNat, Int.toNat_zero, Int.toNat_natCast, Int.natCast_nonneg, Int.reduceGE, Int.reduceGT, facts, h0, Sh.av, Bool.false_beq, Bool.not_true, Bool.not_false, beq_self_eq_true]
  refine PC.useX hF (near_ok a.y) rfl fun v hv => ?_
  subst hv
  cases h1 : nearB a.y with
  | false =>
    simp -implicitDefEqProofs only [runs, List.getD_cons_zero, List.getD_cons_succ, List.set_cons_zero, List.set_cons_succ, List.getElem?_cons_zero, List.getElem?_cons_succ, Option.map_some, if_true, ite_true, if_false, ite_false, List.length_cons, List.length_nil, List.drop_zero, List.drop_succ_cons, List.take_succ_cons, List.take_zero, List.head?_cons, List.nil_append, List.cons_append, List.append_nil, List.all_cons, List.all_nil, Option.getD_some, List.map_cons, List.map_nil, List.size_toArray, eq_self, Nat.reduceAdd, Nat.reduceEqDiff, Nat.reduceLT, Nat.reduceLeDiff, Nat.reduceSub, List.replicate_succ, List.replicate_zero, Nat.reduceMul, List.isEmpty_cons, List.isEmpty_nil, Int.cast_ofNat_Int, Int.reduceLT, Int.reduceLE, Int.reduceToNat, Int.toNat_zero, Int.toNat_natCast, Int.natCast_nonneg, Int.reduceGE, Int.reduceGT, facts, h0, h1, Bool.true_beq, Bool.false_beq, Bool.not_true, Bool.not_false, beq_self_eq_true]
    try simp -implicitDefEqProofs only [fins, List.take_succ_cons, List.take_zero, List.map_cons, List.map_nil, List.all_cons, List.all_nil]
    rw [holdsB_far (z := a.y) (by simp [nears]) h1]
  | true =>
  simp -implicitDefEqProofs only [runs, List.getD_cons_zero, List.getD_cons_succ, List.set_cons_zero, List.set_cons_succ, List.getElem?_cons_zero, List.getElem?_cons_succ, Option.map_some, if_true, ite_true, if_false, ite_false, List.length_cons, List.length_nil, List.drop_zero, List.drop_succ_cons, List.take_succ_cons, List.take_zero, List.head?_cons, List.nil_append, List.cons_append, List.append_nil, List.all_cons, List.all_nil, Option.getD_some, List.map_cons, List.map_nil, List.size_toArray, eq_self, Nat.reduceAdd, Nat.reduceEqDiff, Nat.reduceLT, Nat.reduceLeDiff, Nat.reduceSub, List.replicate_succ, List.replicate_zero, Nat.reduceMul, List.isEmpty_cons, List.isEmpty_nil, Int.cast_ofNat_Int, Int.reduceLT, Int.reduceLE, Int.reduceToNat, Int.toNat_zero, Int.toNat_natCast, Int.natCast_nonneg, Int.reduceGE, Int.reduceGT, facts, h0, h1, Sh.av, Bool.false_beq, Bool.not_true, Bool.not_false, beq_self_eq_true]
  refine PC.useX hF (near_ok a.w) rfl fun v hv => ?_
  subst hv
  cases h2 : nearB a.w with
  | false =>
    simp -implicitDefEqProofs only [runs, List.getD_cons_zero, List.getD_cons_succ, List.set_cons_zero, List.set_cons_succ, List.getElem?_cons_zero, List.getElem?_cons_succ, Option.map_some, if_true, ite_true, if_false, ite_false, List.length_cons, List.length_nil, List.drop_zero, List.drop_succ_cons, List.take_succ_cons, List.take_zero, List.head?_cons, List.nil_append, List.cons_append, List.append_nil, List.all_cons, List.all_nil, Option.getD_some, List.map_cons, List.map_nil, List.size_toArray, eq_self, Nat.reduceAdd, Nat.reduceEqDiff, Nat.reduceLT, Nat.reduceLeDiff, Nat.reduceSub, List.replicate_succ, List.replicate_zero, Nat.reduceMul, List.isEmpty_cons, List.isEmpty_nil, Int.cast_ofNat_Int, Int.reduceLT, Int.reduceLE, Int.reduceToNat, Int.toNat_zero, Int.toNat_natCast, Int.natCast_nonneg, Int.reduceGE, Int.reduceGT, facts, h0, h1, h2, Bool.true_beq, Bool.false_beq, Bool.not_true, Bool.not_false, beq_self_eq_true]
    try simp -implicitDefEqProofs only [fins, List.take_succ_cons, List.take_zero, List.map_cons, List.map_nil, List.all_cons, List.all_nil]
    rw [holdsB_far (z := a.w) (by simp [nears]) h2]
  | true =>
  simp -implicitDefEqProofs only [runs, List.getD_cons_zero, List.getD_cons_succ, List.set_cons_zero, List.set_cons_succ, List.getElem?_cons_zero, List.getElem?_cons_succ, Option.map_some, if_true, ite_true, if_false, ite_false, List.length_cons, List.length_nil, List.drop_zero, List.drop_succ_cons, List.take_succ_cons, List.take_zero, List.head?_cons, List.nil_append, List.cons_append, List.append_nil, List.all_cons, List.all_nil, Option.getD_some, List.map_cons, List.map_nil, List.size_toArray, eq_self, Nat.reduceAdd, Nat.reduceEqDiff, Nat.reduceLT, Nat.reduceLeDiff, Nat.reduceSub, List.replicate_succ, List.replicate_zero, Nat.reduceMul, List.isEmpty_cons, List.isEmpty_nil, Int.cast_ofNat_Int, Int.reduceLT, Int.reduceLE, Int.reduceToNat, Int.toNat_zero, Int.toNat_natCast, Int.natCast_nonneg, Int.reduceGE, Int.reduceGT, facts, h0, h1, h2, Sh.av, Bool.false_beq, Bool.not_true, Bool.not_false, beq_self_eq_true]
  refine PC.useX hF (near_ok a.h) rfl fun v hv => ?_
  subst hv
  cases h3 : nearB a.h with
  | false =>
    simp -implicitDefEqProofs only [runs, List.getD_cons_zero, List.getD_cons_succ, List.set_cons_zero, List.set_cons_succ, List.getElem?_cons_zero, List.getElem?_cons_succ, Option.map_some, if_true, ite_true, if_false, ite_false, List.length_cons, List.length_nil, List.drop_zero, List.drop_succ_cons, List.take_succ_cons, List.take_zero, List.head?_cons, List.nil_append, List.cons_append, List.append_nil, List.all_cons, List.all_nil, Option.getD_some, List.map_cons, List.map_nil, List.size_toArray, eq_self, Nat.reduceAdd, Nat.reduceEqDiff, Nat.reduceLT, Nat.reduceLeDiff, Nat.reduceSub, List.replicate_succ, List.replicate_zero, Nat.reduceMul, List.isEmpty_cons, List.isEmpty_nil, Int.cast_ofNat_Int, Int.reduceLT, Int.reduceLE, Int.reduceToNat, Int.toNat_zero, Int.toNat_natCast, Int.natCast_nonneg, Int.reduceGE, Int.reduceGT, facts, h0, h1, h2, h3, Bool.true_beq, Bool.false_beq, Bool.not_true, Bool.not_false, beq_self_eq_true]
    try simp -implicitDefEqProofs only [fins, List.take_succ_cons, List.take_zero, List.map_cons, List.map_nil, List.all_cons, List.all_nil]
    rw [holdsB_far (z := a.h) (by simp [nears]) h3]
  | true =>
  simp -implicitDefEqProofs only [runs, List.getD_cons_zero, List.getD_cons_succ, List.set_cons_zero, List.set_cons_succ, List.getElem?_cons_zero, List.getElem?_cons_succ, Option.map_some, if_true, ite_true, if_false, ite_false, List.length_cons, List.length_nil, List.drop_zero, List.drop_succ_cons, List.take_succ_cons, List.take_zero, List.head?_cons, List.nil_append, List.cons_append, List.append_nil, List.all_cons, List.all_nil, Option.getD_some, List.map_cons, List.map_nil, List.size_toArray, eq_self, Nat.reduceAdd, Nat.reduceEqDiff, Nat.reduceLT, Nat.reduceLeDiff, Nat.reduceSub, List.replicate_succ, List.replicate_zero, Nat.reduceMul, List.isEmpty_cons, List.isEmpty_nil, Int.cast_ofNat_Int, Int.reduceLT, Int.reduceLE, Int.reduceToNat, Int.toNat_zero, Int.toNat_natCast, Int.natCast_nonneg, Int.reduceGE, Int.reduceGT, facts, h0, h1, h2, h3, Sh.av, Bool.false_beq, Bool.not_true, Bool.not_false, beq_self_eq_true]
  refine PC.useX hF (near_ok x) rfl fun v hv => ?_
  subst hv
  cases h4 : nearB x with
  | false =>
    simp -implicitDefEqProofs only [runs, List.getD_cons_zero, List.getD_cons_succ, List.set_cons_zero, List.set_cons_succ, List.getElem?_cons_zero, List.getElem?_cons_succ, Option.map_some, if_true, ite_true, if_false, ite_false, List.length_cons, List.length_nil, List.drop_zero, List.drop_succ_cons, List.take_succ_cons, List.take_zero, List.head?_cons, List.nil_append, List.cons_append, List.append_nil, List.all_cons, List.all_nil, Option.getD_some, List.map_cons, List.map_nil, List.size_toArray, eq_self, Nat.reduceAdd, Nat.reduceEqDiff, Nat.reduceLT, Nat.reduceLeDiff, Nat.reduceSub, List.replicate_succ, List.replicate_zero, Nat.reduceMul, List.isEmpty_cons, List.isEmpty_nil, Int.cast_ofNat_Int, Int.reduceLT, Int.reduceLE, Int.reduceToNat, Int.toNat_zero, Int.toNat_natCast, Int.natCast_nonneg, Int.reduceGE, Int.reduceGT, facts, h0, h1, h2, h3, h4, Bool.true_beq, Bool.false_beq, Bool.not_true, Bool.not_false, beq_self_eq_true]
    try simp -implicitDefEqProofs only [fins, List.take_succ_cons, List.take_zero, List.map_cons, List.map_nil, List.all_cons, List.all_nil]
    rw [holdsB_far (z := x) (by simp [nears]) h4]
  | true =>
  simp -implicitDefEqProofs only [runs, List.getD_cons_zero, List.getD_cons_succ, List.set_cons_zero, List.set_cons_succ, List.getElem?_cons_zero, List.getElem?_cons_succ, Option.map_some, if_true, ite_true, if_false, ite_false, List.length_cons, List.length_nil, List.drop_zero, List.drop_succ_cons, List.take_succ_cons, List.take_zero, List.head?_cons, List.nil_append, List.cons_append, List.append_nil, List.all_cons, List.all_nil, Option.getD_some, List.map_cons, List.map_nil, List.size_toArray, eq_self, Nat.reduceAdd, Nat.reduceEqDiff, Nat.reduceLT, Nat.reduceLeDiff, Nat.reduceSub, List.replicate_succ, List.replicate_zero, Nat.reduceMul, List.isEmpty_cons, List.isEmpty_nil, Int.cast_ofNat_Int, Int.reduceLT, Int.reduceLE, Int.reduceToNat, Int.toNat_zero, Int.toNat_natCast, Int.natCast_nonneg, Int.reduceGE, Int.reduceGT, facts, h0, h1, h2, h3, h4, Sh.av, Bool.false_beq, Bool.not_true, Bool.not_false, beq_self_eq_true]
  refine PC.useX hF (near_ok y) rfl fun v hv => ?_
  subst hv
  cases h5 : nearB y with
  | false =>
    simp -implicitDefEqProofs only [runs, List.getD_cons_zero, List.getD_cons_succ, List.set_cons_zero, List.set_cons_succ, List.getElem?_cons_zero, List.getElem?_cons_succ, Option.map_some, if_true, ite_true, if_false, ite_false, List.length_cons, List.length_nil, List.drop_zero, List.drop_succ_cons, List.take_succ_cons, List.take_zero, List.head?_cons, List.nil_append, List.cons_append, List.append_nil, List.all_cons, List.all_nil, Option.getD_some, List.map_cons, List.map_nil, List.size_toArray, eq_self, Nat.reduceAdd, Nat.reduceEqDiff, Nat.reduceLT, Nat.reduceLeDiff, Nat.reduceSub, List.replicate_succ, List.replicate_zero, Nat.reduceMul, List.isEmpty_cons, List.isEmpty_nil, Int.cast_ofNat_Int, Int.reduceLT, Int.reduceLE, Int.reduceToNat, Int.toNat_zero, Int.toNat_natCast, Int.natCast_nonneg, Int.reduceGE, Int.reduceGT, facts, h0, h1, h2, h3, h4, h5, Bool.true_beq, Bool.false_beq, Bool.not_true, Bool.not_false, beq_self_eq_true]
    try simp -implicitDefEqProofs only [fins, List.take_succ_cons, List.take_zero, List.map_cons, List.map_nil, List.all_cons, List.all_nil]
    rw [holdsB_far (z := y) (by simp [nears]) h5]
  | true =>
  have hall : (nears a x y).all nearB = true := by simp [nears, h0, h1, h2, h3, h4, h5]
  have n1 := nearB_in h0
  have n2 := nearB_in h1
  have n3 := nearB_in h2
  have n4 := nearB_in h3
  have w1 : IntKind.i64.wrap (a.x + a.w) = a.x + a.w := wrap_i64 _ (by unfold I64; omega)
  have w2 : IntKind.i64.wrap (a.y + a.h) = a.y + a.h := wrap_i64 _ (by unfold I64; omega)
  cases g1 : decide (x ≥ a.x) with
  | false =>
    simp -implicitDefEqProofs only [runs, List.getD_cons_zero, List.getD_cons_succ, List.set_cons_zero, List.set_cons_succ, List.getElem?_cons_zero, List.getElem?_cons_succ, Option.map_some, if_true, ite_true, if_false, ite_false, List.length_cons, List.length_nil, List.drop_zero, List.drop_succ_cons, List.take_succ_cons, List.take_zero, List.head?_cons, List.nil_append, List.cons_append, List.append_nil, List.all_cons, List.all_nil, Option.getD_some, List.map_cons, List.map_nil, List.size_toArray, eq_self, Nat.reduceAdd, Nat.reduceEqDiff, Nat.reduceLT, Nat.reduceLeDiff, Nat.reduceSub, List.replicate_succ, List.replicate_zero, Nat.reduceMul, List.isEmpty_cons, List.isEmpty_nil, Int.cast_ofNat_Int, Int.reduceLT, Int.reduceLE, Int.reduceToNat, Int.toNat_zero, Int.toNat_natCast, Int.natCast_nonneg, Int.reduceGE, Int.reduceGT, facts, h0, h1, h2, h3, h4, h5, Sh.av, g1, w1, w2, Bool.not_true, Bool.not_false, beq_self_eq_true]
    try simp -implicitDefEqProofs only [fins, List.take_succ_cons, List.take_zero, List.map_cons, List.map_nil, List.all_cons, List.all_nil]
    simp only [holdsB, hall, g1, Bool.true_and, Bool.false_and]
  | true =>
  cases g2 : decide (x < a.x + a.w) with
  | false =>
    simp -implicitDefEqProofs only [runs, List.getD_cons_zero, List.getD_cons_succ, List.set_cons_zero, List.set_cons_succ, List.getElem?_cons_zero, List.getElem?_cons_succ, Option.map_some, if_true, ite_true, if_false, ite_false, List.length_cons, List.length_nil, List.drop_zero, List.drop_succ_cons, List.take_succ_cons, List.take_zero, List.head?_cons, List.nil_append, List.cons_append, List.append_nil, List.all_cons, List.all_nil, Option.getD_some, List.map_cons, List.map_nil, List.size_toArray, eq_self, Nat.reduceAdd, Nat.reduceEqDiff, Nat.reduceLT, Nat.reduceLeDiff, Nat.reduceSub, List.replicate_succ, List.replicate_zero, Nat.reduceMul, List.isEmpty_cons, List.isEmpty_nil, Int.cast_ofNat_Int, Int.reduceLT, Int.reduceLE, Int.reduceToNat, Int.toNat_zero, Int.toNat_natCast, Int.natCast_nonneg, Int.reduceGE, Int.reduceGT, facts, h0, h1, h2, h3, h4, h5, Sh.av, g1, g2, w1, w2, Bool.not_true, Bool.not_false, beq_self_eq_true]
    try simp -implicitDefEqProofs only [fins, List.take_succ_cons, List.take_zero, List.map_cons, List.map_nil, List.all_cons, List.all_nil]
    simp only [holdsB, dec_sub, hall, g1, g2, Bool.true_and, Bool.false_and]
  | true =>
  cases g3 : decide (y ≥ a.y) with
  | false =>
    simp -implicitDefEqProofs only [runs, List.getD_cons_zero, List.getD_cons_succ, List.set_cons_zero, List.set_cons_succ, List.getElem?_cons_zero, List.getElem?_cons_succ, Option.map_some, if_true, ite_true, if_false, ite_false, List.length_cons, List.length_nil, List.drop_zero, List.drop_succ_cons, List.take_succ_cons, List.take_zero, List.head?_cons, List.nil_append, List.cons_append, List.append_nil, List.all_cons, List.all_nil, Option.getD_some, List.map_cons, List.map_nil, List.size_toArray, eq_self, Nat.reduceAdd, Nat.reduceEqDiff, Nat.reduceLT, Nat.reduceLeDiff, Nat.reduceSub, List.replicate_succ, List.replicate_zero, Nat.reduceMul, List.isEmpty_cons, List.isEmpty_nil, Int.cast_ofNat_Int, Int.reduceLT, Int.reduceLE, Int.reduceToNat, Int.toNat_zero, Int.toNat_natCast, Int.natCast_nonneg, Int.reduceGE, Int.reduceGT, facts, h0, h1, h2, h3, h4, h5, Sh.av, g1, g2, g3, w1, w2, Bool.not_true, Bool.not_false, beq_self_eq_true]
    try simp -implicitDefEqProofs only [fins, List.take_succ_cons, List.take_zero, List.map_cons, List.map_nil, List.all_cons, List.all_nil]
    simp only [holdsB, dec_sub, hall, g1, g2, g3, Bool.true_and, Bool.false_and]
  | true =>
    simp -implicitDefEqProofs only [runs, List.getD_cons_zero, List.getD_cons_succ, List.set_cons_zero, List.set_cons_succ, List.getElem?_cons_zero, List.getElem?_cons_succ, Option.map_some, if_true, ite_true, if_false, ite_false, List.length_cons, List.length_nil, List.drop_zero, List.drop_succ_cons, List.take_succ_cons, List.take_zero, List.head?_cons, List.nil_append, List.cons_append, List.append_nil, List.all_cons, List.all_nil, Option.getD_some, List.map_cons, List.map_nil, List.size_toArray, eq_self, Nat.reduceAdd, Nat.reduceEqDiff, Nat.reduceLT, Nat.reduceLeDiff, Nat.reduceSub, List.replicate_succ, List.replicate_zero, Nat.reduceMul, List.isEmpty_cons, List.isEmpty_nil, Int.cast_ofNat_Int, Int.reduceLT, Int.reduceLE, Int.reduceToNat, Int.toNat_zero, Int.toNat_natCast, Int.natCast_nonneg, Int.reduceGE, Int.reduceGT, facts, h0, h1, h2, h3, h4, h5, Sh.av, g1, g2, g3, w1, w2, Bool.not_true, Bool.not_false, beq_self_eq_true]
    try simp -implicitDefEqProofs only [fins, List.take_succ_cons, List.take_zero, List.map_cons, List.map_nil, List.all_cons, List.all_nil]
    simp only [holdsB, dec_sub, hall, g1, g2, g3, Bool.true_and, Bool.false_and]
end Go.Proofs.Pv
