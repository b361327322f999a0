/-
  Chapter 27: what of shapes stands at a point: package draw's answer, all kinds.
  Conditions: the list is not longer than a machine's memory.
-/
import Derived.Test.YtgjjcdjcpbjdgaaGreatDoorO27d
namespace Go.Proofs.Pv
set_option linter.unusedVariables false
set_option linter.unusedSimpArgs false
open Go Go.Proofs
set_option linter.unusedSimpArgs false
set_option maxRecDepth 10000

theorem firstI_cases {α : Type} (p : α → Bool) (l : List α) : (firstI p l = -1 ∧ l.find? p = none) ∨ ∃ (i : Nat) (h : i < l.length), firstI p l = i ∧ l.find? p = some l[i] := by
  cases h : l.findIdx? p with
  | none =>
    left
    refine ⟨by simp [firstI, h], ?_⟩
    rw [List.findIdx?_eq_none_iff] at h
    rw [List.find?_eq_none]
    intro x hx; simp [h x hx]
  | some i =>
    right
    have h' := h
    rw [List.findIdx?_eq_some_iff_getElem] at h'
    obtain ⟨h1, h2, h3⟩ := h'
    refine ⟨i, h1, by simp [firstI, h], ?_⟩
    rw [List.find?_eq_some_iff_getElem]
    exact ⟨h2, i, h1, rfl, fun j hj => by simpa using h3 j hj⟩
def placeV (a : Sh) : AV := .agg [.int .i64 a.p0, .int .i64 a.p1, .int .i64 a.p2, .int .i64 a.p3]
def hitR (l : List Sh) (x y : Int) : AV := match l.find? (hitB [3, 7] x y) with
  | some a => .tup [placeV a, .bool true]
  | none => match l.find? (hitB [4, 5, 6, 8, 9, 11] x y) with
    | some a => .tup [placeV a, .bool true]
    | none => .tup [.agg [.int .i64 0, .int .i64 0, .int .i64 0, .int .i64 0], .bool false]
theorem hit_ok (l : List Sh) (x y : Int) (hl : l.length ≤ 1000000) : PC Tryz.prog gl 5 [.sl 12 (shs l) .none, .int .i64 x, .int .i64 y] (fun v => v = hitR l x y) := by
  refine PC.introX 1 mix (fn := Tryz.f5) Tryz.func5 rfl (names 5 _ Tryz.func5) fun F hF hro W => ?_
  simp -implicitDefEqProofs only [Tryz.ntmps5, Tryz.results5, fr0, st0, List.length_cons, List.length_nil, List.cons_append, List.nil_append, Nat.reduceAdd, Nat.reduceSub, List.replicate_succ, List.replicate_zero]
  simp -implicitDefEqProofs only [runs, List.getD_cons_zero, List.getD_cons_succ, List.set_cons_zero, List.set_cons_succ, List.getElem?_cons_zero, List.getElem?_cons_succ, Option.map_some, if_true, ite_true, if_false, ite_false, List.length_cons, List.length_nil, List.drop_zero, List.drop_succ_cons, List.take_succ_cons, List.take_zero, List.head?_cons, List.nil_append, List.cons_append, List.append_nil, List.all_cons, List.all_nil, Option.getD_some, List.map_cons, List.map_nil, List.size_toArray, eq_self, Nat.reduceAdd, Nat.reduceEqDiff, Nat.reduceLT, Nat.reduceLeDiff, Nat.reduceSub, List.replicate_succ, List.replicate_zero, Nat.reduceMul, List.isEmpty_cons, List.isEmpty_nil, Int.cast_ofNat_Int, Int.reduceLT, Int.reduceLE, Int.reduceToNat, Int.toNat_zero, Int.toNat_natCast, Int.natCast_nonneg, Int.reduceGE, Int.reduceGT, facts]
  refine OX_unroll 3 ?_
  simp -implicitDefEqProofs only [runs, List.getD_cons_zero, List.getD_cons_succ, List.set_cons_zero, List.set_cons_succ, List.getElem?_cons_zero, List.getElem?_cons_succ, Option.map_some, if_true, ite_true, if_false, ite_false, List.length_cons, List.length_nil, List.drop_zero, List.drop_succ_cons, List.take_succ_cons, List.take_zero, List.head?_cons, List.nil_append, List.cons_append, List.append_nil, List.all_cons, List.all_nil, Option.getD_some, List.map_cons, List.map_nil, List.size_toArray, eq_self, Nat.reduceAdd, Nat.reduceEqDiff, Nat.reduceLT, Nat.reduceLeDiff, Nat.reduceSub, List.replicate_succ, List.replicate_zero, Nat.reduceMul, List.isEmpty_cons, List.isEmpty_nil, Int.cast_ofNat_Int, Int.reduceLT, Int.reduceLE, Int.reduceToNat, Int.toNat_zero, Int.toNat_natCast, Int.natCast_nonneg, Int.reduceGE, Int.reduceGT, facts]
  refine PC.useN hF 3 (indexFunc_ok l 10 (caps [3, 7] x y) (hitB [3, 7] x y) hl rfl (fun a _ => hit1_ok [3, 7] x y a (by decide))) (fun v hv => by subst hv; rfl) rfl fun v hv => ?_
  subst hv
  have w1 : IntKind.i64.wrap (0 + 1) = 1 := by decide
  have w2 : IntKind.i64.wrap (1 + 1) = 2 := by decide
  rcases firstI_cases (hitB [3, 7] x y) l with ⟨e1, e2⟩ | ⟨i, hi, e1, e2⟩
  · have c1 : decide ((-1 : Int) ≥ 0) = false := by decide
    simp -implicitDefEqProofs only [runs, List.getD_cons_zero, List.getD_cons_succ, List.set_cons_zero, List.set_cons_succ, List.getElem?_cons_zero, List.getElem?_cons_succ, Option.map_some, if_true, ite_true, if_false, ite_false, List.length_cons, List.length_nil, List.drop_zero, List.drop_succ_cons, List.take_succ_cons, List.take_zero, List.head?_cons, List.nil_append, List.cons_append, List.append_nil, List.all_cons, List.all_nil, Option.getD_some, List.map_cons, List.map_nil, List.size_toArray, eq_self, Nat.reduceAdd, Nat.reduceEqDiff, Nat.reduceLT, Nat.reduceLeDiff, Nat.reduceSub, List.replicate_succ, List.replicate_zero, Nat.reduceMul, List.isEmpty_cons, List.isEmpty_nil, Int.cast_ofNat_Int, Int.reduceLT, Int.reduceLE, Int.reduceToNat, Int.toNat_zero, Int.toNat_natCast, Int.natCast_nonneg, Int.reduceGE, Int.reduceGT, facts, e1, c1, w1, w2]
    refine PC.useN hF 3 (indexFunc_ok l 10 (caps [4, 5, 6, 8, 9, 11] x y) (hitB [4, 5, 6, 8, 9, 11] x y) hl rfl (fun a _ => hit1_ok [4, 5, 6, 8, 9, 11] x y a (by decide))) (fun v hv => by subst hv; rfl) rfl fun v hv => ?_
    subst hv
    rcases firstI_cases (hitB [4, 5, 6, 8, 9, 11] x y) l with ⟨e3, e4⟩ | ⟨i, hi, e3, e4⟩
    · simp -implicitDefEqProofs only [runs, List.getD_cons_zero, List.getD_cons_succ, List.set_cons_zero, List.set_cons_succ, List.getElem?_cons_zero, List.getElem?_cons_succ, Option.map_some, if_true, ite_true, if_false, ite_false, List.length_cons, List.length_nil, List.drop_zero, List.drop_succ_cons, List.take_succ_cons, List.take_zero, List.head?_cons, List.nil_append, List.cons_append, List.append_nil, List.all_cons, List.all_nil, Option.getD_some, List.map_cons, List.map_nil, List.size_toArray, eq_self, Nat.reduceAdd, Nat.reduceEqDiff, Nat.reduceLT, Nat.reduceLeDiff, Nat.reduceSub, List.replicate_succ, List.replicate_zero, Nat.reduceMul, List.isEmpty_cons, List.isEmpty_nil, Int.cast_ofNat_Int, Int.reduceLT, Int.reduceLE, Int.reduceToNat, Int.toNat_zero, Int.toNat_natCast, Int.natCast_nonneg, Int.reduceGE, Int.reduceGT, facts, e3, c1, w1, w2]
      try simp -implicitDefEqProofs only [fins, List.take_succ_cons, List.take_zero, List.map_cons, List.map_nil, List.all_cons, List.all_nil]
      simp only [hitR, e2, e4]
    · have c2 : decide ((i : Int) ≥ 0) = true := decide_eq_true (by omega)
      have hrow := shs_at hi
      simp -implicitDefEqProofs only [runs, List.getD_cons_zero, List.getD_cons_succ, List.set_cons_zero, List.set_cons_succ, List.getElem?_cons_zero, List.getElem?_cons_succ, Option.map_some, if_true, ite_true, if_false, ite_false, List.length_cons, List.length_nil, List.drop_zero, List.drop_succ_cons, List.take_succ_cons, List.take_zero, List.head?_cons, List.nil_append, List.cons_append, List.append_nil, List.all_cons, List.all_nil, Option.getD_some, List.map_cons, List.map_nil, List.size_toArray, eq_self, Nat.reduceAdd, Nat.reduceEqDiff, Nat.reduceLT, Nat.reduceLeDiff, Nat.reduceSub, List.replicate_succ, List.replicate_zero, Nat.reduceMul, List.isEmpty_cons, List.isEmpty_nil, Int.cast_ofNat_Int, Int.reduceLT, Int.reduceLE, Int.reduceToNat, Int.toNat_zero, Int.toNat_natCast, Int.natCast_nonneg, Int.reduceGE, Int.reduceGT, facts, e3, c2, hrow, Sh.av]
      try simp -implicitDefEqProofs only [fins, List.take_succ_cons, List.take_zero, List.map_cons, List.map_nil, List.all_cons, List.all_nil]
      simp only [hitR, e2, e4, placeV]
  · have c2 : decide ((i : Int) ≥ 0) = true := decide_eq_true (by omega)
    have hrow := shs_at hi
    simp -implicitDefEqProofs only [runs, List.getD_cons_zero, List.getD_cons_succ, List.set_cons_zero, List.set_cons_succ, List.getElem?_cons_zero, List.getElem?_cons_succ, Option.map_some, if_true, ite_true, if_false, ite_false, List.length_cons, List.length_nil, List.drop_zero, List.drop_succ_cons, List.take_succ_cons, List.take_zero, List.head?_cons, List.nil_append, List.cons_append, List.append_nil, List.all_cons, List.all_nil, Option.getD_some, List.map_cons, List.map_nil, List.size_toArray, eq_self, Nat.reduceAdd, Nat.reduceEqDiff, Nat.reduceLT, Nat.reduceLeDiff, Nat.reduceSub, List.replicate_succ, List.replicate_zero, Nat.reduceMul, List.isEmpty_cons, List.isEmpty_nil, Int.cast_ofNat_Int, Int.reduceLT, Int.reduceLE, Int.reduceToNat, Int.toNat_zero, Int.toNat_natCast, Int.natCast_nonneg, Int.reduceGE, Int.reduceGT, facts, e1, c2, hrow, Sh.av]
    try simp -implicitDefEqProofs only [fins, List.take_succ_cons, List.take_zero, List.map_cons, List.map_nil, List.all_cons, List.all_nil]
    simp only [hitR, e2, placeV]
end Go.Proofs.Pv
