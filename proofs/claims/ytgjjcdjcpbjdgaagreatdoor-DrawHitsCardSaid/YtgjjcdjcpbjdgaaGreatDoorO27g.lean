/-
  Chapter 27: what of shapes stands at a point: the document's answer.
  Conditions: the list is not longer than a machine's memory.
-/
import Derived.Test.YtgjjcdjcpbjdgaaGreatDoorO27f
namespace Go.Proofs.Pv
set_option linter.unusedVariables false
set_option linter.unusedSimpArgs false
open Go Go.Proofs
set_option linter.unusedSimpArgs false
set_option maxRecDepth 10000
set_option maxHeartbeats 4000000

theorem find_hit {α : Type} {p : α → Bool} {l : List α} {i : Nat} (hi : i < l.length) (hp : p l[i] = true) (hprev : ∀ j (h : j < l.length), j < i → p l[j] = false) : l.find? p = some l[i] := by
  rw [List.find?_eq_some_iff_getElem]
  exact ⟨hp, i, hi, rfl, fun j hj => by simpa using hprev j (by omega) hj⟩
theorem find_none {α : Type} {p : α → Bool} {l : List α} (hprev : ∀ j (h : j < l.length), j < l.length → p l[j] = false) : l.find? p = none := by
  rw [List.find?_eq_none]
  intro x hx
  obtain ⟨j, hj, rfl⟩ := List.mem_iff_getElem.1 hx
  simp [hprev j hj hj]
theorem prev_succ {α : Type} {p : α → Bool} {l : List α} {i : Nat} (hi : i < l.length) (hp : p l[i] = false) (hprev : ∀ j (h : j < l.length), j < i → p l[j] = false) : ∀ j (h : j < l.length), j < i + 1 → p l[j] = false := by
  intro j hj hji
  rcases Nat.lt_succ_iff_lt_or_eq.1 hji with h | rfl
  · exact hprev j hj h
  · exact hp
def fr6a (l : List Sh) (x y : Int) (i : Nat) : Fr := ⟨[.sl 12 (shs l) .none, .int .i64 x, .int .i64 y, .undef, .undef, .undef, .ptr 0 0, .undef, .int .i64 (i : Nat), .undef, .undef, .undef, .undef, .undef, .undef, .undef, .undef, .undef, .undef, .undef, .undef, .undef, .undef, .undef, .undef, .undef, .undef, .undef, .undef, .undef, .undef, .undef, .undef, .undef, .undef, .undef, .undef, .undef, .undef, .undef, .undef, .undef, .undef, .undef, .undef, .undef, .undef, .undef, .undef, .undef, .undef, .undef, .undef, .undef, .undef, .undef, .undef, .undef, .undef, .undef, .undef, .undef, .undef, .undef, .undef, .undef, .undef, .undef, .undef, .undef, .undef, .undef, .undef, .undef, .undef, .undef, .undef, .undef, .undef, .undef, .undef, .undef, .undef, .undef, .undef, .undef, .undef, .undef, .undef, .undef, .undef, .undef, .undef], []⟩
def fr6b (l : List Sh) (x y : Int) (i : Nat) : Fr := ⟨[.sl 12 (shs l) .none, .int .i64 x, .int .i64 y, .undef, .undef, .undef, .ptr 0 0, .undef, .undef, .int .i64 (i : Nat), .undef, .undef, .undef, .undef, .undef, .undef, .undef, .undef, .undef, .undef, .undef, .undef, .undef, .undef, .undef, .undef, .undef, .undef, .undef, .undef, .undef, .undef, .undef, .undef, .undef, .undef, .undef, .undef, .undef, .undef, .undef, .undef, .undef, .undef, .undef, .undef, .undef, .undef, .undef, .undef, .undef, .undef, .undef, .undef, .undef, .undef, .undef, .undef, .undef, .undef, .undef, .undef, .undef, .undef, .undef, .undef, .undef, .undef, .undef, .undef, .undef, .undef, .undef, .undef, .undef, .undef, .undef, .undef, .undef, .undef, .undef, .undef, .undef, .undef, .undef, .undef, .undef, .undef, .undef, .undef, .undef, .undef, .undef], []⟩
def z4 : List (Nat × Blk) := [(0, .cells [.int .i64 0, .int .i64 0, .int .i64 0, .int .i64 0])]
theorem refHit_ok (l : List Sh) (x y : Int) (hl : l.length ≤ 1000000) : PC Tryz.prog gl 6 [.sl 12 (shs l) .none, .int .i64 x, .int .i64 y] (fun v => v = hitR l x y) := by
  refine PC.introX 1 mix (fn := Tryz.f6) Tryz.func6 rfl (names 6 _ Tryz.func6) fun F hF hro W => ?_
  simp -implicitDefEqProofs only [Tryz.ntmps6, Tryz.results6, fr0, st0, List.length_cons, List.length_nil, List.cons_append, List.nil_append, Nat.reduceAdd, Nat.reduceSub, List.replicate_succ, List.replicate_zero]
  simp -implicitDefEqProofs only [runs, List.getD_cons_zero, List.getD_cons_succ, List.set_cons_zero, List.set_cons_succ, List.getElem?_cons_zero, List.getElem?_cons_succ, Option.map_some, if_true, ite_true, if_false, ite_false, List.length_cons, List.length_nil, List.drop_zero, List.drop_succ_cons, List.take_succ_cons, List.take_zero, List.head?_cons, List.nil_append, List.cons_append, List.append_nil, List.all_cons, List.all_nil, Option.getD_some, List.map_cons, List.map_nil, List.size_toArray, eq_self, Nat.reduceAdd, Nat.reduceEqDiff, Nat.reduceLT, Nat.reduceLeDiff, Nat.reduceSub, List.replicate_succ, List.replicate_zero, Nat.reduceMul, List.isEmpty_cons, List.isEmpty_nil, Int.cast_ofNat_Int, Int.reduceLT, Int.reduceLE, Int.reduceToNat, Int.toNat_zero, Int.toNat_natCast, Int.natCast_nonneg, Int.reduceGE, Int.reduceGT, facts]
  refine OX_loop' [true, true, true, false, false, false, true, false, true, false, false, false, false, false, false, false, false, false, false, false, false, false, false, false, false, false, false, false, false, false, false, false, false, false, false, false, false, false, false, false, false, false, false, false, false, false, false, false, false, false, false, false, false, false, false, false, false, false, false, false, false, false, false, false, false, false, false, false, false, false, false, false, false, false, false, false, false, false, false, false, false, false, false, false, false, false, false, false, false, false, false, false, false] (fun m fr st => ∃ (i nx : Nat), i ≤ l.length ∧ m = l.length - i ∧ (∀ j (h : j < l.length), j < i → hitB [3, 7] x y l[j] = false) ∧ fr = fr6a l x y i ∧ st = ⟨z4, nx⟩) l.length ⟨0, _, by omega, by omega, fun j _ h => absurd h (Nat.not_lt_zero _), by rfl, rfl⟩ ?_
  rintro m fr st ⟨i, nx, hi, rfl, hprev, rfl, rfl⟩
  by_cases hlt : i < l.length
  · have hlt' : decide ((i : Int) < (l.length : Nat)) = true := decide_eq_true (by omega)
    have hrow := shs_at hlt
    have hinc := wrap_inc hlt hl
    cases q0 : (l[i].k == 3) with
    | true =>
      have hB : hitB [3, 7] x y l[i] = holdsB l[i] x y := by simp only [hitB, List.any_cons, List.any_nil, q0, Bool.false_or, Bool.true_or, Bool.true_and]
      simp -implicitDefEqProofs only [runs, List.getD_cons_zero, List.getD_cons_succ, List.set_cons_zero, List.set_cons_succ, List.getElem?_cons_zero, List.getElem?_cons_succ, Option.map_some, if_true, ite_true, if_false, ite_false, List.length_cons, List.length_nil, List.drop_zero, List.drop_succ_cons, List.take_succ_cons, List.take_zero, List.head?_cons, List.nil_append, List.cons_append, List.append_nil, List.all_cons, List.all_nil, Option.getD_some, List.map_cons, List.map_nil, List.size_toArray, eq_self, Nat.reduceAdd, Nat.reduceEqDiff, Nat.reduceLT, Nat.reduceLeDiff, Nat.reduceSub, List.replicate_succ, List.replicate_zero, Nat.reduceMul, List.isEmpty_cons, List.isEmpty_nil, Int.cast_ofNat_Int, Int.reduceLT, Int.reduceLE, Int.reduceToNat, Int.toNat_zero, Int.toNat_natCast, Int.natCast_nonneg, Int.reduceGE, Int.reduceGT, facts, fr6a, z4, shs_len, hlt', hrow, Sh.av, q0, Bool.not_true, Bool.not_false, beq_self_eq_true, Bool.true_beq, Bool.false_beq]
      refine PC.useX hF (refHolds_ok l[i] x y) rfl fun v hv => ?_
      subst hv
      cases hq : holdsB l[i] x y with
      | true =>
        simp -implicitDefEqProofs only [runs, List.getD_cons_zero, List.getD_cons_succ, List.set_cons_zero, List.set_cons_succ, List.getElem?_cons_zero, List.getElem?_cons_succ, Option.map_some, if_true, ite_true, if_false, ite_false, List.length_cons, List.length_nil, List.drop_zero, List.drop_succ_cons, List.take_succ_cons, List.take_zero, List.head?_cons, List.nil_append, List.cons_append, List.append_nil, List.all_cons, List.all_nil, Option.getD_some, List.map_cons, List.map_nil, List.size_toArray, eq_self, Nat.reduceAdd, Nat.reduceEqDiff, Nat.reduceLT, Nat.reduceLeDiff, Nat.reduceSub, List.replicate_succ, List.replicate_zero, Nat.reduceMul, List.isEmpty_cons, List.isEmpty_nil, Int.cast_ofNat_Int, Int.reduceLT, Int.reduceLE, Int.reduceToNat, Int.toNat_zero, Int.toNat_natCast, Int.natCast_nonneg, Int.reduceGE, Int.reduceGT, facts, fr6a, z4, shs_len, hlt', hrow, Sh.av, q0, hq, Bool.not_true, Bool.not_false, beq_self_eq_true, Bool.true_beq, Bool.false_beq]
        try simp -implicitDefEqProofs only [fins, List.take_succ_cons, List.take_zero, List.map_cons, List.map_nil, List.all_cons, List.all_nil]
        rw [hq] at hB
        simp only [hitR, find_hit hlt hB hprev, placeV]
      | false =>
        simp -implicitDefEqProofs only [runs, List.getD_cons_zero, List.getD_cons_succ, List.set_cons_zero, List.set_cons_succ, List.getElem?_cons_zero, List.getElem?_cons_succ, Option.map_some, if_true, ite_true, if_false, ite_false, List.length_cons, List.length_nil, List.drop_zero, List.drop_succ_cons, List.take_succ_cons, List.take_zero, List.head?_cons, List.nil_append, List.cons_append, List.append_nil, List.all_cons, List.all_nil, Option.getD_some, List.map_cons, List.map_nil, List.size_toArray, eq_self, Nat.reduceAdd, Nat.reduceEqDiff, Nat.reduceLT, Nat.reduceLeDiff, Nat.reduceSub, List.replicate_succ, List.replicate_zero, Nat.reduceMul, List.isEmpty_cons, List.isEmpty_nil, Int.cast_ofNat_Int, Int.reduceLT, Int.reduceLE, Int.reduceToNat, Int.toNat_zero, Int.toNat_natCast, Int.natCast_nonneg, Int.reduceGE, Int.reduceGT, facts, fr6a, z4, shs_len, hlt', hrow, Sh.av, q0, hq, Bool.not_true, Bool.not_false, beq_self_eq_true, Bool.true_beq, Bool.false_beq]
        rw [hq] at hB
        refine ⟨l.length - (i + 1), by omega, i + 1, _, by omega, rfl, prev_succ hlt hB hprev, ?_, rfl⟩
        rw [hinc]
    | false =>
    cases q1 : (l[i].k == 7) with
    | true =>
      have hB : hitB [3, 7] x y l[i] = holdsB l[i] x y := by simp only [hitB, List.any_cons, List.any_nil, q0, q1, Bool.false_or, Bool.true_or, Bool.true_and]
      simp -implicitDefEqProofs only [runs, List.getD_cons_zero, List.getD_cons_succ, List.set_cons_zero, List.set_cons_succ, List.getElem?_cons_zero, List.getElem?_cons_succ, Option.map_some, if_true, ite_true, if_false, ite_false, List.length_cons, List.length_nil, List.drop_zero, List.drop_succ_cons, List.take_succ_cons, List.take_zero, List.head?_cons, List.nil_append, List.cons_append, List.append_nil, List.all_cons, List.all_nil, Option.getD_some, List.map_cons, List.map_nil, List.size_toArray, eq_self, Nat.reduceAdd, Nat.reduceEqDiff, Nat.reduceLT, Nat.reduceLeDiff, Nat.reduceSub, List.replicate_succ, List.replicate_zero, Nat.reduceMul, List.isEmpty_cons, List.isEmpty_nil, Int.cast_ofNat_Int, Int.reduceLT, Int.reduceLE, Int.reduceToNat, Int.toNat_zero, Int.toNat_natCast, Int.natCast_nonneg, Int.reduceGE, Int.reduceGT, facts, fr6a, z4, shs_len, hlt', hrow, Sh.av, q0, q1, Bool.not_true, Bool.not_false, beq_self_eq_true, Bool.true_beq, Bool.false_beq]
      refine PC.useX hF (refHolds_ok l[i] x y) rfl fun v hv => ?_
      subst hv
      cases hq : holdsB l[i] x y with
      | true =>
        simp -implicitDefEqProofs only [runs, List.getD_cons_zero, List.getD_cons_succ, List.set_cons_zero, List.set_cons_succ, List.getElem?_cons_zero, List.getElem?_cons_succ, Option.map_some, if_true, ite_true, if_false, ite_false, List.length_cons, List.length_nil, List.drop_zero, List.drop_succ_cons, List.take_succ_cons, List.take_zero, List.head?_cons, List.nil_append, List.cons_append, List.append_nil, List.all_cons, List.all_nil, Option.getD_some, List.map_cons, List.map_nil, List.size_toArray, eq_self, Nat.reduceAdd, Nat.reduceEqDiff, Nat.reduceLT, Nat.reduceLeDiff, Nat.reduceSub, List.replicate_succ, List.replicate_zero, Nat.reduceMul, List.isEmpty_cons, List.isEmpty_nil, Int.cast_ofNat_Int, Int.reduceLT, Int.reduceLE, Int.reduceToNat, Int.toNat_zero, Int.toNat_natCast, Int.natCast_nonneg, Int.reduceGE, Int.reduceGT, facts, fr6a, z4, shs_len, hlt', hrow, Sh.av, q0, q1, hq, Bool.not_true, Bool.not_false, beq_self_eq_true, Bool.true_beq, Bool.false_beq]
        try simp -implicitDefEqProofs only [fins, List.take_succ_cons, List.take_zero, List.map_cons, List.map_nil, List.all_cons, List.all_nil]
        rw [hq] at hB
        simp only [hitR, find_hit hlt hB hprev, placeV]
      | false =>
        simp -implicitDefEqProofs only [runs, List.getD_cons_zero, List.getD_cons_succ, List.set_cons_zero, List.set_cons_succ, List.getElem?_cons_zero, List.getElem?_cons_succ, Option.map_some, if_true, ite_true, if_false, ite_false, List.length_cons, List.length_nil, List.drop_zero, List.drop_succ_cons, List.take_succ_cons, List.take_zero, List.head?_cons, List.nil_append, List.cons_append, List.append_nil, List.all_cons, List.all_nil, Option.getD_some, List.map_cons, List.map_nil, List.size_toArray, eq_self, Nat.reduceAdd, Nat.reduceEqDiff, Nat.reduceLT, Nat.reduceLeDiff, Nat.reduceSub, List.replicate_succ, List.replicate_zero, Nat.reduceMul, List.isEmpty_cons, List.isEmpty_nil, Int.cast_ofNat_Int, Int.reduceLT, Int.reduceLE, Int.reduceToNat, Int.toNat_zero, Int.toNat_natCast, Int.natCast_nonneg, Int.reduceGE, Int.reduceGT, facts, fr6a, z4, shs_len, hlt', hrow, Sh.av, q0, q1, hq, Bool.not_true, Bool.not_false, beq_self_eq_true, Bool.true_beq, Bool.false_beq]
        rw [hq] at hB
        refine ⟨l.length - (i + 1), by omega, i + 1, _, by omega, rfl, prev_succ hlt hB hprev, ?_, rfl⟩
        rw [hinc]
    | false =>
    have hB : hitB [3, 7] x y l[i] = false := by simp only [hitB, List.any_cons, List.any_nil, q0, q1, Bool.or_self, Bool.false_and]
    simp -implicitDefEqProofs only [runs, List.getD_cons_zero, List.getD_cons_succ, List.set_cons_zero, List.set_cons_succ, List.getElem?_cons_zero, List.getElem?_cons_succ, Option.map_some, if_true, ite_true, if_false, ite_false, List.length_cons, List.length_nil, List.drop_zero, List.drop_succ_cons, List.take_succ_cons, List.take_zero, List.head?_cons, List.nil_append, List.cons_append, List.append_nil, List.all_cons, List.all_nil, Option.getD_some, List.map_cons, List.map_nil, List.size_toArray, eq_self, Nat.reduceAdd, Nat.reduceEqDiff, Nat.reduceLT, Nat.reduceLeDiff, Nat.reduceSub, List.replicate_succ, List.replicate_zero, Nat.reduceMul, List.isEmpty_cons, List.isEmpty_nil, Int.cast_ofNat_Int, Int.reduceLT, Int.reduceLE, Int.reduceToNat, Int.toNat_zero, Int.toNat_natCast, Int.natCast_nonneg, Int.reduceGE, Int.reduceGT, facts, fr6a, z4, shs_len, hlt', hrow, Sh.av, q0, q1, Bool.not_true, Bool.not_false, beq_self_eq_true, Bool.true_beq, Bool.false_beq]
    refine ⟨l.length - (i + 1), by omega, i + 1, _, by omega, rfl, prev_succ hlt hB hprev, ?_, rfl⟩
    rw [hinc]
  · have hlt' : decide ((i : Int) < (l.length : Nat)) = false := decide_eq_false (by omega)
    have hn : l.find? (hitB [3, 7] x y) = none := find_none (fun j hj _ => hprev j hj (by omega))
    clear hprev
    simp -implicitDefEqProofs only [runs, List.getD_cons_zero, List.getD_cons_succ, List.set_cons_zero, List.set_cons_succ, List.getElem?_cons_zero, List.getElem?_cons_succ, Option.map_some, if_true, ite_true, if_false, ite_false, List.length_cons, List.length_nil, List.drop_zero, List.drop_succ_cons, List.take_succ_cons, List.take_zero, List.head?_cons, List.nil_append, List.cons_append, List.append_nil, List.all_cons, List.all_nil, Option.getD_some, List.map_cons, List.map_nil, List.size_toArray, eq_self, Nat.reduceAdd, Nat.reduceEqDiff, Nat.reduceLT, Nat.reduceLeDiff, Nat.reduceSub, List.replicate_succ, List.replicate_zero, Nat.reduceMul, List.isEmpty_cons, List.isEmpty_nil, Int.cast_ofNat_Int, Int.reduceLT, Int.reduceLE, Int.reduceToNat, Int.toNat_zero, Int.toNat_natCast, Int.natCast_nonneg, Int.reduceGE, Int.reduceGT, facts, fr6a, shs_len, hlt']
    refine OX_loop' [true, true, true, false, false, false, true, false, false, true, false, false, false, false, false, false, false, false, false, false, false, false, false, false, false, false, false, false, false, false, false, false, false, false, false, false, false, false, false, false, false, false, false, false, false, false, false, false, false, false, false, false, false, false, false, false, false, false, false, false, false, false, false, false, false, false, false, false, false, false, false, false, false, false, false, false, false, false, false, false, false, false, false, false, false, false, false, false, false, false, false, false, false] (fun m fr st => ∃ (i nx : Nat), i ≤ l.length ∧ m = l.length - i ∧ (∀ j (h : j < l.length), j < i → hitB [4, 5, 6, 8, 9, 11] x y l[j] = false) ∧ fr = fr6b l x y i ∧ st = ⟨z4, nx⟩) l.length ⟨0, _, by omega, by omega, fun j _ h => absurd h (Nat.not_lt_zero _), by rfl, rfl⟩ ?_
    clear hlt hlt' hi i nx
    rintro m fr st ⟨i, nx, hi, rfl, hprev, rfl, rfl⟩
    by_cases hlt : i < l.length
    · have hlt' : decide ((i : Int) < (l.length : Nat)) = true := decide_eq_true (by omega)
      have hrow := shs_at hlt
      have hinc := wrap_inc hlt hl
      cases q0 : (l[i].k == 4) with
      | true =>
        have hB : hitB [4, 5, 6, 8, 9, 11] x y l[i] = holdsB l[i] x y := by simp only [hitB, List.any_cons, List.any_nil, q0, Bool.false_or, Bool.true_or, Bool.true_and]
        simp -implicitDefEqProofs only [runs, List.getD_cons_zero, List.getD_cons_succ, List.set_cons_zero, List.set_cons_succ, List.getElem?_cons_zero, List.getElem?_cons_succ, Option.map_some, if_true, ite_true, if_false, ite_false, List.length_cons, List.length_nil, List.drop_zero, List.drop_succ_cons, List.take_succ_cons, List.take_zero, List.head?_cons, List.nil_append, List.cons_append, List.append_nil, List.all_cons, List.all_nil, Option.getD_some, List.map_cons, List.map_nil, List.size_toArray, eq_self, Nat.reduceAdd, Nat.reduceEqDiff, Nat.reduceLT, Nat.reduceLeDiff, Nat.reduceSub, List.replicate_succ, List.replicate_zero, Nat.reduceMul, List.isEmpty_cons, List.isEmpty_nil, Int.cast_ofNat_Int, Int.reduceLT, Int.reduceLE, Int.reduceToNat, Int.toNat_zero, Int.toNat_natCast, Int.natCast_nonneg, Int.reduceGE, Int.reduceGT, facts, fr6b, z4, shs_len, hlt', hrow, Sh.av, q0, Bool.not_true, Bool.not_false, beq_self_eq_true, Bool.true_beq, Bool.false_beq]
        refine PC.useX hF (refHolds_ok l[i] x y) rfl fun v hv => ?_
        subst hv
        cases hq : holdsB l[i] x y with
        | true =>
          simp -implicitDefEqProofs only [runs, List.getD_cons_zero, List.getD_cons_succ, List.set_cons_zero, List.set_cons_succ, List.getElem?_cons_zero, List.getElem?_cons_succ, Option.map_some, if_true, ite_true, if_false, ite_false, List.length_cons, List.length_nil, List.drop_zero, List.drop_succ_cons, List.take_succ_cons, List.take_zero, List.head?_cons, List.nil_append, List.cons_append, List.append_nil, List.all_cons, List.all_nil, Option.getD_some, List.map_cons, List.map_nil, List.size_toArray, eq_self, Nat.reduceAdd, Nat.reduceEqDiff, Nat.reduceLT, Nat.reduceLeDiff, Nat.reduceSub, List.replicate_succ, List.replicate_zero, Nat.reduceMul, List.isEmpty_cons, List.isEmpty_nil, Int.cast_ofNat_Int, Int.reduceLT, Int.reduceLE, Int.reduceToNat, Int.toNat_zero, Int.toNat_natCast, Int.natCast_nonneg, Int.reduceGE, Int.reduceGT, facts, fr6b, z4, shs_len, hlt', hrow, Sh.av, q0, hq, Bool.not_true, Bool.not_false, beq_self_eq_true, Bool.true_beq, Bool.false_beq]
          try simp -implicitDefEqProofs only [fins, List.take_succ_cons, List.take_zero, List.map_cons, List.map_nil, List.all_cons, List.all_nil]
          rw [hq] at hB
          simp only [hitR, hn, find_hit hlt hB hprev, placeV]
        | false =>
          simp -implicitDefEqProofs only [runs, List.getD_cons_zero, List.getD_cons_succ, List.set_cons_zero, List.set_cons_succ, List.getElem?_cons_zero, List.getElem?_cons_succ, Option.map_some, if_true, ite_true, if_false, ite_false, List.length_cons, List.length_nil, List.drop_zero, List.drop_succ_cons, List.take_succ_cons, List.take_zero, List.head?_cons, List.nil_append, List.cons_append, List.append_nil, List.all_cons, List.all_nil, Option.getD_some, List.map_cons, List.map_nil, List.size_toArray, eq_self, Nat.reduceAdd, Nat.reduceEqDiff, Nat.reduceLT, Nat.reduceLeDiff, Nat.reduceSub, List.replicate_succ, List.replicate_zero, Nat.reduceMul, List.isEmpty_cons, List.isEmpty_nil, Int.cast_ofNat_Int, Int.reduceLT, Int.reduceLE, Int.reduceToNat, Int.toNat_zero, Int.toNat_natCast, Int.natCast_nonneg, Int.reduceGE, Int.reduceGT, facts, fr6b, z4, shs_len, hlt', hrow, Sh.av, q0, hq, Bool.not_true, Bool.not_false, beq_self_eq_true, Bool.true_beq, Bool.false_beq]
          rw [hq] at hB
          refine ⟨l.length - (i + 1), by omega, i + 1, _, by omega, rfl, prev_succ hlt hB hprev, ?_, rfl⟩
          rw [hinc]
      | false =>
      cases q1 : (l[i].k == 5) with
      | true =>
        have hB : hitB [4, 5, 6, 8, 9, 11] x y l[i] = holdsB l[i] x y := by simp only [hitB, List.any_cons, List.any_nil, q0, q1, Bool.false_or, Bool.true_or, Bool.true_and]
        simp -implicitDefEqProofs only [runs, List.getD_cons_zero, List.getD_cons_succ, List.set_cons_zero, List.set_cons_succ, List.getElem?_cons_zero, List.getElem?_cons_succ, Option.map_some, if_true, ite_true, if_false, ite_false, List.length_cons, List.length_nil, List.drop_zero, List.drop_succ_cons, List.take_succ_cons, List.take_zero, List.head?_cons, List.nil_append, List.cons_append, List.append_nil, List.all_cons, List.all_nil, Option.getD_some, List.map_cons, List.map_nil, List.size_toArray, eq_self, Nat.reduceAdd, Nat.reduceEqDiff, Nat.reduceLT, Nat.reduceLeDiff, Nat.reduceSub, List.replicate_succ, List.replicate_zero, Nat.reduceMul, List.isEmpty_cons, List.isEmpty_nil, Int.cast_ofNat_Int, Int.reduceLT, Int.reduceLE, Int.reduceToNat, Int.toNat_zero, Int.toNat_natCast, Int.natCast_nonneg, Int.reduceGE, Int.reduceGT, facts, fr6b, z4, shs_len, hlt', hrow, Sh.av, q0, q1, Bool.not_true, Bool.not_false, beq_self_eq_true, Bool.true_beq, Bool.false_beq]
        refine PC.useX hF (refHolds_ok l[i] x y) rfl fun v hv => ?_
        subst hv
        cases hq : holdsB l[i] x y with
        | true =>
          simp -implicitDefEqProofs only [runs, List.getD_cons_zero, List.getD_cons_succ, List.set_cons_zero, List.set_cons_succ, List.getElem?_cons_zero, List.getElem?_cons_succ, Option.map_some, if_true, ite_true, if_false, ite_false, List.length_cons, List.length_nil, List.drop_zero, List.drop_succ_cons, List.take_succ_cons, List.take_zero, List.head?_cons, List.nil_append, List.cons_append, List.append_nil, List.all_cons, List.all_nil, Option.getD_some, List.map_cons, List.map_nil, List.size_toArray, eq_self, Nat.reduceAdd, Nat.reduceEqDiff, Nat.reduceLT, Nat.reduceLeDiff, Nat.reduceSub, List.replicate_succ, List.replicate_zero, Nat.reduceMul, List.isEmpty_cons, List.isEmpty_nil, Int.cast_ofNat_Int, Int.reduceLT, Int.reduceLE, Int.reduceToNat, Int.toNat_zero, Int.toNat_natCast, Int.natCast_nonneg, Int.reduceGE, Int.reduceGT, facts, fr6b, z4, shs_len, hlt', hrow, Sh.av, q0, q1, hq, Bool.not_true, Bool.not_false, beq_self_eq_true, Bool.true_beq, Bool.false_beq]
          try simp -implicitDefEqProofs only [fins, List.take_succ_cons, List.take_zero, List.map_cons, List.map_nil, List.all_cons, List.all_nil]
          rw [hq] at hB
          simp only [hitR, hn, find_hit hlt hB hprev, placeV]
        | false =>
          simp -implicitDefEqProofs only [runs, List.getD_cons_zero, List.getD_cons_succ, List.set_cons_zero, List.set_cons_succ, List.getElem?_cons_zero, List.getElem?_cons_succ, Option.map_some, if_true, ite_true, if_false, ite_false, List.length_cons, List.length_nil, List.drop_zero, List.drop_succ_cons, List.take_succ_cons, List.take_zero, List.head?_cons, List.nil_append, List.cons_append, List.append_nil, List.all_cons, List.all_nil, Option.getD_some, List.map_cons, List.map_nil, List.size_toArray, eq_self, Nat.reduceAdd, Nat.reduceEqDiff, Nat.reduceLT, Nat.reduceLeDiff, Nat.reduceSub, List.replicate_succ, List.replicate_zero, Nat.reduceMul, List.isEmpty_cons, List.isEmpty_nil, Int.cast_ofNat_Int, Int.reduceLT, Int.reduceLE, Int.reduceToNat, Int.toNat_zero, Int.toNat_natCast, Int.natCast_nonneg, Int.reduceGE, Int.reduceGT, facts, fr6b, z4, shs_len, hlt', hrow, Sh.av, q0, q1, hq, Bool.not_true, Bool.not_false, beq_self_eq_true, Bool.true_beq, Bool.false_beq]
          rw [hq] at hB
          refine ⟨l.length - (i + 1), by omega, i + 1, _, by omega, rfl, prev_succ hlt hB hprev, ?_, rfl⟩
          rw [hinc]
      | false =>
      cases q2 : (l[i].k == 6) with
      | true =>
        have hB : hitB [4, 5, 6, 8, 9, 11] x y l[i] = holdsB l[i] x y := by simp only [hitB, List.any_cons, List.any_nil, q0, q1, q2, Bool.false_or, Bool.true_or, Bool.true_and]
        simp -implicitDefEqProofs only [runs, List.getD_cons_zero, List.getD_cons_succ, List.set_cons_zero, List.set_cons_succ, List.getElem?_cons_zero, List.getElem?_cons_succ, Option.map_some, if_true, ite_true, if_false, ite_false, List.length_cons, List.length_nil, List.drop_zero, List.drop_succ_cons, List.take_succ_cons, List.take_zero, List.head?_cons, List.nil_append, List.cons_append, List.append_nil, List.all_cons, List.all_nil, Option.getD_some, List.map_cons, List.map_nil, List.size_toArray, eq_self, Nat.reduceAdd, Nat.reduceEqDiff, Nat.reduceLT, Nat.reduceLeDiff, Nat.reduceSub, List.replicate_succ, List.replicate_zero, Nat.reduceMul, List.isEmpty_cons, List.isEmpty_nil, Int.cast_ofNat_Int, Int.reduceLT, Int.reduceLE, Int.reduceToNat, Int.toNat_zero, Int.toNat_natCast, Int.natCast_nonneg, Int.reduceGE, Int.reduceGT, facts, fr6b, z4, shs_len, hlt', hrow, Sh.av, q0, q1, q2, Bool.not_true, Bool.not_false, beq_self_eq_true, Bool.true_beq, Bool.false_beq]
        refine PC.useX hF (refHolds_ok l[i] x y) rfl fun v hv => ?_
        subst hv
        cases hq : holdsB l[i] x y with
        | true =>
          simp -implicitDefEqProofs only [runs, List.getD_cons_zero, List.getD_cons_succ, List.set_cons_zero, List.set_cons_succ, List.getElem?_cons_zero, List.getElem?_cons_succ, Option.map_some, if_true, ite_true, if_false, ite_false, List.length_cons, List.length_nil, List.drop_zero, List.drop_succ_cons, List.take_succ_cons, List.take_zero, List.head?_cons, List.nil_append, List.cons_append, List.append_nil, List.all_cons, List.all_nil, Option.getD_some, List.map_cons, List.map_nil, List.size_toArray, eq_self, Nat.reduceAdd, Nat.reduceEqDiff, Nat.reduceLT, Nat.reduceLeDiff, Nat.reduceSub, List.replicate_succ, List.replicate_zero, Nat.reduceMul, List.isEmpty_cons, List.isEmpty_nil, Int.cast_ofNat_Int, Int.reduceLT, Int.reduceLE, Int.reduceToNat, Int.toNat_zero, Int.toNat_natCast, Int.natCast_nonneg, Int.reduceGE, Int.reduceGT, facts, fr6b, z4, shs_len, hlt', hrow, Sh.av, q0, q1, q2, hq, Bool.not_true, Bool.not_false, beq_self_eq_true, Bool.true_beq, Bool.false_beq]
          try simp -implicitDefEqProofs only [fins, List.take_succ_cons, List.take_zero, List.map_cons, List.map_nil, List.all_cons, List.all_nil]
          rw [hq] at hB
          simp only [hitR, hn, find_hit hlt hB hprev, placeV]
        | false =>
          simp -implicitDefEqProofs only [runs, List.getD_cons_zero, List.getD_cons_succ, List.set_cons_zero, List.set_cons_succ, List.getElem?_cons_zero, List.getElem?_cons_succ, Option.map_some, if_true, ite_true, if_false, ite_false, List.length_cons, List.length_nil, List.drop_zero, List.drop_succ_cons, List.take_succ_cons, List.take_zero, List.head?_cons, List.nil_append, List.cons_append, List.append_nil, List.all_cons, List.all_nil, Option.getD_some, List.map_cons, List.map_nil, List.size_toArray, eq_self, Nat.reduceAdd, Nat.reduceEqDiff, Nat.reduceLT, Nat.reduceLeDiff, Nat.reduceSub, List.replicate_succ, List.replicate_zero, Nat.reduceMul, List.isEmpty_cons, List.isEmpty_nil, Int.cast_ofNat_Int, Int.reduceLT, Int.reduceLE, Int.reduceToNat, Int.toNat_zero, Int.toNat_natCast, Int.natCast_nonneg, Int.reduceGE, Int.reduceGT, facts, fr6b, z4, shs_len, hlt', hrow, Sh.av, q0, q1, q2, hq, Bool.not_true, Bool.not_false, beq_self_eq_true, Bool.true_beq, Bool.false_beq]
          rw [hq] at hB
          refine ⟨l.length - (i + 1), by omega, i + 1, _, by omega, rfl, prev_succ hlt hB hprev, ?_, rfl⟩
          rw [hinc]
      | false =>
      cases q3 : (l[i].k == 8) with
      | true =>
        have hB : hitB [4, 5, 6, 8, 9, 11] x y l[i] = holdsB l[i] x y := by simp only [hitB, List.any_cons, List.any_nil, q0, q1, q2, q3, Bool.false_or, Bool.true_or, Bool.true_and]
        simp -implicitDefEqProofs only [runs, List.getD_cons_zero, List.getD_cons_succ, List.set_cons_zero, List.set_cons_succ, List.getElem?_cons_zero, List.getElem?_cons_succ, Option.map_some, if_true, ite_true, if_false, ite_false, List.length_cons, List.length_nil, List.drop_zero, List.drop_succ_cons, List.take_succ_cons, List.take_zero, List.head?_cons, List.nil_append, List.cons_append, List.append_nil, List.all_cons, List.all_nil, Option.getD_some, List.map_cons, List.map_nil, List.size_toArray, eq_self, Nat.reduceAdd, Nat.reduceEqDiff, Nat.reduceLT, Nat.reduceLeDiff, Nat.reduceSub, List.replicate_succ, List.replicate_zero, Nat.reduceMul, List.isEmpty_cons, List.isEmpty_nil, Int.cast_ofNat_Int, Int.reduceLT, Int.reduceLE, Int.reduceToNat, Int.toNat_zero, Int.toNat_natCast, Int.natCast_nonneg, Int.reduceGE, Int.reduceGT, facts, fr6b, z4, shs_len, hlt', hrow, Sh.av, q0, q1, q2, q3, Bool.not_true, Bool.not_false, beq_self_eq_true, Bool.true_beq, Bool.false_beq]
        refine PC.useX hF (refHolds_ok l[i] x y) rfl fun v hv => ?_
        subst hv
        cases hq : holdsB l[i] x y with
        | true =>
          simp -implicitDefEqProofs only [runs, List.getD_cons_zero, List.getD_cons_succ, List.set_cons_zero, List.set_cons_succ, List.getElem?_cons_zero, List.getElem?_cons_succ, Option.map_some, if_true, ite_true, if_false, ite_false, List.length_cons, List.length_nil, List.drop_zero, List.drop_succ_cons, List.take_succ_cons, List.take_zero, List.head?_cons, List.nil_append, List.cons_append, List.append_nil, List.all_cons, List.all_nil, Option.getD_some, List.map_cons, List.map_nil, List.size_toArray, eq_self, Nat.reduceAdd, Nat.reduceEqDiff, Nat.reduceLT, Nat.reduceLeDiff, Nat.reduceSub, List.replicate_succ, List.replicate_zero, Nat.reduceMul, List.isEmpty_cons, List.isEmpty_nil, Int.cast_ofNat_Int, Int.reduceLT, Int.reduceLE, Int.reduceToNat, Int.toNat_zero, Int.toNat_natCast, Int.natCast_nonneg, Int.reduceGE, Int.reduceGT, facts, fr6b, z4, shs_len, hlt', hrow, Sh.av, q0, q1, q2, q3, hq, Bool.not_true, Bool.not_false, beq_self_eq_true, Bool.true_beq, Bool.false_beq]
          try simp -implicitDefEqProofs only [fins, List.take_succ_cons, List.take_zero, List.map_cons, List.map_nil, List.all_cons, List.all_nil]
          rw [hq] at hB
          simp only [hitR, hn, find_hit hlt hB hprev, placeV]
        | false =>
          simp -implicitDefEqProofs only [runs, List.getD_cons_zero, List.getD_cons_succ, List.set_cons_zero, List.set_cons_succ, List.getElem?_cons_zero, List.getElem?_cons_succ, Option.map_some, if_true, ite_true, if_false, ite_false, List.length_cons, List.length_nil, List.drop_zero, List.drop_succ_cons, List.take_succ_cons, List.take_zero, List.head?_cons, List.nil_append, List.cons_append, List.append_nil, List.all_cons, List.all_nil, Option.getD_some, List.map_cons, List.map_nil, List.size_toArray, eq_self, Nat.reduceAdd, Nat.reduceEqDiff, Nat.reduceLT, Nat.reduceLeDiff, Nat.reduceSub, List.replicate_succ, List.replicate_zero, Nat.reduceMul, List.isEmpty_cons, List.isEmpty_nil, Int.cast_ofNat_Int, Int.reduceLT, Int.reduceLE, Int.reduceToNat, Int.toNat_zero, Int.toNat_natCast, Int.natCast_nonneg, Int.reduceGE, Int.reduceGT, facts, fr6b, z4, shs_len, hlt', hrow, Sh.av, q0, q1, q2, q3, hq, Bool.not_true, Bool.not_false, beq_self_eq_true, Bool.true_beq, Bool.false_beq]
          rw [hq] at hB
          refine ⟨l.length - (i + 1), by omega, i + 1, _, by omega, rfl, prev_succ hlt hB hprev, ?_, rfl⟩
          rw [hinc]
      | false =>
      cases q4 : (l[i].k == 9) with
      | true =>
        have hB : hitB [4, 5, 6, 8, 9, 11] x y l[i] = holdsB l[i] x y := by simp only [hitB, List.any_cons, List.any_nil, q0, q1, q2, q3, q4, Bool.false_or, Bool.true_or, Bool.true_and]
        simp -implicitDefEqProofs only [runs, List.getD_cons_zero, List.getD_cons_succ, List.set_cons_zero, List.set_cons_succ, List.getElem?_cons_zero, List.getElem?_cons_succ, Option.map_some, if_true, ite_true, if_false, ite_false, List.length_cons, List.length_nil, List.drop_zero, List.drop_succ_cons, List.take_succ_cons, List.take_zero, List.head?_cons, List.nil_append, List.cons_append, List.append_nil, List.all_cons, List.all_nil, Option.getD_some, List.map_cons, List.map_nil, List.size_toArray, eq_self, Nat.reduceAdd, Nat.reduceEqDiff, Nat.reduceLT, Nat.reduceLeDiff, Nat.reduceSub, List.replicate_succ, List.replicate_zero, Nat.reduceMul, List.isEmpty_cons, List.isEmpty_nil, Int.cast_ofNat_Int, Int.reduceLT, Int.reduceLE, Int.reduceToNat, Int.toNat_zero, Int.toNat_natCast, Int.natCast_nonneg, Int.reduceGE, Int.reduceGT, facts, fr6b, z4, shs_len, hlt', hrow, Sh.av, q0, q1, q2, q3, q4, Bool.not_true, Bool.not_false, beq_self_eq_true, Bool.true_beq, Bool.false_beq]
        refine PC.useX hF (refHolds_ok l[i] x y) rfl fun v hv => ?_
        subst hv
        cases hq : holdsB l[i] x y with
        | true =>
          simp -implicitDefEqProofs only [runs, List.getD_cons_zero, List.getD_cons_succ, List.set_cons_zero, List.set_cons_succ, List.getElem?_cons_zero, List.getElem?_cons_succ, Option.map_some, if_true, ite_true, if_false, ite_false, List.length_cons, List.length_nil, List.drop_zero, List.drop_succ_cons, List.take_succ_cons, List.take_zero, List.head?_cons, List.nil_append, List.cons_append, List.append_nil, List.all_cons, List.all_nil, Option.getD_some, List.map_cons, List.map_nil, List.size_toArray, eq_self, Nat.reduceAdd, Nat.reduceEqDiff, Nat.reduceLT, Nat.reduceLeDiff, Nat.reduceSub, List.replicate_succ, List.replicate_zero, Nat.reduceMul, List.isEmpty_cons, List.isEmpty_nil, Int.cast_ofNat_Int, Int.reduceLT, Int.reduceLE, Int.reduceToNat, Int.toNat_zero, Int.toNat_natCast, Int.natCast_nonneg, Int.reduceGE, Int.reduceGT, facts, fr6b, z4, shs_len, hlt', hrow, Sh.av, q0, q1, q2, q3, q4, hq, Bool.not_true, Bool.not_false, beq_self_eq_true, Bool.true_beq, Bool.false_beq]
          try simp -implicitDefEqProofs only [fins, List.take_succ_cons, List.take_zero, List.map_cons, List.map_nil, List.all_cons, List.all_nil]
          rw [hq] at hB
          simp only [hitR, hn, find_hit hlt hB hprev, placeV]
        | false =>
          simp -implicitDefEqProofs only [runs, List.getD_cons_zero, List.getD_cons_succ, List.set_cons_zero, List.set_cons_succ, List.getElem?_cons_zero, List.getElem?_cons_succ, Option.map_some, if_true, ite_true, if_false, ite_false, List.length_cons, List.length_nil, List.drop_zero, List.drop_succ_cons, List.take_succ_cons, List.take_zero, List.head?_cons, List.nil_append, List.cons_append, List.append_nil, List.all_cons, List.all_nil, Option.getD_some, List.map_cons, List.map_nil, List.size_toArray, eq_self, Nat.reduceAdd, Nat.reduceEqDiff, Nat.reduceLT, Nat.reduceLeDiff, Nat.reduceSub, List.replicate_succ, List.replicate_zero, Nat.reduceMul, List.isEmpty_cons, List.isEmpty_nil, Int.cast_ofNat_Int, Int.reduceLT, Int.reduceLE, Int.reduceToNat, Int.toNat_zero, Int.toNat_natCast, Int.natCast_nonneg, Int.reduceGE, Int.reduceGT, facts, fr6b, z4, shs_len, hlt', hrow, Sh.av, q0, q1, q2, q3, q4, hq, Bool.not_true, Bool.not_false, beq_self_eq_true, Bool.true_beq, Bool.false_beq]
          rw [hq] at hB
          refine ⟨l.length - (i + 1), by omega, i + 1, _, by omega, rfl, prev_succ hlt hB hprev, ?_, rfl⟩
          rw [hinc]
      | false =>
      cases q5 : (l[i].k == 11) with
      | true =>
        have hB : hitB [4, 5, 6, 8, 9, 11] x y l[i] = holdsB l[i] x y := by simp only [hitB, List.any_cons, List.any_nil, q0, q1, q2, q3, q4, q5, Bool.false_or, Bool.true_or, Bool.true_and]
        simp -implicitDefEqProofs only [runs, List.getD_cons_zero, List.getD_cons_succ, List.set_cons_zero, List.set_cons_succ, List.getElem?_cons_zero, List.getElem?_cons_succ, Option.map_some, if_true, ite_true, if_false, ite_false, List.length_cons, List.length_nil, List.drop_zero, List.drop_succ_cons, List.take_succ_cons, List.take_zero, List.head?_cons, List.nil_append, List.cons_append, List.append_nil, List.all_cons, List.all_nil, Option.getD_some, List.map_cons, List.map_nil, List.size_toArray, eq_self, Nat.reduceAdd, Nat.reduceEqDiff, Nat.reduceLT, Nat.reduceLeDiff, Nat.reduceSub, List.replicate_succ, List.replicate_zero, Nat.reduceMul, List.isEmpty_cons, List.isEmpty_nil, Int.cast_ofNat_Int, Int.reduceLT, Int.reduceLE, Int.reduceToNat, Int.toNat_zero, Int.toNat_natCast, Int.natCast_nonneg, Int.reduceGE, Int.reduceGT, facts, fr6b, z4, shs_len, hlt', hrow, Sh.av, q0, q1, q2, q3, q4, q5, Bool.not_true, Bool.not_false, beq_self_eq_true, Bool.true_beq, Bool.false_beq]
        refine PC.useX hF (refHolds_ok l[i] x y) rfl fun v hv => ?_
        subst hv
        cases hq : holdsB l[i] x y with
        | true =>
          simp -implicitDefEqProofs only [runs, List.getD_cons_zero, List.getD_cons_succ, List.set_cons_zero, List.set_cons_succ, List.getElem?_cons_zero, List.getElem?_cons_succ, Option.map_some, if_true, ite_true, if_false, ite_false, List.length_cons, List.length_nil, List.drop_zero, List.drop_succ_cons, List.take_succ_cons, List.take_zero, List.head?_cons, List.nil_append, List.cons_append, List.append_nil, List.all_cons, List.all_nil, Option.getD_some, List.map_cons, List.map_nil, List.size_toArray, eq_self, Nat.reduceAdd, Nat.reduceEqDiff, Nat.reduceLT, Nat.reduceLeDiff, Nat.reduceSub, List.replicate_succ, List.replicate_zero, Nat.reduceMul, List.isEmpty_cons, List.isEmpty_nil, Int.cast_ofNat_Int, Int.reduceLT, Int.reduceLE, Int.reduceToNat, Int.toNat_zero, Int.toNat_natCast, Int.natCast_nonneg, Int.reduceGE, Int.reduceGT, facts, fr6b, z4, shs_len, hlt', hrow, Sh.av, q0, q1, q2, q3, q4, q5, hq, Bool.not_true, Bool.not_false, beq_self_eq_true, Bool.true_beq, Bool.false_beq]
          try simp -implicitDefEqProofs only [fins, List.take_succ_cons, List.take_zero, List.map_cons, List.map_nil, List.all_cons, List.all_nil]
          rw [hq] at hB
          simp only [hitR, hn, find_hit hlt hB hprev, placeV]
        | false =>
          simp -implicitDefEqProofs only [runs, List.getD_cons_zero, List.getD_cons_succ, List.set_cons_zero, List.set_cons_succ, List.getElem?_cons_zero, List.getElem?_cons_succ, Option.map_some, if_true, ite_true, if_false, ite_false, List.length_cons, List.length_nil, List.drop_zero, List.drop_succ_cons, List.take_succ_cons, List.take_zero, List.head?_cons, List.nil_append, List.cons_append, List.append_nil, List.all_cons, List.all_nil, Option.getD_some, List.map_cons, List.map_nil, List.size_toArray, eq_self, Nat.reduceAdd, Nat.reduceEqDiff, Nat.reduceLT, Nat.reduceLeDiff, Nat.reduceSub, List.replicate_succ, List.replicate_zero, Nat.reduceMul, List.isEmpty_cons, List.isEmpty_nil, Int.cast_ofNat_Int, Int.reduceLT, Int.reduceLE, Int.reduceToNat, Int.toNat_zero, Int.toNat_natCast, Int.natCast_nonneg, Int.reduceGE, Int.reduceGT, facts, fr6b, z4, shs_len, hlt', hrow, Sh.av, q0, q1, q2, q3, q4, q5, hq, Bool.not_true, Bool.not_false, beq_self_eq_true, Bool.true_beq, Bool.false_beq]
          rw [hq] at hB
          refine ⟨l.length - (i + 1), by omega, i + 1, _, by omega, rfl, prev_succ hlt hB hprev, ?_, rfl⟩
          rw [hinc]
      | false =>
      have hB : hitB [4, 5, 6, 8, 9, 11] x y l[i] = false := by simp only [hitB, List.any_cons, List.any_nil, q0, q1, q2, q3, q4, q5, Bool.or_self, Bool.false_and]
      simp -implicitDefEqProofs only [runs, List.getD_cons_zero, List.getD_cons_succ, List.set_cons_zero, List.set_cons_succ, List.getElem?_cons_zero, List.getElem?_cons_succ, Option.map_some, if_true, ite_true, if_false, ite_false, List.length_cons, List.length_nil, List.drop_zero, List.drop_succ_cons, List.take_succ_cons, List.take_zero, List.head?_cons, List.nil_append, List.cons_append, List.append_nil, List.all_cons, List.all_nil, Option.getD_some, List.map_cons, List.map_nil, List.size_toArray, eq_self, Nat.reduceAdd, Nat.reduceEqDiff, Nat.reduceLT, Nat.reduceLeDiff, Nat.reduceSub, List.replicate_succ, List.replicate_zero, Nat.reduceMul, List.isEmpty_cons, List.isEmpty_nil, Int.cast_ofNat_Int, Int.reduceLT, Int.reduceLE, Int.reduceToNat, Int.toNat_zero, Int.toNat_natCast, Int.natCast_nonneg, Int.reduceGE, Int.reduceGT, facts, fr6b, z4, shs_len, hlt', hrow, Sh.av, q0, q1, q2, q3, q4, q5, Bool.not_true, Bool.not_false, beq_self_eq_true, Bool.true_beq, Bool.false_beq]
      refine ⟨l.length - (i + 1), by omega, i + 1, _, by omega, rfl, prev_succ hlt hB hprev, ?_, rfl⟩
      rw [hinc]
    · have hlt' : decide ((i : Int) < (l.length : Nat)) = false := decide_eq_false (by omega)
      have hn2 : l.find? (hitB [4, 5, 6, 8, 9, 11] x y) = none := find_none (fun j hj _ => hprev j hj (by omega))
      simp -implicitDefEqProofs only [runs, List.getD_cons_zero, List.getD_cons_succ, List.set_cons_zero, List.set_cons_succ, List.getElem?_cons_zero, List.getElem?_cons_succ, Option.map_some, if_true, ite_true, if_false, ite_false, List.length_cons, List.length_nil, List.drop_zero, List.drop_succ_cons, List.take_succ_cons, List.take_zero, List.head?_cons, List.nil_append, List.cons_append, List.append_nil, List.all_cons, List.all_nil, Option.getD_some, List.map_cons, List.map_nil, List.size_toArray, eq_self, Nat.reduceAdd, Nat.reduceEqDiff, Nat.reduceLT, Nat.reduceLeDiff, Nat.reduceSub, List.replicate_succ, List.replicate_zero, Nat.reduceMul, List.isEmpty_cons, List.isEmpty_nil, Int.cast_ofNat_Int, Int.reduceLT, Int.reduceLE, Int.reduceToNat, Int.toNat_zero, Int.toNat_natCast, Int.natCast_nonneg, Int.reduceGE, Int.reduceGT, facts, fr6b, z4, shs_len, hlt']
      try simp -implicitDefEqProofs only [fins, List.take_succ_cons, List.take_zero, List.map_cons, List.map_nil, List.all_cons, List.all_nil]
      simp only [hitR, hn, hn2]
end Go.Proofs.Pv
