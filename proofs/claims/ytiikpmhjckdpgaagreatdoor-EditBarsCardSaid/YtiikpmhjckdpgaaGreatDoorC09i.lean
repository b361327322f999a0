/-
  slices.Insert at events.
  slices.Replace at events.
  Layer 9's edits: small questions; the cell of a place; copies of a part of the events.
  Conditions: none but those that each statement names.
-/
import Derived.Test.YtiikpmhjckdpgaaGreatDoorC09e
import Derived.Test.YtiikpmhjckdpgaaGreatDoorPvBF
import Derived.Test.YtiikpmhjckdpgaaGreatDoorD08
namespace Go.Proofs.Pv
open Go Go.Proofs
set_option linter.unusedSimpArgs false
set_option linter.unusedVariables false
theorem hset_head {k : Nat} {b b' : Blk} {r : List (Nat × Blk)} : hset ((k, b) :: r) k b' = (k, b') :: r := by simp [hset]
end Go.Proofs.Pv
namespace Go.Proofs.Pv
open Go Go.Proofs
set_option linter.unusedSimpArgs false
set_option linter.unusedVariables false
set_option maxRecDepth 100000 in
set_option maxHeartbeats 4000000 in
theorem rep4 (CA CM CB CV P : List AV) (a d b m c : Nat) (hA : CA.length = a * 9) (hM : CM.length = d * 9) (hB : CB.length = b * 9) (hPl : P.length = c * 9 - (a + d + b) * 9) (oA : CA.all AV.one = true) (oM : CM.all AV.one = true) (oB : CB.all AV.one = true) (oV : CV.all AV.one = true) (hbd : a + d + b + m + 1 ≤ 1000000) (hc : a + d + b ≤ c) (hV : CV.length = (m + 1) * 9) (hd : 0 < d) (hb : b = 0) (hcap : a + (m + 1) ≤ c) (hmd : ¬ m + 1 < d) (rA : ∀ f, CA.map (AV.ren f) = CA) (rB : ∀ f, CB.map (AV.ren f) = CB) (rV : ∀ f, CV.map (AV.ren f) = CV) :
  Wide Tryz.prog gl 48 [.mcap 0 0 (a + d + b) c 9, .int .i64 (a : Nat), .int .i64 ((a + d : Nat) : Int), .msl 1 0 (m + 1) 9] [(0, .cells (CA ++ CM ++ CB ++ P)), (1, .cells CV)] 2 (.msl 0 0 (a + (m + 1) + b) 9) [(0, CA ++ CV ++ CB)] 1 := by
 subst hb
 have had : (((a : Nat) : Int) == ((a + d : Nat) : Int)) = false := by simp; omega
 have hTA : List.take (a * 9) (CA ++ CM ++ CB ++ P) = CA := by rw [List.append_assoc, List.append_assoc, List.take_left' hA]
 have hTV : List.take ((m + 1) * 9) CV = CV := List.take_of_length_le (by omega)
 refine Wide.intro 1 mix names (fn := Tryz.f48) Tryz.func48 rfl fun F hF hro W => ?_
 simp -implicitDefEqProofs only [Tryz.ntmps48, Tryz.results48, entL, Nat.reduceAdd, Nat.reduceSub, ownA_zero, ownH_zero, hC_cons, hC_nil]
 repeat' (first
  | simp -implicitDefEqProofs (disch := first | assumption | omega) only [runsY, lstY, facts, if_pos, Nat.reduceAdd, Nat.reduceEqDiff, Nat.reduceLT, Int.reduceLE, Option.map_none, bnd, Nat.zero_mul, Nat.sub_zero, Nat.add_sub_cancel_left, xcells, aappM_mcap, aappC, splice, List.length_append, *]
  | ((with_reducible refine condK_dec (fun _ => ?_) (fun _ => ?_)) <;> try omega))
 have hCB : CB = [] := List.eq_nil_of_length_eq_zero (by omega)
 subst hCB
 refine WideK.one (cs := CA ++ (CV ++ [])) (by simp only [hget, if_true, List.append_nil, List.append_assoc]; rfl) (by simp only [List.append_nil, List.map_append, rA, rV])
end Go.Proofs.Pv
namespace Go.Proofs.Pv
open Go Go.Proofs
set_option linter.unusedSimpArgs false
set_option linter.unusedVariables false
theorem there_ok (n many : Int) : PC Tryz.prog gl 45 [.int .i64 n, .int .i64 many] (fun v => v = .bool (decide (0 ≤ n ∧ n < many))) := by
 (refine PC.introZ 1 mix (fn := Tryz.f45) Tryz.func45 rfl (names 45 _ Tryz.func45) fun F hF hro W => ?_; simp -implicitDefEqProofs only [Tryz.ntmps45, Tryz.results45, entL, Nat.reduceAdd, Nat.reduceSub])
 repeat' (first
  | simp -implicitDefEqProofs (disch := first | assumption | omega) only [runsY, lstY, Nat.reduceAdd, *]
  | ((with_reducible refine sstep_dec (fun _ => ?_) (fun _ => ?_)) <;> try omega))
 all_goals simp_all
theorem span_ok (a b c : Int) (ha : -9223372036854775808 ≤ a ∧ a ≤ 9223372036854775807) (hc : 0 ≤ c ∧ c ≤ 1000000) : PC Tryz.prog gl 46 [.int .i64 a, .int .i64 b, .int .i64 c] (fun v => v = .bool (decide (0 ≤ a ∧ 0 ≤ b ∧ a ≤ c ∧ b ≤ c - a))) := by
 by_cases h : 0 ≤ a ∧ a ≤ c
 ·have hw : IntKind.i64.wrap (c - a) = c - a := wrap_in (by omega)
  (refine PC.introZ 1 mix (fn := Tryz.f46) Tryz.func46 rfl (names 46 _ Tryz.func46) fun F hF hro W => ?_; simp -implicitDefEqProofs only [Tryz.ntmps46, Tryz.results46, entL, Nat.reduceAdd, Nat.reduceSub])
  repeat' (first
  | simp -implicitDefEqProofs (disch := first | assumption | omega) only [runsY, lstY, Nat.reduceAdd, *]
  | ((with_reducible refine sstep_dec (fun _ => ?_) (fun _ => ?_)) <;> try omega))
  all_goals simp_all
 ·(refine PC.introZ 1 mix (fn := Tryz.f46) Tryz.func46 rfl (names 46 _ Tryz.func46) fun F hF hro W => ?_; simp -implicitDefEqProofs only [Tryz.ntmps46, Tryz.results46, entL, Nat.reduceAdd, Nat.reduceSub])
  repeat' (first
  | simp -implicitDefEqProofs (disch := first | assumption | omega) only [runsY, lstY, Nat.reduceAdd, *]
  | ((with_reducible refine sstep_dec (fun _ => ?_) (fun _ => ?_)) <;> try omega))
  all_goals simp_all
  all_goals omega
end Go.Proofs.Pv
