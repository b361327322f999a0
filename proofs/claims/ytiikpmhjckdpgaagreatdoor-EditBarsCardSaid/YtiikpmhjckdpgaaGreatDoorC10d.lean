/-
  slices.Delete, at lists that may change.
  slices.Delete, at lists that may change.
  slices.Delete, at lists that may change.
  Conditions: none but those that each statement names.
-/
import Derived.Test.YtiikpmhjckdpgaaGreatDoorC09i
namespace Go.Proofs.Pv
open Go Go.Proofs
set_option linter.unusedSimpArgs false
set_option linter.unusedVariables false
set_option maxRecDepth 100000 in
set_option maxHeartbeats 4000000 in
theorem delABa (CA CM CB P : List AV) (a d b c : Nat) (hA : CA.length = a * 14) (hM : CM.length = d * 14) (hB : CB.length = b * 14) (hPl : P.length = c * 14 - (a + d + b) * 14) (oA : CA.all AV.one = true) (oM : CM.all AV.one = true) (oB : CB.all AV.one = true) (hbd : a + d + b ≤ 1000000) (hc : a + d + b ≤ c) (hd : d = 0) (rA : ∀ f, CA.map (AV.ren f) = CA) (rB : ∀ f, CB.map (AV.ren f) = CB) :
  Wide Tryz.prog gl 56 [.mcap 0 0 (a + d + b) c 14, .int .i64 (a : Nat), .int .i64 ((a + d : Nat) : Int)] [(0, .cells (CA ++ CM ++ CB ++ P))] 1 (.msl 0 0 (a + b) 14) [(0, CA ++ CB)] 1 := by
 subst hd
 refine Wide.intro 1 mix names (fn := Tryz.f56) Tryz.func56 rfl fun F hF hro W => ?_
 simp -implicitDefEqProofs only [Tryz.ntmps56, Tryz.results56, entL, Nat.reduceAdd, Nat.reduceSub, ownA_zero, ownH_zero, hC_cons, hC_nil]
 simp only [Nat.add_zero] at hc ⊢
 repeat' (first
  | simp -implicitDefEqProofs (maxSteps := 9999999) only [↓reduceIte, runsY, lstY, facts, Nat.reduceAdd, bnd, Option.isSome_some, *]
  | simp -implicitDefEqProofs (maxSteps := 9999999) (disch := first | assumption | omega) only [runsY, lstY, if_pos, Nat.reduceAdd, *])
 have hCM : CM = [] := List.eq_nil_of_length_eq_zero (by omega)
 subst hCM
 exact WideK.one (cs := CA ++ CB) (rest := P) (by simp [hget]) (by rw [List.map_append, rA, rB])
set_option maxRecDepth 100000 in
set_option maxHeartbeats 4000000 in
theorem delBBa (CA CM CB P : List AV) (a d b c : Nat) (hA : CA.length = a * 14) (hM : CM.length = d * 14) (hB : CB.length = b * 14) (hPl : P.length = c * 14 - (a + d + b) * 14) (oA : CA.all AV.one = true) (oM : CM.all AV.one = true) (oB : CB.all AV.one = true) (hbd : a + d + b ≤ 1000000) (hc : a + d + b ≤ c) (hd : 0 < d) (hb : b = 0) (rA : ∀ f, CA.map (AV.ren f) = CA) (rB : ∀ f, CB.map (AV.ren f) = CB) :
  Wide Tryz.prog gl 56 [.mcap 0 0 (a + d + b) c 14, .int .i64 (a : Nat), .int .i64 ((a + d : Nat) : Int)] [(0, .cells (CA ++ CM ++ CB ++ P))] 1 (.msl 0 0 (a + b) 14) [(0, CA ++ CB)] 1 := by
 subst hb
 have had : (((a : Nat) : Int) == ((a + d : Nat) : Int)) = false := by simp; omega
 have hTA : List.take (a * 14) (CA ++ CM ++ CB ++ P) = CA := by rw [List.append_assoc, List.append_assoc, List.take_left' hA]
 have hlen : (CA ++ CM ++ CB ++ P).length = c * 14 := by simp only [List.length_append, hA, hM, hB, hPl]; omega
 have hss : a + d - (a + d) = 0 := Nat.sub_self _
 refine Wide.intro 1 mix names (fn := Tryz.f56) Tryz.func56 rfl fun F hF hro W => ?_
 simp -implicitDefEqProofs only [Tryz.ntmps56, Tryz.results56, entL, Nat.reduceAdd, Nat.reduceSub, ownA_zero, ownH_zero, hC_cons, hC_nil]
 by_cases hx : ((a + d : Nat) : Int) < ((c : Nat) : Int)
 all_goals repeat' (first
  | simp -implicitDefEqProofs (maxSteps := 9999999) only [↓reduceIte, runsY, lstY, facts, Nat.reduceAdd, Int.reduceLE, Option.map_none, bnd, Nat.zero_mul, Nat.sub_zero, Option.isSome_some, *]
  | simp -implicitDefEqProofs (maxSteps := 9999999) (disch := first | assumption | omega) only [runsY, lstY, facts, if_pos, if_neg, Nat.reduceAdd, Nat.reduceEqDiff, Nat.reduceLT, Option.map_none, bnd, Nat.zero_mul, Nat.add_sub_cancel_left, xcells, aappM_mcap, aappC, splice, aclear, AV.keysOf, List.flatMap_cons, List.flatMap_nil, *]
  | ((with_reducible refine OZ_drawn ?_); refine OZ_drawW (by decide +kernel) ?_)
  | ((with_reducible refine wend ?_ ?_); · decide +kernel))
 all_goals have hCB : CB = [] := List.eq_nil_of_length_eq_zero (by omega)
 all_goals subst hCB
 all_goals exact WideK.one (cs := CA ++ []) (by simp only [hget, if_true, List.append_nil, List.append_assoc] <;> rfl) (by simp only [List.append_nil]; exact rA _)
set_option maxRecDepth 100000 in
set_option maxHeartbeats 4000000 in
theorem delCBa (CA CM CB P : List AV) (a d b c : Nat) (hA : CA.length = a * 14) (hM : CM.length = d * 14) (hB : CB.length = b * 14) (hPl : P.length = c * 14 - (a + d + b) * 14) (oA : CA.all AV.one = true) (oM : CM.all AV.one = true) (oB : CB.all AV.one = true) (hbd : a + d + b ≤ 1000000) (hc : a + d + b ≤ c) (hd : 0 < d) (hb : 0 < b) (rA : ∀ f, CA.map (AV.ren f) = CA) (rB : ∀ f, CB.map (AV.ren f) = CB) :
  Wide Tryz.prog gl 56 [.mcap 0 0 (a + d + b) c 14, .int .i64 (a : Nat), .int .i64 ((a + d : Nat) : Int)] [(0, .cells (CA ++ CM ++ CB ++ P))] 1 (.msl 0 0 (a + b) 14) [(0, CA ++ CB)] 1 := by
 skip
 have had : (((a : Nat) : Int) == ((a + d : Nat) : Int)) = false := by simp; omega
 have hTA : List.take (a * 14) (CA ++ CM ++ CB ++ P) = CA := by rw [List.append_assoc, List.append_assoc, List.take_left' hA]
 have hDA : List.drop ((a + d) * 14) (CA ++ CM ++ CB ++ P) = CB ++ P := by rw [List.append_assoc (CA ++ CM), List.drop_left' (by simp only [List.length_append]; omega)]
 have hTB : List.take (b * 14) (CB ++ P) = CB := List.take_left' hB
 have hn1 : a + d + b - (a + d) = b := by omega
 have hn2 : a + d + b - a = d + b := by omega
 have hn3 : a + d + b - (a + b) = d := by omega
 have hlen : (CA ++ CM ++ CB ++ P).length = c * 14 := by simp only [List.length_append, hA, hM, hB, hPl]; omega
 refine Wide.intro 1 mix names (fn := Tryz.f56) Tryz.func56 rfl fun F hF hro W => ?_
 simp -implicitDefEqProofs only [Tryz.ntmps56, Tryz.results56, entL, Nat.reduceAdd, Nat.reduceSub, ownA_zero, ownH_zero, hC_cons, hC_nil]
 repeat' (first
  | simp -implicitDefEqProofs (maxSteps := 9999999) only [↓reduceIte, runsY, lstY, facts, Nat.reduceAdd, Int.reduceLE, Option.map_none, bnd, Nat.zero_mul, Nat.sub_zero, Option.isSome_some, *]
  | simp -implicitDefEqProofs (maxSteps := 9999999) (disch := first | assumption | omega) only [runsY, lstY, facts, if_pos, if_neg, Nat.reduceAdd, Nat.reduceEqDiff, Nat.reduceLT, Option.map_none, bnd, xcells, aappM_mcap, aappC, splice, aclear, List.length_append, List.length_drop, AV.keysOf, List.flatMap_cons, List.flatMap_nil, *]
  | ((with_reducible refine OZ_drawn ?_); refine OZ_drawW (by decide +kernel) ?_)
  | ((with_reducible refine wend ?_ ?_); · decide +kernel))
 generalize List.drop (a * 14 + b * 14) (CA ++ CM ++ CB ++ P) = X
 rw [List.take_left' (l₁ := CA ++ CB) (by rw [List.length_append, hA, hB] <;> omega)]
 exact WideK.one (cs := CA ++ CB) (rest := _) (by simp only [hget, if_true, List.append_assoc] <;> rfl) (by rw [List.map_append, rA, rB])
theorem deleteBa_wide (CA CM CB : List AV) (a d b : Nat) (hA : CA.length = a * 14) (hM : CM.length = d * 14) (hB : CB.length = b * 14) (oA : CA.all AV.one = true) (oM : CM.all AV.one = true) (oB : CB.all AV.one = true) (rA : ∀ f, CA.map (AV.ren f) = CA) (rB : ∀ f, CB.map (AV.ren f) = CB) (hbd : a + d + b ≤ 1000000) :
  Wide Tryz.prog gl 56 [.msl 0 0 (a + d + b) 14, .int .i64 (a : Nat), .int .i64 ((a + d : Nat) : Int)] [(0, .cells (CA ++ CM ++ CB))] 1 (.msl 0 0 (a + b) 14) [(0, CA ++ CB)] 1 := by
 refine Wide.cap (cs := CA ++ CM ++ CB) (by simp [hget]) fun c hc => ?_
 rw [hset_head]
 have hPl : (List.replicate (c * 14 - (CA ++ CM ++ CB).length) AV.ud).length = c * 14 - (a + d + b) * 14 := by rw [List.length_replicate, List.length_append, List.length_append, hA, hM, hB]; omega
 rcases Nat.eq_zero_or_pos d with hd | hd
 ·exact delABa CA CM CB _ a d b c hA hM hB hPl oA oM oB hbd hc hd rA rB
 ·rcases Nat.eq_zero_or_pos b with hb | hb
  ·exact delBBa CA CM CB _ a d b c hA hM hB hPl oA oM oB hbd hc hd hb rA rB
  ·exact delCBa CA CM CB _ a d b c hA hM hB hPl oA oM oB hbd hc hd hb rA rB
end Go.Proofs.Pv
namespace Go.Proofs.Pv
open Go Go.Proofs
set_option linter.unusedSimpArgs false
set_option linter.unusedVariables false
set_option maxRecDepth 100000 in
set_option maxHeartbeats 4000000 in
theorem delACe (CA CM CB P : List AV) (a d b c : Nat) (hA : CA.length = a) (hM : CM.length = d) (hB : CB.length = b) (hPl : P.length = c - (a + d + b)) (oA : CA.all AV.one = true) (oM : CM.all AV.one = true) (oB : CB.all AV.one = true) (hbd : a + d + b ≤ 1000000) (hc : a + d + b ≤ c) (hd : d = 0) (rA : ∀ f, CA.map (AV.ren f) = CA) (rB : ∀ f, CB.map (AV.ren f) = CB) :
  Wide Tryz.prog gl 59 [.mcap 0 0 (a + d + b) c 1, .int .i64 (a : Nat), .int .i64 ((a + d : Nat) : Int)] [(0, .cells (CA ++ CM ++ CB ++ P))] 1 (.msl 0 0 (a + b) 1) [(0, CA ++ CB)] 1 := by
 subst hd
 refine Wide.intro 1 mix names (fn := Tryz.f59) Tryz.func59 rfl fun F hF hro W => ?_
 simp -implicitDefEqProofs only [Tryz.ntmps59, Tryz.results59, entL, Nat.reduceAdd, Nat.reduceSub, ownA_zero, ownH_zero, hC_cons, hC_nil]
 simp only [Nat.add_zero] at hc ⊢
 repeat' (first
  | simp -implicitDefEqProofs (maxSteps := 9999999) only [↓reduceIte, runsY, lstY, facts, Nat.reduceAdd, bnd, Option.isSome_some, *]
  | simp -implicitDefEqProofs (maxSteps := 9999999) (disch := first | assumption | omega) only [runsY, lstY, if_pos, Nat.reduceAdd, *])
 have hCM : CM = [] := List.eq_nil_of_length_eq_zero (by omega)
 subst hCM
 exact WideK.one (cs := CA ++ CB) (rest := P) (by simp [hget]) (by rw [List.map_append, rA, rB])
set_option maxRecDepth 100000 in
set_option maxHeartbeats 4000000 in
theorem delBCe (CA CM CB P : List AV) (a d b c : Nat) (hA : CA.length = a) (hM : CM.length = d) (hB : CB.length = b) (hPl : P.length = c - (a + d + b)) (oA : CA.all AV.one = true) (oM : CM.all AV.one = true) (oB : CB.all AV.one = true) (hbd : a + d + b ≤ 1000000) (hc : a + d + b ≤ c) (hd : 0 < d) (hb : b = 0) (rA : ∀ f, CA.map (AV.ren f) = CA) (rB : ∀ f, CB.map (AV.ren f) = CB) :
  Wide Tryz.prog gl 59 [.mcap 0 0 (a + d + b) c 1, .int .i64 (a : Nat), .int .i64 ((a + d : Nat) : Int)] [(0, .cells (CA ++ CM ++ CB ++ P))] 1 (.msl 0 0 (a + b) 1) [(0, CA ++ CB)] 1 := by
 subst hb
 have had : (((a : Nat) : Int) == ((a + d : Nat) : Int)) = false := by simp; omega
 have hTA : List.take (a) (CA ++ CM ++ CB ++ P) = CA := by rw [List.append_assoc, List.append_assoc, List.take_left' hA]
 have hlen : (CA ++ CM ++ CB ++ P).length = c := by simp only [List.length_append, hA, hM, hB, hPl]; omega
 have hss : a + d - (a + d) = 0 := Nat.sub_self _
 refine Wide.intro 1 mix names (fn := Tryz.f59) Tryz.func59 rfl fun F hF hro W => ?_
 simp -implicitDefEqProofs only [Tryz.ntmps59, Tryz.results59, entL, Nat.reduceAdd, Nat.reduceSub, ownA_zero, ownH_zero, hC_cons, hC_nil]
 by_cases hx : ((a + d : Nat) : Int) < ((c : Nat) : Int)
 all_goals repeat' (first
  | simp -implicitDefEqProofs (maxSteps := 9999999) only [↓reduceIte, runsY, lstY, facts, Nat.reduceAdd, Int.reduceLE, Option.map_none, bnd, Nat.sub_zero, Option.isSome_some, *]
  | simp -implicitDefEqProofs (maxSteps := 9999999) (disch := first | assumption | omega) only [runsY, lstY, facts, if_pos, if_neg, Nat.reduceAdd, Nat.reduceEqDiff, Nat.reduceLT, Option.map_none, bnd, Nat.add_sub_cancel_left, xcells, aappM_mcap, aappC, splice, aclear, AV.keysOf, List.flatMap_cons, List.flatMap_nil, *]
  | ((with_reducible refine OZ_drawn ?_); refine OZ_drawW (by decide +kernel) ?_)
  | ((with_reducible refine wend ?_ ?_); · decide +kernel))
 all_goals have hCB : CB = [] := List.eq_nil_of_length_eq_zero (by omega)
 all_goals subst hCB
 all_goals exact WideK.one (cs := CA ++ []) (by simp only [hget, if_true, List.append_nil, List.append_assoc] <;> rfl) (by simp only [List.append_nil]; exact rA _)
set_option maxRecDepth 100000 in
set_option maxHeartbeats 4000000 in
theorem delCCe (CA CM CB P : List AV) (a d b c : Nat) (hA : CA.length = a) (hM : CM.length = d) (hB : CB.length = b) (hPl : P.length = c - (a + d + b)) (oA : CA.all AV.one = true) (oM : CM.all AV.one = true) (oB : CB.all AV.one = true) (hbd : a + d + b ≤ 1000000) (hc : a + d + b ≤ c) (hd : 0 < d) (hb : 0 < b) (rA : ∀ f, CA.map (AV.ren f) = CA) (rB : ∀ f, CB.map (AV.ren f) = CB) :
  Wide Tryz.prog gl 59 [.mcap 0 0 (a + d + b) c 1, .int .i64 (a : Nat), .int .i64 ((a + d : Nat) : Int)] [(0, .cells (CA ++ CM ++ CB ++ P))] 1 (.msl 0 0 (a + b) 1) [(0, CA ++ CB)] 1 := by
 skip
 have had : (((a : Nat) : Int) == ((a + d : Nat) : Int)) = false := by simp; omega
 have hTA : List.take (a) (CA ++ CM ++ CB ++ P) = CA := by rw [List.append_assoc, List.append_assoc, List.take_left' hA]
 have hDA : List.drop ((a + d)) (CA ++ CM ++ CB ++ P) = CB ++ P := by rw [List.append_assoc (CA ++ CM), List.drop_left' (by simp only [List.length_append]; omega)]
 have hTB : List.take (b) (CB ++ P) = CB := List.take_left' hB
 have hn1 : a + d + b - (a + d) = b := by omega
 have hn2 : a + d + b - a = d + b := by omega
 have hn3 : a + d + b - (a + b) = d := by omega
 have hlen : (CA ++ CM ++ CB ++ P).length = c := by simp only [List.length_append, hA, hM, hB, hPl]; omega
 refine Wide.intro 1 mix names (fn := Tryz.f59) Tryz.func59 rfl fun F hF hro W => ?_
 simp -implicitDefEqProofs only [Tryz.ntmps59, Tryz.results59, entL, Nat.reduceAdd, Nat.reduceSub, ownA_zero, ownH_zero, hC_cons, hC_nil]
 repeat' (first
  | simp -implicitDefEqProofs (maxSteps := 9999999) only [↓reduceIte, runsY, lstY, facts, Nat.reduceAdd, Int.reduceLE, Option.map_none, bnd, Nat.sub_zero, Option.isSome_some, *]
  | simp -implicitDefEqProofs (maxSteps := 9999999) (disch := first | assumption | omega) only [runsY, lstY, facts, if_pos, if_neg, Nat.reduceAdd, Nat.reduceEqDiff, Nat.reduceLT, Option.map_none, bnd, xcells, aappM_mcap, aappC, splice, aclear, List.length_append, List.length_drop, AV.keysOf, List.flatMap_cons, List.flatMap_nil, *]
  | ((with_reducible refine OZ_drawn ?_); refine OZ_drawW (by decide +kernel) ?_)
  | ((with_reducible refine wend ?_ ?_); · decide +kernel))
 generalize List.drop (a + b) (CA ++ CM ++ CB ++ P) = X
 rw [List.take_left' (l₁ := CA ++ CB) (by rw [List.length_append, hA, hB] <;> omega)]
 exact WideK.one (cs := CA ++ CB) (rest := _) (by simp only [hget, if_true, List.append_assoc] <;> rfl) (by rw [List.map_append, rA, rB])
theorem deleteCe_wide (CA CM CB : List AV) (a d b : Nat) (hA : CA.length = a) (hM : CM.length = d) (hB : CB.length = b) (oA : CA.all AV.one = true) (oM : CM.all AV.one = true) (oB : CB.all AV.one = true) (rA : ∀ f, CA.map (AV.ren f) = CA) (rB : ∀ f, CB.map (AV.ren f) = CB) (hbd : a + d + b ≤ 1000000) :
  Wide Tryz.prog gl 59 [.msl 0 0 (a + d + b) 1, .int .i64 (a : Nat), .int .i64 ((a + d : Nat) : Int)] [(0, .cells (CA ++ CM ++ CB))] 1 (.msl 0 0 (a + b) 1) [(0, CA ++ CB)] 1 := by
 refine Wide.cap (cs := CA ++ CM ++ CB) (by simp [hget]) fun c hc => ?_
 rw [hset_head]
 have hPl : (List.replicate (c * 1 - (CA ++ CM ++ CB).length) AV.ud).length = c - (a + d + b) := by rw [List.length_replicate, List.length_append, List.length_append, hA, hM, hB]; omega
 rcases Nat.eq_zero_or_pos d with hd | hd
 ·exact delACe CA CM CB _ a d b c hA hM hB hPl oA oM oB hbd hc hd rA rB
 ·rcases Nat.eq_zero_or_pos b with hb | hb
  ·exact delBCe CA CM CB _ a d b c hA hM hB hPl oA oM oB hbd hc hd hb rA rB
  ·exact delCCe CA CM CB _ a d b c hA hM hB hPl oA oM oB hbd hc hd hb rA rB
end Go.Proofs.Pv
namespace Go.Proofs.Pv
open Go Go.Proofs
set_option linter.unusedSimpArgs false
set_option linter.unusedVariables false
set_option maxRecDepth 100000 in
set_option maxHeartbeats 4000000 in
theorem delADy (CA CM CB P : List AV) (a d b c : Nat) (hA : CA.length = a) (hM : CM.length = d) (hB : CB.length = b) (hPl : P.length = c - (a + d + b)) (oA : CA.all AV.one = true) (oM : CM.all AV.one = true) (oB : CB.all AV.one = true) (hbd : a + d + b ≤ 1000000) (hc : a + d + b ≤ c) (hd : d = 0) (rA : ∀ f, CA.map (AV.ren f) = CA) (rB : ∀ f, CB.map (AV.ren f) = CB) :
  Wide Tryz.prog gl 60 [.mcap 0 0 (a + d + b) c 1, .int .i64 (a : Nat), .int .i64 ((a + d : Nat) : Int)] [(0, .cells (CA ++ CM ++ CB ++ P))] 1 (.msl 0 0 (a + b) 1) [(0, CA ++ CB)] 1 := by
 subst hd
 refine Wide.intro 1 mix names (fn := Tryz.f60) Tryz.func60 rfl fun F hF hro W => ?_
 simp -implicitDefEqProofs only [Tryz.ntmps60, Tryz.results60, entL, Nat.reduceAdd, Nat.reduceSub, ownA_zero, ownH_zero, hC_cons, hC_nil]
 simp only [Nat.add_zero] at hc ⊢
 repeat' (first
  | simp -implicitDefEqProofs (maxSteps := 9999999) only [↓reduceIte, runsY, lstY, facts, Nat.reduceAdd, bnd, Option.isSome_some, *]
  | simp -implicitDefEqProofs (maxSteps := 9999999) (disch := first | assumption | omega) only [runsY, lstY, if_pos, Nat.reduceAdd, *])
 have hCM : CM = [] := List.eq_nil_of_length_eq_zero (by omega)
 subst hCM
 exact WideK.one (cs := CA ++ CB) (rest := P) (by simp [hget]) (by rw [List.map_append, rA, rB])
set_option maxRecDepth 100000 in
set_option maxHeartbeats 4000000 in
theorem delBDy (CA CM CB P : List AV) (a d b c : Nat) (hA : CA.length = a) (hM : CM.length = d) (hB : CB.length = b) (hPl : P.length = c - (a + d + b)) (oA : CA.all AV.one = true) (oM : CM.all AV.one = true) (oB : CB.all AV.one = true) (hbd : a + d + b ≤ 1000000) (hc : a + d + b ≤ c) (hd : 0 < d) (hb : b = 0) (rA : ∀ f, CA.map (AV.ren f) = CA) (rB : ∀ f, CB.map (AV.ren f) = CB) :
  Wide Tryz.prog gl 60 [.mcap 0 0 (a + d + b) c 1, .int .i64 (a : Nat), .int .i64 ((a + d : Nat) : Int)] [(0, .cells (CA ++ CM ++ CB ++ P))] 1 (.msl 0 0 (a + b) 1) [(0, CA ++ CB)] 1 := by
 subst hb
 have had : (((a : Nat) : Int) == ((a + d : Nat) : Int)) = false := by simp; omega
 have hTA : List.take (a) (CA ++ CM ++ CB ++ P) = CA := by rw [List.append_assoc, List.append_assoc, List.take_left' hA]
 have hlen : (CA ++ CM ++ CB ++ P).length = c := by simp only [List.length_append, hA, hM, hB, hPl]; omega
 have hss : a + d - (a + d) = 0 := Nat.sub_self _
 refine Wide.intro 1 mix names (fn := Tryz.f60) Tryz.func60 rfl fun F hF hro W => ?_
 simp -implicitDefEqProofs only [Tryz.ntmps60, Tryz.results60, entL, Nat.reduceAdd, Nat.reduceSub, ownA_zero, ownH_zero, hC_cons, hC_nil]
 by_cases hx : ((a + d : Nat) : Int) < ((c : Nat) : Int)
 all_goals repeat' (first
  | simp -implicitDefEqProofs (maxSteps := 9999999) only [↓reduceIte, runsY, lstY, facts, Nat.reduceAdd, Int.reduceLE, Option.map_none, bnd, Nat.sub_zero, Option.isSome_some, *]
  | simp -implicitDefEqProofs (maxSteps := 9999999) (disch := first | assumption | omega) only [runsY, lstY, facts, if_pos, if_neg, Nat.reduceAdd, Nat.reduceEqDiff, Nat.reduceLT, Option.map_none, bnd, Nat.add_sub_cancel_left, xcells, aappM_mcap, aappC, splice, aclear, AV.keysOf, List.flatMap_cons, List.flatMap_nil, *]
  | ((with_reducible refine OZ_drawn ?_); refine OZ_drawW (by decide +kernel) ?_)
  | ((with_reducible refine wend ?_ ?_); · decide +kernel))
 all_goals have hCB : CB = [] := List.eq_nil_of_length_eq_zero (by omega)
 all_goals subst hCB
 all_goals exact WideK.one (cs := CA ++ []) (by simp only [hget, if_true, List.append_nil, List.append_assoc] <;> rfl) (by simp only [List.append_nil]; exact rA _)
set_option maxRecDepth 100000 in
set_option maxHeartbeats 4000000 in
theorem delCDy (CA CM CB P : List AV) (a d b c : Nat) (hA : CA.length = a) (hM : CM.length = d) (hB : CB.length = b) (hPl : P.length = c - (a + d + b)) (oA : CA.all AV.one = true) (oM : CM.all AV.one = true) (oB : CB.all AV.one = true) (hbd : a + d + b ≤ 1000000) (hc : a + d + b ≤ c) (hd : 0 < d) (hb : 0 < b) (rA : ∀ f, CA.map (AV.ren f) = CA) (rB : ∀ f, CB.map (AV.ren f) = CB) :
  Wide Tryz.prog gl 60 [.mcap 0 0 (a + d + b) c 1, .int .i64 (a : Nat), .int .i64 ((a + d : Nat) : Int)] [(0, .cells (CA ++ CM ++ CB ++ P))] 1 (.msl 0 0 (a + b) 1) [(0, CA ++ CB)] 1 := by
 skip
 have had : (((a : Nat) : Int) == ((a + d : Nat) : Int)) = false := by simp; omega
 have hTA : List.take (a) (CA ++ CM ++ CB ++ P) = CA := by rw [List.append_assoc, List.append_assoc, List.take_left' hA]
 have hDA : List.drop ((a + d)) (CA ++ CM ++ CB ++ P) = CB ++ P := by rw [List.append_assoc (CA ++ CM), List.drop_left' (by simp only [List.length_append]; omega)]
 have hTB : List.take (b) (CB ++ P) = CB := List.take_left' hB
 have hn1 : a + d + b - (a + d) = b := by omega
 have hn2 : a + d + b - a = d + b := by omega
 have hn3 : a + d + b - (a + b) = d := by omega
 have hlen : (CA ++ CM ++ CB ++ P).length = c := by simp only [List.length_append, hA, hM, hB, hPl]; omega
 refine Wide.intro 1 mix names (fn := Tryz.f60) Tryz.func60 rfl fun F hF hro W => ?_
 simp -implicitDefEqProofs only [Tryz.ntmps60, Tryz.results60, entL, Nat.reduceAdd, Nat.reduceSub, ownA_zero, ownH_zero, hC_cons, hC_nil]
 repeat' (first
  | simp -implicitDefEqProofs (maxSteps := 9999999) only [↓reduceIte, runsY, lstY, facts, Nat.reduceAdd, Int.reduceLE, Option.map_none, bnd, Nat.sub_zero, Option.isSome_some, *]
  | simp -implicitDefEqProofs (maxSteps := 9999999) (disch := first | assumption | omega) only [runsY, lstY, facts, if_pos, if_neg, Nat.reduceAdd, Nat.reduceEqDiff, Nat.reduceLT, Option.map_none, bnd, xcells, aappM_mcap, aappC, splice, aclear, List.length_append, List.length_drop, AV.keysOf, List.flatMap_cons, List.flatMap_nil, *]
  | ((with_reducible refine OZ_drawn ?_); refine OZ_drawW (by decide +kernel) ?_)
  | ((with_reducible refine wend ?_ ?_); · decide +kernel))
 generalize List.drop (a + b) (CA ++ CM ++ CB ++ P) = X
 rw [List.take_left' (l₁ := CA ++ CB) (by rw [List.length_append, hA, hB] <;> omega)]
 exact WideK.one (cs := CA ++ CB) (rest := _) (by simp only [hget, if_true, List.append_assoc] <;> rfl) (by rw [List.map_append, rA, rB])
theorem deleteDy_wide (CA CM CB : List AV) (a d b : Nat) (hA : CA.length = a) (hM : CM.length = d) (hB : CB.length = b) (oA : CA.all AV.one = true) (oM : CM.all AV.one = true) (oB : CB.all AV.one = true) (rA : ∀ f, CA.map (AV.ren f) = CA) (rB : ∀ f, CB.map (AV.ren f) = CB) (hbd : a + d + b ≤ 1000000) :
  Wide Tryz.prog gl 60 [.msl 0 0 (a + d + b) 1, .int .i64 (a : Nat), .int .i64 ((a + d : Nat) : Int)] [(0, .cells (CA ++ CM ++ CB))] 1 (.msl 0 0 (a + b) 1) [(0, CA ++ CB)] 1 := by
 refine Wide.cap (cs := CA ++ CM ++ CB) (by simp [hget]) fun c hc => ?_
 rw [hset_head]
 have hPl : (List.replicate (c * 1 - (CA ++ CM ++ CB).length) AV.ud).length = c - (a + d + b) := by rw [List.length_replicate, List.length_append, List.length_append, hA, hM, hB]; omega
 rcases Nat.eq_zero_or_pos d with hd | hd
 ·exact delADy CA CM CB _ a d b c hA hM hB hPl oA oM oB hbd hc hd rA rB
 ·rcases Nat.eq_zero_or_pos b with hb | hb
  ·exact delBDy CA CM CB _ a d b c hA hM hB hPl oA oM oB hbd hc hd hb rA rB
  ·exact delCDy CA CM CB _ a d b c hA hM hB hPl oA oM oB hbd hc hd hb rA rB
end Go.Proofs.Pv
