/-
  slices.Insert, at other things than events.
  slices.Insert, at other things than events.
  slices.Insert, at other things than events.
  Conditions: none but those that each statement names.
-/
import Derived.Test.YtiikpmhjckdpgaaGreatDoorC09i
namespace Go.Proofs.Pv
open Go Go.Proofs
set_option linter.unusedSimpArgs false
set_option linter.unusedVariables false
set_option maxRecDepth 100000 in
set_option maxHeartbeats 4000000 in
theorem insABa (CA CB CV P : List AV) (a b m c : Nat) (hA : CA.length = a * 14) (hB : CB.length = b * 14) (hV : CV.length = (m + 1) * 14) (hPl : P.length = c * 14 - (a + b) * 14) (oA : CA.all AV.one = true) (oB : CB.all AV.one = true) (oV : CV.all AV.one = true) (hbd : a + b + (m + 1) ≤ 1000000) (hc : a + b ≤ c) (hcap : a + b + (m + 1) ≤ c) (hb : b = 0) (rA : ∀ f, CA.map (AV.ren f) = CA) (rB : ∀ f, CB.map (AV.ren f) = CB) (rV : ∀ f, CV.map (AV.ren f) = CV) :
  Wide Tryz.prog gl 52 [.mcap 0 0 (a + b) c 14, .int .i64 (a : Nat), .msl 1 0 (m + 1) 14] [(0, .cells (CA ++ CB ++ P)), (1, .cells CV)] 2 (.msl 0 0 (a + (m + 1) + b) 14) [(0, CA ++ CV ++ CB)] 1 := by
 subst hb
 have hTV : List.take ((m + 1) * 14) CV = CV := List.take_of_length_le (by omega)
 have hm1 : (((m + 1 : Nat) : Int) == 0) = false := by simp; omega
 have hlen : (CA ++ CB ++ P).length = c * 14 := by simp [hA, hB, hPl]; omega
 have hTA : List.take (a * 14) (CA ++ CB ++ P) = CA := by rw [List.append_assoc, List.take_left' hA]
 refine Wide.intro 1 mix names (fn := Tryz.f52) Tryz.func52 rfl fun F hF hro W => ?_
 simp -implicitDefEqProofs only [Tryz.ntmps52, Tryz.results52, entL, Nat.reduceAdd, Nat.reduceSub, ownA_zero, ownH_zero, hC_cons, hC_nil]
 repeat' (first
  | simp -implicitDefEqProofs (maxSteps := 9999999) only [runsY, lstY, facts, Nat.reduceAdd, Option.map_none, bnd, *]
  | simp -implicitDefEqProofs (maxSteps := 9999999) (disch := first | assumption | omega) only [runsY, lstY, facts, if_pos, Nat.reduceAdd, Nat.reduceEqDiff, Nat.reduceLT, aappC, xcells, aappM_mcap, splice, *])
 have hCB : CB = [] := List.eq_nil_of_length_eq_zero (by omega)
 exact WideK.one (cs := CA ++ CV ++ CB) (rest := List.drop (a * 14 + (m + 1) * 14) (CA ++ CB ++ P)) (by rw [hCB]; simp [hget]) (by rw [List.map_append, List.map_append, rA, rB, rV])
set_option maxRecDepth 100000 in
set_option maxHeartbeats 4000000 in
theorem insCBa (CA CB CV P : List AV) (a b m c : Nat) (hA : CA.length = a * 14) (hB : CB.length = b * 14) (hV : CV.length = (m + 1) * 14) (hPl : P.length = c * 14 - (a + b) * 14) (oA : CA.all AV.one = true) (oB : CB.all AV.one = true) (oV : CV.all AV.one = true) (hbd : a + b + (m + 1) ≤ 1000000) (hc : a + b ≤ c) (hcap : ¬ a + b + (m + 1) ≤ c) (hb : b = 0) (rA : ∀ f, CA.map (AV.ren f) = CA) (rB : ∀ f, CB.map (AV.ren f) = CB) (rV : ∀ f, CV.map (AV.ren f) = CV) :
  Wide Tryz.prog gl 52 [.mcap 0 0 (a + b) c 14, .int .i64 (a : Nat), .msl 1 0 (m + 1) 14] [(0, .cells (CA ++ CB ++ P)), (1, .cells CV)] 2 (.msl 0 0 (a + (m + 1) + b) 14) [(0, CA ++ CV ++ CB)] 1 := by
 subst hb
 have hTV : List.take ((m + 1) * 14) CV = CV := List.take_of_length_le (by omega)
 have hm1 : (((m + 1 : Nat) : Int) == 0) = false := by simp; omega
 have hlen : (CA ++ CB ++ P).length = c * 14 := by simp [hA, hB, hPl]; omega
 have hTA : List.take (a * 14) (CA ++ CB ++ P) = CA := by rw [List.append_assoc, List.take_left' hA]
 refine Wide.intro 1 mix names (fn := Tryz.f52) Tryz.func52 rfl fun F hF hro W => ?_
 simp -implicitDefEqProofs only [Tryz.ntmps52, Tryz.results52, entL, Nat.reduceAdd, Nat.reduceSub, ownA_zero, ownH_zero, hC_cons, hC_nil]
 repeat' (first
  | simp -implicitDefEqProofs (maxSteps := 9999999) only [runsY, lstY, facts, Nat.reduceAdd, Option.map_none, bnd, *]
  | simp -implicitDefEqProofs (maxSteps := 9999999) (disch := first | assumption | omega) only [runsY, lstY, facts, if_pos, if_neg, Nat.reduceAdd, Nat.reduceEqDiff, Nat.reduceLT, aappC, xcells, aappM_mcap, splice, *])
 have hCB : CB = [] := List.eq_nil_of_length_eq_zero (by omega)
 exact WideK.oneM (cs := CA ++ CV ++ CB) (rest := []) (by rw [hCB]; simp [hget]) (by rw [List.map_append, List.map_append, rA, rB, rV])
set_option maxRecDepth 100000 in
set_option maxHeartbeats 4000000 in
theorem insBBa (CA CB CV P : List AV) (a b m c : Nat) (hA : CA.length = a * 14) (hB : CB.length = b * 14) (hV : CV.length = (m + 1) * 14) (hPl : P.length = c * 14 - (a + b) * 14) (oA : CA.all AV.one = true) (oB : CB.all AV.one = true) (oV : CV.all AV.one = true) (hbd : a + b + (m + 1) ≤ 1000000) (hc : a + b ≤ c) (hcap : a + b + (m + 1) ≤ c) (hb : 0 < b) (rA : ∀ f, CA.map (AV.ren f) = CA) (rB : ∀ f, CB.map (AV.ren f) = CB) (rV : ∀ f, CV.map (AV.ren f) = CV) :
  Wide Tryz.prog gl 52 [.mcap 0 0 (a + b) c 14, .int .i64 (a : Nat), .msl 1 0 (m + 1) 14] [(0, .cells (CA ++ CB ++ P)), (1, .cells CV)] 2 (.msl 0 0 (a + (m + 1) + b) 14) [(0, CA ++ CV ++ CB)] 1 := by
 skip
 have hTV : List.take ((m + 1) * 14) CV = CV := List.take_of_length_le (by omega)
 have hm1 : (((m + 1 : Nat) : Int) == 0) = false := by simp; omega
 have hz2 : ((a : Nat) : Int) + ((m + 1 : Nat) : Int) = ((a + (m + 1) : Nat) : Int) := by omega
 have hz3 : ((a + b : Nat) : Int) + ((m + 1 : Nat) : Int) = ((a + b + (m + 1) : Nat) : Int) := by omega
 have hn1 : a + b + (m + 1) - (a + (m + 1)) = b := by omega
 have hn2 : a + b + (m + 1) - a = b + (m + 1) := by omega
 have hq1 : min (b + (m + 1)) b = b := by omega
 have hq2 : min (m + 1) (b + (m + 1)) = m + 1 := by omega
 have hDA : List.drop (a * 14) (CA ++ CB ++ P) = CB ++ P := by rw [List.append_assoc, List.drop_left' hA]
 have hTT : List.take (b * 14) (List.take ((b + (m + 1)) * 14) (CB ++ P)) = CB := by rw [List.take_take, show min (b * 14) ((b + (m + 1)) * 14) = b * 14 by omega, List.take_left' hB]
 have hab : (((a : Nat) : Int) == ((a + b : Nat) : Int)) = false := by simp; omega
 refine Wide.intro 1 mix names (fn := Tryz.f52) Tryz.func52 rfl fun F hF hro W => ?_
 simp -implicitDefEqProofs only [Tryz.ntmps52, Tryz.results52, entL, Nat.reduceAdd, Nat.reduceSub, ownA_zero, ownH_zero, hC_cons, hC_nil]
 repeat' (first
  | simp -implicitDefEqProofs (maxSteps := 9999999) only [↓reduceIte, runsY, lstY, facts, Nat.reduceAdd, Option.map_none, bnd, Nat.add_sub_cancel_left, *]
  | simp -implicitDefEqProofs (maxSteps := 9999999) (disch := first | assumption | omega) only [runsY, lstY, facts, if_pos, if_neg, Nat.reduceAdd, Nat.reduceEqDiff, Int.reduceLE, Option.map_none, bnd, Nat.zero_mul, Nat.sub_zero, Option.isSome_some, wrap_in, xcells, acapN, splice, acopy, List.length_append, List.length_take, List.length_drop, AV.keysOf, List.flatMap_cons, List.flatMap_nil, *]
  | ((with_reducible refine condK_dec (fun _ => ?_) (fun _ => ?_)) <;> try omega)
  | ((with_reducible refine OZ_drawn ?_); refine OZ_drawW (by decide +kernel) ?_)
  | ((with_reducible refine wend ?_ ?_); · decide +kernel)
  | ((with_reducible refine OZ_at 92 ?_); refine OZ_ext (ext_apart (fn := Tryz.f92) (t := 22) (r := 4) (e := 84) (k := 14) Tryz.func92 (by kernel_rfl) (by kernel_rfl) (by kernel_rfl) (by kernel_rfl) Tryz.underlying22 sz84 (q1 := 1) (q2 := 0) (cs1 := CV) (cs2 := CA ++ CB ++ P) rfl rfl (by decide) (by simp only [List.length_append]; omega) relMsl relMcap ?_)))
 obtain ⟨Z, hZ1, hZ2⟩ : ∃ Z, List.take ((a + (m + 1)) * 14) (CA ++ CB ++ P) = CA ++ Z ∧ Z.length = (m + 1) * 14 := by
  refine ⟨List.take ((m + 1) * 14) (CB ++ P), ?_, by simp only [List.length_take, List.length_append]; omega⟩
  rw [List.append_assoc, show (a + (m + 1)) * 14 = CA.length + (m + 1) * 14 by omega, List.take_length_add_append]
 rw [hZ1, show a + b + (m + 1) = a + (m + 1) + b by omega]
 generalize List.drop ((a + (m + 1)) * 14 + b * 14) (CA ++ CB ++ P) = D
 rw [show List.take (a * 14) (CA ++ Z ++ CB ++ D) = CA by rw [List.append_assoc, List.append_assoc, List.take_left' hA], show List.drop (a * 14 + (m + 1) * 14) (CA ++ Z ++ CB ++ D) = CB ++ D by rw [List.append_assoc, List.drop_left' (by simp only [List.length_append]; omega)]]
 exact WideK.one (cs := CA ++ CV ++ CB) (rest := D) (by simp [hget]) (by rw [List.map_append, List.map_append, rA, rB, rV])
set_option maxRecDepth 100000 in
set_option maxHeartbeats 4000000 in
theorem insDBa (CA CB CV P : List AV) (a b m c : Nat) (hA : CA.length = a * 14) (hB : CB.length = b * 14) (hV : CV.length = (m + 1) * 14) (hPl : P.length = c * 14 - (a + b) * 14) (oA : CA.all AV.one = true) (oB : CB.all AV.one = true) (oV : CV.all AV.one = true) (hbd : a + b + (m + 1) ≤ 1000000) (hc : a + b ≤ c) (hcap : ¬ a + b + (m + 1) ≤ c) (hb : 0 < b) (rA : ∀ f, CA.map (AV.ren f) = CA) (rB : ∀ f, CB.map (AV.ren f) = CB) (rV : ∀ f, CV.map (AV.ren f) = CV) :
  Wide Tryz.prog gl 52 [.mcap 0 0 (a + b) c 14, .int .i64 (a : Nat), .msl 1 0 (m + 1) 14] [(0, .cells (CA ++ CB ++ P)), (1, .cells CV)] 2 (.msl 0 0 (a + (m + 1) + b) 14) [(0, CA ++ CV ++ CB)] 1 := by
 skip
 have hTV : List.take ((m + 1) * 14) CV = CV := List.take_of_length_le (by omega)
 have hm1 : (((m + 1 : Nat) : Int) == 0) = false := by simp; omega
 have hz2 : ((a : Nat) : Int) + ((m + 1 : Nat) : Int) = ((a + (m + 1) : Nat) : Int) := by omega
 have hz3 : ((a + b : Nat) : Int) + ((m + 1 : Nat) : Int) = ((a + b + (m + 1) : Nat) : Int) := by omega
 have hz4 : ((a + b + (m + 1) : Nat) : Int) - (a : Int) = ((b + (m + 1) : Nat) : Int) := by omega
 have hn3 : a + (b + (m + 1)) - a = b + (m + 1) := by omega
 have hn4 : a + (b + (m + 1)) - (a + (m + 1)) = b := by omega
 have hq2 : min (m + 1) (b + (m + 1)) = m + 1 := by omega
 have hDA : List.drop (a * 14) (CA ++ CB ++ P) = CB ++ P := by rw [List.append_assoc, List.drop_left' hA]
 have hTA : List.take (a * 14) (CA ++ CB ++ P) = CA := by rw [List.append_assoc, List.take_left' hA]
 have hTB : List.take (b * 14) (CB ++ P) = CB := List.take_left' hB
 have hZ : ∀ n, (List.replicate n [AV.int .i64 0, AV.int .i64 0, AV.sl 1 [] .full, AV.int .i64 0, AV.bool false, AV.bool false, AV.int .i64 0, AV.sl 1 [] .full, AV.bool false, AV.bool false, AV.bool false, AV.bool false, AV.int .i64 0, AV.sl 4 [] .full]).flatten.length = n * 14 := by intro n; simp
 have hab : (((a : Nat) : Int) == ((a + b : Nat) : Int)) = false := by simp; omega
 refine Wide.intro 1 mix names (fn := Tryz.f52) Tryz.func52 rfl fun F hF hro W => ?_
 simp -implicitDefEqProofs only [Tryz.ntmps52, Tryz.results52, entL, Nat.reduceAdd, Nat.reduceSub, ownA_zero, ownH_zero, hC_cons, hC_nil]
 repeat' (first
  | simp -implicitDefEqProofs (maxSteps := 9999999) only [↓reduceIte, runsY, lstY, facts, Nat.reduceAdd, Option.map_none, bnd, Nat.add_sub_cancel_left, *]
  | simp -implicitDefEqProofs (maxSteps := 9999999) (disch := first | assumption | omega) only [runsY, lstY, facts, if_pos, if_neg, Nat.reduceAdd, Nat.reduceEqDiff, Nat.reduceLT, Int.reduceLE, Option.map_none, bnd, Nat.zero_mul, Nat.sub_zero, Option.isSome_some, Nat.add_sub_cancel_left, wrap_in, aappZ, xcells, acapN, splice, acopy, List.length_append, List.length_take, List.length_drop, Nat.min_self, AV.keysOf, List.flatMap_cons, List.flatMap_nil, *]
  | ((with_reducible refine condK_dec (fun _ => ?_) (fun _ => ?_)) <;> try omega)
  | ((with_reducible refine OZ_drawn ?_); refine OZ_drawW (by decide +kernel) ?_)
  | ((with_reducible refine wend ?_ ?_); · decide +kernel))
 generalize hY : (List.replicate (b + (m + 1)) [AV.int .i64 0, AV.int .i64 0, AV.sl 1 [] .full, AV.int .i64 0, AV.bool false, AV.bool false, AV.int .i64 0, AV.sl 1 [] .full, AV.bool false, AV.bool false, AV.bool false, AV.bool false, AV.int .i64 0, AV.sl 4 [] .full]).flatten = Y
 have hYl : Y.length = (b + (m + 1)) * 14 := by rw [← hY, hZ]
 rw [show List.take (a * 14) (CA ++ Y) = CA from List.take_left' hA]
 have hD : List.drop (a * 14 + (m + 1) * 14) (CA ++ Y) = List.drop ((m + 1) * 14) Y := by rw [← hA, List.drop_length_add_append]
 rw [hD, List.take_of_length_le (l := CB) (by omega), List.take_left' (by simp only [List.length_append]; omega), List.drop_of_length_le (by simp only [List.length_append, List.length_drop]; omega), show a + (m + 1) + b = a + (b + (m + 1)) by omega]
 exact WideK.oneM (cs := CA ++ CV ++ CB) (rest := []) (by simp [hget]) (by rw [List.map_append, List.map_append, rA, rB, rV])
set_option maxRecDepth 100000 in
theorem ins0Ba (CA CB : List AV) (a b : Nat) (hl : CA.length = a * 14) (rA : ∀ f, (CA ++ CB).map (AV.ren f) = CA ++ CB) :
  Wide Tryz.prog gl 52 [.msl 0 0 (a + b) 14, .int .i64 (a : Nat), .sl 14 [] .mut] [(0, .cells (CA ++ CB))] 2 (.msl 0 0 (a + b) 14) [(0, CA ++ CB)] 1 := by
 generalize CA ++ CB = X at rA ⊢
 clear hl
 refine Wide.intro 1 mix names (fn := Tryz.f52) Tryz.func52 rfl fun F hF hro W => ?_
 simp -implicitDefEqProofs only [Tryz.ntmps52, Tryz.results52, entL, Nat.reduceAdd, Nat.reduceSub, ownA_zero, ownH_zero, hC_cons, hC_nil]
 rcases Nat.eq_zero_or_pos b with hb | hb
 ·subst hb
  repeat' (first
  | simp -implicitDefEqProofs (maxSteps := 9999999) only [runsY, lstY, facts, Nat.reduceAdd, Option.map_none, bnd, *]
  | simp -implicitDefEqProofs (maxSteps := 9999999) (disch := first | assumption | omega) only [runsY, lstY, facts, if_pos, if_neg, Nat.reduceAdd, *])
  exact WideK.oneM (cs := X) (rest := []) (by simp [hget]) (rA _)
 ·repeat' (first
  | simp -implicitDefEqProofs (maxSteps := 9999999) only [runsY, lstY, facts, Nat.reduceAdd, Option.map_none, bnd, Nat.add_sub_cancel_left, *]
  | simp -implicitDefEqProofs (maxSteps := 9999999) (disch := first | assumption | omega) only [runsY, lstY, facts, if_pos, Nat.reduceAdd, *])
  exact WideK.oneM (cs := X) (rest := []) (by simp [hget]) (rA _)
theorem insertBa_wide (CA CB CV : List AV) (a b m : Nat) (hA : CA.length = a * 14) (hB : CB.length = b * 14) (hV : CV.length = m * 14) (oA : CA.all AV.one = true) (oB : CB.all AV.one = true) (oV : CV.all AV.one = true) (rA : ∀ f, CA.map (AV.ren f) = CA) (rB : ∀ f, CB.map (AV.ren f) = CB) (rV : ∀ f, CV.map (AV.ren f) = CV)
  (hbd : a + b + m ≤ 1000000) : Wide Tryz.prog gl 52 [.msl 0 0 (a + b) 14, .int .i64 (a : Nat), ownA 1 14 m] (hC ((0, CA ++ CB) :: ownH 1 CV m)) 2 (.msl 0 0 (a + m + b) 14) [(0, CA ++ CV ++ CB)] 1 := by
 cases m with
 | zero =>
  have hv0 : CV = [] := List.eq_nil_of_length_eq_zero (by omega)
  subst hv0
  rw [List.append_nil]
  exact ins0Ba CA CB a b hA (fun f => by rw [List.map_append, rA, rB])
 | succ m =>
  simp only [ownA_succ, ownH_succ, hC_cons, hC_nil]
  refine Wide.cap (cs := CA ++ CB) (by simp [hget]) fun c hc => ?_
  rw [hset_head]
  have hPl : (List.replicate (c * 14 - (CA ++ CB).length) AV.ud).length = c * 14 - (a + b) * 14 := by rw [List.length_replicate, List.length_append, hA, hB]; omega
  by_cases hcap : a + b + (m + 1) ≤ c <;> rcases Nat.eq_zero_or_pos b with hb | hb
  ·exact insABa CA CB CV _ a b m c hA hB hV hPl oA oB oV hbd hc hcap hb rA rB rV
  ·exact insBBa CA CB CV _ a b m c hA hB hV hPl oA oB oV hbd hc hcap hb rA rB rV
  ·exact insCBa CA CB CV _ a b m c hA hB hV hPl oA oB oV hbd hc hcap hb rA rB rV
  ·exact insDBa CA CB CV _ a b m c hA hB hV hPl oA oB oV hbd hc hcap hb rA rB rV
end Go.Proofs.Pv
namespace Go.Proofs.Pv
open Go Go.Proofs
set_option linter.unusedSimpArgs false
set_option linter.unusedVariables false
set_option maxRecDepth 100000 in
set_option maxHeartbeats 4000000 in
theorem insACe (CA CB CV P : List AV) (a b m c : Nat) (hA : CA.length = a) (hB : CB.length = b) (hV : CV.length = (m + 1)) (hPl : P.length = c - (a + b)) (oA : CA.all AV.one = true) (oB : CB.all AV.one = true) (oV : CV.all AV.one = true) (hbd : a + b + (m + 1) ≤ 1000000) (hc : a + b ≤ c) (hcap : a + b + (m + 1) ≤ c) (hb : b = 0) (rA : ∀ f, CA.map (AV.ren f) = CA) (rB : ∀ f, CB.map (AV.ren f) = CB) (rV : ∀ f, CV.map (AV.ren f) = CV) :
  Wide Tryz.prog gl 53 [.mcap 0 0 (a + b) c 1, .int .i64 (a : Nat), .msl 1 0 (m + 1) 1] [(0, .cells (CA ++ CB ++ P)), (1, .cells CV)] 2 (.msl 0 0 (a + (m + 1) + b) 1) [(0, CA ++ CV ++ CB)] 1 := by
 subst hb
 have hTV : List.take ((m + 1)) CV = CV := List.take_of_length_le (by omega)
 have hm1 : (((m + 1 : Nat) : Int) == 0) = false := by simp; omega
 have hlen : (CA ++ CB ++ P).length = c := by simp [hA, hB, hPl]; omega
 have hTA : List.take (a) (CA ++ CB ++ P) = CA := by rw [List.append_assoc, List.take_left' hA]
 refine Wide.intro 1 mix names (fn := Tryz.f53) Tryz.func53 rfl fun F hF hro W => ?_
 simp -implicitDefEqProofs only [Tryz.ntmps53, Tryz.results53, entL, Nat.reduceAdd, Nat.reduceSub, ownA_zero, ownH_zero, hC_cons, hC_nil]
 repeat' (first
  | simp -implicitDefEqProofs (maxSteps := 9999999) only [runsY, lstY, facts, Nat.reduceAdd, Option.map_none, bnd, *]
  | simp -implicitDefEqProofs (maxSteps := 9999999) (disch := first | assumption | omega) only [runsY, lstY, facts, if_pos, Nat.reduceAdd, Nat.reduceEqDiff, Nat.reduceLT, aappC, xcells, aappM_mcap, splice, *])
 have hCB : CB = [] := List.eq_nil_of_length_eq_zero (by omega)
 exact WideK.one (cs := CA ++ CV ++ CB) (rest := List.drop (a + (m + 1)) (CA ++ CB ++ P)) (by rw [hCB]; simp [hget]) (by rw [List.map_append, List.map_append, rA, rB, rV])
set_option maxRecDepth 100000 in
set_option maxHeartbeats 4000000 in
theorem insCCe (CA CB CV P : List AV) (a b m c : Nat) (hA : CA.length = a) (hB : CB.length = b) (hV : CV.length = (m + 1)) (hPl : P.length = c - (a + b)) (oA : CA.all AV.one = true) (oB : CB.all AV.one = true) (oV : CV.all AV.one = true) (hbd : a + b + (m + 1) ≤ 1000000) (hc : a + b ≤ c) (hcap : ¬ a + b + (m + 1) ≤ c) (hb : b = 0) (rA : ∀ f, CA.map (AV.ren f) = CA) (rB : ∀ f, CB.map (AV.ren f) = CB) (rV : ∀ f, CV.map (AV.ren f) = CV) :
  Wide Tryz.prog gl 53 [.mcap 0 0 (a + b) c 1, .int .i64 (a : Nat), .msl 1 0 (m + 1) 1] [(0, .cells (CA ++ CB ++ P)), (1, .cells CV)] 2 (.msl 0 0 (a + (m + 1) + b) 1) [(0, CA ++ CV ++ CB)] 1 := by
 subst hb
 have hTV : List.take ((m + 1)) CV = CV := List.take_of_length_le (by omega)
 have hm1 : (((m + 1 : Nat) : Int) == 0) = false := by simp; omega
 have hlen : (CA ++ CB ++ P).length = c := by simp [hA, hB, hPl]; omega
 have hTA : List.take (a) (CA ++ CB ++ P) = CA := by rw [List.append_assoc, List.take_left' hA]
 refine Wide.intro 1 mix names (fn := Tryz.f53) Tryz.func53 rfl fun F hF hro W => ?_
 simp -implicitDefEqProofs only [Tryz.ntmps53, Tryz.results53, entL, Nat.reduceAdd, Nat.reduceSub, ownA_zero, ownH_zero, hC_cons, hC_nil]
 repeat' (first
  | simp -implicitDefEqProofs (maxSteps := 9999999) only [runsY, lstY, facts, Nat.reduceAdd, Option.map_none, bnd, *]
  | simp -implicitDefEqProofs (maxSteps := 9999999) (disch := first | assumption | omega) only [runsY, lstY, facts, if_pos, if_neg, Nat.reduceAdd, Nat.reduceEqDiff, Nat.reduceLT, aappC, xcells, aappM_mcap, splice, *])
 have hCB : CB = [] := List.eq_nil_of_length_eq_zero (by omega)
 exact WideK.oneM (cs := CA ++ CV ++ CB) (rest := []) (by rw [hCB]; simp [hget]) (by rw [List.map_append, List.map_append, rA, rB, rV])
set_option maxRecDepth 100000 in
set_option maxHeartbeats 4000000 in
theorem insBCe (CA CB CV P : List AV) (a b m c : Nat) (hA : CA.length = a) (hB : CB.length = b) (hV : CV.length = (m + 1)) (hPl : P.length = c - (a + b)) (oA : CA.all AV.one = true) (oB : CB.all AV.one = true) (oV : CV.all AV.one = true) (hbd : a + b + (m + 1) ≤ 1000000) (hc : a + b ≤ c) (hcap : a + b + (m + 1) ≤ c) (hb : 0 < b) (rA : ∀ f, CA.map (AV.ren f) = CA) (rB : ∀ f, CB.map (AV.ren f) = CB) (rV : ∀ f, CV.map (AV.ren f) = CV) :
  Wide Tryz.prog gl 53 [.mcap 0 0 (a + b) c 1, .int .i64 (a : Nat), .msl 1 0 (m + 1) 1] [(0, .cells (CA ++ CB ++ P)), (1, .cells CV)] 2 (.msl 0 0 (a + (m + 1) + b) 1) [(0, CA ++ CV ++ CB)] 1 := by
 skip
 have hTV : List.take ((m + 1)) CV = CV := List.take_of_length_le (by omega)
 have hm1 : (((m + 1 : Nat) : Int) == 0) = false := by simp; omega
 have hz2 : ((a : Nat) : Int) + ((m + 1 : Nat) : Int) = ((a + (m + 1) : Nat) : Int) := by omega
 have hz3 : ((a + b : Nat) : Int) + ((m + 1 : Nat) : Int) = ((a + b + (m + 1) : Nat) : Int) := by omega
 have hn1 : a + b + (m + 1) - (a + (m + 1)) = b := by omega
 have hn2 : a + b + (m + 1) - a = b + (m + 1) := by omega
 have hq1 : min (b + (m + 1)) b = b := by omega
 have hq2 : min (m + 1) (b + (m + 1)) = m + 1 := by omega
 have hDA : List.drop (a) (CA ++ CB ++ P) = CB ++ P := by rw [List.append_assoc, List.drop_left' hA]
 have hTT : List.take (b) (List.take ((b + (m + 1))) (CB ++ P)) = CB := by rw [List.take_take, show min (b) ((b + (m + 1))) = b by omega, List.take_left' hB]
 have hab : (((a : Nat) : Int) == ((a + b : Nat) : Int)) = false := by simp; omega
 refine Wide.intro 1 mix names (fn := Tryz.f53) Tryz.func53 rfl fun F hF hro W => ?_
 simp -implicitDefEqProofs only [Tryz.ntmps53, Tryz.results53, entL, Nat.reduceAdd, Nat.reduceSub, ownA_zero, ownH_zero, hC_cons, hC_nil]
 repeat' (first
  | simp -implicitDefEqProofs (maxSteps := 9999999) only [↓reduceIte, runsY, lstY, facts, Nat.reduceAdd, Option.map_none, bnd, Nat.add_sub_cancel_left, *]
  | simp -implicitDefEqProofs (maxSteps := 9999999) (disch := first | assumption | omega) only [runsY, lstY, facts, if_pos, if_neg, Nat.reduceAdd, Nat.reduceEqDiff, Int.reduceLE, Option.map_none, bnd, Nat.sub_zero, Option.isSome_some, wrap_in, xcells, acapN, splice, acopy, List.length_append, List.length_take, List.length_drop, AV.keysOf, List.flatMap_cons, List.flatMap_nil, *]
  | ((with_reducible refine condK_dec (fun _ => ?_) (fun _ => ?_)) <;> try omega)
  | ((with_reducible refine OZ_drawn ?_); refine OZ_drawW (by decide +kernel) ?_)
  | ((with_reducible refine wend ?_ ?_); · decide +kernel)
  | ((with_reducible refine OZ_at 94 ?_); refine OZ_ext (ext_apart (fn := Tryz.f94) (t := 41) (r := 4) (e := 75) (k := 1) Tryz.func94 (by kernel_rfl) (by kernel_rfl) (by kernel_rfl) (by kernel_rfl) Tryz.underlying41 sz75 (q1 := 1) (q2 := 0) (cs1 := CV) (cs2 := CA ++ CB ++ P) rfl rfl (by decide) (by simp only [List.length_append]; omega) relMsl relMcap ?_)))
 obtain ⟨Z, hZ1, hZ2⟩ : ∃ Z, List.take ((a + (m + 1))) (CA ++ CB ++ P) = CA ++ Z ∧ Z.length = (m + 1) := by
  refine ⟨List.take ((m + 1)) (CB ++ P), ?_, by simp only [List.length_take, List.length_append]; omega⟩
  rw [List.append_assoc, show (a + (m + 1)) = CA.length + (m + 1) by omega, List.take_length_add_append]
 rw [hZ1, show a + b + (m + 1) = a + (m + 1) + b by omega]
 generalize List.drop ((a + (m + 1)) + b) (CA ++ CB ++ P) = D
 rw [show List.take (a) (CA ++ Z ++ CB ++ D) = CA by rw [List.append_assoc, List.append_assoc, List.take_left' hA], show List.drop (a + (m + 1)) (CA ++ Z ++ CB ++ D) = CB ++ D by rw [List.append_assoc, List.drop_left' (by simp only [List.length_append]; omega)]]
 exact WideK.one (cs := CA ++ CV ++ CB) (rest := D) (by simp [hget]) (by rw [List.map_append, List.map_append, rA, rB, rV])
set_option maxRecDepth 100000 in
set_option maxHeartbeats 4000000 in
theorem insDCe (CA CB CV P : List AV) (a b m c : Nat) (hA : CA.length = a) (hB : CB.length = b) (hV : CV.length = (m + 1)) (hPl : P.length = c - (a + b)) (oA : CA.all AV.one = true) (oB : CB.all AV.one = true) (oV : CV.all AV.one = true) (hbd : a + b + (m + 1) ≤ 1000000) (hc : a + b ≤ c) (hcap : ¬ a + b + (m + 1) ≤ c) (hb : 0 < b) (rA : ∀ f, CA.map (AV.ren f) = CA) (rB : ∀ f, CB.map (AV.ren f) = CB) (rV : ∀ f, CV.map (AV.ren f) = CV) :
  Wide Tryz.prog gl 53 [.mcap 0 0 (a + b) c 1, .int .i64 (a : Nat), .msl 1 0 (m + 1) 1] [(0, .cells (CA ++ CB ++ P)), (1, .cells CV)] 2 (.msl 0 0 (a + (m + 1) + b) 1) [(0, CA ++ CV ++ CB)] 1 := by
 skip
 have hTV : List.take ((m + 1)) CV = CV := List.take_of_length_le (by omega)
 have hm1 : (((m + 1 : Nat) : Int) == 0) = false := by simp; omega
 have hz2 : ((a : Nat) : Int) + ((m + 1 : Nat) : Int) = ((a + (m + 1) : Nat) : Int) := by omega
 have hz3 : ((a + b : Nat) : Int) + ((m + 1 : Nat) : Int) = ((a + b + (m + 1) : Nat) : Int) := by omega
 have hz4 : ((a + b + (m + 1) : Nat) : Int) - (a : Int) = ((b + (m + 1) : Nat) : Int) := by omega
 have hn3 : a + (b + (m + 1)) - a = b + (m + 1) := by omega
 have hn4 : a + (b + (m + 1)) - (a + (m + 1)) = b := by omega
 have hq2 : min (m + 1) (b + (m + 1)) = m + 1 := by omega
 have hDA : List.drop (a) (CA ++ CB ++ P) = CB ++ P := by rw [List.append_assoc, List.drop_left' hA]
 have hTA : List.take (a) (CA ++ CB ++ P) = CA := by rw [List.append_assoc, List.take_left' hA]
 have hTB : List.take (b) (CB ++ P) = CB := List.take_left' hB
 have hZ : ∀ n, (List.replicate n [AV.sl 1 [] .full]).flatten.length = n := by intro n; simp
 have hab : (((a : Nat) : Int) == ((a + b : Nat) : Int)) = false := by simp; omega
 refine Wide.intro 1 mix names (fn := Tryz.f53) Tryz.func53 rfl fun F hF hro W => ?_
 simp -implicitDefEqProofs only [Tryz.ntmps53, Tryz.results53, entL, Nat.reduceAdd, Nat.reduceSub, ownA_zero, ownH_zero, hC_cons, hC_nil]
 repeat' (first
  | simp -implicitDefEqProofs (maxSteps := 9999999) only [↓reduceIte, runsY, lstY, facts, Nat.reduceAdd, Option.map_none, bnd, Nat.add_sub_cancel_left, *]
  | simp -implicitDefEqProofs (maxSteps := 9999999) (disch := first | assumption | omega) only [runsY, lstY, facts, if_pos, if_neg, Nat.reduceAdd, Nat.reduceEqDiff, Nat.reduceLT, Int.reduceLE, Option.map_none, bnd, Nat.sub_zero, Option.isSome_some, Nat.add_sub_cancel_left, wrap_in, aappZ, xcells, acapN, splice, acopy, List.length_append, List.length_take, List.length_drop, Nat.min_self, AV.keysOf, List.flatMap_cons, List.flatMap_nil, *]
  | ((with_reducible refine condK_dec (fun _ => ?_) (fun _ => ?_)) <;> try omega)
  | ((with_reducible refine OZ_drawn ?_); refine OZ_drawW (by decide +kernel) ?_)
  | ((with_reducible refine wend ?_ ?_); · decide +kernel))
 generalize hY : (List.replicate (b + (m + 1)) [AV.sl 1 [] .full]).flatten = Y
 have hYl : Y.length = (b + (m + 1)) := by rw [← hY, hZ]
 rw [show List.take (a) (CA ++ Y) = CA from List.take_left' hA]
 have hD : List.drop (a + (m + 1)) (CA ++ Y) = List.drop ((m + 1)) Y := by rw [← hA, List.drop_length_add_append]
 rw [hD, List.take_of_length_le (l := CB) (by omega), List.take_left' (by simp only [List.length_append]; omega), List.drop_of_length_le (by simp only [List.length_append, List.length_drop]; omega), show a + (m + 1) + b = a + (b + (m + 1)) by omega]
 exact WideK.oneM (cs := CA ++ CV ++ CB) (rest := []) (by simp [hget]) (by rw [List.map_append, List.map_append, rA, rB, rV])
set_option maxRecDepth 100000 in
theorem ins0Ce (CA CB : List AV) (a b : Nat) (hl : CA.length = a) (rA : ∀ f, (CA ++ CB).map (AV.ren f) = CA ++ CB) :
  Wide Tryz.prog gl 53 [.msl 0 0 (a + b) 1, .int .i64 (a : Nat), .sl 1 [] .mut] [(0, .cells (CA ++ CB))] 2 (.msl 0 0 (a + b) 1) [(0, CA ++ CB)] 1 := by
 generalize CA ++ CB = X at rA ⊢
 clear hl
 refine Wide.intro 1 mix names (fn := Tryz.f53) Tryz.func53 rfl fun F hF hro W => ?_
 simp -implicitDefEqProofs only [Tryz.ntmps53, Tryz.results53, entL, Nat.reduceAdd, Nat.reduceSub, ownA_zero, ownH_zero, hC_cons, hC_nil]
 rcases Nat.eq_zero_or_pos b with hb | hb
 ·subst hb
  repeat' (first
  | simp -implicitDefEqProofs (maxSteps := 9999999) only [runsY, lstY, facts, Nat.reduceAdd, Option.map_none, bnd, *]
  | simp -implicitDefEqProofs (maxSteps := 9999999) (disch := first | assumption | omega) only [runsY, lstY, facts, if_pos, if_neg, Nat.reduceAdd, *])
  exact WideK.oneM (cs := X) (rest := []) (by simp [hget]) (rA _)
 ·repeat' (first
  | simp -implicitDefEqProofs (maxSteps := 9999999) only [runsY, lstY, facts, Nat.reduceAdd, Option.map_none, bnd, Nat.add_sub_cancel_left, *]
  | simp -implicitDefEqProofs (maxSteps := 9999999) (disch := first | assumption | omega) only [runsY, lstY, facts, if_pos, Nat.reduceAdd, *])
  exact WideK.oneM (cs := X) (rest := []) (by simp [hget]) (rA _)
theorem insertCe_wide (CA CB CV : List AV) (a b m : Nat) (hA : CA.length = a) (hB : CB.length = b) (hV : CV.length = m) (oA : CA.all AV.one = true) (oB : CB.all AV.one = true) (oV : CV.all AV.one = true) (rA : ∀ f, CA.map (AV.ren f) = CA) (rB : ∀ f, CB.map (AV.ren f) = CB) (rV : ∀ f, CV.map (AV.ren f) = CV)
  (hbd : a + b + m ≤ 1000000) : Wide Tryz.prog gl 53 [.msl 0 0 (a + b) 1, .int .i64 (a : Nat), ownA 1 1 m] (hC ((0, CA ++ CB) :: ownH 1 CV m)) 2 (.msl 0 0 (a + m + b) 1) [(0, CA ++ CV ++ CB)] 1 := by
 cases m with
 | zero =>
  have hv0 : CV = [] := List.eq_nil_of_length_eq_zero (by omega)
  subst hv0
  rw [List.append_nil]
  exact ins0Ce CA CB a b hA (fun f => by rw [List.map_append, rA, rB])
 | succ m =>
  simp only [ownA_succ, ownH_succ, hC_cons, hC_nil]
  refine Wide.cap (cs := CA ++ CB) (by simp [hget]) fun c hc => ?_
  rw [hset_head]
  have hPl : (List.replicate (c * 1 - (CA ++ CB).length) AV.ud).length = c - (a + b) := by rw [List.length_replicate, List.length_append, hA, hB]; omega
  by_cases hcap : a + b + (m + 1) ≤ c <;> rcases Nat.eq_zero_or_pos b with hb | hb
  ·exact insACe CA CB CV _ a b m c hA hB hV hPl oA oB oV hbd hc hcap hb rA rB rV
  ·exact insBCe CA CB CV _ a b m c hA hB hV hPl oA oB oV hbd hc hcap hb rA rB rV
  ·exact insCCe CA CB CV _ a b m c hA hB hV hPl oA oB oV hbd hc hcap hb rA rB rV
  ·exact insDCe CA CB CV _ a b m c hA hB hV hPl oA oB oV hbd hc hcap hb rA rB rV
end Go.Proofs.Pv
namespace Go.Proofs.Pv
open Go Go.Proofs
set_option linter.unusedSimpArgs false
set_option linter.unusedVariables false
set_option maxRecDepth 100000 in
set_option maxHeartbeats 4000000 in
theorem insADy (CA CB CV P : List AV) (a b m c : Nat) (hA : CA.length = a) (hB : CB.length = b) (hV : CV.length = (m + 1)) (hPl : P.length = c - (a + b)) (oA : CA.all AV.one = true) (oB : CB.all AV.one = true) (oV : CV.all AV.one = true) (hbd : a + b + (m + 1) ≤ 1000000) (hc : a + b ≤ c) (hcap : a + b + (m + 1) ≤ c) (hb : b = 0) (rA : ∀ f, CA.map (AV.ren f) = CA) (rB : ∀ f, CB.map (AV.ren f) = CB) (rV : ∀ f, CV.map (AV.ren f) = CV) :
  Wide Tryz.prog gl 54 [.mcap 0 0 (a + b) c 1, .int .i64 (a : Nat), .msl 1 0 (m + 1) 1] [(0, .cells (CA ++ CB ++ P)), (1, .cells CV)] 2 (.msl 0 0 (a + (m + 1) + b) 1) [(0, CA ++ CV ++ CB)] 1 := by
 subst hb
 have hTV : List.take ((m + 1)) CV = CV := List.take_of_length_le (by omega)
 have hm1 : (((m + 1 : Nat) : Int) == 0) = false := by simp; omega
 have hlen : (CA ++ CB ++ P).length = c := by simp [hA, hB, hPl]; omega
 have hTA : List.take (a) (CA ++ CB ++ P) = CA := by rw [List.append_assoc, List.take_left' hA]
 refine Wide.intro 1 mix names (fn := Tryz.f54) Tryz.func54 rfl fun F hF hro W => ?_
 simp -implicitDefEqProofs only [Tryz.ntmps54, Tryz.results54, entL, Nat.reduceAdd, Nat.reduceSub, ownA_zero, ownH_zero, hC_cons, hC_nil]
 repeat' (first
  | simp -implicitDefEqProofs (maxSteps := 9999999) only [runsY, lstY, facts, Nat.reduceAdd, Option.map_none, bnd, *]
  | simp -implicitDefEqProofs (maxSteps := 9999999) (disch := first | assumption | omega) only [runsY, lstY, facts, if_pos, Nat.reduceAdd, Nat.reduceEqDiff, Nat.reduceLT, aappC, xcells, aappM_mcap, splice, *])
 have hCB : CB = [] := List.eq_nil_of_length_eq_zero (by omega)
 exact WideK.one (cs := CA ++ CV ++ CB) (rest := List.drop (a + (m + 1)) (CA ++ CB ++ P)) (by rw [hCB]; simp [hget]) (by rw [List.map_append, List.map_append, rA, rB, rV])
set_option maxRecDepth 100000 in
set_option maxHeartbeats 4000000 in
theorem insCDy (CA CB CV P : List AV) (a b m c : Nat) (hA : CA.length = a) (hB : CB.length = b) (hV : CV.length = (m + 1)) (hPl : P.length = c - (a + b)) (oA : CA.all AV.one = true) (oB : CB.all AV.one = true) (oV : CV.all AV.one = true) (hbd : a + b + (m + 1) ≤ 1000000) (hc : a + b ≤ c) (hcap : ¬ a + b + (m + 1) ≤ c) (hb : b = 0) (rA : ∀ f, CA.map (AV.ren f) = CA) (rB : ∀ f, CB.map (AV.ren f) = CB) (rV : ∀ f, CV.map (AV.ren f) = CV) :
  Wide Tryz.prog gl 54 [.mcap 0 0 (a + b) c 1, .int .i64 (a : Nat), .msl 1 0 (m + 1) 1] [(0, .cells (CA ++ CB ++ P)), (1, .cells CV)] 2 (.msl 0 0 (a + (m + 1) + b) 1) [(0, CA ++ CV ++ CB)] 1 := by
 subst hb
 have hTV : List.take ((m + 1)) CV = CV := List.take_of_length_le (by omega)
 have hm1 : (((m + 1 : Nat) : Int) == 0) = false := by simp; omega
 have hlen : (CA ++ CB ++ P).length = c := by simp [hA, hB, hPl]; omega
 have hTA : List.take (a) (CA ++ CB ++ P) = CA := by rw [List.append_assoc, List.take_left' hA]
 refine Wide.intro 1 mix names (fn := Tryz.f54) Tryz.func54 rfl fun F hF hro W => ?_
 simp -implicitDefEqProofs only [Tryz.ntmps54, Tryz.results54, entL, Nat.reduceAdd, Nat.reduceSub, ownA_zero, ownH_zero, hC_cons, hC_nil]
 repeat' (first
  | simp -implicitDefEqProofs (maxSteps := 9999999) only [runsY, lstY, facts, Nat.reduceAdd, Option.map_none, bnd, *]
  | simp -implicitDefEqProofs (maxSteps := 9999999) (disch := first | assumption | omega) only [runsY, lstY, facts, if_pos, if_neg, Nat.reduceAdd, Nat.reduceEqDiff, Nat.reduceLT, aappC, xcells, aappM_mcap, splice, *])
 have hCB : CB = [] := List.eq_nil_of_length_eq_zero (by omega)
 exact WideK.oneM (cs := CA ++ CV ++ CB) (rest := []) (by rw [hCB]; simp [hget]) (by rw [List.map_append, List.map_append, rA, rB, rV])
set_option maxRecDepth 100000 in
set_option maxHeartbeats 4000000 in
theorem insBDy (CA CB CV P : List AV) (a b m c : Nat) (hA : CA.length = a) (hB : CB.length = b) (hV : CV.length = (m + 1)) (hPl : P.length = c - (a + b)) (oA : CA.all AV.one = true) (oB : CB.all AV.one = true) (oV : CV.all AV.one = true) (hbd : a + b + (m + 1) ≤ 1000000) (hc : a + b ≤ c) (hcap : a + b + (m + 1) ≤ c) (hb : 0 < b) (rA : ∀ f, CA.map (AV.ren f) = CA) (rB : ∀ f, CB.map (AV.ren f) = CB) (rV : ∀ f, CV.map (AV.ren f) = CV) :
  Wide Tryz.prog gl 54 [.mcap 0 0 (a + b) c 1, .int .i64 (a : Nat), .msl 1 0 (m + 1) 1] [(0, .cells (CA ++ CB ++ P)), (1, .cells CV)] 2 (.msl 0 0 (a + (m + 1) + b) 1) [(0, CA ++ CV ++ CB)] 1 := by
 skip
 have hTV : List.take ((m + 1)) CV = CV := List.take_of_length_le (by omega)
 have hm1 : (((m + 1 : Nat) : Int) == 0) = false := by simp; omega
 have hz2 : ((a : Nat) : Int) + ((m + 1 : Nat) : Int) = ((a + (m + 1) : Nat) : Int) := by omega
 have hz3 : ((a + b : Nat) : Int) + ((m + 1 : Nat) : Int) = ((a + b + (m + 1) : Nat) : Int) := by omega
 have hn1 : a + b + (m + 1) - (a + (m + 1)) = b := by omega
 have hn2 : a + b + (m + 1) - a = b + (m + 1) := by omega
 have hq1 : min (b + (m + 1)) b = b := by omega
 have hq2 : min (m + 1) (b + (m + 1)) = m + 1 := by omega
 have hDA : List.drop (a) (CA ++ CB ++ P) = CB ++ P := by rw [List.append_assoc, List.drop_left' hA]
 have hTT : List.take (b) (List.take ((b + (m + 1))) (CB ++ P)) = CB := by rw [List.take_take, show min (b) ((b + (m + 1))) = b by omega, List.take_left' hB]
 have hab : (((a : Nat) : Int) == ((a + b : Nat) : Int)) = false := by simp; omega
 refine Wide.intro 1 mix names (fn := Tryz.f54) Tryz.func54 rfl fun F hF hro W => ?_
 simp -implicitDefEqProofs only [Tryz.ntmps54, Tryz.results54, entL, Nat.reduceAdd, Nat.reduceSub, ownA_zero, ownH_zero, hC_cons, hC_nil]
 repeat' (first
  | simp -implicitDefEqProofs (maxSteps := 9999999) only [↓reduceIte, runsY, lstY, facts, Nat.reduceAdd, Option.map_none, bnd, Nat.add_sub_cancel_left, *]
  | simp -implicitDefEqProofs (maxSteps := 9999999) (disch := first | assumption | omega) only [runsY, lstY, facts, if_pos, if_neg, Nat.reduceAdd, Nat.reduceEqDiff, Int.reduceLE, Option.map_none, bnd, Nat.sub_zero, Option.isSome_some, wrap_in, xcells, acapN, splice, acopy, List.length_append, List.length_take, List.length_drop, AV.keysOf, List.flatMap_cons, List.flatMap_nil, *]
  | ((with_reducible refine condK_dec (fun _ => ?_) (fun _ => ?_)) <;> try omega)
  | ((with_reducible refine OZ_drawn ?_); refine OZ_drawW (by decide +kernel) ?_)
  | ((with_reducible refine wend ?_ ?_); · decide +kernel)
  | ((with_reducible refine OZ_at 96 ?_); refine OZ_ext (ext_apart (fn := Tryz.f96) (t := 42) (r := 4) (e := 88) (k := 1) Tryz.func96 (by kernel_rfl) (by kernel_rfl) (by kernel_rfl) (by kernel_rfl) Tryz.underlying42 sz88 (q1 := 1) (q2 := 0) (cs1 := CV) (cs2 := CA ++ CB ++ P) rfl rfl (by decide) (by simp only [List.length_append]; omega) relMsl relMcap ?_)))
 obtain ⟨Z, hZ1, hZ2⟩ : ∃ Z, List.take ((a + (m + 1))) (CA ++ CB ++ P) = CA ++ Z ∧ Z.length = (m + 1) := by
  refine ⟨List.take ((m + 1)) (CB ++ P), ?_, by simp only [List.length_take, List.length_append]; omega⟩
  rw [List.append_assoc, show (a + (m + 1)) = CA.length + (m + 1) by omega, List.take_length_add_append]
 rw [hZ1, show a + b + (m + 1) = a + (m + 1) + b by omega]
 generalize List.drop ((a + (m + 1)) + b) (CA ++ CB ++ P) = D
 rw [show List.take (a) (CA ++ Z ++ CB ++ D) = CA by rw [List.append_assoc, List.append_assoc, List.take_left' hA], show List.drop (a + (m + 1)) (CA ++ Z ++ CB ++ D) = CB ++ D by rw [List.append_assoc, List.drop_left' (by simp only [List.length_append]; omega)]]
 exact WideK.one (cs := CA ++ CV ++ CB) (rest := D) (by simp [hget]) (by rw [List.map_append, List.map_append, rA, rB, rV])
set_option maxRecDepth 100000 in
set_option maxHeartbeats 4000000 in
theorem insDDy (CA CB CV P : List AV) (a b m c : Nat) (hA : CA.length = a) (hB : CB.length = b) (hV : CV.length = (m + 1)) (hPl : P.length = c - (a + b)) (oA : CA.all AV.one = true) (oB : CB.all AV.one = true) (oV : CV.all AV.one = true) (hbd : a + b + (m + 1) ≤ 1000000) (hc : a + b ≤ c) (hcap : ¬ a + b + (m + 1) ≤ c) (hb : 0 < b) (rA : ∀ f, CA.map (AV.ren f) = CA) (rB : ∀ f, CB.map (AV.ren f) = CB) (rV : ∀ f, CV.map (AV.ren f) = CV) :
  Wide Tryz.prog gl 54 [.mcap 0 0 (a + b) c 1, .int .i64 (a : Nat), .msl 1 0 (m + 1) 1] [(0, .cells (CA ++ CB ++ P)), (1, .cells CV)] 2 (.msl 0 0 (a + (m + 1) + b) 1) [(0, CA ++ CV ++ CB)] 1 := by
 skip
 have hTV : List.take ((m + 1)) CV = CV := List.take_of_length_le (by omega)
 have hm1 : (((m + 1 : Nat) : Int) == 0) = false := by simp; omega
 have hz2 : ((a : Nat) : Int) + ((m + 1 : Nat) : Int) = ((a + (m + 1) : Nat) : Int) := by omega
 have hz3 : ((a + b : Nat) : Int) + ((m + 1 : Nat) : Int) = ((a + b + (m + 1) : Nat) : Int) := by omega
 have hz4 : ((a + b + (m + 1) : Nat) : Int) - (a : Int) = ((b + (m + 1) : Nat) : Int) := by omega
 have hn3 : a + (b + (m + 1)) - a = b + (m + 1) := by omega
 have hn4 : a + (b + (m + 1)) - (a + (m + 1)) = b := by omega
 have hq2 : min (m + 1) (b + (m + 1)) = m + 1 := by omega
 have hDA : List.drop (a) (CA ++ CB ++ P) = CB ++ P := by rw [List.append_assoc, List.drop_left' hA]
 have hTA : List.take (a) (CA ++ CB ++ P) = CA := by rw [List.append_assoc, List.take_left' hA]
 have hTB : List.take (b) (CB ++ P) = CB := List.take_left' hB
 have hZ : ∀ n, (List.replicate n [AV.sl 4 [] .full]).flatten.length = n := by intro n; simp
 have hab : (((a : Nat) : Int) == ((a + b : Nat) : Int)) = false := by simp; omega
 refine Wide.intro 1 mix names (fn := Tryz.f54) Tryz.func54 rfl fun F hF hro W => ?_
 simp -implicitDefEqProofs only [Tryz.ntmps54, Tryz.results54, entL, Nat.reduceAdd, Nat.reduceSub, ownA_zero, ownH_zero, hC_cons, hC_nil]
 repeat' (first
  | simp -implicitDefEqProofs (maxSteps := 9999999) only [↓reduceIte, runsY, lstY, facts, Nat.reduceAdd, Option.map_none, bnd, Nat.add_sub_cancel_left, *]
  | simp -implicitDefEqProofs (maxSteps := 9999999) (disch := first | assumption | omega) only [runsY, lstY, facts, if_pos, if_neg, Nat.reduceAdd, Nat.reduceEqDiff, Nat.reduceLT, Int.reduceLE, Option.map_none, bnd, Nat.sub_zero, Option.isSome_some, Nat.add_sub_cancel_left, wrap_in, aappZ, xcells, acapN, splice, acopy, List.length_append, List.length_take, List.length_drop, Nat.min_self, AV.keysOf, List.flatMap_cons, List.flatMap_nil, *]
  | ((with_reducible refine condK_dec (fun _ => ?_) (fun _ => ?_)) <;> try omega)
  | ((with_reducible refine OZ_drawn ?_); refine OZ_drawW (by decide +kernel) ?_)
  | ((with_reducible refine wend ?_ ?_); · decide +kernel))
 generalize hY : (List.replicate (b + (m + 1)) [AV.sl 4 [] .full]).flatten = Y
 have hYl : Y.length = (b + (m + 1)) := by rw [← hY, hZ]
 rw [show List.take (a) (CA ++ Y) = CA from List.take_left' hA]
 have hD : List.drop (a + (m + 1)) (CA ++ Y) = List.drop ((m + 1)) Y := by rw [← hA, List.drop_length_add_append]
 rw [hD, List.take_of_length_le (l := CB) (by omega), List.take_left' (by simp only [List.length_append]; omega), List.drop_of_length_le (by simp only [List.length_append, List.length_drop]; omega), show a + (m + 1) + b = a + (b + (m + 1)) by omega]
 exact WideK.oneM (cs := CA ++ CV ++ CB) (rest := []) (by simp [hget]) (by rw [List.map_append, List.map_append, rA, rB, rV])
set_option maxRecDepth 100000 in
theorem ins0Dy (CA CB : List AV) (a b : Nat) (hl : CA.length = a) (rA : ∀ f, (CA ++ CB).map (AV.ren f) = CA ++ CB) :
  Wide Tryz.prog gl 54 [.msl 0 0 (a + b) 1, .int .i64 (a : Nat), .sl 1 [] .mut] [(0, .cells (CA ++ CB))] 2 (.msl 0 0 (a + b) 1) [(0, CA ++ CB)] 1 := by
 generalize CA ++ CB = X at rA ⊢
 clear hl
 refine Wide.intro 1 mix names (fn := Tryz.f54) Tryz.func54 rfl fun F hF hro W => ?_
 simp -implicitDefEqProofs only [Tryz.ntmps54, Tryz.results54, entL, Nat.reduceAdd, Nat.reduceSub, ownA_zero, ownH_zero, hC_cons, hC_nil]
 rcases Nat.eq_zero_or_pos b with hb | hb
 ·subst hb
  repeat' (first
  | simp -implicitDefEqProofs (maxSteps := 9999999) only [runsY, lstY, facts, Nat.reduceAdd, Option.map_none, bnd, *]
  | simp -implicitDefEqProofs (maxSteps := 9999999) (disch := first | assumption | omega) only [runsY, lstY, facts, if_pos, if_neg, Nat.reduceAdd, *])
  exact WideK.oneM (cs := X) (rest := []) (by simp [hget]) (rA _)
 ·repeat' (first
  | simp -implicitDefEqProofs (maxSteps := 9999999) only [runsY, lstY, facts, Nat.reduceAdd, Option.map_none, bnd, Nat.add_sub_cancel_left, *]
  | simp -implicitDefEqProofs (maxSteps := 9999999) (disch := first | assumption | omega) only [runsY, lstY, facts, if_pos, Nat.reduceAdd, *])
  exact WideK.oneM (cs := X) (rest := []) (by simp [hget]) (rA _)
theorem insertDy_wide (CA CB CV : List AV) (a b m : Nat) (hA : CA.length = a) (hB : CB.length = b) (hV : CV.length = m) (oA : CA.all AV.one = true) (oB : CB.all AV.one = true) (oV : CV.all AV.one = true) (rA : ∀ f, CA.map (AV.ren f) = CA) (rB : ∀ f, CB.map (AV.ren f) = CB) (rV : ∀ f, CV.map (AV.ren f) = CV)
  (hbd : a + b + m ≤ 1000000) : Wide Tryz.prog gl 54 [.msl 0 0 (a + b) 1, .int .i64 (a : Nat), ownA 1 1 m] (hC ((0, CA ++ CB) :: ownH 1 CV m)) 2 (.msl 0 0 (a + m + b) 1) [(0, CA ++ CV ++ CB)] 1 := by
 cases m with
 | zero =>
  have hv0 : CV = [] := List.eq_nil_of_length_eq_zero (by omega)
  subst hv0
  rw [List.append_nil]
  exact ins0Dy CA CB a b hA (fun f => by rw [List.map_append, rA, rB])
 | succ m =>
  simp only [ownA_succ, ownH_succ, hC_cons, hC_nil]
  refine Wide.cap (cs := CA ++ CB) (by simp [hget]) fun c hc => ?_
  rw [hset_head]
  have hPl : (List.replicate (c * 1 - (CA ++ CB).length) AV.ud).length = c - (a + b) := by rw [List.length_replicate, List.length_append, hA, hB]; omega
  by_cases hcap : a + b + (m + 1) ≤ c <;> rcases Nat.eq_zero_or_pos b with hb | hb
  ·exact insADy CA CB CV _ a b m c hA hB hV hPl oA oB oV hbd hc hcap hb rA rB rV
  ·exact insBDy CA CB CV _ a b m c hA hB hV hPl oA oB oV hbd hc hcap hb rA rB rV
  ·exact insCDy CA CB CV _ a b m c hA hB hV hPl oA oB oV hbd hc hcap hb rA rB rV
  ·exact insDDy CA CB CV _ a b m c hA hB hV hPl oA oB oV hbd hc hcap hb rA rB rV
end Go.Proofs.Pv
