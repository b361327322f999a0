/-
  slices.Insert at events.
  Conditions: a million events at most; the new ones in a block of their own.
-/
import Derived.Test.YtjcjhlnccglmkaaGreatDoorC09e
import Derived.Test.YtjcjhlnccglmkaaGreatDoorPvBF
namespace Go.Proofs.Pv
open Go Go.Proofs
set_option linter.unusedSimpArgs false
set_option linter.unusedVariables false
theorem hset_head {k : Nat} {b b' : Blk} {r : List (Nat × Blk)} : hset ((k, b) :: r) k b' = (k, b') :: r := by simp [hset]
set_option maxRecDepth 100000 in
set_option maxHeartbeats 4000000 in
theorem insA (CA CB CV P : List AV) (a b m c : Nat) (hA : CA.length = a * 9) (hB : CB.length = b * 9) (hV : CV.length = (m + 1) * 9) (hPl : P.length = c * 9 - (a + b) * 9) (oA : CA.all AV.one = true) (oB : CB.all AV.one = true) (oV : CV.all AV.one = true) (hbd : a + b + (m + 1) ≤ 1000000) (hc : a + b ≤ c) (hcap : a + b + (m + 1) ≤ c) (hb : b = 0) (rA : ∀ f, CA.map (AV.ren f) = CA) (rB : ∀ f, CB.map (AV.ren f) = CB) (rV : ∀ f, CV.map (AV.ren f) = CV) :
    Wide Tryz.prog gl 82 [.mcap 0 0 (a + b) c 9, .int .i64 (a : Nat), .msl 1 0 (m + 1) 9] [(0, .cells (CA ++ CB ++ P)), (1, .cells CV)] 2 (.msl 0 0 (a + (m + 1) + b) 9) [(0, CA ++ CV ++ CB)] 1 := by
  subst hb
  have hTV : List.take ((m + 1) * 9) CV = CV := List.take_of_length_le (by omega)
  have hm1 : (((m + 1 : Nat) : Int) == 0) = false := by simp; omega
  have hlen : (CA ++ CB ++ P).length = c * 9 := by simp [hA, hB, hPl]; omega
  have hTA : List.take (a * 9) (CA ++ CB ++ P) = CA := by rw [List.append_assoc, List.take_left' hA]
  refine Wide.intro 1 mix names (fn := Tryz.f82) Tryz.func82 rfl fun F hF hro W => ?_
  simp -implicitDefEqProofs only [Tryz.ntmps82, Tryz.results82, fr0, List.length_cons, List.length_nil, List.cons_append, List.nil_append, Nat.reduceAdd, Nat.reduceSub, List.replicate_succ, List.replicate_zero, ownA_zero, ownH_zero, hC_cons, hC_nil]
  repeat' (simp -implicitDefEqProofs (disch := first | assumption | omega) only [runsY, lstY, facts, if_pos, Nat.reduceAdd, Nat.reduceEqDiff, Nat.reduceLT, Option.map_none, bnd, aappC, xcells, aappM_mcap, splice, *])
  have hCB : CB = [] := List.eq_nil_of_length_eq_zero (by omega)
  exact WideK.one (cs := CA ++ CV ++ CB) (rest := List.drop (a * 9 + (m + 1) * 9) (CA ++ CB ++ P)) (by rw [hCB]; simp [hget]) (by rw [List.map_append, List.map_append, rA, rB, rV])
set_option maxRecDepth 100000 in
set_option maxHeartbeats 4000000 in
theorem insC (CA CB CV P : List AV) (a b m c : Nat) (hA : CA.length = a * 9) (hB : CB.length = b * 9) (hV : CV.length = (m + 1) * 9) (hPl : P.length = c * 9 - (a + b) * 9) (oA : CA.all AV.one = true) (oB : CB.all AV.one = true) (oV : CV.all AV.one = true) (hbd : a + b + (m + 1) ≤ 1000000) (hc : a + b ≤ c) (hcap : ¬ a + b + (m + 1) ≤ c) (hb : b = 0) (rA : ∀ f, CA.map (AV.ren f) = CA) (rB : ∀ f, CB.map (AV.ren f) = CB) (rV : ∀ f, CV.map (AV.ren f) = CV) :
    Wide Tryz.prog gl 82 [.mcap 0 0 (a + b) c 9, .int .i64 (a : Nat), .msl 1 0 (m + 1) 9] [(0, .cells (CA ++ CB ++ P)), (1, .cells CV)] 2 (.msl 0 0 (a + (m + 1) + b) 9) [(0, CA ++ CV ++ CB)] 1 := by
  subst hb
  have hTV : List.take ((m + 1) * 9) CV = CV := List.take_of_length_le (by omega)
  have hm1 : (((m + 1 : Nat) : Int) == 0) = false := by simp; omega
  have hlen : (CA ++ CB ++ P).length = c * 9 := by simp [hA, hB, hPl]; omega
  have hTA : List.take (a * 9) (CA ++ CB ++ P) = CA := by rw [List.append_assoc, List.take_left' hA]
  refine Wide.intro 1 mix names (fn := Tryz.f82) Tryz.func82 rfl fun F hF hro W => ?_
  simp -implicitDefEqProofs only [Tryz.ntmps82, Tryz.results82, fr0, List.length_cons, List.length_nil, List.cons_append, List.nil_append, Nat.reduceAdd, Nat.reduceSub, List.replicate_succ, List.replicate_zero, ownA_zero, ownH_zero, hC_cons, hC_nil]
  repeat' (simp -implicitDefEqProofs (disch := first | assumption | omega) only [runsY, lstY, facts, if_pos, if_neg, Nat.reduceAdd, Nat.reduceEqDiff, Nat.reduceLT, Option.map_none, bnd, aappC, xcells, aappM_mcap, splice, *])
  have hCB : CB = [] := List.eq_nil_of_length_eq_zero (by omega)
  exact WideK.oneM (cs := CA ++ CV ++ CB) (rest := []) (by rw [hCB]; simp [hget]) (by rw [List.map_append, List.map_append, rA, rB, rV])
set_option maxRecDepth 100000 in
set_option maxHeartbeats 4000000 in
theorem insB (CA CB CV P : List AV) (a b m c : Nat) (hA : CA.length = a * 9) (hB : CB.length = b * 9) (hV : CV.length = (m + 1) * 9) (hPl : P.length = c * 9 - (a + b) * 9) (oA : CA.all AV.one = true) (oB : CB.all AV.one = true) (oV : CV.all AV.one = true) (hbd : a + b + (m + 1) ≤ 1000000) (hc : a + b ≤ c) (hcap : a + b + (m + 1) ≤ c) (hb : 0 < b) (rA : ∀ f, CA.map (AV.ren f) = CA) (rB : ∀ f, CB.map (AV.ren f) = CB) (rV : ∀ f, CV.map (AV.ren f) = CV) :
    Wide Tryz.prog gl 82 [.mcap 0 0 (a + b) c 9, .int .i64 (a : Nat), .msl 1 0 (m + 1) 9] [(0, .cells (CA ++ CB ++ P)), (1, .cells CV)] 2 (.msl 0 0 (a + (m + 1) + b) 9) [(0, CA ++ CV ++ CB)] 1 := by
  skip
  have hTV : List.take ((m + 1) * 9) CV = CV := List.take_of_length_le (by omega)
  have hm1 : (((m + 1 : Nat) : Int) == 0) = false := by simp; omega
  have hz2 : ((a : Nat) : Int) + ((m + 1 : Nat) : Int) = ((a + (m + 1) : Nat) : Int) := by omega
  have hz3 : ((a + b : Nat) : Int) + ((m + 1 : Nat) : Int) = ((a + b + (m + 1) : Nat) : Int) := by omega
  have hn1 : a + b + (m + 1) - (a + (m + 1)) = b := by omega
  have hn2 : a + b + (m + 1) - a = b + (m + 1) := by omega
  have hq1 : min (b + (m + 1)) b = b := by omega
  have hq2 : min (m + 1) (b + (m + 1)) = m + 1 := by omega
  have hDA : List.drop (a * 9) (CA ++ CB ++ P) = CB ++ P := by rw [List.append_assoc, List.drop_left' hA]
  have hTT : List.take (b * 9) (List.take ((b + (m + 1)) * 9) (CB ++ P)) = CB := by rw [List.take_take, show min (b * 9) ((b + (m + 1)) * 9) = b * 9 by omega, List.take_left' hB]
  have hab : (((a : Nat) : Int) == ((a + b : Nat) : Int)) = false := by simp; omega
  refine Wide.intro 1 mix names (fn := Tryz.f82) Tryz.func82 rfl fun F hF hro W => ?_
  simp -implicitDefEqProofs only [Tryz.ntmps82, Tryz.results82, fr0, List.length_cons, List.length_nil, List.cons_append, List.nil_append, Nat.reduceAdd, Nat.reduceSub, List.replicate_succ, List.replicate_zero, ownA_zero, ownH_zero, hC_cons, hC_nil]
  repeat' (first
    | simp -implicitDefEqProofs (disch := first | assumption | omega) only [runsY, lstY, facts, if_pos, if_neg, Nat.reduceAdd, Nat.reduceEqDiff, Int.reduceLE, Option.map_none, bnd, Nat.zero_mul, Nat.sub_zero, Option.isSome_some, Nat.add_sub_cancel_left, wrap_in, xcells, acapN, splice, acopy, List.length_append, List.length_take, List.length_drop, AV.keysOf, List.flatMap_cons, List.flatMap_nil, *]
    | ((with_reducible refine condK_dec (fun _ => ?_) (fun _ => ?_)) <;> try (exfalso; omega))
    | ((with_reducible refine OZ_drawn ?_); refine OZ_drawW (by decide +kernel) ?_)
    | ((with_reducible refine wend ?_ ?_); · decide +kernel)
    | ((with_reducible refine OZ_at 83 ?_); refine OZ_ext (ext_apart (fn := Tryz.f83) (t := 28) (r := 4) (e := 56) (k := 9) Tryz.func83 (by kernel_rfl) (by kernel_rfl) (by kernel_rfl) (by kernel_rfl) Tryz.underlying28 sz56 (q1 := 1) (q2 := 0) (cs1 := CV) (cs2 := CA ++ CB ++ P) rfl rfl (by decide) (by simp only [List.length_append]; omega) relMsl relMcap ?_)))
  obtain ⟨Z, hZ1, hZ2⟩ : ∃ Z, List.take ((a + (m + 1)) * 9) (CA ++ CB ++ P) = CA ++ Z ∧ Z.length = (m + 1) * 9 := by
    refine ⟨List.take ((m + 1) * 9) (CB ++ P), ?_, by simp only [List.length_take, List.length_append]; omega⟩
    rw [List.append_assoc, show (a + (m + 1)) * 9 = CA.length + (m + 1) * 9 by omega, List.take_length_add_append]
  rw [hZ1, show a + b + (m + 1) = a + (m + 1) + b by omega]
  generalize List.drop ((a + (m + 1)) * 9 + b * 9) (CA ++ CB ++ P) = D
  rw [show List.take (a * 9) (CA ++ Z ++ CB ++ D) = CA by rw [List.append_assoc, List.append_assoc, List.take_left' hA], show List.drop (a * 9 + (m + 1) * 9) (CA ++ Z ++ CB ++ D) = CB ++ D by rw [List.append_assoc, List.drop_left' (by simp only [List.length_append]; omega)]]
  exact WideK.one (cs := CA ++ CV ++ CB) (rest := D) (by simp [hget]) (by rw [List.map_append, List.map_append, rA, rB, rV])
set_option maxRecDepth 100000 in
set_option maxHeartbeats 4000000 in
theorem insD (CA CB CV P : List AV) (a b m c : Nat) (hA : CA.length = a * 9) (hB : CB.length = b * 9) (hV : CV.length = (m + 1) * 9) (hPl : P.length = c * 9 - (a + b) * 9) (oA : CA.all AV.one = true) (oB : CB.all AV.one = true) (oV : CV.all AV.one = true) (hbd : a + b + (m + 1) ≤ 1000000) (hc : a + b ≤ c) (hcap : ¬ a + b + (m + 1) ≤ c) (hb : 0 < b) (rA : ∀ f, CA.map (AV.ren f) = CA) (rB : ∀ f, CB.map (AV.ren f) = CB) (rV : ∀ f, CV.map (AV.ren f) = CV) :
    Wide Tryz.prog gl 82 [.mcap 0 0 (a + b) c 9, .int .i64 (a : Nat), .msl 1 0 (m + 1) 9] [(0, .cells (CA ++ CB ++ P)), (1, .cells CV)] 2 (.msl 0 0 (a + (m + 1) + b) 9) [(0, CA ++ CV ++ CB)] 1 := by
  skip
  have hTV : List.take ((m + 1) * 9) CV = CV := List.take_of_length_le (by omega)
  have hm1 : (((m + 1 : Nat) : Int) == 0) = false := by simp; omega
  have hz2 : ((a : Nat) : Int) + ((m + 1 : Nat) : Int) = ((a + (m + 1) : Nat) : Int) := by omega
  have hz3 : ((a + b : Nat) : Int) + ((m + 1 : Nat) : Int) = ((a + b + (m + 1) : Nat) : Int) := by omega
  have hz4 : ((a + b + (m + 1) : Nat) : Int) - (a : Int) = ((b + (m + 1) : Nat) : Int) := by omega
  have hn3 : a + (b + (m + 1)) - a = b + (m + 1) := by omega
  have hn4 : a + (b + (m + 1)) - (a + (m + 1)) = b := by omega
  have hq2 : min (m + 1) (b + (m + 1)) = m + 1 := by omega
  have hDA : List.drop (a * 9) (CA ++ CB ++ P) = CB ++ P := by rw [List.append_assoc, List.drop_left' hA]
  have hTA : List.take (a * 9) (CA ++ CB ++ P) = CA := by rw [List.append_assoc, List.take_left' hA]
  have hTB : List.take (b * 9) (CB ++ P) = CB := List.take_left' hB
  have hZ : ∀ n, (List.replicate n [AV.int .i64 0, AV.sl 3 [] .full, AV.sl 1 [] .full, AV.int .i64 0, AV.int .i64 0, AV.int .i64 0, AV.int .i64 0, AV.sl 1 [] .full, AV.str { data := #[] }]).flatten.length = n * 9 := by intro n; simp
  have hab : (((a : Nat) : Int) == ((a + b : Nat) : Int)) = false := by simp; omega
  refine Wide.intro 1 mix names (fn := Tryz.f82) Tryz.func82 rfl fun F hF hro W => ?_
  simp -implicitDefEqProofs only [Tryz.ntmps82, Tryz.results82, fr0, List.length_cons, List.length_nil, List.cons_append, List.nil_append, Nat.reduceAdd, Nat.reduceSub, List.replicate_succ, List.replicate_zero, ownA_zero, ownH_zero, hC_cons, hC_nil]
  repeat' (first
    | simp -implicitDefEqProofs (disch := first | assumption | omega) only [runsY, lstY, facts, if_pos, if_neg, Nat.reduceAdd, Nat.reduceEqDiff, Nat.reduceLT, Int.reduceLE, Option.map_none, bnd, Nat.zero_mul, Nat.sub_zero, Option.isSome_some, Nat.add_sub_cancel_left, wrap_in, aappZ, xcells, acapN, splice, acopy, List.length_append, List.length_take, List.length_drop, Nat.min_self, AV.keysOf, List.flatMap_cons, List.flatMap_nil, *]
    | ((with_reducible refine condK_dec (fun _ => ?_) (fun _ => ?_)) <;> try (exfalso; omega))
    | ((with_reducible refine OZ_drawn ?_); refine OZ_drawW (by decide +kernel) ?_)
    | ((with_reducible refine wend ?_ ?_); · decide +kernel))
  generalize hY : (List.replicate (b + (m + 1)) [AV.int .i64 0, AV.sl 3 [] .full, AV.sl 1 [] .full, AV.int .i64 0, AV.int .i64 0, AV.int .i64 0, AV.int .i64 0, AV.sl 1 [] .full, AV.str { data := #[] }]).flatten = Y
  have hYl : Y.length = (b + (m + 1)) * 9 := by rw [← hY, hZ]
  rw [show List.take (a * 9) (CA ++ Y) = CA from List.take_left' hA]
  have hD : List.drop (a * 9 + (m + 1) * 9) (CA ++ Y) = List.drop ((m + 1) * 9) Y := by rw [← hA, List.drop_length_add_append]
  rw [hD, List.take_of_length_le (l := CB) (by omega), List.take_left' (by simp only [List.length_append]; omega), List.drop_of_length_le (by simp only [List.length_append, List.length_drop]; omega), show a + (m + 1) + b = a + (b + (m + 1)) by omega]
  exact WideK.oneM (cs := CA ++ CV ++ CB) (rest := []) (by simp [hget]) (by rw [List.map_append, List.map_append, rA, rB, rV])
set_option maxRecDepth 100000 in
theorem ins0 (CA CB : List AV) (a b : Nat) (hl : CA.length = a * 9) (rA : ∀ f, (CA ++ CB).map (AV.ren f) = CA ++ CB) :
    Wide Tryz.prog gl 82 [.msl 0 0 (a + b) 9, .int .i64 (a : Nat), .sl 9 [] .mut] [(0, .cells (CA ++ CB))] 2 (.msl 0 0 (a + b) 9) [(0, CA ++ CB)] 1 := by
  generalize CA ++ CB = X at rA ⊢
  clear hl
  refine Wide.intro 1 mix names (fn := Tryz.f82) Tryz.func82 rfl fun F hF hro W => ?_
  simp -implicitDefEqProofs only [Tryz.ntmps82, Tryz.results82, fr0, List.length_cons, List.length_nil, List.cons_append, List.nil_append, Nat.reduceAdd, Nat.reduceSub, List.replicate_succ, List.replicate_zero, ownA_zero, ownH_zero, hC_cons, hC_nil]
  rcases Nat.eq_zero_or_pos b with hb | hb
  · subst hb
    repeat' (simp -implicitDefEqProofs (disch := first | assumption | omega) only [runsY, lstY, facts, if_pos, if_neg, Nat.reduceAdd, Option.map_none, bnd, *])
    exact WideK.oneM (cs := X) (rest := []) (by simp [hget]) (rA _)
  · repeat' (simp -implicitDefEqProofs (disch := first | assumption | omega) only [runsY, lstY, facts, if_pos, Nat.reduceAdd, Option.map_none, bnd, Nat.add_sub_cancel_left, *])
    exact WideK.oneM (cs := X) (rest := []) (by simp [hget]) (rA _)
/-- slices.Insert at events. -/
theorem insertEv_wide (CA CB CV : List AV) (a b m : Nat) (hA : CA.length = a * 9) (hB : CB.length = b * 9) (hV : CV.length = m * 9) (oA : CA.all AV.one = true) (oB : CB.all AV.one = true) (oV : CV.all AV.one = true) (rA : ∀ f, CA.map (AV.ren f) = CA) (rB : ∀ f, CB.map (AV.ren f) = CB) (rV : ∀ f, CV.map (AV.ren f) = CV)
    (hbd : a + b + m ≤ 1000000) : Wide Tryz.prog gl 82 [.msl 0 0 (a + b) 9, .int .i64 (a : Nat), ownA 1 9 m] (hC ((0, CA ++ CB) :: ownH 1 CV m)) 2 (.msl 0 0 (a + m + b) 9) [(0, CA ++ CV ++ CB)] 1 := by
  cases m with
  | zero =>
    have hv0 : CV = [] := List.eq_nil_of_length_eq_zero (by omega)
    subst hv0
    rw [List.append_nil]
    exact ins0 CA CB a b hA (fun f => by rw [List.map_append, rA, rB])
  | succ m =>
    simp only [ownA_succ, ownH_succ, hC_cons, hC_nil]
    refine Wide.cap (cs := CA ++ CB) (by simp [hget]) fun c hc => ?_
    rw [hset_head]
    have hPl : (List.replicate (c * 9 - (CA ++ CB).length) AV.undef).length = c * 9 - (a + b) * 9 := by simp [hA, hB]; omega
    by_cases hcap : a + b + (m + 1) ≤ c <;> rcases Nat.eq_zero_or_pos b with hb | hb
    · exact insA CA CB CV _ a b m c hA hB hV hPl oA oB oV hbd hc hcap hb rA rB rV
    · exact insB CA CB CV _ a b m c hA hB hV hPl oA oB oV hbd hc hcap hb rA rB rV
    · exact insC CA CB CV _ a b m c hA hB hV hPl oA oB oV hbd hc hcap hb rA rB rV
    · exact insD CA CB CV _ a b m c hA hB hV hPl oA oB oV hbd hc hcap hb rA rB rV
end Go.Proofs.Pv
