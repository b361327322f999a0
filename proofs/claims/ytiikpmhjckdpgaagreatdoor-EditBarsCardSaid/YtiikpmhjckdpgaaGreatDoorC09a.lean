/-
  Layer 9's edits: copies of plain slices.
  Layer 9's edits: copies of events.
  Layer 9's edits: copies of voices.
  Layer 9's edits: copies of cells, and of dynamics.
  Conditions: none but those that each statement names.
-/
import Derived.Test.YtiikpmhjckdpgaaGreatDoorF08
import Derived.Test.YtiikpmhjckdpgaaGreatDoorD08
namespace Go.Proofs.Pv
set_option linter.unusedSimpArgs false
set_option linter.unusedVariables false
open Go Go.Proofs
theorem cloneInt_ok (l : List Int) (hl : l.length ≤ 1000000) : PC Tryz.prog gl 80 [.sl 1 (l.map (AV.int .i64)) .none] (fun v => v = .sl 1 (l.map (AV.int .i64)) .none) := by
 cases l with
 | nil =>
  (refine PC.introZ 1 mix (fn := Tryz.f80) Tryz.func80 rfl (names 80 _ Tryz.func80) fun F hF hro W => ?_; simp -implicitDefEqProofs only [Tryz.ntmps80, Tryz.results80, entL, Nat.reduceAdd, Nat.reduceSub])
  repeat' (first
  | simp -implicitDefEqProofs (disch := first | assumption | omega) only [runsY, lstY, facts, Nat.reduceAdd, aop2_bin, aop3_bin, anil_n, aop4_bin, emptySl_nil, isSlO_s, Option.map_none, *]
  | with_reducible refine sstep_stop ?_)
  refine OZ_both ?_ ?_
  all_goals repeat' (simp -implicitDefEqProofs (disch := first | assumption | omega) only [runsY, lstY, facts, if_pos, Nat.reduceAdd, Nat.reduceLT, Nat.reduceMul, *])
 | cons x l =>
  simp only [List.length_cons] at hl
  (refine PC.introZ 1 mix (fn := Tryz.f80) Tryz.func80 rfl (names 80 _ Tryz.func80) fun F hF hro W => ?_; simp -implicitDefEqProofs only [Tryz.ntmps80, Tryz.results80, entL, Nat.reduceAdd, Nat.reduceSub])
  repeat' (simp -implicitDefEqProofs (disch := first | assumption | omega) only [runsY, lstY, facts, if_pos, Nat.reduceAdd, Nat.reduceLT, aop2_bin, aop3_bin, anil_c, isSlO_s, Option.map_none, *])
  all_goals trace_state
theorem cloneBool_ok (l : List Bool) (hl : l.length ≤ 1000000) : PC Tryz.prog gl 87 [.sl 1 (l.map AV.bool) .none] (fun v => v = .sl 1 (l.map AV.bool) .none) := by
 cases l with
 | nil =>
  (refine PC.introZ 1 mix (fn := Tryz.f87) Tryz.func87 rfl (names 87 _ Tryz.func87) fun F hF hro W => ?_; simp -implicitDefEqProofs only [Tryz.ntmps87, Tryz.results87, entL, Nat.reduceAdd, Nat.reduceSub])
  repeat' (first
  | simp -implicitDefEqProofs (disch := first | assumption | omega) only [runsY, lstY, facts, Nat.reduceAdd, aop2_bin, aop3_bin, anil_n, aop4_bin, emptySl_nil, isSlO_s, Option.map_none, *]
  | with_reducible refine sstep_stop ?_)
  refine OZ_both ?_ ?_
  all_goals repeat' (simp -implicitDefEqProofs (disch := first | assumption | omega) only [runsY, lstY, facts, if_pos, Nat.reduceAdd, Nat.reduceLT, *])
 | cons x l =>
  simp only [List.length_cons] at hl
  (refine PC.introZ 1 mix (fn := Tryz.f87) Tryz.func87 rfl (names 87 _ Tryz.func87) fun F hF hro W => ?_; simp -implicitDefEqProofs only [Tryz.ntmps87, Tryz.results87, entL, Nat.reduceAdd, Nat.reduceSub])
  repeat' (simp -implicitDefEqProofs (disch := first | assumption | omega) only [runsY, lstY, facts, if_pos, Nat.reduceAdd, Nat.reduceLT, Nat.reduceLeDiff, aop2_bin, aop3_bin, anil_c, isSlO_s, Option.map_none, *])
  all_goals trace_state
theorem clonePi_ok (l : List Pi) (hl : l.length ≤ 1000000) : PC Tryz.prog gl 86 [.sl 3 (l.map Pi.av) .none] (fun v => v = .sl 3 (l.map Pi.av) .none) := by
 cases l with
 | nil =>
  (refine PC.introZ 1 mix (fn := Tryz.f86) Tryz.func86 rfl (names 86 _ Tryz.func86) fun F hF hro W => ?_; simp -implicitDefEqProofs only [Tryz.ntmps86, Tryz.results86, entL, Nat.reduceAdd, Nat.reduceSub])
  repeat' (first
  | simp -implicitDefEqProofs (disch := first | assumption | omega) only [runsY, lstY, facts, Nat.reduceAdd, aop2_bin, aop3_bin, anil_n, aop4_bin, emptySl_nil, isSlO_s, Option.map_none, *]
  | with_reducible refine sstep_stop ?_)
  refine OZ_both ?_ ?_
  all_goals repeat' (simp -implicitDefEqProofs (disch := first | assumption | omega) only [runsY, lstY, facts, if_pos, Nat.reduceAdd, Nat.reduceLT, Nat.reduceMul, *])
 | cons x l =>
  simp only [List.length_cons] at hl
  (refine PC.introZ 1 mix (fn := Tryz.f86) Tryz.func86 rfl (names 86 _ Tryz.func86) fun F hF hro W => ?_; simp -implicitDefEqProofs only [Tryz.ntmps86, Tryz.results86, entL, Nat.reduceAdd, Nat.reduceSub])
  repeat' (simp -implicitDefEqProofs (disch := first | assumption | omega) only [runsY, lstY, facts, if_pos, Nat.reduceAdd, Nat.reduceLT, Nat.reduceMul, aop2_bin, aop3_bin, anil_c, isSlO_s, Option.map_none, *])
  all_goals trace_state
theorem cloneDy_ok (l : List Dy) (hl : l.length ≤ 1000000) : PC Tryz.prog gl 43 [.sl 4 (l.map Dy.av) .none] (fun v => v = .sl 4 (l.map Dy.av) .none) := by
 cases l with
 | nil =>
  (refine PC.introZ 1 mix (fn := Tryz.f43) Tryz.func43 rfl (names 43 _ Tryz.func43) fun F hF hro W => ?_; simp -implicitDefEqProofs only [Tryz.ntmps43, Tryz.results43, entL, Nat.reduceAdd, Nat.reduceSub])
  repeat' (first
  | simp -implicitDefEqProofs (disch := first | assumption | omega) only [runsY, lstY, facts, Nat.reduceAdd, aop2_bin, aop3_bin, anil_n, aop4_bin, emptySl_nil, isSlO_s, Option.map_none, *]
  | with_reducible refine sstep_stop ?_)
  refine OZ_both ?_ ?_
  all_goals repeat' (simp -implicitDefEqProofs (disch := first | assumption | omega) only [runsY, lstY, facts, if_pos, Nat.reduceAdd, Nat.reduceLT, Nat.reduceMul, *])
 | cons x l =>
  simp only [List.length_cons] at hl
  (refine PC.introZ 1 mix (fn := Tryz.f43) Tryz.func43 rfl (names 43 _ Tryz.func43) fun F hF hro W => ?_; simp -implicitDefEqProofs only [Tryz.ntmps43, Tryz.results43, entL, Nat.reduceAdd, Nat.reduceSub])
  repeat' (simp -implicitDefEqProofs (disch := first | assumption | omega) only [runsY, lstY, facts, if_pos, Nat.reduceAdd, Nat.reduceLT, Nat.reduceMul, aop2_bin, aop3_bin, anil_c, isSlO_s, Option.map_none, *])
  all_goals trace_state
theorem cloneTe_ok (l : List Te) (hl : l.length ≤ 1000000) : PC Tryz.prog gl 81 [.sl 4 (l.map Te.av) .none] (fun v => v = .sl 4 (l.map Te.av) .none) := by
 cases l with
 | nil =>
  (refine PC.introZ 1 mix (fn := Tryz.f81) Tryz.func81 rfl (names 81 _ Tryz.func81) fun F hF hro W => ?_; simp -implicitDefEqProofs only [Tryz.ntmps81, Tryz.results81, entL, Nat.reduceAdd, Nat.reduceSub])
  repeat' (first
  | simp -implicitDefEqProofs (disch := first | assumption | omega) only [runsY, lstY, facts, Nat.reduceAdd, aop2_bin, aop3_bin, anil_n, aop4_bin, emptySl_nil, isSlO_s, Option.map_none, *]
  | with_reducible refine sstep_stop ?_)
  refine OZ_both ?_ ?_
  all_goals repeat' (simp -implicitDefEqProofs (disch := first | assumption | omega) only [runsY, lstY, facts, if_pos, Nat.reduceAdd, Nat.reduceLT, Nat.reduceMul, *])
 | cons x l =>
  simp only [List.length_cons] at hl
  (refine PC.introZ 1 mix (fn := Tryz.f81) Tryz.func81 rfl (names 81 _ Tryz.func81) fun F hF hro W => ?_; simp -implicitDefEqProofs only [Tryz.ntmps81, Tryz.results81, entL, Nat.reduceAdd, Nat.reduceSub])
  repeat' (simp -implicitDefEqProofs (disch := first | assumption | omega) only [runsY, lstY, facts, if_pos, Nat.reduceAdd, Nat.reduceLT, Nat.reduceMul, aop2_bin, aop3_bin, anil_c, isSlO_s, Option.map_none, *])
  all_goals trace_state
end Go.Proofs.Pv
namespace Go.Proofs.Pv
set_option linter.unusedVariables false
open Go Go.Proofs
set_option linter.unusedSimpArgs false
structure Ev.short (e : Ev) : Prop where
 p : e.pitches.length ≤ 1000000
 t : e.ties.length ≤ 1000000
 m : e.marks.length ≤ 1000000
set_option maxRecDepth 100000 in
theorem edEvents_own (l : List Ev) (hl : l.length ≤ 1000000) (hs : ∀ e ∈ l, e.short) : Own Tryz.prog gl 49 [.sl 9 (l.map Ev.av) .none] (ownA 0 9 l.length) (ownH 0 (l.flatMap Ev.cells) l.length) 1 := by
  (refine Own.intro 2 mix names (fn := Tryz.f49) Tryz.func49 rfl fun F hF hro W => ?_; simp -implicitDefEqProofs only [Tryz.ntmps49, Tryz.results49, entL, Nat.reduceAdd, Nat.reduceSub])
  repeat' (simp -implicitDefEqProofs (disch := first | assumption | omega) only [runsY, lstY, facts, Nat.reduceAdd, *])
  refine OZ_forR (mkM 30 [3, 6, 7, 8]) 101 l.length (fun i (_ : Unit) => ⟨[.ud, .ud, .ud, ownA 100 9 i, .ud, .ud, .sl 9 (l.map Ev.av) .none, .int .i64 (l.length : Nat), .int .i64 (i : Nat), .ud, .ud, .ud, .ud, .ud, .ud, .ud, .ud, .ud, .ud, .ud, .ud, .ud, .ud, .ud, .ud, .ud, .ud, .ud, .ud, .ud], []⟩) (fun i _ => ⟨hC (ownH 100 ((l.take i).flatMap Ev.cells) i), 101⟩) (fun i _ => i < 1000001) ⟨(), by omega, renK 5 [], gK 5 [], RenOk.of_fit rfl rfl rfl, HRen.nil, rfl, rfl⟩ ?_
  rintro i x hi hi2
  rcases Nat.lt_or_ge i l.length with hlt | hge
  · have he := hs l[i] (List.getElem_mem hlt)
    have hp := he.p
    have ht := he.t
    have hm := he.m
    rcases i with _ | i
    · simp only [ownA, ownH, hC, List.map_nil]
      repeat' (first
    | simp -implicitDefEqProofs (disch := first | assumption | omega) only [runsY, lstY, facts, if_pos, if_neg, Nat.reduceAdd, Nat.reduceEqDiff, Nat.reduceLT, Nat.reduceLeDiff, Int.reduceLE, Int.reduceAdd, aappM, xcells, List.flatMap_cons, List.flatMap_nil, AV.cells, true_or, AV.one, wrap_in, List.getElem?_eq_getElem, Ev.av, loopR_exit, *]
    | ((with_reducible refine w_at 86 ?_); refine wstep_call (clonePi_ok _ hp) (rfl) ?_)
    | ((with_reducible refine w_at 87 ?_); refine wstep_call (cloneBool_ok _ ht) (rfl) ?_)
    | ((with_reducible refine w_at 80 ?_); refine wstep_call (cloneInt_ok _ hm) (rfl) ?_)
    | ((with_reducible refine condK_dec (fun _ => ?_) (fun _ => ?_)) <;> try omega)
    | ((with_reducible refine OZ_drawn ?_); refine OZ_drawW (by decide +kernel) ?_)
    | ((with_reducible refine wend ?_ ?_); · decide +kernel))
      refine OZ_nextR 0 () hlt (by omega) (by omega) (renK 5 [(124, 100)]) (gK 5 [(124, 100)]) ?_ ?_ rfl ?_
      · exact RenOk.of_fit rfl rfl rfl
      · refine HRen.cons 124 rfl rfl ?_ HRen.nil
        rw [flat_take_succ hlt]; rfl
      · rfl
    · have hfl : ((l.take (i + 1)).flatMap Ev.cells).length = (i + 1) * 9 := by rw [flat_length (k := 9) (fun _ => rfl), List.length_take]; omega
      simp only [ownA, ownH, hC, List.map_cons, List.map_nil]
      repeat' (first
    | simp -implicitDefEqProofs (disch := first | assumption | omega) only [runsY, lstY, facts, if_pos, if_neg, Nat.reduceAdd, Nat.reduceEqDiff, Nat.reduceLT, Nat.reduceLeDiff, aappM, xcells, List.flatMap_cons, List.flatMap_nil, AV.cells, AV.one, wrap_in, List.getElem?_eq_getElem, Ev.av, loopR_exit, *]
    | ((with_reducible refine w_at 86 ?_); refine wstep_call (clonePi_ok _ hp) (rfl) ?_)
    | ((with_reducible refine w_at 87 ?_); refine wstep_call (cloneBool_ok _ ht) (rfl) ?_)
    | ((with_reducible refine w_at 80 ?_); refine wstep_call (cloneInt_ok _ hm) (rfl) ?_)
    | ((with_reducible refine condK_dec (fun _ => ?_) (fun _ => ?_)) <;> try omega)
    | ((with_reducible refine OZ_drawn ?_); refine OZ_drawW (by decide +kernel) ?_)
    | ((with_reducible refine wend ?_ ?_); · decide +kernel))
      refine OZ_nextR (i + 1) () hlt (by omega) (by omega) (renK 5 [(124, 100)]) (gK 5 [(124, 100)]) ?_ ?_ rfl ?_
      · exact RenOk.of_fit rfl rfl rfl
      · refine HRen.cons 124 rfl rfl ?_ HRen.nil
        rw [flat_take_succ hlt, List.map_append, evRen]; rfl
      · rfl
  · have : i = l.length := by omega
    subst this
    repeat' (first
    | simp -implicitDefEqProofs (disch := first | assumption | omega) only [runsY, lstY, facts, Nat.reduceAdd, loopR_exit, *]
    | ((with_reducible refine condK_dec (fun _ => ?_) (fun _ => ?_)) <;> try omega))
    rw [List.take_length]
    exact own_end fun f => evRen l
theorem edEvents_ok (l : List Ev) (hl : l.length ≤ 1000000) (hs : ∀ e ∈ l, e.short) : PC Tryz.prog gl 49 [.sl 9 (l.map Ev.av) .none] (fun v => v = .sl 9 (l.map Ev.av) .none) := by
 refine PC.of_own (edEvents_own l hl hs) 3 ?_
 cases l with
 | nil => rfl
 | cons x l =>
  refine (now_own (cs := (x :: l).flatMap Ev.cells) rfl (by decide) (nowFlat evNow _) (by rw [flat_length (k := 9) (fun _ => rfl)]; simp) (pureFlat (fun _ => rfl) _)).trans ?_
  have := chunksFlat (c := Ev.cells) (k := 9) (fun _ => rfl) (x :: l)
  simp only [List.length_cons] at this
  rw [show (!(Nat.beq 9 1)) = true from rfl, this]
  rfl
end Go.Proofs.Pv
namespace Go.Proofs.Pv
set_option linter.unusedVariables false
open Go Go.Proofs
set_option linter.unusedSimpArgs false
theorem ren_up {n k a b c : Nat} : AV.ren (up n) (.msl k a b c) = .msl (k + n) a b c := rfl
theorem hup_nil {n : Nat} : hup n [] = [] := rfl
theorem hup_cons {n k : Nat} {cs : List AV} {r : List (Nat × List AV)} : hup n ((k, cs) :: r) = (k + n, cs.map (AV.ren (up n))) :: hup n r := rfl
theorem hC_nil : hC [] = [] := rfl
theorem hC_cons {k : Nat} {cs : List AV} {r : List (Nat × List AV)} : hC ((k, cs) :: r) = (k, .cells cs) :: hC r := rfl
theorem ownA_succ {k s n : Nat} : ownA k s (n + 1) = .msl k 0 (n + 1) s := rfl
theorem ownA_zero {k s : Nat} : ownA k s 0 = .sl s [] .mut := rfl
theorem ownH_succ {k n : Nat} {cs : List AV} : ownH k cs (n + 1) = [(k, cs)] := rfl
theorem ownH_zero {k : Nat} {cs : List AV} : ownH k cs 0 = [] := rfl
def rowsAt (c : Nat → List AV) (i : Nat) : List AV := (List.range i).flatMap c
theorem rowsAt_succ {c : Nat → List AV} {i : Nat} : rowsAt c (i + 1) = rowsAt c i ++ c i := by
 unfold rowsAt
 rw [List.range_succ, List.flatMap_append]; simp
theorem rowsAt_zero {c : Nat → List AV} : rowsAt c 0 = [] := rfl
theorem rowsAt_len {c : Nat → List AV} {k : Nat} (h : ∀ j, (c j).length = k) (i : Nat) : (rowsAt c i).length = i * k := by
 unfold rowsAt; rw [flat_length h]; simp
theorem rowsAt_ren {f : Nat → Option Nat} {c c' : Nat → List AV} (i : Nat) (h : ∀ j, j < i → (c j).map (AV.ren f) = c' j) : (rowsAt c i).map (AV.ren f) = rowsAt c' i := by
 induction i with
 | zero => rfl
 | succ i ih => rw [rowsAt_succ, rowsAt_succ, List.map_append, ih fun j hj => h j (by omega), h i (by omega)]
def voC (q : Nat) (vs : List Vo) (j0 j : Nat) : List AV := [if j = j0 then .msl q 0 (vs.getD j ⟨[]⟩).l.length 9 else .sl 9 ((vs.getD j ⟨[]⟩).l.map Ev.av) .none]
theorem voC_ren {f : Nat → Option Nat} {q q' : Nat} (h : f q = some q') (vs : List Vo) (j0 j : Nat) : (voC q vs j0 j).map (AV.ren f) = voC q' vs j0 j := by
 by_cases hj : j = j0
 ·simp [voC, hj, AV.ren, h]
 ·simp [voC, hj, AV.ren]
theorem voC_other {f : Nat → Option Nat} {q q' : Nat} (vs : List Vo) (j0 j : Nat) (h : j ≠ j0) : (voC q vs j0 j).map (AV.ren f) = voC q' vs j0 j := by
 simp [voC, h, AV.ren]
def voH (q : Nat) (vs : List Vo) (j0 i : Nat) : List (Nat × List AV) := if j0 < i then [(q, (vs.getD j0 ⟨[]⟩).l.flatMap Ev.cells)] else []
set_option maxRecDepth 100000 in
theorem edVoices_own (vs : List Vo) (hl : vs.length ≤ 1000000) (hs : ∀ v ∈ vs, v.l.length ≤ 1000000 ∧ ∀ e ∈ v.l, e.short) (j0 : Nat) (hj : j0 < vs.length) (hne : ∀ v ∈ vs, 0 < v.l.length) :
    Own Tryz.prog gl 41 [.sl 1 (vs.map Vo.av) .none] (.msl 0 0 vs.length 1) [(0, rowsAt (voC 1 vs j0) vs.length), (1, (vs.getD j0 ⟨[]⟩).l.flatMap Ev.cells)] 2 := by
  (refine Own.intro 2 mix names (fn := Tryz.f41) Tryz.func41 rfl fun F hF hro W => ?_; simp -implicitDefEqProofs only [Tryz.ntmps41, Tryz.results41, entL, Nat.reduceAdd, Nat.reduceSub])
  repeat' (simp -implicitDefEqProofs (disch := first | assumption | omega) only [runsY, lstY, facts, Nat.reduceAdd, *])
  refine OZ_forR (mkM 21 [3, 6, 7, 8]) 102 vs.length (fun i (_ : Unit) => ⟨[.ud, .ud, .ud, ownA 100 1 i, .ud, .ud, .sl 1 (vs.map Vo.av) .none, .int .i64 (vs.length : Nat), .int .i64 (i : Nat), .ud, .ud, .ud, .ud, .ud, .ud, .ud, .ud, .ud, .ud, .ud, .ud], []⟩) (fun i _ => ⟨hC (ownH 100 (rowsAt (voC 101 vs j0) i) i ++ voH 101 vs j0 i), 102⟩) (fun i _ => i < 1000001) ⟨(), by omega, renK 5 [], gK 5 [], RenOk.of_fit rfl rfl rfl, by simp only [voH, if_neg (Nat.not_lt_zero _)]; exact HRen.nil, rfl, rfl⟩ ?_
  rintro i x hi hi2
  rcases Nat.lt_or_ge i vs.length with hlt | hge
  · have hv := hs vs[i] (List.getElem_mem hlt)
    have hn0 := hne vs[i] (List.getElem_mem hlt)
    have hget : vs.getD i ⟨[]⟩ = vs[i] := by rw [List.getD_eq_getElem?_getD, List.getElem?_eq_getElem hlt]; rfl
    obtain ⟨n, hn⟩ : ∃ n, vs[i].l.length = n + 1 := ⟨vs[i].l.length - 1, by omega⟩
    have hpc := edEvents_ok vs[i].l hv.1 hv.2
    have hown := edEvents_own vs[i].l hv.1 hv.2
    rw [hn] at hown
    simp only [ownA_succ, ownH_succ] at hown
    by_cases hij : i = j0
    · subst hij
      have hnlt : ¬ i < i := Nat.lt_irrefl i
      rcases i with _ | i
      · simp only [ownA_zero, ownH_zero, voH, if_neg hnlt, List.append_nil, hC_nil]
        repeat' (first
    | simp -implicitDefEqProofs (disch := first | assumption | omega) only [runsY, lstY, facts, if_pos, Nat.reduceAdd, Nat.reduceLT, Nat.reduceLeDiff, Int.reduceLE, Int.reduceAdd, aappM, xcells, List.flatMap_cons, List.flatMap_nil, AV.cells, true_or, AV.one, strip0_msl, pure_msl, ren_up, hup_cons, hup_nil, hC_cons, hC_nil, evRen, wrap_in, List.getElem?_eq_getElem, Vo.av, loopR_exit, *]
    | ((with_reducible refine condK_dec (fun _ => ?_) (fun _ => ?_)) <;> try omega)
    | ((with_reducible refine OZ_at 49 ?_); refine OZ_own hF hro hown (rfl) ?_))
        refine OZ_nextR 0 () hlt (by omega) (by omega) (renK 5 [(113, 100), (110, 101)]) (gK 5 [(113, 100), (110, 101)]) (RenOk.of_fit rfl rfl rfl) ?_ rfl rfl
        simp only [voH, if_pos (show 0 < 0 + 1 by omega), ownH_succ, List.cons_append, List.nil_append, hC_cons, hC_nil]
        refine HRen.cons 113 rfl rfl ?_ (HRen.cons 110 rfl rfl (evRen _) HRen.nil)
        rw [rowsAt_succ, rowsAt_zero]; simp [voC, hlt, hn, AV.ren, renK]
      · have hfl : (rowsAt (voC 101 vs (i + 1)) (i + 1)).length = (i + 1) := by rw [rowsAt_len (k := 1) (fun _ => rfl)]; omega
        simp only [ownA_succ, ownH_succ, voH, if_neg hnlt, List.append_nil, hC_nil, hC_cons]
        repeat' (first
    | simp -implicitDefEqProofs (disch := first | assumption | omega) only [runsY, lstY, facts, if_pos, if_neg, Nat.reduceAdd, Nat.reduceEqDiff, Nat.reduceLT, Nat.reduceLeDiff, aappM, xcells, List.flatMap_cons, List.flatMap_nil, AV.cells, AV.one, strip0_msl, pure_msl, ren_up, hup_cons, hup_nil, hC_cons, hC_nil, evRen, wrap_in, List.getElem?_eq_getElem, Vo.av, loopR_exit, *]
    | ((with_reducible refine condK_dec (fun _ => ?_) (fun _ => ?_)) <;> try omega)
    | ((with_reducible refine OZ_at 49 ?_); refine OZ_own hF hro hown (rfl) ?_))
        refine OZ_nextR (i + 1) () hlt (by omega) (by omega) (renK 5 [(113, 100), (110, 101)]) (gK 5 [(113, 100), (110, 101)]) (RenOk.of_fit rfl rfl rfl) ?_ rfl rfl
        simp only [voH, if_pos (show i + 1 < i + 1 + 1 by omega), ownH_succ, List.cons_append, List.nil_append, hC_cons, hC_nil]
        refine HRen.cons 113 rfl rfl ?_ (HRen.cons 110 rfl rfl (evRen _) HRen.nil)
        rw [rowsAt_succ (i := i + 1), List.map_append, rowsAt_ren (c' := voC 101 vs (i + 1)) (i + 1) fun j hj => voC_other vs (i + 1) j (by omega)]; simp [voC, hlt, hn, AV.ren, renK]
    · rcases i with _ | i
      · simp only [ownA_zero, ownH_zero, voH, if_neg (Nat.not_lt_zero _), List.append_nil, hC_nil]
        repeat' (first
    | simp -implicitDefEqProofs (disch := first | assumption | omega) only [runsY, lstY, facts, if_pos, Nat.reduceAdd, Nat.reduceLT, Nat.reduceLeDiff, Int.reduceLE, Int.reduceAdd, aappM, xcells, List.flatMap_cons, List.flatMap_nil, AV.cells, true_or, AV.one, wrap_in, List.getElem?_eq_getElem, Vo.av, loopR_exit, *]
    | ((with_reducible refine condK_dec (fun _ => ?_) (fun _ => ?_)) <;> try omega)
    | ((with_reducible refine OZ_at 49 ?_); refine PC.useZ hF hpc (rfl) fun v hv => ?_; subst hv))
        refine OZ_nextR 0 () hlt (by omega) (by omega) (renK 5 [(112, 100)]) (gK 5 [(112, 100)]) (RenOk.of_fit rfl rfl rfl) ?_ rfl rfl
        simp only [voH, if_neg (show ¬ j0 < 0 + 1 by omega), ownH_succ, List.append_nil, hC_cons, hC_nil]
        refine HRen.cons 112 rfl rfl ?_ HRen.nil
        rw [rowsAt_succ, rowsAt_zero]; simp [voC, hij, hlt, AV.ren]
      · have hfl : (rowsAt (voC 101 vs j0) (i + 1)).length = (i + 1) := by rw [rowsAt_len (k := 1) (fun _ => rfl)]; omega
        by_cases hjl : j0 < i + 1
        · simp only [ownA_succ, ownH_succ, voH, if_pos hjl, List.cons_append, List.nil_append, hC_nil, hC_cons]
          repeat' (first
    | simp -implicitDefEqProofs (disch := first | assumption | omega) only [runsY, lstY, facts, if_pos, if_neg, Nat.reduceAdd, Nat.reduceEqDiff, Nat.reduceLT, Nat.reduceLeDiff, aappM, xcells, List.flatMap_cons, List.flatMap_nil, AV.cells, AV.one, wrap_in, List.getElem?_eq_getElem, Vo.av, loopR_exit, *]
    | ((with_reducible refine condK_dec (fun _ => ?_) (fun _ => ?_)) <;> try omega)
    | ((with_reducible refine OZ_at 49 ?_); refine PC.useZ hF hpc (rfl) fun v hv => ?_; subst hv))
          refine OZ_nextR (i + 1) () hlt (by omega) (by omega) (renK 5 [(112, 100), (101, 101)]) (gK 5 [(112, 100), (101, 101)]) (RenOk.of_fit rfl rfl rfl) ?_ rfl rfl
          simp only [voH, if_pos (show j0 < i + 1 + 1 by omega), ownH_succ, List.cons_append, List.nil_append, hC_cons, hC_nil]
          refine HRen.cons 112 rfl rfl ?_ (HRen.cons 101 rfl rfl (evRen _) HRen.nil)
          rw [rowsAt_succ (i := i + 1), List.map_append, rowsAt_ren (c' := voC 101 vs j0) (i + 1) fun j hj => voC_ren (f := renK 5 [(112, 100), (101, 101)]) (q := 101) (q' := 101) rfl vs j0 j]; simp [voC, hij, hlt, AV.ren]
        · simp only [ownA_succ, ownH_succ, voH, if_neg hjl, List.append_nil, hC_nil, hC_cons]
          repeat' (first
    | simp -implicitDefEqProofs (disch := first | assumption | omega) only [runsY, lstY, facts, if_pos, Nat.reduceAdd, Nat.reduceEqDiff, Nat.reduceLT, Nat.reduceLeDiff, aappM, xcells, List.flatMap_cons, List.flatMap_nil, AV.cells, AV.one, wrap_in, List.getElem?_eq_getElem, Vo.av, loopR_exit, *]
    | ((with_reducible refine condK_dec (fun _ => ?_) (fun _ => ?_)) <;> try omega)
    | ((with_reducible refine OZ_at 49 ?_); refine PC.useZ hF hpc (rfl) fun v hv => ?_; subst hv))
          refine OZ_nextR (i + 1) () hlt (by omega) (by omega) (renK 5 [(112, 100)]) (gK 5 [(112, 100)]) (RenOk.of_fit rfl rfl rfl) ?_ rfl rfl
          simp only [voH, if_neg (show ¬ j0 < i + 1 + 1 by omega), ownH_succ, List.append_nil, hC_cons, hC_nil]
          refine HRen.cons 112 rfl rfl ?_ HRen.nil
          rw [rowsAt_succ (i := i + 1), List.map_append, rowsAt_ren (c' := voC 101 vs j0) (i + 1) fun j hj => voC_other vs j0 j (by omega)]; simp [voC, hij, hlt, AV.ren]
  · have : i = vs.length := by omega
    subst this
    obtain ⟨n, hn⟩ : ∃ n, vs.length = n + 1 := ⟨vs.length - 1, by omega⟩
    repeat' (first
    | simp -implicitDefEqProofs (disch := first | assumption | omega) only [runsY, lstY, facts, Nat.reduceAdd, loopR_exit, *]
    | ((with_reducible refine condK_dec (fun _ => ?_) (fun _ => ?_)) <;> try omega))
    refine OwnK.of [(100, 0), (101, 1)] rfl ?_ rfl
    simp only [voH, if_pos (show j0 < n + 1 by omega), ownH_succ, List.cons_append, List.nil_append, hC_cons, hC_nil]
    refine HRen.cons 100 rfl rfl (rowsAt_ren (n + 1) fun j hj => voC_ren (f := renK 0 [(100, 0), (101, 1)]) (q := 101) (q' := 1) rfl vs j0 j) (HRen.cons 101 rfl rfl (evRen _) HRen.nil)
theorem rowsAt_map {α : Type} [Inhabited α] {l : List α} {c : Nat → List AV} {c' : α → List AV} (h : ∀ j (hj : j < l.length), c j = c' l[j]) : rowsAt c l.length = l.flatMap c' := by
 have : ∀ i, i ≤ l.length → rowsAt c i = (l.take i).flatMap c' := by
  intro i hi
  induction i with
  | zero => rfl
  | succ i ih => rw [rowsAt_succ, ih (by omega), flat_take_succ (show i < l.length by omega), h i (by omega)]
 rw [this _ (Nat.le_refl _), List.take_length]
theorem rowsAt_mapF {f : AV → AV} {c c' : Nat → List AV} (i : Nat) (h : ∀ j, j < i → (c j).map f = c' j) : (rowsAt c i).map f = rowsAt c' i := by
 induction i with
 | zero => rfl
 | succ i ih => rw [rowsAt_succ, rowsAt_succ, List.map_append, ih fun j hj => h j (by omega), h i (by omega)]
instance : Inhabited Vo := ⟨⟨[]⟩⟩
theorem voNow {sty : Nat → Bool} {hp : Hp} {d key q : Nat} (vs : List Vo) (j0 : Nat) (hj : j0 < vs.length) (hs : sty key = true) (hk : hp key = some (.cells (rowsAt (voC q vs j0) vs.length))) (hq : hp q = some (.cells ((vs.getD j0 ⟨[]⟩).l.flatMap Ev.cells))) :
  AV.nowS sty hp (d + 2) (.msl key 0 vs.length 1) = .sl 1 (vs.map Vo.av) .none := by
 have hrow : (rowsAt (voC q vs j0) vs.length).map (AV.nowS sty hp (d + 1)) = vs.flatMap fun v => [.sl 9 (v.l.map Ev.av) .none] := by
  rw [rowsAt_mapF (c' := fun j => [.sl 9 ((vs.getD j ⟨[]⟩).l.map Ev.av) .none]) _ fun j hj' => ?_]
  ·exact rowsAt_map fun j hj' => by rw [List.getD_eq_getElem?_getD, List.getElem?_eq_getElem hj']; rfl
  ·by_cases e : j = j0
   ·subst e
    simp only [voC, if_true, List.map_cons, List.map_nil]
    rw [evsNowS _ rfl hq]
   ·simp only [voC, if_neg e, List.map_cons, List.map_nil]
    rfl
 refine (nowS_own hk (by decide) hrow (by rw [rowsAt_len (k := 1) (fun _ => rfl)]; omega) (pureFlat (fun _ => rfl) vs)).trans ?_
 rw [hs, Bool.or_true, chunksFlat (c := fun v : Vo => [AV.sl 9 (v.l.map Ev.av) .none]) (k := 1) (fun _ => rfl) vs]
 rfl
theorem edVoices_ok (vs : List Vo) (hl : vs.length ≤ 1000000) (hs : ∀ v ∈ vs, v.l.length ≤ 1000000 ∧ ∀ e ∈ v.l, e.short) (h0 : 0 < vs.length) (hne : ∀ v ∈ vs, 0 < v.l.length) :
  PC Tryz.prog gl 41 [.sl 1 (vs.map Vo.av) .none] (fun v => v = .sl 1 (vs.map Vo.av) .none) :=
 PC.of_ownS (edVoices_own vs hl hs 0 h0 hne) 2 (voNow (sty := fun _ => true) (d := 0) vs 0 h0 rfl rfl rfl)
end Go.Proofs.Pv
namespace Go.Proofs.Pv
set_option linter.unusedVariables false
open Go Go.Proofs
set_option linter.unusedSimpArgs false
theorem voC_up {n q : Nat} {vs : List Vo} {j0 i : Nat} : (rowsAt (voC q vs j0) i).map (AV.ren (up n)) = rowsAt (voC (q + n) vs j0) i := rowsAt_ren i fun j _ => voC_ren (f := up n) (q := q) (q' := q + n) rfl vs j0 j
structure Vo.good (v : Vo) : Prop where
 lo : 0 < v.l.length
 hi : v.l.length ≤ 1000000
 ev : ∀ e ∈ v.l, e.short
structure cellGood (c : List Vo) : Prop where
 lo : 0 < c.length
 hi : c.length ≤ 1000000
 vo : ∀ v ∈ c, v.good
theorem cell_own (c : List Vo) (h : cellGood c) (v0 : Nat) (hv : v0 < c.length) : Own Tryz.prog gl 41 [cellAV c] (.msl 0 0 c.length 1) [(0, rowsAt (voC 1 c v0) c.length), (1, (c.getD v0 ⟨[]⟩).l.flatMap Ev.cells)] 2 :=
 edVoices_own c h.hi (fun v hv => ⟨(h.vo v hv).hi, (h.vo v hv).ev⟩) v0 hv (fun v hv => (h.vo v hv).lo)
theorem cell_ok (c : List Vo) (h : cellGood c) : PC Tryz.prog gl 41 [cellAV c] (fun v => v = cellAV c) :=
 edVoices_ok c h.hi (fun v hv => ⟨(h.vo v hv).hi, (h.vo v hv).ev⟩) h.lo (fun v hv => (h.vo v hv).lo)
def ceC (q : Nat) (cs : List (List Vo)) (j0 j : Nat) : List AV := [if j = j0 then .msl q 0 (cs.getD j []).length 1 else cellAV (cs.getD j [])]
theorem ceC_ren {f : Nat → Option Nat} {q q' : Nat} (h : f q = some q') (vs : List (List Vo)) (j0 j : Nat) : (ceC q vs j0 j).map (AV.ren f) = ceC q' vs j0 j := by
 by_cases hj : j = j0
 ·simp [ceC, hj, AV.ren, h]
 ·simp [ceC, hj, AV.ren, cellAV]
theorem ceC_other {f : Nat → Option Nat} {q q' : Nat} (vs : List (List Vo)) (j0 j : Nat) (h : j ≠ j0) : (ceC q vs j0 j).map (AV.ren f) = ceC q' vs j0 j := by
 simp [ceC, h, AV.ren, cellAV]
theorem ceC_up {n q : Nat} {vs : List (List Vo)} {j0 i : Nat} : (rowsAt (ceC q vs j0) i).map (AV.ren (up n)) = rowsAt (ceC (q + n) vs j0) i := rowsAt_ren i fun j _ => ceC_ren (f := up n) (q := q) (q' := q + n) rfl vs j0 j
def ceH (q r : Nat) (cs : List (List Vo)) (j0 v0 i : Nat) : List (Nat × List AV) := if j0 < i then [(q, rowsAt (voC r (cs.getD j0 []) v0) (cs.getD j0 []).length), (r, ((cs.getD j0 []).getD v0 ⟨[]⟩).l.flatMap Ev.cells)] else []
set_option maxRecDepth 100000 in
theorem edCells_own (vs : List (List Vo)) (hl : vs.length ≤ 1000000) (hs : ∀ c ∈ vs, cellGood c) (j0 v0 : Nat) (hj : j0 < vs.length) (hv0 : v0 < (vs.getD j0 []).length) :
    Own Tryz.prog gl 40 [.sl 1 (vs.map cellAV) .none, .fn 41 [] []] (.msl 0 0 vs.length 1) [(0, rowsAt (ceC 1 vs j0) vs.length), (1, rowsAt (voC 2 (vs.getD j0 []) v0) (vs.getD j0 []).length), (2, ((vs.getD j0 []).getD v0 ⟨[]⟩).l.flatMap Ev.cells)] 3 := by
  (refine Own.intro 2 mix names (fn := Tryz.f40) Tryz.func40 rfl fun F hF hro W => ?_; simp -implicitDefEqProofs only [Tryz.ntmps40, Tryz.results40, entL, Nat.reduceAdd, Nat.reduceSub])
  repeat' (simp -implicitDefEqProofs (disch := first | assumption | omega) only [runsY, lstY, facts, Nat.reduceAdd, *])
  refine OZ_forR (mkM 22 [1, 5, 8, 9, 10]) 103 vs.length (fun i (_ : Unit) => ⟨[.ud, .fn 41 [] [], .ud, .ud, .ud, ownA 100 1 i, .ud, .ud, .sl 1 (vs.map cellAV) .none, .int .i64 (vs.length : Nat), .int .i64 (i : Nat), .ud, .ud, .ud, .ud, .ud, .ud, .ud, .ud, .ud, .ud, .ud], []⟩) (fun i _ => ⟨hC (ownH 100 (rowsAt (ceC 101 vs j0) i) i ++ ceH 101 102 vs j0 v0 i), 103⟩) (fun i _ => i < 1000001) ⟨(), by omega, renK 5 [], gK 5 [], RenOk.of_fit rfl rfl rfl, by simp only [ceH, if_neg (Nat.not_lt_zero _)]; exact HRen.nil, rfl, rfl⟩ ?_
  rintro i x hi hi2
  rcases Nat.lt_or_ge i vs.length with hlt | hge
  · have hv := hs vs[i] (List.getElem_mem hlt)
    have hget : vs.getD i [] = vs[i] := by rw [List.getD_eq_getElem?_getD, List.getElem?_eq_getElem hlt]; rfl
    have hpc := cell_ok vs[i] hv
    by_cases hij : i = j0
    · subst hij
      rw [hget] at hv0
      have hown := cell_own vs[i] hv v0 hv0
      have hnlt : ¬ i < i := Nat.lt_irrefl i
      rcases i with _ | i
      · simp only [ownA_zero, ownH_zero, ceH, if_neg hnlt, List.append_nil, hC_nil]
        repeat' (first
    | simp -implicitDefEqProofs (disch := first | assumption | omega) only [runsY, lstY, facts, if_pos, Nat.reduceAdd, Nat.reduceLT, Nat.reduceLeDiff, Int.reduceLE, Int.reduceAdd, aappM, xcells, List.flatMap_cons, List.flatMap_nil, AV.cells, true_or, AV.one, strip_msl, pureV_msl, ren_up, hup_cons, hup_nil, hC_cons, hC_nil, evRen, voC_up, wrap_in, List.getElem?_eq_getElem, cellAV, loopR_exit, *]
    | ((with_reducible refine condK_dec (fun _ => ?_) (fun _ => ?_)) <;> try omega)
    | ((with_reducible refine OZ_at 41 ?_); refine OZ_own hF hro hown (rfl) ?_))
        refine OZ_nextR (0) () hlt (by omega) (by omega) (renK 5 [(113, 100), (110, 101), (111, 102)]) (gK 5 [(113, 100), (110, 101), (111, 102)]) (RenOk.of_fit rfl rfl rfl) ?_ rfl rfl
        simp only [ceH, if_pos (show 0 < 0 + 1 by omega), ownH_succ, List.cons_append, List.nil_append, hC_cons, hC_nil, hget]
        refine HRen.cons 113 rfl rfl ?_ (HRen.cons 110 rfl rfl (rowsAt_ren _ fun j hj => voC_ren (f := renK 5 [(113, 100), (110, 101), (111, 102)]) (q := 111) (q' := 102) rfl _ _ j) (HRen.cons 111 rfl rfl (evRen _) HRen.nil))
        rw [rowsAt_succ, rowsAt_zero]; simp [ceC, hlt, AV.ren, renK]
      · have hfl : (rowsAt (ceC 101 vs (i + 1)) (i + 1)).length = (i + 1) := by rw [rowsAt_len (k := 1) (fun _ => rfl)]; omega
        simp only [ownA_succ, ownH_succ, ceH, if_neg hnlt, List.append_nil, hC_nil, hC_cons]
        repeat' (first
    | simp -implicitDefEqProofs (disch := first | assumption | omega) only [runsY, lstY, facts, if_pos, if_neg, Nat.reduceAdd, Nat.reduceEqDiff, Nat.reduceLT, Nat.reduceLeDiff, aappM, xcells, List.flatMap_cons, List.flatMap_nil, AV.cells, AV.one, strip_msl, pureV_msl, ren_up, hup_cons, hup_nil, hC_cons, hC_nil, evRen, voC_up, wrap_in, List.getElem?_eq_getElem, cellAV, loopR_exit, *]
    | ((with_reducible refine condK_dec (fun _ => ?_) (fun _ => ?_)) <;> try omega)
    | ((with_reducible refine OZ_at 41 ?_); refine OZ_own hF hro hown (rfl) ?_))
        refine OZ_nextR (i + 1) () hlt (by omega) (by omega) (renK 5 [(113, 100), (110, 101), (111, 102)]) (gK 5 [(113, 100), (110, 101), (111, 102)]) (RenOk.of_fit rfl rfl rfl) ?_ rfl rfl
        simp only [ceH, if_pos (show i + 1 < i + 1 + 1 by omega), ownH_succ, List.cons_append, List.nil_append, hC_cons, hC_nil, hget]
        refine HRen.cons 113 rfl rfl ?_ (HRen.cons 110 rfl rfl (rowsAt_ren _ fun j hj => voC_ren (f := renK 5 [(113, 100), (110, 101), (111, 102)]) (q := 111) (q' := 102) rfl _ _ j) (HRen.cons 111 rfl rfl (evRen _) HRen.nil))
        rw [rowsAt_succ (i := i + 1), List.map_append, rowsAt_ren (c' := ceC 101 vs (i + 1)) (i + 1) fun j hj => ceC_other vs (i + 1) j (by omega)]; simp [ceC, hlt, AV.ren, renK]
    · rcases i with _ | i
      · simp only [ownA_zero, ownH_zero, ceH, if_neg (Nat.not_lt_zero _), List.append_nil, hC_nil]
        repeat' (first
    | simp -implicitDefEqProofs (disch := first | assumption | omega) only [runsY, lstY, facts, if_pos, Nat.reduceAdd, Nat.reduceLT, Nat.reduceLeDiff, Int.reduceLE, Int.reduceAdd, aappM, xcells, List.flatMap_cons, List.flatMap_nil, AV.cells, true_or, AV.one, wrap_in, List.getElem?_eq_getElem, cellAV, loopR_exit, *]
    | ((with_reducible refine condK_dec (fun _ => ?_) (fun _ => ?_)) <;> try omega)
    | ((with_reducible refine OZ_at 41 ?_); refine PC.useZ hF hpc (rfl) fun v hv => ?_; subst hv))
        refine OZ_nextR 0 () hlt (by omega) (by omega) (renK 5 [(111, 100)]) (gK 5 [(111, 100)]) (RenOk.of_fit rfl rfl rfl) ?_ rfl rfl
        simp only [ceH, if_neg (show ¬ j0 < 0 + 1 by omega), ownH_succ, List.append_nil, hC_cons, hC_nil]
        refine HRen.cons 111 rfl rfl ?_ HRen.nil
        rw [rowsAt_succ, rowsAt_zero]; simp [ceC, hij, hlt, AV.ren, cellAV]
      · have hfl : (rowsAt (ceC 101 vs j0) (i + 1)).length = (i + 1) := by rw [rowsAt_len (k := 1) (fun _ => rfl)]; omega
        by_cases hjl : j0 < i + 1
        · simp only [ownA_succ, ownH_succ, ceH, if_pos hjl, List.cons_append, List.nil_append, hC_nil, hC_cons]
          repeat' (first
    | simp -implicitDefEqProofs (disch := first | assumption | omega) only [runsY, lstY, facts, if_pos, if_neg, Nat.reduceAdd, Nat.reduceEqDiff, Nat.reduceLT, Nat.reduceLeDiff, aappM, xcells, List.flatMap_cons, List.flatMap_nil, AV.cells, AV.one, wrap_in, List.getElem?_eq_getElem, cellAV, loopR_exit, *]
    | ((with_reducible refine condK_dec (fun _ => ?_) (fun _ => ?_)) <;> try omega)
    | ((with_reducible refine OZ_at 41 ?_); refine PC.useZ hF hpc (rfl) fun v hv => ?_; subst hv))
          refine OZ_nextR (i + 1) () hlt (by omega) (by omega) (renK 5 [(111, 100), (101, 101), (102, 102)]) (gK 5 [(111, 100), (101, 101), (102, 102)]) (RenOk.of_fit rfl rfl rfl) ?_ rfl rfl
          simp only [ceH, if_pos (show j0 < i + 1 + 1 by omega), ownH_succ, List.cons_append, List.nil_append, hC_cons, hC_nil]
          refine HRen.cons 111 rfl rfl ?_ (HRen.cons 101 rfl rfl (rowsAt_ren _ fun j hj => voC_ren (f := renK 5 [(111, 100), (101, 101), (102, 102)]) (q := 102) (q' := 102) rfl _ _ j) (HRen.cons 102 rfl rfl (evRen _) HRen.nil))
          rw [rowsAt_succ (i := i + 1), List.map_append, rowsAt_ren (c' := ceC 101 vs j0) (i + 1) fun j hj => ceC_ren (f := renK 5 [(111, 100), (101, 101), (102, 102)]) (q := 101) (q' := 101) rfl vs j0 j]; simp [ceC, hij, hlt, AV.ren, cellAV]
        · simp only [ownA_succ, ownH_succ, ceH, if_neg hjl, List.append_nil, hC_nil, hC_cons]
          repeat' (first
    | simp -implicitDefEqProofs (disch := first | assumption | omega) only [runsY, lstY, facts, if_pos, Nat.reduceAdd, Nat.reduceLT, Nat.reduceLeDiff, aappM, xcells, List.flatMap_cons, List.flatMap_nil, AV.cells, AV.one, wrap_in, List.getElem?_eq_getElem, cellAV, loopR_exit, *]
    | ((with_reducible refine condK_dec (fun _ => ?_) (fun _ => ?_)) <;> try omega)
    | ((with_reducible refine OZ_at 41 ?_); refine PC.useZ hF hpc (rfl) fun v hv => ?_; subst hv))
          refine OZ_nextR (i + 1) () hlt (by omega) (by omega) (renK 5 [(111, 100)]) (gK 5 [(111, 100)]) (RenOk.of_fit rfl rfl rfl) ?_ rfl rfl
          simp only [ceH, if_neg (show ¬ j0 < i + 1 + 1 by omega), ownH_succ, List.append_nil, hC_cons, hC_nil]
          refine HRen.cons 111 rfl rfl ?_ HRen.nil
          rw [rowsAt_succ (i := i + 1), List.map_append, rowsAt_ren (c' := ceC 101 vs j0) (i + 1) fun j hj => ceC_other vs j0 j (by omega)]; simp [ceC, hij, hlt, AV.ren, cellAV]
  · have : i = vs.length := by omega
    subst this
    obtain ⟨n, hn⟩ : ∃ n, vs.length = n + 1 := ⟨vs.length - 1, by omega⟩
    repeat' (first
    | simp -implicitDefEqProofs (disch := first | assumption | omega) only [runsY, lstY, facts, Nat.reduceAdd, loopR_exit, *]
    | ((with_reducible refine condK_dec (fun _ => ?_) (fun _ => ?_)) <;> try omega))
    refine OwnK.of [(100, 0), (101, 1), (102, 2)] rfl ?_ rfl
    simp only [ceH, if_pos (show j0 < n + 1 by omega), ownH_succ, List.cons_append, List.nil_append, hC_cons, hC_nil]
    refine HRen.cons 100 rfl rfl (rowsAt_ren (n + 1) fun j hj => ceC_ren (f := renK 0 [(100, 0), (101, 1), (102, 2)]) (q := 101) (q' := 1) rfl vs j0 j) (HRen.cons 101 rfl rfl (rowsAt_ren _ fun j hj => voC_ren (f := renK 0 [(100, 0), (101, 1), (102, 2)]) (q := 102) (q' := 2) rfl _ _ j) (HRen.cons 102 rfl rfl (evRen _) HRen.nil))
theorem flatOne {α : Type} {c : α → AV} : ∀ l : List α, (l.flatMap fun v => [c v]) = l.map c
 | [] => rfl
 | x :: l => by rw [List.flatMap_cons, flatOne l]; rfl
theorem ceNow {sty : Nat → Bool} {hp : Hp} {d key q r : Nat} (vs : List (List Vo)) (j0 v0 : Nat) (hj : j0 < vs.length) (hv0 : v0 < (vs.getD j0 []).length) (hs : sty key = false) (hsq : sty q = true) (hk : hp key = some (.cells (rowsAt (ceC q vs j0) vs.length)))
  (hq : hp q = some (.cells (rowsAt (voC r (vs.getD j0 []) v0) (vs.getD j0 []).length))) (hr : hp r = some (.cells (((vs.getD j0 []).getD v0 ⟨[]⟩).l.flatMap Ev.cells))) :
  AV.nowS sty hp (d + 3) (.msl key 0 vs.length 1) = .sl 1 (vs.map cellAV) .none := by
 have hrow : (rowsAt (ceC q vs j0) vs.length).map (AV.nowS sty hp (d + 2)) = vs.flatMap fun v => [cellAV v] := by
  rw [rowsAt_mapF (c' := fun j => [cellAV (vs.getD j [])]) _ fun j hj' => ?_]
  ·exact rowsAt_map fun j hj' => by rw [List.getD_eq_getElem?_getD, List.getElem?_eq_getElem hj']; rfl
  ·by_cases e : j = j0
   ·subst e
    simp only [ceC, if_true, List.map_cons, List.map_nil]
    rw [voNow _ v0 hv0 hsq hq hr]; rfl
   ·simp only [ceC, if_neg e, List.map_cons, List.map_nil]
    rfl
 refine (nowS_own hk (by decide) hrow (by rw [rowsAt_len (k := 1) (fun _ => rfl)]; omega) (pureFlat (fun _ => rfl) vs)).trans ?_
 rw [hs, Bool.or_false, flatOne vs, show (!(Nat.beq 1 1)) = false from rfl, chunksOne vs]
end Go.Proofs.Pv
