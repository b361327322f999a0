/-
  Layer 9: edit.Apply at an edit of events that there is no place for; a score that is not right.
  Conditions: a small score.
-/
import Derived.Test.YtjcjhlnccglmkaaGreatDoorC09k
namespace Go.Proofs.Pv
open Go Go.Proofs
set_option linter.unusedSimpArgs false
set_option linter.unusedVariables false
theorem span_f (a b c : Int) (ha : -9223372036854775808 ≤ a ∧ a ≤ 9223372036854775807) (hc : 0 ≤ c ∧ c ≤ 1000000) (h : ¬ (0 ≤ a ∧ 0 ≤ b ∧ a ≤ c ∧ b ≤ c - a)) : PC Tryz.prog gl 46 [.int .i64 a, .int .i64 b, .int .i64 c] (fun v => v = .bool false) := by
  have := span_ok a b c ha hc
  rwa [decide_eq_false h] at this
def chHi (s : Sc) (kd : AV) (p q : Int) (vo at_ : Int) (rest : List AV) (R P : List AV) : List (Nat × Blk) := [(28, .cells ([.str s.title, .sl 14 (s.bars.map Ba.av) .none, .msl 20 0 s.parts.length 5, kd, .int .i64 p, .int .i64 q, .int .i64 vo, .int .i64 at_] ++ rest)), (20, .cells P), (21, .cells R)]
set_option maxRecDepth 100000 in
set_option maxHeartbeats 1000000 in
theorem cell_nilP (s : Sc) (kd : AV) (p q vo at_ : Int) (rest R P : List AV) (h1 : ¬ (0 ≤ p ∧ p < (s.parts.length : Nat))) : Rd Tryz.prog gl 44 [.ptr 28 0] (hget (chHi s kd p q vo at_ rest R P)) .nilp := by
  refine Rd.introZ 2 200 mix names (fn := Tryz.f44) Tryz.func44 rfl (fun f hf => by rfl) fun m F hF hro W => ?_
  simp -implicitDefEqProofs only [Tryz.ntmps44, Tryz.results44, fr0, List.length_cons, List.length_nil, List.cons_append, List.nil_append, Nat.reduceAdd, Nat.reduceSub, List.replicate_succ, List.replicate_zero, chHi]
  repeat' (first
    | simp -implicitDefEqProofs only [↓reduceIte, runsY, lstY, facts, Nat.reduceAdd, Nat.reduceEqDiff, Nat.reduceLeDiff, RdK_at, vops_nil, vops_cons, vstep_no, vstep_val, drawVK_at, *]
    | ((with_reducible refine v_at 45 ?_); refine vstep_call (there_f _ _ h1) (rfl) ?_)
    | ((with_reducible refine OZ_drawn ?_); refine OZ_drawV (by decide +kernel) ?_)
    | ((with_reducible refine wend ?_ ?_); · kernel_rfl))
  exact rd_end (by simp only [hget]; rw [if_neg (by omega), if_neg (by omega), if_neg (by omega)])
set_option maxRecDepth 100000 in
set_option maxHeartbeats 1000000 in
theorem cell_nilB (s : Sc) (kd : AV) (p q vo at_ : Int) (rest R P : List AV) (h0 : 0 ≤ p ∧ p < (s.parts.length : Nat)) (h1 : ¬ (0 ≤ q ∧ q < (s.bars.length : Nat))) : Rd Tryz.prog gl 44 [.ptr 28 0] (hget (chHi s kd p q vo at_ rest R P)) .nilp := by
  refine Rd.introZ 2 200 mix names (fn := Tryz.f44) Tryz.func44 rfl (fun f hf => by rfl) fun m F hF hro W => ?_
  simp -implicitDefEqProofs only [Tryz.ntmps44, Tryz.results44, fr0, List.length_cons, List.length_nil, List.cons_append, List.nil_append, Nat.reduceAdd, Nat.reduceSub, List.replicate_succ, List.replicate_zero, chHi]
  repeat' (first
    | simp -implicitDefEqProofs only [↓reduceIte, runsY, lstY, facts, Nat.reduceAdd, Nat.reduceEqDiff, Nat.reduceLeDiff, RdK_at, vops_nil, vops_cons, vstep_val, drawVK_at, *]
    | ((with_reducible refine v_at 45 ?_); refine vstep_call (there_t _ _ h0) (rfl) ?_)
    | ((with_reducible refine v_at 45 ?_); refine vstep_call (there_f _ _ h1) (rfl) ?_)
    | ((with_reducible refine OZ_drawn ?_); refine OZ_drawV (by decide +kernel) ?_)
    | ((with_reducible refine wend ?_ ?_); · kernel_rfl))
  exact rd_end (by simp only [hget]; rw [if_neg (by omega), if_neg (by omega), if_neg (by omega)])
set_option maxRecDepth 100000 in
set_option maxHeartbeats 8000000 in
theorem apply_unright (s : Sc) (o : EOp) (hs : s.small) (hchk : ¬ s.checkR.2 = 0) : PC Tryz.prog gl 7 [s.av, o.av] (fun v => v = errR s.checkR.2) := by
  (refine PC.introZ 2 mix (fn := Tryz.f7) Tryz.func7 rfl (names 7 _ Tryz.func7) fun F hF hro W => ?_; simp -implicitDefEqProofs only [Tryz.ntmps7, Tryz.results7, fr0, st0, List.length_cons, List.length_nil, List.cons_append, List.nil_append, Nat.reduceAdd, Nat.reduceSub, List.replicate_succ, List.replicate_zero])
  repeat' (first
    | simp -implicitDefEqProofs only [↓reduceIte, runsY, lstY, facts, Nat.reduceAdd, Nat.reduceEqDiff, EOp.av, Sc.av, plcAV, plAV, vops_cons, vstep_val, *]
    | with_reducible refine vstep_stop ?_
    | ((with_reducible refine condK_split (fun _ => ?_) (fun _ => ?_)) <;> try (exfalso; omega))
    | ((with_reducible refine OZ_drawn ?_); refine OZ_drawV (by decide +kernel) ?_)
    | ((with_reducible refine OZ_at 15 ?_); refine PC.useZ hF (check_ok s hs) (rfl) fun v hv => ?_; subst hv))
  · rfl
  · rename_i h
    exact absurd (by simpa using h) hchk
set_option maxRecDepth 100000 in
set_option maxHeartbeats 8000000 in
theorem apply_noP (s : Sc) (o : EOp) (hk : o.kind = 1) (hs : s.small) (hg : s.good) (hchk : s.checkR.2 = 0) (h1 : ¬ (0 ≤ o.part ∧ o.part < (s.parts.length : Nat))) : PC Tryz.prog gl 7 [s.av, o.av] (fun v => v = errR 90) := by
  have hb0 : 0 < (s.parts.getD 0 pa0).cells.length := by
    rw [List.getD_eq_getElem?_getD, List.getElem?_eq_getElem hg.lo]; exact (hg.pa _ (List.getElem_mem hg.lo)).lo
  have hv0 : 0 < ((s.parts.getD 0 pa0).cells.getD 0 []).length := by
    have hp : (s.parts.getD 0 pa0).good := by
      rw [List.getD_eq_getElem?_getD, List.getElem?_eq_getElem hg.lo]; exact hg.pa _ (List.getElem_mem hg.lo)
    rw [List.getD_eq_getElem?_getD (l := (s.parts.getD 0 pa0).cells), List.getElem?_eq_getElem hb0]; exact (hp.ce _ (List.getElem_mem hb0)).lo
  have hown := copied_own s hg 0 0 0 hg.lo hb0 hv0
  (refine PC.introZ 2 mix (fn := Tryz.f7) Tryz.func7 rfl (names 7 _ Tryz.func7) fun F hF hro W => ?_; simp -implicitDefEqProofs only [Tryz.ntmps7, Tryz.results7, fr0, st0, List.length_cons, List.length_nil, List.cons_append, List.nil_append, Nat.reduceAdd, Nat.reduceSub, List.replicate_succ, List.replicate_zero])
  repeat' (first
    | simp -implicitDefEqProofs only [↓reduceIte, runsY, lstY, facts, Nat.reduceAdd, Nat.reduceEqDiff, Nat.reduceLeDiff, Int.reduceBEq, Int.reduceBNe, aop2, akc_kind, aeq_kind, afind_nil, afind_cons, ents, AV.cells, AV.one, EOp.av, Sc.av, plcAV, plAV, hk, hchk, ren_score, hup_cons, hup_nil, hC_cons, hC_nil, evRen, voC_up, ceC_up, paC_up, paH_at, vops_nil, vops_cons, vstep_val, drawVK_at, *]
    | ((with_reducible refine v_at 16 ?_); refine vstep_own hF hro hown (rfl) ?_)
    | ((with_reducible refine OZ_drawn ?_); refine OZ_drawV (by decide +kernel) ?_)
    | ((with_reducible refine wend ?_ ?_); · decide +kernel)
    | ((with_reducible refine OZ_at 15 ?_); refine PC.useZ hF (check_ok s hs) (rfl) fun v hv => ?_; subst hv))
  refine OZ_at 17 ?_
  (refine OZ_inline hF hro mix names 2 (fn := Tryz.f17) Tryz.func17 rfl ?_; simp -implicitDefEqProofs only [Tryz.ntmps17, Tryz.results17, fr0, st0, List.length_cons, List.length_nil, List.cons_append, List.nil_append, Nat.reduceAdd, Nat.reduceSub, List.replicate_succ, List.replicate_zero])
  have hcell := cell_nilP s (.int .i64 1) o.part o.bar o.voice o.at_ (.int .i64 o.count :: .sl 9 (o.events.map Ev.av) .none :: .sl 14 (o.bars.map Ba.av) .none :: .sl 1 (o.cells.map cellsAV) .none :: .sl 1 (o.dyns.map dynssAV) .none :: .int .i64 o.steps :: .int .i64 o.halves :: .str o.text :: back0) (rowsAt (ceC 22 (s.parts.getD 0 pa0).cells 0) (s.parts.getD 0 pa0).cells.length) (rowsAt (paC 21 s.parts 0) s.parts.length) h1
  repeat' (first
    | simp -implicitDefEqProofs only [↓reduceIte, runsY, lstY, facts, Nat.reduceAdd, Nat.reduceEqDiff, Nat.reduceLeDiff, Int.reduceBNe, List.flatMap_cons, List.flatMap_nil, AV.cells, Option.map_none, AV.one, vops_nil, vops_cons, vstep_no, vstep_val, vstep_skip, drawVK_at, *]
    | ((with_reducible refine v_at 44 ?_); refine vstep_rd [28, 20, 21] _ hcell (rd_sub ⟨⟨rfl, rfl⟩, ⟨rfl, rfl⟩, ⟨rfl, rfl⟩, trivial⟩) ?_)
    | ((with_reducible refine OZ_drawn ?_); refine OZ_drawV (by decide +kernel) ?_)
    | ((with_reducible refine wend ?_ ?_); · decide +kernel))
  all_goals rfl
set_option maxRecDepth 100000 in
set_option maxHeartbeats 8000000 in
theorem apply_noB (s : Sc) (o : EOp) (hk : o.kind = 1) (hs : s.small) (hg : s.good) (hchk : s.checkR.2 = 0) (h0 : 0 ≤ o.part ∧ o.part < (s.parts.length : Nat)) (h1 : ¬ (0 ≤ o.bar ∧ o.bar < (s.bars.length : Nat))) : PC Tryz.prog gl 7 [s.av, o.av] (fun v => v = errR 90) := by
  have hb0 : 0 < (s.parts.getD 0 pa0).cells.length := by
    rw [List.getD_eq_getElem?_getD, List.getElem?_eq_getElem hg.lo]; exact (hg.pa _ (List.getElem_mem hg.lo)).lo
  have hv0 : 0 < ((s.parts.getD 0 pa0).cells.getD 0 []).length := by
    have hp : (s.parts.getD 0 pa0).good := by
      rw [List.getD_eq_getElem?_getD, List.getElem?_eq_getElem hg.lo]; exact hg.pa _ (List.getElem_mem hg.lo)
    rw [List.getD_eq_getElem?_getD (l := (s.parts.getD 0 pa0).cells), List.getElem?_eq_getElem hb0]; exact (hp.ce _ (List.getElem_mem hb0)).lo
  have hown := copied_own s hg 0 0 0 hg.lo hb0 hv0
  (refine PC.introZ 2 mix (fn := Tryz.f7) Tryz.func7 rfl (names 7 _ Tryz.func7) fun F hF hro W => ?_; simp -implicitDefEqProofs only [Tryz.ntmps7, Tryz.results7, fr0, st0, List.length_cons, List.length_nil, List.cons_append, List.nil_append, Nat.reduceAdd, Nat.reduceSub, List.replicate_succ, List.replicate_zero])
  repeat' (first
    | simp -implicitDefEqProofs only [↓reduceIte, runsY, lstY, facts, Nat.reduceAdd, Nat.reduceEqDiff, Nat.reduceLeDiff, Int.reduceBEq, Int.reduceBNe, aop2, akc_kind, aeq_kind, afind_nil, afind_cons, ents, AV.cells, AV.one, EOp.av, Sc.av, plcAV, plAV, hk, hchk, ren_score, hup_cons, hup_nil, hC_cons, hC_nil, evRen, voC_up, ceC_up, paC_up, paH_at, vops_nil, vops_cons, vstep_val, drawVK_at, *]
    | ((with_reducible refine v_at 16 ?_); refine vstep_own hF hro hown (rfl) ?_)
    | ((with_reducible refine OZ_drawn ?_); refine OZ_drawV (by decide +kernel) ?_)
    | ((with_reducible refine wend ?_ ?_); · decide +kernel)
    | ((with_reducible refine OZ_at 15 ?_); refine PC.useZ hF (check_ok s hs) (rfl) fun v hv => ?_; subst hv))
  refine OZ_at 17 ?_
  (refine OZ_inline hF hro mix names 2 (fn := Tryz.f17) Tryz.func17 rfl ?_; simp -implicitDefEqProofs only [Tryz.ntmps17, Tryz.results17, fr0, st0, List.length_cons, List.length_nil, List.cons_append, List.nil_append, Nat.reduceAdd, Nat.reduceSub, List.replicate_succ, List.replicate_zero])
  have hcell := cell_nilB s (.int .i64 1) o.part o.bar o.voice o.at_ (.int .i64 o.count :: .sl 9 (o.events.map Ev.av) .none :: .sl 14 (o.bars.map Ba.av) .none :: .sl 1 (o.cells.map cellsAV) .none :: .sl 1 (o.dyns.map dynssAV) .none :: .int .i64 o.steps :: .int .i64 o.halves :: .str o.text :: back0) (rowsAt (ceC 22 (s.parts.getD 0 pa0).cells 0) (s.parts.getD 0 pa0).cells.length) (rowsAt (paC 21 s.parts 0) s.parts.length) h0 h1
  repeat' (first
    | simp -implicitDefEqProofs only [↓reduceIte, runsY, lstY, facts, Nat.reduceAdd, Nat.reduceEqDiff, Nat.reduceLeDiff, Int.reduceBNe, List.flatMap_cons, List.flatMap_nil, AV.cells, Option.map_none, AV.one, vops_nil, vops_cons, vstep_no, vstep_val, vstep_skip, drawVK_at, *]
    | ((with_reducible refine v_at 44 ?_); refine vstep_rd [28, 20, 21] _ hcell (rd_sub ⟨⟨rfl, rfl⟩, ⟨rfl, rfl⟩, ⟨rfl, rfl⟩, trivial⟩) ?_)
    | ((with_reducible refine OZ_drawn ?_); refine OZ_drawV (by decide +kernel) ?_)
    | ((with_reducible refine wend ?_ ?_); · decide +kernel))
  all_goals rfl
set_option maxRecDepth 100000 in
set_option maxHeartbeats 8000000 in
theorem apply_noV (s : Sc) (o : EOp) (hk : o.kind = 1) (hs : s.small) (hg : s.good) (hchk : s.checkR.2 = 0) (j0 b0 : Nat) (hj : j0 < s.parts.length) (hbb : b0 < s.bars.length) (hb0 : b0 < (s.parts.getD j0 pa0).cells.length) (hp : o.part = (j0 : Nat)) (hq : o.bar = (b0 : Nat)) (h1 : ¬ (0 ≤ o.voice ∧ o.voice < (((s.parts.getD j0 pa0).cells.getD b0 []).length : Nat))) : PC Tryz.prog gl 7 [s.av, o.av] (fun v => v = errR 90) := by
  have hv0 : 0 < ((s.parts.getD j0 pa0).cells.getD b0 []).length := by
    have hp : (s.parts.getD j0 pa0).good := by
      rw [List.getD_eq_getElem?_getD, List.getElem?_eq_getElem hj]; exact hg.pa _ (List.getElem_mem hj)
    rw [List.getD_eq_getElem?_getD (l := (s.parts.getD j0 pa0).cells), List.getElem?_eq_getElem hb0]; exact (hp.ce _ (List.getElem_mem hb0)).lo
  have hown := copied_own s hg j0 b0 0 hj hb0 hv0
  (refine PC.introZ 2 mix (fn := Tryz.f7) Tryz.func7 rfl (names 7 _ Tryz.func7) fun F hF hro W => ?_; simp -implicitDefEqProofs only [Tryz.ntmps7, Tryz.results7, fr0, st0, List.length_cons, List.length_nil, List.cons_append, List.nil_append, Nat.reduceAdd, Nat.reduceSub, List.replicate_succ, List.replicate_zero])
  repeat' (first
    | simp -implicitDefEqProofs only [↓reduceIte, runsY, lstY, facts, Nat.reduceAdd, Nat.reduceEqDiff, Nat.reduceLeDiff, Int.reduceBEq, Int.reduceBNe, aop2, akc_kind, aeq_kind, afind_nil, afind_cons, ents, AV.cells, AV.one, EOp.av, Sc.av, plcAV, plAV, hk, hchk, ren_score, hup_cons, hup_nil, hC_cons, hC_nil, evRen, voC_up, ceC_up, paC_up, paH_at, vops_nil, vops_cons, vstep_val, drawVK_at, *]
    | ((with_reducible refine v_at 16 ?_); refine vstep_own hF hro hown (rfl) ?_)
    | ((with_reducible refine OZ_drawn ?_); refine OZ_drawV (by decide +kernel) ?_)
    | ((with_reducible refine wend ?_ ?_); · decide +kernel)
    | ((with_reducible refine OZ_at 15 ?_); refine PC.useZ hF (check_ok s hs) (rfl) fun v hv => ?_; subst hv))
  refine OZ_at 17 ?_
  (refine OZ_inline hF hro mix names 2 (fn := Tryz.f17) Tryz.func17 rfl ?_; simp -implicitDefEqProofs only [Tryz.ntmps17, Tryz.results17, fr0, st0, List.length_cons, List.length_nil, List.cons_append, List.nil_append, Nat.reduceAdd, Nat.reduceSub, List.replicate_succ, List.replicate_zero])
  have hcell := cell_rd s (.int .i64 1) o.voice o.at_ j0 (.int .i64 o.count :: .sl 9 (o.events.map Ev.av) .none :: .sl 14 (o.bars.map Ba.av) .none :: .sl 1 (o.cells.map cellsAV) .none :: .sl 1 (o.dyns.map dynssAV) .none :: .int .i64 o.steps :: .int .i64 o.halves :: .str o.text :: back0) (rowsAt (ceC 22 (s.parts.getD j0 pa0).cells b0) (s.parts.getD j0 pa0).cells.length) b0 hj hbb hb0
  have hq1 : (rowsAt (ceC 22 (s.parts.getD j0 pa0).cells b0) (s.parts.getD j0 pa0).cells.length).length = (s.parts.getD j0 pa0).cells.length := by rw [rowsAt_len (k := 1) (fun _ => rfl), Nat.mul_one]
  have hq2 : (List.drop b0 (rowsAt (ceC 22 (s.parts.getD j0 pa0).cells b0) (s.parts.getD j0 pa0).cells.length)).head? = some (.msl 22 0 ((s.parts.getD j0 pa0).cells.getD b0 []).length 1) := by
    have := rowsAt_head (c := ceC 22 (s.parts.getD j0 pa0).cells b0) (k := 1) (fun _ => rfl) hb0 (i := 0) (by omega)
    rw [Nat.mul_one, Nat.add_zero] at this
    rw [this]; simp [ceC]
  have k1 : b0 ≤ (s.parts.getD j0 pa0).cells.length := by omega
  have k2 : 1 ≤ (s.parts.getD j0 pa0).cells.length - b0 := by omega
  repeat' (first
    | simp -implicitDefEqProofs only [↓reduceIte, runsY, lstY, facts, Nat.reduceAdd, Nat.reduceEqDiff, Nat.reduceLeDiff, Int.reduceBNe, List.flatMap_cons, List.flatMap_nil, AV.cells, AV.one, List.length_drop, vops_nil, vops_cons, vstep_val, vstep_skip, drawVK_at, *]
    | ((with_reducible refine v_at 45 ?_); refine vstep_call (there_f _ _ h1) (rfl) ?_)
    | ((with_reducible refine v_at 44 ?_); refine vstep_rd [28, 20, 21] _ hcell (rd_sub ⟨⟨rfl, rfl⟩, ⟨rfl, rfl⟩, ⟨rfl, rfl⟩, trivial⟩) ?_)
    | ((with_reducible refine OZ_drawn ?_); refine OZ_drawV (by decide +kernel) ?_)
    | ((with_reducible refine wend ?_ ?_); · decide +kernel))
  all_goals rfl
set_option maxRecDepth 100000 in
set_option maxHeartbeats 8000000 in
theorem apply_noS (s : Sc) (o : EOp) (hk : o.kind = 1) (hs : s.small) (hg : s.good) (hchk : s.checkR.2 = 0) (j0 b0 v0 : Nat) (hj : j0 < s.parts.length) (hbb : b0 < s.bars.length) (hb0 : b0 < (s.parts.getD j0 pa0).cells.length) (hv0 : v0 < ((s.parts.getD j0 pa0).cells.getD b0 []).length) (hp : o.part = (j0 : Nat)) (hq : o.bar = (b0 : Nat)) (hv : o.voice = (v0 : Nat)) (h1 : ¬ (0 ≤ o.at_ ∧ 0 ≤ o.count ∧ o.at_ ≤ ((((s.parts.getD j0 pa0).cells.getD b0 []).getD v0 ⟨[]⟩).l.length : Nat) ∧ o.count ≤ ((((s.parts.getD j0 pa0).cells.getD b0 []).getD v0 ⟨[]⟩).l.length : Nat) - o.at_)) (hll : (((s.parts.getD j0 pa0).cells.getD b0 []).getD v0 ⟨[]⟩).l.length ≤ 1000000) (hat : -9223372036854775808 ≤ o.at_ ∧ o.at_ ≤ 9223372036854775807) : PC Tryz.prog gl 7 [s.av, o.av] (fun v => v = errR 90) := by
  have hown := copied_own s hg j0 b0 v0 hj hb0 hv0
  (refine PC.introZ 2 mix (fn := Tryz.f7) Tryz.func7 rfl (names 7 _ Tryz.func7) fun F hF hro W => ?_; simp -implicitDefEqProofs only [Tryz.ntmps7, Tryz.results7, fr0, st0, List.length_cons, List.length_nil, List.cons_append, List.nil_append, Nat.reduceAdd, Nat.reduceSub, List.replicate_succ, List.replicate_zero])
  repeat' (first
    | simp -implicitDefEqProofs only [↓reduceIte, runsY, lstY, facts, Nat.reduceAdd, Nat.reduceEqDiff, Nat.reduceLeDiff, Int.reduceBEq, Int.reduceBNe, aop2, akc_kind, aeq_kind, afind_nil, afind_cons, ents, AV.cells, AV.one, EOp.av, Sc.av, plcAV, plAV, hk, hchk, ren_score, hup_cons, hup_nil, hC_cons, hC_nil, evRen, voC_up, ceC_up, paC_up, paH_at, vops_nil, vops_cons, vstep_val, drawVK_at, *]
    | ((with_reducible refine v_at 16 ?_); refine vstep_own hF hro hown (rfl) ?_)
    | ((with_reducible refine OZ_drawn ?_); refine OZ_drawV (by decide +kernel) ?_)
    | ((with_reducible refine wend ?_ ?_); · decide +kernel)
    | ((with_reducible refine OZ_at 15 ?_); refine PC.useZ hF (check_ok s hs) (rfl) fun v hv => ?_; subst hv))
  refine OZ_at 17 ?_
  (refine OZ_inline hF hro mix names 2 (fn := Tryz.f17) Tryz.func17 rfl ?_; simp -implicitDefEqProofs only [Tryz.ntmps17, Tryz.results17, fr0, st0, List.length_cons, List.length_nil, List.cons_append, List.nil_append, Nat.reduceAdd, Nat.reduceSub, List.replicate_succ, List.replicate_zero])
  have hcell := cell_rd s (.int .i64 1) (v0 : Nat) o.at_ j0 (.int .i64 o.count :: .sl 9 (o.events.map Ev.av) .none :: .sl 14 (o.bars.map Ba.av) .none :: .sl 1 (o.cells.map cellsAV) .none :: .sl 1 (o.dyns.map dynssAV) .none :: .int .i64 o.steps :: .int .i64 o.halves :: .str o.text :: back0) (rowsAt (ceC 22 (s.parts.getD j0 pa0).cells b0) (s.parts.getD j0 pa0).cells.length) b0 hj hbb hb0
  have hq1 : (rowsAt (ceC 22 (s.parts.getD j0 pa0).cells b0) (s.parts.getD j0 pa0).cells.length).length = (s.parts.getD j0 pa0).cells.length := by rw [rowsAt_len (k := 1) (fun _ => rfl), Nat.mul_one]
  have hq2 : (List.drop b0 (rowsAt (ceC 22 (s.parts.getD j0 pa0).cells b0) (s.parts.getD j0 pa0).cells.length)).head? = some (.msl 22 0 ((s.parts.getD j0 pa0).cells.getD b0 []).length 1) := by
    have := rowsAt_head (c := ceC 22 (s.parts.getD j0 pa0).cells b0) (k := 1) (fun _ => rfl) hb0 (i := 0) (by omega)
    rw [Nat.mul_one, Nat.add_zero] at this
    rw [this]; simp [ceC]
  have k1 : b0 ≤ (s.parts.getD j0 pa0).cells.length := by omega
  have k2 : 1 ≤ (s.parts.getD j0 pa0).cells.length - b0 := by omega
  have hv1 : (rowsAt (voC 23 ((s.parts.getD j0 pa0).cells.getD b0 []) v0) ((s.parts.getD j0 pa0).cells.getD b0 []).length).length = ((s.parts.getD j0 pa0).cells.getD b0 []).length := by rw [rowsAt_len (k := 1) (fun _ => rfl), Nat.mul_one]
  have hv2 : (List.drop v0 (rowsAt (voC 23 ((s.parts.getD j0 pa0).cells.getD b0 []) v0) ((s.parts.getD j0 pa0).cells.getD b0 []).length)).head? = some (.msl 23 0 (((s.parts.getD j0 pa0).cells.getD b0 []).getD v0 ⟨[]⟩).l.length 9) := by
    have := rowsAt_head (c := voC 23 ((s.parts.getD j0 pa0).cells.getD b0 []) v0) (k := 1) (fun _ => rfl) hv0 (i := 0) (by omega)
    rw [Nat.mul_one, Nat.add_zero] at this
    rw [this]; simp [voC]
  have k3 : v0 ≤ ((s.parts.getD j0 pa0).cells.getD b0 []).length := by omega
  have k4 : 1 ≤ ((s.parts.getD j0 pa0).cells.getD b0 []).length - v0 := by omega
  have k5 : ((v0 : Nat) : Int) < ((((s.parts.getD j0 pa0).cells.getD b0 []).length : Nat) : Int) := by omega
  repeat' (first
    | simp -implicitDefEqProofs only [↓reduceIte, runsY, lstY, facts, Nat.reduceAdd, Nat.reduceEqDiff, Nat.reduceLeDiff, Int.reduceBNe, List.flatMap_cons, List.flatMap_nil, AV.cells, AV.one, List.length_drop, Int.natCast_nonneg, vops_nil, vops_cons, vstep_val, vstep_skip, drawVK_at, *]
    | ((with_reducible refine v_at 45 ?_); refine vstep_call (there_t _ _ (by omega)) (rfl) ?_)
    | ((with_reducible refine v_at 46 ?_); refine vstep_call (span_f _ _ _ hat (by omega) h1) (rfl) ?_)
    | ((with_reducible refine v_at 44 ?_); refine vstep_rd [28, 20, 21] _ hcell (rd_sub ⟨⟨rfl, rfl⟩, ⟨rfl, rfl⟩, ⟨rfl, rfl⟩, trivial⟩) ?_)
    | ((with_reducible refine OZ_drawn ?_); refine OZ_drawV (by decide +kernel) ?_)
    | ((with_reducible refine wend ?_ ?_); · decide +kernel))
  all_goals rfl
end Go.Proofs.Pv
