/-
  Layer 9: edit.Apply at bars that cannot be put in, or taken out.
  Conditions: a small, right score.
-/
import Derived.Test.YtiikpmhjckdpgaaGreatDoorC10k
import Derived.Test.YtiikpmhjckdpgaaGreatDoorC10c
import Derived.Test.YtiikpmhjckdpgaaGreatDoorC09k
namespace Go.Proofs.Pv
open Go Go.Proofs
set_option linter.unusedSimpArgs false
set_option linter.unusedVariables false
set_option maxRecDepth 100000
set_option maxHeartbeats 8000000
theorem good_open {s : Sc} (hg : s.good) : 0 < (s.parts.getD 0 pa0).cells.length ∧ 0 < ((s.parts.getD 0 pa0).cells.getD 0 []).length := by
 have hb0 : 0 < (s.parts.getD 0 pa0).cells.length := by
  rw [List.getD_eq_getElem?_getD, List.getElem?_eq_getElem hg.lo]; exact (hg.pa _ (List.getElem_mem hg.lo)).lo
 refine ⟨hb0, ?_⟩
 have hp : (s.parts.getD 0 pa0).good := by
  rw [List.getD_eq_getElem?_getD, List.getElem?_eq_getElem hg.lo]; exact hg.pa _ (List.getElem_mem hg.lo)
 rw [List.getD_eq_getElem?_getD (l := (s.parts.getD 0 pa0).cells), List.getElem?_eq_getElem hb0]; exact (hp.ce _ (List.getElem_mem hb0)).lo
theorem apply_noIn (s : Sc) (o : EOp) (hk : o.kind = 2) (hs : s.small) (hg : s.good) (hchk : s.checkR.2 = 0) (hbl : s.bars.length ≤ 1000) (h1 : ¬ (0 ≤ o.bar ∧ o.bar < ((s.bars.length : Nat) : Int) + 1)) : PC Tryz.prog gl 7 [s.av, o.av] (fun v => v = errR 90) := by
 have hown := copied_own s hg 0 0 0 hg.lo (good_open hg).1 (good_open hg).2
 have hw : IntKind.i64.wrap (((s.bars.length : Nat) : Int) + 1) = ((s.bars.length : Nat) : Int) + 1 := wrap_in (by omega)
 (refine PC.introZ 2 mix (fn := Tryz.f7) Tryz.func7 rfl (names 7 _ Tryz.func7) fun F hF hro W => ?_; simp -implicitDefEqProofs only [Tryz.ntmps7, Tryz.results7, entL, Nat.reduceAdd, Nat.reduceSub])
 repeat' (first
  | simp -implicitDefEqProofs (maxSteps := 9999999) only [↓reduceIte, runsY, lstY, facts, Nat.reduceAdd, Nat.reduceEqDiff, Nat.reduceLeDiff, Int.reduceBEq, Int.reduceBNe, aop2, akc_kind, aeq_kind, afind_nil, afind_cons, ents, AV.cells, AV.one, EOp.av, Sc.av, plcAV, plAV, hk, hchk, ren_score, hup_cons, hup_nil, hC_cons, hC_nil, evRen, voC_up, ceC_up, paC_up, paH_at, vops_nil, vops_cons, vstep_val, drawVK_at, *]
  | ((with_reducible refine v_at 16 ?_); refine vstep_own hF hro hown (rfl) ?_)
  | ((with_reducible refine OZ_drawn ?_); refine OZ_drawV (by decide +kernel) ?_)
  | ((with_reducible refine wend ?_ ?_); · decide +kernel)
  | ((with_reducible refine OZ_at 15 ?_); refine PC.useZ hF (check_ok s hs) (rfl) fun v hv => ?_; subst hv))
 refine OZ_at 18 ?_
 (refine OZ_inline hF hro mix names 1 (fn := Tryz.f18) Tryz.func18 rfl ?_; simp -implicitDefEqProofs only [Tryz.ntmps18, Tryz.results18, entL, Nat.reduceAdd, Nat.reduceSub])
 repeat' (first
  | simp -implicitDefEqProofs (maxSteps := 9999999) only [↓reduceIte, runsY, lstY, facts, Nat.reduceAdd, Nat.reduceEqDiff, Nat.reduceLeDiff, Int.reduceBNe, AV.cells, Option.map_none, AV.one, *]
  | ((with_reducible refine OZ_at 45 ?_); refine PC.useZ hF (there_f _ _ h1) (rfl) fun v hv => ?_; subst hv))
 all_goals rfl
theorem apply_noCe (s : Sc) (o : EOp) (hk : o.kind = 2) (hs : s.small) (hg : s.good) (hchk : s.checkR.2 = 0) (hbl : s.bars.length ≤ 1000) (hcl : o.cells.length ≤ 1000) (h0 : 0 ≤ o.bar ∧ o.bar < ((s.bars.length : Nat) : Int) + 1) (h1 : fitB s.parts.length o.bars.length o.cells = false) : PC Tryz.prog gl 7 [s.av, o.av] (fun v => v = errR 90) := by
 have hown := copied_own s hg 0 0 0 hg.lo (good_open hg).1 (good_open hg).2
 have hw : IntKind.i64.wrap (((s.bars.length : Nat) : Int) + 1) = ((s.bars.length : Nat) : Int) + 1 := wrap_in (by omega)
 have hfc := fitsVo28_rd s.title (.sl 14 (s.bars.map Ba.av) .none) (.int .i64 2) (.int .i64 o.part) (.int .i64 o.bar) (.int .i64 o.voice) (.int .i64 o.at_) (.int .i64 o.count) (.sl 9 (o.events.map Ev.av) .none) s.parts.length o.cells o.bars (.sl 1 (o.cells.map cellsAV) .none :: .sl 1 (o.dyns.map dynssAV) .none :: .int .i64 o.steps :: .int .i64 o.halves :: .str o.text :: back0) (by omega) (fun f hf => by simp only [back0, List.map_cons, List.map_nil, AV.ren, hf 20 (by decide)])
 rw [h1] at hfc
 simp only [back0] at hfc
 (refine PC.introZ 2 mix (fn := Tryz.f7) Tryz.func7 rfl (names 7 _ Tryz.func7) fun F hF hro W => ?_; simp -implicitDefEqProofs only [Tryz.ntmps7, Tryz.results7, entL, Nat.reduceAdd, Nat.reduceSub])
 repeat' (first
  | simp -implicitDefEqProofs (maxSteps := 9999999) only [↓reduceIte, runsY, lstY, facts, Nat.reduceAdd, Nat.reduceEqDiff, Nat.reduceLeDiff, Int.reduceBEq, Int.reduceBNe, aop2, akc_kind, aeq_kind, afind_nil, afind_cons, ents, AV.cells, AV.one, EOp.av, Sc.av, plcAV, plAV, hk, hchk, ren_score, hup_cons, hup_nil, hC_cons, hC_nil, evRen, voC_up, ceC_up, paC_up, paH_at, vops_nil, vops_cons, vstep_val, drawVK_at, *]
  | ((with_reducible refine v_at 16 ?_); refine vstep_own hF hro hown (rfl) ?_)
  | ((with_reducible refine OZ_drawn ?_); refine OZ_drawV (by decide +kernel) ?_)
  | ((with_reducible refine wend ?_ ?_); · decide +kernel)
  | ((with_reducible refine OZ_at 15 ?_); refine PC.useZ hF (check_ok s hs) (rfl) fun v hv => ?_; subst hv))
 refine OZ_at 18 ?_
 (refine OZ_inline hF hro mix names 1 (fn := Tryz.f18) Tryz.func18 rfl ?_; simp -implicitDefEqProofs only [Tryz.ntmps18, Tryz.results18, entL, Nat.reduceAdd, Nat.reduceSub])
 repeat' (first
  | simp -implicitDefEqProofs (maxSteps := 9999999) only [↓reduceIte, runsY, lstY, facts, Nat.reduceAdd, Nat.reduceEqDiff, Nat.reduceLeDiff, Int.reduceBNe, AV.cells, Option.map_none, AV.one, *]
  | ((with_reducible refine OZ_at 45 ?_); refine PC.useZ hF (there_t _ _ (by omega)) (rfl) fun v hv => ?_; subst hv)
  | ((with_reducible refine OZ_at 50 ?_); refine OZ_call (Rd.call hF hfc (rdSub rfl) ?_)))
 all_goals rfl
theorem apply_noDy (s : Sc) (o : EOp) (hk : o.kind = 2) (hs : s.small) (hg : s.good) (hchk : s.checkR.2 = 0) (hbl : s.bars.length ≤ 1000) (hcl : o.cells.length ≤ 1000) (hdl : o.dyns.length ≤ 1000) (h0 : 0 ≤ o.bar ∧ o.bar < ((s.bars.length : Nat) : Int) + 1) (h1 : fitB s.parts.length o.bars.length o.cells = true) (h2 : fitB s.parts.length o.bars.length o.dyns = false) : PC Tryz.prog gl 7 [s.av, o.av] (fun v => v = errR 90) := by
 have hown := copied_own s hg 0 0 0 hg.lo (good_open hg).1 (good_open hg).2
 have hw : IntKind.i64.wrap (((s.bars.length : Nat) : Int) + 1) = ((s.bars.length : Nat) : Int) + 1 := wrap_in (by omega)
 have hfc := fitsVo28_rd s.title (.sl 14 (s.bars.map Ba.av) .none) (.int .i64 2) (.int .i64 o.part) (.int .i64 o.bar) (.int .i64 o.voice) (.int .i64 o.at_) (.int .i64 o.count) (.sl 9 (o.events.map Ev.av) .none) s.parts.length o.cells o.bars (.sl 1 (o.cells.map cellsAV) .none :: .sl 1 (o.dyns.map dynssAV) .none :: .int .i64 o.steps :: .int .i64 o.halves :: .str o.text :: back0) (by omega) (fun f hf => by simp only [back0, List.map_cons, List.map_nil, AV.ren, hf 20 (by decide)])
 have hfd := fitsDy28_rd s.title (.sl 14 (s.bars.map Ba.av) .none) (.int .i64 2) (.int .i64 o.part) (.int .i64 o.bar) (.int .i64 o.voice) (.int .i64 o.at_) (.int .i64 o.count) (.sl 9 (o.events.map Ev.av) .none) s.parts.length o.dyns o.bars (.sl 1 (o.cells.map cellsAV) .none :: .sl 1 (o.dyns.map dynssAV) .none :: .int .i64 o.steps :: .int .i64 o.halves :: .str o.text :: back0) (by omega) (fun f hf => by simp only [back0, List.map_cons, List.map_nil, AV.ren, hf 20 (by decide)])
 rw [h1] at hfc
 rw [h2] at hfd
 simp only [back0] at hfc hfd
 (refine PC.introZ 2 mix (fn := Tryz.f7) Tryz.func7 rfl (names 7 _ Tryz.func7) fun F hF hro W => ?_; simp -implicitDefEqProofs only [Tryz.ntmps7, Tryz.results7, entL, Nat.reduceAdd, Nat.reduceSub])
 repeat' (first
  | simp -implicitDefEqProofs (maxSteps := 9999999) only [↓reduceIte, runsY, lstY, facts, Nat.reduceAdd, Nat.reduceEqDiff, Nat.reduceLeDiff, Int.reduceBEq, Int.reduceBNe, aop2, akc_kind, aeq_kind, afind_nil, afind_cons, ents, AV.cells, AV.one, EOp.av, Sc.av, plcAV, plAV, hk, hchk, ren_score, hup_cons, hup_nil, hC_cons, hC_nil, evRen, voC_up, ceC_up, paC_up, paH_at, vops_nil, vops_cons, vstep_val, drawVK_at, *]
  | ((with_reducible refine v_at 16 ?_); refine vstep_own hF hro hown (rfl) ?_)
  | ((with_reducible refine OZ_drawn ?_); refine OZ_drawV (by decide +kernel) ?_)
  | ((with_reducible refine wend ?_ ?_); · decide +kernel)
  | ((with_reducible refine OZ_at 15 ?_); refine PC.useZ hF (check_ok s hs) (rfl) fun v hv => ?_; subst hv))
 refine OZ_at 18 ?_
 (refine OZ_inline hF hro mix names 1 (fn := Tryz.f18) Tryz.func18 rfl ?_; simp -implicitDefEqProofs only [Tryz.ntmps18, Tryz.results18, entL, Nat.reduceAdd, Nat.reduceSub])
 repeat' (first
  | simp -implicitDefEqProofs (maxSteps := 9999999) only [↓reduceIte, runsY, lstY, facts, Nat.reduceAdd, Nat.reduceEqDiff, Nat.reduceLeDiff, Int.reduceBNe, AV.cells, AV.one, *]
  | ((with_reducible refine OZ_at 45 ?_); refine PC.useZ hF (there_t _ _ (by omega)) (rfl) fun v hv => ?_; subst hv)
  | ((with_reducible refine OZ_at 50 ?_); refine OZ_call (Rd.call hF hfc (rdSub rfl) ?_))
  | ((with_reducible refine OZ_at 51 ?_); refine OZ_call (Rd.call hF hfd (rdSub rfl) ?_)))
 all_goals rfl
theorem apply_noOut (s : Sc) (o : EOp) (hk : o.kind = 3) (hs : s.small) (hg : s.good) (hchk : s.checkR.2 = 0) (hbl : s.bars.length ≤ 1000) (hi : -9223372036854775808 ≤ o.bar ∧ o.bar ≤ 9223372036854775807) (h1 : ¬ (0 ≤ o.bar ∧ 0 ≤ o.count ∧ o.bar ≤ ((s.bars.length : Nat) : Int) ∧ o.count ≤ ((s.bars.length : Nat) : Int) - o.bar)) : PC Tryz.prog gl 7 [s.av, o.av] (fun v => v = errR 90) := by
 have hown := copied_own s hg 0 0 0 hg.lo (good_open hg).1 (good_open hg).2
 (refine PC.introZ 2 mix (fn := Tryz.f7) Tryz.func7 rfl (names 7 _ Tryz.func7) fun F hF hro W => ?_; simp -implicitDefEqProofs only [Tryz.ntmps7, Tryz.results7, entL, Nat.reduceAdd, Nat.reduceSub])
 repeat' (first
  | simp -implicitDefEqProofs (maxSteps := 9999999) only [↓reduceIte, runsY, lstY, facts, Nat.reduceAdd, Nat.reduceEqDiff, Nat.reduceLeDiff, Int.reduceBEq, Int.reduceBNe, aop2, akc_kind, aeq_kind, afind_nil, afind_cons, ents, AV.cells, AV.one, EOp.av, Sc.av, plcAV, plAV, hk, hchk, ren_score, hup_cons, hup_nil, hC_cons, hC_nil, evRen, voC_up, ceC_up, paC_up, paH_at, vops_nil, vops_cons, vstep_val, drawVK_at, *]
  | ((with_reducible refine v_at 16 ?_); refine vstep_own hF hro hown (rfl) ?_)
  | ((with_reducible refine OZ_drawn ?_); refine OZ_drawV (by decide +kernel) ?_)
  | ((with_reducible refine wend ?_ ?_); · decide +kernel)
  | ((with_reducible refine OZ_at 15 ?_); refine PC.useZ hF (check_ok s hs) (rfl) fun v hv => ?_; subst hv))
 refine OZ_at 19 ?_
 (refine OZ_inline hF hro mix names 1 (fn := Tryz.f19) Tryz.func19 rfl ?_; simp -implicitDefEqProofs only [Tryz.ntmps19, Tryz.results19, entL, Nat.reduceAdd, Nat.reduceSub])
 repeat' (first
  | simp -implicitDefEqProofs (maxSteps := 9999999) only [↓reduceIte, runsY, lstY, facts, Nat.reduceAdd, Nat.reduceEqDiff, Nat.reduceLeDiff, Int.reduceBNe, AV.cells, AV.one, vops_nil, vops_cons, vstep_val, drawVK_at, *]
  | ((with_reducible refine OZ_drawn ?_); refine OZ_drawV (by decide +kernel) ?_)
  | ((with_reducible refine wend ?_ ?_); · decide +kernel)
  | ((with_reducible refine OZ_at 46 ?_); refine PC.useZ hF (span_f _ _ _ (by omega) (by omega) h1) (rfl) fun v hv => ?_; subst hv))
 all_goals rfl
end Go.Proofs.Pv
