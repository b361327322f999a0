/-
  Layer 9: edit.Apply at an edit that takes bars out, of a right score of 1 parts.
  Layer 9: edit.Apply at an edit that takes bars out, of a right score of 2 parts.
  Layer 9: edit.Apply at an edit that takes bars out, of a right score of 3 parts.
  Layer 9: edit.Apply at an edit that takes bars out, of a right score of 4 parts.
  Conditions: none but those that each statement names.
-/
import Derived.Test.YtiikpmhjckdpgaaGreatDoorC10n
import Derived.Test.YtiikpmhjckdpgaaGreatDoorC10m
import Derived.Test.YtiikpmhjckdpgaaGreatDoorC09k
namespace Go.Proofs.Pv
open Go Go.Proofs
set_option linter.unusedSimpArgs false
set_option linter.unusedVariables false
set_option maxRecDepth 100000
set_option maxHeartbeats 8000000
section
variable (t : ByteArray) (bs : List Ba) (p0 : Pa) (o : EOp) (hs : Sc.small ⟨t, bs, [p0]⟩) (hchk : (Sc.mk t bs [p0]).checkR.2 = 0) (hbl : bs.length ≤ 1000) (hbs : ∀ b ∈ bs, b.short) (hnb : 0 < bs.length) (h0 : p0.shortB) (ha0 : p0.cells.length = bs.length) (hb0 : p0.dyns.length = bs.length)
 (hk : o.kind = 3) (b c : Nat) (HB : o.bar = (b : Nat)) (HC : o.count = (c : Nat)) (hb : b + c ≤ bs.length)
include hs hchk hbl hbs hnb h0 ha0 hb0 hk HB HC hb
theorem applyOut1 (hts : (Sc.mk t (delL bs b c) [p0.del b c]).small) (v : AV) (hr1 : List (Nat × List AV)) (hV : Box ((Sc.mk t (delL bs b c) [p0.del b c]).checkR.2 = 0 → v = .tup [.agg [.str t, .msl 1 0 (delL bs b c).length 14, .msl 0 0 1 5], .agg [.int .i64 2, .int .i64 0, .int .i64 (b : Nat), .int .i64 0, .int .i64 0, .int .i64 0, .sl 9 [] .full, .sl 14 (((bs.drop b).take c).map Ba.av) .none, .sl 1 [.sl 1 (((p0.cells.drop b).take c).map cellAV) .none] .none, .sl 1 [.sl 1 (((p0.dyns.drop b).take c).map dynsAV) .none] .none, .int .i64 0, .int .i64 0, .str ⟨#[]⟩], .int .i64 0] ∧ hr1 = (0, pRow (p0.del b c) 2 3) :: (1, (delL bs b c).flatMap Ba.cells) :: (pC (p0.del b c) 2 3))) (hE : Box (¬ (Sc.mk t (delL bs b c) [p0.del b c]).checkR.2 = 0 → v = errF (Sc.mk t (delL bs b c) [p0.del b c]).checkR.2 ∧ hr1 = [])) : Own Tryz.prog gl 7 [(Sc.mk t bs [p0]).av, o.av] v hr1 10 := by
 have hown := copiedL1 t bs (by omega) hbs hnb p0 h0 (by omega) (by omega)
 simp only [Sc.av, List.map_cons, List.map_nil] at hown
 have gc0 : b + c ≤ p0.cells.length ∧ p0.cells.length ≤ 1000 := ⟨by omega, by omega⟩
 have gd0 : b + c ≤ p0.dyns.length ∧ p0.dyns.length ≤ 1000 := ⟨by omega, by omega⟩
 have ea0 := Box.mk ha0
 have eb0 := Box.mk hb0
 clear ha0 hb0
 (refine Own.intro 3 mix names (fn := Tryz.f7) Tryz.func7 rfl fun F hF hro W => ?_; simp -implicitDefEqProofs only [Tryz.ntmps7, Tryz.results7, entL, Nat.reduceAdd, Nat.reduceSub])
 repeat' (first
  | simp -implicitDefEqProofs (maxSteps := 9999999) only [↓reduceIte, runsY, lstY, facts, Nat.reduceAdd, Nat.reduceEqDiff, Nat.reduceLeDiff, Int.reduceBEq, Int.reduceBNe, aop2, akc_kind, aeq_kind, afind_nil, afind_cons, ents, AV.cells, AV.one, EOp.av, Sc.av, plcAV, plAV, hk, hchk, HB, HC, ren_scoreB, ren_up, hup_cons, hup_nil, hC_cons, hC_nil, ceRen, dyRen, baRen, renS, renI, vops_nil, vops_cons, vstep_val, drawVK_at, *]
  | ((with_reducible refine v_at 16 ?_); refine vstep_own hF hro hown (rfl) ?_)
  | ((with_reducible refine OZ_drawn ?_); refine OZ_drawV (by decide +kernel) ?_)
  | ((with_reducible refine wend ?_ ?_); · decide +kernel)
  | ((with_reducible refine OZ_at 15 ?_); refine PC.useZ hF (check_ok _ hs) (rfl) fun v hv => ?_; subst hv))
 refine OZ_at 19 ?_
 refine barsOut1 t bs p0 o _ _ _ _ _ _ b c hb hbl gc0 gd0 hF hro ea0.out eb0.out ?_
 simp only [pre6, opL, back0, pRow, pBlk, pC, Pa.ins, Pa.del, List.cons_append, List.nil_append]
 repeat' (first
  | simp -implicitDefEqProofs (maxSteps := 9999999) only [↓reduceIte, runsY, lstY, facts, Nat.reduceAdd, Nat.reduceEqDiff, Nat.reduceLeDiff, Int.reduceBEq, Int.reduceBNe, plcAV, plAV, vops_nil, vops_cons, vstep_val, vstep_skip, drawVK_at, *]
  | ((with_reducible refine condK_split (fun _ => ?_) (fun _ => ?_)) <;> try omega)
  | ((with_reducible refine OZ_drawn ?_); refine OZ_drawV (by decide +kernel) ?_)
  | ((with_reducible refine wend ?_ ?_); · decide +kernel)
  | ((with_reducible refine OZ_at 15 ?_); (refine OZ_now hF (fun _ => false) 5 (check_ok _ hts) (fun v hv => by subst hv; rfl) (by simp only [List.map_cons, List.map_nil]; rw [nowSc1 (d := 1) t (delL bs b c) (p0.del b c) (fun _ => rfl) rfl rfl rfl rfl]) (fun v hv => ?_); subst hv)))
 ·rename_i h
  obtain ⟨rfl, rfl⟩ := hE.out (by simpa using h)
  exact OwnK.of [] rfl HRen.nil rfl
 ·rename_i h
  obtain ⟨rfl, rfl⟩ := hV.out (by simpa using h)
  exact OwnK.of [(20, 0), (128, 1), (204, 2), (217, 3)] rfl (HRen.cons 20 rfl rfl rfl (HRen.cons 128 rfl rfl (baRen _) (HRen.cons 204 rfl rfl (ceRen _) (HRen.cons 217 rfl rfl (dyRen _) HRen.nil)))) rfl
end
end Go.Proofs.Pv
namespace Go.Proofs.Pv
open Go Go.Proofs
set_option linter.unusedSimpArgs false
set_option linter.unusedVariables false
set_option maxRecDepth 100000
set_option maxHeartbeats 8000000
section
variable (t : ByteArray) (bs : List Ba) (p0 p1 : Pa) (o : EOp) (hs : Sc.small ⟨t, bs, [p0, p1]⟩) (hchk : (Sc.mk t bs [p0, p1]).checkR.2 = 0) (hbl : bs.length ≤ 1000) (hbs : ∀ b ∈ bs, b.short) (hnb : 0 < bs.length) (h0 : p0.shortB) (ha0 : p0.cells.length = bs.length) (hb0 : p0.dyns.length = bs.length) (h1 : p1.shortB) (ha1 : p1.cells.length = bs.length) (hb1 : p1.dyns.length = bs.length)
 (hk : o.kind = 3) (b c : Nat) (HB : o.bar = (b : Nat)) (HC : o.count = (c : Nat)) (hb : b + c ≤ bs.length)
include hs hchk hbl hbs hnb h0 ha0 hb0 h1 ha1 hb1 hk HB HC hb
theorem applyOut2 (hts : (Sc.mk t (delL bs b c) [p0.del b c, p1.del b c]).small) (v : AV) (hr1 : List (Nat × List AV)) (hV : Box ((Sc.mk t (delL bs b c) [p0.del b c, p1.del b c]).checkR.2 = 0 → v = .tup [.agg [.str t, .msl 1 0 (delL bs b c).length 14, .msl 0 0 2 5], .agg [.int .i64 2, .int .i64 0, .int .i64 (b : Nat), .int .i64 0, .int .i64 0, .int .i64 0, .sl 9 [] .full, .sl 14 (((bs.drop b).take c).map Ba.av) .none, .sl 1 [.sl 1 (((p0.cells.drop b).take c).map cellAV) .none, .sl 1 (((p1.cells.drop b).take c).map cellAV) .none] .none, .sl 1 [.sl 1 (((p0.dyns.drop b).take c).map dynsAV) .none, .sl 1 (((p1.dyns.drop b).take c).map dynsAV) .none] .none, .int .i64 0, .int .i64 0, .str ⟨#[]⟩], .int .i64 0] ∧ hr1 = (0, pRow (p0.del b c) 2 3 ++ pRow (p1.del b c) 4 5) :: (1, (delL bs b c).flatMap Ba.cells) :: (pC (p0.del b c) 2 3 ++ pC (p1.del b c) 4 5))) (hE : Box (¬ (Sc.mk t (delL bs b c) [p0.del b c, p1.del b c]).checkR.2 = 0 → v = errF (Sc.mk t (delL bs b c) [p0.del b c, p1.del b c]).checkR.2 ∧ hr1 = [])) : Own Tryz.prog gl 7 [(Sc.mk t bs [p0, p1]).av, o.av] v hr1 10 := by
 have hown := copiedL2 t bs (by omega) hbs hnb p0 p1 h0 (by omega) (by omega) h1 (by omega) (by omega)
 simp only [Sc.av, List.map_cons, List.map_nil] at hown
 have gc0 : b + c ≤ p0.cells.length ∧ p0.cells.length ≤ 1000 := ⟨by omega, by omega⟩
 have gd0 : b + c ≤ p0.dyns.length ∧ p0.dyns.length ≤ 1000 := ⟨by omega, by omega⟩
 have ea0 := Box.mk ha0
 have eb0 := Box.mk hb0
 clear ha0 hb0
 have gc1 : b + c ≤ p1.cells.length ∧ p1.cells.length ≤ 1000 := ⟨by omega, by omega⟩
 have gd1 : b + c ≤ p1.dyns.length ∧ p1.dyns.length ≤ 1000 := ⟨by omega, by omega⟩
 have ea1 := Box.mk ha1
 have eb1 := Box.mk hb1
 clear ha1 hb1
 (refine Own.intro 3 mix names (fn := Tryz.f7) Tryz.func7 rfl fun F hF hro W => ?_; simp -implicitDefEqProofs only [Tryz.ntmps7, Tryz.results7, entL, Nat.reduceAdd, Nat.reduceSub])
 repeat' (first
  | simp -implicitDefEqProofs (maxSteps := 9999999) only [↓reduceIte, runsY, lstY, facts, Nat.reduceAdd, Nat.reduceEqDiff, Nat.reduceLeDiff, Int.reduceBEq, Int.reduceBNe, aop2, akc_kind, aeq_kind, afind_nil, afind_cons, ents, AV.cells, AV.one, EOp.av, Sc.av, plcAV, plAV, hk, hchk, HB, HC, ren_scoreB, ren_up, hup_cons, hup_nil, hC_cons, hC_nil, ceRen, dyRen, baRen, renS, renI, vops_nil, vops_cons, vstep_val, drawVK_at, *]
  | ((with_reducible refine v_at 16 ?_); refine vstep_own hF hro hown (rfl) ?_)
  | ((with_reducible refine OZ_drawn ?_); refine OZ_drawV (by decide +kernel) ?_)
  | ((with_reducible refine wend ?_ ?_); · decide +kernel)
  | ((with_reducible refine OZ_at 15 ?_); refine PC.useZ hF (check_ok _ hs) (rfl) fun v hv => ?_; subst hv))
 refine OZ_at 19 ?_
 refine barsOut2 t bs p0 p1 o _ _ _ _ _ _ b c hb hbl gc0 gd0 gc1 gd1 hF hro ea0.out eb0.out ea1.out eb1.out ?_
 simp only [pre6, opL, back0, pRow, pBlk, pC, Pa.ins, Pa.del, List.cons_append, List.nil_append]
 repeat' (first
  | simp -implicitDefEqProofs (maxSteps := 9999999) only [↓reduceIte, runsY, lstY, facts, Nat.reduceAdd, Nat.reduceEqDiff, Nat.reduceLeDiff, Int.reduceBEq, Int.reduceBNe, plcAV, plAV, vops_nil, vops_cons, vstep_val, vstep_skip, drawVK_at, *]
  | ((with_reducible refine condK_split (fun _ => ?_) (fun _ => ?_)) <;> try omega)
  | ((with_reducible refine OZ_drawn ?_); refine OZ_drawV (by decide +kernel) ?_)
  | ((with_reducible refine wend ?_ ?_); · decide +kernel)
  | ((with_reducible refine OZ_at 15 ?_); (refine OZ_now hF (fun _ => false) 5 (check_ok _ hts) (fun v hv => by subst hv; rfl) (by simp only [List.map_cons, List.map_nil]; rw [nowSc2 (d := 1) t (delL bs b c) (p0.del b c) (p1.del b c) (fun _ => rfl) rfl rfl rfl rfl rfl rfl]) (fun v hv => ?_); subst hv)))
 ·rename_i h
  obtain ⟨rfl, rfl⟩ := hE.out (by simpa using h)
  exact OwnK.of [] rfl HRen.nil rfl
 ·rename_i h
  obtain ⟨rfl, rfl⟩ := hV.out (by simpa using h)
  exact OwnK.of [(20, 0), (128, 1), (204, 2), (217, 3), (287, 4), (300, 5)] rfl (HRen.cons 20 rfl rfl rfl (HRen.cons 128 rfl rfl (baRen _) (HRen.cons 204 rfl rfl (ceRen _) (HRen.cons 217 rfl rfl (dyRen _) (HRen.cons 287 rfl rfl (ceRen _) (HRen.cons 300 rfl rfl (dyRen _) HRen.nil)))))) rfl
end
end Go.Proofs.Pv
namespace Go.Proofs.Pv
open Go Go.Proofs
set_option linter.unusedSimpArgs false
set_option linter.unusedVariables false
set_option maxRecDepth 100000
set_option maxHeartbeats 8000000
section
variable (t : ByteArray) (bs : List Ba) (p0 p1 p2 : Pa) (o : EOp) (hs : Sc.small ⟨t, bs, [p0, p1, p2]⟩) (hchk : (Sc.mk t bs [p0, p1, p2]).checkR.2 = 0) (hbl : bs.length ≤ 1000) (hbs : ∀ b ∈ bs, b.short) (hnb : 0 < bs.length) (h0 : p0.shortB) (ha0 : p0.cells.length = bs.length) (hb0 : p0.dyns.length = bs.length) (h1 : p1.shortB) (ha1 : p1.cells.length = bs.length) (hb1 : p1.dyns.length = bs.length) (h2 : p2.shortB) (ha2 : p2.cells.length = bs.length) (hb2 : p2.dyns.length = bs.length)
 (hk : o.kind = 3) (b c : Nat) (HB : o.bar = (b : Nat)) (HC : o.count = (c : Nat)) (hb : b + c ≤ bs.length)
include hs hchk hbl hbs hnb h0 ha0 hb0 h1 ha1 hb1 h2 ha2 hb2 hk HB HC hb
theorem applyOut3 (hts : (Sc.mk t (delL bs b c) [p0.del b c, p1.del b c, p2.del b c]).small) (v : AV) (hr1 : List (Nat × List AV)) (hV : Box ((Sc.mk t (delL bs b c) [p0.del b c, p1.del b c, p2.del b c]).checkR.2 = 0 → v = .tup [.agg [.str t, .msl 1 0 (delL bs b c).length 14, .msl 0 0 3 5], .agg [.int .i64 2, .int .i64 0, .int .i64 (b : Nat), .int .i64 0, .int .i64 0, .int .i64 0, .sl 9 [] .full, .sl 14 (((bs.drop b).take c).map Ba.av) .none, .sl 1 [.sl 1 (((p0.cells.drop b).take c).map cellAV) .none, .sl 1 (((p1.cells.drop b).take c).map cellAV) .none, .sl 1 (((p2.cells.drop b).take c).map cellAV) .none] .none, .sl 1 [.sl 1 (((p0.dyns.drop b).take c).map dynsAV) .none, .sl 1 (((p1.dyns.drop b).take c).map dynsAV) .none, .sl 1 (((p2.dyns.drop b).take c).map dynsAV) .none] .none, .int .i64 0, .int .i64 0, .str ⟨#[]⟩], .int .i64 0] ∧ hr1 = (0, pRow (p0.del b c) 2 3 ++ pRow (p1.del b c) 4 5 ++ pRow (p2.del b c) 6 7) :: (1, (delL bs b c).flatMap Ba.cells) :: (pC (p0.del b c) 2 3 ++ pC (p1.del b c) 4 5 ++ pC (p2.del b c) 6 7))) (hE : Box (¬ (Sc.mk t (delL bs b c) [p0.del b c, p1.del b c, p2.del b c]).checkR.2 = 0 → v = errF (Sc.mk t (delL bs b c) [p0.del b c, p1.del b c, p2.del b c]).checkR.2 ∧ hr1 = [])) : Own Tryz.prog gl 7 [(Sc.mk t bs [p0, p1, p2]).av, o.av] v hr1 10 := by
 have hown := copiedL3 t bs (by omega) hbs hnb p0 p1 p2 h0 (by omega) (by omega) h1 (by omega) (by omega) h2 (by omega) (by omega)
 simp only [Sc.av, List.map_cons, List.map_nil] at hown
 have gc0 : b + c ≤ p0.cells.length ∧ p0.cells.length ≤ 1000 := ⟨by omega, by omega⟩
 have gd0 : b + c ≤ p0.dyns.length ∧ p0.dyns.length ≤ 1000 := ⟨by omega, by omega⟩
 have ea0 := Box.mk ha0
 have eb0 := Box.mk hb0
 clear ha0 hb0
 have gc1 : b + c ≤ p1.cells.length ∧ p1.cells.length ≤ 1000 := ⟨by omega, by omega⟩
 have gd1 : b + c ≤ p1.dyns.length ∧ p1.dyns.length ≤ 1000 := ⟨by omega, by omega⟩
 have ea1 := Box.mk ha1
 have eb1 := Box.mk hb1
 clear ha1 hb1
 have gc2 : b + c ≤ p2.cells.length ∧ p2.cells.length ≤ 1000 := ⟨by omega, by omega⟩
 have gd2 : b + c ≤ p2.dyns.length ∧ p2.dyns.length ≤ 1000 := ⟨by omega, by omega⟩
 have ea2 := Box.mk ha2
 have eb2 := Box.mk hb2
 clear ha2 hb2
 (refine Own.intro 3 mix names (fn := Tryz.f7) Tryz.func7 rfl fun F hF hro W => ?_; simp -implicitDefEqProofs only [Tryz.ntmps7, Tryz.results7, entL, Nat.reduceAdd, Nat.reduceSub])
 repeat' (first
  | simp -implicitDefEqProofs (maxSteps := 9999999) only [↓reduceIte, runsY, lstY, facts, Nat.reduceAdd, Nat.reduceEqDiff, Nat.reduceLeDiff, Int.reduceBEq, Int.reduceBNe, aop2, akc_kind, aeq_kind, afind_nil, afind_cons, ents, AV.cells, AV.one, EOp.av, Sc.av, plcAV, plAV, hk, hchk, HB, HC, ren_scoreB, ren_up, hup_cons, hup_nil, hC_cons, hC_nil, ceRen, dyRen, baRen, renS, renI, vops_nil, vops_cons, vstep_val, drawVK_at, *]
  | ((with_reducible refine v_at 16 ?_); refine vstep_own hF hro hown (rfl) ?_)
  | ((with_reducible refine OZ_drawn ?_); refine OZ_drawV (by decide +kernel) ?_)
  | ((with_reducible refine wend ?_ ?_); · decide +kernel)
  | ((with_reducible refine OZ_at 15 ?_); refine PC.useZ hF (check_ok _ hs) (rfl) fun v hv => ?_; subst hv))
 refine OZ_at 19 ?_
 refine barsOut3 t bs p0 p1 p2 o _ _ _ _ _ _ b c hb hbl gc0 gd0 gc1 gd1 gc2 gd2 hF hro ea0.out eb0.out ea1.out eb1.out ea2.out eb2.out ?_
 simp only [pre6, opL, back0, pRow, pBlk, pC, Pa.ins, Pa.del, List.cons_append, List.nil_append]
 repeat' (first
  | simp -implicitDefEqProofs (maxSteps := 9999999) only [↓reduceIte, runsY, lstY, facts, Nat.reduceAdd, Nat.reduceEqDiff, Nat.reduceLeDiff, Int.reduceBEq, Int.reduceBNe, plcAV, plAV, vops_nil, vops_cons, vstep_val, vstep_skip, drawVK_at, *]
  | ((with_reducible refine condK_split (fun _ => ?_) (fun _ => ?_)) <;> try omega)
  | ((with_reducible refine OZ_drawn ?_); refine OZ_drawV (by decide +kernel) ?_)
  | ((with_reducible refine wend ?_ ?_); · decide +kernel)
  | ((with_reducible refine OZ_at 15 ?_); (refine OZ_now hF (fun _ => false) 5 (check_ok _ hts) (fun v hv => by subst hv; rfl) (by simp only [List.map_cons, List.map_nil]; rw [nowSc3 (d := 1) t (delL bs b c) (p0.del b c) (p1.del b c) (p2.del b c) (fun _ => rfl) rfl rfl rfl rfl rfl rfl rfl rfl]) (fun v hv => ?_); subst hv)))
 ·rename_i h
  obtain ⟨rfl, rfl⟩ := hE.out (by simpa using h)
  exact OwnK.of [] rfl HRen.nil rfl
 ·rename_i h
  obtain ⟨rfl, rfl⟩ := hV.out (by simpa using h)
  exact OwnK.of [(20, 0), (128, 1), (204, 2), (217, 3), (287, 4), (300, 5), (370, 6), (383, 7)] rfl (HRen.cons 20 rfl rfl rfl (HRen.cons 128 rfl rfl (baRen _) (HRen.cons 204 rfl rfl (ceRen _) (HRen.cons 217 rfl rfl (dyRen _) (HRen.cons 287 rfl rfl (ceRen _) (HRen.cons 300 rfl rfl (dyRen _) (HRen.cons 370 rfl rfl (ceRen _) (HRen.cons 383 rfl rfl (dyRen _) HRen.nil)))))))) rfl
end
end Go.Proofs.Pv
namespace Go.Proofs.Pv
open Go Go.Proofs
set_option linter.unusedSimpArgs false
set_option linter.unusedVariables false
set_option maxRecDepth 100000
set_option maxHeartbeats 8000000
section
variable (t : ByteArray) (bs : List Ba) (p0 p1 p2 p3 : Pa) (o : EOp) (hs : Sc.small ⟨t, bs, [p0, p1, p2, p3]⟩) (hchk : (Sc.mk t bs [p0, p1, p2, p3]).checkR.2 = 0) (hbl : bs.length ≤ 1000) (hbs : ∀ b ∈ bs, b.short) (hnb : 0 < bs.length) (h0 : p0.shortB) (ha0 : p0.cells.length = bs.length) (hb0 : p0.dyns.length = bs.length) (h1 : p1.shortB) (ha1 : p1.cells.length = bs.length) (hb1 : p1.dyns.length = bs.length) (h2 : p2.shortB) (ha2 : p2.cells.length = bs.length) (hb2 : p2.dyns.length = bs.length) (h3 : p3.shortB) (ha3 : p3.cells.length = bs.length) (hb3 : p3.dyns.length = bs.length)
 (hk : o.kind = 3) (b c : Nat) (HB : o.bar = (b : Nat)) (HC : o.count = (c : Nat)) (hb : b + c ≤ bs.length)
include hs hchk hbl hbs hnb h0 ha0 hb0 h1 ha1 hb1 h2 ha2 hb2 h3 ha3 hb3 hk HB HC hb
theorem applyOut4 (hts : (Sc.mk t (delL bs b c) [p0.del b c, p1.del b c, p2.del b c, p3.del b c]).small) (v : AV) (hr1 : List (Nat × List AV)) (hV : Box ((Sc.mk t (delL bs b c) [p0.del b c, p1.del b c, p2.del b c, p3.del b c]).checkR.2 = 0 → v = .tup [.agg [.str t, .msl 1 0 (delL bs b c).length 14, .msl 0 0 4 5], .agg [.int .i64 2, .int .i64 0, .int .i64 (b : Nat), .int .i64 0, .int .i64 0, .int .i64 0, .sl 9 [] .full, .sl 14 (((bs.drop b).take c).map Ba.av) .none, .sl 1 [.sl 1 (((p0.cells.drop b).take c).map cellAV) .none, .sl 1 (((p1.cells.drop b).take c).map cellAV) .none, .sl 1 (((p2.cells.drop b).take c).map cellAV) .none, .sl 1 (((p3.cells.drop b).take c).map cellAV) .none] .none, .sl 1 [.sl 1 (((p0.dyns.drop b).take c).map dynsAV) .none, .sl 1 (((p1.dyns.drop b).take c).map dynsAV) .none, .sl 1 (((p2.dyns.drop b).take c).map dynsAV) .none, .sl 1 (((p3.dyns.drop b).take c).map dynsAV) .none] .none, .int .i64 0, .int .i64 0, .str ⟨#[]⟩], .int .i64 0] ∧ hr1 = (0, pRow (p0.del b c) 2 3 ++ pRow (p1.del b c) 4 5 ++ pRow (p2.del b c) 6 7 ++ pRow (p3.del b c) 8 9) :: (1, (delL bs b c).flatMap Ba.cells) :: (pC (p0.del b c) 2 3 ++ pC (p1.del b c) 4 5 ++ pC (p2.del b c) 6 7 ++ pC (p3.del b c) 8 9))) (hE : Box (¬ (Sc.mk t (delL bs b c) [p0.del b c, p1.del b c, p2.del b c, p3.del b c]).checkR.2 = 0 → v = errF (Sc.mk t (delL bs b c) [p0.del b c, p1.del b c, p2.del b c, p3.del b c]).checkR.2 ∧ hr1 = [])) : Own Tryz.prog gl 7 [(Sc.mk t bs [p0, p1, p2, p3]).av, o.av] v hr1 10 := by
 have hown := copiedL4 t bs (by omega) hbs hnb p0 p1 p2 p3 h0 (by omega) (by omega) h1 (by omega) (by omega) h2 (by omega) (by omega) h3 (by omega) (by omega)
 simp only [Sc.av, List.map_cons, List.map_nil] at hown
 have gc0 : b + c ≤ p0.cells.length ∧ p0.cells.length ≤ 1000 := ⟨by omega, by omega⟩
 have gd0 : b + c ≤ p0.dyns.length ∧ p0.dyns.length ≤ 1000 := ⟨by omega, by omega⟩
 have ea0 := Box.mk ha0
 have eb0 := Box.mk hb0
 clear ha0 hb0
 have gc1 : b + c ≤ p1.cells.length ∧ p1.cells.length ≤ 1000 := ⟨by omega, by omega⟩
 have gd1 : b + c ≤ p1.dyns.length ∧ p1.dyns.length ≤ 1000 := ⟨by omega, by omega⟩
 have ea1 := Box.mk ha1
 have eb1 := Box.mk hb1
 clear ha1 hb1
 have gc2 : b + c ≤ p2.cells.length ∧ p2.cells.length ≤ 1000 := ⟨by omega, by omega⟩
 have gd2 : b + c ≤ p2.dyns.length ∧ p2.dyns.length ≤ 1000 := ⟨by omega, by omega⟩
 have ea2 := Box.mk ha2
 have eb2 := Box.mk hb2
 clear ha2 hb2
 have gc3 : b + c ≤ p3.cells.length ∧ p3.cells.length ≤ 1000 := ⟨by omega, by omega⟩
 have gd3 : b + c ≤ p3.dyns.length ∧ p3.dyns.length ≤ 1000 := ⟨by omega, by omega⟩
 have ea3 := Box.mk ha3
 have eb3 := Box.mk hb3
 clear ha3 hb3
 (refine Own.intro 3 mix names (fn := Tryz.f7) Tryz.func7 rfl fun F hF hro W => ?_; simp -implicitDefEqProofs only [Tryz.ntmps7, Tryz.results7, entL, Nat.reduceAdd, Nat.reduceSub])
 repeat' (first
  | simp -implicitDefEqProofs (maxSteps := 9999999) only [↓reduceIte, runsY, lstY, facts, Nat.reduceAdd, Nat.reduceEqDiff, Nat.reduceLeDiff, Int.reduceBEq, Int.reduceBNe, aop2, akc_kind, aeq_kind, afind_nil, afind_cons, ents, AV.cells, AV.one, EOp.av, Sc.av, plcAV, plAV, hk, hchk, HB, HC, ren_scoreB, ren_up, hup_cons, hup_nil, hC_cons, hC_nil, ceRen, dyRen, baRen, renS, renI, vops_nil, vops_cons, vstep_val, drawVK_at, *]
  | ((with_reducible refine v_at 16 ?_); refine vstep_own hF hro hown (rfl) ?_)
  | ((with_reducible refine OZ_drawn ?_); refine OZ_drawV (by decide +kernel) ?_)
  | ((with_reducible refine wend ?_ ?_); · decide +kernel)
  | ((with_reducible refine OZ_at 15 ?_); refine PC.useZ hF (check_ok _ hs) (rfl) fun v hv => ?_; subst hv))
 refine OZ_at 19 ?_
 refine barsOut4 t bs p0 p1 p2 p3 o _ _ _ _ _ _ b c hb hbl gc0 gd0 gc1 gd1 gc2 gd2 gc3 gd3 hF hro ea0.out eb0.out ea1.out eb1.out ea2.out eb2.out ea3.out eb3.out ?_
 simp only [pre6, opL, back0, pRow, pBlk, pC, Pa.ins, Pa.del, List.cons_append, List.nil_append]
 repeat' (first
  | simp -implicitDefEqProofs (maxSteps := 9999999) only [↓reduceIte, runsY, lstY, facts, Nat.reduceAdd, Nat.reduceEqDiff, Nat.reduceLeDiff, Int.reduceBEq, Int.reduceBNe, plcAV, plAV, vops_nil, vops_cons, vstep_val, vstep_skip, drawVK_at, *]
  | ((with_reducible refine condK_split (fun _ => ?_) (fun _ => ?_)) <;> try omega)
  | ((with_reducible refine OZ_drawn ?_); refine OZ_drawV (by decide +kernel) ?_)
  | ((with_reducible refine wend ?_ ?_); · decide +kernel)
  | ((with_reducible refine OZ_at 15 ?_); (refine OZ_now hF (fun _ => false) 5 (check_ok _ hts) (fun v hv => by subst hv; rfl) (by simp only [List.map_cons, List.map_nil]; rw [nowSc4 (d := 1) t (delL bs b c) (p0.del b c) (p1.del b c) (p2.del b c) (p3.del b c) (fun _ => rfl) rfl rfl rfl rfl rfl rfl rfl rfl rfl rfl]) (fun v hv => ?_); subst hv)))
 ·rename_i h
  obtain ⟨rfl, rfl⟩ := hE.out (by simpa using h)
  exact OwnK.of [] rfl HRen.nil rfl
 ·rename_i h
  obtain ⟨rfl, rfl⟩ := hV.out (by simpa using h)
  exact OwnK.of [(20, 0), (128, 1), (204, 2), (217, 3), (287, 4), (300, 5), (370, 6), (383, 7), (453, 8), (466, 9)] rfl (HRen.cons 20 rfl rfl rfl (HRen.cons 128 rfl rfl (baRen _) (HRen.cons 204 rfl rfl (ceRen _) (HRen.cons 217 rfl rfl (dyRen _) (HRen.cons 287 rfl rfl (ceRen _) (HRen.cons 300 rfl rfl (dyRen _) (HRen.cons 370 rfl rfl (ceRen _) (HRen.cons 383 rfl rfl (dyRen _) (HRen.cons 453 rfl rfl (ceRen _) (HRen.cons 466 rfl rfl (dyRen _) HRen.nil)))))))))) rfl
end
end Go.Proofs.Pv
