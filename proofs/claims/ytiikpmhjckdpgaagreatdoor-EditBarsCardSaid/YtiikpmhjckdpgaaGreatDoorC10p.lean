/-
  Layer 9: edit.Apply at an edit that puts bars in, of a right score of 1 parts.
  Layer 9: edit.Apply at an edit that puts bars in, of a right score of 2 parts.
  Layer 9: edit.Apply at an edit that puts bars in, of a right score of 3 parts.
  Layer 9: edit.Apply at an edit that puts bars in, of a right score of 4 parts.
  Conditions: none but those that each statement names.
-/
import Derived.Test.YtiikpmhjckdpgaaGreatDoorC10n
import Derived.Test.YtiikpmhjckdpgaaGreatDoorC10h
import Derived.Test.YtiikpmhjckdpgaaGreatDoorC09k
namespace Go.Proofs.Pv
open Go Go.Proofs
set_option linter.unusedSimpArgs false
set_option linter.unusedVariables false
set_option maxRecDepth 100000
set_option maxHeartbeats 8000000
section
variable (t : ByteArray) (bs : List Ba) (p0 : Pa) (o : EOp) (hs : Sc.small ⟨t, bs, [p0]⟩) (hchk : (Sc.mk t bs [p0]).checkR.2 = 0) (hbl : bs.length ≤ 1000) (hbs : ∀ b ∈ bs, b.short) (hnb : 0 < bs.length) (h0 : p0.shortB) (ha0 : p0.cells.length = bs.length) (hb0 : p0.dyns.length = bs.length)
 (hk : o.kind = 2) (b : Nat) (HB : o.bar = (b : Nat)) (hb : b ≤ bs.length) (hbr : ∀ x ∈ o.bars, x.short) (hnb2 : o.bars.length ≤ 1000) (c0 : List (List Vo)) (d0 : List (List Dy)) (hc : o.cells = [c0]) (hd : o.dyns = [d0]) (hc0 : c0.length = o.bars.length) (hd0 : d0.length = o.bars.length) (hs0 : ∀ c ∈ c0, cellShort c) (hy0 : ∀ d ∈ d0, d.length ≤ 1000000)
include hs hchk hbl hbs hnb h0 ha0 hb0 hk HB hb hbr hnb2 hc hd hc0 hd0 hs0 hy0
theorem applyIn1 (hts : (Sc.mk t (insL bs o.bars b) [p0.ins c0 d0 b]).small) (v : AV) (hr1 : List (Nat × List AV)) (hV : Box ((Sc.mk t (insL bs o.bars b) [p0.ins c0 d0 b]).checkR.2 = 0 → v = .tup [.agg [.str t, .msl 1 0 (insL bs o.bars b).length 14, .msl 0 0 1 5], .agg [.int .i64 3, .int .i64 0, .int .i64 (b : Nat), .int .i64 0, .int .i64 0, .int .i64 (o.bars.length : Nat), .sl 9 [] .full, .sl 14 [] .full, .sl 1 [] .full, .sl 1 [] .full, .int .i64 0, .int .i64 0, .str ⟨#[]⟩], .int .i64 0] ∧ hr1 = (0, pRow (p0.ins c0 d0 b) 2 3) :: (1, (insL bs o.bars b).flatMap Ba.cells) :: (pC (p0.ins c0 d0 b) 2 3))) (hE : Box (¬ (Sc.mk t (insL bs o.bars b) [p0.ins c0 d0 b]).checkR.2 = 0 → v = errF (Sc.mk t (insL bs o.bars b) [p0.ins c0 d0 b]).checkR.2 ∧ hr1 = [])) : Own Tryz.prog gl 7 [(Sc.mk t bs [p0]).av, o.av] v hr1 10 := by
 have hown := copiedL1 t bs (by omega) hbs hnb p0 h0 (by omega) (by omega)
 simp only [Sc.av, List.map_cons, List.map_nil] at hown
 have gc0 : b ≤ p0.cells.length ∧ p0.cells.length ≤ 1000 := ⟨by omega, by omega⟩
 have gd0 : b ≤ p0.dyns.length ∧ p0.dyns.length ≤ 1000 := ⟨by omega, by omega⟩
 clear ha0 hb0
 replace hc := Box.mk hc
 replace hd := Box.mk hd
 (refine Own.intro 3 mix names (fn := Tryz.f7) Tryz.func7 rfl fun F hF hro W => ?_; simp -implicitDefEqProofs only [Tryz.ntmps7, Tryz.results7, entL, Nat.reduceAdd, Nat.reduceSub])
 repeat' (first
  | simp -implicitDefEqProofs (maxSteps := 9999999) only [↓reduceIte, runsY, lstY, facts, Nat.reduceAdd, Nat.reduceEqDiff, Nat.reduceLeDiff, Int.reduceBEq, Int.reduceBNe, aop2, akc_kind, aeq_kind, afind_nil, afind_cons, ents, AV.cells, AV.one, EOp.av, Sc.av, plcAV, plAV, hk, hchk, HB, ren_scoreB, ren_up, hup_cons, hup_nil, hC_cons, hC_nil, ceRen, dyRen, baRen, renS, renI, vops_nil, vops_cons, vstep_val, drawVK_at, *]
  | ((with_reducible refine v_at 16 ?_); refine vstep_own hF hro hown (rfl) ?_)
  | ((with_reducible refine OZ_drawn ?_); refine OZ_drawV (by decide +kernel) ?_)
  | ((with_reducible refine wend ?_ ?_); · decide +kernel)
  | ((with_reducible refine OZ_at 15 ?_); refine PC.useZ hF (check_ok _ hs) (rfl) fun v hv => ?_; subst hv))
 refine OZ_at 18 ?_
 refine barsIn1 t bs p0 o _ _ _ _ _ _ b hb hbl hbr hnb2 c0 d0 hc.out hd.out hc0 hd0 hs0 hy0 gc0 gd0 hF hro ?_
 simp only [pre6, opL, back0, pRow, pBlk, pC, Pa.ins, Pa.del, List.cons_append, List.nil_append]
 repeat' (first
  | simp -implicitDefEqProofs (maxSteps := 9999999) only [↓reduceIte, runsY, lstY, facts, Nat.reduceAdd, Nat.reduceEqDiff, Nat.reduceLeDiff, Int.reduceBEq, Int.reduceBNe, plcAV, plAV, vops_nil, vops_cons, vstep_val, vstep_skip, drawVK_at, *]
  | ((with_reducible refine condK_split (fun _ => ?_) (fun _ => ?_)) <;> try omega)
  | ((with_reducible refine OZ_drawn ?_); refine OZ_drawV (by decide +kernel) ?_)
  | ((with_reducible refine wend ?_ ?_); · decide +kernel)
  | ((with_reducible refine OZ_at 15 ?_); (refine OZ_now hF (fun _ => false) 5 (check_ok _ hts) (fun v hv => by subst hv; rfl) (by simp only [List.map_cons, List.map_nil]; rw [nowSc1 (d := 1) t (insL bs o.bars b) (p0.ins c0 d0 b) (fun _ => rfl) rfl rfl rfl rfl]) (fun v hv => ?_); subst hv)))
 ·rename_i h
  obtain ⟨rfl, rfl⟩ := hE.out (by simpa using h)
  exact OwnK.of [] rfl HRen.nil rfl
 ·rename_i h
  obtain ⟨rfl, rfl⟩ := hV.out (by simpa using h)
  exact OwnK.of [(20, 0), (163, 1), (239, 2), (298, 3)] rfl (HRen.cons 20 rfl rfl rfl (HRen.cons 163 rfl rfl (baRen _) (HRen.cons 239 rfl rfl (ceRen _) (HRen.cons 298 rfl rfl (dyRen _) HRen.nil)))) rfl
end
end Go.Proofs.Pv
namespace Go.Proofs.Pv
open Go Go.Proofs
set_option linter.unusedSimpArgs false
set_option linter.unusedVariables false
set_option maxRecDepth 100000
set_option maxHeartbeats 8000000
section
variable (t : ByteArray) (bs : List Ba) (p0 p1 : Pa) (o : EOp) (hs : Sc.small ⟨t, bs, [p0, p1]⟩) (hchk : (Sc.mk t bs [p0, p1]).checkR.2 = 0) (hbl : bs.length ≤ 1000) (hbs : ∀ b ∈ bs, b.short) (hnb : 0 < bs.length) (h0 : p0.shortB) (ha0 : p0.cells.length = bs.length) (hb0 : p0.dyns.length = bs.length) (h1 : p1.shortB) (ha1 : p1.cells.length = bs.length) (hb1 : p1.dyns.length = bs.length)
 (hk : o.kind = 2) (b : Nat) (HB : o.bar = (b : Nat)) (hb : b ≤ bs.length) (hbr : ∀ x ∈ o.bars, x.short) (hnb2 : o.bars.length ≤ 1000) (c0 c1 : List (List Vo)) (d0 d1 : List (List Dy)) (hc : o.cells = [c0, c1]) (hd : o.dyns = [d0, d1]) (hc0 : c0.length = o.bars.length) (hd0 : d0.length = o.bars.length) (hs0 : ∀ c ∈ c0, cellShort c) (hy0 : ∀ d ∈ d0, d.length ≤ 1000000) (hc1 : c1.length = o.bars.length) (hd1 : d1.length = o.bars.length) (hs1 : ∀ c ∈ c1, cellShort c) (hy1 : ∀ d ∈ d1, d.length ≤ 1000000)
include hs hchk hbl hbs hnb h0 ha0 hb0 h1 ha1 hb1 hk HB hb hbr hnb2 hc hd hc0 hd0 hs0 hy0 hc1 hd1 hs1 hy1
theorem applyIn2 (hts : (Sc.mk t (insL bs o.bars b) [p0.ins c0 d0 b, p1.ins c1 d1 b]).small) (v : AV) (hr1 : List (Nat × List AV)) (hV : Box ((Sc.mk t (insL bs o.bars b) [p0.ins c0 d0 b, p1.ins c1 d1 b]).checkR.2 = 0 → v = .tup [.agg [.str t, .msl 1 0 (insL bs o.bars b).length 14, .msl 0 0 2 5], .agg [.int .i64 3, .int .i64 0, .int .i64 (b : Nat), .int .i64 0, .int .i64 0, .int .i64 (o.bars.length : Nat), .sl 9 [] .full, .sl 14 [] .full, .sl 1 [] .full, .sl 1 [] .full, .int .i64 0, .int .i64 0, .str ⟨#[]⟩], .int .i64 0] ∧ hr1 = (0, pRow (p0.ins c0 d0 b) 2 3 ++ pRow (p1.ins c1 d1 b) 4 5) :: (1, (insL bs o.bars b).flatMap Ba.cells) :: (pC (p0.ins c0 d0 b) 2 3 ++ pC (p1.ins c1 d1 b) 4 5))) (hE : Box (¬ (Sc.mk t (insL bs o.bars b) [p0.ins c0 d0 b, p1.ins c1 d1 b]).checkR.2 = 0 → v = errF (Sc.mk t (insL bs o.bars b) [p0.ins c0 d0 b, p1.ins c1 d1 b]).checkR.2 ∧ hr1 = [])) : Own Tryz.prog gl 7 [(Sc.mk t bs [p0, p1]).av, o.av] v hr1 10 := by
 have hown := copiedL2 t bs (by omega) hbs hnb p0 p1 h0 (by omega) (by omega) h1 (by omega) (by omega)
 simp only [Sc.av, List.map_cons, List.map_nil] at hown
 have gc0 : b ≤ p0.cells.length ∧ p0.cells.length ≤ 1000 := ⟨by omega, by omega⟩
 have gd0 : b ≤ p0.dyns.length ∧ p0.dyns.length ≤ 1000 := ⟨by omega, by omega⟩
 clear ha0 hb0
 have gc1 : b ≤ p1.cells.length ∧ p1.cells.length ≤ 1000 := ⟨by omega, by omega⟩
 have gd1 : b ≤ p1.dyns.length ∧ p1.dyns.length ≤ 1000 := ⟨by omega, by omega⟩
 clear ha1 hb1
 replace hc := Box.mk hc
 replace hd := Box.mk hd
 (refine Own.intro 3 mix names (fn := Tryz.f7) Tryz.func7 rfl fun F hF hro W => ?_; simp -implicitDefEqProofs only [Tryz.ntmps7, Tryz.results7, entL, Nat.reduceAdd, Nat.reduceSub])
 repeat' (first
  | simp -implicitDefEqProofs (maxSteps := 9999999) only [↓reduceIte, runsY, lstY, facts, Nat.reduceAdd, Nat.reduceEqDiff, Nat.reduceLeDiff, Int.reduceBEq, Int.reduceBNe, aop2, akc_kind, aeq_kind, afind_nil, afind_cons, ents, AV.cells, AV.one, EOp.av, Sc.av, plcAV, plAV, hk, hchk, HB, ren_scoreB, ren_up, hup_cons, hup_nil, hC_cons, hC_nil, ceRen, dyRen, baRen, renS, renI, vops_nil, vops_cons, vstep_val, drawVK_at, *]
  | ((with_reducible refine v_at 16 ?_); refine vstep_own hF hro hown (rfl) ?_)
  | ((with_reducible refine OZ_drawn ?_); refine OZ_drawV (by decide +kernel) ?_)
  | ((with_reducible refine wend ?_ ?_); · decide +kernel)
  | ((with_reducible refine OZ_at 15 ?_); refine PC.useZ hF (check_ok _ hs) (rfl) fun v hv => ?_; subst hv))
 refine OZ_at 18 ?_
 refine barsIn2 t bs p0 p1 o _ _ _ _ _ _ b hb hbl hbr hnb2 c0 c1 d0 d1 hc.out hd.out hc0 hd0 hs0 hy0 gc0 gd0 hc1 hd1 hs1 hy1 gc1 gd1 hF hro ?_
 simp only [pre6, opL, back0, pRow, pBlk, pC, Pa.ins, Pa.del, List.cons_append, List.nil_append]
 repeat' (first
  | simp -implicitDefEqProofs (maxSteps := 9999999) only [↓reduceIte, runsY, lstY, facts, Nat.reduceAdd, Nat.reduceEqDiff, Nat.reduceLeDiff, Int.reduceBEq, Int.reduceBNe, plcAV, plAV, vops_nil, vops_cons, vstep_val, vstep_skip, drawVK_at, *]
  | ((with_reducible refine condK_split (fun _ => ?_) (fun _ => ?_)) <;> try omega)
  | ((with_reducible refine OZ_drawn ?_); refine OZ_drawV (by decide +kernel) ?_)
  | ((with_reducible refine wend ?_ ?_); · decide +kernel)
  | ((with_reducible refine OZ_at 15 ?_); (refine OZ_now hF (fun _ => false) 5 (check_ok _ hts) (fun v hv => by subst hv; rfl) (by simp only [List.map_cons, List.map_nil]; rw [nowSc2 (d := 1) t (insL bs o.bars b) (p0.ins c0 d0 b) (p1.ins c1 d1 b) (fun _ => rfl) rfl rfl rfl rfl rfl rfl]) (fun v hv => ?_); subst hv)))
 ·rename_i h
  obtain ⟨rfl, rfl⟩ := hE.out (by simpa using h)
  exact OwnK.of [] rfl HRen.nil rfl
 ·rename_i h
  obtain ⟨rfl, rfl⟩ := hV.out (by simpa using h)
  exact OwnK.of [(20, 0), (163, 1), (239, 2), (298, 3), (370, 4), (429, 5)] rfl (HRen.cons 20 rfl rfl rfl (HRen.cons 163 rfl rfl (baRen _) (HRen.cons 239 rfl rfl (ceRen _) (HRen.cons 298 rfl rfl (dyRen _) (HRen.cons 370 rfl rfl (ceRen _) (HRen.cons 429 rfl rfl (dyRen _) HRen.nil)))))) rfl
end
end Go.Proofs.Pv
namespace Go.Proofs.Pv
open Go Go.Proofs
set_option linter.unusedSimpArgs false
set_option linter.unusedVariables false
set_option maxRecDepth 100000
set_option maxHeartbeats 8000000
section
variable (t : ByteArray) (bs : List Ba) (p0 p1 p2 : Pa) (o : EOp) (hs : Sc.small ⟨t, bs, [p0, p1, p2]⟩) (hchk : (Sc.mk t bs [p0, p1, p2]).checkR.2 = 0) (hbl : bs.length ≤ 1000) (hbs : ∀ b ∈ bs, b.short) (hnb : 0 < bs.length) (h0 : p0.shortB) (ha0 : p0.cells.length = bs.length) (hb0 : p0.dyns.length = bs.length) (h1 : p1.shortB) (ha1 : p1.cells.length = bs.length) (hb1 : p1.dyns.length = bs.length) (h2 : p2.shortB) (ha2 : p2.cells.length = bs.length) (hb2 : p2.dyns.length = bs.length)
 (hk : o.kind = 2) (b : Nat) (HB : o.bar = (b : Nat)) (hb : b ≤ bs.length) (hbr : ∀ x ∈ o.bars, x.short) (hnb2 : o.bars.length ≤ 1000) (c0 c1 c2 : List (List Vo)) (d0 d1 d2 : List (List Dy)) (hc : o.cells = [c0, c1, c2]) (hd : o.dyns = [d0, d1, d2]) (hc0 : c0.length = o.bars.length) (hd0 : d0.length = o.bars.length) (hs0 : ∀ c ∈ c0, cellShort c) (hy0 : ∀ d ∈ d0, d.length ≤ 1000000) (hc1 : c1.length = o.bars.length) (hd1 : d1.length = o.bars.length) (hs1 : ∀ c ∈ c1, cellShort c) (hy1 : ∀ d ∈ d1, d.length ≤ 1000000) (hc2 : c2.length = o.bars.length) (hd2 : d2.length = o.bars.length) (hs2 : ∀ c ∈ c2, cellShort c) (hy2 : ∀ d ∈ d2, d.length ≤ 1000000)
include hs hchk hbl hbs hnb h0 ha0 hb0 h1 ha1 hb1 h2 ha2 hb2 hk HB hb hbr hnb2 hc hd hc0 hd0 hs0 hy0 hc1 hd1 hs1 hy1 hc2 hd2 hs2 hy2
theorem applyIn3 (hts : (Sc.mk t (insL bs o.bars b) [p0.ins c0 d0 b, p1.ins c1 d1 b, p2.ins c2 d2 b]).small) (v : AV) (hr1 : List (Nat × List AV)) (hV : Box ((Sc.mk t (insL bs o.bars b) [p0.ins c0 d0 b, p1.ins c1 d1 b, p2.ins c2 d2 b]).checkR.2 = 0 → v = .tup [.agg [.str t, .msl 1 0 (insL bs o.bars b).length 14, .msl 0 0 3 5], .agg [.int .i64 3, .int .i64 0, .int .i64 (b : Nat), .int .i64 0, .int .i64 0, .int .i64 (o.bars.length : Nat), .sl 9 [] .full, .sl 14 [] .full, .sl 1 [] .full, .sl 1 [] .full, .int .i64 0, .int .i64 0, .str ⟨#[]⟩], .int .i64 0] ∧ hr1 = (0, pRow (p0.ins c0 d0 b) 2 3 ++ pRow (p1.ins c1 d1 b) 4 5 ++ pRow (p2.ins c2 d2 b) 6 7) :: (1, (insL bs o.bars b).flatMap Ba.cells) :: (pC (p0.ins c0 d0 b) 2 3 ++ pC (p1.ins c1 d1 b) 4 5 ++ pC (p2.ins c2 d2 b) 6 7))) (hE : Box (¬ (Sc.mk t (insL bs o.bars b) [p0.ins c0 d0 b, p1.ins c1 d1 b, p2.ins c2 d2 b]).checkR.2 = 0 → v = errF (Sc.mk t (insL bs o.bars b) [p0.ins c0 d0 b, p1.ins c1 d1 b, p2.ins c2 d2 b]).checkR.2 ∧ hr1 = [])) : Own Tryz.prog gl 7 [(Sc.mk t bs [p0, p1, p2]).av, o.av] v hr1 10 := by
 have hown := copiedL3 t bs (by omega) hbs hnb p0 p1 p2 h0 (by omega) (by omega) h1 (by omega) (by omega) h2 (by omega) (by omega)
 simp only [Sc.av, List.map_cons, List.map_nil] at hown
 have gc0 : b ≤ p0.cells.length ∧ p0.cells.length ≤ 1000 := ⟨by omega, by omega⟩
 have gd0 : b ≤ p0.dyns.length ∧ p0.dyns.length ≤ 1000 := ⟨by omega, by omega⟩
 clear ha0 hb0
 have gc1 : b ≤ p1.cells.length ∧ p1.cells.length ≤ 1000 := ⟨by omega, by omega⟩
 have gd1 : b ≤ p1.dyns.length ∧ p1.dyns.length ≤ 1000 := ⟨by omega, by omega⟩
 clear ha1 hb1
 have gc2 : b ≤ p2.cells.length ∧ p2.cells.length ≤ 1000 := ⟨by omega, by omega⟩
 have gd2 : b ≤ p2.dyns.length ∧ p2.dyns.length ≤ 1000 := ⟨by omega, by omega⟩
 clear ha2 hb2
 replace hc := Box.mk hc
 replace hd := Box.mk hd
 (refine Own.intro 3 mix names (fn := Tryz.f7) Tryz.func7 rfl fun F hF hro W => ?_; simp -implicitDefEqProofs only [Tryz.ntmps7, Tryz.results7, entL, Nat.reduceAdd, Nat.reduceSub])
 repeat' (first
  | simp -implicitDefEqProofs (maxSteps := 9999999) only [↓reduceIte, runsY, lstY, facts, Nat.reduceAdd, Nat.reduceEqDiff, Nat.reduceLeDiff, Int.reduceBEq, Int.reduceBNe, aop2, akc_kind, aeq_kind, afind_nil, afind_cons, ents, AV.cells, AV.one, EOp.av, Sc.av, plcAV, plAV, hk, hchk, HB, ren_scoreB, ren_up, hup_cons, hup_nil, hC_cons, hC_nil, ceRen, dyRen, baRen, renS, renI, vops_nil, vops_cons, vstep_val, drawVK_at, *]
  | ((with_reducible refine v_at 16 ?_); refine vstep_own hF hro hown (rfl) ?_)
  | ((with_reducible refine OZ_drawn ?_); refine OZ_drawV (by decide +kernel) ?_)
  | ((with_reducible refine wend ?_ ?_); · decide +kernel)
  | ((with_reducible refine OZ_at 15 ?_); refine PC.useZ hF (check_ok _ hs) (rfl) fun v hv => ?_; subst hv))
 refine OZ_at 18 ?_
 refine barsIn3 t bs p0 p1 p2 o _ _ _ _ _ _ b hb hbl hbr hnb2 c0 c1 c2 d0 d1 d2 hc.out hd.out hc0 hd0 hs0 hy0 gc0 gd0 hc1 hd1 hs1 hy1 gc1 gd1 hc2 hd2 hs2 hy2 gc2 gd2 hF hro ?_
 simp only [pre6, opL, back0, pRow, pBlk, pC, Pa.ins, Pa.del, List.cons_append, List.nil_append]
 repeat' (first
  | simp -implicitDefEqProofs (maxSteps := 9999999) only [↓reduceIte, runsY, lstY, facts, Nat.reduceAdd, Nat.reduceEqDiff, Nat.reduceLeDiff, Int.reduceBEq, Int.reduceBNe, plcAV, plAV, vops_nil, vops_cons, vstep_val, vstep_skip, drawVK_at, *]
  | ((with_reducible refine condK_split (fun _ => ?_) (fun _ => ?_)) <;> try omega)
  | ((with_reducible refine OZ_drawn ?_); refine OZ_drawV (by decide +kernel) ?_)
  | ((with_reducible refine wend ?_ ?_); · decide +kernel)
  | ((with_reducible refine OZ_at 15 ?_); (refine OZ_now hF (fun _ => false) 5 (check_ok _ hts) (fun v hv => by subst hv; rfl) (by simp only [List.map_cons, List.map_nil]; rw [nowSc3 (d := 1) t (insL bs o.bars b) (p0.ins c0 d0 b) (p1.ins c1 d1 b) (p2.ins c2 d2 b) (fun _ => rfl) rfl rfl rfl rfl rfl rfl rfl rfl]) (fun v hv => ?_); subst hv)))
 ·rename_i h
  obtain ⟨rfl, rfl⟩ := hE.out (by simpa using h)
  exact OwnK.of [] rfl HRen.nil rfl
 ·rename_i h
  obtain ⟨rfl, rfl⟩ := hV.out (by simpa using h)
  exact OwnK.of [(20, 0), (163, 1), (239, 2), (298, 3), (370, 4), (429, 5), (501, 6), (560, 7)] rfl (HRen.cons 20 rfl rfl rfl (HRen.cons 163 rfl rfl (baRen _) (HRen.cons 239 rfl rfl (ceRen _) (HRen.cons 298 rfl rfl (dyRen _) (HRen.cons 370 rfl rfl (ceRen _) (HRen.cons 429 rfl rfl (dyRen _) (HRen.cons 501 rfl rfl (ceRen _) (HRen.cons 560 rfl rfl (dyRen _) HRen.nil)))))))) rfl
end
end Go.Proofs.Pv
namespace Go.Proofs.Pv
open Go Go.Proofs
set_option linter.unusedSimpArgs false
set_option linter.unusedVariables false
set_option maxRecDepth 100000
set_option maxHeartbeats 8000000
section
variable (t : ByteArray) (bs : List Ba) (p0 p1 p2 p3 : Pa) (o : EOp) (hs : Sc.small ⟨t, bs, [p0, p1, p2, p3]⟩) (hchk : (Sc.mk t bs [p0, p1, p2, p3]).checkR.2 = 0) (hbl : bs.length ≤ 1000) (hbs : ∀ b ∈ bs, b.short) (hnb : 0 < bs.length) (h0 : p0.shortB) (ha0 : p0.cells.length = bs.length) (hb0 : p0.dyns.length = bs.length) (h1 : p1.shortB) (ha1 : p1.cells.length = bs.length) (hb1 : p1.dyns.length = bs.length) (h2 : p2.shortB) (ha2 : p2.cells.length = bs.length) (hb2 : p2.dyns.length = bs.length) (h3 : p3.shortB) (ha3 : p3.cells.length = bs.length) (hb3 : p3.dyns.length = bs.length)
 (hk : o.kind = 2) (b : Nat) (HB : o.bar = (b : Nat)) (hb : b ≤ bs.length) (hbr : ∀ x ∈ o.bars, x.short) (hnb2 : o.bars.length ≤ 1000) (c0 c1 c2 c3 : List (List Vo)) (d0 d1 d2 d3 : List (List Dy)) (hc : o.cells = [c0, c1, c2, c3]) (hd : o.dyns = [d0, d1, d2, d3]) (hc0 : c0.length = o.bars.length) (hd0 : d0.length = o.bars.length) (hs0 : ∀ c ∈ c0, cellShort c) (hy0 : ∀ d ∈ d0, d.length ≤ 1000000) (hc1 : c1.length = o.bars.length) (hd1 : d1.length = o.bars.length) (hs1 : ∀ c ∈ c1, cellShort c) (hy1 : ∀ d ∈ d1, d.length ≤ 1000000) (hc2 : c2.length = o.bars.length) (hd2 : d2.length = o.bars.length) (hs2 : ∀ c ∈ c2, cellShort c) (hy2 : ∀ d ∈ d2, d.length ≤ 1000000) (hc3 : c3.length = o.bars.length) (hd3 : d3.length = o.bars.length) (hs3 : ∀ c ∈ c3, cellShort c) (hy3 : ∀ d ∈ d3, d.length ≤ 1000000)
include hs hchk hbl hbs hnb h0 ha0 hb0 h1 ha1 hb1 h2 ha2 hb2 h3 ha3 hb3 hk HB hb hbr hnb2 hc hd hc0 hd0 hs0 hy0 hc1 hd1 hs1 hy1 hc2 hd2 hs2 hy2 hc3 hd3 hs3 hy3
theorem applyIn4 (hts : (Sc.mk t (insL bs o.bars b) [p0.ins c0 d0 b, p1.ins c1 d1 b, p2.ins c2 d2 b, p3.ins c3 d3 b]).small) (v : AV) (hr1 : List (Nat × List AV)) (hV : Box ((Sc.mk t (insL bs o.bars b) [p0.ins c0 d0 b, p1.ins c1 d1 b, p2.ins c2 d2 b, p3.ins c3 d3 b]).checkR.2 = 0 → v = .tup [.agg [.str t, .msl 1 0 (insL bs o.bars b).length 14, .msl 0 0 4 5], .agg [.int .i64 3, .int .i64 0, .int .i64 (b : Nat), .int .i64 0, .int .i64 0, .int .i64 (o.bars.length : Nat), .sl 9 [] .full, .sl 14 [] .full, .sl 1 [] .full, .sl 1 [] .full, .int .i64 0, .int .i64 0, .str ⟨#[]⟩], .int .i64 0] ∧ hr1 = (0, pRow (p0.ins c0 d0 b) 2 3 ++ pRow (p1.ins c1 d1 b) 4 5 ++ pRow (p2.ins c2 d2 b) 6 7 ++ pRow (p3.ins c3 d3 b) 8 9) :: (1, (insL bs o.bars b).flatMap Ba.cells) :: (pC (p0.ins c0 d0 b) 2 3 ++ pC (p1.ins c1 d1 b) 4 5 ++ pC (p2.ins c2 d2 b) 6 7 ++ pC (p3.ins c3 d3 b) 8 9))) (hE : Box (¬ (Sc.mk t (insL bs o.bars b) [p0.ins c0 d0 b, p1.ins c1 d1 b, p2.ins c2 d2 b, p3.ins c3 d3 b]).checkR.2 = 0 → v = errF (Sc.mk t (insL bs o.bars b) [p0.ins c0 d0 b, p1.ins c1 d1 b, p2.ins c2 d2 b, p3.ins c3 d3 b]).checkR.2 ∧ hr1 = [])) : Own Tryz.prog gl 7 [(Sc.mk t bs [p0, p1, p2, p3]).av, o.av] v hr1 10 := by
 have hown := copiedL4 t bs (by omega) hbs hnb p0 p1 p2 p3 h0 (by omega) (by omega) h1 (by omega) (by omega) h2 (by omega) (by omega) h3 (by omega) (by omega)
 simp only [Sc.av, List.map_cons, List.map_nil] at hown
 have gc0 : b ≤ p0.cells.length ∧ p0.cells.length ≤ 1000 := ⟨by omega, by omega⟩
 have gd0 : b ≤ p0.dyns.length ∧ p0.dyns.length ≤ 1000 := ⟨by omega, by omega⟩
 clear ha0 hb0
 have gc1 : b ≤ p1.cells.length ∧ p1.cells.length ≤ 1000 := ⟨by omega, by omega⟩
 have gd1 : b ≤ p1.dyns.length ∧ p1.dyns.length ≤ 1000 := ⟨by omega, by omega⟩
 clear ha1 hb1
 have gc2 : b ≤ p2.cells.length ∧ p2.cells.length ≤ 1000 := ⟨by omega, by omega⟩
 have gd2 : b ≤ p2.dyns.length ∧ p2.dyns.length ≤ 1000 := ⟨by omega, by omega⟩
 clear ha2 hb2
 have gc3 : b ≤ p3.cells.length ∧ p3.cells.length ≤ 1000 := ⟨by omega, by omega⟩
 have gd3 : b ≤ p3.dyns.length ∧ p3.dyns.length ≤ 1000 := ⟨by omega, by omega⟩
 clear ha3 hb3
 replace hc := Box.mk hc
 replace hd := Box.mk hd
 (refine Own.intro 3 mix names (fn := Tryz.f7) Tryz.func7 rfl fun F hF hro W => ?_; simp -implicitDefEqProofs only [Tryz.ntmps7, Tryz.results7, entL, Nat.reduceAdd, Nat.reduceSub])
 repeat' (first
  | simp -implicitDefEqProofs (maxSteps := 9999999) only [↓reduceIte, runsY, lstY, facts, Nat.reduceAdd, Nat.reduceEqDiff, Nat.reduceLeDiff, Int.reduceBEq, Int.reduceBNe, aop2, akc_kind, aeq_kind, afind_nil, afind_cons, ents, AV.cells, AV.one, EOp.av, Sc.av, plcAV, plAV, hk, hchk, HB, ren_scoreB, ren_up, hup_cons, hup_nil, hC_cons, hC_nil, ceRen, dyRen, baRen, renS, renI, vops_nil, vops_cons, vstep_val, drawVK_at, *]
  | ((with_reducible refine v_at 16 ?_); refine vstep_own hF hro hown (rfl) ?_)
  | ((with_reducible refine OZ_drawn ?_); refine OZ_drawV (by decide +kernel) ?_)
  | ((with_reducible refine wend ?_ ?_); · decide +kernel)
  | ((with_reducible refine OZ_at 15 ?_); refine PC.useZ hF (check_ok _ hs) (rfl) fun v hv => ?_; subst hv))
 refine OZ_at 18 ?_
 refine barsIn4 t bs p0 p1 p2 p3 o _ _ _ _ _ _ b hb hbl hbr hnb2 c0 c1 c2 c3 d0 d1 d2 d3 hc.out hd.out hc0 hd0 hs0 hy0 gc0 gd0 hc1 hd1 hs1 hy1 gc1 gd1 hc2 hd2 hs2 hy2 gc2 gd2 hc3 hd3 hs3 hy3 gc3 gd3 hF hro ?_
 simp only [pre6, opL, back0, pRow, pBlk, pC, Pa.ins, Pa.del, List.cons_append, List.nil_append]
 repeat' (first
  | simp -implicitDefEqProofs (maxSteps := 9999999) only [↓reduceIte, runsY, lstY, facts, Nat.reduceAdd, Nat.reduceEqDiff, Nat.reduceLeDiff, Int.reduceBEq, Int.reduceBNe, plcAV, plAV, vops_nil, vops_cons, vstep_val, vstep_skip, drawVK_at, *]
  | ((with_reducible refine condK_split (fun _ => ?_) (fun _ => ?_)) <;> try omega)
  | ((with_reducible refine OZ_drawn ?_); refine OZ_drawV (by decide +kernel) ?_)
  | ((with_reducible refine wend ?_ ?_); · decide +kernel)
  | ((with_reducible refine OZ_at 15 ?_); (refine OZ_now hF (fun _ => false) 5 (check_ok _ hts) (fun v hv => by subst hv; rfl) (by simp only [List.map_cons, List.map_nil]; rw [nowSc4 (d := 1) t (insL bs o.bars b) (p0.ins c0 d0 b) (p1.ins c1 d1 b) (p2.ins c2 d2 b) (p3.ins c3 d3 b) (fun _ => rfl) rfl rfl rfl rfl rfl rfl rfl rfl rfl rfl]) (fun v hv => ?_); subst hv)))
 ·rename_i h
  obtain ⟨rfl, rfl⟩ := hE.out (by simpa using h)
  exact OwnK.of [] rfl HRen.nil rfl
 ·rename_i h
  obtain ⟨rfl, rfl⟩ := hV.out (by simpa using h)
  exact OwnK.of [(20, 0), (163, 1), (239, 2), (298, 3), (370, 4), (429, 5), (501, 6), (560, 7), (632, 8), (691, 9)] rfl (HRen.cons 20 rfl rfl rfl (HRen.cons 163 rfl rfl (baRen _) (HRen.cons 239 rfl rfl (ceRen _) (HRen.cons 298 rfl rfl (dyRen _) (HRen.cons 370 rfl rfl (ceRen _) (HRen.cons 429 rfl rfl (dyRen _) (HRen.cons 501 rfl rfl (ceRen _) (HRen.cons 560 rfl rfl (dyRen _) (HRen.cons 632 rfl rfl (ceRen _) (HRen.cons 691 rfl rfl (dyRen _) HRen.nil)))))))))) rfl
end
end Go.Proofs.Pv
