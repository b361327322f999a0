/-
  Layer 9's edits: the method barsIn, among the blocks of a copied score of 1 parts.
  Layer 9's edits: the method barsIn, among the blocks of a copied score of 2 parts.
  Layer 9's edits: the method barsIn, among the blocks of a copied score of 3 parts.
  Layer 9's edits: the method barsIn, among the blocks of a copied score of 4 parts.
  Conditions: none but those that each statement names.
-/
import Derived.Test.YtiikpmhjckdpgaaGreatDoorC10k
import Derived.Test.YtiikpmhjckdpgaaGreatDoorC09k
import Derived.Test.YtiikpmhjckdpgaaGreatDoorC10c
namespace Go.Proofs.Pv
open Go Go.Proofs
set_option linter.unusedSimpArgs false
set_option linter.unusedVariables false
set_option maxRecDepth 100000
set_option maxHeartbeats 8000000
section
variable (t : ByteArray) (bs : List Ba) (p0 : Pa) (o : EOp) (B0 B1 B2 B3 B4 B5 : Blk) (b : Nat) (hb : b ≤ bs.length) (hbl : bs.length ≤ 1000) (hbr : ∀ x ∈ o.bars, x.short) (hnb : o.bars.length ≤ 1000) (c0 : List (List Vo)) (d0 : List (List Dy)) (hc : o.cells = [c0]) (hd : o.dyns = [d0]) (hc0 : c0.length = o.bars.length) (hd0 : d0.length = o.bars.length) (hs0 : ∀ c ∈ c0, cellShort c) (hy0 : ∀ d ∈ d0, d.length ≤ 1000000) (hpc0 : b ≤ p0.cells.length ∧ p0.cells.length ≤ 1000) (hpd0 : b ≤ p0.dyns.length ∧ p0.dyns.length ≤ 1000)
 {F : Fence} (hF : Free F) (hro : F.round = none) {W : World} {K : AV → St → Prop}
include hb hbl hbr hnb hc hd hc0 hd0 hs0 hy0 hpc0 hpd0 hF hro
theorem barsIn1s (m : Nat) (hm : o.bars.length = m + 1) (hK : K (.int .i64 0) ⟨pre6 B0 B1 B2 B3 B4 B5 ++ (34, .cells (.str t :: .msl 163 0 (insL bs o.bars b).length 14 :: .msl 20 0 1 5 :: opL o 2 (b : Nat) o.count ++ [.int .i64 3, .int .i64 0, .int .i64 (b : Nat), .int .i64 0, .int .i64 0, .int .i64 (o.bars.length : Nat), .sl 9 [] .full, .sl 14 [] .full, .sl 1 [] .full, .sl 1 [] .full, .int .i64 0, .int .i64 0, .str ⟨#[]⟩])) :: (20, .cells (pRow (p0.ins c0 d0 b) 239 298)) :: (163, .cells ((insL bs o.bars b).flatMap Ba.cells)) :: (pBlk (p0.ins c0 d0 b) 239 298), 322⟩) : (OZ F Tryz.prog gl W true 3).call 18 [.ptr 34 0] K ⟨pre6 B0 B1 B2 B3 B4 B5 ++ (34, .cells (.str t :: .msl 21 0 bs.length 14 :: .msl 20 0 1 5 :: opL o 2 (b : Nat) o.count ++ back0)) :: (20, .cells (pRow p0 22 23)) :: (21, .cells (bs.flatMap Ba.cells)) :: (pBlk p0 22 23), 78⟩ := by
 simp only [pre6, opL, back0, pRow, pBlk, Pa.ins, Pa.del, List.cons_append, List.nil_append] at hK ⊢
 have ob := edBars_own o.bars (by omega) hbr
 have hfc := fitsVo_rd t (.msl 21 0 bs.length 14) (.int .i64 2) (.int .i64 o.part) (.int .i64 (b : Nat)) (.int .i64 o.voice) (.int .i64 o.at_) (.int .i64 o.count) (.sl 9 (o.events.map Ev.av) .none) 1 o.cells o.bars (.sl 1 (o.cells.map cellsAV) .none :: .sl 1 (o.dyns.map dynssAV) .none :: .int .i64 o.steps :: .int .i64 o.halves :: .str o.text :: back0) (by rw [hc]; simp) (fun f hf => by simp only [back0, List.map_cons, List.map_nil, AV.ren, hf 20 (by decide), hf 21 (by decide)])
 rw [show fitB 1 o.bars.length o.cells = true by rw [hc]; exact fitB_all rfl (by intro j hj; match j, hj with | 0, _ => exact hc0)] at hfc
 have hfd := fitsDy_rd t (.msl 21 0 bs.length 14) (.int .i64 2) (.int .i64 o.part) (.int .i64 (b : Nat)) (.int .i64 o.voice) (.int .i64 o.at_) (.int .i64 o.count) (.sl 9 (o.events.map Ev.av) .none) 1 o.dyns o.bars (.sl 1 (o.cells.map cellsAV) .none :: .sl 1 (o.dyns.map dynssAV) .none :: .int .i64 o.steps :: .int .i64 o.halves :: .str o.text :: back0) (by rw [hd]; simp) (fun f hf => by simp only [back0, List.map_cons, List.map_nil, AV.ren, hf 20 (by decide), hf 21 (by decide)])
 rw [show fitB 1 o.bars.length o.dyns = true by rw [hd]; exact fitB_all rfl (by intro j hj; match j, hj with | 0, _ => exact hd0)] at hfd
 simp only [back0, hc, hd, List.map_cons, List.map_nil, cellsAV, dynssAV] at hfc hfd hK ⊢
 have oc0 := edCellsF_own c0 (by omega) hs0
 have od0 := edDyns_own d0 (by omega) hy0
 rw [hm] at ob hc0 hd0
 rw [hc0] at oc0
 rw [hd0] at od0
 simp only [ownA_succ, ownH_succ] at ob oc0 od0
 simp only [hm] at hK
 have hw : IntKind.i64.wrap (((bs.length : Nat) : Int) + 1) = ((bs.length : Nat) : Int) + 1 := wrap_in (by omega)
 (refine OZ_inline hF hro mix names 2 (fn := Tryz.f18) Tryz.func18 rfl ?_; simp -implicitDefEqProofs only [Tryz.ntmps18, Tryz.results18, entL, Nat.reduceAdd, Nat.reduceSub])
 repeat' (first
  | simp -implicitDefEqProofs (maxSteps := 9999999) only [↓reduceIte, runsY, lstY, facts, Nat.reduceAdd, Nat.reduceEqDiff, Nat.reduceLeDiff, Int.reduceLT, Int.reduceLE, Int.reduceNeg, Int.reduceAdd, AV.cells, AV.one, Nat.zero_mul, ren_up, hup_cons, hup_nil, hC_cons, hC_nil, ceRen, dyRen, baRen, dh0, hkeep_cons, hkeep_nil, kin2, wrap_in, vops_nil, vops_cons, vstep_val, vstep_skip, drawVK_at, *]
  | ((with_reducible refine v_at 37 ?_); refine vstep_own hF hro ob (rfl) ?_)
  | ((with_reducible refine v_at 52 ?_); refine vstep_wide [21, 144] rfl (insBa_s hF hro bs o.bars b (by omega) (by omega) m (by omega) (q := 21) (r := 144) (nx := 163) (by decide)) rfl (by show 163 ≤ 164; decide) ?_)
  | ((with_reducible refine v_at 40 ?_); refine vstep_own hF hro oc0 (rfl) ?_)
  | ((with_reducible refine v_at 42 ?_); refine vstep_own hF hro od0 (rfl) ?_)
  | ((with_reducible refine v_at 53 ?_); refine vstep_wide [22, 219] rfl (insCe_s hF hro p0.cells c0 b (by omega) (by omega) m (by omega) (q := 22) (r := 219) (nx := 239) (by decide)) rfl (by show 239 ≤ 240; decide) ?_)
  | ((with_reducible refine v_at 54 ?_); refine vstep_wide [23, 278] rfl (insDy_s hF hro p0.dyns d0 b (by omega) (by omega) m (by omega) (q := 23) (r := 278) (nx := 298) (by decide)) rfl (by show 298 ≤ 299; decide) ?_)
  | ((with_reducible refine OZ_drawn ?_); refine OZ_drawV (by decide +kernel) ?_)
  | ((with_reducible refine wend ?_ ?_); · decide +kernel)
  | ((with_reducible refine wend1 ?_); kernel_rfl)
  | ((with_reducible refine OZ_at 45 ?_); refine PC.useZ hF (there_t _ _ (by omega)) (rfl) fun v hv => ?_; subst hv)
  | ((with_reducible refine OZ_at 50 ?_); refine OZ_call (Rd.call hF hfc (rdSub rfl) ?_))
  | ((with_reducible refine OZ_at 51 ?_); refine OZ_call (Rd.call hF hfd (rdSub rfl) ?_))
  | ((with_reducible refine OZ_lp ?_); refine OZ_unroll 2 ?_))
 all_goals exact hK
omit hnb in
theorem barsIn1z (hm : o.bars.length = 0) (hK : K (.int .i64 0) ⟨pre6 B0 B1 B2 B3 B4 B5 ++ (34, .cells (.str t :: .msl 163 0 (insL bs o.bars b).length 14 :: .msl 20 0 1 5 :: opL o 2 (b : Nat) o.count ++ [.int .i64 3, .int .i64 0, .int .i64 (b : Nat), .int .i64 0, .int .i64 0, .int .i64 (o.bars.length : Nat), .sl 9 [] .full, .sl 14 [] .full, .sl 1 [] .full, .sl 1 [] .full, .int .i64 0, .int .i64 0, .str ⟨#[]⟩])) :: (20, .cells (pRow (p0.ins c0 d0 b) 239 298)) :: (163, .cells ((insL bs o.bars b).flatMap Ba.cells)) :: (pBlk (p0.ins c0 d0 b) 239 298), 322⟩) : (OZ F Tryz.prog gl W true 3).call 18 [.ptr 34 0] K ⟨pre6 B0 B1 B2 B3 B4 B5 ++ (34, .cells (.str t :: .msl 21 0 bs.length 14 :: .msl 20 0 1 5 :: opL o 2 (b : Nat) o.count ++ back0)) :: (20, .cells (pRow p0 22 23)) :: (21, .cells (bs.flatMap Ba.cells)) :: (pBlk p0 22 23), 78⟩ := by
 simp only [pre6, opL, back0, pRow, pBlk, Pa.ins, Pa.del, List.cons_append, List.nil_append] at hK ⊢
 have ob := edBars_own o.bars (by omega) hbr
 have hfc := fitsVo_rd t (.msl 21 0 bs.length 14) (.int .i64 2) (.int .i64 o.part) (.int .i64 (b : Nat)) (.int .i64 o.voice) (.int .i64 o.at_) (.int .i64 o.count) (.sl 9 (o.events.map Ev.av) .none) 1 o.cells o.bars (.sl 1 (o.cells.map cellsAV) .none :: .sl 1 (o.dyns.map dynssAV) .none :: .int .i64 o.steps :: .int .i64 o.halves :: .str o.text :: back0) (by rw [hc]; simp) (fun f hf => by simp only [back0, List.map_cons, List.map_nil, AV.ren, hf 20 (by decide), hf 21 (by decide)])
 rw [show fitB 1 o.bars.length o.cells = true by rw [hc]; exact fitB_all rfl (by intro j hj; match j, hj with | 0, _ => exact hc0)] at hfc
 have hfd := fitsDy_rd t (.msl 21 0 bs.length 14) (.int .i64 2) (.int .i64 o.part) (.int .i64 (b : Nat)) (.int .i64 o.voice) (.int .i64 o.at_) (.int .i64 o.count) (.sl 9 (o.events.map Ev.av) .none) 1 o.dyns o.bars (.sl 1 (o.cells.map cellsAV) .none :: .sl 1 (o.dyns.map dynssAV) .none :: .int .i64 o.steps :: .int .i64 o.halves :: .str o.text :: back0) (by rw [hd]; simp) (fun f hf => by simp only [back0, List.map_cons, List.map_nil, AV.ren, hf 20 (by decide), hf 21 (by decide)])
 rw [show fitB 1 o.bars.length o.dyns = true by rw [hd]; exact fitB_all rfl (by intro j hj; match j, hj with | 0, _ => exact hd0)] at hfd
 simp only [back0, hc, hd, List.map_cons, List.map_nil, cellsAV, dynssAV] at hfc hfd hK ⊢
 have oc0 := edCellsF_own c0 (by omega) hs0
 have od0 := edDyns_own d0 (by omega) hy0
 rw [hm] at ob hc0 hd0
 rw [hc0] at oc0
 rw [hd0] at od0
 simp only [ownA_zero, ownH_zero] at ob oc0 od0
 simp only [hm] at hK
 have hw : IntKind.i64.wrap (((bs.length : Nat) : Int) + 1) = ((bs.length : Nat) : Int) + 1 := wrap_in (by omega)
 (refine OZ_inline hF hro mix names 2 (fn := Tryz.f18) Tryz.func18 rfl ?_; simp -implicitDefEqProofs only [Tryz.ntmps18, Tryz.results18, entL, Nat.reduceAdd, Nat.reduceSub])
 repeat' (first
  | simp -implicitDefEqProofs (maxSteps := 9999999) only [↓reduceIte, runsY, lstY, facts, Nat.reduceAdd, Nat.reduceEqDiff, Nat.reduceLeDiff, Int.reduceLT, Int.reduceLE, Int.reduceNeg, Int.reduceAdd, AV.cells, AV.one, Nat.zero_mul, ren_nilsl, hup_nil, hC_nil, dh0, hkeep_cons, hkeep_nil, kin1, wrap_in, vops_nil, vops_cons, vstep_val, vstep_skip, drawVK_at, *]
  | ((with_reducible refine v_at 37 ?_); refine vstep_own hF hro ob (rfl) ?_)
  | ((with_reducible refine v_at 52 ?_); refine vstep_wide [21] rfl (insBa_z hF hro bs o.bars b (by omega) (by omega) (by omega) (q := 21) (nx := 163)) rfl (by show 163 ≤ 164; decide) ?_)
  | ((with_reducible refine v_at 40 ?_); refine vstep_own hF hro oc0 (rfl) ?_)
  | ((with_reducible refine v_at 42 ?_); refine vstep_own hF hro od0 (rfl) ?_)
  | ((with_reducible refine v_at 53 ?_); refine vstep_wide [22] rfl (insCe_z hF hro p0.cells c0 b (by omega) (by omega) (by omega) (q := 22) (nx := 239)) rfl (by show 239 ≤ 240; decide) ?_)
  | ((with_reducible refine v_at 54 ?_); refine vstep_wide [23] rfl (insDy_z hF hro p0.dyns d0 b (by omega) (by omega) (by omega) (q := 23) (nx := 298)) rfl (by show 298 ≤ 299; decide) ?_)
  | ((with_reducible refine OZ_drawn ?_); refine OZ_drawV (by decide +kernel) ?_)
  | ((with_reducible refine wend ?_ ?_); · decide +kernel)
  | ((with_reducible refine OZ_at 45 ?_); refine PC.useZ hF (there_t _ _ (by omega)) (rfl) fun v hv => ?_; subst hv)
  | ((with_reducible refine OZ_at 50 ?_); refine OZ_call (Rd.call hF hfc (rdSub rfl) ?_))
  | ((with_reducible refine OZ_at 51 ?_); refine OZ_call (Rd.call hF hfd (rdSub rfl) ?_))
  | ((with_reducible refine OZ_lp ?_); refine OZ_unroll 2 ?_))
 all_goals exact hK
theorem barsIn1 (hK : K (.int .i64 0) ⟨pre6 B0 B1 B2 B3 B4 B5 ++ (34, .cells (.str t :: .msl 163 0 (insL bs o.bars b).length 14 :: .msl 20 0 1 5 :: opL o 2 (b : Nat) o.count ++ [.int .i64 3, .int .i64 0, .int .i64 (b : Nat), .int .i64 0, .int .i64 0, .int .i64 (o.bars.length : Nat), .sl 9 [] .full, .sl 14 [] .full, .sl 1 [] .full, .sl 1 [] .full, .int .i64 0, .int .i64 0, .str ⟨#[]⟩])) :: (20, .cells (pRow (p0.ins c0 d0 b) 239 298)) :: (163, .cells ((insL bs o.bars b).flatMap Ba.cells)) :: (pBlk (p0.ins c0 d0 b) 239 298), 322⟩) : (OZ F Tryz.prog gl W true 3).call 18 [.ptr 34 0] K ⟨pre6 B0 B1 B2 B3 B4 B5 ++ (34, .cells (.str t :: .msl 21 0 bs.length 14 :: .msl 20 0 1 5 :: opL o 2 (b : Nat) o.count ++ back0)) :: (20, .cells (pRow p0 22 23)) :: (21, .cells (bs.flatMap Ba.cells)) :: (pBlk p0 22 23), 78⟩ := by
 rcases Nat.eq_zero_or_pos o.bars.length with hm | hm
 ·exact barsIn1z t bs p0 o B0 B1 B2 B3 B4 B5 b hb hbl hbr c0 d0 hc hd hc0 hd0 hs0 hy0 hpc0 hpd0 hF hro hm hK
 ·exact barsIn1s t bs p0 o B0 B1 B2 B3 B4 B5 b hb hbl hbr hnb c0 d0 hc hd hc0 hd0 hs0 hy0 hpc0 hpd0 hF hro (o.bars.length - 1) (by omega) hK
end
end Go.Proofs.Pv
namespace Go.Proofs.Pv
open Go Go.Proofs
set_option linter.unusedSimpArgs false
set_option linter.unusedVariables false
set_option maxRecDepth 100000
set_option maxHeartbeats 8000000
section
variable (t : ByteArray) (bs : List Ba) (p0 p1 : Pa) (o : EOp) (B0 B1 B2 B3 B4 B5 : Blk) (b : Nat) (hb : b ≤ bs.length) (hbl : bs.length ≤ 1000) (hbr : ∀ x ∈ o.bars, x.short) (hnb : o.bars.length ≤ 1000) (c0 c1 : List (List Vo)) (d0 d1 : List (List Dy)) (hc : o.cells = [c0, c1]) (hd : o.dyns = [d0, d1]) (hc0 : c0.length = o.bars.length) (hd0 : d0.length = o.bars.length) (hs0 : ∀ c ∈ c0, cellShort c) (hy0 : ∀ d ∈ d0, d.length ≤ 1000000) (hpc0 : b ≤ p0.cells.length ∧ p0.cells.length ≤ 1000) (hpd0 : b ≤ p0.dyns.length ∧ p0.dyns.length ≤ 1000) (hc1 : c1.length = o.bars.length) (hd1 : d1.length = o.bars.length) (hs1 : ∀ c ∈ c1, cellShort c) (hy1 : ∀ d ∈ d1, d.length ≤ 1000000) (hpc1 : b ≤ p1.cells.length ∧ p1.cells.length ≤ 1000) (hpd1 : b ≤ p1.dyns.length ∧ p1.dyns.length ≤ 1000)
 {F : Fence} (hF : Free F) (hro : F.round = none) {W : World} {K : AV → St → Prop}
include hb hbl hbr hnb hc hd hc0 hd0 hs0 hy0 hpc0 hpd0 hc1 hd1 hs1 hy1 hpc1 hpd1 hF hro
theorem barsIn2s (m : Nat) (hm : o.bars.length = m + 1) (hK : K (.int .i64 0) ⟨pre6 B0 B1 B2 B3 B4 B5 ++ (34, .cells (.str t :: .msl 163 0 (insL bs o.bars b).length 14 :: .msl 20 0 2 5 :: opL o 2 (b : Nat) o.count ++ [.int .i64 3, .int .i64 0, .int .i64 (b : Nat), .int .i64 0, .int .i64 0, .int .i64 (o.bars.length : Nat), .sl 9 [] .full, .sl 14 [] .full, .sl 1 [] .full, .sl 1 [] .full, .int .i64 0, .int .i64 0, .str ⟨#[]⟩])) :: (20, .cells (pRow (p0.ins c0 d0 b) 239 298 ++ pRow (p1.ins c1 d1 b) 370 429)) :: (163, .cells ((insL bs o.bars b).flatMap Ba.cells)) :: (pBlk (p0.ins c0 d0 b) 239 298 ++ pBlk (p1.ins c1 d1 b) 370 429), 453⟩) : (OZ F Tryz.prog gl W true 3).call 18 [.ptr 34 0] K ⟨pre6 B0 B1 B2 B3 B4 B5 ++ (34, .cells (.str t :: .msl 21 0 bs.length 14 :: .msl 20 0 2 5 :: opL o 2 (b : Nat) o.count ++ back0)) :: (20, .cells (pRow p0 22 23 ++ pRow p1 24 25)) :: (21, .cells (bs.flatMap Ba.cells)) :: (pBlk p0 22 23 ++ pBlk p1 24 25), 78⟩ := by
 simp only [pre6, opL, back0, pRow, pBlk, Pa.ins, Pa.del, List.cons_append, List.nil_append] at hK ⊢
 have ob := edBars_own o.bars (by omega) hbr
 have hfc := fitsVo_rd t (.msl 21 0 bs.length 14) (.int .i64 2) (.int .i64 o.part) (.int .i64 (b : Nat)) (.int .i64 o.voice) (.int .i64 o.at_) (.int .i64 o.count) (.sl 9 (o.events.map Ev.av) .none) 2 o.cells o.bars (.sl 1 (o.cells.map cellsAV) .none :: .sl 1 (o.dyns.map dynssAV) .none :: .int .i64 o.steps :: .int .i64 o.halves :: .str o.text :: back0) (by rw [hc]; simp) (fun f hf => by simp only [back0, List.map_cons, List.map_nil, AV.ren, hf 20 (by decide), hf 21 (by decide)])
 rw [show fitB 2 o.bars.length o.cells = true by rw [hc]; exact fitB_all rfl (by intro j hj; match j, hj with | 0, _ => exact hc0 | 1, _ => exact hc1)] at hfc
 have hfd := fitsDy_rd t (.msl 21 0 bs.length 14) (.int .i64 2) (.int .i64 o.part) (.int .i64 (b : Nat)) (.int .i64 o.voice) (.int .i64 o.at_) (.int .i64 o.count) (.sl 9 (o.events.map Ev.av) .none) 2 o.dyns o.bars (.sl 1 (o.cells.map cellsAV) .none :: .sl 1 (o.dyns.map dynssAV) .none :: .int .i64 o.steps :: .int .i64 o.halves :: .str o.text :: back0) (by rw [hd]; simp) (fun f hf => by simp only [back0, List.map_cons, List.map_nil, AV.ren, hf 20 (by decide), hf 21 (by decide)])
 rw [show fitB 2 o.bars.length o.dyns = true by rw [hd]; exact fitB_all rfl (by intro j hj; match j, hj with | 0, _ => exact hd0 | 1, _ => exact hd1)] at hfd
 simp only [back0, hc, hd, List.map_cons, List.map_nil, cellsAV, dynssAV] at hfc hfd hK ⊢
 have oc0 := edCellsF_own c0 (by omega) hs0
 have od0 := edDyns_own d0 (by omega) hy0
 have oc1 := edCellsF_own c1 (by omega) hs1
 have od1 := edDyns_own d1 (by omega) hy1
 rw [hm] at ob hc0 hd0 hc1 hd1
 rw [hc0] at oc0
 rw [hd0] at od0
 rw [hc1] at oc1
 rw [hd1] at od1
 simp only [ownA_succ, ownH_succ] at ob oc0 od0 oc1 od1
 simp only [hm] at hK
 have hw : IntKind.i64.wrap (((bs.length : Nat) : Int) + 1) = ((bs.length : Nat) : Int) + 1 := wrap_in (by omega)
 (refine OZ_inline hF hro mix names 2 (fn := Tryz.f18) Tryz.func18 rfl ?_; simp -implicitDefEqProofs only [Tryz.ntmps18, Tryz.results18, entL, Nat.reduceAdd, Nat.reduceSub])
 repeat' (first
  | simp -implicitDefEqProofs (maxSteps := 9999999) only [↓reduceIte, runsY, lstY, facts, Nat.reduceAdd, Nat.reduceEqDiff, Nat.reduceLeDiff, Int.reduceLT, Int.reduceLE, Int.reduceToNat, Int.reduceNeg, Int.reduceAdd, AV.cells, AV.one, Nat.zero_mul, ren_up, hup_cons, hup_nil, hC_cons, hC_nil, ceRen, dyRen, baRen, dh0, hkeep_cons, hkeep_nil, kin2, wrap_in, vops_nil, vops_cons, vstep_val, vstep_skip, drawVK_at, *]
  | ((with_reducible refine v_at 37 ?_); refine vstep_own hF hro ob (rfl) ?_)
  | ((with_reducible refine v_at 52 ?_); refine vstep_wide [21, 144] rfl (insBa_s hF hro bs o.bars b (by omega) (by omega) m (by omega) (q := 21) (r := 144) (nx := 163) (by decide)) rfl (by show 163 ≤ 164; decide) ?_)
  | ((with_reducible refine v_at 40 ?_); refine vstep_own hF hro oc0 (rfl) ?_)
  | ((with_reducible refine v_at 42 ?_); refine vstep_own hF hro od0 (rfl) ?_)
  | ((with_reducible refine v_at 40 ?_); refine vstep_own hF hro oc1 (rfl) ?_)
  | ((with_reducible refine v_at 42 ?_); refine vstep_own hF hro od1 (rfl) ?_)
  | ((with_reducible refine v_at 53 ?_); first | refine vstep_wide [22, 219] rfl (insCe_s hF hro p0.cells c0 b (by omega) (by omega) m (by omega) (q := 22) (r := 219) (nx := 239) (by decide)) rfl (by show 239 ≤ 240; decide) ?_ | refine vstep_wide [24, 350] rfl (insCe_s hF hro p1.cells c1 b (by omega) (by omega) m (by omega) (q := 24) (r := 350) (nx := 370) (by decide)) rfl (by show 370 ≤ 371; decide) ?_)
  | ((with_reducible refine v_at 54 ?_); first | refine vstep_wide [23, 278] rfl (insDy_s hF hro p0.dyns d0 b (by omega) (by omega) m (by omega) (q := 23) (r := 278) (nx := 298) (by decide)) rfl (by show 298 ≤ 299; decide) ?_ | refine vstep_wide [25, 409] rfl (insDy_s hF hro p1.dyns d1 b (by omega) (by omega) m (by omega) (q := 25) (r := 409) (nx := 429) (by decide)) rfl (by show 429 ≤ 430; decide) ?_)
  | ((with_reducible refine OZ_drawn ?_); refine OZ_drawV (by decide +kernel) ?_)
  | ((with_reducible refine wend ?_ ?_); · decide +kernel)
  | ((with_reducible refine wend1 ?_); kernel_rfl)
  | ((with_reducible refine OZ_at 45 ?_); refine PC.useZ hF (there_t _ _ (by omega)) (rfl) fun v hv => ?_; subst hv)
  | ((with_reducible refine OZ_at 50 ?_); refine OZ_call (Rd.call hF hfc (rdSub rfl) ?_))
  | ((with_reducible refine OZ_at 51 ?_); refine OZ_call (Rd.call hF hfd (rdSub rfl) ?_))
  | ((with_reducible refine OZ_lp ?_); refine OZ_unroll 3 ?_))
 all_goals exact hK
omit hnb in
theorem barsIn2z (hm : o.bars.length = 0) (hK : K (.int .i64 0) ⟨pre6 B0 B1 B2 B3 B4 B5 ++ (34, .cells (.str t :: .msl 163 0 (insL bs o.bars b).length 14 :: .msl 20 0 2 5 :: opL o 2 (b : Nat) o.count ++ [.int .i64 3, .int .i64 0, .int .i64 (b : Nat), .int .i64 0, .int .i64 0, .int .i64 (o.bars.length : Nat), .sl 9 [] .full, .sl 14 [] .full, .sl 1 [] .full, .sl 1 [] .full, .int .i64 0, .int .i64 0, .str ⟨#[]⟩])) :: (20, .cells (pRow (p0.ins c0 d0 b) 239 298 ++ pRow (p1.ins c1 d1 b) 370 429)) :: (163, .cells ((insL bs o.bars b).flatMap Ba.cells)) :: (pBlk (p0.ins c0 d0 b) 239 298 ++ pBlk (p1.ins c1 d1 b) 370 429), 453⟩) : (OZ F Tryz.prog gl W true 3).call 18 [.ptr 34 0] K ⟨pre6 B0 B1 B2 B3 B4 B5 ++ (34, .cells (.str t :: .msl 21 0 bs.length 14 :: .msl 20 0 2 5 :: opL o 2 (b : Nat) o.count ++ back0)) :: (20, .cells (pRow p0 22 23 ++ pRow p1 24 25)) :: (21, .cells (bs.flatMap Ba.cells)) :: (pBlk p0 22 23 ++ pBlk p1 24 25), 78⟩ := by
 simp only [pre6, opL, back0, pRow, pBlk, Pa.ins, Pa.del, List.cons_append, List.nil_append] at hK ⊢
 have ob := edBars_own o.bars (by omega) hbr
 have hfc := fitsVo_rd t (.msl 21 0 bs.length 14) (.int .i64 2) (.int .i64 o.part) (.int .i64 (b : Nat)) (.int .i64 o.voice) (.int .i64 o.at_) (.int .i64 o.count) (.sl 9 (o.events.map Ev.av) .none) 2 o.cells o.bars (.sl 1 (o.cells.map cellsAV) .none :: .sl 1 (o.dyns.map dynssAV) .none :: .int .i64 o.steps :: .int .i64 o.halves :: .str o.text :: back0) (by rw [hc]; simp) (fun f hf => by simp only [back0, List.map_cons, List.map_nil, AV.ren, hf 20 (by decide), hf 21 (by decide)])
 rw [show fitB 2 o.bars.length o.cells = true by rw [hc]; exact fitB_all rfl (by intro j hj; match j, hj with | 0, _ => exact hc0 | 1, _ => exact hc1)] at hfc
 have hfd := fitsDy_rd t (.msl 21 0 bs.length 14) (.int .i64 2) (.int .i64 o.part) (.int .i64 (b : Nat)) (.int .i64 o.voice) (.int .i64 o.at_) (.int .i64 o.count) (.sl 9 (o.events.map Ev.av) .none) 2 o.dyns o.bars (.sl 1 (o.cells.map cellsAV) .none :: .sl 1 (o.dyns.map dynssAV) .none :: .int .i64 o.steps :: .int .i64 o.halves :: .str o.text :: back0) (by rw [hd]; simp) (fun f hf => by simp only [back0, List.map_cons, List.map_nil, AV.ren, hf 20 (by decide), hf 21 (by decide)])
 rw [show fitB 2 o.bars.length o.dyns = true by rw [hd]; exact fitB_all rfl (by intro j hj; match j, hj with | 0, _ => exact hd0 | 1, _ => exact hd1)] at hfd
 simp only [back0, hc, hd, List.map_cons, List.map_nil, cellsAV, dynssAV] at hfc hfd hK ⊢
 have oc0 := edCellsF_own c0 (by omega) hs0
 have od0 := edDyns_own d0 (by omega) hy0
 have oc1 := edCellsF_own c1 (by omega) hs1
 have od1 := edDyns_own d1 (by omega) hy1
 rw [hm] at ob hc0 hd0 hc1 hd1
 rw [hc0] at oc0
 rw [hd0] at od0
 rw [hc1] at oc1
 rw [hd1] at od1
 simp only [ownA_zero, ownH_zero] at ob oc0 od0 oc1 od1
 simp only [hm] at hK
 have hw : IntKind.i64.wrap (((bs.length : Nat) : Int) + 1) = ((bs.length : Nat) : Int) + 1 := wrap_in (by omega)
 (refine OZ_inline hF hro mix names 2 (fn := Tryz.f18) Tryz.func18 rfl ?_; simp -implicitDefEqProofs only [Tryz.ntmps18, Tryz.results18, entL, Nat.reduceAdd, Nat.reduceSub])
 repeat' (first
  | simp -implicitDefEqProofs (maxSteps := 9999999) only [↓reduceIte, runsY, lstY, facts, Nat.reduceAdd, Nat.reduceEqDiff, Nat.reduceLeDiff, Int.reduceLT, Int.reduceLE, Int.reduceToNat, Int.reduceNeg, Int.reduceAdd, AV.cells, AV.one, Nat.zero_mul, ren_nilsl, hup_nil, hC_nil, dh0, hkeep_cons, hkeep_nil, kin1, wrap_in, vops_nil, vops_cons, vstep_val, vstep_skip, drawVK_at, *]
  | ((with_reducible refine v_at 37 ?_); refine vstep_own hF hro ob (rfl) ?_)
  | ((with_reducible refine v_at 52 ?_); refine vstep_wide [21] rfl (insBa_z hF hro bs o.bars b (by omega) (by omega) (by omega) (q := 21) (nx := 163)) rfl (by show 163 ≤ 164; decide) ?_)
  | ((with_reducible refine v_at 40 ?_); refine vstep_own hF hro oc0 (rfl) ?_)
  | ((with_reducible refine v_at 42 ?_); refine vstep_own hF hro od0 (rfl) ?_)
  | ((with_reducible refine v_at 40 ?_); refine vstep_own hF hro oc1 (rfl) ?_)
  | ((with_reducible refine v_at 42 ?_); refine vstep_own hF hro od1 (rfl) ?_)
  | ((with_reducible refine v_at 53 ?_); first | refine vstep_wide [22] rfl (insCe_z hF hro p0.cells c0 b (by omega) (by omega) (by omega) (q := 22) (nx := 239)) rfl (by show 239 ≤ 240; decide) ?_ | refine vstep_wide [24] rfl (insCe_z hF hro p1.cells c1 b (by omega) (by omega) (by omega) (q := 24) (nx := 370)) rfl (by show 370 ≤ 371; decide) ?_)
  | ((with_reducible refine v_at 54 ?_); first | refine vstep_wide [23] rfl (insDy_z hF hro p0.dyns d0 b (by omega) (by omega) (by omega) (q := 23) (nx := 298)) rfl (by show 298 ≤ 299; decide) ?_ | refine vstep_wide [25] rfl (insDy_z hF hro p1.dyns d1 b (by omega) (by omega) (by omega) (q := 25) (nx := 429)) rfl (by show 429 ≤ 430; decide) ?_)
  | ((with_reducible refine OZ_drawn ?_); refine OZ_drawV (by decide +kernel) ?_)
  | ((with_reducible refine wend ?_ ?_); · decide +kernel)
  | ((with_reducible refine OZ_at 45 ?_); refine PC.useZ hF (there_t _ _ (by omega)) (rfl) fun v hv => ?_; subst hv)
  | ((with_reducible refine OZ_at 50 ?_); refine OZ_call (Rd.call hF hfc (rdSub rfl) ?_))
  | ((with_reducible refine OZ_at 51 ?_); refine OZ_call (Rd.call hF hfd (rdSub rfl) ?_))
  | ((with_reducible refine OZ_lp ?_); refine OZ_unroll 3 ?_))
 all_goals exact hK
theorem barsIn2 (hK : K (.int .i64 0) ⟨pre6 B0 B1 B2 B3 B4 B5 ++ (34, .cells (.str t :: .msl 163 0 (insL bs o.bars b).length 14 :: .msl 20 0 2 5 :: opL o 2 (b : Nat) o.count ++ [.int .i64 3, .int .i64 0, .int .i64 (b : Nat), .int .i64 0, .int .i64 0, .int .i64 (o.bars.length : Nat), .sl 9 [] .full, .sl 14 [] .full, .sl 1 [] .full, .sl 1 [] .full, .int .i64 0, .int .i64 0, .str ⟨#[]⟩])) :: (20, .cells (pRow (p0.ins c0 d0 b) 239 298 ++ pRow (p1.ins c1 d1 b) 370 429)) :: (163, .cells ((insL bs o.bars b).flatMap Ba.cells)) :: (pBlk (p0.ins c0 d0 b) 239 298 ++ pBlk (p1.ins c1 d1 b) 370 429), 453⟩) : (OZ F Tryz.prog gl W true 3).call 18 [.ptr 34 0] K ⟨pre6 B0 B1 B2 B3 B4 B5 ++ (34, .cells (.str t :: .msl 21 0 bs.length 14 :: .msl 20 0 2 5 :: opL o 2 (b : Nat) o.count ++ back0)) :: (20, .cells (pRow p0 22 23 ++ pRow p1 24 25)) :: (21, .cells (bs.flatMap Ba.cells)) :: (pBlk p0 22 23 ++ pBlk p1 24 25), 78⟩ := by
 rcases Nat.eq_zero_or_pos o.bars.length with hm | hm
 ·exact barsIn2z t bs p0 p1 o B0 B1 B2 B3 B4 B5 b hb hbl hbr c0 c1 d0 d1 hc hd hc0 hd0 hs0 hy0 hpc0 hpd0 hc1 hd1 hs1 hy1 hpc1 hpd1 hF hro hm hK
 ·exact barsIn2s t bs p0 p1 o B0 B1 B2 B3 B4 B5 b hb hbl hbr hnb c0 c1 d0 d1 hc hd hc0 hd0 hs0 hy0 hpc0 hpd0 hc1 hd1 hs1 hy1 hpc1 hpd1 hF hro (o.bars.length - 1) (by omega) hK
end
end Go.Proofs.Pv
namespace Go.Proofs.Pv
open Go Go.Proofs
set_option linter.unusedSimpArgs false
set_option linter.unusedVariables false
set_option maxRecDepth 100000
set_option maxHeartbeats 8000000
section
variable (t : ByteArray) (bs : List Ba) (p0 p1 p2 : Pa) (o : EOp) (B0 B1 B2 B3 B4 B5 : Blk) (b : Nat) (hb : b ≤ bs.length) (hbl : bs.length ≤ 1000) (hbr : ∀ x ∈ o.bars, x.short) (hnb : o.bars.length ≤ 1000) (c0 c1 c2 : List (List Vo)) (d0 d1 d2 : List (List Dy)) (hc : o.cells = [c0, c1, c2]) (hd : o.dyns = [d0, d1, d2]) (hc0 : c0.length = o.bars.length) (hd0 : d0.length = o.bars.length) (hs0 : ∀ c ∈ c0, cellShort c) (hy0 : ∀ d ∈ d0, d.length ≤ 1000000) (hpc0 : b ≤ p0.cells.length ∧ p0.cells.length ≤ 1000) (hpd0 : b ≤ p0.dyns.length ∧ p0.dyns.length ≤ 1000) (hc1 : c1.length = o.bars.length) (hd1 : d1.length = o.bars.length) (hs1 : ∀ c ∈ c1, cellShort c) (hy1 : ∀ d ∈ d1, d.length ≤ 1000000) (hpc1 : b ≤ p1.cells.length ∧ p1.cells.length ≤ 1000) (hpd1 : b ≤ p1.dyns.length ∧ p1.dyns.length ≤ 1000) (hc2 : c2.length = o.bars.length) (hd2 : d2.length = o.bars.length) (hs2 : ∀ c ∈ c2, cellShort c) (hy2 : ∀ d ∈ d2, d.length ≤ 1000000) (hpc2 : b ≤ p2.cells.length ∧ p2.cells.length ≤ 1000) (hpd2 : b ≤ p2.dyns.length ∧ p2.dyns.length ≤ 1000)
 {F : Fence} (hF : Free F) (hro : F.round = none) {W : World} {K : AV → St → Prop}
include hb hbl hbr hnb hc hd hc0 hd0 hs0 hy0 hpc0 hpd0 hc1 hd1 hs1 hy1 hpc1 hpd1 hc2 hd2 hs2 hy2 hpc2 hpd2 hF hro
theorem barsIn3s (m : Nat) (hm : o.bars.length = m + 1) (hK : K (.int .i64 0) ⟨pre6 B0 B1 B2 B3 B4 B5 ++ (34, .cells (.str t :: .msl 163 0 (insL bs o.bars b).length 14 :: .msl 20 0 3 5 :: opL o 2 (b : Nat) o.count ++ [.int .i64 3, .int .i64 0, .int .i64 (b : Nat), .int .i64 0, .int .i64 0, .int .i64 (o.bars.length : Nat), .sl 9 [] .full, .sl 14 [] .full, .sl 1 [] .full, .sl 1 [] .full, .int .i64 0, .int .i64 0, .str ⟨#[]⟩])) :: (20, .cells (pRow (p0.ins c0 d0 b) 239 298 ++ pRow (p1.ins c1 d1 b) 370 429 ++ pRow (p2.ins c2 d2 b) 501 560)) :: (163, .cells ((insL bs o.bars b).flatMap Ba.cells)) :: (pBlk (p0.ins c0 d0 b) 239 298 ++ pBlk (p1.ins c1 d1 b) 370 429 ++ pBlk (p2.ins c2 d2 b) 501 560), 584⟩) : (OZ F Tryz.prog gl W true 3).call 18 [.ptr 34 0] K ⟨pre6 B0 B1 B2 B3 B4 B5 ++ (34, .cells (.str t :: .msl 21 0 bs.length 14 :: .msl 20 0 3 5 :: opL o 2 (b : Nat) o.count ++ back0)) :: (20, .cells (pRow p0 22 23 ++ pRow p1 24 25 ++ pRow p2 26 27)) :: (21, .cells (bs.flatMap Ba.cells)) :: (pBlk p0 22 23 ++ pBlk p1 24 25 ++ pBlk p2 26 27), 78⟩ := by
 simp only [pre6, opL, back0, pRow, pBlk, Pa.ins, Pa.del, List.cons_append, List.nil_append] at hK ⊢
 have ob := edBars_own o.bars (by omega) hbr
 have hfc := fitsVo_rd t (.msl 21 0 bs.length 14) (.int .i64 2) (.int .i64 o.part) (.int .i64 (b : Nat)) (.int .i64 o.voice) (.int .i64 o.at_) (.int .i64 o.count) (.sl 9 (o.events.map Ev.av) .none) 3 o.cells o.bars (.sl 1 (o.cells.map cellsAV) .none :: .sl 1 (o.dyns.map dynssAV) .none :: .int .i64 o.steps :: .int .i64 o.halves :: .str o.text :: back0) (by rw [hc]; simp) (fun f hf => by simp only [back0, List.map_cons, List.map_nil, AV.ren, hf 20 (by decide), hf 21 (by decide)])
 rw [show fitB 3 o.bars.length o.cells = true by rw [hc]; exact fitB_all rfl (by intro j hj; match j, hj with | 0, _ => exact hc0 | 1, _ => exact hc1 | 2, _ => exact hc2)] at hfc
 have hfd := fitsDy_rd t (.msl 21 0 bs.length 14) (.int .i64 2) (.int .i64 o.part) (.int .i64 (b : Nat)) (.int .i64 o.voice) (.int .i64 o.at_) (.int .i64 o.count) (.sl 9 (o.events.map Ev.av) .none) 3 o.dyns o.bars (.sl 1 (o.cells.map cellsAV) .none :: .sl 1 (o.dyns.map dynssAV) .none :: .int .i64 o.steps :: .int .i64 o.halves :: .str o.text :: back0) (by rw [hd]; simp) (fun f hf => by simp only [back0, List.map_cons, List.map_nil, AV.ren, hf 20 (by decide), hf 21 (by decide)])
 rw [show fitB 3 o.bars.length o.dyns = true by rw [hd]; exact fitB_all rfl (by intro j hj; match j, hj with | 0, _ => exact hd0 | 1, _ => exact hd1 | 2, _ => exact hd2)] at hfd
 simp only [back0, hc, hd, List.map_cons, List.map_nil, cellsAV, dynssAV] at hfc hfd hK ⊢
 have oc0 := edCellsF_own c0 (by omega) hs0
 have od0 := edDyns_own d0 (by omega) hy0
 have oc1 := edCellsF_own c1 (by omega) hs1
 have od1 := edDyns_own d1 (by omega) hy1
 have oc2 := edCellsF_own c2 (by omega) hs2
 have od2 := edDyns_own d2 (by omega) hy2
 rw [hm] at ob hc0 hd0 hc1 hd1 hc2 hd2
 rw [hc0] at oc0
 rw [hd0] at od0
 rw [hc1] at oc1
 rw [hd1] at od1
 rw [hc2] at oc2
 rw [hd2] at od2
 simp only [ownA_succ, ownH_succ] at ob oc0 od0 oc1 od1 oc2 od2
 simp only [hm] at hK
 have hw : IntKind.i64.wrap (((bs.length : Nat) : Int) + 1) = ((bs.length : Nat) : Int) + 1 := wrap_in (by omega)
 (refine OZ_inline hF hro mix names 2 (fn := Tryz.f18) Tryz.func18 rfl ?_; simp -implicitDefEqProofs only [Tryz.ntmps18, Tryz.results18, entL, Nat.reduceAdd, Nat.reduceSub])
 repeat' (first
  | simp -implicitDefEqProofs (maxSteps := 9999999) only [↓reduceIte, runsY, lstY, facts, Nat.reduceAdd, Nat.reduceEqDiff, Nat.reduceLeDiff, Nat.reduceMul, Int.reduceLT, Int.reduceLE, Int.reduceToNat, Int.reduceNeg, Int.reduceAdd, AV.cells, AV.one, Nat.zero_mul, ren_up, hup_cons, hup_nil, hC_cons, hC_nil, ceRen, dyRen, baRen, dh0, hkeep_cons, hkeep_nil, kin2, wrap_in, vops_nil, vops_cons, vstep_val, vstep_skip, drawVK_at, *]
  | ((with_reducible refine v_at 37 ?_); refine vstep_own hF hro ob (rfl) ?_)
  | ((with_reducible refine v_at 52 ?_); refine vstep_wide [21, 144] rfl (insBa_s hF hro bs o.bars b (by omega) (by omega) m (by omega) (q := 21) (r := 144) (nx := 163) (by decide)) rfl (by show 163 ≤ 164; decide) ?_)
  | ((with_reducible refine v_at 40 ?_); refine vstep_own hF hro oc0 (rfl) ?_)
  | ((with_reducible refine v_at 42 ?_); refine vstep_own hF hro od0 (rfl) ?_)
  | ((with_reducible refine v_at 40 ?_); refine vstep_own hF hro oc1 (rfl) ?_)
  | ((with_reducible refine v_at 42 ?_); refine vstep_own hF hro od1 (rfl) ?_)
  | ((with_reducible refine v_at 40 ?_); refine vstep_own hF hro oc2 (rfl) ?_)
  | ((with_reducible refine v_at 42 ?_); refine vstep_own hF hro od2 (rfl) ?_)
  | ((with_reducible refine v_at 53 ?_); first | refine vstep_wide [22, 219] rfl (insCe_s hF hro p0.cells c0 b (by omega) (by omega) m (by omega) (q := 22) (r := 219) (nx := 239) (by decide)) rfl (by show 239 ≤ 240; decide) ?_ | refine vstep_wide [24, 350] rfl (insCe_s hF hro p1.cells c1 b (by omega) (by omega) m (by omega) (q := 24) (r := 350) (nx := 370) (by decide)) rfl (by show 370 ≤ 371; decide) ?_ | refine vstep_wide [26, 481] rfl (insCe_s hF hro p2.cells c2 b (by omega) (by omega) m (by omega) (q := 26) (r := 481) (nx := 501) (by decide)) rfl (by show 501 ≤ 502; decide) ?_)
  | ((with_reducible refine v_at 54 ?_); first | refine vstep_wide [23, 278] rfl (insDy_s hF hro p0.dyns d0 b (by omega) (by omega) m (by omega) (q := 23) (r := 278) (nx := 298) (by decide)) rfl (by show 298 ≤ 299; decide) ?_ | refine vstep_wide [25, 409] rfl (insDy_s hF hro p1.dyns d1 b (by omega) (by omega) m (by omega) (q := 25) (r := 409) (nx := 429) (by decide)) rfl (by show 429 ≤ 430; decide) ?_ | refine vstep_wide [27, 540] rfl (insDy_s hF hro p2.dyns d2 b (by omega) (by omega) m (by omega) (q := 27) (r := 540) (nx := 560) (by decide)) rfl (by show 560 ≤ 561; decide) ?_)
  | ((with_reducible refine OZ_drawn ?_); refine OZ_drawV (by decide +kernel) ?_)
  | ((with_reducible refine wend ?_ ?_); · decide +kernel)
  | ((with_reducible refine wend1 ?_); kernel_rfl)
  | ((with_reducible refine OZ_at 45 ?_); refine PC.useZ hF (there_t _ _ (by omega)) (rfl) fun v hv => ?_; subst hv)
  | ((with_reducible refine OZ_at 50 ?_); refine OZ_call (Rd.call hF hfc (rdSub rfl) ?_))
  | ((with_reducible refine OZ_at 51 ?_); refine OZ_call (Rd.call hF hfd (rdSub rfl) ?_))
  | ((with_reducible refine OZ_lp ?_); refine OZ_unroll 4 ?_))
 all_goals exact hK
omit hnb in
theorem barsIn3z (hm : o.bars.length = 0) (hK : K (.int .i64 0) ⟨pre6 B0 B1 B2 B3 B4 B5 ++ (34, .cells (.str t :: .msl 163 0 (insL bs o.bars b).length 14 :: .msl 20 0 3 5 :: opL o 2 (b : Nat) o.count ++ [.int .i64 3, .int .i64 0, .int .i64 (b : Nat), .int .i64 0, .int .i64 0, .int .i64 (o.bars.length : Nat), .sl 9 [] .full, .sl 14 [] .full, .sl 1 [] .full, .sl 1 [] .full, .int .i64 0, .int .i64 0, .str ⟨#[]⟩])) :: (20, .cells (pRow (p0.ins c0 d0 b) 239 298 ++ pRow (p1.ins c1 d1 b) 370 429 ++ pRow (p2.ins c2 d2 b) 501 560)) :: (163, .cells ((insL bs o.bars b).flatMap Ba.cells)) :: (pBlk (p0.ins c0 d0 b) 239 298 ++ pBlk (p1.ins c1 d1 b) 370 429 ++ pBlk (p2.ins c2 d2 b) 501 560), 584⟩) : (OZ F Tryz.prog gl W true 3).call 18 [.ptr 34 0] K ⟨pre6 B0 B1 B2 B3 B4 B5 ++ (34, .cells (.str t :: .msl 21 0 bs.length 14 :: .msl 20 0 3 5 :: opL o 2 (b : Nat) o.count ++ back0)) :: (20, .cells (pRow p0 22 23 ++ pRow p1 24 25 ++ pRow p2 26 27)) :: (21, .cells (bs.flatMap Ba.cells)) :: (pBlk p0 22 23 ++ pBlk p1 24 25 ++ pBlk p2 26 27), 78⟩ := by
 simp only [pre6, opL, back0, pRow, pBlk, Pa.ins, Pa.del, List.cons_append, List.nil_append] at hK ⊢
 have ob := edBars_own o.bars (by omega) hbr
 have hfc := fitsVo_rd t (.msl 21 0 bs.length 14) (.int .i64 2) (.int .i64 o.part) (.int .i64 (b : Nat)) (.int .i64 o.voice) (.int .i64 o.at_) (.int .i64 o.count) (.sl 9 (o.events.map Ev.av) .none) 3 o.cells o.bars (.sl 1 (o.cells.map cellsAV) .none :: .sl 1 (o.dyns.map dynssAV) .none :: .int .i64 o.steps :: .int .i64 o.halves :: .str o.text :: back0) (by rw [hc]; simp) (fun f hf => by simp only [back0, List.map_cons, List.map_nil, AV.ren, hf 20 (by decide), hf 21 (by decide)])
 rw [show fitB 3 o.bars.length o.cells = true by rw [hc]; exact fitB_all rfl (by intro j hj; match j, hj with | 0, _ => exact hc0 | 1, _ => exact hc1 | 2, _ => exact hc2)] at hfc
 have hfd := fitsDy_rd t (.msl 21 0 bs.length 14) (.int .i64 2) (.int .i64 o.part) (.int .i64 (b : Nat)) (.int .i64 o.voice) (.int .i64 o.at_) (.int .i64 o.count) (.sl 9 (o.events.map Ev.av) .none) 3 o.dyns o.bars (.sl 1 (o.cells.map cellsAV) .none :: .sl 1 (o.dyns.map dynssAV) .none :: .int .i64 o.steps :: .int .i64 o.halves :: .str o.text :: back0) (by rw [hd]; simp) (fun f hf => by simp only [back0, List.map_cons, List.map_nil, AV.ren, hf 20 (by decide), hf 21 (by decide)])
 rw [show fitB 3 o.bars.length o.dyns = true by rw [hd]; exact fitB_all rfl (by intro j hj; match j, hj with | 0, _ => exact hd0 | 1, _ => exact hd1 | 2, _ => exact hd2)] at hfd
 simp only [back0, hc, hd, List.map_cons, List.map_nil, cellsAV, dynssAV] at hfc hfd hK ⊢
 have oc0 := edCellsF_own c0 (by omega) hs0
 have od0 := edDyns_own d0 (by omega) hy0
 have oc1 := edCellsF_own c1 (by omega) hs1
 have od1 := edDyns_own d1 (by omega) hy1
 have oc2 := edCellsF_own c2 (by omega) hs2
 have od2 := edDyns_own d2 (by omega) hy2
 rw [hm] at ob hc0 hd0 hc1 hd1 hc2 hd2
 rw [hc0] at oc0
 rw [hd0] at od0
 rw [hc1] at oc1
 rw [hd1] at od1
 rw [hc2] at oc2
 rw [hd2] at od2
 simp only [ownA_zero, ownH_zero] at ob oc0 od0 oc1 od1 oc2 od2
 simp only [hm] at hK
 have hw : IntKind.i64.wrap (((bs.length : Nat) : Int) + 1) = ((bs.length : Nat) : Int) + 1 := wrap_in (by omega)
 (refine OZ_inline hF hro mix names 2 (fn := Tryz.f18) Tryz.func18 rfl ?_; simp -implicitDefEqProofs only [Tryz.ntmps18, Tryz.results18, entL, Nat.reduceAdd, Nat.reduceSub])
 repeat' (first
  | simp -implicitDefEqProofs (maxSteps := 9999999) only [↓reduceIte, runsY, lstY, facts, Nat.reduceAdd, Nat.reduceEqDiff, Nat.reduceLeDiff, Nat.reduceMul, Int.reduceLT, Int.reduceLE, Int.reduceToNat, Int.reduceNeg, Int.reduceAdd, AV.cells, AV.one, Nat.zero_mul, ren_nilsl, hup_nil, hC_nil, dh0, hkeep_cons, hkeep_nil, kin1, wrap_in, vops_nil, vops_cons, vstep_val, vstep_skip, drawVK_at, *]
  | ((with_reducible refine v_at 37 ?_); refine vstep_own hF hro ob (rfl) ?_)
  | ((with_reducible refine v_at 52 ?_); refine vstep_wide [21] rfl (insBa_z hF hro bs o.bars b (by omega) (by omega) (by omega) (q := 21) (nx := 163)) rfl (by show 163 ≤ 164; decide) ?_)
  | ((with_reducible refine v_at 40 ?_); refine vstep_own hF hro oc0 (rfl) ?_)
  | ((with_reducible refine v_at 42 ?_); refine vstep_own hF hro od0 (rfl) ?_)
  | ((with_reducible refine v_at 40 ?_); refine vstep_own hF hro oc1 (rfl) ?_)
  | ((with_reducible refine v_at 42 ?_); refine vstep_own hF hro od1 (rfl) ?_)
  | ((with_reducible refine v_at 40 ?_); refine vstep_own hF hro oc2 (rfl) ?_)
  | ((with_reducible refine v_at 42 ?_); refine vstep_own hF hro od2 (rfl) ?_)
  | ((with_reducible refine v_at 53 ?_); first | refine vstep_wide [22] rfl (insCe_z hF hro p0.cells c0 b (by omega) (by omega) (by omega) (q := 22) (nx := 239)) rfl (by show 239 ≤ 240; decide) ?_ | refine vstep_wide [24] rfl (insCe_z hF hro p1.cells c1 b (by omega) (by omega) (by omega) (q := 24) (nx := 370)) rfl (by show 370 ≤ 371; decide) ?_ | refine vstep_wide [26] rfl (insCe_z hF hro p2.cells c2 b (by omega) (by omega) (by omega) (q := 26) (nx := 501)) rfl (by show 501 ≤ 502; decide) ?_)
  | ((with_reducible refine v_at 54 ?_); first | refine vstep_wide [23] rfl (insDy_z hF hro p0.dyns d0 b (by omega) (by omega) (by omega) (q := 23) (nx := 298)) rfl (by show 298 ≤ 299; decide) ?_ | refine vstep_wide [25] rfl (insDy_z hF hro p1.dyns d1 b (by omega) (by omega) (by omega) (q := 25) (nx := 429)) rfl (by show 429 ≤ 430; decide) ?_ | refine vstep_wide [27] rfl (insDy_z hF hro p2.dyns d2 b (by omega) (by omega) (by omega) (q := 27) (nx := 560)) rfl (by show 560 ≤ 561; decide) ?_)
  | ((with_reducible refine OZ_drawn ?_); refine OZ_drawV (by decide +kernel) ?_)
  | ((with_reducible refine wend ?_ ?_); · decide +kernel)
  | ((with_reducible refine OZ_at 45 ?_); refine PC.useZ hF (there_t _ _ (by omega)) (rfl) fun v hv => ?_; subst hv)
  | ((with_reducible refine OZ_at 50 ?_); refine OZ_call (Rd.call hF hfc (rdSub rfl) ?_))
  | ((with_reducible refine OZ_at 51 ?_); refine OZ_call (Rd.call hF hfd (rdSub rfl) ?_))
  | ((with_reducible refine OZ_lp ?_); refine OZ_unroll 4 ?_))
 all_goals exact hK
theorem barsIn3 (hK : K (.int .i64 0) ⟨pre6 B0 B1 B2 B3 B4 B5 ++ (34, .cells (.str t :: .msl 163 0 (insL bs o.bars b).length 14 :: .msl 20 0 3 5 :: opL o 2 (b : Nat) o.count ++ [.int .i64 3, .int .i64 0, .int .i64 (b : Nat), .int .i64 0, .int .i64 0, .int .i64 (o.bars.length : Nat), .sl 9 [] .full, .sl 14 [] .full, .sl 1 [] .full, .sl 1 [] .full, .int .i64 0, .int .i64 0, .str ⟨#[]⟩])) :: (20, .cells (pRow (p0.ins c0 d0 b) 239 298 ++ pRow (p1.ins c1 d1 b) 370 429 ++ pRow (p2.ins c2 d2 b) 501 560)) :: (163, .cells ((insL bs o.bars b).flatMap Ba.cells)) :: (pBlk (p0.ins c0 d0 b) 239 298 ++ pBlk (p1.ins c1 d1 b) 370 429 ++ pBlk (p2.ins c2 d2 b) 501 560), 584⟩) : (OZ F Tryz.prog gl W true 3).call 18 [.ptr 34 0] K ⟨pre6 B0 B1 B2 B3 B4 B5 ++ (34, .cells (.str t :: .msl 21 0 bs.length 14 :: .msl 20 0 3 5 :: opL o 2 (b : Nat) o.count ++ back0)) :: (20, .cells (pRow p0 22 23 ++ pRow p1 24 25 ++ pRow p2 26 27)) :: (21, .cells (bs.flatMap Ba.cells)) :: (pBlk p0 22 23 ++ pBlk p1 24 25 ++ pBlk p2 26 27), 78⟩ := by
 rcases Nat.eq_zero_or_pos o.bars.length with hm | hm
 ·exact barsIn3z t bs p0 p1 p2 o B0 B1 B2 B3 B4 B5 b hb hbl hbr c0 c1 c2 d0 d1 d2 hc hd hc0 hd0 hs0 hy0 hpc0 hpd0 hc1 hd1 hs1 hy1 hpc1 hpd1 hc2 hd2 hs2 hy2 hpc2 hpd2 hF hro hm hK
 ·exact barsIn3s t bs p0 p1 p2 o B0 B1 B2 B3 B4 B5 b hb hbl hbr hnb c0 c1 c2 d0 d1 d2 hc hd hc0 hd0 hs0 hy0 hpc0 hpd0 hc1 hd1 hs1 hy1 hpc1 hpd1 hc2 hd2 hs2 hy2 hpc2 hpd2 hF hro (o.bars.length - 1) (by omega) hK
end
end Go.Proofs.Pv
namespace Go.Proofs.Pv
open Go Go.Proofs
set_option linter.unusedSimpArgs false
set_option linter.unusedVariables false
set_option maxRecDepth 100000
set_option maxHeartbeats 8000000
section
variable (t : ByteArray) (bs : List Ba) (p0 p1 p2 p3 : Pa) (o : EOp) (B0 B1 B2 B3 B4 B5 : Blk) (b : Nat) (hb : b ≤ bs.length) (hbl : bs.length ≤ 1000) (hbr : ∀ x ∈ o.bars, x.short) (hnb : o.bars.length ≤ 1000) (c0 c1 c2 c3 : List (List Vo)) (d0 d1 d2 d3 : List (List Dy)) (hc : o.cells = [c0, c1, c2, c3]) (hd : o.dyns = [d0, d1, d2, d3]) (hc0 : c0.length = o.bars.length) (hd0 : d0.length = o.bars.length) (hs0 : ∀ c ∈ c0, cellShort c) (hy0 : ∀ d ∈ d0, d.length ≤ 1000000) (hpc0 : b ≤ p0.cells.length ∧ p0.cells.length ≤ 1000) (hpd0 : b ≤ p0.dyns.length ∧ p0.dyns.length ≤ 1000) (hc1 : c1.length = o.bars.length) (hd1 : d1.length = o.bars.length) (hs1 : ∀ c ∈ c1, cellShort c) (hy1 : ∀ d ∈ d1, d.length ≤ 1000000) (hpc1 : b ≤ p1.cells.length ∧ p1.cells.length ≤ 1000) (hpd1 : b ≤ p1.dyns.length ∧ p1.dyns.length ≤ 1000) (hc2 : c2.length = o.bars.length) (hd2 : d2.length = o.bars.length) (hs2 : ∀ c ∈ c2, cellShort c) (hy2 : ∀ d ∈ d2, d.length ≤ 1000000) (hpc2 : b ≤ p2.cells.length ∧ p2.cells.length ≤ 1000) (hpd2 : b ≤ p2.dyns.length ∧ p2.dyns.length ≤ 1000) (hc3 : c3.length = o.bars.length) (hd3 : d3.length = o.bars.length) (hs3 : ∀ c ∈ c3, cellShort c) (hy3 : ∀ d ∈ d3, d.length ≤ 1000000) (hpc3 : b ≤ p3.cells.length ∧ p3.cells.length ≤ 1000) (hpd3 : b ≤ p3.dyns.length ∧ p3.dyns.length ≤ 1000)
 {F : Fence} (hF : Free F) (hro : F.round = none) {W : World} {K : AV → St → Prop}
include hb hbl hbr hnb hc hd hc0 hd0 hs0 hy0 hpc0 hpd0 hc1 hd1 hs1 hy1 hpc1 hpd1 hc2 hd2 hs2 hy2 hpc2 hpd2 hc3 hd3 hs3 hy3 hpc3 hpd3 hF hro
theorem barsIn4s (m : Nat) (hm : o.bars.length = m + 1) (hK : K (.int .i64 0) ⟨pre6 B0 B1 B2 B3 B4 B5 ++ (34, .cells (.str t :: .msl 163 0 (insL bs o.bars b).length 14 :: .msl 20 0 4 5 :: opL o 2 (b : Nat) o.count ++ [.int .i64 3, .int .i64 0, .int .i64 (b : Nat), .int .i64 0, .int .i64 0, .int .i64 (o.bars.length : Nat), .sl 9 [] .full, .sl 14 [] .full, .sl 1 [] .full, .sl 1 [] .full, .int .i64 0, .int .i64 0, .str ⟨#[]⟩])) :: (20, .cells (pRow (p0.ins c0 d0 b) 239 298 ++ pRow (p1.ins c1 d1 b) 370 429 ++ pRow (p2.ins c2 d2 b) 501 560 ++ pRow (p3.ins c3 d3 b) 632 691)) :: (163, .cells ((insL bs o.bars b).flatMap Ba.cells)) :: (pBlk (p0.ins c0 d0 b) 239 298 ++ pBlk (p1.ins c1 d1 b) 370 429 ++ pBlk (p2.ins c2 d2 b) 501 560 ++ pBlk (p3.ins c3 d3 b) 632 691), 715⟩) : (OZ F Tryz.prog gl W true 3).call 18 [.ptr 34 0] K ⟨pre6 B0 B1 B2 B3 B4 B5 ++ (34, .cells (.str t :: .msl 21 0 bs.length 14 :: .msl 20 0 4 5 :: opL o 2 (b : Nat) o.count ++ back0)) :: (20, .cells (pRow p0 22 23 ++ pRow p1 24 25 ++ pRow p2 26 27 ++ pRow p3 28 29)) :: (21, .cells (bs.flatMap Ba.cells)) :: (pBlk p0 22 23 ++ pBlk p1 24 25 ++ pBlk p2 26 27 ++ pBlk p3 28 29), 78⟩ := by
 simp only [pre6, opL, back0, pRow, pBlk, Pa.ins, Pa.del, List.cons_append, List.nil_append] at hK ⊢
 have ob := edBars_own o.bars (by omega) hbr
 have hfc := fitsVo_rd t (.msl 21 0 bs.length 14) (.int .i64 2) (.int .i64 o.part) (.int .i64 (b : Nat)) (.int .i64 o.voice) (.int .i64 o.at_) (.int .i64 o.count) (.sl 9 (o.events.map Ev.av) .none) 4 o.cells o.bars (.sl 1 (o.cells.map cellsAV) .none :: .sl 1 (o.dyns.map dynssAV) .none :: .int .i64 o.steps :: .int .i64 o.halves :: .str o.text :: back0) (by rw [hc]; simp) (fun f hf => by simp only [back0, List.map_cons, List.map_nil, AV.ren, hf 20 (by decide), hf 21 (by decide)])
 rw [show fitB 4 o.bars.length o.cells = true by rw [hc]; exact fitB_all rfl (by intro j hj; match j, hj with | 0, _ => exact hc0 | 1, _ => exact hc1 | 2, _ => exact hc2 | 3, _ => exact hc3)] at hfc
 have hfd := fitsDy_rd t (.msl 21 0 bs.length 14) (.int .i64 2) (.int .i64 o.part) (.int .i64 (b : Nat)) (.int .i64 o.voice) (.int .i64 o.at_) (.int .i64 o.count) (.sl 9 (o.events.map Ev.av) .none) 4 o.dyns o.bars (.sl 1 (o.cells.map cellsAV) .none :: .sl 1 (o.dyns.map dynssAV) .none :: .int .i64 o.steps :: .int .i64 o.halves :: .str o.text :: back0) (by rw [hd]; simp) (fun f hf => by simp only [back0, List.map_cons, List.map_nil, AV.ren, hf 20 (by decide), hf 21 (by decide)])
 rw [show fitB 4 o.bars.length o.dyns = true by rw [hd]; exact fitB_all rfl (by intro j hj; match j, hj with | 0, _ => exact hd0 | 1, _ => exact hd1 | 2, _ => exact hd2 | 3, _ => exact hd3)] at hfd
 simp only [back0, hc, hd, List.map_cons, List.map_nil, cellsAV, dynssAV] at hfc hfd hK ⊢
 have oc0 := edCellsF_own c0 (by omega) hs0
 have od0 := edDyns_own d0 (by omega) hy0
 have oc1 := edCellsF_own c1 (by omega) hs1
 have od1 := edDyns_own d1 (by omega) hy1
 have oc2 := edCellsF_own c2 (by omega) hs2
 have od2 := edDyns_own d2 (by omega) hy2
 have oc3 := edCellsF_own c3 (by omega) hs3
 have od3 := edDyns_own d3 (by omega) hy3
 rw [hm] at ob hc0 hd0 hc1 hd1 hc2 hd2 hc3 hd3
 rw [hc0] at oc0
 rw [hd0] at od0
 rw [hc1] at oc1
 rw [hd1] at od1
 rw [hc2] at oc2
 rw [hd2] at od2
 rw [hc3] at oc3
 rw [hd3] at od3
 simp only [ownA_succ, ownH_succ] at ob oc0 od0 oc1 od1 oc2 od2 oc3 od3
 simp only [hm] at hK
 have hw : IntKind.i64.wrap (((bs.length : Nat) : Int) + 1) = ((bs.length : Nat) : Int) + 1 := wrap_in (by omega)
 (refine OZ_inline hF hro mix names 2 (fn := Tryz.f18) Tryz.func18 rfl ?_; simp -implicitDefEqProofs only [Tryz.ntmps18, Tryz.results18, entL, Nat.reduceAdd, Nat.reduceSub])
 repeat' (first
  | simp -implicitDefEqProofs (maxSteps := 9999999) only [↓reduceIte, runsY, lstY, facts, Nat.reduceAdd, Nat.reduceEqDiff, Nat.reduceLeDiff, Nat.reduceMul, Int.reduceLT, Int.reduceLE, Int.reduceToNat, Int.reduceNeg, Int.reduceAdd, AV.cells, AV.one, Nat.zero_mul, ren_up, hup_cons, hup_nil, hC_cons, hC_nil, ceRen, dyRen, baRen, dh0, hkeep_cons, hkeep_nil, kin2, wrap_in, vops_nil, vops_cons, vstep_val, vstep_skip, drawVK_at, *]
  | ((with_reducible refine v_at 37 ?_); refine vstep_own hF hro ob (rfl) ?_)
  | ((with_reducible refine v_at 52 ?_); refine vstep_wide [21, 144] rfl (insBa_s hF hro bs o.bars b (by omega) (by omega) m (by omega) (q := 21) (r := 144) (nx := 163) (by decide)) rfl (by show 163 ≤ 164; decide) ?_)
  | ((with_reducible refine v_at 40 ?_); refine vstep_own hF hro oc0 (rfl) ?_)
  | ((with_reducible refine v_at 42 ?_); refine vstep_own hF hro od0 (rfl) ?_)
  | ((with_reducible refine v_at 40 ?_); refine vstep_own hF hro oc1 (rfl) ?_)
  | ((with_reducible refine v_at 42 ?_); refine vstep_own hF hro od1 (rfl) ?_)
  | ((with_reducible refine v_at 40 ?_); refine vstep_own hF hro oc2 (rfl) ?_)
  | ((with_reducible refine v_at 42 ?_); refine vstep_own hF hro od2 (rfl) ?_)
  | ((with_reducible refine v_at 40 ?_); refine vstep_own hF hro oc3 (rfl) ?_)
  | ((with_reducible refine v_at 42 ?_); refine vstep_own hF hro od3 (rfl) ?_)
  | ((with_reducible refine v_at 53 ?_); first | refine vstep_wide [22, 219] rfl (insCe_s hF hro p0.cells c0 b (by omega) (by omega) m (by omega) (q := 22) (r := 219) (nx := 239) (by decide)) rfl (by show 239 ≤ 240; decide) ?_ | refine vstep_wide [24, 350] rfl (insCe_s hF hro p1.cells c1 b (by omega) (by omega) m (by omega) (q := 24) (r := 350) (nx := 370) (by decide)) rfl (by show 370 ≤ 371; decide) ?_ | refine vstep_wide [26, 481] rfl (insCe_s hF hro p2.cells c2 b (by omega) (by omega) m (by omega) (q := 26) (r := 481) (nx := 501) (by decide)) rfl (by show 501 ≤ 502; decide) ?_ | refine vstep_wide [28, 612] rfl (insCe_s hF hro p3.cells c3 b (by omega) (by omega) m (by omega) (q := 28) (r := 612) (nx := 632) (by decide)) rfl (by show 632 ≤ 633; decide) ?_)
  | ((with_reducible refine v_at 54 ?_); first | refine vstep_wide [23, 278] rfl (insDy_s hF hro p0.dyns d0 b (by omega) (by omega) m (by omega) (q := 23) (r := 278) (nx := 298) (by decide)) rfl (by show 298 ≤ 299; decide) ?_ | refine vstep_wide [25, 409] rfl (insDy_s hF hro p1.dyns d1 b (by omega) (by omega) m (by omega) (q := 25) (r := 409) (nx := 429) (by decide)) rfl (by show 429 ≤ 430; decide) ?_ | refine vstep_wide [27, 540] rfl (insDy_s hF hro p2.dyns d2 b (by omega) (by omega) m (by omega) (q := 27) (r := 540) (nx := 560) (by decide)) rfl (by show 560 ≤ 561; decide) ?_ | refine vstep_wide [29, 671] rfl (insDy_s hF hro p3.dyns d3 b (by omega) (by omega) m (by omega) (q := 29) (r := 671) (nx := 691) (by decide)) rfl (by show 691 ≤ 692; decide) ?_)
  | ((with_reducible refine OZ_drawn ?_); refine OZ_drawV (by decide +kernel) ?_)
  | ((with_reducible refine wend ?_ ?_); · decide +kernel)
  | ((with_reducible refine wend1 ?_); kernel_rfl)
  | ((with_reducible refine OZ_at 45 ?_); refine PC.useZ hF (there_t _ _ (by omega)) (rfl) fun v hv => ?_; subst hv)
  | ((with_reducible refine OZ_at 50 ?_); refine OZ_call (Rd.call hF hfc (rdSub rfl) ?_))
  | ((with_reducible refine OZ_at 51 ?_); refine OZ_call (Rd.call hF hfd (rdSub rfl) ?_))
  | ((with_reducible refine OZ_lp ?_); refine OZ_unroll 5 ?_))
 all_goals exact hK
omit hnb in
theorem barsIn4z (hm : o.bars.length = 0) (hK : K (.int .i64 0) ⟨pre6 B0 B1 B2 B3 B4 B5 ++ (34, .cells (.str t :: .msl 163 0 (insL bs o.bars b).length 14 :: .msl 20 0 4 5 :: opL o 2 (b : Nat) o.count ++ [.int .i64 3, .int .i64 0, .int .i64 (b : Nat), .int .i64 0, .int .i64 0, .int .i64 (o.bars.length : Nat), .sl 9 [] .full, .sl 14 [] .full, .sl 1 [] .full, .sl 1 [] .full, .int .i64 0, .int .i64 0, .str ⟨#[]⟩])) :: (20, .cells (pRow (p0.ins c0 d0 b) 239 298 ++ pRow (p1.ins c1 d1 b) 370 429 ++ pRow (p2.ins c2 d2 b) 501 560 ++ pRow (p3.ins c3 d3 b) 632 691)) :: (163, .cells ((insL bs o.bars b).flatMap Ba.cells)) :: (pBlk (p0.ins c0 d0 b) 239 298 ++ pBlk (p1.ins c1 d1 b) 370 429 ++ pBlk (p2.ins c2 d2 b) 501 560 ++ pBlk (p3.ins c3 d3 b) 632 691), 715⟩) : (OZ F Tryz.prog gl W true 3).call 18 [.ptr 34 0] K ⟨pre6 B0 B1 B2 B3 B4 B5 ++ (34, .cells (.str t :: .msl 21 0 bs.length 14 :: .msl 20 0 4 5 :: opL o 2 (b : Nat) o.count ++ back0)) :: (20, .cells (pRow p0 22 23 ++ pRow p1 24 25 ++ pRow p2 26 27 ++ pRow p3 28 29)) :: (21, .cells (bs.flatMap Ba.cells)) :: (pBlk p0 22 23 ++ pBlk p1 24 25 ++ pBlk p2 26 27 ++ pBlk p3 28 29), 78⟩ := by
 simp only [pre6, opL, back0, pRow, pBlk, Pa.ins, Pa.del, List.cons_append, List.nil_append] at hK ⊢
 have ob := edBars_own o.bars (by omega) hbr
 have hfc := fitsVo_rd t (.msl 21 0 bs.length 14) (.int .i64 2) (.int .i64 o.part) (.int .i64 (b : Nat)) (.int .i64 o.voice) (.int .i64 o.at_) (.int .i64 o.count) (.sl 9 (o.events.map Ev.av) .none) 4 o.cells o.bars (.sl 1 (o.cells.map cellsAV) .none :: .sl 1 (o.dyns.map dynssAV) .none :: .int .i64 o.steps :: .int .i64 o.halves :: .str o.text :: back0) (by rw [hc]; simp) (fun f hf => by simp only [back0, List.map_cons, List.map_nil, AV.ren, hf 20 (by decide), hf 21 (by decide)])
 rw [show fitB 4 o.bars.length o.cells = true by rw [hc]; exact fitB_all rfl (by intro j hj; match j, hj with | 0, _ => exact hc0 | 1, _ => exact hc1 | 2, _ => exact hc2 | 3, _ => exact hc3)] at hfc
 have hfd := fitsDy_rd t (.msl 21 0 bs.length 14) (.int .i64 2) (.int .i64 o.part) (.int .i64 (b : Nat)) (.int .i64 o.voice) (.int .i64 o.at_) (.int .i64 o.count) (.sl 9 (o.events.map Ev.av) .none) 4 o.dyns o.bars (.sl 1 (o.cells.map cellsAV) .none :: .sl 1 (o.dyns.map dynssAV) .none :: .int .i64 o.steps :: .int .i64 o.halves :: .str o.text :: back0) (by rw [hd]; simp) (fun f hf => by simp only [back0, List.map_cons, List.map_nil, AV.ren, hf 20 (by decide), hf 21 (by decide)])
 rw [show fitB 4 o.bars.length o.dyns = true by rw [hd]; exact fitB_all rfl (by intro j hj; match j, hj with | 0, _ => exact hd0 | 1, _ => exact hd1 | 2, _ => exact hd2 | 3, _ => exact hd3)] at hfd
 simp only [back0, hc, hd, List.map_cons, List.map_nil, cellsAV, dynssAV] at hfc hfd hK ⊢
 have oc0 := edCellsF_own c0 (by omega) hs0
 have od0 := edDyns_own d0 (by omega) hy0
 have oc1 := edCellsF_own c1 (by omega) hs1
 have od1 := edDyns_own d1 (by omega) hy1
 have oc2 := edCellsF_own c2 (by omega) hs2
 have od2 := edDyns_own d2 (by omega) hy2
 have oc3 := edCellsF_own c3 (by omega) hs3
 have od3 := edDyns_own d3 (by omega) hy3
 rw [hm] at ob hc0 hd0 hc1 hd1 hc2 hd2 hc3 hd3
 rw [hc0] at oc0
 rw [hd0] at od0
 rw [hc1] at oc1
 rw [hd1] at od1
 rw [hc2] at oc2
 rw [hd2] at od2
 rw [hc3] at oc3
 rw [hd3] at od3
 simp only [ownA_zero, ownH_zero] at ob oc0 od0 oc1 od1 oc2 od2 oc3 od3
 simp only [hm] at hK
 have hw : IntKind.i64.wrap (((bs.length : Nat) : Int) + 1) = ((bs.length : Nat) : Int) + 1 := wrap_in (by omega)
 (refine OZ_inline hF hro mix names 2 (fn := Tryz.f18) Tryz.func18 rfl ?_; simp -implicitDefEqProofs only [Tryz.ntmps18, Tryz.results18, entL, Nat.reduceAdd, Nat.reduceSub])
 repeat' (first
  | simp -implicitDefEqProofs (maxSteps := 9999999) only [↓reduceIte, runsY, lstY, facts, Nat.reduceAdd, Nat.reduceEqDiff, Nat.reduceLeDiff, Nat.reduceMul, Int.reduceLT, Int.reduceLE, Int.reduceToNat, Int.reduceNeg, Int.reduceAdd, AV.cells, AV.one, Nat.zero_mul, ren_nilsl, hup_nil, hC_nil, dh0, hkeep_cons, hkeep_nil, kin1, wrap_in, vops_nil, vops_cons, vstep_val, vstep_skip, drawVK_at, *]
  | ((with_reducible refine v_at 37 ?_); refine vstep_own hF hro ob (rfl) ?_)
  | ((with_reducible refine v_at 52 ?_); refine vstep_wide [21] rfl (insBa_z hF hro bs o.bars b (by omega) (by omega) (by omega) (q := 21) (nx := 163)) rfl (by show 163 ≤ 164; decide) ?_)
  | ((with_reducible refine v_at 40 ?_); refine vstep_own hF hro oc0 (rfl) ?_)
  | ((with_reducible refine v_at 42 ?_); refine vstep_own hF hro od0 (rfl) ?_)
  | ((with_reducible refine v_at 40 ?_); refine vstep_own hF hro oc1 (rfl) ?_)
  | ((with_reducible refine v_at 42 ?_); refine vstep_own hF hro od1 (rfl) ?_)
  | ((with_reducible refine v_at 40 ?_); refine vstep_own hF hro oc2 (rfl) ?_)
  | ((with_reducible refine v_at 42 ?_); refine vstep_own hF hro od2 (rfl) ?_)
  | ((with_reducible refine v_at 40 ?_); refine vstep_own hF hro oc3 (rfl) ?_)
  | ((with_reducible refine v_at 42 ?_); refine vstep_own hF hro od3 (rfl) ?_)
  | ((with_reducible refine v_at 53 ?_); first | refine vstep_wide [22] rfl (insCe_z hF hro p0.cells c0 b (by omega) (by omega) (by omega) (q := 22) (nx := 239)) rfl (by show 239 ≤ 240; decide) ?_ | refine vstep_wide [24] rfl (insCe_z hF hro p1.cells c1 b (by omega) (by omega) (by omega) (q := 24) (nx := 370)) rfl (by show 370 ≤ 371; decide) ?_ | refine vstep_wide [26] rfl (insCe_z hF hro p2.cells c2 b (by omega) (by omega) (by omega) (q := 26) (nx := 501)) rfl (by show 501 ≤ 502; decide) ?_ | refine vstep_wide [28] rfl (insCe_z hF hro p3.cells c3 b (by omega) (by omega) (by omega) (q := 28) (nx := 632)) rfl (by show 632 ≤ 633; decide) ?_)
  | ((with_reducible refine v_at 54 ?_); first | refine vstep_wide [23] rfl (insDy_z hF hro p0.dyns d0 b (by omega) (by omega) (by omega) (q := 23) (nx := 298)) rfl (by show 298 ≤ 299; decide) ?_ | refine vstep_wide [25] rfl (insDy_z hF hro p1.dyns d1 b (by omega) (by omega) (by omega) (q := 25) (nx := 429)) rfl (by show 429 ≤ 430; decide) ?_ | refine vstep_wide [27] rfl (insDy_z hF hro p2.dyns d2 b (by omega) (by omega) (by omega) (q := 27) (nx := 560)) rfl (by show 560 ≤ 561; decide) ?_ | refine vstep_wide [29] rfl (insDy_z hF hro p3.dyns d3 b (by omega) (by omega) (by omega) (q := 29) (nx := 691)) rfl (by show 691 ≤ 692; decide) ?_)
  | ((with_reducible refine OZ_drawn ?_); refine OZ_drawV (by decide +kernel) ?_)
  | ((with_reducible refine wend ?_ ?_); · decide +kernel)
  | ((with_reducible refine OZ_at 45 ?_); refine PC.useZ hF (there_t _ _ (by omega)) (rfl) fun v hv => ?_; subst hv)
  | ((with_reducible refine OZ_at 50 ?_); refine OZ_call (Rd.call hF hfc (rdSub rfl) ?_))
  | ((with_reducible refine OZ_at 51 ?_); refine OZ_call (Rd.call hF hfd (rdSub rfl) ?_))
  | ((with_reducible refine OZ_lp ?_); refine OZ_unroll 5 ?_))
 all_goals exact hK
theorem barsIn4 (hK : K (.int .i64 0) ⟨pre6 B0 B1 B2 B3 B4 B5 ++ (34, .cells (.str t :: .msl 163 0 (insL bs o.bars b).length 14 :: .msl 20 0 4 5 :: opL o 2 (b : Nat) o.count ++ [.int .i64 3, .int .i64 0, .int .i64 (b : Nat), .int .i64 0, .int .i64 0, .int .i64 (o.bars.length : Nat), .sl 9 [] .full, .sl 14 [] .full, .sl 1 [] .full, .sl 1 [] .full, .int .i64 0, .int .i64 0, .str ⟨#[]⟩])) :: (20, .cells (pRow (p0.ins c0 d0 b) 239 298 ++ pRow (p1.ins c1 d1 b) 370 429 ++ pRow (p2.ins c2 d2 b) 501 560 ++ pRow (p3.ins c3 d3 b) 632 691)) :: (163, .cells ((insL bs o.bars b).flatMap Ba.cells)) :: (pBlk (p0.ins c0 d0 b) 239 298 ++ pBlk (p1.ins c1 d1 b) 370 429 ++ pBlk (p2.ins c2 d2 b) 501 560 ++ pBlk (p3.ins c3 d3 b) 632 691), 715⟩) : (OZ F Tryz.prog gl W true 3).call 18 [.ptr 34 0] K ⟨pre6 B0 B1 B2 B3 B4 B5 ++ (34, .cells (.str t :: .msl 21 0 bs.length 14 :: .msl 20 0 4 5 :: opL o 2 (b : Nat) o.count ++ back0)) :: (20, .cells (pRow p0 22 23 ++ pRow p1 24 25 ++ pRow p2 26 27 ++ pRow p3 28 29)) :: (21, .cells (bs.flatMap Ba.cells)) :: (pBlk p0 22 23 ++ pBlk p1 24 25 ++ pBlk p2 26 27 ++ pBlk p3 28 29), 78⟩ := by
 rcases Nat.eq_zero_or_pos o.bars.length with hm | hm
 ·exact barsIn4z t bs p0 p1 p2 p3 o B0 B1 B2 B3 B4 B5 b hb hbl hbr c0 c1 c2 c3 d0 d1 d2 d3 hc hd hc0 hd0 hs0 hy0 hpc0 hpd0 hc1 hd1 hs1 hy1 hpc1 hpd1 hc2 hd2 hs2 hy2 hpc2 hpd2 hc3 hd3 hs3 hy3 hpc3 hpd3 hF hro hm hK
 ·exact barsIn4s t bs p0 p1 p2 p3 o B0 B1 B2 B3 B4 B5 b hb hbl hbr hnb c0 c1 c2 c3 d0 d1 d2 d3 hc hd hc0 hd0 hs0 hy0 hpc0 hpd0 hc1 hd1 hs1 hy1 hpc1 hpd1 hc2 hd2 hs2 hy2 hpc2 hpd2 hc3 hd3 hs3 hy3 hpc3 hpd3 hF hro (o.bars.length - 1) (by omega) hK
end
end Go.Proofs.Pv
