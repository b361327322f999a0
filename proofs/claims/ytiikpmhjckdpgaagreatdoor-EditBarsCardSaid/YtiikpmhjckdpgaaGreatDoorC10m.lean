/-
  Layer 9's edits: the method barsOut, among the blocks of a copied score of 1 parts.
  Layer 9's edits: the method barsOut, among the blocks of a copied score of 2 parts.
  Layer 9's edits: the method barsOut, among the blocks of a copied score of 3 parts.
  Layer 9's edits: the method barsOut, among the blocks of a copied score of 4 parts.
  Conditions: none but those that each statement names.
-/
import Derived.Test.YtiikpmhjckdpgaaGreatDoorC10c
import Derived.Test.YtiikpmhjckdpgaaGreatDoorC10k
import Derived.Test.YtiikpmhjckdpgaaGreatDoorC09k
namespace Go.Proofs.Pv
open Go Go.Proofs
set_option linter.unusedSimpArgs false
set_option linter.unusedVariables false
set_option maxRecDepth 100000
set_option maxHeartbeats 8000000
section
variable (t : ByteArray) (bs : List Ba) (p0 : Pa) (o : EOp) (B0 B1 B2 B3 B4 B5 : Blk) (b c : Nat) (hb : b + c ≤ bs.length) (hbl : bs.length ≤ 1000) (hpc0 : b + c ≤ p0.cells.length ∧ p0.cells.length ≤ 1000) (hpd0 : b + c ≤ p0.dyns.length ∧ p0.dyns.length ≤ 1000)
 {F : Fence} (hF : Free F) (hro : F.round = none) {W : World} {K : AV → St → Prop}
include hb hbl hpc0 hpd0 hF hro
theorem barsOut1s (hlt : b < bs.length) (hlc0 : b < p0.cells.length) (hld0 : b < p0.dyns.length) (hK : K (.int .i64 0) ⟨(190, .tok) :: (168, .tok) :: pre6 B0 B1 B2 B3 B4 B5 ++ (34, .cells (.str t :: .msl 128 0 (delL bs b c).length 14 :: .msl 20 0 1 5 :: opL o 3 (b : Nat) (c : Nat) ++ [.int .i64 2, .int .i64 0, .int .i64 (b : Nat), .int .i64 0, .int .i64 0, .int .i64 0, .sl 9 [] .full, .sl 14 (((bs.drop b).take c).map Ba.av) .none, .sl 1 [.sl 1 (((p0.cells.drop b).take c).map cellAV) .none] (.tok 168), .sl 1 [.sl 1 (((p0.dyns.drop b).take c).map dynsAV) .none] (.tok 190), .int .i64 0, .int .i64 0, .str ⟨#[]⟩])) :: (20, .cells (pRow (p0.del b c) 204 217)) :: (128, .cells ((delL bs b c).flatMap Ba.cells)) :: (pBlk (p0.del b c) 204 217), 225⟩) : (OZ F Tryz.prog gl W true 3).call 19 [.ptr 34 0] K ⟨pre6 B0 B1 B2 B3 B4 B5 ++ (34, .cells (.str t :: .msl 21 0 bs.length 14 :: .msl 20 0 1 5 :: opL o 3 (b : Nat) (c : Nat) ++ back0)) :: (20, .cells (pRow p0 22 23)) :: (21, .cells (bs.flatMap Ba.cells)) :: (pBlk p0 22 23), 78⟩ := by
 simp only [pre6, opL, back0, pRow, pBlk, Pa.ins, Pa.del, List.cons_append, List.nil_append] at hK ⊢
 have hw : IntKind.i64.wrap (((b : Nat) : Int) + ((c : Nat) : Int)) = ((b + c : Nat) : Int) := by rw [wrap_in (by omega)]; rfl
 have k1 : ((b : Nat) : Int) ≤ ((b + c : Nat) : Int) := by omega
 have k2 : ((b + c : Nat) : Int) ≤ ((bs.length : Nat) : Int) := by omega
 have hsub : b + c - b = c := by omega
 have k3 : (0 : Int) ≤ ((b : Nat) : Int) := by omega
 have kl : ((b : Nat) : Int) < ((bs.length : Nat) : Int) := by omega
 have kc0 : ((b + c : Nat) : Int) ≤ ((p0.cells.length : Nat) : Int) := by omega
 have kd0 : ((b + c : Nat) : Int) ≤ ((p0.dyns.length : Nat) : Int) := by omega
 have lc0 : ((b : Nat) : Int) < ((p0.cells.length : Nat) : Int) := by omega
 have ld0 : ((b : Nat) : Int) < ((p0.dyns.length : Nat) : Int) := by omega
 (refine OZ_inline hF hro mix names 2 (fn := Tryz.f19) Tryz.func19 rfl ?_; simp -implicitDefEqProofs only [Tryz.ntmps19, Tryz.results19, entL, Nat.reduceAdd, Nat.reduceSub])
 repeat' (first
  | simp -implicitDefEqProofs (maxSteps := 9999999) only [↓reduceIte, runsY, lstY, facts, Nat.reduceAdd, Nat.reduceEqDiff, Nat.reduceLT, Nat.reduceLeDiff, Int.reduceLT, Int.reduceLE, Int.reduceNeg, Int.reduceAdd, List.flatMap_cons, List.flatMap_nil, AV.cells, Option.map_none, AV.one, bnd, Nat.zero_mul, wrap_in, dh0, hk0_cons, hk0_nil, vops_nil, vops_cons, vstep_val, vstep_skip, drawVK_at, *]
  | ((with_reducible refine v_at 57 ?_); refine vstep_rd [22] _ (cloneCe_rd p0.cells b c (by omega) (by omega) 22 (by decide)) (rd_sub ⟨⟨rfl, rfl⟩, trivial⟩) ?_)
  | ((with_reducible refine v_at 58 ?_); refine vstep_rd [23] _ (cloneDy_rd p0.dyns b c (by omega) (by omega) 23 (by decide)) (rd_sub ⟨⟨rfl, rfl⟩, trivial⟩) ?_)
  | ((with_reducible refine OZ_drawn ?_); refine OZ_drawV (by decide +kernel) ?_)
  | ((with_reducible refine wend ?_ ?_); · decide +kernel)
  | ((with_reducible refine OZ_at 46 ?_); refine PC.useZ hF (span_t _ _ _ (by omega) (by omega)) (rfl) fun v hv => ?_; subst hv)
  | ((with_reducible refine OZ_at 55 ?_); refine OZ_call (Rd.call hF (cloneBa_rd bs b c (by omega) (by omega) 21 (by decide)) (rdSub rfl) ?_))
  | ((with_reducible refine OZ_at 56 ?_); refine OZ_frame1 (q := 21) rfl (delBa_s hF hro bs b c (by omega) (by omega)) ?_)
  | ((with_reducible refine OZ_at 59 ?_); refine OZ_frame1 (q := 22) rfl (delCe_s hF hro p0.cells b c (by omega) (by omega)) ?_)
  | ((with_reducible refine OZ_at 60 ?_); refine OZ_frame1 (q := 23) rfl (delDy_s hF hro p0.dyns b c (by omega) (by omega)) ?_)
  | ((with_reducible refine OZ_lp ?_); refine OZ_unroll 2 ?_))
 all_goals exact hK
theorem barsOut1e (hlt : ¬ b < bs.length) (hlc0 : ¬ b < p0.cells.length) (hld0 : ¬ b < p0.dyns.length) (hK : K (.int .i64 0) ⟨(190, .tok) :: (168, .tok) :: pre6 B0 B1 B2 B3 B4 B5 ++ (34, .cells (.str t :: .msl 128 0 (delL bs b c).length 14 :: .msl 20 0 1 5 :: opL o 3 (b : Nat) (c : Nat) ++ [.int .i64 2, .int .i64 0, .int .i64 (b : Nat), .int .i64 0, .int .i64 0, .int .i64 0, .sl 9 [] .full, .sl 14 (((bs.drop b).take c).map Ba.av) .none, .sl 1 [.sl 1 (((p0.cells.drop b).take c).map cellAV) .none] (.tok 168), .sl 1 [.sl 1 (((p0.dyns.drop b).take c).map dynsAV) .none] (.tok 190), .int .i64 0, .int .i64 0, .str ⟨#[]⟩])) :: (20, .cells (pRow (p0.del b c) 204 217)) :: (128, .cells ((delL bs b c).flatMap Ba.cells)) :: (pBlk (p0.del b c) 204 217), 225⟩) : (OZ F Tryz.prog gl W true 3).call 19 [.ptr 34 0] K ⟨pre6 B0 B1 B2 B3 B4 B5 ++ (34, .cells (.str t :: .msl 21 0 bs.length 14 :: .msl 20 0 1 5 :: opL o 3 (b : Nat) (c : Nat) ++ back0)) :: (20, .cells (pRow p0 22 23)) :: (21, .cells (bs.flatMap Ba.cells)) :: (pBlk p0 22 23), 78⟩ := by
 simp only [pre6, opL, back0, pRow, pBlk, Pa.ins, Pa.del, List.cons_append, List.nil_append] at hK ⊢
 have hw : IntKind.i64.wrap (((b : Nat) : Int) + ((c : Nat) : Int)) = ((b + c : Nat) : Int) := by rw [wrap_in (by omega)]; rfl
 have k1 : ((b : Nat) : Int) ≤ ((b + c : Nat) : Int) := by omega
 have k2 : ((b + c : Nat) : Int) ≤ ((bs.length : Nat) : Int) := by omega
 have hsub : b + c - b = c := by omega
 have k3 : (0 : Int) ≤ ((b : Nat) : Int) := by omega
 have kl : ¬ ((b : Nat) : Int) < ((bs.length : Nat) : Int) := by omega
 have kc0 : ((b + c : Nat) : Int) ≤ ((p0.cells.length : Nat) : Int) := by omega
 have kd0 : ((b + c : Nat) : Int) ≤ ((p0.dyns.length : Nat) : Int) := by omega
 have lc0 : ¬ ((b : Nat) : Int) < ((p0.cells.length : Nat) : Int) := by omega
 have ld0 : ¬ ((b : Nat) : Int) < ((p0.dyns.length : Nat) : Int) := by omega
 have ke : (((b : Nat) : Int) = ((b + c : Nat) : Int)) = True := by simp only [eq_iff_iff, iff_true]; omega
 have hz : c = 0 := by omega
 rw [show ((bs.drop b).take c).map Ba.av = [] by rw [hz]; rfl, show ((p0.cells.drop b).take c).map cellAV = [] by rw [hz]; rfl, show ((p0.dyns.drop b).take c).map dynsAV = [] by rw [hz]; rfl] at hK
 clear hz
 (refine OZ_inline hF hro mix names 2 (fn := Tryz.f19) Tryz.func19 rfl ?_; simp -implicitDefEqProofs only [Tryz.ntmps19, Tryz.results19, entL, Nat.reduceAdd, Nat.reduceSub])
 repeat' (first
  | simp -implicitDefEqProofs (maxSteps := 9999999) only [↓reduceIte, runsY, lstY, facts, Nat.reduceAdd, Nat.reduceEqDiff, Nat.reduceLT, Nat.reduceLeDiff, Int.reduceLT, Int.reduceLE, Int.reduceNeg, Int.reduceAdd, List.flatMap_cons, List.flatMap_nil, AV.cells, Option.map_none, AV.one, bnd, Nat.zero_mul, wrap_in, dh0, hk0_cons, hk0_nil, vops_nil, vops_cons, vstep_val, vstep_skip, drawVK_at, *]
  | ((with_reducible refine v_at 57 ?_); refine vstep_rd [] _ (cloneCe0 []) (rd_sub (hl := []) trivial) ?_)
  | ((with_reducible refine v_at 58 ?_); refine vstep_rd [] _ (cloneDy0 []) (rd_sub (hl := []) trivial) ?_)
  | ((with_reducible refine OZ_drawn ?_); refine OZ_drawV (by decide +kernel) ?_)
  | ((with_reducible refine wend ?_ ?_); · decide +kernel)
  | ((with_reducible refine OZ_at 46 ?_); refine PC.useZ hF (span_t _ _ _ (by omega) (by omega)) (rfl) fun v hv => ?_; subst hv)
  | ((with_reducible refine OZ_at 55 ?_); refine OZ_call (Rd.call hF (cloneBa0 []) (fun k b h => by simp [hget] at h) ?_))
  | ((with_reducible refine OZ_at 56 ?_); refine OZ_frame1 (q := 21) rfl (delBa_s hF hro bs b c (by omega) (by omega)) ?_)
  | ((with_reducible refine OZ_at 59 ?_); refine OZ_frame1 (q := 22) rfl (delCe_s hF hro p0.cells b c (by omega) (by omega)) ?_)
  | ((with_reducible refine OZ_at 60 ?_); refine OZ_frame1 (q := 23) rfl (delDy_s hF hro p0.dyns b c (by omega) (by omega)) ?_)
  | ((with_reducible refine OZ_lp ?_); refine OZ_unroll 2 ?_))
 all_goals exact hK
theorem barsOut1 (ha0 : p0.cells.length = bs.length) (hb0 : p0.dyns.length = bs.length) (hK : K (.int .i64 0) ⟨(190, .tok) :: (168, .tok) :: pre6 B0 B1 B2 B3 B4 B5 ++ (34, .cells (.str t :: .msl 128 0 (delL bs b c).length 14 :: .msl 20 0 1 5 :: opL o 3 (b : Nat) (c : Nat) ++ [.int .i64 2, .int .i64 0, .int .i64 (b : Nat), .int .i64 0, .int .i64 0, .int .i64 0, .sl 9 [] .full, .sl 14 (((bs.drop b).take c).map Ba.av) .none, .sl 1 [.sl 1 (((p0.cells.drop b).take c).map cellAV) .none] (.tok 168), .sl 1 [.sl 1 (((p0.dyns.drop b).take c).map dynsAV) .none] (.tok 190), .int .i64 0, .int .i64 0, .str ⟨#[]⟩])) :: (20, .cells (pRow (p0.del b c) 204 217)) :: (128, .cells ((delL bs b c).flatMap Ba.cells)) :: (pBlk (p0.del b c) 204 217), 225⟩) : (OZ F Tryz.prog gl W true 3).call 19 [.ptr 34 0] K ⟨pre6 B0 B1 B2 B3 B4 B5 ++ (34, .cells (.str t :: .msl 21 0 bs.length 14 :: .msl 20 0 1 5 :: opL o 3 (b : Nat) (c : Nat) ++ back0)) :: (20, .cells (pRow p0 22 23)) :: (21, .cells (bs.flatMap Ba.cells)) :: (pBlk p0 22 23), 78⟩ := by
 by_cases hlt : b < bs.length
 ·exact barsOut1s t bs p0 o B0 B1 B2 B3 B4 B5 b c hb hbl hpc0 hpd0 hF hro hlt (by omega) (by omega) hK
 ·exact barsOut1e t bs p0 o B0 B1 B2 B3 B4 B5 b c hb hbl hpc0 hpd0 hF hro hlt (by omega) (by omega) hK
end
end Go.Proofs.Pv
namespace Go.Proofs.Pv
open Go Go.Proofs
set_option linter.unusedSimpArgs false
set_option linter.unusedVariables false
set_option maxRecDepth 100000
set_option maxHeartbeats 8000000
section
variable (t : ByteArray) (bs : List Ba) (p0 p1 : Pa) (o : EOp) (B0 B1 B2 B3 B4 B5 : Blk) (b c : Nat) (hb : b + c ≤ bs.length) (hbl : bs.length ≤ 1000) (hpc0 : b + c ≤ p0.cells.length ∧ p0.cells.length ≤ 1000) (hpd0 : b + c ≤ p0.dyns.length ∧ p0.dyns.length ≤ 1000) (hpc1 : b + c ≤ p1.cells.length ∧ p1.cells.length ≤ 1000) (hpd1 : b + c ≤ p1.dyns.length ∧ p1.dyns.length ≤ 1000)
 {F : Fence} (hF : Free F) (hro : F.round = none) {W : World} {K : AV → St → Prop}
include hb hbl hpc0 hpd0 hpc1 hpd1 hF hro
theorem barsOut2s (hlt : b < bs.length) (hlc0 : b < p0.cells.length) (hld0 : b < p0.dyns.length) (hlc1 : b < p1.cells.length) (hld1 : b < p1.dyns.length) (hK : K (.int .i64 0) ⟨(273, .tok) :: (251, .tok) :: pre6 B0 B1 B2 B3 B4 B5 ++ (34, .cells (.str t :: .msl 128 0 (delL bs b c).length 14 :: .msl 20 0 2 5 :: opL o 3 (b : Nat) (c : Nat) ++ [.int .i64 2, .int .i64 0, .int .i64 (b : Nat), .int .i64 0, .int .i64 0, .int .i64 0, .sl 9 [] .full, .sl 14 (((bs.drop b).take c).map Ba.av) .none, .sl 1 [.sl 1 (((p0.cells.drop b).take c).map cellAV) .none, .sl 1 (((p1.cells.drop b).take c).map cellAV) .none] (.tok 251), .sl 1 [.sl 1 (((p0.dyns.drop b).take c).map dynsAV) .none, .sl 1 (((p1.dyns.drop b).take c).map dynsAV) .none] (.tok 273), .int .i64 0, .int .i64 0, .str ⟨#[]⟩])) :: (20, .cells (pRow (p0.del b c) 204 217 ++ pRow (p1.del b c) 287 300)) :: (128, .cells ((delL bs b c).flatMap Ba.cells)) :: (pBlk (p0.del b c) 204 217 ++ pBlk (p1.del b c) 287 300), 308⟩) : (OZ F Tryz.prog gl W true 3).call 19 [.ptr 34 0] K ⟨pre6 B0 B1 B2 B3 B4 B5 ++ (34, .cells (.str t :: .msl 21 0 bs.length 14 :: .msl 20 0 2 5 :: opL o 3 (b : Nat) (c : Nat) ++ back0)) :: (20, .cells (pRow p0 22 23 ++ pRow p1 24 25)) :: (21, .cells (bs.flatMap Ba.cells)) :: (pBlk p0 22 23 ++ pBlk p1 24 25), 78⟩ := by
 simp only [pre6, opL, back0, pRow, pBlk, Pa.ins, Pa.del, List.cons_append, List.nil_append] at hK ⊢
 have hw : IntKind.i64.wrap (((b : Nat) : Int) + ((c : Nat) : Int)) = ((b + c : Nat) : Int) := by rw [wrap_in (by omega)]; rfl
 have k1 : ((b : Nat) : Int) ≤ ((b + c : Nat) : Int) := by omega
 have k2 : ((b + c : Nat) : Int) ≤ ((bs.length : Nat) : Int) := by omega
 have hsub : b + c - b = c := by omega
 have k3 : (0 : Int) ≤ ((b : Nat) : Int) := by omega
 have kl : ((b : Nat) : Int) < ((bs.length : Nat) : Int) := by omega
 have kc0 : ((b + c : Nat) : Int) ≤ ((p0.cells.length : Nat) : Int) := by omega
 have kd0 : ((b + c : Nat) : Int) ≤ ((p0.dyns.length : Nat) : Int) := by omega
 have lc0 : ((b : Nat) : Int) < ((p0.cells.length : Nat) : Int) := by omega
 have ld0 : ((b : Nat) : Int) < ((p0.dyns.length : Nat) : Int) := by omega
 have kc1 : ((b + c : Nat) : Int) ≤ ((p1.cells.length : Nat) : Int) := by omega
 have kd1 : ((b + c : Nat) : Int) ≤ ((p1.dyns.length : Nat) : Int) := by omega
 have lc1 : ((b : Nat) : Int) < ((p1.cells.length : Nat) : Int) := by omega
 have ld1 : ((b : Nat) : Int) < ((p1.dyns.length : Nat) : Int) := by omega
 (refine OZ_inline hF hro mix names 2 (fn := Tryz.f19) Tryz.func19 rfl ?_; simp -implicitDefEqProofs only [Tryz.ntmps19, Tryz.results19, entL, Nat.reduceAdd, Nat.reduceSub])
 repeat' (first
  | simp -implicitDefEqProofs (maxSteps := 9999999) only [↓reduceIte, runsY, lstY, facts, Nat.reduceAdd, Nat.reduceEqDiff, Nat.reduceLT, Nat.reduceLeDiff, Nat.reduceMul, Int.reduceLT, Int.reduceLE, Int.reduceToNat, Int.reduceNeg, Int.reduceAdd, List.flatMap_cons, List.flatMap_nil, AV.cells, Option.map_none, AV.one, bnd, Nat.zero_mul, wrap_in, dh0, hk0_cons, hk0_nil, vops_nil, vops_cons, vstep_val, vstep_skip, drawVK_at, *]
  | ((with_reducible refine v_at 57 ?_); first | refine vstep_rd [22] _ (cloneCe_rd p0.cells b c (by omega) (by omega) 22 (by decide)) (rd_sub ⟨⟨rfl, rfl⟩, trivial⟩) ?_ | refine vstep_rd [24] _ (cloneCe_rd p1.cells b c (by omega) (by omega) 24 (by decide)) (rd_sub ⟨⟨rfl, rfl⟩, trivial⟩) ?_)
  | ((with_reducible refine v_at 58 ?_); first | refine vstep_rd [23] _ (cloneDy_rd p0.dyns b c (by omega) (by omega) 23 (by decide)) (rd_sub ⟨⟨rfl, rfl⟩, trivial⟩) ?_ | refine vstep_rd [25] _ (cloneDy_rd p1.dyns b c (by omega) (by omega) 25 (by decide)) (rd_sub ⟨⟨rfl, rfl⟩, trivial⟩) ?_)
  | ((with_reducible refine OZ_drawn ?_); refine OZ_drawV (by decide +kernel) ?_)
  | ((with_reducible refine wend ?_ ?_); · decide +kernel)
  | ((with_reducible refine OZ_at 46 ?_); refine PC.useZ hF (span_t _ _ _ (by omega) (by omega)) (rfl) fun v hv => ?_; subst hv)
  | ((with_reducible refine OZ_at 55 ?_); refine OZ_call (Rd.call hF (cloneBa_rd bs b c (by omega) (by omega) 21 (by decide)) (rdSub rfl) ?_))
  | ((with_reducible refine OZ_at 56 ?_); refine OZ_frame1 (q := 21) rfl (delBa_s hF hro bs b c (by omega) (by omega)) ?_)
  | ((with_reducible refine OZ_at 59 ?_); first | refine OZ_frame1 (q := 22) rfl (delCe_s hF hro p0.cells b c (by omega) (by omega)) ?_ | refine OZ_frame1 (q := 24) rfl (delCe_s hF hro p1.cells b c (by omega) (by omega)) ?_)
  | ((with_reducible refine OZ_at 60 ?_); first | refine OZ_frame1 (q := 23) rfl (delDy_s hF hro p0.dyns b c (by omega) (by omega)) ?_ | refine OZ_frame1 (q := 25) rfl (delDy_s hF hro p1.dyns b c (by omega) (by omega)) ?_)
  | ((with_reducible refine OZ_lp ?_); refine OZ_unroll 3 ?_))
 all_goals exact hK
theorem barsOut2e (hlt : ¬ b < bs.length) (hlc0 : ¬ b < p0.cells.length) (hld0 : ¬ b < p0.dyns.length) (hlc1 : ¬ b < p1.cells.length) (hld1 : ¬ b < p1.dyns.length) (hK : K (.int .i64 0) ⟨(273, .tok) :: (251, .tok) :: pre6 B0 B1 B2 B3 B4 B5 ++ (34, .cells (.str t :: .msl 128 0 (delL bs b c).length 14 :: .msl 20 0 2 5 :: opL o 3 (b : Nat) (c : Nat) ++ [.int .i64 2, .int .i64 0, .int .i64 (b : Nat), .int .i64 0, .int .i64 0, .int .i64 0, .sl 9 [] .full, .sl 14 (((bs.drop b).take c).map Ba.av) .none, .sl 1 [.sl 1 (((p0.cells.drop b).take c).map cellAV) .none, .sl 1 (((p1.cells.drop b).take c).map cellAV) .none] (.tok 251), .sl 1 [.sl 1 (((p0.dyns.drop b).take c).map dynsAV) .none, .sl 1 (((p1.dyns.drop b).take c).map dynsAV) .none] (.tok 273), .int .i64 0, .int .i64 0, .str ⟨#[]⟩])) :: (20, .cells (pRow (p0.del b c) 204 217 ++ pRow (p1.del b c) 287 300)) :: (128, .cells ((delL bs b c).flatMap Ba.cells)) :: (pBlk (p0.del b c) 204 217 ++ pBlk (p1.del b c) 287 300), 308⟩) : (OZ F Tryz.prog gl W true 3).call 19 [.ptr 34 0] K ⟨pre6 B0 B1 B2 B3 B4 B5 ++ (34, .cells (.str t :: .msl 21 0 bs.length 14 :: .msl 20 0 2 5 :: opL o 3 (b : Nat) (c : Nat) ++ back0)) :: (20, .cells (pRow p0 22 23 ++ pRow p1 24 25)) :: (21, .cells (bs.flatMap Ba.cells)) :: (pBlk p0 22 23 ++ pBlk p1 24 25), 78⟩ := by
 simp only [pre6, opL, back0, pRow, pBlk, Pa.ins, Pa.del, List.cons_append, List.nil_append] at hK ⊢
 have hw : IntKind.i64.wrap (((b : Nat) : Int) + ((c : Nat) : Int)) = ((b + c : Nat) : Int) := by rw [wrap_in (by omega)]; rfl
 have k1 : ((b : Nat) : Int) ≤ ((b + c : Nat) : Int) := by omega
 have k2 : ((b + c : Nat) : Int) ≤ ((bs.length : Nat) : Int) := by omega
 have hsub : b + c - b = c := by omega
 have k3 : (0 : Int) ≤ ((b : Nat) : Int) := by omega
 have kl : ¬ ((b : Nat) : Int) < ((bs.length : Nat) : Int) := by omega
 have kc0 : ((b + c : Nat) : Int) ≤ ((p0.cells.length : Nat) : Int) := by omega
 have kd0 : ((b + c : Nat) : Int) ≤ ((p0.dyns.length : Nat) : Int) := by omega
 have lc0 : ¬ ((b : Nat) : Int) < ((p0.cells.length : Nat) : Int) := by omega
 have ld0 : ¬ ((b : Nat) : Int) < ((p0.dyns.length : Nat) : Int) := by omega
 have kc1 : ((b + c : Nat) : Int) ≤ ((p1.cells.length : Nat) : Int) := by omega
 have kd1 : ((b + c : Nat) : Int) ≤ ((p1.dyns.length : Nat) : Int) := by omega
 have lc1 : ¬ ((b : Nat) : Int) < ((p1.cells.length : Nat) : Int) := by omega
 have ld1 : ¬ ((b : Nat) : Int) < ((p1.dyns.length : Nat) : Int) := by omega
 have ke : (((b : Nat) : Int) = ((b + c : Nat) : Int)) = True := by simp only [eq_iff_iff, iff_true]; omega
 have hz : c = 0 := by omega
 rw [show ((bs.drop b).take c).map Ba.av = [] by rw [hz]; rfl, show ((p0.cells.drop b).take c).map cellAV = [] by rw [hz]; rfl, show ((p0.dyns.drop b).take c).map dynsAV = [] by rw [hz]; rfl, show ((p1.cells.drop b).take c).map cellAV = [] by rw [hz]; rfl, show ((p1.dyns.drop b).take c).map dynsAV = [] by rw [hz]; rfl] at hK
 clear hz
 (refine OZ_inline hF hro mix names 2 (fn := Tryz.f19) Tryz.func19 rfl ?_; simp -implicitDefEqProofs only [Tryz.ntmps19, Tryz.results19, entL, Nat.reduceAdd, Nat.reduceSub])
 repeat' (first
  | simp -implicitDefEqProofs (maxSteps := 9999999) only [↓reduceIte, runsY, lstY, facts, Nat.reduceAdd, Nat.reduceEqDiff, Nat.reduceLT, Nat.reduceLeDiff, Nat.reduceMul, Int.reduceLT, Int.reduceLE, Int.reduceToNat, Int.reduceNeg, Int.reduceAdd, List.flatMap_cons, List.flatMap_nil, AV.cells, Option.map_none, AV.one, bnd, Nat.zero_mul, wrap_in, dh0, hk0_cons, hk0_nil, vops_nil, vops_cons, vstep_val, vstep_skip, drawVK_at, *]
  | ((with_reducible refine v_at 57 ?_); refine vstep_rd [] _ (cloneCe0 []) (rd_sub (hl := []) trivial) ?_)
  | ((with_reducible refine v_at 58 ?_); refine vstep_rd [] _ (cloneDy0 []) (rd_sub (hl := []) trivial) ?_)
  | ((with_reducible refine OZ_drawn ?_); refine OZ_drawV (by decide +kernel) ?_)
  | ((with_reducible refine wend ?_ ?_); · decide +kernel)
  | ((with_reducible refine OZ_at 46 ?_); refine PC.useZ hF (span_t _ _ _ (by omega) (by omega)) (rfl) fun v hv => ?_; subst hv)
  | ((with_reducible refine OZ_at 55 ?_); refine OZ_call (Rd.call hF (cloneBa0 []) (fun k b h => by simp [hget] at h) ?_))
  | ((with_reducible refine OZ_at 56 ?_); refine OZ_frame1 (q := 21) rfl (delBa_s hF hro bs b c (by omega) (by omega)) ?_)
  | ((with_reducible refine OZ_at 59 ?_); first | refine OZ_frame1 (q := 22) rfl (delCe_s hF hro p0.cells b c (by omega) (by omega)) ?_ | refine OZ_frame1 (q := 24) rfl (delCe_s hF hro p1.cells b c (by omega) (by omega)) ?_)
  | ((with_reducible refine OZ_at 60 ?_); first | refine OZ_frame1 (q := 23) rfl (delDy_s hF hro p0.dyns b c (by omega) (by omega)) ?_ | refine OZ_frame1 (q := 25) rfl (delDy_s hF hro p1.dyns b c (by omega) (by omega)) ?_)
  | ((with_reducible refine OZ_lp ?_); refine OZ_unroll 3 ?_))
 all_goals exact hK
theorem barsOut2 (ha0 : p0.cells.length = bs.length) (hb0 : p0.dyns.length = bs.length) (ha1 : p1.cells.length = bs.length) (hb1 : p1.dyns.length = bs.length) (hK : K (.int .i64 0) ⟨(273, .tok) :: (251, .tok) :: pre6 B0 B1 B2 B3 B4 B5 ++ (34, .cells (.str t :: .msl 128 0 (delL bs b c).length 14 :: .msl 20 0 2 5 :: opL o 3 (b : Nat) (c : Nat) ++ [.int .i64 2, .int .i64 0, .int .i64 (b : Nat), .int .i64 0, .int .i64 0, .int .i64 0, .sl 9 [] .full, .sl 14 (((bs.drop b).take c).map Ba.av) .none, .sl 1 [.sl 1 (((p0.cells.drop b).take c).map cellAV) .none, .sl 1 (((p1.cells.drop b).take c).map cellAV) .none] (.tok 251), .sl 1 [.sl 1 (((p0.dyns.drop b).take c).map dynsAV) .none, .sl 1 (((p1.dyns.drop b).take c).map dynsAV) .none] (.tok 273), .int .i64 0, .int .i64 0, .str ⟨#[]⟩])) :: (20, .cells (pRow (p0.del b c) 204 217 ++ pRow (p1.del b c) 287 300)) :: (128, .cells ((delL bs b c).flatMap Ba.cells)) :: (pBlk (p0.del b c) 204 217 ++ pBlk (p1.del b c) 287 300), 308⟩) : (OZ F Tryz.prog gl W true 3).call 19 [.ptr 34 0] K ⟨pre6 B0 B1 B2 B3 B4 B5 ++ (34, .cells (.str t :: .msl 21 0 bs.length 14 :: .msl 20 0 2 5 :: opL o 3 (b : Nat) (c : Nat) ++ back0)) :: (20, .cells (pRow p0 22 23 ++ pRow p1 24 25)) :: (21, .cells (bs.flatMap Ba.cells)) :: (pBlk p0 22 23 ++ pBlk p1 24 25), 78⟩ := by
 by_cases hlt : b < bs.length
 ·exact barsOut2s t bs p0 p1 o B0 B1 B2 B3 B4 B5 b c hb hbl hpc0 hpd0 hpc1 hpd1 hF hro hlt (by omega) (by omega) (by omega) (by omega) hK
 ·exact barsOut2e t bs p0 p1 o B0 B1 B2 B3 B4 B5 b c hb hbl hpc0 hpd0 hpc1 hpd1 hF hro hlt (by omega) (by omega) (by omega) (by omega) hK
end
end Go.Proofs.Pv
namespace Go.Proofs.Pv
open Go Go.Proofs
set_option linter.unusedSimpArgs false
set_option linter.unusedVariables false
set_option maxRecDepth 100000
set_option maxHeartbeats 8000000
section
variable (t : ByteArray) (bs : List Ba) (p0 p1 p2 : Pa) (o : EOp) (B0 B1 B2 B3 B4 B5 : Blk) (b c : Nat) (hb : b + c ≤ bs.length) (hbl : bs.length ≤ 1000) (hpc0 : b + c ≤ p0.cells.length ∧ p0.cells.length ≤ 1000) (hpd0 : b + c ≤ p0.dyns.length ∧ p0.dyns.length ≤ 1000) (hpc1 : b + c ≤ p1.cells.length ∧ p1.cells.length ≤ 1000) (hpd1 : b + c ≤ p1.dyns.length ∧ p1.dyns.length ≤ 1000) (hpc2 : b + c ≤ p2.cells.length ∧ p2.cells.length ≤ 1000) (hpd2 : b + c ≤ p2.dyns.length ∧ p2.dyns.length ≤ 1000)
 {F : Fence} (hF : Free F) (hro : F.round = none) {W : World} {K : AV → St → Prop}
include hb hbl hpc0 hpd0 hpc1 hpd1 hpc2 hpd2 hF hro
theorem barsOut3s (hlt : b < bs.length) (hlc0 : b < p0.cells.length) (hld0 : b < p0.dyns.length) (hlc1 : b < p1.cells.length) (hld1 : b < p1.dyns.length) (hlc2 : b < p2.cells.length) (hld2 : b < p2.dyns.length) (hK : K (.int .i64 0) ⟨(356, .tok) :: (334, .tok) :: pre6 B0 B1 B2 B3 B4 B5 ++ (34, .cells (.str t :: .msl 128 0 (delL bs b c).length 14 :: .msl 20 0 3 5 :: opL o 3 (b : Nat) (c : Nat) ++ [.int .i64 2, .int .i64 0, .int .i64 (b : Nat), .int .i64 0, .int .i64 0, .int .i64 0, .sl 9 [] .full, .sl 14 (((bs.drop b).take c).map Ba.av) .none, .sl 1 [.sl 1 (((p0.cells.drop b).take c).map cellAV) .none, .sl 1 (((p1.cells.drop b).take c).map cellAV) .none, .sl 1 (((p2.cells.drop b).take c).map cellAV) .none] (.tok 334), .sl 1 [.sl 1 (((p0.dyns.drop b).take c).map dynsAV) .none, .sl 1 (((p1.dyns.drop b).take c).map dynsAV) .none, .sl 1 (((p2.dyns.drop b).take c).map dynsAV) .none] (.tok 356), .int .i64 0, .int .i64 0, .str ⟨#[]⟩])) :: (20, .cells (pRow (p0.del b c) 204 217 ++ pRow (p1.del b c) 287 300 ++ pRow (p2.del b c) 370 383)) :: (128, .cells ((delL bs b c).flatMap Ba.cells)) :: (pBlk (p0.del b c) 204 217 ++ pBlk (p1.del b c) 287 300 ++ pBlk (p2.del b c) 370 383), 391⟩) : (OZ F Tryz.prog gl W true 3).call 19 [.ptr 34 0] K ⟨pre6 B0 B1 B2 B3 B4 B5 ++ (34, .cells (.str t :: .msl 21 0 bs.length 14 :: .msl 20 0 3 5 :: opL o 3 (b : Nat) (c : Nat) ++ back0)) :: (20, .cells (pRow p0 22 23 ++ pRow p1 24 25 ++ pRow p2 26 27)) :: (21, .cells (bs.flatMap Ba.cells)) :: (pBlk p0 22 23 ++ pBlk p1 24 25 ++ pBlk p2 26 27), 78⟩ := by
 simp only [pre6, opL, back0, pRow, pBlk, Pa.ins, Pa.del, List.cons_append, List.nil_append] at hK ⊢
 have hw : IntKind.i64.wrap (((b : Nat) : Int) + ((c : Nat) : Int)) = ((b + c : Nat) : Int) := by rw [wrap_in (by omega)]; rfl
 have k1 : ((b : Nat) : Int) ≤ ((b + c : Nat) : Int) := by omega
 have k2 : ((b + c : Nat) : Int) ≤ ((bs.length : Nat) : Int) := by omega
 have hsub : b + c - b = c := by omega
 have k3 : (0 : Int) ≤ ((b : Nat) : Int) := by omega
 have kl : ((b : Nat) : Int) < ((bs.length : Nat) : Int) := by omega
 have kc0 : ((b + c : Nat) : Int) ≤ ((p0.cells.length : Nat) : Int) := by omega
 have kd0 : ((b + c : Nat) : Int) ≤ ((p0.dyns.length : Nat) : Int) := by omega
 have lc0 : ((b : Nat) : Int) < ((p0.cells.length : Nat) : Int) := by omega
 have ld0 : ((b : Nat) : Int) < ((p0.dyns.length : Nat) : Int) := by omega
 have kc1 : ((b + c : Nat) : Int) ≤ ((p1.cells.length : Nat) : Int) := by omega
 have kd1 : ((b + c : Nat) : Int) ≤ ((p1.dyns.length : Nat) : Int) := by omega
 have lc1 : ((b : Nat) : Int) < ((p1.cells.length : Nat) : Int) := by omega
 have ld1 : ((b : Nat) : Int) < ((p1.dyns.length : Nat) : Int) := by omega
 have kc2 : ((b + c : Nat) : Int) ≤ ((p2.cells.length : Nat) : Int) := by omega
 have kd2 : ((b + c : Nat) : Int) ≤ ((p2.dyns.length : Nat) : Int) := by omega
 have lc2 : ((b : Nat) : Int) < ((p2.cells.length : Nat) : Int) := by omega
 have ld2 : ((b : Nat) : Int) < ((p2.dyns.length : Nat) : Int) := by omega
 (refine OZ_inline hF hro mix names 2 (fn := Tryz.f19) Tryz.func19 rfl ?_; simp -implicitDefEqProofs only [Tryz.ntmps19, Tryz.results19, entL, Nat.reduceAdd, Nat.reduceSub])
 repeat' (first
  | simp -implicitDefEqProofs (maxSteps := 9999999) only [↓reduceIte, runsY, lstY, facts, Nat.reduceAdd, Nat.reduceEqDiff, Nat.reduceLT, Nat.reduceLeDiff, Nat.reduceMul, Int.reduceLT, Int.reduceLE, Int.reduceToNat, Int.reduceNeg, Int.reduceAdd, List.flatMap_cons, List.flatMap_nil, AV.cells, Option.map_none, AV.one, bnd, Nat.zero_mul, wrap_in, dh0, hk0_cons, hk0_nil, vops_nil, vops_cons, vstep_val, vstep_skip, drawVK_at, *]
  | ((with_reducible refine v_at 57 ?_); first | refine vstep_rd [22] _ (cloneCe_rd p0.cells b c (by omega) (by omega) 22 (by decide)) (rd_sub ⟨⟨rfl, rfl⟩, trivial⟩) ?_ | refine vstep_rd [24] _ (cloneCe_rd p1.cells b c (by omega) (by omega) 24 (by decide)) (rd_sub ⟨⟨rfl, rfl⟩, trivial⟩) ?_ | refine vstep_rd [26] _ (cloneCe_rd p2.cells b c (by omega) (by omega) 26 (by decide)) (rd_sub ⟨⟨rfl, rfl⟩, trivial⟩) ?_)
  | ((with_reducible refine v_at 58 ?_); first | refine vstep_rd [23] _ (cloneDy_rd p0.dyns b c (by omega) (by omega) 23 (by decide)) (rd_sub ⟨⟨rfl, rfl⟩, trivial⟩) ?_ | refine vstep_rd [25] _ (cloneDy_rd p1.dyns b c (by omega) (by omega) 25 (by decide)) (rd_sub ⟨⟨rfl, rfl⟩, trivial⟩) ?_ | refine vstep_rd [27] _ (cloneDy_rd p2.dyns b c (by omega) (by omega) 27 (by decide)) (rd_sub ⟨⟨rfl, rfl⟩, trivial⟩) ?_)
  | ((with_reducible refine OZ_drawn ?_); refine OZ_drawV (by decide +kernel) ?_)
  | ((with_reducible refine wend ?_ ?_); · decide +kernel)
  | ((with_reducible refine OZ_at 46 ?_); refine PC.useZ hF (span_t _ _ _ (by omega) (by omega)) (rfl) fun v hv => ?_; subst hv)
  | ((with_reducible refine OZ_at 55 ?_); refine OZ_call (Rd.call hF (cloneBa_rd bs b c (by omega) (by omega) 21 (by decide)) (rdSub rfl) ?_))
  | ((with_reducible refine OZ_at 56 ?_); refine OZ_frame1 (q := 21) rfl (delBa_s hF hro bs b c (by omega) (by omega)) ?_)
  | ((with_reducible refine OZ_at 59 ?_); first | refine OZ_frame1 (q := 22) rfl (delCe_s hF hro p0.cells b c (by omega) (by omega)) ?_ | refine OZ_frame1 (q := 24) rfl (delCe_s hF hro p1.cells b c (by omega) (by omega)) ?_ | refine OZ_frame1 (q := 26) rfl (delCe_s hF hro p2.cells b c (by omega) (by omega)) ?_)
  | ((with_reducible refine OZ_at 60 ?_); first | refine OZ_frame1 (q := 23) rfl (delDy_s hF hro p0.dyns b c (by omega) (by omega)) ?_ | refine OZ_frame1 (q := 25) rfl (delDy_s hF hro p1.dyns b c (by omega) (by omega)) ?_ | refine OZ_frame1 (q := 27) rfl (delDy_s hF hro p2.dyns b c (by omega) (by omega)) ?_)
  | ((with_reducible refine OZ_lp ?_); refine OZ_unroll 4 ?_))
 all_goals exact hK
theorem barsOut3e (hlt : ¬ b < bs.length) (hlc0 : ¬ b < p0.cells.length) (hld0 : ¬ b < p0.dyns.length) (hlc1 : ¬ b < p1.cells.length) (hld1 : ¬ b < p1.dyns.length) (hlc2 : ¬ b < p2.cells.length) (hld2 : ¬ b < p2.dyns.length) (hK : K (.int .i64 0) ⟨(356, .tok) :: (334, .tok) :: pre6 B0 B1 B2 B3 B4 B5 ++ (34, .cells (.str t :: .msl 128 0 (delL bs b c).length 14 :: .msl 20 0 3 5 :: opL o 3 (b : Nat) (c : Nat) ++ [.int .i64 2, .int .i64 0, .int .i64 (b : Nat), .int .i64 0, .int .i64 0, .int .i64 0, .sl 9 [] .full, .sl 14 (((bs.drop b).take c).map Ba.av) .none, .sl 1 [.sl 1 (((p0.cells.drop b).take c).map cellAV) .none, .sl 1 (((p1.cells.drop b).take c).map cellAV) .none, .sl 1 (((p2.cells.drop b).take c).map cellAV) .none] (.tok 334), .sl 1 [.sl 1 (((p0.dyns.drop b).take c).map dynsAV) .none, .sl 1 (((p1.dyns.drop b).take c).map dynsAV) .none, .sl 1 (((p2.dyns.drop b).take c).map dynsAV) .none] (.tok 356), .int .i64 0, .int .i64 0, .str ⟨#[]⟩])) :: (20, .cells (pRow (p0.del b c) 204 217 ++ pRow (p1.del b c) 287 300 ++ pRow (p2.del b c) 370 383)) :: (128, .cells ((delL bs b c).flatMap Ba.cells)) :: (pBlk (p0.del b c) 204 217 ++ pBlk (p1.del b c) 287 300 ++ pBlk (p2.del b c) 370 383), 391⟩) : (OZ F Tryz.prog gl W true 3).call 19 [.ptr 34 0] K ⟨pre6 B0 B1 B2 B3 B4 B5 ++ (34, .cells (.str t :: .msl 21 0 bs.length 14 :: .msl 20 0 3 5 :: opL o 3 (b : Nat) (c : Nat) ++ back0)) :: (20, .cells (pRow p0 22 23 ++ pRow p1 24 25 ++ pRow p2 26 27)) :: (21, .cells (bs.flatMap Ba.cells)) :: (pBlk p0 22 23 ++ pBlk p1 24 25 ++ pBlk p2 26 27), 78⟩ := by
 simp only [pre6, opL, back0, pRow, pBlk, Pa.ins, Pa.del, List.cons_append, List.nil_append] at hK ⊢
 have hw : IntKind.i64.wrap (((b : Nat) : Int) + ((c : Nat) : Int)) = ((b + c : Nat) : Int) := by rw [wrap_in (by omega)]; rfl
 have k1 : ((b : Nat) : Int) ≤ ((b + c : Nat) : Int) := by omega
 have k2 : ((b + c : Nat) : Int) ≤ ((bs.length : Nat) : Int) := by omega
 have hsub : b + c - b = c := by omega
 have k3 : (0 : Int) ≤ ((b : Nat) : Int) := by omega
 have kl : ¬ ((b : Nat) : Int) < ((bs.length : Nat) : Int) := by omega
 have kc0 : ((b + c : Nat) : Int) ≤ ((p0.cells.length : Nat) : Int) := by omega
 have kd0 : ((b + c : Nat) : Int) ≤ ((p0.dyns.length : Nat) : Int) := by omega
 have lc0 : ¬ ((b : Nat) : Int) < ((p0.cells.length : Nat) : Int) := by omega
 have ld0 : ¬ ((b : Nat) : Int) < ((p0.dyns.length : Nat) : Int) := by omega
 have kc1 : ((b + c : Nat) : Int) ≤ ((p1.cells.length : Nat) : Int) := by omega
 have kd1 : ((b + c : Nat) : Int) ≤ ((p1.dyns.length : Nat) : Int) := by omega
 have lc1 : ¬ ((b : Nat) : Int) < ((p1.cells.length : Nat) : Int) := by omega
 have ld1 : ¬ ((b : Nat) : Int) < ((p1.dyns.length : Nat) : Int) := by omega
 have kc2 : ((b + c : Nat) : Int) ≤ ((p2.cells.length : Nat) : Int) := by omega
 have kd2 : ((b + c : Nat) : Int) ≤ ((p2.dyns.length : Nat) : Int) := by omega
 have lc2 : ¬ ((b : Nat) : Int) < ((p2.cells.length : Nat) : Int) := by omega
 have ld2 : ¬ ((b : Nat) : Int) < ((p2.dyns.length : Nat) : Int) := by omega
 have ke : (((b : Nat) : Int) = ((b + c : Nat) : Int)) = True := by simp only [eq_iff_iff, iff_true]; omega
 have hz : c = 0 := by omega
 rw [show ((bs.drop b).take c).map Ba.av = [] by rw [hz]; rfl, show ((p0.cells.drop b).take c).map cellAV = [] by rw [hz]; rfl, show ((p0.dyns.drop b).take c).map dynsAV = [] by rw [hz]; rfl, show ((p1.cells.drop b).take c).map cellAV = [] by rw [hz]; rfl, show ((p1.dyns.drop b).take c).map dynsAV = [] by rw [hz]; rfl, show ((p2.cells.drop b).take c).map cellAV = [] by rw [hz]; rfl, show ((p2.dyns.drop b).take c).map dynsAV = [] by rw [hz]; rfl] at hK
 clear hz
 (refine OZ_inline hF hro mix names 2 (fn := Tryz.f19) Tryz.func19 rfl ?_; simp -implicitDefEqProofs only [Tryz.ntmps19, Tryz.results19, entL, Nat.reduceAdd, Nat.reduceSub])
 repeat' (first
  | simp -implicitDefEqProofs (maxSteps := 9999999) only [↓reduceIte, runsY, lstY, facts, Nat.reduceAdd, Nat.reduceEqDiff, Nat.reduceLT, Nat.reduceLeDiff, Nat.reduceMul, Int.reduceLT, Int.reduceLE, Int.reduceToNat, Int.reduceNeg, Int.reduceAdd, List.flatMap_cons, List.flatMap_nil, AV.cells, Option.map_none, AV.one, bnd, Nat.zero_mul, wrap_in, dh0, hk0_cons, hk0_nil, vops_nil, vops_cons, vstep_val, vstep_skip, drawVK_at, *]
  | ((with_reducible refine v_at 57 ?_); refine vstep_rd [] _ (cloneCe0 []) (rd_sub (hl := []) trivial) ?_)
  | ((with_reducible refine v_at 58 ?_); refine vstep_rd [] _ (cloneDy0 []) (rd_sub (hl := []) trivial) ?_)
  | ((with_reducible refine OZ_drawn ?_); refine OZ_drawV (by decide +kernel) ?_)
  | ((with_reducible refine wend ?_ ?_); · decide +kernel)
  | ((with_reducible refine OZ_at 46 ?_); refine PC.useZ hF (span_t _ _ _ (by omega) (by omega)) (rfl) fun v hv => ?_; subst hv)
  | ((with_reducible refine OZ_at 55 ?_); refine OZ_call (Rd.call hF (cloneBa0 []) (fun k b h => by simp [hget] at h) ?_))
  | ((with_reducible refine OZ_at 56 ?_); refine OZ_frame1 (q := 21) rfl (delBa_s hF hro bs b c (by omega) (by omega)) ?_)
  | ((with_reducible refine OZ_at 59 ?_); first | refine OZ_frame1 (q := 22) rfl (delCe_s hF hro p0.cells b c (by omega) (by omega)) ?_ | refine OZ_frame1 (q := 24) rfl (delCe_s hF hro p1.cells b c (by omega) (by omega)) ?_ | refine OZ_frame1 (q := 26) rfl (delCe_s hF hro p2.cells b c (by omega) (by omega)) ?_)
  | ((with_reducible refine OZ_at 60 ?_); first | refine OZ_frame1 (q := 23) rfl (delDy_s hF hro p0.dyns b c (by omega) (by omega)) ?_ | refine OZ_frame1 (q := 25) rfl (delDy_s hF hro p1.dyns b c (by omega) (by omega)) ?_ | refine OZ_frame1 (q := 27) rfl (delDy_s hF hro p2.dyns b c (by omega) (by omega)) ?_)
  | ((with_reducible refine OZ_lp ?_); refine OZ_unroll 4 ?_))
 all_goals exact hK
theorem barsOut3 (ha0 : p0.cells.length = bs.length) (hb0 : p0.dyns.length = bs.length) (ha1 : p1.cells.length = bs.length) (hb1 : p1.dyns.length = bs.length) (ha2 : p2.cells.length = bs.length) (hb2 : p2.dyns.length = bs.length) (hK : K (.int .i64 0) ⟨(356, .tok) :: (334, .tok) :: pre6 B0 B1 B2 B3 B4 B5 ++ (34, .cells (.str t :: .msl 128 0 (delL bs b c).length 14 :: .msl 20 0 3 5 :: opL o 3 (b : Nat) (c : Nat) ++ [.int .i64 2, .int .i64 0, .int .i64 (b : Nat), .int .i64 0, .int .i64 0, .int .i64 0, .sl 9 [] .full, .sl 14 (((bs.drop b).take c).map Ba.av) .none, .sl 1 [.sl 1 (((p0.cells.drop b).take c).map cellAV) .none, .sl 1 (((p1.cells.drop b).take c).map cellAV) .none, .sl 1 (((p2.cells.drop b).take c).map cellAV) .none] (.tok 334), .sl 1 [.sl 1 (((p0.dyns.drop b).take c).map dynsAV) .none, .sl 1 (((p1.dyns.drop b).take c).map dynsAV) .none, .sl 1 (((p2.dyns.drop b).take c).map dynsAV) .none] (.tok 356), .int .i64 0, .int .i64 0, .str ⟨#[]⟩])) :: (20, .cells (pRow (p0.del b c) 204 217 ++ pRow (p1.del b c) 287 300 ++ pRow (p2.del b c) 370 383)) :: (128, .cells ((delL bs b c).flatMap Ba.cells)) :: (pBlk (p0.del b c) 204 217 ++ pBlk (p1.del b c) 287 300 ++ pBlk (p2.del b c) 370 383), 391⟩) : (OZ F Tryz.prog gl W true 3).call 19 [.ptr 34 0] K ⟨pre6 B0 B1 B2 B3 B4 B5 ++ (34, .cells (.str t :: .msl 21 0 bs.length 14 :: .msl 20 0 3 5 :: opL o 3 (b : Nat) (c : Nat) ++ back0)) :: (20, .cells (pRow p0 22 23 ++ pRow p1 24 25 ++ pRow p2 26 27)) :: (21, .cells (bs.flatMap Ba.cells)) :: (pBlk p0 22 23 ++ pBlk p1 24 25 ++ pBlk p2 26 27), 78⟩ := by
 by_cases hlt : b < bs.length
 ·exact barsOut3s t bs p0 p1 p2 o B0 B1 B2 B3 B4 B5 b c hb hbl hpc0 hpd0 hpc1 hpd1 hpc2 hpd2 hF hro hlt (by omega) (by omega) (by omega) (by omega) (by omega) (by omega) hK
 ·exact barsOut3e t bs p0 p1 p2 o B0 B1 B2 B3 B4 B5 b c hb hbl hpc0 hpd0 hpc1 hpd1 hpc2 hpd2 hF hro hlt (by omega) (by omega) (by omega) (by omega) (by omega) (by omega) hK
end
end Go.Proofs.Pv
namespace Go.Proofs.Pv
open Go Go.Proofs
set_option linter.unusedSimpArgs false
set_option linter.unusedVariables false
set_option maxRecDepth 100000
set_option maxHeartbeats 8000000
section
variable (t : ByteArray) (bs : List Ba) (p0 p1 p2 p3 : Pa) (o : EOp) (B0 B1 B2 B3 B4 B5 : Blk) (b c : Nat) (hb : b + c ≤ bs.length) (hbl : bs.length ≤ 1000) (hpc0 : b + c ≤ p0.cells.length ∧ p0.cells.length ≤ 1000) (hpd0 : b + c ≤ p0.dyns.length ∧ p0.dyns.length ≤ 1000) (hpc1 : b + c ≤ p1.cells.length ∧ p1.cells.length ≤ 1000) (hpd1 : b + c ≤ p1.dyns.length ∧ p1.dyns.length ≤ 1000) (hpc2 : b + c ≤ p2.cells.length ∧ p2.cells.length ≤ 1000) (hpd2 : b + c ≤ p2.dyns.length ∧ p2.dyns.length ≤ 1000) (hpc3 : b + c ≤ p3.cells.length ∧ p3.cells.length ≤ 1000) (hpd3 : b + c ≤ p3.dyns.length ∧ p3.dyns.length ≤ 1000)
 {F : Fence} (hF : Free F) (hro : F.round = none) {W : World} {K : AV → St → Prop}
include hb hbl hpc0 hpd0 hpc1 hpd1 hpc2 hpd2 hpc3 hpd3 hF hro
theorem barsOut4s (hlt : b < bs.length) (hlc0 : b < p0.cells.length) (hld0 : b < p0.dyns.length) (hlc1 : b < p1.cells.length) (hld1 : b < p1.dyns.length) (hlc2 : b < p2.cells.length) (hld2 : b < p2.dyns.length) (hlc3 : b < p3.cells.length) (hld3 : b < p3.dyns.length) (hK : K (.int .i64 0) ⟨(439, .tok) :: (417, .tok) :: pre6 B0 B1 B2 B3 B4 B5 ++ (34, .cells (.str t :: .msl 128 0 (delL bs b c).length 14 :: .msl 20 0 4 5 :: opL o 3 (b : Nat) (c : Nat) ++ [.int .i64 2, .int .i64 0, .int .i64 (b : Nat), .int .i64 0, .int .i64 0, .int .i64 0, .sl 9 [] .full, .sl 14 (((bs.drop b).take c).map Ba.av) .none, .sl 1 [.sl 1 (((p0.cells.drop b).take c).map cellAV) .none, .sl 1 (((p1.cells.drop b).take c).map cellAV) .none, .sl 1 (((p2.cells.drop b).take c).map cellAV) .none, .sl 1 (((p3.cells.drop b).take c).map cellAV) .none] (.tok 417), .sl 1 [.sl 1 (((p0.dyns.drop b).take c).map dynsAV) .none, .sl 1 (((p1.dyns.drop b).take c).map dynsAV) .none, .sl 1 (((p2.dyns.drop b).take c).map dynsAV) .none, .sl 1 (((p3.dyns.drop b).take c).map dynsAV) .none] (.tok 439), .int .i64 0, .int .i64 0, .str ⟨#[]⟩])) :: (20, .cells (pRow (p0.del b c) 204 217 ++ pRow (p1.del b c) 287 300 ++ pRow (p2.del b c) 370 383 ++ pRow (p3.del b c) 453 466)) :: (128, .cells ((delL bs b c).flatMap Ba.cells)) :: (pBlk (p0.del b c) 204 217 ++ pBlk (p1.del b c) 287 300 ++ pBlk (p2.del b c) 370 383 ++ pBlk (p3.del b c) 453 466), 474⟩) : (OZ F Tryz.prog gl W true 3).call 19 [.ptr 34 0] K ⟨pre6 B0 B1 B2 B3 B4 B5 ++ (34, .cells (.str t :: .msl 21 0 bs.length 14 :: .msl 20 0 4 5 :: opL o 3 (b : Nat) (c : Nat) ++ back0)) :: (20, .cells (pRow p0 22 23 ++ pRow p1 24 25 ++ pRow p2 26 27 ++ pRow p3 28 29)) :: (21, .cells (bs.flatMap Ba.cells)) :: (pBlk p0 22 23 ++ pBlk p1 24 25 ++ pBlk p2 26 27 ++ pBlk p3 28 29), 78⟩ := by
 simp only [pre6, opL, back0, pRow, pBlk, Pa.ins, Pa.del, List.cons_append, List.nil_append] at hK ⊢
 have hw : IntKind.i64.wrap (((b : Nat) : Int) + ((c : Nat) : Int)) = ((b + c : Nat) : Int) := by rw [wrap_in (by omega)]; rfl
 have k1 : ((b : Nat) : Int) ≤ ((b + c : Nat) : Int) := by omega
 have k2 : ((b + c : Nat) : Int) ≤ ((bs.length : Nat) : Int) := by omega
 have hsub : b + c - b = c := by omega
 have k3 : (0 : Int) ≤ ((b : Nat) : Int) := by omega
 have kl : ((b : Nat) : Int) < ((bs.length : Nat) : Int) := by omega
 have kc0 : ((b + c : Nat) : Int) ≤ ((p0.cells.length : Nat) : Int) := by omega
 have kd0 : ((b + c : Nat) : Int) ≤ ((p0.dyns.length : Nat) : Int) := by omega
 have lc0 : ((b : Nat) : Int) < ((p0.cells.length : Nat) : Int) := by omega
 have ld0 : ((b : Nat) : Int) < ((p0.dyns.length : Nat) : Int) := by omega
 have kc1 : ((b + c : Nat) : Int) ≤ ((p1.cells.length : Nat) : Int) := by omega
 have kd1 : ((b + c : Nat) : Int) ≤ ((p1.dyns.length : Nat) : Int) := by omega
 have lc1 : ((b : Nat) : Int) < ((p1.cells.length : Nat) : Int) := by omega
 have ld1 : ((b : Nat) : Int) < ((p1.dyns.length : Nat) : Int) := by omega
 have kc2 : ((b + c : Nat) : Int) ≤ ((p2.cells.length : Nat) : Int) := by omega
 have kd2 : ((b + c : Nat) : Int) ≤ ((p2.dyns.length : Nat) : Int) := by omega
 have lc2 : ((b : Nat) : Int) < ((p2.cells.length : Nat) : Int) := by omega
 have ld2 : ((b : Nat) : Int) < ((p2.dyns.length : Nat) : Int) := by omega
 have kc3 : ((b + c : Nat) : Int) ≤ ((p3.cells.length : Nat) : Int) := by omega
 have kd3 : ((b + c : Nat) : Int) ≤ ((p3.dyns.length : Nat) : Int) := by omega
 have lc3 : ((b : Nat) : Int) < ((p3.cells.length : Nat) : Int) := by omega
 have ld3 : ((b : Nat) : Int) < ((p3.dyns.length : Nat) : Int) := by omega
 (refine OZ_inline hF hro mix names 2 (fn := Tryz.f19) Tryz.func19 rfl ?_; simp -implicitDefEqProofs only [Tryz.ntmps19, Tryz.results19, entL, Nat.reduceAdd, Nat.reduceSub])
 repeat' (first
  | simp -implicitDefEqProofs (maxSteps := 9999999) only [↓reduceIte, runsY, lstY, facts, Nat.reduceAdd, Nat.reduceEqDiff, Nat.reduceLT, Nat.reduceLeDiff, Nat.reduceMul, Int.reduceLT, Int.reduceLE, Int.reduceToNat, Int.reduceNeg, Int.reduceAdd, List.flatMap_cons, List.flatMap_nil, AV.cells, Option.map_none, AV.one, bnd, Nat.zero_mul, wrap_in, dh0, hk0_cons, hk0_nil, vops_nil, vops_cons, vstep_val, vstep_skip, drawVK_at, *]
  | ((with_reducible refine v_at 57 ?_); first | refine vstep_rd [22] _ (cloneCe_rd p0.cells b c (by omega) (by omega) 22 (by decide)) (rd_sub ⟨⟨rfl, rfl⟩, trivial⟩) ?_ | refine vstep_rd [24] _ (cloneCe_rd p1.cells b c (by omega) (by omega) 24 (by decide)) (rd_sub ⟨⟨rfl, rfl⟩, trivial⟩) ?_ | refine vstep_rd [26] _ (cloneCe_rd p2.cells b c (by omega) (by omega) 26 (by decide)) (rd_sub ⟨⟨rfl, rfl⟩, trivial⟩) ?_ | refine vstep_rd [28] _ (cloneCe_rd p3.cells b c (by omega) (by omega) 28 (by decide)) (rd_sub ⟨⟨rfl, rfl⟩, trivial⟩) ?_)
  | ((with_reducible refine v_at 58 ?_); first | refine vstep_rd [23] _ (cloneDy_rd p0.dyns b c (by omega) (by omega) 23 (by decide)) (rd_sub ⟨⟨rfl, rfl⟩, trivial⟩) ?_ | refine vstep_rd [25] _ (cloneDy_rd p1.dyns b c (by omega) (by omega) 25 (by decide)) (rd_sub ⟨⟨rfl, rfl⟩, trivial⟩) ?_ | refine vstep_rd [27] _ (cloneDy_rd p2.dyns b c (by omega) (by omega) 27 (by decide)) (rd_sub ⟨⟨rfl, rfl⟩, trivial⟩) ?_ | refine vstep_rd [29] _ (cloneDy_rd p3.dyns b c (by omega) (by omega) 29 (by decide)) (rd_sub ⟨⟨rfl, rfl⟩, trivial⟩) ?_)
  | ((with_reducible refine OZ_drawn ?_); refine OZ_drawV (by decide +kernel) ?_)
  | ((with_reducible refine wend ?_ ?_); · decide +kernel)
  | ((with_reducible refine OZ_at 46 ?_); refine PC.useZ hF (span_t _ _ _ (by omega) (by omega)) (rfl) fun v hv => ?_; subst hv)
  | ((with_reducible refine OZ_at 55 ?_); refine OZ_call (Rd.call hF (cloneBa_rd bs b c (by omega) (by omega) 21 (by decide)) (rdSub rfl) ?_))
  | ((with_reducible refine OZ_at 56 ?_); refine OZ_frame1 (q := 21) rfl (delBa_s hF hro bs b c (by omega) (by omega)) ?_)
  | ((with_reducible refine OZ_at 59 ?_); first | refine OZ_frame1 (q := 22) rfl (delCe_s hF hro p0.cells b c (by omega) (by omega)) ?_ | refine OZ_frame1 (q := 24) rfl (delCe_s hF hro p1.cells b c (by omega) (by omega)) ?_ | refine OZ_frame1 (q := 26) rfl (delCe_s hF hro p2.cells b c (by omega) (by omega)) ?_ | refine OZ_frame1 (q := 28) rfl (delCe_s hF hro p3.cells b c (by omega) (by omega)) ?_)
  | ((with_reducible refine OZ_at 60 ?_); first | refine OZ_frame1 (q := 23) rfl (delDy_s hF hro p0.dyns b c (by omega) (by omega)) ?_ | refine OZ_frame1 (q := 25) rfl (delDy_s hF hro p1.dyns b c (by omega) (by omega)) ?_ | refine OZ_frame1 (q := 27) rfl (delDy_s hF hro p2.dyns b c (by omega) (by omega)) ?_ | refine OZ_frame1 (q := 29) rfl (delDy_s hF hro p3.dyns b c (by omega) (by omega)) ?_)
  | ((with_reducible refine OZ_lp ?_); refine OZ_unroll 5 ?_))
 all_goals exact hK
theorem barsOut4e (hlt : ¬ b < bs.length) (hlc0 : ¬ b < p0.cells.length) (hld0 : ¬ b < p0.dyns.length) (hlc1 : ¬ b < p1.cells.length) (hld1 : ¬ b < p1.dyns.length) (hlc2 : ¬ b < p2.cells.length) (hld2 : ¬ b < p2.dyns.length) (hlc3 : ¬ b < p3.cells.length) (hld3 : ¬ b < p3.dyns.length) (hK : K (.int .i64 0) ⟨(439, .tok) :: (417, .tok) :: pre6 B0 B1 B2 B3 B4 B5 ++ (34, .cells (.str t :: .msl 128 0 (delL bs b c).length 14 :: .msl 20 0 4 5 :: opL o 3 (b : Nat) (c : Nat) ++ [.int .i64 2, .int .i64 0, .int .i64 (b : Nat), .int .i64 0, .int .i64 0, .int .i64 0, .sl 9 [] .full, .sl 14 (((bs.drop b).take c).map Ba.av) .none, .sl 1 [.sl 1 (((p0.cells.drop b).take c).map cellAV) .none, .sl 1 (((p1.cells.drop b).take c).map cellAV) .none, .sl 1 (((p2.cells.drop b).take c).map cellAV) .none, .sl 1 (((p3.cells.drop b).take c).map cellAV) .none] (.tok 417), .sl 1 [.sl 1 (((p0.dyns.drop b).take c).map dynsAV) .none, .sl 1 (((p1.dyns.drop b).take c).map dynsAV) .none, .sl 1 (((p2.dyns.drop b).take c).map dynsAV) .none, .sl 1 (((p3.dyns.drop b).take c).map dynsAV) .none] (.tok 439), .int .i64 0, .int .i64 0, .str ⟨#[]⟩])) :: (20, .cells (pRow (p0.del b c) 204 217 ++ pRow (p1.del b c) 287 300 ++ pRow (p2.del b c) 370 383 ++ pRow (p3.del b c) 453 466)) :: (128, .cells ((delL bs b c).flatMap Ba.cells)) :: (pBlk (p0.del b c) 204 217 ++ pBlk (p1.del b c) 287 300 ++ pBlk (p2.del b c) 370 383 ++ pBlk (p3.del b c) 453 466), 474⟩) : (OZ F Tryz.prog gl W true 3).call 19 [.ptr 34 0] K ⟨pre6 B0 B1 B2 B3 B4 B5 ++ (34, .cells (.str t :: .msl 21 0 bs.length 14 :: .msl 20 0 4 5 :: opL o 3 (b : Nat) (c : Nat) ++ back0)) :: (20, .cells (pRow p0 22 23 ++ pRow p1 24 25 ++ pRow p2 26 27 ++ pRow p3 28 29)) :: (21, .cells (bs.flatMap Ba.cells)) :: (pBlk p0 22 23 ++ pBlk p1 24 25 ++ pBlk p2 26 27 ++ pBlk p3 28 29), 78⟩ := by
 simp only [pre6, opL, back0, pRow, pBlk, Pa.ins, Pa.del, List.cons_append, List.nil_append] at hK ⊢
 have hw : IntKind.i64.wrap (((b : Nat) : Int) + ((c : Nat) : Int)) = ((b + c : Nat) : Int) := by rw [wrap_in (by omega)]; rfl
 have k1 : ((b : Nat) : Int) ≤ ((b + c : Nat) : Int) := by omega
 have k2 : ((b + c : Nat) : Int) ≤ ((bs.length : Nat) : Int) := by omega
 have hsub : b + c - b = c := by omega
 have k3 : (0 : Int) ≤ ((b : Nat) : Int) := by omega
 have kl : ¬ ((b : Nat) : Int) < ((bs.length : Nat) : Int) := by omega
 have kc0 : ((b + c : Nat) : Int) ≤ ((p0.cells.length : Nat) : Int) := by omega
 have kd0 : ((b + c : Nat) : Int) ≤ ((p0.dyns.length : Nat) : Int) := by omega
 have lc0 : ¬ ((b : Nat) : Int) < ((p0.cells.length : Nat) : Int) := by omega
 have ld0 : ¬ ((b : Nat) : Int) < ((p0.dyns.length : Nat) : Int) := by omega
 have kc1 : ((b + c : Nat) : Int) ≤ ((p1.cells.length : Nat) : Int) := by omega
 have kd1 : ((b + c : Nat) : Int) ≤ ((p1.dyns.length : Nat) : Int) := by omega
 have lc1 : ¬ ((b : Nat) : Int) < ((p1.cells.length : Nat) : Int) := by omega
 have ld1 : ¬ ((b : Nat) : Int) < ((p1.dyns.length : Nat) : Int) := by omega
 have kc2 : ((b + c : Nat) : Int) ≤ ((p2.cells.length : Nat) : Int) := by omega
 have kd2 : ((b + c : Nat) : Int) ≤ ((p2.dyns.length : Nat) : Int) := by omega
 have lc2 : ¬ ((b : Nat) : Int) < ((p2.cells.length : Nat) : Int) := by omega
 have ld2 : ¬ ((b : Nat) : Int) < ((p2.dyns.length : Nat) : Int) := by omega
 have kc3 : ((b + c : Nat) : Int) ≤ ((p3.cells.length : Nat) : Int) := by omega
 have kd3 : ((b + c : Nat) : Int) ≤ ((p3.dyns.length : Nat) : Int) := by omega
 have lc3 : ¬ ((b : Nat) : Int) < ((p3.cells.length : Nat) : Int) := by omega
 have ld3 : ¬ ((b : Nat) : Int) < ((p3.dyns.length : Nat) : Int) := by omega
 have ke : (((b : Nat) : Int) = ((b + c : Nat) : Int)) = True := by simp only [eq_iff_iff, iff_true]; omega
 have hz : c = 0 := by omega
 rw [show ((bs.drop b).take c).map Ba.av = [] by rw [hz]; rfl, show ((p0.cells.drop b).take c).map cellAV = [] by rw [hz]; rfl, show ((p0.dyns.drop b).take c).map dynsAV = [] by rw [hz]; rfl, show ((p1.cells.drop b).take c).map cellAV = [] by rw [hz]; rfl, show ((p1.dyns.drop b).take c).map dynsAV = [] by rw [hz]; rfl, show ((p2.cells.drop b).take c).map cellAV = [] by rw [hz]; rfl, show ((p2.dyns.drop b).take c).map dynsAV = [] by rw [hz]; rfl, show ((p3.cells.drop b).take c).map cellAV = [] by rw [hz]; rfl, show ((p3.dyns.drop b).take c).map dynsAV = [] by rw [hz]; rfl] at hK
 clear hz
 (refine OZ_inline hF hro mix names 2 (fn := Tryz.f19) Tryz.func19 rfl ?_; simp -implicitDefEqProofs only [Tryz.ntmps19, Tryz.results19, entL, Nat.reduceAdd, Nat.reduceSub])
 repeat' (first
  | simp -implicitDefEqProofs (maxSteps := 9999999) only [↓reduceIte, runsY, lstY, facts, Nat.reduceAdd, Nat.reduceEqDiff, Nat.reduceLT, Nat.reduceLeDiff, Nat.reduceMul, Int.reduceLT, Int.reduceLE, Int.reduceToNat, Int.reduceNeg, Int.reduceAdd, List.flatMap_cons, List.flatMap_nil, AV.cells, Option.map_none, AV.one, bnd, Nat.zero_mul, wrap_in, dh0, hk0_cons, hk0_nil, vops_nil, vops_cons, vstep_val, vstep_skip, drawVK_at, *]
  | ((with_reducible refine v_at 57 ?_); refine vstep_rd [] _ (cloneCe0 []) (rd_sub (hl := []) trivial) ?_)
  | ((with_reducible refine v_at 58 ?_); refine vstep_rd [] _ (cloneDy0 []) (rd_sub (hl := []) trivial) ?_)
  | ((with_reducible refine OZ_drawn ?_); refine OZ_drawV (by decide +kernel) ?_)
  | ((with_reducible refine wend ?_ ?_); · decide +kernel)
  | ((with_reducible refine OZ_at 46 ?_); refine PC.useZ hF (span_t _ _ _ (by omega) (by omega)) (rfl) fun v hv => ?_; subst hv)
  | ((with_reducible refine OZ_at 55 ?_); refine OZ_call (Rd.call hF (cloneBa0 []) (fun k b h => by simp [hget] at h) ?_))
  | ((with_reducible refine OZ_at 56 ?_); refine OZ_frame1 (q := 21) rfl (delBa_s hF hro bs b c (by omega) (by omega)) ?_)
  | ((with_reducible refine OZ_at 59 ?_); first | refine OZ_frame1 (q := 22) rfl (delCe_s hF hro p0.cells b c (by omega) (by omega)) ?_ | refine OZ_frame1 (q := 24) rfl (delCe_s hF hro p1.cells b c (by omega) (by omega)) ?_ | refine OZ_frame1 (q := 26) rfl (delCe_s hF hro p2.cells b c (by omega) (by omega)) ?_ | refine OZ_frame1 (q := 28) rfl (delCe_s hF hro p3.cells b c (by omega) (by omega)) ?_)
  | ((with_reducible refine OZ_at 60 ?_); first | refine OZ_frame1 (q := 23) rfl (delDy_s hF hro p0.dyns b c (by omega) (by omega)) ?_ | refine OZ_frame1 (q := 25) rfl (delDy_s hF hro p1.dyns b c (by omega) (by omega)) ?_ | refine OZ_frame1 (q := 27) rfl (delDy_s hF hro p2.dyns b c (by omega) (by omega)) ?_ | refine OZ_frame1 (q := 29) rfl (delDy_s hF hro p3.dyns b c (by omega) (by omega)) ?_)
  | ((with_reducible refine OZ_lp ?_); refine OZ_unroll 5 ?_))
 all_goals exact hK
theorem barsOut4 (ha0 : p0.cells.length = bs.length) (hb0 : p0.dyns.length = bs.length) (ha1 : p1.cells.length = bs.length) (hb1 : p1.dyns.length = bs.length) (ha2 : p2.cells.length = bs.length) (hb2 : p2.dyns.length = bs.length) (ha3 : p3.cells.length = bs.length) (hb3 : p3.dyns.length = bs.length) (hK : K (.int .i64 0) ⟨(439, .tok) :: (417, .tok) :: pre6 B0 B1 B2 B3 B4 B5 ++ (34, .cells (.str t :: .msl 128 0 (delL bs b c).length 14 :: .msl 20 0 4 5 :: opL o 3 (b : Nat) (c : Nat) ++ [.int .i64 2, .int .i64 0, .int .i64 (b : Nat), .int .i64 0, .int .i64 0, .int .i64 0, .sl 9 [] .full, .sl 14 (((bs.drop b).take c).map Ba.av) .none, .sl 1 [.sl 1 (((p0.cells.drop b).take c).map cellAV) .none, .sl 1 (((p1.cells.drop b).take c).map cellAV) .none, .sl 1 (((p2.cells.drop b).take c).map cellAV) .none, .sl 1 (((p3.cells.drop b).take c).map cellAV) .none] (.tok 417), .sl 1 [.sl 1 (((p0.dyns.drop b).take c).map dynsAV) .none, .sl 1 (((p1.dyns.drop b).take c).map dynsAV) .none, .sl 1 (((p2.dyns.drop b).take c).map dynsAV) .none, .sl 1 (((p3.dyns.drop b).take c).map dynsAV) .none] (.tok 439), .int .i64 0, .int .i64 0, .str ⟨#[]⟩])) :: (20, .cells (pRow (p0.del b c) 204 217 ++ pRow (p1.del b c) 287 300 ++ pRow (p2.del b c) 370 383 ++ pRow (p3.del b c) 453 466)) :: (128, .cells ((delL bs b c).flatMap Ba.cells)) :: (pBlk (p0.del b c) 204 217 ++ pBlk (p1.del b c) 287 300 ++ pBlk (p2.del b c) 370 383 ++ pBlk (p3.del b c) 453 466), 474⟩) : (OZ F Tryz.prog gl W true 3).call 19 [.ptr 34 0] K ⟨pre6 B0 B1 B2 B3 B4 B5 ++ (34, .cells (.str t :: .msl 21 0 bs.length 14 :: .msl 20 0 4 5 :: opL o 3 (b : Nat) (c : Nat) ++ back0)) :: (20, .cells (pRow p0 22 23 ++ pRow p1 24 25 ++ pRow p2 26 27 ++ pRow p3 28 29)) :: (21, .cells (bs.flatMap Ba.cells)) :: (pBlk p0 22 23 ++ pBlk p1 24 25 ++ pBlk p2 26 27 ++ pBlk p3 28 29), 78⟩ := by
 by_cases hlt : b < bs.length
 ·exact barsOut4s t bs p0 p1 p2 p3 o B0 B1 B2 B3 B4 B5 b c hb hbl hpc0 hpd0 hpc1 hpd1 hpc2 hpd2 hpc3 hpd3 hF hro hlt (by omega) (by omega) (by omega) (by omega) (by omega) (by omega) (by omega) (by omega) hK
 ·exact barsOut4e t bs p0 p1 p2 p3 o B0 B1 B2 B3 B4 B5 b c hb hbl hpc0 hpd0 hpc1 hpd1 hpc2 hpd2 hpc3 hpd3 hF hro hlt (by omega) (by omega) (by omega) (by omega) (by omega) (by omega) (by omega) (by omega) hK
end
end Go.Proofs.Pv
