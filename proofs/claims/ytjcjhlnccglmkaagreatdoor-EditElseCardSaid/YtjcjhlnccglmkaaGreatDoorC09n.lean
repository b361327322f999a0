/-
  Layer 9's edits: events give way.
  Conditions: a place that there is; short lists.
-/
import Derived.Test.YtjcjhlnccglmkaaGreatDoorC09l
namespace Go.Proofs.Pv
open Go Go.Proofs
set_option linter.unusedSimpArgs false
set_option linter.unusedVariables false
theorem hkeep_nil {R : List Nat} : hkeep R [] = [] := rfl
theorem hkeep_cons {R : List Nat} {k : Nat} {b : Option Blk} {h : DH} : hkeep R ((k, b) :: h) = if R.contains k = true then hkeep R h else (k, b) :: hkeep R h := by
  simp only [hkeep, List.filter_cons]
  by_cases hk : R.contains k = true <;> simp [hk]
theorem kin23 {k : Nat} : [23, 164].contains k = (decide (k = 23) || decide (k = 164)) := by simp [List.contains_cons]
theorem kin23b {k : Nat} : [23].contains k = decide (k = 23) := by simp [List.contains_cons]
/-- What stands in the heap when events have given way. -/
def evPost (s : Sc) (o : EOp) (B0 B1 B2 B3 B4 B5 : Blk) (j0 b0 v0 a n : Nat) (CE VO : List AV) (vo : Vo) : List (Nat × Blk) :=
  [(80, .cells [.int .i64 (j0 : Nat), .int .i64 (b0 : Nat), .int .i64 (v0 : Nat), .int .i64 (a : Nat)]), (30, B0), (9, B1), (3, B2), (2, B3), (1, B4), (0, B5),
   (28, .cells [.str s.title, .sl 14 (s.bars.map Ba.av) .none, .msl 20 0 s.parts.length 5, .int .i64 1, .int .i64 (j0 : Nat), .int .i64 (b0 : Nat), .int .i64 (v0 : Nat), .int .i64 (a : Nat), .int .i64 (n : Nat), .sl 9 (o.events.map Ev.av) .none, .sl 14 (o.bars.map Ba.av) .none, .sl 1 (o.cells.map cellsAV) .none, .sl 1 (o.dyns.map dynssAV) .none, .int .i64 o.steps, .int .i64 o.halves, .str o.text, .int .i64 0, .int .i64 (j0 : Nat), .int .i64 (b0 : Nat), .int .i64 (v0 : Nat), .int .i64 (a : Nat), .int .i64 (o.events.length : Nat), .sl 9 (((vo.l.drop a).take n).map Ev.av) .none, .sl 14 [] .full, .sl 1 [] .full, .sl 1 [] .full, .int .i64 0, .int .i64 0, .str ⟨#[]⟩]),
   (20, .cells (rowsAt (paC 21 s.parts j0) s.parts.length)), (21, .cells CE), (22, .cells (splice VO v0 [.msl 183 0 (repl vo.l a n o.events).length 9])), (183, .cells ((repl vo.l a n o.events).flatMap Ev.cells))]
theorem ren_nilsl {f : Nat → Option Nat} {k : Nat} : AV.ren f (.sl k [] .mut) = .sl k [] .mut := rfl
set_option maxRecDepth 100000 in
set_option maxHeartbeats 8000000 in
theorem ev_is (s : Sc) (o : EOp) (B0 B1 B2 B3 B4 B5 : Blk) (j0 b0 v0 a n : Nat) (CE VO : List AV) (cl vl : Nat) (vo : Vo) (hj : j0 < s.parts.length) (hbb : b0 < s.bars.length) (hb0 : b0 < cl) (hv0 : v0 < vl) (hcl : (s.parts.getD j0 pa0).cells.length = cl)
    (hq1 : CE.length = cl) (hq2 : (List.drop b0 CE).head? = some (.msl 22 0 vl 1)) (hv1 : VO.length = vl) (hv2 : (List.drop v0 VO).head? = some (.msl 23 0 vo.l.length 9))
    (han : a + n ≤ vo.l.length) (hll : vo.l.length ≤ 1000000) (hol : o.events.length ≤ 1000000) (hos : ∀ e ∈ o.events, e.short) (hsum : vo.l.length + o.events.length + 1 ≤ 1000000) (hal : a < vo.l.length) (m : Nat) (hm : o.events.length = m + 1)
    {F : Fence} (hF : Free F) (hro : F.round = none) {W : World} {K : AV → St → Prop} (hK : K (.int .i64 0) ⟨evPost s o B0 B1 B2 B3 B4 B5 j0 b0 v0 a n CE VO vo, 203⟩)
    : (OZ F Tryz.prog gl W true 2).call 17 [.ptr 28 0] K ⟨[(30, B0), (9, B1), (3, B2), (2, B3), (1, B4), (0, B5), (28, .cells ([.str s.title, .sl 14 (s.bars.map Ba.av) .none, .msl 20 0 s.parts.length 5, .int .i64 1, .int .i64 (j0 : Nat), .int .i64 (b0 : Nat), .int .i64 (v0 : Nat), .int .i64 (a : Nat), .int .i64 (n : Nat), .sl 9 (o.events.map Ev.av) .none, .sl 14 (o.bars.map Ba.av) .none, .sl 1 (o.cells.map cellsAV) .none, .sl 1 (o.dyns.map dynssAV) .none, .int .i64 o.steps, .int .i64 o.halves, .str o.text] ++ back0)), (20, .cells (rowsAt (paC 21 s.parts j0) s.parts.length)), (21, .cells CE), (22, .cells VO), (23, .cells (vo.l.flatMap Ev.cells))], 72⟩ := by
  have hcell := cell_rd s (.int .i64 1) (v0 : Nat) (a : Nat) j0 (.int .i64 (n : Nat) :: .sl 9 (o.events.map Ev.av) .none :: .sl 14 (o.bars.map Ba.av) .none :: .sl 1 (o.cells.map cellsAV) .none :: .sl 1 (o.dyns.map dynssAV) .none :: .int .i64 o.steps :: .int .i64 o.halves :: .str o.text :: back0) CE b0 hj hbb (by rw [hcl]; exact hb0)
  have k1 : b0 ≤ cl := by omega
  have k2 : 1 ≤ cl - b0 := by omega
  have k3 : v0 ≤ vl := by omega
  have k4 : 1 ≤ vl - v0 := by omega
  have k9 : v0 + 1 ≤ vl := by omega
  have k5 : ((v0 : Nat) : Int) < ((vl : Nat) : Int) := by omega
  have k6 : ((a : Nat) : Int) ≤ ((a + n : Nat) : Int) := by omega
  have k7 : ((a + n : Nat) : Int) ≤ ((vo.l.length : Nat) : Int) := by omega
  have hw : IntKind.i64.wrap (((a : Nat) : Int) + ((n : Nat) : Int)) = ((a + n : Nat) : Int) := by rw [wrap_in (by omega)]; rfl
  have hsub : a + n - a = n := by omega
  have hev := edEvents_own o.events hol hos
  simp only [back0, List.cons_append, List.nil_append]
  have k8 : ((a : Nat) : Int) < ((vo.l.length : Nat) : Int) := by omega
  rw [hm] at hev
  simp only [ownA_succ, ownH_succ] at hev
  (refine OZ_inline hF hro mix names 2 (fn := Tryz.f17) Tryz.func17 rfl ?_; simp -implicitDefEqProofs only [Tryz.ntmps17, Tryz.results17, fr0, st0, List.length_cons, List.length_nil, List.cons_append, List.nil_append, Nat.reduceAdd, Nat.reduceSub, List.replicate_succ, List.replicate_zero])
  repeat' (first
    | simp -implicitDefEqProofs only [↓reduceIte, runsY, lstY, facts, Nat.reduceAdd, Nat.reduceEqDiff, Nat.reduceLeDiff, List.flatMap_cons, List.flatMap_nil, AV.cells, Option.map_none, AV.one, bnd, ren_up, hup_cons, hup_nil, hC_cons, hC_nil, evRen, dh0, hkeep_cons, hkeep_nil, kin23, List.length_drop, Int.natCast_nonneg, vops_nil, vops_cons, vstep_val, vstep_skip, drawVK_at, *]
    | ((with_reducible refine v_at 45 ?_); refine vstep_call (there_t _ _ (by omega)) (rfl) ?_)
    | ((with_reducible refine v_at 46 ?_); refine vstep_call (span_t _ _ _ (by omega) (by omega)) (rfl) ?_)
    | ((with_reducible refine v_at 47 ?_); refine vstep_rd [23] _ (clonePart_rd vo.l hll a n han) (rd_sub ⟨⟨rfl, rfl⟩, trivial⟩) ?_)
    | ((with_reducible refine v_at 48 ?_); refine vstep_wide [23, 164] rfl (repl_s hF hro vo.l o.events a n m hm han hsum) rfl (by show 183 ≤ 184; decide) ?_)
    | ((with_reducible refine v_at 49 ?_); refine vstep_own hF hro hev (rfl) ?_)
    | ((with_reducible refine v_at 44 ?_); refine vstep_rd [28, 20, 21] _ hcell (rd_sub ⟨⟨rfl, rfl⟩, ⟨rfl, rfl⟩, ⟨rfl, rfl⟩, trivial⟩) ?_)
    | ((with_reducible refine OZ_drawn ?_); refine OZ_drawV (by decide +kernel) ?_)
    | ((with_reducible refine wend ?_ ?_); · decide +kernel))
  rw [evPost, hm] at hK
  exact hK
set_option maxRecDepth 100000 in
set_option maxHeartbeats 8000000 in
theorem ev_iz (s : Sc) (o : EOp) (B0 B1 B2 B3 B4 B5 : Blk) (j0 b0 v0 a n : Nat) (CE VO : List AV) (cl vl : Nat) (vo : Vo) (hj : j0 < s.parts.length) (hbb : b0 < s.bars.length) (hb0 : b0 < cl) (hv0 : v0 < vl) (hcl : (s.parts.getD j0 pa0).cells.length = cl)
    (hq1 : CE.length = cl) (hq2 : (List.drop b0 CE).head? = some (.msl 22 0 vl 1)) (hv1 : VO.length = vl) (hv2 : (List.drop v0 VO).head? = some (.msl 23 0 vo.l.length 9))
    (han : a + n ≤ vo.l.length) (hll : vo.l.length ≤ 1000000) (hol : o.events.length ≤ 1000000) (hos : ∀ e ∈ o.events, e.short) (hsum : vo.l.length + o.events.length + 1 ≤ 1000000) (hal : a < vo.l.length) (hm : o.events.length = 0)
    {F : Fence} (hF : Free F) (hro : F.round = none) {W : World} {K : AV → St → Prop} (hK : K (.int .i64 0) ⟨evPost s o B0 B1 B2 B3 B4 B5 j0 b0 v0 a n CE VO vo, 203⟩)
    : (OZ F Tryz.prog gl W true 2).call 17 [.ptr 28 0] K ⟨[(30, B0), (9, B1), (3, B2), (2, B3), (1, B4), (0, B5), (28, .cells ([.str s.title, .sl 14 (s.bars.map Ba.av) .none, .msl 20 0 s.parts.length 5, .int .i64 1, .int .i64 (j0 : Nat), .int .i64 (b0 : Nat), .int .i64 (v0 : Nat), .int .i64 (a : Nat), .int .i64 (n : Nat), .sl 9 (o.events.map Ev.av) .none, .sl 14 (o.bars.map Ba.av) .none, .sl 1 (o.cells.map cellsAV) .none, .sl 1 (o.dyns.map dynssAV) .none, .int .i64 o.steps, .int .i64 o.halves, .str o.text] ++ back0)), (20, .cells (rowsAt (paC 21 s.parts j0) s.parts.length)), (21, .cells CE), (22, .cells VO), (23, .cells (vo.l.flatMap Ev.cells))], 72⟩ := by
  have hcell := cell_rd s (.int .i64 1) (v0 : Nat) (a : Nat) j0 (.int .i64 (n : Nat) :: .sl 9 (o.events.map Ev.av) .none :: .sl 14 (o.bars.map Ba.av) .none :: .sl 1 (o.cells.map cellsAV) .none :: .sl 1 (o.dyns.map dynssAV) .none :: .int .i64 o.steps :: .int .i64 o.halves :: .str o.text :: back0) CE b0 hj hbb (by rw [hcl]; exact hb0)
  have k1 : b0 ≤ cl := by omega
  have k2 : 1 ≤ cl - b0 := by omega
  have k3 : v0 ≤ vl := by omega
  have k4 : 1 ≤ vl - v0 := by omega
  have k9 : v0 + 1 ≤ vl := by omega
  have k5 : ((v0 : Nat) : Int) < ((vl : Nat) : Int) := by omega
  have k6 : ((a : Nat) : Int) ≤ ((a + n : Nat) : Int) := by omega
  have k7 : ((a + n : Nat) : Int) ≤ ((vo.l.length : Nat) : Int) := by omega
  have hw : IntKind.i64.wrap (((a : Nat) : Int) + ((n : Nat) : Int)) = ((a + n : Nat) : Int) := by rw [wrap_in (by omega)]; rfl
  have hsub : a + n - a = n := by omega
  have hev := edEvents_own o.events hol hos
  simp only [back0, List.cons_append, List.nil_append]
  have k8 : ((a : Nat) : Int) < ((vo.l.length : Nat) : Int) := by omega
  rw [hm] at hev
  simp only [ownA_zero, ownH_zero] at hev
  (refine OZ_inline hF hro mix names 2 (fn := Tryz.f17) Tryz.func17 rfl ?_; simp -implicitDefEqProofs only [Tryz.ntmps17, Tryz.results17, fr0, st0, List.length_cons, List.length_nil, List.cons_append, List.nil_append, Nat.reduceAdd, Nat.reduceSub, List.replicate_succ, List.replicate_zero])
  repeat' (first
    | simp -implicitDefEqProofs only [↓reduceIte, runsY, lstY, facts, Nat.reduceAdd, Nat.reduceEqDiff, Nat.reduceLeDiff, List.flatMap_cons, List.flatMap_nil, AV.cells, Option.map_none, AV.one, bnd, ren_nilsl, hup_nil, hC_nil, dh0, hkeep_cons, hkeep_nil, kin23b, List.length_drop, Int.natCast_nonneg, vops_nil, vops_cons, vstep_val, vstep_skip, drawVK_at, *]
    | ((with_reducible refine v_at 45 ?_); refine vstep_call (there_t _ _ (by omega)) (rfl) ?_)
    | ((with_reducible refine v_at 46 ?_); refine vstep_call (span_t _ _ _ (by omega) (by omega)) (rfl) ?_)
    | ((with_reducible refine v_at 47 ?_); refine vstep_rd [23] _ (clonePart_rd vo.l hll a n han) (rd_sub ⟨⟨rfl, rfl⟩, trivial⟩) ?_)
    | ((with_reducible refine v_at 48 ?_); refine vstep_wide [23] rfl (repl_z hF hro vo.l o.events a n hm han hsum) rfl (by show 183 ≤ 184; decide) ?_)
    | ((with_reducible refine v_at 49 ?_); refine vstep_own hF hro hev (rfl) ?_)
    | ((with_reducible refine v_at 44 ?_); refine vstep_rd [28, 20, 21] _ hcell (rd_sub ⟨⟨rfl, rfl⟩, ⟨rfl, rfl⟩, ⟨rfl, rfl⟩, trivial⟩) ?_)
    | ((with_reducible refine OZ_drawn ?_); refine OZ_drawV (by decide +kernel) ?_)
    | ((with_reducible refine wend ?_ ?_); · decide +kernel))
  rw [evPost, hm] at hK
  exact hK
set_option maxRecDepth 100000 in
set_option maxHeartbeats 8000000 in
theorem ev_es (s : Sc) (o : EOp) (B0 B1 B2 B3 B4 B5 : Blk) (j0 b0 v0 a n : Nat) (CE VO : List AV) (cl vl : Nat) (vo : Vo) (hj : j0 < s.parts.length) (hbb : b0 < s.bars.length) (hb0 : b0 < cl) (hv0 : v0 < vl) (hcl : (s.parts.getD j0 pa0).cells.length = cl)
    (hq1 : CE.length = cl) (hq2 : (List.drop b0 CE).head? = some (.msl 22 0 vl 1)) (hv1 : VO.length = vl) (hv2 : (List.drop v0 VO).head? = some (.msl 23 0 vo.l.length 9))
    (han : a + n ≤ vo.l.length) (hll : vo.l.length ≤ 1000000) (hol : o.events.length ≤ 1000000) (hos : ∀ e ∈ o.events, e.short) (hsum : vo.l.length + o.events.length + 1 ≤ 1000000) (hal : vo.l.length ≤ a) (m : Nat) (hm : o.events.length = m + 1)
    {F : Fence} (hF : Free F) (hro : F.round = none) {W : World} {K : AV → St → Prop} (hK : K (.int .i64 0) ⟨evPost s o B0 B1 B2 B3 B4 B5 j0 b0 v0 a n CE VO vo, 203⟩)
    : (OZ F Tryz.prog gl W true 2).call 17 [.ptr 28 0] K ⟨[(30, B0), (9, B1), (3, B2), (2, B3), (1, B4), (0, B5), (28, .cells ([.str s.title, .sl 14 (s.bars.map Ba.av) .none, .msl 20 0 s.parts.length 5, .int .i64 1, .int .i64 (j0 : Nat), .int .i64 (b0 : Nat), .int .i64 (v0 : Nat), .int .i64 (a : Nat), .int .i64 (n : Nat), .sl 9 (o.events.map Ev.av) .none, .sl 14 (o.bars.map Ba.av) .none, .sl 1 (o.cells.map cellsAV) .none, .sl 1 (o.dyns.map dynssAV) .none, .int .i64 o.steps, .int .i64 o.halves, .str o.text] ++ back0)), (20, .cells (rowsAt (paC 21 s.parts j0) s.parts.length)), (21, .cells CE), (22, .cells VO), (23, .cells (vo.l.flatMap Ev.cells))], 72⟩ := by
  have hcell := cell_rd s (.int .i64 1) (v0 : Nat) (a : Nat) j0 (.int .i64 (n : Nat) :: .sl 9 (o.events.map Ev.av) .none :: .sl 14 (o.bars.map Ba.av) .none :: .sl 1 (o.cells.map cellsAV) .none :: .sl 1 (o.dyns.map dynssAV) .none :: .int .i64 o.steps :: .int .i64 o.halves :: .str o.text :: back0) CE b0 hj hbb (by rw [hcl]; exact hb0)
  have k1 : b0 ≤ cl := by omega
  have k2 : 1 ≤ cl - b0 := by omega
  have k3 : v0 ≤ vl := by omega
  have k4 : 1 ≤ vl - v0 := by omega
  have k9 : v0 + 1 ≤ vl := by omega
  have k5 : ((v0 : Nat) : Int) < ((vl : Nat) : Int) := by omega
  have k6 : ((a : Nat) : Int) ≤ ((a + n : Nat) : Int) := by omega
  have k7 : ((a + n : Nat) : Int) ≤ ((vo.l.length : Nat) : Int) := by omega
  have hw : IntKind.i64.wrap (((a : Nat) : Int) + ((n : Nat) : Int)) = ((a + n : Nat) : Int) := by rw [wrap_in (by omega)]; rfl
  have hsub : a + n - a = n := by omega
  have hev := edEvents_own o.events hol hos
  simp only [back0, List.cons_append, List.nil_append]
  have hn : n = 0 := by omega
  subst hn
  have k8 : ¬ ((a : Nat) : Int) < ((vo.l.length : Nat) : Int) := by omega
  simp only [Nat.add_zero] at k6 k7 hw han
  have hw0 : IntKind.i64.wrap (((a : Nat) : Int) + 0) = ((a : Nat) : Int) := by rw [wrap_in (by omega), Int.add_zero]
  rw [hm] at hev
  simp only [ownA_succ, ownH_succ] at hev
  (refine OZ_inline hF hro mix names 2 (fn := Tryz.f17) Tryz.func17 rfl ?_; simp -implicitDefEqProofs only [Tryz.ntmps17, Tryz.results17, fr0, st0, List.length_cons, List.length_nil, List.cons_append, List.nil_append, Nat.reduceAdd, Nat.reduceSub, List.replicate_succ, List.replicate_zero])
  repeat' (first
    | simp -implicitDefEqProofs only [↓reduceIte, runsY, lstY, facts, Nat.reduceAdd, Nat.reduceEqDiff, Nat.reduceLeDiff, List.flatMap_cons, List.flatMap_nil, AV.cells, Option.map_none, AV.one, bnd, ren_up, hup_cons, hup_nil, hC_cons, hC_nil, evRen, dh0, hkeep_cons, hkeep_nil, kin23, List.length_drop, Int.natCast_nonneg, vops_nil, vops_cons, vstep_val, vstep_skip, drawVK_at, *]
    | ((with_reducible refine v_at 45 ?_); refine vstep_call (there_t _ _ (by omega)) (rfl) ?_)
    | ((with_reducible refine v_at 46 ?_); refine vstep_call (span_t _ _ _ (by omega) (by omega)) (rfl) ?_)
    | ((with_reducible refine v_at 47 ?_); refine vstep_rd [] _ (cloneEv0_rd []) (rd_sub (hl := []) trivial) ?_)
    | ((with_reducible refine v_at 48 ?_); refine vstep_wide [23, 164] rfl (repl_s hF hro vo.l o.events a 0 m hm han hsum) rfl (by show 183 ≤ 184; decide) ?_)
    | ((with_reducible refine v_at 49 ?_); refine vstep_own hF hro hev (rfl) ?_)
    | ((with_reducible refine v_at 44 ?_); refine vstep_rd [28, 20, 21] _ hcell (rd_sub ⟨⟨rfl, rfl⟩, ⟨rfl, rfl⟩, ⟨rfl, rfl⟩, trivial⟩) ?_)
    | ((with_reducible refine OZ_drawn ?_); refine OZ_drawV (by decide +kernel) ?_)
    | ((with_reducible refine wend ?_ ?_); · decide +kernel))
  rw [evPost, hm, List.take_zero, List.map_nil] at hK
  exact hK
set_option maxRecDepth 100000 in
set_option maxHeartbeats 8000000 in
theorem ev_ez (s : Sc) (o : EOp) (B0 B1 B2 B3 B4 B5 : Blk) (j0 b0 v0 a n : Nat) (CE VO : List AV) (cl vl : Nat) (vo : Vo) (hj : j0 < s.parts.length) (hbb : b0 < s.bars.length) (hb0 : b0 < cl) (hv0 : v0 < vl) (hcl : (s.parts.getD j0 pa0).cells.length = cl)
    (hq1 : CE.length = cl) (hq2 : (List.drop b0 CE).head? = some (.msl 22 0 vl 1)) (hv1 : VO.length = vl) (hv2 : (List.drop v0 VO).head? = some (.msl 23 0 vo.l.length 9))
    (han : a + n ≤ vo.l.length) (hll : vo.l.length ≤ 1000000) (hol : o.events.length ≤ 1000000) (hos : ∀ e ∈ o.events, e.short) (hsum : vo.l.length + o.events.length + 1 ≤ 1000000) (hal : vo.l.length ≤ a) (hm : o.events.length = 0)
    {F : Fence} (hF : Free F) (hro : F.round = none) {W : World} {K : AV → St → Prop} (hK : K (.int .i64 0) ⟨evPost s o B0 B1 B2 B3 B4 B5 j0 b0 v0 a n CE VO vo, 203⟩)
    : (OZ F Tryz.prog gl W true 2).call 17 [.ptr 28 0] K ⟨[(30, B0), (9, B1), (3, B2), (2, B3), (1, B4), (0, B5), (28, .cells ([.str s.title, .sl 14 (s.bars.map Ba.av) .none, .msl 20 0 s.parts.length 5, .int .i64 1, .int .i64 (j0 : Nat), .int .i64 (b0 : Nat), .int .i64 (v0 : Nat), .int .i64 (a : Nat), .int .i64 (n : Nat), .sl 9 (o.events.map Ev.av) .none, .sl 14 (o.bars.map Ba.av) .none, .sl 1 (o.cells.map cellsAV) .none, .sl 1 (o.dyns.map dynssAV) .none, .int .i64 o.steps, .int .i64 o.halves, .str o.text] ++ back0)), (20, .cells (rowsAt (paC 21 s.parts j0) s.parts.length)), (21, .cells CE), (22, .cells VO), (23, .cells (vo.l.flatMap Ev.cells))], 72⟩ := by
  have hcell := cell_rd s (.int .i64 1) (v0 : Nat) (a : Nat) j0 (.int .i64 (n : Nat) :: .sl 9 (o.events.map Ev.av) .none :: .sl 14 (o.bars.map Ba.av) .none :: .sl 1 (o.cells.map cellsAV) .none :: .sl 1 (o.dyns.map dynssAV) .none :: .int .i64 o.steps :: .int .i64 o.halves :: .str o.text :: back0) CE b0 hj hbb (by rw [hcl]; exact hb0)
  have k1 : b0 ≤ cl := by omega
  have k2 : 1 ≤ cl - b0 := by omega
  have k3 : v0 ≤ vl := by omega
  have k4 : 1 ≤ vl - v0 := by omega
  have k9 : v0 + 1 ≤ vl := by omega
  have k5 : ((v0 : Nat) : Int) < ((vl : Nat) : Int) := by omega
  have k6 : ((a : Nat) : Int) ≤ ((a + n : Nat) : Int) := by omega
  have k7 : ((a + n : Nat) : Int) ≤ ((vo.l.length : Nat) : Int) := by omega
  have hw : IntKind.i64.wrap (((a : Nat) : Int) + ((n : Nat) : Int)) = ((a + n : Nat) : Int) := by rw [wrap_in (by omega)]; rfl
  have hsub : a + n - a = n := by omega
  have hev := edEvents_own o.events hol hos
  simp only [back0, List.cons_append, List.nil_append]
  have hn : n = 0 := by omega
  subst hn
  have k8 : ¬ ((a : Nat) : Int) < ((vo.l.length : Nat) : Int) := by omega
  simp only [Nat.add_zero] at k6 k7 hw han
  have hw0 : IntKind.i64.wrap (((a : Nat) : Int) + 0) = ((a : Nat) : Int) := by rw [wrap_in (by omega), Int.add_zero]
  rw [hm] at hev
  simp only [ownA_zero, ownH_zero] at hev
  (refine OZ_inline hF hro mix names 2 (fn := Tryz.f17) Tryz.func17 rfl ?_; simp -implicitDefEqProofs only [Tryz.ntmps17, Tryz.results17, fr0, st0, List.length_cons, List.length_nil, List.cons_append, List.nil_append, Nat.reduceAdd, Nat.reduceSub, List.replicate_succ, List.replicate_zero])
  repeat' (first
    | simp -implicitDefEqProofs only [↓reduceIte, runsY, lstY, facts, Nat.reduceAdd, Nat.reduceEqDiff, Nat.reduceLeDiff, List.flatMap_cons, List.flatMap_nil, AV.cells, Option.map_none, AV.one, bnd, ren_nilsl, hup_nil, hC_nil, dh0, hkeep_cons, hkeep_nil, kin23b, List.length_drop, Int.natCast_nonneg, vops_nil, vops_cons, vstep_val, vstep_skip, drawVK_at, *]
    | ((with_reducible refine v_at 45 ?_); refine vstep_call (there_t _ _ (by omega)) (rfl) ?_)
    | ((with_reducible refine v_at 46 ?_); refine vstep_call (span_t _ _ _ (by omega) (by omega)) (rfl) ?_)
    | ((with_reducible refine v_at 47 ?_); refine vstep_rd [] _ (cloneEv0_rd []) (rd_sub (hl := []) trivial) ?_)
    | ((with_reducible refine v_at 48 ?_); refine vstep_wide [23] rfl (repl_z hF hro vo.l o.events a 0 hm han hsum) rfl (by show 183 ≤ 184; decide) ?_)
    | ((with_reducible refine v_at 49 ?_); refine vstep_own hF hro hev (rfl) ?_)
    | ((with_reducible refine v_at 44 ?_); refine vstep_rd [28, 20, 21] _ hcell (rd_sub ⟨⟨rfl, rfl⟩, ⟨rfl, rfl⟩, ⟨rfl, rfl⟩, trivial⟩) ?_)
    | ((with_reducible refine OZ_drawn ?_); refine OZ_drawV (by decide +kernel) ?_)
    | ((with_reducible refine wend ?_ ?_); · decide +kernel))
  rw [evPost, hm, List.take_zero, List.map_nil] at hK
  exact hK
set_option maxRecDepth 100000 in
set_option maxHeartbeats 8000000 in
theorem events_call (s : Sc) (o : EOp) (B0 B1 B2 B3 B4 B5 : Blk) (j0 b0 v0 a n : Nat) (CE VO : List AV) (cl vl : Nat) (vo : Vo) (hj : j0 < s.parts.length) (hbb : b0 < s.bars.length) (hb0 : b0 < cl) (hv0 : v0 < vl) (hcl : (s.parts.getD j0 pa0).cells.length = cl)
    (hq1 : CE.length = cl) (hq2 : (List.drop b0 CE).head? = some (.msl 22 0 vl 1)) (hv1 : VO.length = vl) (hv2 : (List.drop v0 VO).head? = some (.msl 23 0 vo.l.length 9))
    (han : a + n ≤ vo.l.length) (hll : vo.l.length ≤ 1000000) (hol : o.events.length ≤ 1000000) (hos : ∀ e ∈ o.events, e.short) (hsum : vo.l.length + o.events.length + 1 ≤ 1000000)
    {F : Fence} (hF : Free F) (hro : F.round = none) {W : World} {K : AV → St → Prop} (hK : K (.int .i64 0) ⟨evPost s o B0 B1 B2 B3 B4 B5 j0 b0 v0 a n CE VO vo, 203⟩)
    : (OZ F Tryz.prog gl W true 2).call 17 [.ptr 28 0] K ⟨[(30, B0), (9, B1), (3, B2), (2, B3), (1, B4), (0, B5), (28, .cells ([.str s.title, .sl 14 (s.bars.map Ba.av) .none, .msl 20 0 s.parts.length 5, .int .i64 1, .int .i64 (j0 : Nat), .int .i64 (b0 : Nat), .int .i64 (v0 : Nat), .int .i64 (a : Nat), .int .i64 (n : Nat), .sl 9 (o.events.map Ev.av) .none, .sl 14 (o.bars.map Ba.av) .none, .sl 1 (o.cells.map cellsAV) .none, .sl 1 (o.dyns.map dynssAV) .none, .int .i64 o.steps, .int .i64 o.halves, .str o.text] ++ back0)), (20, .cells (rowsAt (paC 21 s.parts j0) s.parts.length)), (21, .cells CE), (22, .cells VO), (23, .cells (vo.l.flatMap Ev.cells))], 72⟩ := by
  rcases Nat.lt_or_ge a vo.l.length with hal | hal
  · rcases hm : o.events.length with _ | m
    · exact ev_iz s o B0 B1 B2 B3 B4 B5 j0 b0 v0 a n CE VO cl vl vo hj hbb hb0 hv0 hcl hq1 hq2 hv1 hv2 han hll hol hos hsum hal hm hF hro hK
    · exact ev_is s o B0 B1 B2 B3 B4 B5 j0 b0 v0 a n CE VO cl vl vo hj hbb hb0 hv0 hcl hq1 hq2 hv1 hv2 han hll hol hos hsum hal m hm hF hro hK
  · rcases hm : o.events.length with _ | m
    · exact ev_ez s o B0 B1 B2 B3 B4 B5 j0 b0 v0 a n CE VO cl vl vo hj hbb hb0 hv0 hcl hq1 hq2 hv1 hv2 han hll hol hos hsum hal hm hF hro hK
    · exact ev_es s o B0 B1 B2 B3 B4 B5 j0 b0 v0 a n CE VO cl vl vo hj hbb hb0 hv0 hcl hq1 hq2 hv1 hv2 han hll hol hos hsum hal m hm hF hro hK
end Go.Proofs.Pv
