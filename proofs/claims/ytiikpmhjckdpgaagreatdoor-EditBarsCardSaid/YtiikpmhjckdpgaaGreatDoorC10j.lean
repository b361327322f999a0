/-
  Layer 9: edit.Apply at an edit of as many events as there are from its place on.
  Conditions: a right score; a place that there is.
-/
import Derived.Test.YtiikpmhjckdpgaaGreatDoorC09k
import Derived.Test.YtiikpmhjckdpgaaGreatDoorC10c
namespace Go.Proofs.Pv
open Go Go.Proofs
set_option linter.unusedSimpArgs false
set_option linter.unusedVariables false
theorem replaceEv1_wide (CA CM CB CV : List AV) (a d b m : Nat) (hA : CA.length = a * 9) (hM : CM.length = d * 9) (hB : CB.length = b * 9) (hV : CV.length = m * 9) (oA : CA.all AV.one = true) (oM : CM.all AV.one = true) (oB : CB.all AV.one = true) (oV : CV.all AV.one = true) (rA : ∀ f, CA.map (AV.ren f) = CA) (rB : ∀ f, CB.map (AV.ren f) = CB) (rV : ∀ f, CV.map (AV.ren f) = CV)
  (hbd : a + d + b + m + 1 ≤ 1000000) (hdm : 0 < d ∧ d = m) (hb : b = 0) : Wide Tryz.prog gl 48 [.msl 0 0 (a + d + b) 9, .int .i64 (a : Nat), .int .i64 ((a + d : Nat) : Int), ownA 1 9 m] (hC ((0, CA ++ CM ++ CB) :: ownH 1 CV m)) 2 (.msl 0 0 (a + m + b) 9) [(0, CA ++ CV ++ CB)] 1 := by
 obtain ⟨hd, rfl⟩ := hdm
 obtain ⟨m, rfl⟩ : ∃ m, d = m + 1 := ⟨d - 1, by omega⟩
 refine Wide.cap (cs := CA ++ CM ++ CB) (by simp [hget, hC]) fun c hc => ?_
 rw [hC_cons, hset_head]
 have hPl : (List.replicate (c * 9 - (CA ++ CM ++ CB).length) AV.ud).length = c * 9 - (a + (m + 1) + b) * 9 := by simp [hA, hM, hB]; omega
 exact rep4 CA CM CB CV _ a (m + 1) b m c hA hM hB hPl oA oM oB oV (by omega) hc hV hd hb (by omega) (by omega) rA rB rV
theorem repl1_wide (l es : List Ev) (a n : Nat) (hn1 : n = es.length) (han : a + n = l.length) (h0 : 0 < n) (hs : l.length + es.length + 1 ≤ 1000000) : Wide Tryz.prog gl 48 [.msl 0 0 l.length 9, .int .i64 (a : Nat), .int .i64 ((a + n : Nat) : Int), ownA 1 9 es.length] (hC ((0, l.flatMap Ev.cells) :: ownH 1 (es.flatMap Ev.cells) es.length)) 2 (.msl 0 0 (repl l a n es).length 9) [(0, (repl l a n es).flatMap Ev.cells)] 1 := by
 have hfl : ∀ l : List Ev, (l.flatMap Ev.cells).length = l.length * 9 := flat_length (k := 9) fun _ => rfl
 have hon : ∀ l : List Ev, (l.flatMap Ev.cells).all AV.one = true := oneFlat fun _ => rfl
 have := replaceEv1_wide ((l.take a).flatMap Ev.cells) (((l.drop a).take n).flatMap Ev.cells) ((l.drop (a + n)).flatMap Ev.cells) (es.flatMap Ev.cells) a n (l.length - (a + n)) es.length
  (by rw [hfl, List.length_take]; congr 1; omega) (by rw [hfl, List.length_take, List.length_drop]; congr 1; omega) (by rw [hfl, List.length_drop]) (by rw [hfl]) (hon _) (hon _) (hon _) (hon _) (fun f => evRen _) (fun f => evRen _) (fun f => evRen _) (by omega) (by omega) (by omega)
 have e1 : a + n + (l.length - (a + n)) = l.length := by omega
 have e2 : (repl l a n es).length = a + es.length + (l.length - (a + n)) := by simp only [repl, List.length_append, List.length_take, List.length_drop]; omega
 have e3 : (l.take a).flatMap Ev.cells ++ ((l.drop a).take n).flatMap Ev.cells ++ (l.drop (a + n)).flatMap Ev.cells = l.flatMap Ev.cells := by
  rw [← List.flatMap_append, ← List.flatMap_append]
  congr 1
  rw [← List.drop_drop, List.append_assoc, List.take_append_drop, List.take_append_drop]
 have e4 : (l.take a).flatMap Ev.cells ++ es.flatMap Ev.cells ++ (l.drop (a + n)).flatMap Ev.cells = (repl l a n es).flatMap Ev.cells := by
  simp only [repl, List.flatMap_append]
 rw [e1, e3, e4, ← e2] at this
 exact this
theorem repl1_s {F : Fence} (hF : Free F) (hro : F.round = none) {W : World} (l es : List Ev) (a n m : Nat) (hm : es.length = m + 1) (hn1 : Box (n = es.length ∧ a + n = l.length)) (hs : l.length + es.length + 1 ≤ 1000000) :
  CallOk F Tryz.prog gl W 48 [.msl 23 0 l.length 9, .int .i64 (a : Nat), .int .i64 ((a + n : Nat) : Int), .msl 164 0 (m + 1) 9] (fun u su => u = .msl 183 0 (repl l a n es).length 9 ∧ su = ⟨[(183, .cells ((repl l a n es).flatMap Ev.cells))], 184⟩) ⟨[(23, .cells (l.flatMap Ev.cells)), (164, .cells (es.flatMap Ev.cells))], 183⟩ := by
 have hw := repl1_wide l es a n hn1.out.1 hn1.out.2 (by have := hn1.out.1; omega) hs
 rw [hm] at hw
 simp only [ownA_succ, ownH_succ, hC_cons, hC_nil] at hw
 refine hw.call hF hro (fun k => if k = 23 then some 0 else if k = 164 then some 1 else none) (fun k => if k = 0 then some 23 else if k = 1 then some 164 else none) ?_ (fun k hk => by show (if k = 0 then some 23 else if k = 1 then some 164 else none) = none; rw [if_neg (by omega), if_neg (by omega)]) (st := ⟨[(23, .cells (l.flatMap Ev.cells)), (164, .cells (es.flatMap Ev.cells))], 183⟩) (HRen.cons 23 rfl rfl (evRen _) (HRen.cons 164 rfl rfl (evRen _) HRen.nil)) rfl ⟨rfl, ?_⟩
 ·intro k k' h
  split at h
  ·rename_i e; subst e; cases h; rfl
  ·split at h
   ·rename_i e; subst e; cases h; rfl
   ·cases h
 ·simp only [hup_cons, hup_nil, hC_cons, hC_nil, evRen]
set_option maxRecDepth 100000 in
set_option maxHeartbeats 8000000 in
theorem ev1 (s : Sc) (o : EOp) (B0 B1 B2 B3 B4 B5 : Blk) (j0 b0 v0 a n : Nat) (CE VO : List AV) (cl vl : Nat) (vo : Vo) (hj : j0 < s.parts.length) (hbb : b0 < s.bars.length) (hb0 : b0 < cl) (hv0 : v0 < vl) (hcl : (s.parts.getD j0 pa0).cells.length = cl)
  (hq1 : CE.length = cl) (hq2 : (List.drop b0 CE).head? = some (.msl 22 0 vl 1)) (hv1 : VO.length = vl) (hv2 : (List.drop v0 VO).head? = some (.msl 23 0 vo.l.length 9))
  (han : a + n ≤ vo.l.length) (hll : vo.l.length ≤ 1000000) (hol : o.events.length ≤ 1000000) (hos : ∀ e ∈ o.events, e.short) (hsum : vo.l.length + o.events.length + 1 ≤ 1000000) (hal : a < vo.l.length) (m : Nat) (hm : o.events.length = m + 1) (hn1 : Box (n = o.events.length ∧ a + n = vo.l.length))
  {F : Fence} (hF : Free F) (hro : F.round = none) {W : World} {K : AV → St → Prop} (hK : K (.int .i64 0) ⟨evPost s o B0 B1 B2 B3 B4 B5 j0 b0 v0 a n CE VO vo, 203⟩)
  : (OZ F Tryz.prog gl W true 2).call 17 [.ptr 28 0] K ⟨[(30, B0), (9, B1), (3, B2), (2, B3), (1, B4), (0, B5), (28, .cells ([.str s.title, .sl 14 (s.bars.map Ba.av) .none, .msl 20 0 s.parts.length 5, .int .i64 1, .int .i64 (j0 : Nat), .int .i64 (b0 : Nat), .int .i64 (v0 : Nat), .int .i64 (a : Nat), .int .i64 (n : Nat), .sl 9 (o.events.map Ev.av) .none, .sl 14 (o.bars.map Ba.av) .none, .sl 1 (o.cells.map cellsAV) .none, .sl 1 (o.dyns.map dynssAV) .none, .int .i64 o.steps, .int .i64 o.halves, .str o.text] ++ back0)), (20, .cells (rowsAt (paC 21 s.parts j0) s.parts.length)), (21, .cells CE), (22, .cells VO), (23, .cells (vo.l.flatMap Ev.cells))], 72⟩ := by
 have hcell := cell_rd s (.int .i64 1) (v0 : Nat) (a : Nat) j0 (.int .i64 (n : Nat) :: .sl 9 (o.events.map Ev.av) .none :: .sl 14 (o.bars.map Ba.av) .none :: .sl 1 (o.cells.map cellsAV) .none :: .sl 1 (o.dyns.map dynssAV) .none :: .int .i64 o.steps :: .int .i64 o.halves :: .str o.text :: back0) CE b0 hj hbb (by rw [hcl]; exact hb0)
 have k1 : b0 ≤ cl := by omega
 have k2 : 1 ≤ cl - b0 := by omega
 have k3 : v0 ≤ vl := by omega
 have k4 : 1 ≤ vl - v0 := by omega
 have k9 : v0 + 1 ≤ vl := by omega
 have k5 : ((v0 : Nat) : Int) < ((vl : Nat) : Int) := by omega
 have k6 : ((a : Nat) : Int) ≤ ((a + n : Nat) : Int) := by omega
 have k7 : ((a + n : Nat) : Int) ≤ ((vo.l.length : Nat) : Int) := by omega
 have hw : IntKind.i64.wrap (((a : Nat) : Int) + ((n : Nat) : Int)) = ((a + n : Nat) : Int) := by rw [wrap_in (by omega)]; rfl
 have hsub : a + n - a = n := by omega
 have hev := edEvents_own o.events hol hos
 simp only [back0, List.cons_append, List.nil_append]
 have k8 : ((a : Nat) : Int) < ((vo.l.length : Nat) : Int) := by omega
 rw [hm] at hev
 simp only [ownA_succ, ownH_succ] at hev
 (refine OZ_inline hF hro mix names 2 (fn := Tryz.f17) Tryz.func17 rfl ?_; simp -implicitDefEqProofs only [Tryz.ntmps17, Tryz.results17, entL, Nat.reduceAdd, Nat.reduceSub])
 repeat' (first
  | simp -implicitDefEqProofs (maxSteps := 9999999) only [↓reduceIte, runsY, lstY, facts, Nat.reduceAdd, Nat.reduceEqDiff, Nat.reduceLeDiff, List.flatMap_cons, List.flatMap_nil, AV.cells, Option.map_none, AV.one, bnd, ren_up, hup_cons, hup_nil, hC_cons, hC_nil, evRen, dh0, hkeep_cons, hkeep_nil, kin23, List.length_drop, Int.natCast_nonneg, vops_nil, vops_cons, vstep_val, vstep_skip, drawVK_at, *]
  | ((with_reducible refine v_at 45 ?_); refine vstep_call (there_t _ _ (by omega)) (rfl) ?_)
  | ((with_reducible refine v_at 46 ?_); refine vstep_call (span_t _ _ _ (by omega) (by omega)) (rfl) ?_)
  | ((with_reducible refine v_at 47 ?_); refine vstep_rd [23] _ (clonePart_rd vo.l hll a n han) (rd_sub ⟨⟨rfl, rfl⟩, trivial⟩) ?_)
  | ((with_reducible refine v_at 48 ?_); refine vstep_wide [23, 164] rfl (repl1_s hF hro vo.l o.events a n m hm hn1 hsum) rfl (by show 183 ≤ 184; decide) ?_)
  | ((with_reducible refine v_at 49 ?_); refine vstep_own hF hro hev (rfl) ?_)
  | ((with_reducible refine v_at 44 ?_); refine vstep_rd [28, 20, 21] _ hcell (rd_sub ⟨⟨rfl, rfl⟩, ⟨rfl, rfl⟩, ⟨rfl, rfl⟩, trivial⟩) ?_)
  | ((with_reducible refine OZ_drawn ?_); refine OZ_drawV (by decide +kernel) ?_)
  | ((with_reducible refine wend ?_ ?_); · decide +kernel))
 rw [evPost, hm] at hK
 exact hK
set_option maxRecDepth 100000 in
set_option maxHeartbeats 8000000 in
theorem apply1_own (s : Sc) (o : EOp) (hk : o.kind = 1) (hs : s.small) (hg : s.good) (hchk : s.checkR.2 = 0) (j0 b0 v0 a n : Nat) (hj : j0 < s.parts.length) (hbb : b0 < s.bars.length) (hb0 : b0 < (s.parts.getD j0 pa0).cells.length) (hv0 : v0 < ((s.parts.getD j0 pa0).cells.getD b0 []).length)
  (hp : o.part = (j0 : Nat)) (hq : o.bar = (b0 : Nat)) (hv : o.voice = (v0 : Nat)) (ha : o.at_ = (a : Nat)) (hn : o.count = (n : Nat))
  (vo : Vo) (hvo : ((s.parts.getD j0 pa0).cells.getD b0 []).getD v0 ⟨[]⟩ = vo) (han : a + n ≤ vo.l.length) (hll : vo.l.length ≤ 1000000) (hol : o.events.length ≤ 1000000) (hos : ∀ e ∈ o.events, e.short) (hsum : vo.l.length + o.events.length + 1 ≤ 1000000)
  (hal : a < vo.l.length) (m : Nat) (hm : Box (o.events.length = m + 1)) (hn1 : Box (n = o.events.length ∧ a + n = vo.l.length)) (hts : (putVo s j0 b0 v0 (repl vo.l a n o.events)).small) (htc : (putVo s j0 b0 v0 (repl vo.l a n o.events)).checkR.2 = 0) :
  Own Tryz.prog gl 7 [s.av, o.av] (.tup [.agg [.str s.title, .sl 14 (s.bars.map Ba.av) .none, .msl 0 0 s.parts.length 5], evBack o j0 b0 v0 a n vo, .int .i64 0])
   [(0, rowsAt (paC 1 s.parts j0) s.parts.length), (1, rowsAt (ceC 2 (s.parts.getD j0 pa0).cells b0) (s.parts.getD j0 pa0).cells.length), (2, rowsAt (voC 3 (((s.parts.getD j0 pa0).cells.getD b0 []).set v0 ⟨repl vo.l a n o.events⟩) v0) ((s.parts.getD j0 pa0).cells.getD b0 []).length), (3, (repl vo.l a n o.events).flatMap Ev.cells)] 4 := by
 have hown := copied_own s hg j0 b0 v0 hj hb0 hv0
 (refine Own.intro 2 mix names (fn := Tryz.f7) Tryz.func7 rfl fun F hF hro W => ?_; simp -implicitDefEqProofs only [Tryz.ntmps7, Tryz.results7, entL, Nat.reduceAdd, Nat.reduceSub])
 repeat' (first
  | simp -implicitDefEqProofs (maxSteps := 9999999) only [↓reduceIte, runsY, lstY, facts, Nat.reduceAdd, Nat.reduceEqDiff, Nat.reduceLeDiff, Int.reduceBEq, Int.reduceBNe, aop2, akc_kind, aeq_kind, afind_nil, afind_cons, ents, AV.cells, AV.one, EOp.av, Sc.av, plcAV, plAV, hk, hchk, ren_score, hup_cons, hup_nil, hC_cons, hC_nil, evRen, voC_up, ceC_up, paC_up, paH_at, vops_nil, vops_cons, vstep_val, drawVK_at, *]
  | ((with_reducible refine v_at 16 ?_); refine vstep_own hF hro hown (rfl) ?_)
  | ((with_reducible refine OZ_drawn ?_); refine OZ_drawV (by decide +kernel) ?_)
  | ((with_reducible refine wend ?_ ?_); · decide +kernel)
  | ((with_reducible refine OZ_at 15 ?_); refine PC.useZ hF (check_ok s hs) (rfl) fun v hv => ?_; subst hv))
 refine OZ_at 17 ?_
 have hq1 : (rowsAt (ceC 22 (s.parts.getD j0 pa0).cells b0) (s.parts.getD j0 pa0).cells.length).length = (s.parts.getD j0 pa0).cells.length := by rw [rowsAt_len (k := 1) (fun _ => rfl), Nat.mul_one]
 have hq2 : (List.drop b0 (rowsAt (ceC 22 (s.parts.getD j0 pa0).cells b0) (s.parts.getD j0 pa0).cells.length)).head? = some (.msl 22 0 ((s.parts.getD j0 pa0).cells.getD b0 []).length 1) := by
  have := rowsAt_head (c := ceC 22 (s.parts.getD j0 pa0).cells b0) (k := 1) (fun _ => rfl) hb0 (i := 0) (by omega)
  rw [Nat.mul_one, Nat.add_zero] at this
  rw [this]; simp [ceC]
 have hv1 : (rowsAt (voC 23 ((s.parts.getD j0 pa0).cells.getD b0 []) v0) ((s.parts.getD j0 pa0).cells.getD b0 []).length).length = ((s.parts.getD j0 pa0).cells.getD b0 []).length := by rw [rowsAt_len (k := 1) (fun _ => rfl), Nat.mul_one]
 have hv2 : (List.drop v0 (rowsAt (voC 23 ((s.parts.getD j0 pa0).cells.getD b0 []) v0) ((s.parts.getD j0 pa0).cells.getD b0 []).length)).head? = some (.msl 23 0 vo.l.length 9) := by
  have := rowsAt_head (c := voC 23 ((s.parts.getD j0 pa0).cells.getD b0 []) v0) (k := 1) (fun _ => rfl) hv0 (i := 0) (by omega)
  rw [Nat.mul_one, Nat.add_zero] at this
  rw [this]; simp only [voC, if_true, hvo]; rfl
 refine ev1 s o _ _ _ _ _ _ j0 b0 v0 a n _ _ _ _ vo hj hbb hb0 hv0 rfl hq1 hq2 hv1 hv2 han hll hol hos hsum hal m hm.out hn1 hF hro ?_
 simp only [evPost]
 repeat' (first
  | simp -implicitDefEqProofs (maxSteps := 9999999) only [↓reduceIte, runsY, lstY, facts, Nat.reduceAdd, Nat.reduceEqDiff, Nat.reduceLeDiff, Int.reduceBNe, plcAV, plAV, htc, vops_nil, vops_cons, vstep_val, vstep_skip, drawVK_at, *]
  | ((with_reducible refine OZ_drawn ?_); refine OZ_drawV (by decide +kernel) ?_)
  | ((with_reducible refine wend ?_ ?_); · decide +kernel)
  | ((with_reducible refine OZ_at 15 ?_); (refine OZ_now hF (fun k => k == 22) 5 (check_ok _ hts) (fun v hv => by subst hv; rfl) (by simp only [List.map_cons, List.map_nil]; rw [scNow_put (d := 0) hj hb0 hv0 rfl rfl rfl rfl rfl rfl]) (fun v hv => ?_); subst hv)))
 have hsp := putV_rows (q := 23) (q' := 183) (l := repl vo.l a n o.events) hv0
 simp only [splice, List.length_cons, List.length_nil, Nat.zero_add] at hsp
 rw [hsp]
 exact OwnK.of [(20, 0), (21, 1), (22, 2), (183, 3)] rfl (HRen.cons 20 rfl rfl (rowsAt_ren _ fun j _ => paC_ren (f := renK 0 [(20, 0), (21, 1), (22, 2), (183, 3)]) (q := 21) (q' := 1) rfl _ _ j) (HRen.cons 21 rfl rfl (rowsAt_ren _ fun j _ => ceC_ren (f := renK 0 [(20, 0), (21, 1), (22, 2), (183, 3)]) (q := 22) (q' := 2) rfl _ _ j) (HRen.cons 22 rfl rfl (rowsAt_ren _ fun j _ => voC_ren (f := renK 0 [(20, 0), (21, 1), (22, 2), (183, 3)]) (q := 183) (q' := 3) rfl _ _ j) (HRen.cons 183 rfl rfl (evRen _) HRen.nil)))) rfl
end Go.Proofs.Pv
