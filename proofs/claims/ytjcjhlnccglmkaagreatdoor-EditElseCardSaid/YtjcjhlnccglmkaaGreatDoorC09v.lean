/-
  EditElse: what the law's own steps do with a score that was edited.
  Conditions: the law's awake answers true.
-/
import Derived.Test.YtjcjhlnccglmkaaGreatDoorC09u
namespace Go.Proofs.Pv
open Go Go.Proofs
set_option linter.unusedSimpArgs false
set_option linter.unusedVariables false
set_option maxRecDepth 100000
set_option maxHeartbeats 8000000
/-- Voices, none of which is open, as they stand. -/
theorem voNow' {sty : Nat → Bool} {hp : Hp} {d key : Nat} (vs : List Vo) (hs : sty key = true) (hk : hp key = some (.cells (rowsAt (fun j => [.sl 9 ((vs.getD j ⟨[]⟩).l.map Ev.av) .none]) vs.length))) :
    AV.nowS sty hp (d + 2) (.msl key 0 vs.length 1) = .sl 1 (vs.map Vo.av) .none := by
  have hrow : (rowsAt (fun j => [AV.sl 9 ((vs.getD j ⟨[]⟩).l.map Ev.av) .none]) vs.length).map (AV.nowS sty hp (d + 1)) = vs.flatMap fun v => [.sl 9 (v.l.map Ev.av) .none] := by
    rw [rowsAt_mapF (c' := fun j => [.sl 9 ((vs.getD j ⟨[]⟩).l.map Ev.av) .none]) _ fun j hj' => rfl]
    exact rowsAt_map fun j hj' => by rw [List.getD_eq_getElem?_getD, List.getElem?_eq_getElem hj']; rfl
  refine (nowS_own hk (by decide) hrow (by rw [rowsAt_len (k := 1) (fun _ => rfl)]; omega) (pureFlat (fun _ => rfl) vs)).trans ?_
  rw [hs, Bool.or_true, chunksFlat (c := fun v : Vo => [AV.sl 9 (v.l.map Ev.av) .none]) (k := 1) (fun _ => rfl) vs]
  rfl
theorem ceNow' {sty : Nat → Bool} {hp : Hp} {d key q : Nat} (vs : List (List Vo)) (j0 : Nat) (hj : j0 < vs.length) (hs : sty key = false) (hsq : sty q = true) (hk : hp key = some (.cells (rowsAt (ceC q vs j0) vs.length)))
    (hq : hp q = some (.cells (rowsAt (fun j => [.sl 9 (((vs.getD j0 []).getD j ⟨[]⟩).l.map Ev.av) .none]) (vs.getD j0 []).length))) :
    AV.nowS sty hp (d + 3) (.msl key 0 vs.length 1) = .sl 1 (vs.map cellAV) .none := by
  have hrow : (rowsAt (ceC q vs j0) vs.length).map (AV.nowS sty hp (d + 2)) = vs.flatMap fun v => [cellAV v] := by
    rw [rowsAt_mapF (c' := fun j => [cellAV (vs.getD j [])]) _ fun j hj' => ?_]
    · exact rowsAt_map fun j hj' => by rw [List.getD_eq_getElem?_getD, List.getElem?_eq_getElem hj']; rfl
    · by_cases e : j = j0
      · subst e
        simp only [ceC, if_true, List.map_cons, List.map_nil]
        rw [voNow' _ hsq hq]; rfl
      · simp only [ceC, if_neg e, List.map_cons, List.map_nil]
        rfl
  refine (nowS_own hk (by decide) hrow (by rw [rowsAt_len (k := 1) (fun _ => rfl)]; omega) (pureFlat (fun _ => rfl) vs)).trans ?_
  rw [hs, Bool.or_false, flatOne vs, show (!(Nat.beq 1 1)) = false from rfl, chunksOne vs]
/-- A score of which one voice's way is open, but for its events, as it stands. -/
theorem scNow' {sty : Nat → Bool} {hp : Hp} {d kp qc qv : Nat} (s : Sc) (j0 b0 : Nat) (hj : j0 < s.parts.length) (hb0 : b0 < (s.parts.getD j0 pa0).cells.length) (hs1 : sty qc = false) (hs2 : sty qv = true)
    (h1 : hp kp = some (.cells (rowsAt (paC qc s.parts j0) s.parts.length))) (h2 : hp qc = some (.cells (rowsAt (ceC qv (s.parts.getD j0 pa0).cells b0) (s.parts.getD j0 pa0).cells.length)))
    (h3 : hp qv = some (.cells (rowsAt (fun j => [.sl 9 ((((s.parts.getD j0 pa0).cells.getD b0 []).getD j ⟨[]⟩).l.map Ev.av) .none]) ((s.parts.getD j0 pa0).cells.getD b0 []).length))) :
    AV.nowS sty hp (d + 5) (.agg [.str s.title, .sl 14 (s.bars.map Ba.av) .none, .msl kp 0 s.parts.length 5]) = s.av := by
  have hrow : (rowsAt (paC qc s.parts j0) s.parts.length).map (AV.nowS sty hp (d + 3)) = s.parts.flatMap Pa.cells5 := by
    rw [rowsAt_mapF (c' := fun j => Pa.cells5 (s.parts.getD j pa0)) _ fun j hj' => ?_]
    · exact rowsAt_map fun j hj' => by rw [List.getD_eq_getElem?_getD, List.getElem?_eq_getElem hj']; rfl
    · by_cases e : j = j0
      · subst e
        simp only [paC, if_true, List.map_cons, List.map_nil]
        rw [ceNow' _ b0 hb0 hs1 hs2 h2 h3]; rfl
      · simp only [paC, if_neg e, List.map_cons, List.map_nil]
        rfl
  have hps : AV.nowS sty hp (d + 4) (.msl kp 0 s.parts.length 5) = .sl 5 (s.parts.map Pa.av) .none := by
    refine (nowS_own h1 (by decide) hrow (by rw [rowsAt_len (k := 5) (fun _ => rfl)]; omega) (pureFlat (fun _ => rfl) s.parts)).trans ?_
    rw [show (!(Nat.beq 5 1) || sty kp) = true from rfl, chunksFlat (c := Pa.cells5) (k := 5) (fun _ => rfl) s.parts]
    rfl
  have : AV.nowS sty hp (d + 5) (.agg [.str s.title, .sl 14 (s.bars.map Ba.av) .none, .msl kp 0 s.parts.length 5]) = .agg [.str s.title, .sl 14 (s.bars.map Ba.av) .none, AV.nowS sty hp (d + 4) (.msl kp 0 s.parts.length 5)] := rfl
  rw [this, hps]; rfl
/-- The voice that was there is put back. -/
theorem back_rows {c : List Vo} {v0 q : Nat} {l : List Ev} (h : v0 < c.length) : splice (rowsAt (voC q (c.set v0 ⟨l⟩) v0) c.length) v0 [.sl 9 ((c.getD v0 ⟨[]⟩).l.map Ev.av) .none] = rowsAt (fun j => [.sl 9 ((c.getD j ⟨[]⟩).l.map Ev.av) .none]) c.length := by
  have := rowsAt_put (c := voC q (c.set v0 ⟨l⟩) v0) (k := 1) (fun _ => rfl) (j := v0) (v := [.sl 9 ((c.getD v0 ⟨[]⟩).l.map Ev.av) .none]) rfl h
  rw [Nat.mul_one] at this
  rw [this]
  refine rowsAt_congr fun i hi => ?_
  by_cases e : i = v0
  · subst e
    simp only [if_true]
  · simp only [voC, if_neg e, getD_set_ne e]
def kind1 (o : EOp) : EOp := { o with kind := 1 }
theorem else_few (s : Sc) (o : EOp) (hup : PC Tryz.prog gl 4 [] (fun v => v = .bool true)) (h : ¬ (s.fewB = true ∧ o.fewB = true)) : PC Tryz.prog gl 3 [s.av, o.av] (fun v => v = .bool true) := by
  have hfo := fewOp_ok (kind1 o)
  have hko : (kind1 o).fewB = o.fewB := rfl
  rw [hko] at hfo
  (refine PC.introZ 2 mix (fn := Tryz.f3) Tryz.func3 rfl (names 3 _ Tryz.func3) fun F hF hro W => ?_; simp -implicitDefEqProofs only [Tryz.ntmps3, Tryz.results3, fr0, st0, List.length_cons, List.length_nil, List.cons_append, List.nil_append, Nat.reduceAdd, Nat.reduceSub, List.replicate_succ, List.replicate_zero])
  repeat' (first
    | simp -implicitDefEqProofs only [↓reduceIte, runsY, lstY, facts, Nat.reduceAdd, Nat.reduceEqDiff, Nat.reduceLeDiff, Sc.av, EOp.av, *]
    | ((with_reducible refine condK_nsplit (fun _ => ?_) (fun _ => ?_)) <;> try (exfalso; omega))
    | ((with_reducible refine sstep_nsplit (fun _ => ?_) (fun _ => ?_)) <;> try (exfalso; omega))
    | ((with_reducible refine OZ_at 4 ?_); refine PC.useZ hF hup (rfl) fun v hv => ?_; subst hv)
    | ((with_reducible refine OZ_at 5 ?_); refine PC.useZ hF (few_ok s) (rfl) fun v hv => ?_; subst hv)
    | ((with_reducible refine OZ_at 6 ?_); refine PC.useZ hF hfo (rfl) fun v hv => ?_; subst hv))
  all_goals (exfalso; simp_all; done)
theorem else_err (s : Sc) (o : EOp) (hup : PC Tryz.prog gl 4 [] (fun v => v = .bool true)) (h1 : s.fewB = true) (h2 : o.fewB = true) (e : Int) (he : e ≠ 0) (hap : PC Tryz.prog gl 7 [s.av, (kind1 o).av] (fun v => v = errR e)) : PC Tryz.prog gl 3 [s.av, o.av] (fun v => v = .bool true) := by
  have hfo := fewOp_ok (kind1 o)
  have hko : (kind1 o).fewB = o.fewB := rfl
  rw [hko] at hfo
  (refine PC.introZ 2 mix (fn := Tryz.f3) Tryz.func3 rfl (names 3 _ Tryz.func3) fun F hF hro W => ?_; simp -implicitDefEqProofs only [Tryz.ntmps3, Tryz.results3, fr0, st0, List.length_cons, List.length_nil, List.cons_append, List.nil_append, Nat.reduceAdd, Nat.reduceSub, List.replicate_succ, List.replicate_zero])
  repeat' (first
    | simp -implicitDefEqProofs only [↓reduceIte, runsY, lstY, facts, Nat.reduceAdd, Nat.reduceEqDiff, Nat.reduceLeDiff, Sc.av, EOp.av, errR, vops_nil, vops_cons, vstep_no, vstep_val, drawVK_at, *]
    | ((with_reducible refine condK_split (fun _ => ?_) (fun _ => ?_)) <;> try (exfalso; omega))
    | ((with_reducible refine vstep_ndec (fun _ => ?_) (fun _ => ?_)) <;> try (exfalso; omega))
    | ((with_reducible refine OZ_drawn ?_); refine OZ_drawV (by decide +kernel) ?_)
    | ((with_reducible refine wend ?_ ?_); · decide +kernel)
    | ((with_reducible refine OZ_at 4 ?_); refine PC.useZ hF hup (rfl) fun v hv => ?_; subst hv)
    | ((with_reducible refine OZ_at 5 ?_); refine PC.useZ hF (few_ok s) (rfl) fun v hv => ?_; subst hv)
    | ((with_reducible refine OZ_at 6 ?_); refine PC.useZ hF hfo (rfl) fun v hv => ?_; subst hv)
    | ((with_reducible refine OZ_at 7 ?_); refine PC.useZ hF hap (rfl) fun v hv => ?_; subst hv))
  all_goals (exfalso; simp_all; done)
theorem ren_apply {n : Nat} {a : ByteArray} {r r9 : List AV} {m : Nat} {b1 b2 b3 b4 b5 b6 : Int} : AV.ren (up n) (.tup [.agg [.str a, .sl 14 r .none, .msl 0 0 m 5], .agg [.int .i64 b1, .int .i64 b2, .int .i64 b3, .int .i64 b4, .int .i64 b5, .int .i64 b6, .sl 9 r9 .none, .sl 14 [] .full, .sl 1 [] .full, .sl 1 [] .full, .int .i64 0, .int .i64 0, .str ⟨#[]⟩], .int .i64 0]) = .tup [.agg [.str a, .sl 14 r .none, .msl (0 + n) 0 m 5], .agg [.int .i64 b1, .int .i64 b2, .int .i64 b3, .int .i64 b4, .int .i64 b5, .int .i64 b6, .sl 9 r9 .none, .sl 14 [] .full, .sl 1 [] .full, .sl 1 [] .full, .int .i64 0, .int .i64 0, .str ⟨#[]⟩], .int .i64 0] := rfl
theorem else_own (s : Sc) (o : EOp) (hup : PC Tryz.prog gl 4 [] (fun v => v = .bool true)) (hg : s.good) (h1 : s.fewB = true) (h2 : o.fewB = true) (j0 b0 v0 a n : Nat) (hj : j0 < s.parts.length) (hb0 : b0 < (s.parts.getD j0 pa0).cells.length) (hv0 : v0 < ((s.parts.getD j0 pa0).cells.getD b0 []).length)
    (hp : o.part = (j0 : Nat)) (hq : o.bar = (b0 : Nat)) (hv : o.voice = (v0 : Nat)) (ha : o.at_ = (a : Nat)) (hn : o.count = (n : Nat)) (l : List Ev) (bk : AV) (hbk : bk = evBack (kind1 o) j0 b0 v0 a n (((s.parts.getD j0 pa0).cells.getD b0 []).getD v0 ⟨[]⟩))
    (hap : Own Tryz.prog gl 7 [s.av, (kind1 o).av] (.tup [.agg [.str s.title, .sl 14 (s.bars.map Ba.av) .none, .msl 0 0 s.parts.length 5], bk, .int .i64 0])
      [(0, rowsAt (paC 1 s.parts j0) s.parts.length), (1, rowsAt (ceC 2 (s.parts.getD j0 pa0).cells b0) (s.parts.getD j0 pa0).cells.length), (2, rowsAt (voC 3 (((s.parts.getD j0 pa0).cells.getD b0 []).set v0 ⟨l⟩) v0) ((s.parts.getD j0 pa0).cells.getD b0 []).length), (3, l.flatMap Ev.cells)] 4) : PC Tryz.prog gl 3 [s.av, o.av] (fun v => v = .bool true) := by
  have hfo := fewOp_ok (kind1 o)
  have hko : (kind1 o).fewB = o.fewB := rfl
  rw [hko] at hfo
  have hav : (kind1 o).av = .agg [.int .i64 1, .int .i64 (j0 : Nat), .int .i64 (b0 : Nat), .int .i64 (v0 : Nat), .int .i64 (a : Nat), .int .i64 (n : Nat), .sl 9 (o.events.map Ev.av) .none, .sl 14 (o.bars.map Ba.av) .none, .sl 1 (o.cells.map cellsAV) .none, .sl 1 (o.dyns.map dynssAV) .none, .int .i64 o.steps, .int .i64 o.halves, .str o.text] := by
    simp only [EOp.av, kind1, hp, hq, hv, ha, hn]
  rw [hav] at hfo hap
  subst hbk
  simp only [evBack] at hap
  have hsame := same_ok s hg
  have hgp : s.parts[j0]? = some (s.parts.getD j0 pa0) := by rw [List.getD_eq_getElem?_getD, List.getElem?_eq_getElem hj]; rfl
  have hgc : (s.parts.getD j0 pa0).cells[b0]? = some ((s.parts.getD j0 pa0).cells.getD b0 []) := by rw [List.getD_eq_getElem?_getD (l := (s.parts.getD j0 pa0).cells), List.getElem?_eq_getElem hb0]; rfl
  have hgv : ((s.parts.getD j0 pa0).cells.getD b0 [])[v0]? = some (((s.parts.getD j0 pa0).cells.getD b0 []).getD v0 ⟨[]⟩) := by rw [List.getD_eq_getElem?_getD (l := (s.parts.getD j0 pa0).cells.getD b0 []), List.getElem?_eq_getElem hv0]; rfl
  have hpl : (rowsAt (paC 15 s.parts j0) s.parts.length).length = s.parts.length * 5 := by rw [rowsAt_len (k := 5) (fun _ => rfl)]
  have hrow : (List.drop (j0 * 5 + 3) (rowsAt (paC 15 s.parts j0) s.parts.length)).head? = some (.msl 15 0 (s.parts.getD j0 pa0).cells.length 1) := by rw [rowsAt_head (k := 5) (fun _ => rfl) hj (by omega)]; simp [paC]
  have hq1 : (rowsAt (ceC 16 (s.parts.getD j0 pa0).cells b0) (s.parts.getD j0 pa0).cells.length).length = (s.parts.getD j0 pa0).cells.length := by rw [rowsAt_len (k := 1) (fun _ => rfl), Nat.mul_one]
  have hq2 : (List.drop b0 (rowsAt (ceC 16 (s.parts.getD j0 pa0).cells b0) (s.parts.getD j0 pa0).cells.length)).head? = some (.msl 16 0 ((s.parts.getD j0 pa0).cells.getD b0 []).length 1) := by
    have := rowsAt_head (c := ceC 16 (s.parts.getD j0 pa0).cells b0) (k := 1) (fun _ => rfl) hb0 (i := 0) (by omega)
    rw [Nat.mul_one, Nat.add_zero] at this
    rw [this]; simp [ceC]
  have hv1 : (rowsAt (voC 17 (((s.parts.getD j0 pa0).cells.getD b0 []).set v0 ⟨l⟩) v0) ((s.parts.getD j0 pa0).cells.getD b0 []).length).length = ((s.parts.getD j0 pa0).cells.getD b0 []).length := by rw [rowsAt_len (k := 1) (fun _ => rfl), Nat.mul_one]
  have k1 : b0 ≤ (s.parts.getD j0 pa0).cells.length := by omega
  have k2 : 1 ≤ (s.parts.getD j0 pa0).cells.length - b0 := by omega
  have k3 : v0 + 1 ≤ ((s.parts.getD j0 pa0).cells.getD b0 []).length := by omega
  have k4 : j0 * 5 + 3 ≤ s.parts.length * 5 := by omega
  have k5 : 1 ≤ s.parts.length * 5 - (j0 * 5 + 3) := by omega
  have c1 : ¬ ((j0 : Nat) : Int) < 0 := by omega
  have c2 : ¬ ((j0 : Nat) : Int) ≥ ((s.parts.length : Nat) : Int) := by omega
  have c3 : ¬ ((b0 : Nat) : Int) < 0 := by omega
  have c4 : ¬ ((b0 : Nat) : Int) ≥ (((s.parts.getD j0 pa0).cells.length : Nat) : Int) := by omega
  have c5 : ¬ ((v0 : Nat) : Int) < 0 := by omega
  have c6 : ¬ ((v0 : Nat) : Int) ≥ ((((s.parts.getD j0 pa0).cells.getD b0 []).length : Nat) : Int) := by omega
  have d2 : ((j0 : Nat) : Int) < ((s.parts.length : Nat) : Int) := by omega
  have d4 : ((b0 : Nat) : Int) < (((s.parts.getD j0 pa0).cells.length : Nat) : Int) := by omega
  have d6 : ((v0 : Nat) : Int) < ((((s.parts.getD j0 pa0).cells.getD b0 []).length : Nat) : Int) := by omega
  (refine PC.introZ 2 mix (fn := Tryz.f3) Tryz.func3 rfl (names 3 _ Tryz.func3) fun F hF hro W => ?_; simp -implicitDefEqProofs only [Tryz.ntmps3, Tryz.results3, fr0, st0, List.length_cons, List.length_nil, List.cons_append, List.nil_append, Nat.reduceAdd, Nat.reduceSub, List.replicate_succ, List.replicate_zero])
  repeat' (first
    | simp -implicitDefEqProofs only [↓reduceIte, runsY, lstY, facts, Nat.reduceAdd, Nat.reduceEqDiff, Nat.reduceLT, Nat.reduceLeDiff, Int.reduceBNe, Sc.av, EOp.av, Pa.av, cellAV, Vo.av, Int.natCast_nonneg, List.length_drop, ren_apply, hup_cons, hup_nil, hC_cons, hC_nil, evRen, voC_up, ceC_up, paC_up, vops_nil, vops_cons, vstep_val, vstep_skip, drawVK_at, *]
    | ((with_reducible refine OZ_drawn ?_); refine OZ_drawV (by decide +kernel) ?_)
    | ((with_reducible refine wend ?_ ?_); · decide +kernel)
    | ((with_reducible refine wend ?_ ?_); · kernel_rfl)
    | ((with_reducible refine OZ_at 4 ?_); refine PC.useZ hF hup (rfl) fun v hv => ?_; subst hv)
    | ((with_reducible refine OZ_at 5 ?_); refine PC.useZ hF (few_ok s) (rfl) fun v hv => ?_; subst hv)
    | ((with_reducible refine OZ_at 6 ?_); refine PC.useZ hF hfo (rfl) fun v hv => ?_; subst hv)
    | ((with_reducible refine OZ_at 7 ?_); refine OZ_own hF hro hap (rfl) ?_)
    | ((with_reducible refine OZ_at 8 ?_); (refine OZ_now hF (fun k => k == 16) 5 hsame (fun v hv => by subst hv; rfl) (by simp only [List.map_cons, List.map_nil]; rw [scNow' (d := 0) (kp := 14) (qc := 15) (qv := 16) s j0 b0 hj hb0 rfl rfl rfl rfl (by rw [← back_rows (q := 17) (l := l) hv0]; rfl)]; rfl) (fun v hv => ?_); subst hv)))
  all_goals trace_state
end Go.Proofs.Pv
