/-
  Layer 9's edits: a score of which one voice has got other events.
  Layer 9: edit.Apply at an edit of events.
  Plain laws: what a right score has.
  Conditions: none but those that each statement names.
-/
import Derived.Test.YtjcjhlnccglmkaaGreatDoorC09n
import Derived.Test.YtjcjhlnccglmkaaGreatDoorC08l
namespace Go.Proofs.Pv
open Go Go.Proofs
set_option linter.unusedSimpArgs false
set_option linter.unusedVariables false
def putVoP (p : Pa) (b0 v0 : Nat) (l : List Ev) : Pa := { p with cells := p.cells.set b0 ((p.cells.getD b0 []).set v0 ⟨l⟩) }
def putVo (s : Sc) (j0 b0 v0 : Nat) (l : List Ev) : Sc := { s with parts := s.parts.set j0 (putVoP (s.parts.getD j0 pa0) b0 v0 l) }
theorem getD_set {α : Type} {l : List α} {i j : Nat} {x d : α} : (l.set i x).getD j d = if j = i ∧ i < l.length then x else l.getD j d := by
  simp only [List.getD_eq_getElem?_getD, List.getElem?_set]
  by_cases h : i = j
  · subst h
    by_cases h2 : i < l.length
    · simp [h2]
    · simp [h2]
  · simp [h, show ¬ j = i from fun e => h e.symm]
theorem getD_set_self {α : Type} {l : List α} {i : Nat} {x d : α} (h : i < l.length) : (l.set i x).getD i d = x := by rw [getD_set, if_pos ⟨rfl, h⟩]
theorem getD_set_ne {α : Type} {l : List α} {i j : Nat} {x d : α} (h : j ≠ i) : (l.set i x).getD j d = l.getD j d := by rw [getD_set, if_neg fun e => h e.1]
section
variable {s : Sc} {j0 b0 v0 : Nat} {l : List Ev}
theorem put_parts (h : j0 < s.parts.length) : (putVo s j0 b0 v0 l).parts.getD j0 pa0 = putVoP (s.parts.getD j0 pa0) b0 v0 l := getD_set_self h
theorem put_len : (putVo s j0 b0 v0 l).parts.length = s.parts.length := List.length_set
theorem putP_len {p : Pa} : (putVoP p b0 v0 l).cells.length = p.cells.length := List.length_set
theorem putP_cell {p : Pa} (h : b0 < p.cells.length) : (putVoP p b0 v0 l).cells.getD b0 [] = (p.cells.getD b0 []).set v0 ⟨l⟩ := getD_set_self h
theorem put_rows {q : Nat} (h : j0 < s.parts.length) : rowsAt (paC q (putVo s j0 b0 v0 l).parts j0) s.parts.length = rowsAt (paC q s.parts j0) s.parts.length := by
  refine rowsAt_congr fun i hi => ?_
  by_cases e : i = j0
  · subst e
    simp only [paC, put_parts h, if_true, putP_len]
    rfl
  · have : (putVo s j0 b0 v0 l).parts.getD i pa0 = s.parts.getD i pa0 := getD_set_ne e
    simp only [paC, this, if_neg e]
theorem putP_rows {p : Pa} {q : Nat} (h : b0 < p.cells.length) : rowsAt (ceC q (putVoP p b0 v0 l).cells b0) p.cells.length = rowsAt (ceC q p.cells b0) p.cells.length := by
  refine rowsAt_congr fun i hi => ?_
  by_cases e : i = b0
  · subst e
    simp only [ceC, putP_cell h, if_true, List.length_set]
  · have : (putVoP p b0 v0 l).cells.getD i [] = p.cells.getD i [] := getD_set_ne e
    simp only [ceC, this, if_neg e]
theorem putV_rows {c : List Vo} {q q' : Nat} (h : v0 < c.length) : splice (rowsAt (voC q c v0) c.length) v0 [.msl q' 0 l.length 9] = rowsAt (voC q' (c.set v0 ⟨l⟩) v0) c.length := by
  have := rowsAt_put (c := voC q c v0) (k := 1) (fun _ => rfl) (j := v0) (v := [.msl q' 0 l.length 9]) rfl h
  rw [Nat.mul_one] at this
  rw [this]
  refine rowsAt_congr fun i hi => ?_
  by_cases e : i = v0
  · subst e
    simp only [voC, if_true, getD_set_self h]
  · simp only [voC, if_neg e, getD_set_ne e]
theorem scNow_put {sty : Nat → Bool} {hp : Hp} {d kp qc qv qe q : Nat} (hj : j0 < s.parts.length) (hb0 : b0 < (s.parts.getD j0 pa0).cells.length) (hv0 : v0 < ((s.parts.getD j0 pa0).cells.getD b0 []).length) (hs1 : sty qc = false) (hs2 : sty qv = true)
    (h1 : hp kp = some (.cells (rowsAt (paC qc s.parts j0) s.parts.length))) (h2 : hp qc = some (.cells (rowsAt (ceC qv (s.parts.getD j0 pa0).cells b0) (s.parts.getD j0 pa0).cells.length)))
    (h3 : hp qv = some (.cells (splice (rowsAt (voC q ((s.parts.getD j0 pa0).cells.getD b0 []) v0) ((s.parts.getD j0 pa0).cells.getD b0 []).length) v0 [.msl qe 0 l.length 9]))) (h4 : hp qe = some (.cells (l.flatMap Ev.cells))) :
    AV.nowS sty hp (d + 5) (.agg [.str s.title, .sl 14 (s.bars.map Ba.av) .none, .msl kp 0 s.parts.length 5]) = (putVo s j0 b0 v0 l).av := by
  have e1 := put_parts (s := s) (b0 := b0) (v0 := v0) (l := l) hj
  have e2 := putP_cell (v0 := v0) (l := l) hb0
  have := scNow (sty := sty) (hp := hp) (d := d) (kp := kp) (qc := qc) (qv := qv) (qe := qe) (putVo s j0 b0 v0 l) j0 b0 v0 (by rw [put_len]; exact hj) (by rw [e1, putP_len]; exact hb0) (by rw [e1, e2, List.length_set]; exact hv0) hs1 hs2
    (by rw [put_len, put_rows hj]; exact h1) (by rw [e1, putP_len, putP_rows hb0]; exact h2)
    (by rw [e1, e2, List.length_set, ← putV_rows hv0]; exact h3) (by rw [e1, e2, getD_set_self hv0]; exact h4)
  rw [put_len] at this
  exact this
theorem put_small (hs : s.small) (hj : j0 < s.parts.length) (hb : b0 < (s.parts.getD j0 pa0).cells.length) (hv : v0 < ((s.parts.getD j0 pa0).cells.getD b0 []).length) (hl : Vo.small ⟨l⟩) : (putVo s j0 b0 v0 l).small := by
  refine ⟨hs.bars, fun p hp => ?_, hs.nbars, by rw [put_len]; exact hs.nparts⟩
  rcases List.mem_or_eq_of_mem_set hp with hp | hp
  · exact hs.parts p hp
  · subst hp
    have hm : s.parts.getD j0 pa0 ∈ s.parts := by rw [List.getD_eq_getElem?_getD, List.getElem?_eq_getElem hj]; exact List.getElem_mem hj
    have h0 := hs.parts _ hm
    refine ⟨fun c hc => ?_, h0.dyns⟩
    rcases List.mem_or_eq_of_mem_set hc with hc | hc
    · exact h0.voices c hc
    · subst hc
      have hm2 : (s.parts.getD j0 pa0).cells.getD b0 [] ∈ (s.parts.getD j0 pa0).cells := by rw [List.getD_eq_getElem?_getD (l := (s.parts.getD j0 pa0).cells), List.getElem?_eq_getElem hb]; exact List.getElem_mem hb
      have h1 := h0.voices _ hm2
      refine ⟨by rw [List.length_set]; exact h1.1, fun v hv' => ?_⟩
      rcases List.mem_or_eq_of_mem_set hv' with hv' | hv'
      · exact h1.2 v hv'
      · subst hv'; exact hl
end
end Go.Proofs.Pv
namespace Go.Proofs.Pv
open Go Go.Proofs
set_option linter.unusedSimpArgs false
set_option linter.unusedVariables false
theorem ren_score {n : Nat} {a : ByteArray} {r : List AV} {j k o m s : Nat} : AV.ren (up n) (.agg [.str a, .sl j r .none, .msl k o m s]) = .agg [.str a, .sl j r .none, .msl (k + n) o m s] := rfl
/-- What takes an edit of events back. -/
def evBack (o : EOp) (j0 b0 v0 a n : Nat) (vo : Vo) : AV := .agg [.int .i64 1, .int .i64 (j0 : Nat), .int .i64 (b0 : Nat), .int .i64 (v0 : Nat), .int .i64 (a : Nat), .int .i64 (o.events.length : Nat), .sl 9 (((vo.l.drop a).take n).map Ev.av) .none, .sl 14 [] .full, .sl 1 [] .full, .sl 1 [] .full, .int .i64 0, .int .i64 0, .str ⟨#[]⟩]
def errR (e : Int) : AV := .tup [.agg [.str ⟨#[]⟩, .sl 14 [] .none, .sl 5 [] .none], .agg [.int .i64 0, .int .i64 0, .int .i64 0, .int .i64 0, .int .i64 0, .int .i64 0, .sl 9 [] .none, .sl 14 [] .none, .sl 1 [] .none, .sl 1 [] .none, .int .i64 0, .int .i64 0, .str ⟨#[]⟩], .int .i64 e]
theorem akc_kind (a : Int) : akc Tryz.prog 9 3 (.int .i64 a) = true := by kernel_rfl
theorem aeq_kind (a b : Int) : aeq Tryz.prog 9 3 (.int .i64 a) (.int .i64 b) = some (a == b) := by kernel_rfl
theorem afind_nil {P : Program} {kt : TypeId} {k : AV} {i : Nat} : afind P kt k [] i = some none := rfl
theorem afind_cons {kt : TypeId} {k : AV} {P : Program} {i : Nat} {e : ME} {es : List ME} : afind P kt k (e :: es) i = (match aeq P 9 kt k e.key with | some true => some (some i) | some false => afind P kt k es (i + 1) | none => none) := rfl
set_option maxRecDepth 100000 in
set_option maxHeartbeats 8000000 in
theorem apply_own (s : Sc) (o : EOp) (hk : o.kind = 1) (hs : s.small) (hg : s.good) (hchk : s.checkR.2 = 0) (j0 b0 v0 a n : Nat) (hj : j0 < s.parts.length) (hbb : b0 < s.bars.length) (hb0 : b0 < (s.parts.getD j0 pa0).cells.length) (hv0 : v0 < ((s.parts.getD j0 pa0).cells.getD b0 []).length)
    (hp : o.part = (j0 : Nat)) (hq : o.bar = (b0 : Nat)) (hv : o.voice = (v0 : Nat)) (ha : o.at_ = (a : Nat)) (hn : o.count = (n : Nat))
    (vo : Vo) (hvo : ((s.parts.getD j0 pa0).cells.getD b0 []).getD v0 ⟨[]⟩ = vo) (han : a + n ≤ vo.l.length) (hll : vo.l.length ≤ 1000000) (hol : o.events.length ≤ 1000000) (hos : ∀ e ∈ o.events, e.short) (hsum : vo.l.length + o.events.length + 1 ≤ 1000000)
    (hts : (putVo s j0 b0 v0 (repl vo.l a n o.events)).small) (htc : (putVo s j0 b0 v0 (repl vo.l a n o.events)).checkR.2 = 0) :
    Own Tryz.prog gl 7 [s.av, o.av] (.tup [.agg [.str s.title, .sl 14 (s.bars.map Ba.av) .none, .msl 0 0 s.parts.length 5], evBack o j0 b0 v0 a n vo, .int .i64 0])
      [(0, rowsAt (paC 1 s.parts j0) s.parts.length), (1, rowsAt (ceC 2 (s.parts.getD j0 pa0).cells b0) (s.parts.getD j0 pa0).cells.length), (2, rowsAt (voC 3 (((s.parts.getD j0 pa0).cells.getD b0 []).set v0 ⟨repl vo.l a n o.events⟩) v0) ((s.parts.getD j0 pa0).cells.getD b0 []).length), (3, (repl vo.l a n o.events).flatMap Ev.cells)] 4 := by
  have hown := copied_own s hg j0 b0 v0 hj hb0 hv0
  (refine Own.intro 2 mix names (fn := Tryz.f7) Tryz.func7 rfl fun F hF hro W => ?_; simp -implicitDefEqProofs only [Tryz.ntmps7, Tryz.results7, fr0, st0, List.length_cons, List.length_nil, List.cons_append, List.nil_append, Nat.reduceAdd, Nat.reduceSub, List.replicate_succ, List.replicate_zero])
  repeat' (first
    | simp -implicitDefEqProofs only [↓reduceIte, runsY, lstY, facts, Nat.reduceAdd, Nat.reduceEqDiff, Nat.reduceLeDiff, Int.reduceBEq, Int.reduceBNe, aop2, akc_kind, aeq_kind, afind_nil, afind_cons, ents, AV.cells, AV.one, EOp.av, Sc.av, plcAV, plAV, hk, hchk, ren_score, hup_cons, hup_nil, hC_cons, hC_nil, evRen, voC_up, ceC_up, paC_up, paH_at, vops_nil, vops_cons, vstep_val, drawVK_at, *]
    | ((with_reducible refine v_at 16 ?_); refine vstep_own hF hro hown (rfl) ?_)
    | ((with_reducible refine OZ_drawn ?_); refine OZ_drawV (by decide +kernel) ?_)
    | ((with_reducible refine wend ?_ ?_); · decide +kernel)
    | ((with_reducible refine OZ_at 15 ?_); refine PC.useZ hF (check_ok s hs) (rfl) fun v hv => ?_; subst hv))
  refine OZ_at 17 ?_
  have hq1 : (rowsAt (ceC 22 (s.parts.getD j0 pa0).cells b0) (s.parts.getD j0 pa0).cells.length).length = (s.parts.getD j0 pa0).cells.length := by rw [rowsAt_len (k := 1) (fun _ => rfl), Nat.mul_one]
  have hq2 : (List.drop b0 (rowsAt (ceC 22 (s.parts.getD j0 pa0).cells b0) (s.parts.getD j0 pa0).cells.length)).head? = some (.msl 22 0 ((s.parts.getD j0 pa0).cells.getD b0 []).length 1) := by
    have := rowsAt_head (c := ceC 22 (s.parts.getD j0 pa0).cells b0) (k := 1) (fun _ => rfl) hb0 (i := 0) (by omega)
    rw [Nat.mul_one, Nat.add_zero] at this
    rw [this]; simp [ceC]
  have hv1 : (rowsAt (voC 23 ((s.parts.getD j0 pa0).cells.getD b0 []) v0) ((s.parts.getD j0 pa0).cells.getD b0 []).length).length = ((s.parts.getD j0 pa0).cells.getD b0 []).length := by rw [rowsAt_len (k := 1) (fun _ => rfl), Nat.mul_one]
  have hv2 : (List.drop v0 (rowsAt (voC 23 ((s.parts.getD j0 pa0).cells.getD b0 []) v0) ((s.parts.getD j0 pa0).cells.getD b0 []).length)).head? = some (.msl 23 0 vo.l.length 9) := by
    have := rowsAt_head (c := voC 23 ((s.parts.getD j0 pa0).cells.getD b0 []) v0) (k := 1) (fun _ => rfl) hv0 (i := 0) (by omega)
    rw [Nat.mul_one, Nat.add_zero] at this
    rw [this]; simp only [voC, if_true, hvo]; rfl
  refine events_call s o _ _ _ _ _ _ j0 b0 v0 a n _ _ _ _ vo hj hbb hb0 hv0 rfl hq1 hq2 hv1 hv2 han hll hol hos hsum hF hro ?_
  simp only [evPost]
  repeat' (first
    | simp -implicitDefEqProofs only [↓reduceIte, runsY, lstY, facts, Nat.reduceAdd, Nat.reduceEqDiff, Nat.reduceLeDiff, Int.reduceBNe, plcAV, plAV, htc, vops_nil, vops_cons, vstep_val, vstep_skip, drawVK_at, *]
    | ((with_reducible refine OZ_drawn ?_); refine OZ_drawV (by decide +kernel) ?_)
    | ((with_reducible refine wend ?_ ?_); · decide +kernel)
    | ((with_reducible refine OZ_at 15 ?_); (refine OZ_now hF (fun k => k == 22) 5 (check_ok _ hts) (fun v hv => by subst hv; rfl) (by simp only [List.map_cons, List.map_nil]; rw [scNow_put (d := 0) hj hb0 hv0 rfl rfl rfl rfl rfl rfl]) (fun v hv => ?_); subst hv)))
  have hsp := putV_rows (q := 23) (q' := 183) (l := repl vo.l a n o.events) hv0
  simp only [splice, List.length_cons, List.length_nil, Nat.zero_add] at hsp
  rw [hsp]
  exact OwnK.of [(20, 0), (21, 1), (22, 2), (183, 3)] rfl (HRen.cons 20 rfl rfl (rowsAt_ren _ fun j _ => paC_ren (f := renK 0 [(20, 0), (21, 1), (22, 2), (183, 3)]) (q := 21) (q' := 1) rfl _ _ j) (HRen.cons 21 rfl rfl (rowsAt_ren _ fun j _ => ceC_ren (f := renK 0 [(20, 0), (21, 1), (22, 2), (183, 3)]) (q := 22) (q' := 2) rfl _ _ j) (HRen.cons 22 rfl rfl (rowsAt_ren _ fun j _ => voC_ren (f := renK 0 [(20, 0), (21, 1), (22, 2), (183, 3)]) (q := 183) (q' := 3) rfl _ _ j) (HRen.cons 183 rfl rfl (evRen _) HRen.nil)))) rfl
set_option maxRecDepth 100000 in
set_option maxHeartbeats 8000000 in
theorem apply_wrong (s : Sc) (o : EOp) (hk : o.kind = 1) (hs : s.small) (hg : s.good) (hchk : s.checkR.2 = 0) (j0 b0 v0 a n : Nat) (hj : j0 < s.parts.length) (hbb : b0 < s.bars.length) (hb0 : b0 < (s.parts.getD j0 pa0).cells.length) (hv0 : v0 < ((s.parts.getD j0 pa0).cells.getD b0 []).length)
    (hp : o.part = (j0 : Nat)) (hq : o.bar = (b0 : Nat)) (hv : o.voice = (v0 : Nat)) (ha : o.at_ = (a : Nat)) (hn : o.count = (n : Nat))
    (vo : Vo) (hvo : ((s.parts.getD j0 pa0).cells.getD b0 []).getD v0 ⟨[]⟩ = vo) (han : a + n ≤ vo.l.length) (hll : vo.l.length ≤ 1000000) (hol : o.events.length ≤ 1000000) (hos : ∀ e ∈ o.events, e.short) (hsum : vo.l.length + o.events.length + 1 ≤ 1000000)
    (hts : (putVo s j0 b0 v0 (repl vo.l a n o.events)).small) (htc : ¬ (putVo s j0 b0 v0 (repl vo.l a n o.events)).checkR.2 = 0) :
    PC Tryz.prog gl 7 [s.av, o.av] (fun v => v = errR (putVo s j0 b0 v0 (repl vo.l a n o.events)).checkR.2) := by
  have hown := copied_own s hg j0 b0 v0 hj hb0 hv0
  (refine PC.introZ 2 mix (fn := Tryz.f7) Tryz.func7 rfl (names 7 _ Tryz.func7) fun F hF hro W => ?_; simp -implicitDefEqProofs only [Tryz.ntmps7, Tryz.results7, fr0, st0, List.length_cons, List.length_nil, List.cons_append, List.nil_append, Nat.reduceAdd, Nat.reduceSub, List.replicate_succ, List.replicate_zero])
  repeat' (first
    | simp -implicitDefEqProofs only [↓reduceIte, runsY, lstY, facts, Nat.reduceAdd, Nat.reduceEqDiff, Nat.reduceLeDiff, Int.reduceBEq, Int.reduceBNe, aop2, akc_kind, aeq_kind, afind_nil, afind_cons, ents, AV.cells, AV.one, EOp.av, Sc.av, plcAV, plAV, hk, hchk, ren_score, hup_cons, hup_nil, hC_cons, hC_nil, evRen, voC_up, ceC_up, paC_up, paH_at, vops_nil, vops_cons, vstep_val, drawVK_at, *]
    | ((with_reducible refine v_at 16 ?_); refine vstep_own hF hro hown (rfl) ?_)
    | ((with_reducible refine OZ_drawn ?_); refine OZ_drawV (by decide +kernel) ?_)
    | ((with_reducible refine wend ?_ ?_); · decide +kernel)
    | ((with_reducible refine OZ_at 15 ?_); refine PC.useZ hF (check_ok s hs) (rfl) fun v hv => ?_; subst hv))
  refine OZ_at 17 ?_
  have hq1 : (rowsAt (ceC 22 (s.parts.getD j0 pa0).cells b0) (s.parts.getD j0 pa0).cells.length).length = (s.parts.getD j0 pa0).cells.length := by rw [rowsAt_len (k := 1) (fun _ => rfl), Nat.mul_one]
  have hq2 : (List.drop b0 (rowsAt (ceC 22 (s.parts.getD j0 pa0).cells b0) (s.parts.getD j0 pa0).cells.length)).head? = some (.msl 22 0 ((s.parts.getD j0 pa0).cells.getD b0 []).length 1) := by
    have := rowsAt_head (c := ceC 22 (s.parts.getD j0 pa0).cells b0) (k := 1) (fun _ => rfl) hb0 (i := 0) (by omega)
    rw [Nat.mul_one, Nat.add_zero] at this
    rw [this]; simp [ceC]
  have hv1 : (rowsAt (voC 23 ((s.parts.getD j0 pa0).cells.getD b0 []) v0) ((s.parts.getD j0 pa0).cells.getD b0 []).length).length = ((s.parts.getD j0 pa0).cells.getD b0 []).length := by rw [rowsAt_len (k := 1) (fun _ => rfl), Nat.mul_one]
  have hv2 : (List.drop v0 (rowsAt (voC 23 ((s.parts.getD j0 pa0).cells.getD b0 []) v0) ((s.parts.getD j0 pa0).cells.getD b0 []).length)).head? = some (.msl 23 0 vo.l.length 9) := by
    have := rowsAt_head (c := voC 23 ((s.parts.getD j0 pa0).cells.getD b0 []) v0) (k := 1) (fun _ => rfl) hv0 (i := 0) (by omega)
    rw [Nat.mul_one, Nat.add_zero] at this
    rw [this]; simp only [voC, if_true, hvo]; rfl
  refine events_call s o _ _ _ _ _ _ j0 b0 v0 a n _ _ _ _ vo hj hbb hb0 hv0 rfl hq1 hq2 hv1 hv2 han hll hol hos hsum hF hro ?_
  simp only [evPost]
  repeat' (first
    | simp -implicitDefEqProofs only [↓reduceIte, runsY, lstY, facts, Nat.reduceAdd, Nat.reduceEqDiff, Nat.reduceLeDiff, Int.reduceBNe, plcAV, plAV, vops_nil, vops_cons, vstep_val, vstep_skip, drawVK_at, *]
    | ((with_reducible refine condK_split (fun _ => ?_) (fun _ => ?_)) <;> try (exfalso; omega))
    | ((with_reducible refine OZ_drawn ?_); refine OZ_drawV (by decide +kernel) ?_)
    | ((with_reducible refine wend ?_ ?_); · decide +kernel)
    | ((with_reducible refine OZ_at 15 ?_); (refine OZ_now hF (fun k => k == 22) 5 (check_ok _ hts) (fun v hv => by subst hv; rfl) (by simp only [List.map_cons, List.map_nil]; rw [scNow_put (d := 0) hj hb0 hv0 rfl rfl rfl rfl rfl rfl]) (fun v hv => ?_); subst hv)))
  · rfl
  · rename_i h
    exact absurd (by simpa using h) htc
end Go.Proofs.Pv
namespace Go.Proofs.Pv
open Go Go.Proofs
set_option linter.unusedSimpArgs false
set_option linter.unusedVariables false
set_option maxRecDepth 10000
structure Right (s : Sc) : Prop where
  b0 : 0 < s.bars.length
  b1 : s.bars.length ≤ 100
  p0 : 0 < s.parts.length
  p1 : s.parts.length ≤ 8
  len : ∀ p ∈ s.parts, p.cells.length = s.bars.length ∧ p.dyns.length = s.bars.length
  cell : ∀ p ∈ s.parts, ∀ c ∈ p.cells, 0 < c.length ∧ c.length ≤ 4
  vo : ∀ p ∈ s.parts, ∀ c ∈ p.cells, ∀ v ∈ c, 0 < v.l.length ∧ v.l.length ≤ 64
theorem mem_at {α : Type} {l : List α} {x d : α} (h : x ∈ l) : ∃ i, i < l.length ∧ l.getD i d = x := by
  obtain ⟨i, hi, rfl⟩ := List.mem_iff_getElem.1 h
  exact ⟨i, hi, getD_at hi⟩
theorem right_of {s : Sc} (h : s.checkR.2 = 0) : Right s := by
  unfold Sc.checkR at h
  split at h
  · exact absurd h (by decide)
  · rename_i h0
    split at h
    · exact absurd h (by decide)
    · split at h
      · rename_i k hk
        have := (firstN_some hk).1
        simp at this
        exact absurd h this
      · rename_i hbars
        split at h
        · rename_i i hi
          have := (firstN_some hi).1
          simp at this
          exact absurd h this
        · rename_i hparts
          have hb : ∀ j, j < s.bars.length → (barAt s j).errR = 0 := fun j hj => by simpa using firstN_all hbars j hj
          have hp : ∀ i, i < s.parts.length → (partErr s i).2 = 0 := fun i hi => by simpa using firstN_all hparts i hi
          have hlen : ∀ p ∈ s.parts, p.cells.length = s.bars.length ∧ p.dyns.length = s.bars.length := by
            intro p hpm
            obtain ⟨i, hi, rfl⟩ := mem_at (d := pa0) hpm
            have := (partErr_ok (hp i hi)).1
            simp only [Pa.right, Bool.and_eq_true, decide_eq_true_eq] at this
            have e : partAt s i = s.parts.getD i pa0 := rfl
            rw [e] at this
            omega
          have hcell : ∀ i, i < s.parts.length → ∀ k, k < s.bars.length → cellAt s i k ≠ [] ∧ (cellAt s i k).length ≤ 4 := by
            intro i hi k hk
            have h3 := cellsR_all (partErr_ok (hp i hi)).2 k hk
            unfold cellErr cellR at h3
            split at h3
            · exact absurd h3 (by decide)
            · rename_i h4
              refine ⟨fun e => h4 (.inl (by rw [e]; rfl)), by omega⟩
          have key : ∀ p ∈ s.parts, ∀ c ∈ p.cells, ∃ i k, i < s.parts.length ∧ k < s.bars.length ∧ cellAt s i k = c := by
            intro p hpm c hc
            have hl := (hlen p hpm).1
            obtain ⟨i, hi, rfl⟩ := mem_at (d := pa0) hpm
            obtain ⟨k, hk, hck⟩ := mem_at (d := []) hc
            exact ⟨i, k, hi, by omega, hck⟩
          refine ⟨by omega, by omega, by omega, by omega, hlen, fun p hpm c hc => ?_, fun p hpm c hc v hv => ?_⟩
          · obtain ⟨i, k, hi, hk, rfl⟩ := key p hpm c hc
            have := hcell i hi k hk
            exact ⟨List.length_pos_iff.2 this.1, this.2⟩
          · obtain ⟨i, k, hi, hk, rfl⟩ := key p hpm c hc
            obtain ⟨n, hn, rfl⟩ := List.mem_iff_getElem.1 hv
            have h3 := cellsR_all (partErr_ok (hp i hi)).2 k hk
            have h4 := cellR_all h3 n hn
            exact ⟨(voices_full hb (hp i hi) hk hn).1, (checkR_right (filled_check h4).1).1⟩
theorem good_of {s : Sc} (hr : Right s) (hs : s.small) (he : ∀ b ∈ s.bars, b.turn.endings.length ≤ 1000000) : s.good := by
  refine ⟨hr.p0, by have := hr.p1; omega, fun p hp => ?_, by have := hr.b1; omega, fun b hb => ⟨(hs.bars b hb).groups, he b hb, (hs.bars b hb).tempos⟩⟩
  have hl := hr.len p hp
  have hb0 := hr.b0
  have hb1 := hr.b1
  refine ⟨by omega, by omega, fun c hc => ?_, by omega, fun d hd => ((hs.parts p hp).dyns d hd).1⟩
  have hcl := hr.cell p hp c hc
  refine ⟨hcl.1, by omega, fun v hv => ?_⟩
  have hv1 := hr.vo p hp c hc v hv
  have hv2 := ((hs.parts p hp).voices c hc).2 v hv
  exact ⟨hv1.1, by omega, fun e he' => ⟨(hv2.2 e he').1, (hv2.2 e he').2.1, (hv2.2 e he').2.2⟩⟩
end Go.Proofs.Pv
