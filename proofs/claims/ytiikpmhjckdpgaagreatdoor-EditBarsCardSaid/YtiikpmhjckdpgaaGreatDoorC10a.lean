/-
  Layer 9's edits: copies whose lists of cells and of dynamics stay open, for all parts; all below is frozen.
  Layer 9's edits: a copied score whose bars, and whose parts' lists of cells and of dynamics, stay open: one to four parts.
  Conditions: none but those that each statement names.
-/
import Derived.Test.YtiikpmhjckdpgaaGreatDoorC09e
namespace Go.Proofs.Pv
open Go Go.Proofs
set_option linter.unusedSimpArgs false
set_option linter.unusedVariables false
def Vo.short (v : Vo) : Prop := v.l.length ≤ 1000000 ∧ ∀ e ∈ v.l, e.short
def cellShort (c : List Vo) : Prop := c.length ≤ 1000000 ∧ ∀ v ∈ c, v.short
def voC1 (v : Vo) : List AV := [.sl 9 (v.l.map Ev.av) .none]
def ceC1 (c : List Vo) : List AV := [cellAV c]
set_option maxRecDepth 100000 in
theorem edVoicesF_own (vs : List Vo) (h : cellShort vs) : Own Tryz.prog gl 41 [.sl 1 (vs.map Vo.av) .none] (ownA 0 1 vs.length) (ownH 0 (vs.flatMap voC1) vs.length) 1 := by
  have hl := h.1
  (refine Own.intro 2 mix names (fn := Tryz.f41) Tryz.func41 rfl fun F hF hro W => ?_; simp -implicitDefEqProofs only [Tryz.ntmps41, Tryz.results41, entL, Nat.reduceAdd, Nat.reduceSub])
  repeat' (simp -implicitDefEqProofs (maxSteps := 9999999) (disch := first | assumption | omega) only [runsY, lstY, facts, Nat.reduceAdd, *])
  refine OZ_forR (mkM 21 [3, 6, 7, 8]) 101 vs.length (fun i (_ : Unit) => ⟨[.ud, .ud, .ud, ownA 100 1 i, .ud, .ud, .sl 1 (vs.map Vo.av) .none, .int .i64 (vs.length : Nat), .int .i64 (i : Nat), .ud, .ud, .ud, .ud, .ud, .ud, .ud, .ud, .ud, .ud, .ud, .ud], []⟩) (fun i _ => ⟨hC (ownH 100 ((vs.take i).flatMap voC1) i), 101⟩) (fun i _ => i < 1000001) ⟨(), by omega, renK 5 [], gK 5 [], RenOk.of_fit rfl rfl rfl, HRen.nil, rfl, rfl⟩ ?_
  rintro i x hi hi2
  rcases Nat.lt_or_ge i vs.length with hlt | hge
  · have hv := h.2 vs[i] (List.getElem_mem hlt)
    have hpc := edEvents_ok vs[i].l hv.1 hv.2
    rcases i with _ | i
    · simp only [ownA, ownH, hC, List.map_nil]
      repeat' (first
    | simp -implicitDefEqProofs (maxSteps := 9999999) (disch := first | assumption | omega) only [runsY, lstY, facts, if_pos, Nat.reduceAdd, Nat.reduceLT, Nat.reduceLeDiff, Int.reduceLE, Int.reduceAdd, aappM, xcells, List.flatMap_cons, List.flatMap_nil, AV.cells, true_or, AV.one, wrap_in, List.getElem?_eq_getElem, Vo.av, loopR_exit, *]
    | ((with_reducible refine condK_dec (fun _ => ?_) (fun _ => ?_)) <;> try omega)
    | ((with_reducible refine OZ_at 49 ?_); refine PC.useZ hF hpc (rfl) fun v hv => ?_; subst hv))
      refine OZ_nextR 0 () hlt (by omega) (by omega) (renK 5 [(111, 100)]) (gK 5 [(111, 100)]) (RenOk.of_fit rfl rfl rfl) ?_ rfl rfl
      refine HRen.cons 111 rfl rfl ?_ HRen.nil
      rw [flat_take_succ hlt]; rfl
    · have hfl : ((vs.take (i + 1)).flatMap voC1).length = (i + 1) := by rw [flat_length (k := 1) (fun _ => rfl), List.length_take]; omega
      simp only [ownA, ownH, hC, List.map_cons, List.map_nil]
      repeat' (first
    | simp -implicitDefEqProofs (maxSteps := 9999999) (disch := first | assumption | omega) only [runsY, lstY, facts, if_pos, Nat.reduceAdd, Nat.reduceEqDiff, Nat.reduceLT, Nat.reduceLeDiff, aappM, xcells, List.flatMap_cons, List.flatMap_nil, AV.cells, AV.one, wrap_in, List.getElem?_eq_getElem, Vo.av, loopR_exit, *]
    | ((with_reducible refine condK_dec (fun _ => ?_) (fun _ => ?_)) <;> try omega)
    | ((with_reducible refine OZ_at 49 ?_); refine PC.useZ hF hpc (rfl) fun v hv => ?_; subst hv))
      refine OZ_nextR (i + 1) () hlt (by omega) (by omega) (renK 5 [(111, 100)]) (gK 5 [(111, 100)]) (RenOk.of_fit rfl rfl rfl) ?_ rfl rfl
      refine HRen.cons 111 rfl rfl ?_ HRen.nil
      rw [flat_take_succ hlt, List.map_append]
      rw [renL_same (c := voC1) (fun _ => rfl)]; rfl
  · have : i = vs.length := by omega
    subst this
    repeat' (first
    | simp -implicitDefEqProofs (maxSteps := 9999999) (disch := first | assumption | omega) only [runsY, lstY, facts, Nat.reduceAdd, loopR_exit, *]
    | ((with_reducible refine condK_dec (fun _ => ?_) (fun _ => ?_)) <;> try omega))
    rw [List.take_length]
    exact own_end fun f => renL_same (c := voC1) (fun _ => rfl) vs
theorem edVoicesF_ok (vs : List Vo) (h : cellShort vs) : PC Tryz.prog gl 41 [.sl 1 (vs.map Vo.av) .none] (fun v => v = .sl 1 (vs.map Vo.av) .none) := by
 refine PC.of_ownS (sty := fun _ => true) (edVoicesF_own vs h) 2 ?_
 cases vs with
 | nil => rfl
 | cons x l =>
  refine (nowS_own (cs := (x :: l).flatMap voC1) rfl (by decide) (nowSFlat (c := voC1) (fun _ => rfl) _) (by rw [flat_length (k := 1) (fun _ => rfl)]; simp) (pureFlat (fun _ => rfl) _)).trans ?_
  have := chunksFlat (c := voC1) (k := 1) (fun _ => rfl) (x :: l)
  simp only [List.length_cons] at this
  rw [Bool.or_true, this]
  rfl
theorem cellF_ok (c : List Vo) (h : cellShort c) : PC Tryz.prog gl 41 [cellAV c] (fun v => v = cellAV c) := edVoicesF_ok c h
set_option maxRecDepth 100000 in
theorem edCellsF_own (l : List (List Vo)) (hl : l.length ≤ 1000000) (hs : ∀ c ∈ l, cellShort c) : Own Tryz.prog gl 40 [.sl 1 (l.map cellAV) .none, .fn 41 [] []] (ownA 0 1 l.length) (ownH 0 (l.flatMap ceC1) l.length) 1 := by
  (refine Own.intro 2 mix names (fn := Tryz.f40) Tryz.func40 rfl fun F hF hro W => ?_; simp -implicitDefEqProofs only [Tryz.ntmps40, Tryz.results40, entL, Nat.reduceAdd, Nat.reduceSub])
  repeat' (simp -implicitDefEqProofs (maxSteps := 9999999) (disch := first | assumption | omega) only [runsY, lstY, facts, Nat.reduceAdd, *])
  refine OZ_forR (mkM 22 [1, 5, 8, 9, 10]) 101 l.length (fun i (_ : Unit) => ⟨[.ud, .fn 41 [] [], .ud, .ud, .ud, ownA 100 1 i, .ud, .ud, .sl 1 (l.map cellAV) .none, .int .i64 (l.length : Nat), .int .i64 (i : Nat), .ud, .ud, .ud, .ud, .ud, .ud, .ud, .ud, .ud, .ud, .ud], []⟩) (fun i _ => ⟨hC (ownH 100 ((l.take i).flatMap ceC1) i), 101⟩) (fun i _ => i < 1000001) ⟨(), by omega, renK 5 [], gK 5 [], RenOk.of_fit rfl rfl rfl, HRen.nil, rfl, rfl⟩ ?_
  rintro i x hi hi2
  rcases Nat.lt_or_ge i l.length with hlt | hge
  · have hpc := cellF_ok l[i] (hs l[i] (List.getElem_mem hlt))
    rcases i with _ | i
    · simp only [ownA, ownH, hC, List.map_nil]
      repeat' (first
    | simp -implicitDefEqProofs (maxSteps := 9999999) (disch := first | assumption | omega) only [runsY, lstY, facts, if_pos, Nat.reduceAdd, Nat.reduceLT, Nat.reduceLeDiff, Int.reduceLE, Int.reduceAdd, aappM, xcells, List.flatMap_cons, List.flatMap_nil, AV.cells, true_or, AV.one, wrap_in, List.getElem?_eq_getElem, cellAV, loopR_exit, *]
    | ((with_reducible refine condK_dec (fun _ => ?_) (fun _ => ?_)) <;> try omega)
    | ((with_reducible refine OZ_at 41 ?_); refine PC.useZ hF hpc (rfl) fun v hv => ?_; subst hv))
      refine OZ_nextR 0 () hlt (by omega) (by omega) (renK 5 [(109, 100)]) (gK 5 [(109, 100)]) (RenOk.of_fit rfl rfl rfl) ?_ rfl rfl
      refine HRen.cons 109 rfl rfl ?_ HRen.nil
      rw [flat_take_succ hlt]; rfl
    · have hfl : ((l.take (i + 1)).flatMap ceC1).length = (i + 1) := by rw [flat_length (k := 1) (fun _ => rfl), List.length_take]; omega
      simp only [ownA, ownH, hC, List.map_cons, List.map_nil]
      repeat' (first
    | simp -implicitDefEqProofs (maxSteps := 9999999) (disch := first | assumption | omega) only [runsY, lstY, facts, if_pos, Nat.reduceAdd, Nat.reduceLT, Nat.reduceLeDiff, aappM, xcells, List.flatMap_cons, List.flatMap_nil, AV.cells, AV.one, wrap_in, List.getElem?_eq_getElem, cellAV, loopR_exit, *]
    | ((with_reducible refine condK_dec (fun _ => ?_) (fun _ => ?_)) <;> try omega)
    | ((with_reducible refine OZ_at 41 ?_); refine PC.useZ hF hpc (rfl) fun v hv => ?_; subst hv))
      refine OZ_nextR (i + 1) () hlt (by omega) (by omega) (renK 5 [(109, 100)]) (gK 5 [(109, 100)]) (RenOk.of_fit rfl rfl rfl) ?_ rfl rfl
      refine HRen.cons 109 rfl rfl ?_ HRen.nil
      rw [flat_take_succ hlt, List.map_append]
      rw [renL_same (c := ceC1) (fun _ => rfl)]; rfl
  · have : i = l.length := by omega
    subst this
    repeat' (first
    | simp -implicitDefEqProofs (maxSteps := 9999999) (disch := first | assumption | omega) only [runsY, lstY, facts, Nat.reduceAdd, loopR_exit, *]
    | ((with_reducible refine condK_dec (fun _ => ?_) (fun _ => ?_)) <;> try omega))
    rw [List.take_length]
    exact own_end fun f => renL_same (c := ceC1) (fun _ => rfl) l
structure Pa.shortB (p : Pa) : Prop where
 ch : p.cells.length ≤ 1000000
 ce : ∀ c ∈ p.cells, cellShort c
 dh : p.dyns.length ≤ 1000000
 dy : ∀ d ∈ p.dyns, d.length ≤ 1000000
theorem ren_partB {n : Nat} {a : ByteArray} {b c : Int} {k o m s k2 o2 m2 s2 : Nat} : AV.ren (up n) (.agg [.str a, .int .i64 b, .int .i64 c, .msl k o m s, .msl k2 o2 m2 s2]) = .agg [.str a, .int .i64 b, .int .i64 c, .msl (k + n) o m s, .msl (k2 + n) o2 m2 s2] := rfl
theorem ceRen {f : Nat → Option Nat} (l : List (List Vo)) : (l.flatMap ceC1).map (AV.ren f) = l.flatMap ceC1 := renL_same (c := ceC1) (fun _ => rfl) l
theorem dyRen {f : Nat → Option Nat} (l : List (List Dy)) : (l.flatMap dyC).map (AV.ren f) = l.flatMap dyC := renL_same (c := dyC) (fun _ => rfl) l
theorem baRen {f : Nat → Option Nat} (l : List Ba) : (l.flatMap Ba.cells).map (AV.ren f) = l.flatMap Ba.cells := renL_same (c := Ba.cells) (fun _ => rfl) l
set_option maxRecDepth 100000 in
theorem edPartB_own (p : Pa) (h : p.shortB) (a b : Nat) (ha : p.cells.length = a + 1) (hb : p.dyns.length = b + 1) :
  Own Tryz.prog gl 39 [p.av] (.agg [.str p.name, .int .i64 p.clef, .int .i64 p.channel, .msl 0 0 (a + 1) 1, .msl 1 0 (b + 1) 1]) [(0, p.cells.flatMap ceC1), (1, p.dyns.flatMap dyC)] 2 := by
 have hown := edCellsF_own p.cells h.ch h.ce
 have hdy := edDyns_own p.dyns h.dh h.dy
 rw [ha] at hown
 rw [hb] at hdy
 simp only [ownA_succ, ownH_succ] at hown hdy
 (refine Own.intro 2 mix names (fn := Tryz.f39) Tryz.func39 rfl fun F hF hro W => ?_; simp -implicitDefEqProofs only [Tryz.ntmps39, Tryz.results39, entL, Nat.reduceAdd, Nat.reduceSub])
 repeat' (first
  | simp -implicitDefEqProofs (maxSteps := 9999999) (disch := first | assumption | omega) only [runsY, lstY, facts, if_pos, Nat.reduceAdd, Nat.reduceLeDiff, AV.cells, AV.one, Pa.av, ren_up, hup_cons, hup_nil, hC_cons, hC_nil, ceRen, dyRen, *]
  | ((with_reducible refine OZ_at 40 ?_); refine OZ_own hF hro hown (rfl) ?_)
  | ((with_reducible refine OZ_at 42 ?_); refine OZ_own hF hro hdy (rfl) ?_))
 exact OwnK.of [(4, 0), (9, 1)] rfl (HRen.cons 4 rfl rfl (ceRen _) (HRen.cons 9 rfl rfl (dyRen _) HRen.nil)) rfl
end Go.Proofs.Pv
namespace Go.Proofs.Pv
open Go Go.Proofs
set_option linter.unusedSimpArgs false
set_option linter.unusedVariables false
set_option maxRecDepth 100000
set_option maxHeartbeats 4000000 in
theorem edPartsB1 (p0 : Pa) (h0 : p0.shortB) (a0 b0 : Nat) (ha0 : p0.cells.length = a0 + 1) (hb0 : p0.dyns.length = b0 + 1) :
  Own Tryz.prog gl 38 [.sl 5 [p0.av] .none, .fn 39 [] []] (.msl 0 0 1 5) [(0, [.str p0.name, .int .i64 p0.clef, .int .i64 p0.channel, .msl 1 0 (a0 + 1) 1, .msl 2 0 (b0 + 1) 1]), (1, p0.cells.flatMap ceC1), (2, p0.dyns.flatMap dyC)] 3 := by
 have o0 := edPartB_own p0 h0 a0 b0 ha0 hb0
 (refine Own.intro 2 mix names (fn := Tryz.f38) Tryz.func38 rfl fun F hF hro W => ?_; simp -implicitDefEqProofs only [Tryz.ntmps38, Tryz.results38, entL, Nat.reduceAdd, Nat.reduceSub])
 repeat' (simp -implicitDefEqProofs (maxSteps := 9999999) only [↓reduceIte, runsY, lstY, facts, Nat.reduceAdd, *])
 refine OZ_unroll 2 ?_
 repeat' (first
  | simp -implicitDefEqProofs (maxSteps := 9999999) only [↓reduceIte, runsY, lstY, facts, Nat.reduceAdd, Nat.reduceEqDiff, Nat.reduceLT, Nat.reduceLeDiff, Int.reduceLT, Int.reduceLE, Int.reduceNeg, Int.reduceAdd, aappM, xcells, List.flatMap_cons, List.flatMap_nil, AV.cells, true_or, AV.one, strip0_msl, pure_msl, ren_partB, hup_cons, hup_nil, hC_cons, hC_nil, ceRen, dyRen, wrap_in, Pa.av, *]
  | ((with_reducible refine OZ_at 39 ?_); refine OZ_own hF hro o0 (rfl) ?_))
 exact OwnK.of [(16, 0), (13, 1), (14, 2)] rfl (HRen.cons 16 rfl rfl rfl (HRen.cons 13 rfl rfl (ceRen _) (HRen.cons 14 rfl rfl (dyRen _) HRen.nil))) rfl
set_option maxHeartbeats 4000000 in
theorem copiedB1 (t : ByteArray) (bs : List Ba) (hbl : bs.length ≤ 1000000) (hbs : ∀ b ∈ bs, b.short) (nb : Nat) (hnb : bs.length = nb + 1) (p0 : Pa) (h0 : p0.shortB) (a0 b0 : Nat) (ha0 : p0.cells.length = a0 + 1) (hb0 : p0.dyns.length = b0 + 1) :
  Own Tryz.prog gl 16 [.agg [.str t, .sl 14 (bs.map Ba.av) .none, .sl 5 [p0.av] .none]] (.agg [.str t, .msl 1 0 (nb + 1) 14, .msl 0 0 1 5]) [(0, [.str p0.name, .int .i64 p0.clef, .int .i64 p0.channel, .msl 2 0 (a0 + 1) 1, .msl 3 0 (b0 + 1) 1]), (1, bs.flatMap Ba.cells), (2, p0.cells.flatMap ceC1), (3, p0.dyns.flatMap dyC)] 10 := by
 have ob := edBars_own bs hbl hbs
 rw [hnb] at ob
 simp only [ownA_succ, ownH_succ] at ob
 have op := edPartsB1 p0 h0 a0 b0 ha0 hb0
 (refine Own.intro 2 mix names (fn := Tryz.f16) Tryz.func16 rfl fun F hF hro W => ?_; simp -implicitDefEqProofs only [Tryz.ntmps16, Tryz.results16, entL, Nat.reduceAdd, Nat.reduceSub])
 repeat' (first
  | simp -implicitDefEqProofs (maxSteps := 9999999) only [↓reduceIte, runsY, lstY, facts, Nat.reduceAdd, Nat.reduceEqDiff, Nat.reduceLeDiff, AV.cells, AV.one, ren_up, hup_cons, hup_nil, hC_cons, hC_nil, ceRen, dyRen, baRen, *]
  | ((with_reducible refine OZ_at 38 ?_); refine OZ_own hF hro op (rfl) ?_)
  | ((with_reducible refine OZ_at 37 ?_); refine OZ_own hF hro ob (rfl) ?_))
 exact OwnK.of [(9, 0), (4, 1), (10, 2), (11, 3)] rfl (HRen.cons 9 rfl rfl rfl (HRen.cons 4 rfl rfl (baRen _) (HRen.cons 10 rfl rfl (ceRen _) (HRen.cons 11 rfl rfl (dyRen _) HRen.nil)))) rfl
set_option maxHeartbeats 4000000 in
theorem edPartsB2 (p0 p1 : Pa) (h0 : p0.shortB) (a0 b0 : Nat) (ha0 : p0.cells.length = a0 + 1) (hb0 : p0.dyns.length = b0 + 1) (h1 : p1.shortB) (a1 b1 : Nat) (ha1 : p1.cells.length = a1 + 1) (hb1 : p1.dyns.length = b1 + 1) :
  Own Tryz.prog gl 38 [.sl 5 [p0.av, p1.av] .none, .fn 39 [] []] (.msl 0 0 2 5) [(0, [.str p0.name, .int .i64 p0.clef, .int .i64 p0.channel, .msl 1 0 (a0 + 1) 1, .msl 2 0 (b0 + 1) 1, .str p1.name, .int .i64 p1.clef, .int .i64 p1.channel, .msl 3 0 (a1 + 1) 1, .msl 4 0 (b1 + 1) 1]), (1, p0.cells.flatMap ceC1), (2, p0.dyns.flatMap dyC), (3, p1.cells.flatMap ceC1), (4, p1.dyns.flatMap dyC)] 5 := by
 have o0 := edPartB_own p0 h0 a0 b0 ha0 hb0
 have o1 := edPartB_own p1 h1 a1 b1 ha1 hb1
 (refine Own.intro 2 mix names (fn := Tryz.f38) Tryz.func38 rfl fun F hF hro W => ?_; simp -implicitDefEqProofs only [Tryz.ntmps38, Tryz.results38, entL, Nat.reduceAdd, Nat.reduceSub])
 repeat' (simp -implicitDefEqProofs (maxSteps := 9999999) only [↓reduceIte, runsY, lstY, facts, Nat.reduceAdd, *])
 refine OZ_unroll 3 ?_
 repeat' (first
  | simp -implicitDefEqProofs (maxSteps := 9999999) only [↓reduceIte, runsY, lstY, facts, Nat.reduceAdd, Nat.reduceEqDiff, Nat.reduceLT, Nat.reduceLeDiff, Nat.reduceMul, Int.reduceLT, Int.reduceLE, Int.reduceToNat, Int.reduceNeg, Int.reduceAdd, aappM, xcells, List.flatMap_cons, List.flatMap_nil, AV.cells, true_or, AV.one, strip0_msl, pure_msl, ren_partB, hup_cons, hup_nil, hC_cons, hC_nil, ceRen, dyRen, wrap_in, Pa.av, *]
  | ((with_reducible refine OZ_at 39 ?_); refine OZ_own hF hro o0 (rfl) ?_)
  | ((with_reducible refine OZ_at 39 ?_); refine OZ_own hF hro o1 (rfl) ?_))
 exact OwnK.of [(31, 0), (13, 1), (14, 2), (28, 3), (29, 4)] rfl (HRen.cons 31 rfl rfl rfl (HRen.cons 13 rfl rfl (ceRen _) (HRen.cons 14 rfl rfl (dyRen _) (HRen.cons 28 rfl rfl (ceRen _) (HRen.cons 29 rfl rfl (dyRen _) HRen.nil))))) rfl
set_option maxHeartbeats 4000000 in
theorem copiedB2 (t : ByteArray) (bs : List Ba) (hbl : bs.length ≤ 1000000) (hbs : ∀ b ∈ bs, b.short) (nb : Nat) (hnb : bs.length = nb + 1) (p0 p1 : Pa) (h0 : p0.shortB) (a0 b0 : Nat) (ha0 : p0.cells.length = a0 + 1) (hb0 : p0.dyns.length = b0 + 1) (h1 : p1.shortB) (a1 b1 : Nat) (ha1 : p1.cells.length = a1 + 1) (hb1 : p1.dyns.length = b1 + 1) :
  Own Tryz.prog gl 16 [.agg [.str t, .sl 14 (bs.map Ba.av) .none, .sl 5 [p0.av, p1.av] .none]] (.agg [.str t, .msl 1 0 (nb + 1) 14, .msl 0 0 2 5]) [(0, [.str p0.name, .int .i64 p0.clef, .int .i64 p0.channel, .msl 2 0 (a0 + 1) 1, .msl 3 0 (b0 + 1) 1, .str p1.name, .int .i64 p1.clef, .int .i64 p1.channel, .msl 4 0 (a1 + 1) 1, .msl 5 0 (b1 + 1) 1]), (1, bs.flatMap Ba.cells), (2, p0.cells.flatMap ceC1), (3, p0.dyns.flatMap dyC), (4, p1.cells.flatMap ceC1), (5, p1.dyns.flatMap dyC)] 10 := by
 have ob := edBars_own bs hbl hbs
 rw [hnb] at ob
 simp only [ownA_succ, ownH_succ] at ob
 have op := edPartsB2 p0 p1 h0 a0 b0 ha0 hb0 h1 a1 b1 ha1 hb1
 (refine Own.intro 2 mix names (fn := Tryz.f16) Tryz.func16 rfl fun F hF hro W => ?_; simp -implicitDefEqProofs only [Tryz.ntmps16, Tryz.results16, entL, Nat.reduceAdd, Nat.reduceSub])
 repeat' (first
  | simp -implicitDefEqProofs (maxSteps := 9999999) only [↓reduceIte, runsY, lstY, facts, Nat.reduceAdd, Nat.reduceEqDiff, Nat.reduceLeDiff, AV.cells, AV.one, ren_up, hup_cons, hup_nil, hC_cons, hC_nil, ceRen, dyRen, baRen, *]
  | ((with_reducible refine OZ_at 38 ?_); refine OZ_own hF hro op (rfl) ?_)
  | ((with_reducible refine OZ_at 37 ?_); refine OZ_own hF hro ob (rfl) ?_))
 exact OwnK.of [(9, 0), (4, 1), (10, 2), (11, 3), (12, 4), (13, 5)] rfl (HRen.cons 9 rfl rfl rfl (HRen.cons 4 rfl rfl (baRen _) (HRen.cons 10 rfl rfl (ceRen _) (HRen.cons 11 rfl rfl (dyRen _) (HRen.cons 12 rfl rfl (ceRen _) (HRen.cons 13 rfl rfl (dyRen _) HRen.nil)))))) rfl
set_option maxHeartbeats 4000000 in
theorem edPartsB3 (p0 p1 p2 : Pa) (h0 : p0.shortB) (a0 b0 : Nat) (ha0 : p0.cells.length = a0 + 1) (hb0 : p0.dyns.length = b0 + 1) (h1 : p1.shortB) (a1 b1 : Nat) (ha1 : p1.cells.length = a1 + 1) (hb1 : p1.dyns.length = b1 + 1) (h2 : p2.shortB) (a2 b2 : Nat) (ha2 : p2.cells.length = a2 + 1) (hb2 : p2.dyns.length = b2 + 1) :
  Own Tryz.prog gl 38 [.sl 5 [p0.av, p1.av, p2.av] .none, .fn 39 [] []] (.msl 0 0 3 5) [(0, [.str p0.name, .int .i64 p0.clef, .int .i64 p0.channel, .msl 1 0 (a0 + 1) 1, .msl 2 0 (b0 + 1) 1, .str p1.name, .int .i64 p1.clef, .int .i64 p1.channel, .msl 3 0 (a1 + 1) 1, .msl 4 0 (b1 + 1) 1, .str p2.name, .int .i64 p2.clef, .int .i64 p2.channel, .msl 5 0 (a2 + 1) 1, .msl 6 0 (b2 + 1) 1]), (1, p0.cells.flatMap ceC1), (2, p0.dyns.flatMap dyC), (3, p1.cells.flatMap ceC1), (4, p1.dyns.flatMap dyC), (5, p2.cells.flatMap ceC1), (6, p2.dyns.flatMap dyC)] 7 := by
 have o0 := edPartB_own p0 h0 a0 b0 ha0 hb0
 have o1 := edPartB_own p1 h1 a1 b1 ha1 hb1
 have o2 := edPartB_own p2 h2 a2 b2 ha2 hb2
 (refine Own.intro 2 mix names (fn := Tryz.f38) Tryz.func38 rfl fun F hF hro W => ?_; simp -implicitDefEqProofs only [Tryz.ntmps38, Tryz.results38, entL, Nat.reduceAdd, Nat.reduceSub])
 repeat' (simp -implicitDefEqProofs (maxSteps := 9999999) only [↓reduceIte, runsY, lstY, facts, Nat.reduceAdd, *])
 refine OZ_unroll 4 ?_
 repeat' (first
  | simp -implicitDefEqProofs (maxSteps := 9999999) only [↓reduceIte, runsY, lstY, facts, Nat.reduceAdd, Nat.reduceEqDiff, Nat.reduceLT, Nat.reduceLeDiff, Nat.reduceMul, Int.reduceLT, Int.reduceLE, Int.reduceToNat, Int.reduceNeg, Int.reduceAdd, aappM, xcells, List.flatMap_cons, List.flatMap_nil, AV.cells, true_or, AV.one, strip0_msl, pure_msl, ren_partB, hup_cons, hup_nil, hC_cons, hC_nil, ceRen, dyRen, wrap_in, Pa.av, *]
  | ((with_reducible refine OZ_at 39 ?_); refine OZ_own hF hro o0 (rfl) ?_)
  | ((with_reducible refine OZ_at 39 ?_); refine OZ_own hF hro o1 (rfl) ?_)
  | ((with_reducible refine OZ_at 39 ?_); refine OZ_own hF hro o2 (rfl) ?_))
 exact OwnK.of [(46, 0), (13, 1), (14, 2), (28, 3), (29, 4), (43, 5), (44, 6)] rfl (HRen.cons 46 rfl rfl rfl (HRen.cons 13 rfl rfl (ceRen _) (HRen.cons 14 rfl rfl (dyRen _) (HRen.cons 28 rfl rfl (ceRen _) (HRen.cons 29 rfl rfl (dyRen _) (HRen.cons 43 rfl rfl (ceRen _) (HRen.cons 44 rfl rfl (dyRen _) HRen.nil))))))) rfl
set_option maxHeartbeats 4000000 in
theorem copiedB3 (t : ByteArray) (bs : List Ba) (hbl : bs.length ≤ 1000000) (hbs : ∀ b ∈ bs, b.short) (nb : Nat) (hnb : bs.length = nb + 1) (p0 p1 p2 : Pa) (h0 : p0.shortB) (a0 b0 : Nat) (ha0 : p0.cells.length = a0 + 1) (hb0 : p0.dyns.length = b0 + 1) (h1 : p1.shortB) (a1 b1 : Nat) (ha1 : p1.cells.length = a1 + 1) (hb1 : p1.dyns.length = b1 + 1) (h2 : p2.shortB) (a2 b2 : Nat) (ha2 : p2.cells.length = a2 + 1) (hb2 : p2.dyns.length = b2 + 1) :
  Own Tryz.prog gl 16 [.agg [.str t, .sl 14 (bs.map Ba.av) .none, .sl 5 [p0.av, p1.av, p2.av] .none]] (.agg [.str t, .msl 1 0 (nb + 1) 14, .msl 0 0 3 5]) [(0, [.str p0.name, .int .i64 p0.clef, .int .i64 p0.channel, .msl 2 0 (a0 + 1) 1, .msl 3 0 (b0 + 1) 1, .str p1.name, .int .i64 p1.clef, .int .i64 p1.channel, .msl 4 0 (a1 + 1) 1, .msl 5 0 (b1 + 1) 1, .str p2.name, .int .i64 p2.clef, .int .i64 p2.channel, .msl 6 0 (a2 + 1) 1, .msl 7 0 (b2 + 1) 1]), (1, bs.flatMap Ba.cells), (2, p0.cells.flatMap ceC1), (3, p0.dyns.flatMap dyC), (4, p1.cells.flatMap ceC1), (5, p1.dyns.flatMap dyC), (6, p2.cells.flatMap ceC1), (7, p2.dyns.flatMap dyC)] 10 := by
 have ob := edBars_own bs hbl hbs
 rw [hnb] at ob
 simp only [ownA_succ, ownH_succ] at ob
 have op := edPartsB3 p0 p1 p2 h0 a0 b0 ha0 hb0 h1 a1 b1 ha1 hb1 h2 a2 b2 ha2 hb2
 (refine Own.intro 2 mix names (fn := Tryz.f16) Tryz.func16 rfl fun F hF hro W => ?_; simp -implicitDefEqProofs only [Tryz.ntmps16, Tryz.results16, entL, Nat.reduceAdd, Nat.reduceSub])
 repeat' (first
  | simp -implicitDefEqProofs (maxSteps := 9999999) only [↓reduceIte, runsY, lstY, facts, Nat.reduceAdd, Nat.reduceEqDiff, Nat.reduceLeDiff, AV.cells, AV.one, ren_up, hup_cons, hup_nil, hC_cons, hC_nil, ceRen, dyRen, baRen, *]
  | ((with_reducible refine OZ_at 38 ?_); refine OZ_own hF hro op (rfl) ?_)
  | ((with_reducible refine OZ_at 37 ?_); refine OZ_own hF hro ob (rfl) ?_))
 exact OwnK.of [(9, 0), (4, 1), (10, 2), (11, 3), (12, 4), (13, 5), (14, 6), (15, 7)] rfl (HRen.cons 9 rfl rfl rfl (HRen.cons 4 rfl rfl (baRen _) (HRen.cons 10 rfl rfl (ceRen _) (HRen.cons 11 rfl rfl (dyRen _) (HRen.cons 12 rfl rfl (ceRen _) (HRen.cons 13 rfl rfl (dyRen _) (HRen.cons 14 rfl rfl (ceRen _) (HRen.cons 15 rfl rfl (dyRen _) HRen.nil)))))))) rfl
set_option maxHeartbeats 4000000 in
theorem edPartsB4 (p0 p1 p2 p3 : Pa) (h0 : p0.shortB) (a0 b0 : Nat) (ha0 : p0.cells.length = a0 + 1) (hb0 : p0.dyns.length = b0 + 1) (h1 : p1.shortB) (a1 b1 : Nat) (ha1 : p1.cells.length = a1 + 1) (hb1 : p1.dyns.length = b1 + 1) (h2 : p2.shortB) (a2 b2 : Nat) (ha2 : p2.cells.length = a2 + 1) (hb2 : p2.dyns.length = b2 + 1) (h3 : p3.shortB) (a3 b3 : Nat) (ha3 : p3.cells.length = a3 + 1) (hb3 : p3.dyns.length = b3 + 1) :
  Own Tryz.prog gl 38 [.sl 5 [p0.av, p1.av, p2.av, p3.av] .none, .fn 39 [] []] (.msl 0 0 4 5) [(0, [.str p0.name, .int .i64 p0.clef, .int .i64 p0.channel, .msl 1 0 (a0 + 1) 1, .msl 2 0 (b0 + 1) 1, .str p1.name, .int .i64 p1.clef, .int .i64 p1.channel, .msl 3 0 (a1 + 1) 1, .msl 4 0 (b1 + 1) 1, .str p2.name, .int .i64 p2.clef, .int .i64 p2.channel, .msl 5 0 (a2 + 1) 1, .msl 6 0 (b2 + 1) 1, .str p3.name, .int .i64 p3.clef, .int .i64 p3.channel, .msl 7 0 (a3 + 1) 1, .msl 8 0 (b3 + 1) 1]), (1, p0.cells.flatMap ceC1), (2, p0.dyns.flatMap dyC), (3, p1.cells.flatMap ceC1), (4, p1.dyns.flatMap dyC), (5, p2.cells.flatMap ceC1), (6, p2.dyns.flatMap dyC), (7, p3.cells.flatMap ceC1), (8, p3.dyns.flatMap dyC)] 9 := by
 have o0 := edPartB_own p0 h0 a0 b0 ha0 hb0
 have o1 := edPartB_own p1 h1 a1 b1 ha1 hb1
 have o2 := edPartB_own p2 h2 a2 b2 ha2 hb2
 have o3 := edPartB_own p3 h3 a3 b3 ha3 hb3
 (refine Own.intro 2 mix names (fn := Tryz.f38) Tryz.func38 rfl fun F hF hro W => ?_; simp -implicitDefEqProofs only [Tryz.ntmps38, Tryz.results38, entL, Nat.reduceAdd, Nat.reduceSub])
 repeat' (simp -implicitDefEqProofs (maxSteps := 9999999) only [↓reduceIte, runsY, lstY, facts, Nat.reduceAdd, *])
 refine OZ_unroll 5 ?_
 repeat' (first
  | simp -implicitDefEqProofs (maxSteps := 9999999) only [↓reduceIte, runsY, lstY, facts, Nat.reduceAdd, Nat.reduceEqDiff, Nat.reduceLT, Nat.reduceLeDiff, Nat.reduceMul, Int.reduceLT, Int.reduceLE, Int.reduceToNat, Int.reduceNeg, Int.reduceAdd, aappM, xcells, List.flatMap_cons, List.flatMap_nil, AV.cells, true_or, AV.one, strip0_msl, pure_msl, ren_partB, hup_cons, hup_nil, hC_cons, hC_nil, ceRen, dyRen, wrap_in, Pa.av, *]
  | ((with_reducible refine OZ_at 39 ?_); refine OZ_own hF hro o0 (rfl) ?_)
  | ((with_reducible refine OZ_at 39 ?_); refine OZ_own hF hro o1 (rfl) ?_)
  | ((with_reducible refine OZ_at 39 ?_); refine OZ_own hF hro o2 (rfl) ?_)
  | ((with_reducible refine OZ_at 39 ?_); refine OZ_own hF hro o3 (rfl) ?_))
 exact OwnK.of [(61, 0), (13, 1), (14, 2), (28, 3), (29, 4), (43, 5), (44, 6), (58, 7), (59, 8)] rfl (HRen.cons 61 rfl rfl rfl (HRen.cons 13 rfl rfl (ceRen _) (HRen.cons 14 rfl rfl (dyRen _) (HRen.cons 28 rfl rfl (ceRen _) (HRen.cons 29 rfl rfl (dyRen _) (HRen.cons 43 rfl rfl (ceRen _) (HRen.cons 44 rfl rfl (dyRen _) (HRen.cons 58 rfl rfl (ceRen _) (HRen.cons 59 rfl rfl (dyRen _) HRen.nil))))))))) rfl
set_option maxHeartbeats 4000000 in
theorem copiedB4 (t : ByteArray) (bs : List Ba) (hbl : bs.length ≤ 1000000) (hbs : ∀ b ∈ bs, b.short) (nb : Nat) (hnb : bs.length = nb + 1) (p0 p1 p2 p3 : Pa) (h0 : p0.shortB) (a0 b0 : Nat) (ha0 : p0.cells.length = a0 + 1) (hb0 : p0.dyns.length = b0 + 1) (h1 : p1.shortB) (a1 b1 : Nat) (ha1 : p1.cells.length = a1 + 1) (hb1 : p1.dyns.length = b1 + 1) (h2 : p2.shortB) (a2 b2 : Nat) (ha2 : p2.cells.length = a2 + 1) (hb2 : p2.dyns.length = b2 + 1) (h3 : p3.shortB) (a3 b3 : Nat) (ha3 : p3.cells.length = a3 + 1) (hb3 : p3.dyns.length = b3 + 1) :
  Own Tryz.prog gl 16 [.agg [.str t, .sl 14 (bs.map Ba.av) .none, .sl 5 [p0.av, p1.av, p2.av, p3.av] .none]] (.agg [.str t, .msl 1 0 (nb + 1) 14, .msl 0 0 4 5]) [(0, [.str p0.name, .int .i64 p0.clef, .int .i64 p0.channel, .msl 2 0 (a0 + 1) 1, .msl 3 0 (b0 + 1) 1, .str p1.name, .int .i64 p1.clef, .int .i64 p1.channel, .msl 4 0 (a1 + 1) 1, .msl 5 0 (b1 + 1) 1, .str p2.name, .int .i64 p2.clef, .int .i64 p2.channel, .msl 6 0 (a2 + 1) 1, .msl 7 0 (b2 + 1) 1, .str p3.name, .int .i64 p3.clef, .int .i64 p3.channel, .msl 8 0 (a3 + 1) 1, .msl 9 0 (b3 + 1) 1]), (1, bs.flatMap Ba.cells), (2, p0.cells.flatMap ceC1), (3, p0.dyns.flatMap dyC), (4, p1.cells.flatMap ceC1), (5, p1.dyns.flatMap dyC), (6, p2.cells.flatMap ceC1), (7, p2.dyns.flatMap dyC), (8, p3.cells.flatMap ceC1), (9, p3.dyns.flatMap dyC)] 10 := by
 have ob := edBars_own bs hbl hbs
 rw [hnb] at ob
 simp only [ownA_succ, ownH_succ] at ob
 have op := edPartsB4 p0 p1 p2 p3 h0 a0 b0 ha0 hb0 h1 a1 b1 ha1 hb1 h2 a2 b2 ha2 hb2 h3 a3 b3 ha3 hb3
 (refine Own.intro 2 mix names (fn := Tryz.f16) Tryz.func16 rfl fun F hF hro W => ?_; simp -implicitDefEqProofs only [Tryz.ntmps16, Tryz.results16, entL, Nat.reduceAdd, Nat.reduceSub])
 repeat' (first
  | simp -implicitDefEqProofs (maxSteps := 9999999) only [↓reduceIte, runsY, lstY, facts, Nat.reduceAdd, Nat.reduceEqDiff, Nat.reduceLeDiff, AV.cells, AV.one, ren_up, hup_cons, hup_nil, hC_cons, hC_nil, ceRen, dyRen, baRen, *]
  | ((with_reducible refine OZ_at 38 ?_); refine OZ_own hF hro op (rfl) ?_)
  | ((with_reducible refine OZ_at 37 ?_); refine OZ_own hF hro ob (rfl) ?_))
 exact OwnK.of [(9, 0), (4, 1), (10, 2), (11, 3), (12, 4), (13, 5), (14, 6), (15, 7), (16, 8), (17, 9)] rfl (HRen.cons 9 rfl rfl rfl (HRen.cons 4 rfl rfl (baRen _) (HRen.cons 10 rfl rfl (ceRen _) (HRen.cons 11 rfl rfl (dyRen _) (HRen.cons 12 rfl rfl (ceRen _) (HRen.cons 13 rfl rfl (dyRen _) (HRen.cons 14 rfl rfl (ceRen _) (HRen.cons 15 rfl rfl (dyRen _) (HRen.cons 16 rfl rfl (ceRen _) (HRen.cons 17 rfl rfl (dyRen _) HRen.nil)))))))))) rfl
end Go.Proofs.Pv
