/-
  Layer 7's sums of a voice: where events begin, and how long a voice is; layer 8's look at a voice in a bar.
  Layer 7's length of a voice, layer 8's look at a voice in a bar.
  Layer 8's look at a part's cells.
  Conditions: none but those that each statement names.
-/
import Derived.Test.YtiikpmhjckdpgaaGreatDoorC08h
import Derived.Test.YtiikpmhjckdpgaaGreatDoorPvBA
namespace Go.Proofs.Pv
open Go Go.Proofs
set_option linter.unusedSimpArgs false
set_option linter.unusedVariables false
set_option maxRecDepth 10000
set_option maxHeartbeats 4000000
def tkS2 (n1 k : Nat) (r : List (Nat × Blk)) (x : Tk) : St := match x with
 | .tok _ => ⟨(k, .tok) :: r, n1⟩
 | _ => ⟨r, n1⟩
def sumN (l : List Ev) : Nat → Ra
 | 0 => ⟨0, 1⟩
 | k + 1 => (addR (sumN l k) (l.getD k zeroEv).lenR.1).1
def sumE (l : List Ev) (k : Nat) : Int := (addR (sumN l k) (l.getD k zeroEv).lenR.1).2
theorem sumN_fits (l : List Ev) : ∀ k, (sumN l k).fits
 | 0 => by simp [sumN, Ra.fits, I64]
 | k + 1 => addR_fits
theorem evLenR_fits {e : Ev} : e.lenR.1.fits := by
 unfold Ev.lenR; split
 ·exact lenR_fits
 ·simp [Ra.fits, I64]
def Vo.sumsR (v : Vo) : List Ra × Int :=
 if v.checkR.2 = 0 then
  match firstN v.l.length (fun k => decide (sumE v.l k ≠ 0)) with
  | some k => ([], sumE v.l k)
  | none => ((List.range (v.l.length + 1)).map (sumN v.l), 0)
 else ([], v.checkR.2)
theorem sumsR_bad {v : Vo} {i : Nat} (h : v.checkR.2 = 0) (hi : i < v.l.length) (hb : sumE v.l i ≠ 0) (hQ : ∀ j, j < i → sumE v.l j = 0) : v.sumsR = ([], sumE v.l i) := by
 rw [Vo.sumsR, if_pos h, firstN_hit hi (by simpa using hb) (fun j hj => by simpa using hQ j hj)]
theorem sumsR_ok {v : Vo} {i : Nat} (h : v.checkR.2 = 0) (hi : i = v.l.length) (hQ : ∀ j, j < i → sumE v.l j = 0) : v.sumsR = ((List.range (i + 1)).map (sumN v.l), 0) := by
 rw [Vo.sumsR, if_pos h, firstN_none (fun j hj => by simpa using hQ j (by omega)), hi]
theorem sumN_snoc {l : List Ev} {i : Nat} (hi : i < l.length) : ((List.range (i + 1 + 1)).map fun k => (sumN l k).av) = ((List.range (i + 1)).map fun k => (sumN l k).av) ++ [(addR (sumN l i) l[i].lenR.1).1.av] := by
 rw [List.range_succ (n := i + 1), List.map_append, ← getD_at hi (d := zeroEv)]; rfl
theorem sums_ok (v : Vo) (hs : v.small) : PC Tryz.prog gl 148 [v.av] (fun w => w = .tup [.sl 2 (v.sumsR.1.map Ra.av) .none, .int .i64 v.sumsR.2]) := by
 (refine PC.introY 3 mix (fn := Tryz.f148) Tryz.func148 rfl (names 148 _ Tryz.func148) fun F hF hro W => ?_; simp -implicitDefEqProofs only [Tryz.ntmps148, Tryz.results148, entL, Nat.reduceAdd, Nat.reduceSub])
 repeat' (first
  | simp -implicitDefEqProofs (disch := first | assumption | omega) only [runsY, lstY, facts, if_pos, Nat.reduceAdd, Nat.reduceLT, Nat.reduceLeDiff, Vo.av, *]
  | ((with_reducible refine condK_split (fun _ => ?_) (fun _ => ?_)) <;> try omega)
  | ((with_reducible refine OY_at 116 ?_); refine PC.useY hF (voiceCheck_ok v hs) (rfl) fun v hv => ?_; subst hv))
 ·rename_i h1
  have h1' : ¬ v.checkR.2 = 0 := by simpa using h1
  rw [show v.sumsR = ([], v.checkR.2) from if_neg h1']; rfl
 rename_i h1
 have h1' : v.checkR.2 = 0 := by simpa using h1
 refine OY_for (mkM 54 [6, 24, 25, 26]) [(6, 100)] 101 v.l.length (fun i (x : Tk) => ⟨[.ud, .ud, .ud, .ud, .ud, .ud, .sl 2 ((List.range (i + 1)).map fun k => (sumN v.l k).av) x, .ud, .ud, .ud, .ud, .ud, .ud, .ud, .ud, .ud, .ud, .ud, .ud, .ud, .ud, .ud, .ud, .ud, .sl 9 (v.l.map Ev.av) .none, .int .i64 (v.l.length : Nat), .int .i64 (i : Nat), .ud, .ud, .ud, .ud, .ud, .ud, .ud, .ud, .ud, .ud, .ud, .ud, .ud, .ud, .ud, .ud, .ud, .ud, .ud, .ud, .ud, .ud, .ud, .ud, .ud, .ud, .ud], []⟩) (fun _ x => tkS2 101 100 [(0, .cells [.sl 9 (v.l.map Ev.av) .none])] x) (fun i x => ((x = .full ∧ i = 0) ∨ x = .tok 100) ∧ ∀ j, j < i → sumE v.l j = 0) .full ⟨.inl ⟨rfl, rfl⟩, fun j h => by omega⟩ ?_ ?_ ?_
 ·simp only [Nat.zero_add, List.range_one, List.map_cons, List.map_nil, sumN]; rfl
 ·rfl
 rintro i x hi hQ
 have hlen : ((List.range (i + 1)).map fun k => (sumN v.l k).av).length = i + 1 := by simp
 have hget : ((List.range (i + 1)).map fun k => (sumN v.l k).av)[i]? = some (.agg [.int .i64 (sumN v.l i).num, .int .i64 (sumN v.l i).den]) := by simp [Ra.av]
 have hs1 := hs.1
 rcases hQ with ⟨⟨rfl, rfl⟩ | rfl, hQ⟩
 all_goals repeat' (first
  | simp -implicitDefEqProofs (disch := first | assumption | omega) only [runsY, lstY, facts, if_pos, if_neg, Nat.reduceAdd, Nat.reduceEqDiff, Nat.reduceLT, Nat.reduceLeDiff, Nat.reduceMul, Int.reduceLE, Int.reduceAdd, tkS2, hlen, hget, wrap_in, List.getElem?_eq_getElem, Ev.av, ratV, *]
  | ((with_reducible refine w_at 159 ?_); refine wstep_call (ratioAdd_ok (sumN v.l i) v.l[i].lenR.1 (sumN_fits _ _) evLenR_fits) (rfl) ?_)
  | ((with_reducible refine w_at 159 ?_); refine wstep_call (ratioAdd_ok (sumN v.l 0) v.l[0].lenR.1 (sumN_fits _ _) evLenR_fits) (rfl) ?_)
  | ((with_reducible refine condK_dec (fun _ => ?_) (fun _ => ?_)) <;> try omega)
  | ((with_reducible refine condK_split (fun _ => ?_) (fun _ => ?_)) <;> try omega)
  | ((with_reducible refine OY_drawn ?_); refine OY_drawW (by decide +kernel) ?_)
  | ((with_reducible refine wend ?_ ?_); · decide +kernel)
  | ((with_reducible refine OY_at 158 ?_); refine PC.useY hF (eventLength_ok v.l[i] (hs.2 _ (List.getElem_mem (by omega)))) (rfl) fun v hv => ?_; subst hv)
  | ((with_reducible refine OY_at 158 ?_); refine PC.useY hF (eventLength_ok v.l[0] (hs.2 _ (List.getElem_mem (by omega)))) (rfl) fun v hv => ?_; subst hv))
 ·rename_i h2 h3
  have h3' : sumE v.l 0 ≠ 0 := by rw [sumE, getD_at (show 0 < v.l.length by omega)]; simpa using h3
  rw [sumsR_bad h1' (show 0 < v.l.length by omega) h3' hQ, sumE, getD_at (show 0 < v.l.length by omega)]; rfl
 ·rename_i h2 h3
  have h3' : sumE v.l 0 = 0 := by rw [sumE, getD_at (show 0 < v.l.length by omega)]; simpa using h3
  refine OY_next (.tok 100) (by omega) ⟨.inr rfl, prevN hQ h3'⟩ ?_ ?_
  ·rfl
  ·simp only [sumN_snoc (show 0 < v.l.length by omega)]; rfl
 ·rw [sumsR_ok h1' (i := 0) (show 0 = v.l.length by omega) hQ]; simp only [List.map_map]; rfl
 ·rename_i h2 h3
  have h3' : sumE v.l i ≠ 0 := by rw [sumE, getD_at (show i < v.l.length by omega)]; simpa using h3
  rw [sumsR_bad h1' (show i < v.l.length by omega) h3' hQ, sumE, getD_at (show i < v.l.length by omega)]; rfl
 ·rename_i h2 h3
  have h3' : sumE v.l i = 0 := by rw [sumE, getD_at (show i < v.l.length by omega)]; simpa using h3
  refine OY_next (.tok 100) (by omega) ⟨.inr rfl, prevN hQ h3'⟩ ?_ ?_
  ·rfl
  ·simp only [sumN_snoc (show i < v.l.length by omega)]; rfl
 ·rw [sumsR_ok h1' (i := i) (show i = v.l.length by omega) hQ]; simp only [List.map_map]; rfl
end Go.Proofs.Pv
namespace Go.Proofs.Pv
open Go Go.Proofs
set_option linter.unusedSimpArgs false
set_option linter.unusedVariables false
set_option maxRecDepth 10000
set_option maxHeartbeats 4000000
def Vo.lenR (v : Vo) : Ra × Int := if v.sumsR.2 = 0 then (sumN v.l v.l.length, 0) else (⟨0, 0⟩, v.sumsR.2)
theorem sumsR_list {v : Vo} (h : v.sumsR.2 = 0) : v.sumsR.1 = (List.range (v.l.length + 1)).map (sumN v.l) := by
 unfold Vo.sumsR at h ⊢
 split at h
 ·rename_i h1
  rw [if_pos h1]
  split at h
  ·rename_i k hk
   exfalso
   have := List.find?_some hk
   simp at this
   exact this h
  ·rfl
 ·rename_i h1; exact absurd h h1
theorem voiceLength_ok (v : Vo) (hs : v.small) : PC Tryz.prog gl 117 [v.av] (fun w => w = ratV v.lenR.1 v.lenR.2) := by
 (refine PC.introY 3 mix (fn := Tryz.f117) Tryz.func117 rfl (names 117 _ Tryz.func117) fun F hF hro W => ?_; simp -implicitDefEqProofs only [Tryz.ntmps117, Tryz.results117, entL, Nat.reduceAdd, Nat.reduceSub])
 by_cases h : v.sumsR.2 = 0
 ·have hl := sumsR_list h
  have hget : (List.range (v.l.length + 1))[v.l.length]? = some v.l.length := by simp
  have hlen : ((List.range (v.l.length + 1)).map fun k => (sumN v.l k).av).length = v.l.length + 1 := by simp
  have hs1 := hs.1
  repeat' (first
  | simp -implicitDefEqProofs (disch := first | assumption | omega) only [runsY, lstY, facts, if_pos, Nat.reduceAdd, Int.reduceBNe, Vo.av, hl, h, hget, List.map_map, Function.comp, Ra.av, *]
  | ((with_reducible refine OY_at 148 ?_); refine PC.useY hF (sums_ok v hs) (rfl) fun v hv => ?_; subst hv))
  rw [Vo.lenR, if_pos h]; rfl
 ·repeat' (first
  | simp -implicitDefEqProofs (disch := first | assumption | omega) only [runsY, lstY, facts, if_pos, Nat.reduceAdd, Vo.av, *]
  | with_reducible refine sstep_stop ?_
  | ((with_reducible refine condK_split (fun _ => ?_) (fun _ => ?_)) <;> try omega)
  | ((with_reducible refine OY_at 148 ?_); refine PC.useY hF (sums_ok v hs) (rfl) fun v hv => ?_; subst hv))
  ·rw [Vo.lenR, if_neg h]; rfl
  ·rename_i h1; exact absurd (by simpa using h1) h
def Ra.same (a b : Ra) : Bool := (a.num == b.num) && (a.den == b.den)
def Vo.filledR (v : Vo) (len : Ra) : Int × Int := if v.checkR.2 = 0 then (0, if v.lenR.2 = 0 then (if v.lenR.1.same len = true then 0 else 81) else v.lenR.2) else v.checkR
theorem filled_ok (v : Vo) (len : Ra) (hs : v.small) : PC Tryz.prog gl 76 [v.av, len.av] (fun w => w = .tup [.int .i64 (v.filledR len).1, .int .i64 (v.filledR len).2]) := by
 (refine PC.introY 3 mix (fn := Tryz.f76) Tryz.func76 rfl (names 76 _ Tryz.func76) fun F hF hro W => ?_; simp -implicitDefEqProofs only [Tryz.ntmps76, Tryz.results76, entL, Nat.reduceAdd, Nat.reduceSub])
 repeat' (first
  | simp -implicitDefEqProofs (disch := first | assumption | omega) only [runsY, lstY, facts, if_pos, Nat.reduceAdd, Vo.av, Ra.av, ratV, *]
  | ((with_reducible refine condK_nsplit (fun _ => ?_) (fun _ => ?_)) <;> try omega)
  | ((with_reducible refine condK_split (fun _ => ?_) (fun _ => ?_)) <;> try omega)
  | ((with_reducible refine sstep_split (fun _ => ?_) (fun _ => ?_)) <;> try omega)
  | ((with_reducible refine OY_at 116 ?_); refine PC.useY hF (voiceCheck_ok v hs) (rfl) fun v hv => ?_; subst hv)
  | ((with_reducible refine OY_at 117 ?_); refine PC.useY hF (voiceLength_ok v hs) (rfl) fun v hv => ?_; subst hv))
 all_goals simp_all [Vo.filledR, Ra.same]
end Go.Proofs.Pv
namespace Go.Proofs.Pv
open Go Go.Proofs
set_option linter.unusedSimpArgs false
set_option linter.unusedVariables false
set_option maxRecDepth 10000
set_option maxHeartbeats 4000000
def barAt (s : Sc) (k : Nat) : Ba := s.bars.getD k ⟨⟨0, 0, []⟩, ⟨0, false⟩, ⟨false, 0, [], false, false, false, false, 0⟩, []⟩
def dynsAt (s : Sc) (i k : Nat) : List Dy := (partAt s i).dyns.getD k []
def loudR (l : List Dy) (len : Ra) : Int := if (risingB (l.map fun t => t.at_) len && !(l.any Dy.odd)) = true then 0 else 120
def voAt (c : List Vo) (n : Nat) : Vo := c.getD n ⟨[]⟩
def cellR (c : List Vo) (d : List Dy) (len : Ra) : Int × Int × Int :=
 if c.length = 0 ∨ c.length > 4 then (0, 0, 82)
 else match firstN c.length (fun n => decide (((voAt c n).filledR len).2 ≠ 0)) with
  | some n => (n, (voAt c n).filledR len)
  | none => (0, 0, loudR d len)
def cellErr (s : Sc) (i k : Nat) : Int × Int × Int := cellR (cellAt s i k) (dynsAt s i k) (barAt s k).meter.lenR.1
def cellsR (s : Sc) (i : Nat) : (Int × Int × Int × Int) × Int :=
 match firstN s.bars.length (fun k => decide ((cellErr s i k).2.2 ≠ 0)) with
 | some k => ((i, k, (cellErr s i k).1, (cellErr s i k).2.1), (cellErr s i k).2.2)
 | none => ((0, 0, 0, 0), 0)
def plcAV (x : Int × Int × Int × Int) : AV := plAV x.1 x.2.1 x.2.2.1 x.2.2.2
structure Pa.small (p : Pa) : Prop where
 voices : ∀ c ∈ p.cells, c.length ≤ 1000000 ∧ ∀ v ∈ c, v.small
 dyns : ∀ d ∈ p.dyns, d.length ≤ 1000000 ∧ ∀ t ∈ d, t.at_.fits
theorem cellsR_bad {s : Sc} {i k : Nat} {x : Int × Int × Int} (hk : k < s.bars.length) (hx : cellErr s i k = x) (h : x.2.2 ≠ 0) (hQ : ∀ j, j < k → (cellErr s i j).2.2 = 0) : cellsR s i = ((((i : Nat) : Int), ((k : Nat) : Int), x.1, x.2.1), x.2.2) := by
 subst hx
 rw [cellsR, firstN_hit hk (by simpa using h) (fun j hj => by simpa using hQ j hj)]
theorem cellR_bad {c : List Vo} {d : List Dy} {len : Ra} {n : Nat} (h0 : ¬ (c.length = 0 ∨ c.length > 4)) (hn : n < c.length) (h : (c[n].filledR len).2 ≠ 0) (hQ : ∀ j, j < n → ((voAt c j).filledR len).2 = 0) : cellR c d len = (((n : Nat) : Int), c[n].filledR len) := by
 have hv : voAt c n = c[n] := getD_at hn
 rw [cellR, if_neg h0, firstN_hit hn (by rw [hv]; simpa using h) (fun j hj => by simpa using hQ j hj)]
 show ((n : Int), (voAt c n).filledR len) = _
 rw [hv]
theorem cellR_ok {c : List Vo} {d : List Dy} {len : Ra} {n : Nat} (h0 : ¬ (c.length = 0 ∨ c.length > 4)) (hn : n = c.length) (hQ : ∀ j, j < n → ((voAt c j).filledR len).2 = 0) : cellR c d len = (0, 0, loudR d len) := by
 rw [cellR, if_neg h0, firstN_none (fun j hj => by simpa using hQ j (by omega))]
theorem filled_ok0 {v : Vo} {len : Ra} (h : (v.filledR len).2 = 0) : (v.filledR len).1 = 0 := by
 unfold Vo.filledR at h ⊢
 split
 ·rfl
 ·rename_i h1; rw [if_neg h1] at h; exact absurd h h1
theorem cells_ok (s : Sc) (i : Nat) (p : Pa) (hi : s.parts[i]? = some p) (hb : s.bars.length ≤ 1000000) (hbars : ∀ b ∈ s.bars, b.ok) (hc : p.cells.length = s.bars.length) (hd : p.dyns.length = s.bars.length) (hp : p.small)
  : PC Tryz.prog gl 33 [s.av, .int .i64 (i : Nat)] (fun w => w = .tup [plcAV (cellsR s i).1, .int .i64 (cellsR s i).2]) := by
 have hlt : i < s.parts.length := by
  rcases Nat.lt_or_ge i s.parts.length with h | h
  ·exact h
  ·rw [List.getElem?_eq_none h] at hi; cases hi
 have hpa : partAt s i = p := by rw [partAt, List.getD_eq_getElem?_getD, hi]; rfl
 (refine PC.introY 3 mix (fn := Tryz.f33) Tryz.func33 rfl (names 33 _ Tryz.func33) fun F hF hro W => ?_; simp -implicitDefEqProofs only [Tryz.ntmps33, Tryz.results33, entL, Nat.reduceAdd, Nat.reduceSub])
 repeat' (simp -implicitDefEqProofs (disch := first | assumption | omega) only [runsY, lstY, facts, if_pos, Nat.reduceAdd, Nat.reduceLeDiff, Sc.av, hi, Pa.av, crun_scope, *])
 refine OY_for (mkM 92 [1, 2, 4, 5, 6, 19, 20]) [] 100 s.bars.length (fun k (_ : Int × Int × Int × Int) => ⟨[.ud, .int .i64 (i : Nat), .ptr 0 0, .ud, .ptr 1 0, .int .i64 0, .ptr 8 0, .ud, .ud, .ud, .ud, .ud, .ud, .ud, .ud, .ud, .ud, .ud, .ud, .int .i64 (s.bars.length : Nat), .int .i64 (k : Nat), .ud, .ud, .ud, .ud, .ud, .ud, .ud, .ud, .ud, .ud, .ud, .ud, .ud, .ud, .ud, .ud, .ud, .ud, .ud, .ud, .ud, .ud, .ud, .ud, .ud, .ud, .ud, .ud, .ud, .ud, .ud, .ud, .ud, .ud, .ud, .ud, .ud, .ud, .ud, .ud, .ud, .ud, .ud, .ud, .ud, .ud, .ud, .ud, .ud, .ud, .ud, .ud, .ud, .ud, .ud, .ud, .ud, .ud, .ud, .ud, .ud, .ud, .ud, .ud, .ud, .ud, .ud, .ud, .ud, .ud, .ud], []⟩) (fun _ x => ⟨[(8, .cells [.str p.name, .int .i64 p.clef, .int .i64 p.channel, .sl 1 (p.cells.map cellAV) .none, .sl 1 (p.dyns.map dynsAV) .none]), (1, .cells [.int .i64 x.1, .int .i64 x.2.1, .int .i64 x.2.2.1, .int .i64 x.2.2.2]), (0, .cells [.str s.title, .sl 14 (s.bars.map Ba.av) .none, .sl 5 (s.parts.map Pa.av) .none])], 100⟩) (fun k _ => ∀ j, j < k → (cellErr s i j).2.2 = 0) (0, 0, 0, 0) prev0 rfl rfl ?_
 rintro k ⟨x1, x2, x3, x4⟩ hk hQ
 by_cases hkl : k < s.bars.length
 ·have hbk : barAt s k = s.bars[k] := getD_at hkl
  have hck : cellAt s i k = p.cells[k] := by rw [cellAt, hpa]; exact getD_at (by omega)
  have hdk : dynsAt s i k = p.dyns[k] := by rw [dynsAt, hpa]; exact getD_at (by omega)
  have hbo := hbars _ (List.getElem_mem hkl)
  have hce : cellErr s i k = cellR p.cells[k] p.dyns[k] s.bars[k].meter.lenR.1 := by rw [cellErr, hbk, hck, hdk]
  have hvs := hp.voices _ (List.getElem_mem (show k < p.cells.length by omega))
  have hds := hp.dyns _ (List.getElem_mem (show k < p.dyns.length by omega))
  have e1 : s.bars[k]? = some s.bars[k] := List.getElem?_eq_getElem hkl
  have e2 : p.cells[k]? = some p.cells[k] := List.getElem?_eq_getElem (by omega)
  have e3 : p.dyns[k]? = some p.dyns[k] := List.getElem?_eq_getElem (by omega)
  generalize hbb : s.bars[k] = b at hce hbo e1
  generalize hcc : p.cells[k] = c at hce hvs e2
  generalize hdd : p.dyns[k] = d at hce hds e3
  have hvl := hvs.1
  repeat' (first
  | simp -implicitDefEqProofs (disch := first | assumption | omega) only [runsY, lstY, facts, if_pos, Nat.reduceAdd, Nat.reduceEqDiff, Nat.reduceLeDiff, Int.reduceBEq, e1, e2, Ba.av, cellAV, scopeK_ret, blockK_exit_ne, ratV, *]
  | ((with_reducible refine condK_dec (fun _ => ?_) (fun _ => ?_)) <;> try omega)
  | ((with_reducible refine sstep_nsplit (fun _ => ?_) (fun _ => ?_)) <;> try omega)
  | ((with_reducible refine OY_at 69 ?_); refine PC.useY hF (meterLength_ok b.meter hbo.groups hbo.num hbo.den) (rfl) fun v hv => ?_; subst hv))
  ·rename_i h1 h2
   have h0 : cellErr s i k = (0, 0, 82) := by rw [hce, cellR, if_pos (.inl (by simpa using h2))]
   rw [cellsR_bad hkl h0 (by decide) hQ]; rfl
  ·rename_i h1 h2 h3
   have h0 : cellErr s i k = (0, 0, 82) := by rw [hce, cellR, if_pos (.inr (by omega))]
   rw [cellsR_bad hkl h0 (by decide) hQ]; rfl
  rename_i h1 h2 h3
  have h0 : ¬ (c.length = 0 ∨ c.length > 4) := by rintro (h | h); { simp [h] at h2 }; { omega }
  refine OY_for (mkM 92 [1, 2, 4, 6, 7, 8, 19, 20, 56, 57, 58]) [] 200 c.length (fun n (_ : Int) => ⟨[.ud, .int .i64 (i : Nat), .ptr 0 0, .ud, .ptr 1 0, .ud, .ptr 8 0, .int .i64 (k : Nat), .ptr 116 0, .ud, .ud, .ud, .ud, .ud, .ud, .ud, .ud, .ud, .ud, .int .i64 (s.bars.length : Nat), .int .i64 (k : Nat), .ud, .ud, .ud, .ud, .ud, .ud, .ud, .ud, .ud, .ud, .ud, .ud, .ud, .ud, .ud, .ud, .ud, .ud, .ud, .ud, .ud, .ud, .ud, .ud, .ud, .ud, .ud, .ud, .ud, .ud, .ud, .ud, .ud, .ud, .ud, .sl 1 (c.map Vo.av) .none, .int .i64 (c.length : Nat), .int .i64 (n : Nat), .ud, .ud, .ud, .ud, .ud, .ud, .ud, .ud, .ud, .ud, .ud, .ud, .ud, .ud, .ud, .ud, .ud, .ud, .ud, .ud, .ud, .ud, .ud, .ud, .ud, .ud, .ud, .ud, .ud, .ud, .ud, .ud, .ud], []⟩) (fun _ x => ⟨[(116, .cells [.int .i64 b.meter.lenR.1.num, .int .i64 b.meter.lenR.1.den]), (8, .cells [.str p.name, .int .i64 p.clef, .int .i64 p.channel, .sl 1 (p.cells.map cellAV) .none, .sl 1 (p.dyns.map dynsAV) .none]), (1, .cells [.int .i64 (i : Nat), .int .i64 (k : Nat), .int .i64 x, .int .i64 0]), (0, .cells [.str s.title, .sl 14 (s.bars.map Ba.av) .none, .sl 5 (s.parts.map Pa.av) .none])], 200⟩) (fun n _ => ∀ j, j < n → ((voAt c j).filledR b.meter.lenR.1).2 = 0) 0 prev0 rfl rfl ?_
  rintro n x hn hQ2
  repeat' (first
  | simp -implicitDefEqProofs (disch := first | assumption | omega) only [runsY, lstY, facts, if_pos, Nat.reduceAdd, Nat.reduceLeDiff, wrap_in, e3, List.getElem?_eq_getElem, Vo.av, dynsAV, scopeK_ret, blockK_exit_ne, *]
  | ((with_reducible refine sr_at 77 ?_); refine srstep_call (loud_ok d b.meter.lenR.1 hds.1 hds.2 meLenR_fits) (rfl) ?_)
  | ((with_reducible refine condK_dec (fun _ => ?_) (fun _ => ?_)) <;> try omega)
  | ((with_reducible refine condK_split (fun _ => ?_) (fun _ => ?_)) <;> try omega)
  | ((with_reducible refine OY_drawn ?_); refine OY_draw' _ rfl (by decide +kernel) ?_)
  | ((with_reducible refine OY_at 76 ?_); refine PC.useY hF (filled_ok c[n] b.meter.lenR.1 (hvs.2 _ (List.getElem_mem (by omega)))) (rfl) fun v hv => ?_; subst hv))
  ·rename_i q1 q2 q3
   simp only [bne_iff_ne, beq_iff_eq, ne_eq] at q2 q3
   exact absurd q3 q2
  ·rename_i q1 q2 q3
   have q2' : (c[n].filledR b.meter.lenR.1).2 ≠ 0 := by simpa using q2
   rw [cellsR_bad hkl (hce.trans (cellR_bad h0 (by omega) q2' hQ2)) q2' hQ]; rfl
  ·rename_i q1 q2
   have q2' : (c[n].filledR b.meter.lenR.1).2 = 0 := by simpa using q2
   have hn' : n < c.length := by omega
   refine OY_next (n : Int) hn' (prevN hQ2 (by rw [show voAt c n = c[n] from getD_at hn']; exact q2')) ?_ rfl
   rw [filled_ok0 q2']; rfl
  ·rename_i q1 q2 q3
   simp only [bne_iff_ne, beq_iff_eq, ne_eq] at q2 q3
   exact absurd q3 q2
  ·rename_i q1 q2 q3
   have hx := hce.trans (cellR_ok h0 (show n = c.length by omega) hQ2)
   rw [cellsR_bad hkl hx (by simpa [loudR] using q2) hQ]; rfl
  ·rename_i q1 q2
   have hx := hce.trans (cellR_ok h0 (show n = c.length by omega) hQ2)
   refine OY_next ((i : Int), (k : Int), 0, 0) hkl (prevN hQ ?_) ?_ ?_
   ·rw [hx]; simpa [loudR] using q2
   ·rfl
   ·have hz : (if (risingB (List.map (fun t => t.at_) d) b.meter.lenR.1 && !d.any Dy.odd) = true then (0 : Int) else 120) = 0 := by simpa using q2
    rw [hz]; rfl
 ·repeat' (first
  | simp -implicitDefEqProofs (disch := first | assumption | omega) only [runsY, lstY, facts, if_pos, Nat.reduceAdd, Nat.reduceLeDiff, scopeK_ret, *]
  | ((with_reducible refine condK_dec (fun _ => ?_) (fun _ => ?_)) <;> try omega))
  have hn := firstN_none (n := s.bars.length) (p := fun k => decide ((cellErr s i k).2.2 ≠ 0)) (fun j hj => by simpa using hQ j (by omega))
  rw [cellsR, hn]; rfl
end Go.Proofs.Pv
