/-
  Layer 9's edits: events give way.
  Layer 9's edits: a score of which one voice has got other events.
  Layer 9: edit.Apply at an edit of events.
  Plain laws: what a right score has.
  Layer 9: edit.Apply at an edit of events that there is no place for; a score that is not right.
  Conditions: none but those that each statement names.
-/
import Derived.Test.YtiikpmhjckdpgaaGreatDoorC09l
import Derived.Test.YtiikpmhjckdpgaaGreatDoorC08l
namespace Go.Proofs.Pv
open Go Go.Proofs
set_option linter.unusedSimpArgs false
set_option linter.unusedVariables false
theorem hkeep_nil {R : List Nat} : hkeep R [] = [] := rfl
theorem hkeep_cons {R : List Nat} {k : Nat} {b : Option Blk} {h : DH} : hkeep R ((k, b) :: h) = if R.contains k = true then hkeep R h else (k, b) :: hkeep R h := by
 simp only [hkeep, List.filter_cons]
 by_cases hk : R.contains k = true <;> simp [hk]
theorem kin23 {k : Nat} : [23, 164].contains k = (decide (k = 23) || decide (k = 164)) := by simp [List.contains_cons]
def evPost (s : Sc) (o : EOp) (B0 B1 B2 B3 B4 B5 : Blk) (j0 b0 v0 a n : Nat) (CE VO : List AV) (vo : Vo) : List (Nat × Blk) :=
 [(80, .cells [.int .i64 (j0 : Nat), .int .i64 (b0 : Nat), .int .i64 (v0 : Nat), .int .i64 (a : Nat)]), (30, B0), (9, B1), (3, B2), (2, B3), (1, B4), (0, B5),
  (28, .cells [.str s.title, .sl 14 (s.bars.map Ba.av) .none, .msl 20 0 s.parts.length 5, .int .i64 1, .int .i64 (j0 : Nat), .int .i64 (b0 : Nat), .int .i64 (v0 : Nat), .int .i64 (a : Nat), .int .i64 (n : Nat), .sl 9 (o.events.map Ev.av) .none, .sl 14 (o.bars.map Ba.av) .none, .sl 1 (o.cells.map cellsAV) .none, .sl 1 (o.dyns.map dynssAV) .none, .int .i64 o.steps, .int .i64 o.halves, .str o.text, .int .i64 0, .int .i64 (j0 : Nat), .int .i64 (b0 : Nat), .int .i64 (v0 : Nat), .int .i64 (a : Nat), .int .i64 (o.events.length : Nat), .sl 9 (((vo.l.drop a).take n).map Ev.av) .none, .sl 14 [] .full, .sl 1 [] .full, .sl 1 [] .full, .int .i64 0, .int .i64 0, .str ⟨#[]⟩]),
  (20, .cells (rowsAt (paC 21 s.parts j0) s.parts.length)), (21, .cells CE), (22, .cells (splice VO v0 [.msl 183 0 (repl vo.l a n o.events).length 9])), (183, .cells ((repl vo.l a n o.events).flatMap Ev.cells))]
theorem ren_nilsl {f : Nat → Option Nat} {k : Nat} : AV.ren f (.sl k [] .mut) = .sl k [] .mut := rfl
end Go.Proofs.Pv
namespace Go.Proofs.Pv
open Go Go.Proofs
set_option linter.unusedSimpArgs false
set_option linter.unusedVariables false
def putVoP (p : Pa) (b0 v0 : Nat) (l : List Ev) : Pa := { p with cells := p.cells.set b0 ((p.cells.getD b0 []).set v0 ⟨l⟩) }
def putVo (s : Sc) (j0 b0 v0 : Nat) (l : List Ev) : Sc := { s with parts := s.parts.set j0 (putVoP (s.parts.getD j0 pa0) b0 v0 l) }
theorem getD_set {α : Type} {l : List α} {i j : Nat} {x d : α} : (l.set i x).getD j d = if j = i ∧ i < l.length then x else l.getD j d := by
 simp only [List.getD_eq_getElem?_getD, List.getElem?_set]
 by_cases h : i = j
 ·subst h
  by_cases h2 : i < l.length
  ·simp [h2]
  ·simp [h2]
 ·simp [h, show ¬ j = i from fun e => h e.symm]
theorem getD_set_self {α : Type} {l : List α} {i : Nat} {x d : α} (h : i < l.length) : (l.set i x).getD i d = x := by rw [getD_set, if_pos ⟨rfl, h⟩]
theorem getD_set_ne {α : Type} {l : List α} {i j : Nat} {x d : α} (h : j ≠ i) : (l.set i x).getD j d = l.getD j d := by rw [getD_set, if_neg fun e => h e.1]
section
variable {s : Sc} {j0 b0 v0 : Nat} {l : List Ev}
theorem put_parts (h : j0 < s.parts.length) : (putVo s j0 b0 v0 l).parts.getD j0 pa0 = putVoP (s.parts.getD j0 pa0) b0 v0 l := getD_set_self h
theorem put_len : (putVo s j0 b0 v0 l).parts.length = s.parts.length := List.length_set
theorem putP_len {p : Pa} : (putVoP p b0 v0 l).cells.length = p.cells.length := List.length_set
theorem putP_cell {p : Pa} (h : b0 < p.cells.length) : (putVoP p b0 v0 l).cells.getD b0 [] = (p.cells.getD b0 []).set v0 ⟨l⟩ := getD_set_self h
theorem put_rows {q : Nat} (h : j0 < s.parts.length) : rowsAt (paC q (putVo s j0 b0 v0 l).parts j0) s.parts.length = rowsAt (paC q s.parts j0) s.parts.length := by
 refine rowsAt_congr fun i hi => ?_
 by_cases e : i = j0
 ·subst e
  simp only [paC, put_parts h, if_true, putP_len]
  rfl
 ·have : (putVo s j0 b0 v0 l).parts.getD i pa0 = s.parts.getD i pa0 := getD_set_ne e
  simp only [paC, this, if_neg e]
theorem putP_rows {p : Pa} {q : Nat} (h : b0 < p.cells.length) : rowsAt (ceC q (putVoP p b0 v0 l).cells b0) p.cells.length = rowsAt (ceC q p.cells b0) p.cells.length := by
 refine rowsAt_congr fun i hi => ?_
 by_cases e : i = b0
 ·subst e
  simp only [ceC, putP_cell h, if_true, List.length_set]
 ·have : (putVoP p b0 v0 l).cells.getD i [] = p.cells.getD i [] := getD_set_ne e
  simp only [ceC, this, if_neg e]
theorem putV_rows {c : List Vo} {q q' : Nat} (h : v0 < c.length) : splice (rowsAt (voC q c v0) c.length) v0 [.msl q' 0 l.length 9] = rowsAt (voC q' (c.set v0 ⟨l⟩) v0) c.length := by
 have := rowsAt_put (c := voC q c v0) (k := 1) (fun _ => rfl) (j := v0) (v := [.msl q' 0 l.length 9]) rfl h
 rw [Nat.mul_one] at this
 rw [this]
 refine rowsAt_congr fun i hi => ?_
 by_cases e : i = v0
 ·subst e
  simp only [voC, if_true, getD_set_self h]
 ·simp only [voC, if_neg e, getD_set_ne e]
theorem scNow_put {sty : Nat → Bool} {hp : Hp} {d kp qc qv qe q : Nat} (hj : j0 < s.parts.length) (hb0 : b0 < (s.parts.getD j0 pa0).cells.length) (hv0 : v0 < ((s.parts.getD j0 pa0).cells.getD b0 []).length) (hs1 : sty qc = false) (hs2 : sty qv = true)
  (h1 : hp kp = some (.cells (rowsAt (paC qc s.parts j0) s.parts.length))) (h2 : hp qc = some (.cells (rowsAt (ceC qv (s.parts.getD j0 pa0).cells b0) (s.parts.getD j0 pa0).cells.length)))
  (h3 : hp qv = some (.cells (splice (rowsAt (voC q ((s.parts.getD j0 pa0).cells.getD b0 []) v0) ((s.parts.getD j0 pa0).cells.getD b0 []).length) v0 [.msl qe 0 l.length 9]))) (h4 : hp qe = some (.cells (l.flatMap Ev.cells))) :
  AV.nowS sty hp (d + 5) (.agg [.str s.title, .sl 14 (s.bars.map Ba.av) .none, .msl kp 0 s.parts.length 5]) = (putVo s j0 b0 v0 l).av := by
 have e1 := put_parts (s := s) (b0 := b0) (v0 := v0) (l := l) hj
 have e2 := putP_cell (v0 := v0) (l := l) hb0
 have := scNow (sty := sty) (hp := hp) (d := d) (kp := kp) (qc := qc) (qv := qv) (qe := qe) (putVo s j0 b0 v0 l) j0 b0 v0 (by rw [put_len]; exact hj) (by rw [e1, putP_len]; exact hb0) (by rw [e1, e2, List.length_set]; exact hv0) hs1 hs2
  (by rw [put_len, put_rows hj]; exact h1) (by rw [e1, putP_len, putP_rows hb0]; exact h2)
  (by rw [e1, e2, List.length_set, ← putV_rows hv0]; exact h3) (by rw [e1, e2, getD_set_self hv0]; exact h4)
 rw [put_len] at this
 exact this
end
end Go.Proofs.Pv
namespace Go.Proofs.Pv
open Go Go.Proofs
set_option linter.unusedSimpArgs false
set_option linter.unusedVariables false
theorem ren_score {n : Nat} {a : ByteArray} {r : List AV} {j k o m s : Nat} : AV.ren (up n) (.agg [.str a, .sl j r .none, .msl k o m s]) = .agg [.str a, .sl j r .none, .msl (k + n) o m s] := rfl
def evBack (o : EOp) (j0 b0 v0 a n : Nat) (vo : Vo) : AV := .agg [.int .i64 1, .int .i64 (j0 : Nat), .int .i64 (b0 : Nat), .int .i64 (v0 : Nat), .int .i64 (a : Nat), .int .i64 (o.events.length : Nat), .sl 9 (((vo.l.drop a).take n).map Ev.av) .none, .sl 14 [] .full, .sl 1 [] .full, .sl 1 [] .full, .int .i64 0, .int .i64 0, .str ⟨#[]⟩]
def errR (e : Int) : AV := .tup [.agg [.str ⟨#[]⟩, .sl 14 [] .none, .sl 5 [] .none], .agg [.int .i64 0, .int .i64 0, .int .i64 0, .int .i64 0, .int .i64 0, .int .i64 0, .sl 9 [] .none, .sl 14 [] .none, .sl 1 [] .none, .sl 1 [] .none, .int .i64 0, .int .i64 0, .str ⟨#[]⟩], .int .i64 e]
theorem akc_kind (a : Int) : akc Tryz.prog 9 3 (.int .i64 a) = true := by kernel_rfl
theorem aeq_kind (a b : Int) : aeq Tryz.prog 9 3 (.int .i64 a) (.int .i64 b) = some (a == b) := by kernel_rfl
theorem afind_nil {P : Program} {kt : TypeId} {k : AV} {i : Nat} : afind P kt k [] i = some none := rfl
theorem afind_cons {kt : TypeId} {k : AV} {P : Program} {i : Nat} {e : ME} {es : List ME} : afind P kt k (e :: es) i = (match aeq P 9 kt k e.key with | some true => some (some i) | some false => afind P kt k es (i + 1) | none => none) := rfl
end Go.Proofs.Pv
namespace Go.Proofs.Pv
open Go Go.Proofs
set_option linter.unusedSimpArgs false
set_option linter.unusedVariables false
set_option maxRecDepth 10000
structure Right (s : Sc) : Prop where
 b0 : 0 < s.bars.length
 b1 : s.bars.length ≤ 100
 p0 : 0 < s.parts.length
 p1 : s.parts.length ≤ 8
 len : ∀ p ∈ s.parts, p.cells.length = s.bars.length ∧ p.dyns.length = s.bars.length
 cell : ∀ p ∈ s.parts, ∀ c ∈ p.cells, 0 < c.length ∧ c.length ≤ 4
 vo : ∀ p ∈ s.parts, ∀ c ∈ p.cells, ∀ v ∈ c, 0 < v.l.length ∧ v.l.length ≤ 64
theorem mem_at {α : Type} {l : List α} {x d : α} (h : x ∈ l) : ∃ i, i < l.length ∧ l.getD i d = x := by
 obtain ⟨i, hi, rfl⟩ := List.mem_iff_getElem.1 h
 exact ⟨i, hi, getD_at hi⟩
theorem right_of {s : Sc} (h : s.checkR.2 = 0) : Right s := by
 unfold Sc.checkR at h
 split at h
 ·exact absurd h (by decide)
 ·rename_i h0
  split at h
  ·exact absurd h (by decide)
  ·split at h
   ·rename_i k hk
    have := (firstN_some hk).1
    simp at this
    exact absurd h this
   ·rename_i hbars
    split at h
    ·rename_i i hi
     have := (firstN_some hi).1
     simp at this
     exact absurd h this
    ·rename_i hparts
     have hb : ∀ j, j < s.bars.length → (barAt s j).errR = 0 := fun j hj => by simpa using firstN_all hbars j hj
     have hp : ∀ i, i < s.parts.length → (partErr s i).2 = 0 := fun i hi => by simpa using firstN_all hparts i hi
     have hlen : ∀ p ∈ s.parts, p.cells.length = s.bars.length ∧ p.dyns.length = s.bars.length := by
      intro p hpm
      obtain ⟨i, hi, rfl⟩ := mem_at (d := pa0) hpm
      have := (partErr_ok (hp i hi)).1
      simp only [Pa.right, Bool.and_eq_true, decide_eq_true_eq] at this
      have e : partAt s i = s.parts.getD i pa0 := rfl
      rw [e] at this
      omega
     have hcell : ∀ i, i < s.parts.length → ∀ k, k < s.bars.length → cellAt s i k ≠ [] ∧ (cellAt s i k).length ≤ 4 := by
      intro i hi k hk
      have h3 := cellsR_all (partErr_ok (hp i hi)).2 k hk
      unfold cellErr cellR at h3
      split at h3
      ·exact absurd h3 (by decide)
      ·rename_i h4
       refine ⟨fun e => h4 (.inl (by rw [e]; rfl)), by omega⟩
     have key : ∀ p ∈ s.parts, ∀ c ∈ p.cells, ∃ i k, i < s.parts.length ∧ k < s.bars.length ∧ cellAt s i k = c := by
      intro p hpm c hc
      have hl := (hlen p hpm).1
      obtain ⟨i, hi, rfl⟩ := mem_at (d := pa0) hpm
      obtain ⟨k, hk, hck⟩ := mem_at (d := []) hc
      exact ⟨i, k, hi, by omega, hck⟩
     refine ⟨by omega, by omega, by omega, by omega, hlen, fun p hpm c hc => ?_, fun p hpm c hc v hv => ?_⟩
     ·obtain ⟨i, k, hi, hk, rfl⟩ := key p hpm c hc
      have := hcell i hi k hk
      exact ⟨List.length_pos_iff.2 this.1, this.2⟩
     ·obtain ⟨i, k, hi, hk, rfl⟩ := key p hpm c hc
      obtain ⟨n, hn, rfl⟩ := List.mem_iff_getElem.1 hv
      have h3 := cellsR_all (partErr_ok (hp i hi)).2 k hk
      have h4 := cellR_all h3 n hn
      exact ⟨(voices_full hb (hp i hi) hk hn).1, (checkR_right (filled_check h4).1).1⟩
theorem good_of {s : Sc} (hr : Right s) (hs : s.small) (he : ∀ b ∈ s.bars, b.turn.endings.length ≤ 1000000) : s.good := by
 refine ⟨hr.p0, by have := hr.p1; omega, fun p hp => ?_, by have := hr.b1; omega, fun b hb => ⟨(hs.bars b hb).groups, he b hb, (hs.bars b hb).tempos⟩⟩
 have hl := hr.len p hp
 have hb0 := hr.b0
 have hb1 := hr.b1
 refine ⟨by omega, by omega, fun c hc => ?_, by omega, fun d hd => ((hs.parts p hp).dyns d hd).1⟩
 have hcl := hr.cell p hp c hc
 refine ⟨hcl.1, by omega, fun v hv => ?_⟩
 have hv1 := hr.vo p hp c hc v hv
 have hv2 := ((hs.parts p hp).voices c hc).2 v hv
 exact ⟨hv1.1, by omega, fun e he' => ⟨(hv2.2 e he').1, (hv2.2 e he').2.1, (hv2.2 e he').2.2⟩⟩
end Go.Proofs.Pv
namespace Go.Proofs.Pv
open Go Go.Proofs
set_option linter.unusedSimpArgs false
set_option linter.unusedVariables false
theorem span_f (a b c : Int) (ha : -9223372036854775808 ≤ a ∧ a ≤ 9223372036854775807) (hc : 0 ≤ c ∧ c ≤ 1000000) (h : ¬ (0 ≤ a ∧ 0 ≤ b ∧ a ≤ c ∧ b ≤ c - a)) : PC Tryz.prog gl 46 [.int .i64 a, .int .i64 b, .int .i64 c] (fun v => v = .bool false) := by
 have := span_ok a b c ha hc
 rwa [decide_eq_false h] at this
set_option maxRecDepth 100000 in
set_option maxHeartbeats 8000000 in
theorem apply_unright (s : Sc) (o : EOp) (hs : s.small) (hchk : ¬ s.checkR.2 = 0) : PC Tryz.prog gl 7 [s.av, o.av] (fun v => v = errR s.checkR.2) := by
 (refine PC.introZ 2 mix (fn := Tryz.f7) Tryz.func7 rfl (names 7 _ Tryz.func7) fun F hF hro W => ?_; simp -implicitDefEqProofs only [Tryz.ntmps7, Tryz.results7, entL, Nat.reduceAdd, Nat.reduceSub])
 repeat' (first
  | simp -implicitDefEqProofs only [↓reduceIte, runsY, lstY, facts, Nat.reduceAdd, Nat.reduceEqDiff, EOp.av, Sc.av, plcAV, plAV, vops_cons, vstep_val, *]
  | with_reducible refine vstep_stop ?_
  | ((with_reducible refine condK_split (fun _ => ?_) (fun _ => ?_)) <;> try omega)
  | ((with_reducible refine OZ_drawn ?_); refine OZ_drawV (by decide +kernel) ?_)
  | ((with_reducible refine OZ_at 15 ?_); refine PC.useZ hF (check_ok s hs) (rfl) fun v hv => ?_; subst hv))
 ·rfl
 ·rename_i h
  exact absurd (by simpa using h) hchk
end Go.Proofs.Pv
