/-
  Layer 8's check of a score: words: a sign that may not be.
  Layer 8's check of a score: words.
  Layer 8's check of a score: events.
  Conditions: none but those that each statement names.
-/
import Derived.Test.YtiikpmhjckdpgaaGreatDoorC08o
import Derived.Test.YtiikpmhjckdpgaaGreatDoorC08q
namespace Go.Proofs.Pv
open Go Go.Proofs
set_option linter.unusedSimpArgs false
set_option linter.unusedVariables false
set_option maxRecDepth 10000
set_option maxHeartbeats 4000000
theorem dec_pos (s : ByteArray) (i : Nat) : 1 ≤ (Utf8.decode s i).2 := by
 simp only [Utf8.decode]
 repeat' split
 all_goals first | exact Nat.le_refl 1 | exact (by omega : (1 : Nat) ≤ 2) | exact (by omega : (1 : Nat) ≤ 3) | exact (by omega : (1 : Nat) ≤ 4)
def oddR (r : Nat) : Bool := decide ((r : Int) < 32) || decide ((r : Int) = 127)
def sIdx (w : ByteArray) (i : Nat) : Int :=
 if h : i < w.size then (if oddR (Utf8.decode w i).1 = true then (i : Int) else sIdx w (i + (Utf8.decode w i).2)) else -1
termination_by w.size - i
decreasing_by have := dec_pos w i; omega
theorem indexF_ok (w : ByteArray) (hw : w.size ≤ 1000000) : PC Tryz.prog gl 160 [.str w, .fn 133 [] [], .bool true] (fun v => v = .int .i64 (sIdx w 0)) := by
 (refine PC.introY 3 mix (fn := Tryz.f160) Tryz.func160 rfl (names 160 _ Tryz.func160) fun F hF hro W => ?_; simp -implicitDefEqProofs only [Tryz.ntmps160, Tryz.results160, entL, Nat.reduceAdd, Nat.reduceSub])
 repeat' (simp -implicitDefEqProofs (disch := first | assumption | omega) only [runsY, lstY, facts, Nat.reduceAdd, Int.reduceNeg, aop2, *])
 refine OY_loop' (mkM 21 [1, 2, 10]) [] 100 (fun m fr st => ∃ i : Nat, m = w.size - i ∧ sIdx w i = sIdx w 0 ∧ fr = ⟨[.ud, .fn 133 [] [], .bool true, .ud, .ud, .ud, .ud, .ud, .ud, .ud, .ptr 2 0, .ud, .ud, .ud, .ud, .ud, .ud, .ud, .ud, .ud, .ud], []⟩ ∧ st = ⟨[(2, .sit w i)], 100⟩) ⟨_, rfl, _, 0, rfl, rfl, rfl, rfl⟩ ?_
 rintro m fr st ⟨i, rfl, hs, rfl, rfl⟩
 by_cases h : i < w.size
 ·repeat' (first
  | simp -implicitDefEqProofs (disch := first | assumption | omega) only [runsY, lstY, facts, Nat.reduceAdd, Int.reduceNeg, aop2, aop3, aop4, h, *]
  | ((with_reducible refine condK_split (fun _ => ?_) (fun _ => ?_)) <;> try omega)
  | ((with_reducible refine OY_at 133 ?_); refine PC.useY hF (plain1_ok _) (rfl) fun v hv => ?_; subst hv))
  ·rename_i ho
   rw [← hs, sIdx, dif_pos h, if_pos (by exact ho)]
  ·rename_i ho
   have hp := dec_pos w i
   refine ⟨_, rfl, _, by omega, i + (Utf8.decode w i).2, rfl, ?_, rfl, rfl⟩
   rw [← hs, sIdx.eq_def w i, dif_pos h, if_neg (by rw [oddR, ho]; decide)]
 ·repeat' (simp -implicitDefEqProofs (disch := first | assumption | omega) only [runsY, lstY, Nat.reduceAdd, Int.reduceNeg, aop2, aop3, aop4, h, *])
  rw [← hs, sIdx, dif_neg h]
theorem strIndex_ok (w : ByteArray) (hw : w.size ≤ 1000000) : PC Tryz.prog gl 156 [.str w, .fn 133 [] []] (fun v => v = .int .i64 (sIdx w 0)) := by
 (refine PC.introY 1 mix (fn := Tryz.f156) Tryz.func156 rfl (names 156 _ Tryz.func156) fun F hF hro W => ?_; simp -implicitDefEqProofs only [Tryz.ntmps156, Tryz.results156, entL, Nat.reduceAdd, Nat.reduceSub])
 repeat' (first
  | simp -implicitDefEqProofs (disch := first | assumption | omega) only [runsY, lstY, Nat.reduceAdd, *]
  | ((with_reducible refine OY_at 160 ?_); refine PC.useY hF (indexF_ok w hw) (rfl) fun v hv => ?_; subst hv))
theorem strContains_ok (w : ByteArray) (hw : w.size ≤ 1000000) : PC Tryz.prog gl 135 [.str w, .fn 133 [] []] (fun v => v = .bool (decide (sIdx w 0 ≥ 0))) := by
 (refine PC.introY 1 mix (fn := Tryz.f135) Tryz.func135 rfl (names 135 _ Tryz.func135) fun F hF hro W => ?_; simp -implicitDefEqProofs only [Tryz.ntmps135, Tryz.results135, entL, Nat.reduceAdd, Nat.reduceSub])
 repeat' (first
  | simp -implicitDefEqProofs (disch := first | assumption | omega) only [runsY, lstY, Nat.reduceAdd, *]
  | ((with_reducible refine OY_at 156 ?_); refine PC.useY hF (strIndex_ok w hw) (rfl) fun v hv => ?_; subst hv))
end Go.Proofs.Pv
namespace Go.Proofs.Pv
open Go Go.Proofs
set_option linter.unusedSimpArgs false
set_option linter.unusedVariables false
set_option maxRecDepth 10000
set_option maxHeartbeats 4000000
def plainB (w : ByteArray) : Bool := decide (w.size ≤ 40) && (validB w && !decide (sIdx w 0 ≥ 0))
theorem plain_ok (w : ByteArray) : PC Tryz.prog gl 103 [.str w] (fun v => v = .bool (plainB w)) := by
 by_cases h : w.size ≤ 40
 ·have hw : w.size ≤ 1000000 := by omega
  (refine PC.introY 1 mix (fn := Tryz.f103) Tryz.func103 rfl (names 103 _ Tryz.func103) fun F hF hro W => ?_; simp -implicitDefEqProofs only [Tryz.ntmps103, Tryz.results103, entL, Nat.reduceAdd, Nat.reduceSub])
  repeat' (first
  | simp -implicitDefEqProofs (disch := first | assumption | omega) only [runsY, lstY, facts, Nat.reduceAdd, *]
  | ((with_reducible refine sstep_dec (fun _ => ?_) (fun _ => ?_)) <;> try omega)
  | ((with_reducible refine sstep_split (fun _ => ?_) (fun _ => ?_)) <;> try omega)
  | ((with_reducible refine OY_at 134 ?_); refine PC.useY hF (valid_ok w hw) (rfl) fun v hv => ?_; subst hv)
  | ((with_reducible refine OY_at 135 ?_); refine PC.useY hF (strContains_ok w hw) (rfl) fun v hv => ?_; subst hv))
  all_goals simp_all [plainB]
 ·(refine PC.introY 1 mix (fn := Tryz.f103) Tryz.func103 rfl (names 103 _ Tryz.func103) fun F hF hro W => ?_; simp -implicitDefEqProofs only [Tryz.ntmps103, Tryz.results103, entL, Nat.reduceAdd, Nat.reduceSub])
  repeat' (first
  | simp -implicitDefEqProofs (disch := first | assumption | omega) only [runsY, lstY, facts, Nat.reduceAdd, *]
  | ((with_reducible refine sstep_dec (fun _ => ?_) (fun _ => ?_)) <;> try omega))
  all_goals first | (rw [plainB, decide_eq_false h, Bool.false_and]; done) | (exfalso; omega)
end Go.Proofs.Pv
namespace Go.Proofs.Pv
open Go Go.Proofs
set_option linter.unusedSimpArgs false
set_option linter.unusedVariables false
set_option maxRecDepth 10000
set_option maxHeartbeats 4000000
def Ev.small (e : Ev) : Prop := e.pitches.length ≤ 1000000 ∧ e.ties.length ≤ 1000000 ∧ e.marks.length ≤ 1000000
def Ev.right (e : Ev) : Bool := e.value.right && (plainB e.word && (marksB e.marks && (decide (e.ties.length = e.pitches.length) &&
  (if e.kind = 0 then decide (e.pitches.length = 0) && (e.word.toList == []) && !(e.marks.any fun m => m != 4)
   else decide (e.kind = 1) && (decide (1 ≤ e.pitches.length ∧ e.pitches.length ≤ 8) && ((e.pitches.all Pi.right) && risesB (fun a b => decide (a.cmp b > 0)) e.pitches))))))
theorem eventRight_ok (e : Ev) (hs : e.small) : PC Tryz.prog gl 68 [e.av] (fun v => v = .bool e.right) := by
 obtain ⟨hs1, hs2, hs3⟩ := hs
 (refine PC.introY 2 mix (fn := Tryz.f68) Tryz.func68 rfl (names 68 _ Tryz.func68) fun F hF hro W => ?_; simp -implicitDefEqProofs only [Tryz.ntmps68, Tryz.results68, entL, Nat.reduceAdd, Nat.reduceSub])
 repeat' (first
  | simp -implicitDefEqProofs (disch := first | assumption | omega) only [runsY, lstY, facts, if_pos, Nat.reduceAdd, Nat.reduceEqDiff, Nat.reduceLeDiff, Ev.av, astr, *]
  | ((with_reducible refine condK_dec (fun _ => ?_) (fun _ => ?_)) <;> try omega)
  | ((with_reducible refine condK_split (fun _ => ?_) (fun _ => ?_)) <;> try omega)
  | ((with_reducible refine sstep_ndec (fun _ => ?_) (fun _ => ?_)) <;> try omega)
  | ((with_reducible refine sstep_nsplit (fun _ => ?_) (fun _ => ?_)) <;> try omega)
  | ((with_reducible refine sstep_split (fun _ => ?_) (fun _ => ?_)) <;> try omega)
  | ((with_reducible refine OY_at 102 ?_); refine PC.useY hF (valueRight_ok e.value) (rfl) fun v hv => ?_; subst hv)
  | ((with_reducible refine OY_at 103 ?_); refine PC.useY hF (plain_ok e.word) (rfl) fun v hv => ?_; subst hv)
  | ((with_reducible refine OY_at 104 ?_); refine PC.useY hF (marked_ok e.marks hs3) (rfl) fun v hv => ?_; subst hv)
  | ((with_reducible refine OY_at 105 ?_); refine PC.useY hF (containsFuncInt_ok e.marks _ [] (fun m => m != 4) hs3 rfl rfl (fun _ => rfl) (fun a _ => right1_ok a)) (rfl) fun v hv => ?_; subst hv))
 all_goals try first | (simp_all [Ev.right]; done) | (simp_all [Ev.right]; omega) | grind [Ev.right]
 refine OY_for (mkM 77 [1, 64, 65, 66]) [] 200 e.pitches.length (fun i (_ : Unit) => ⟨[.ud, .ptr 0 0, .ud, .ud, .ud, .ud, .ud, .ud, .ud, .ud, .ud, .ud, .ud, .ud, .ud, .ud, .ud, .ud, .ud, .ud, .ud, .ud, .ud, .ud, .ud, .ud, .ud, .ud, .ud, .ud, .ud, .ud, .ud, .ud, .ud, .ud, .ud, .ud, .ud, .ud, .ud, .ud, .ud, .ud, .ud, .ud, .ud, .ud, .ud, .ud, .ud, .ud, .ud, .ud, .ud, .ud, .ud, .ud, .ud, .ud, .ud, .ud, .ud, .ud, .sl 3 (e.pitches.map Pi.av) .none, .int .i64 (e.pitches.length : Nat), .int .i64 (i : Nat), .ud, .ud, .ud, .ud, .ud, .ud, .ud, .ud, .ud, .ud], []⟩) (fun _ _ => ⟨[(0, .cells e.cells)], 200⟩) (fun i _ => ∀ j, j < i → ∀ h : j < e.pitches.length, e.pitches[j].right = true) () prev0 rfl rfl ?_
 rintro i ⟨⟩ hi hQ
 repeat' (first
  | simp -implicitDefEqProofs (disch := first | assumption | omega) only [runsY, lstY, facts, if_pos, Nat.reduceAdd, Nat.reduceLeDiff, wrap_in, List.getElem?_eq_getElem, Pi.av, Ev.cells, *]
  | ((with_reducible refine condK_dec (fun _ => ?_) (fun _ => ?_)) <;> try omega)
  | ((with_reducible refine condK_nsplit (fun _ => ?_) (fun _ => ?_)) <;> try omega)
  | ((with_reducible refine OY_at 107 ?_); refine PC.useY hF (pitchRight_ok _) (rfl) fun v hv => ?_; subst hv)
  | ((with_reducible refine OY_at 108 ?_); refine PC.useY hF (risesPi_ok e.pitches _ _ hs1 right2_ok) (rfl) fun v hv => ?_; subst hv))
 ·rename_i h
  exact OY_next () (by omega) (prevN hQ fun _ => h) rfl rfl
 ·rename_i h1 h
  have hall : e.pitches.all Pi.right = false := all_false_at (i := i) (by omega) h
  grind [Ev.right]
 ·have hall : e.pitches.all Pi.right = true := all_true_of fun j hj => hQ j (by omega) hj
  grind [Ev.right]
end Go.Proofs.Pv
