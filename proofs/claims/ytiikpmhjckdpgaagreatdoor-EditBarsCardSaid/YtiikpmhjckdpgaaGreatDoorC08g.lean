/-
  Layer 8's check of a score: what follows a voice, what ties lead to.
  Conditions: the lists are not longer than a machine's memory; the numbers are machine numbers.
-/
import Derived.Test.YtiikpmhjckdpgaaGreatDoorC08f
namespace Go.Proofs.Pv
open Go Go.Proofs
set_option linter.unusedSimpArgs false
set_option linter.unusedVariables false
set_option maxRecDepth 10000
set_option maxHeartbeats 4000000
theorem toNat_succ {i : Nat} : ((i : Int) + 1).toNat = i + 1 := by omega
def leadAt (e next : Ev) (is : Bool) (i : Nat) : Bool := !(e.ties.getD i false) || (is && (next.pitches.any fun y => (e.pitches.getD i ⟨0, 0, 0⟩).same y))
def leadsB (e next : Ev) (is : Bool) : Bool := allN e.pitches.length (leadAt e next is)
theorem leads_ok (e next : Ev) (is : Bool) (hs : e.small) (hn : next.small) (ht : e.ties.length = e.pitches.length) : PC Tryz.prog gl 36 [e.av, next.av, .bool is] (fun v => v = .bool (leadsB e next is)) := by
 obtain ⟨hs1, hs2, hs3⟩ := hs
 (refine PC.introY 2 mix (fn := Tryz.f36) Tryz.func36 rfl (names 36 _ Tryz.func36) fun F hF hro W => ?_; simp -implicitDefEqProofs only [Tryz.ntmps36, Tryz.results36, entL, Nat.reduceAdd, Nat.reduceSub])
 repeat' (simp -implicitDefEqProofs (disch := first | assumption | omega) only [runsY, lstY, facts, if_pos, Nat.reduceAdd, Nat.reduceLeDiff, Ev.av, *])
 refine OY_for (mkM 34 [2, 3, 4, 10, 11, 12]) [] 200 e.pitches.length (fun i (_ : Unit) => ⟨[.ud, .ud, .bool is, .ptr 0 0, .ptr 1 0, .ud, .ud, .ud, .ud, .ud, .sl 3 (e.pitches.map Pi.av) .none, .int .i64 (e.pitches.length : Nat), .int .i64 (i : Nat), .ud, .ud, .ud, .ud, .ud, .ud, .ud, .ud, .ud, .ud, .ud, .ud, .ud, .ud, .ud, .ud, .ud, .ud, .ud, .ud, .ud], []⟩) (fun _ _ => ⟨[(1, .cells next.cells), (0, .cells e.cells)], 200⟩) (fun i _ => ∀ j, j < i → leadAt e next is j = true) () prev0 rfl rfl ?_
 rintro i ⟨⟩ hi hQ
 have hg : ∀ (h : i < e.pitches.length), e.pitches.getD i ⟨0, 0, 0⟩ = e.pitches[i] := fun h => by simp [h]
 have hg1 : ∀ (h : i < e.ties.length), e.ties.getD i false = e.ties[i] := fun h => by simp [h]
 repeat' (first
  | simp -implicitDefEqProofs (disch := first | assumption | omega) only [runsY, lstY, facts, if_pos, Nat.reduceAdd, Nat.reduceLeDiff, wrap_in, List.getElem?_eq_getElem, Pi.av, Ev.cells, *]
  | ((with_reducible refine condK_dec (fun _ => ?_) (fun _ => ?_)) <;> try omega)
  | ((with_reducible refine condK_nsplit (fun _ => ?_) (fun _ => ?_)) <;> try omega)
  | ((with_reducible refine sstep_nsplit (fun _ => ?_) (fun _ => ?_)) <;> try omega)
  | ((with_reducible refine sstep_split (fun _ => ?_) (fun _ => ?_)) <;> try omega)
  | ((with_reducible refine OY_at 79 ?_); refine PC.useY hF (containsPi_ok next.pitches _ hn.1) (rfl) fun v hv => ?_; subst hv))
 ·rename_i h1 h2 h3
  have e1 := hg1 (by omega)
  have hr : leadAt e next is i = false := by rw [leadAt, e1, h2]; simp_all
  rw [leadsB, allN_false (i := i) (by omega) hr]
 ·rename_i h1 h2 h3 h4
  have e0 := hg (by omega)
  have e1 := hg1 (by omega)
  exact OY_next () (by omega) (prevN hQ (by rw [leadAt, e0, e1, h2, h4]; simp_all)) rfl rfl
 ·rename_i h1 h2 h3 h4
  have e0 := hg (by omega)
  have e1 := hg1 (by omega)
  have hr : leadAt e next is i = false := by rw [leadAt, e0, e1, h2, h4]; simp
  rw [leadsB, allN_false (i := i) (by omega) hr]
 ·rename_i h1 h2
  have e1 := hg1 (by omega)
  exact OY_next () (by omega) (prevN hQ (by rw [leadAt, e1, h2]; rfl)) rfl rfl
 ·rw [leadsB, allN_true fun j hj => hQ j (by omega)]
def plAV (a b c d : Int) : AV := .agg [.int .i64 a, .int .i64 b, .int .i64 c, .int .i64 d]
def zeroEv : Ev := ⟨0, [], [], ⟨0, 0, 0, 0⟩, [], ⟨#[]⟩⟩
def partAt (s : Sc) (i : Nat) : Pa := s.parts.getD i ⟨⟨#[]⟩, 0, 0, [], []⟩
def cellAt (s : Sc) (i k : Nat) : List Vo := (partAt s i).cells.getD k []
def evAt (s : Sc) (i k v n : Nat) : Ev := ((cellAt s i k).getD v ⟨[]⟩).l.getD n zeroEv
def hasNext (s : Sc) (i k v : Nat) : Bool := decide (k + 1 < s.bars.length) && decide (v < (cellAt s i (k + 1)).length)
def nextOf (s : Sc) (i k v : Nat) : Ev := if hasNext s i k v = true then evAt s i (k + 1) v 0 else zeroEv
theorem getD_at {α : Type} {l : List α} {i : Nat} {d : α} (h : i < l.length) : l.getD i d = l[i] := by simp [h]
theorem behind_ok (s : Sc) (i k v : Nat) (n : Int) (hi : i < s.parts.length) (hb : s.bars.length ≤ 1000000) (hk : k < s.bars.length) (hc : (partAt s i).cells.length = s.bars.length) (hv : v ≤ 1000000)
    (hne : ∀ w ∈ cellAt s i (k + 1), 0 < w.l.length) :
    PC Tryz.prog gl 35 [s.av, plAV i k v n] (fun w => w = .tup [(nextOf s i k v).av, .bool (hasNext s i k v)]) := by
  have e1 : partAt s i = s.parts[i] := getD_at hi
  rw [e1] at hc
  by_cases h1 : k + 1 < s.bars.length
  · have h1' : k + 1 < s.parts[i].cells.length := by omega
    have e2 : cellAt s i (k + 1) = s.parts[i].cells[k + 1] := by rw [cellAt, e1]; exact getD_at h1'
    rw [e2] at hne
    by_cases h2 : v < s.parts[i].cells[k + 1].length
    · have h3 := hne _ (List.getElem_mem h2)
      have q1 : hasNext s i k v = true := by simp only [hasNext, e2, h1, h2, decide_true, Bool.and_self]
      have q2 : nextOf s i k v = (s.parts[i].cells[k + 1][v]).l[0] := by
        simp only [nextOf, q1, if_true, evAt, e2]
        rw [getD_at h2, getD_at h3]
      (refine PC.introY 1 mix (fn := Tryz.f35) Tryz.func35 rfl (names 35 _ Tryz.func35) fun F hF hro W => ?_; simp -implicitDefEqProofs only [Tryz.ntmps35, Tryz.results35, entL, Nat.reduceAdd, Nat.reduceSub])
      repeat' (first
    | simp -implicitDefEqProofs (disch := first | assumption | omega) only [runsY, lstY, facts, if_pos, if_neg, Nat.reduceAdd, Nat.reduceEqDiff, Nat.reduceLT, Nat.reduceLeDiff, Int.reduceLE, Sc.av, plAV, Pa.av, cellAV, Vo.av, Ev.av, wrap_in, List.getElem?_eq_getElem, toNat_succ, q1, q2, *]
    | ((with_reducible refine condK_dec (fun _ => ?_) (fun _ => ?_)) <;> try omega)
    | ((with_reducible refine srstep_ndec (fun _ => ?_) (fun _ => ?_)) <;> try omega)
    | ((with_reducible refine OY_drawn ?_); refine OY_draw' _ rfl (by decide +kernel) ?_)
    | ((with_reducible refine OY_drawn ?_); refine OY_drawW (by decide +kernel) ?_))
      decide +kernel
    · have q1 : hasNext s i k v = false := by simp only [hasNext, e2, h2, decide_false, Bool.and_false]
      have q2 : nextOf s i k v = zeroEv := by simp only [nextOf, q1, Bool.false_eq_true, if_false]
      (refine PC.introY 1 mix (fn := Tryz.f35) Tryz.func35 rfl (names 35 _ Tryz.func35) fun F hF hro W => ?_; simp -implicitDefEqProofs only [Tryz.ntmps35, Tryz.results35, entL, Nat.reduceAdd, Nat.reduceSub])
      repeat' (first
    | simp -implicitDefEqProofs (disch := first | assumption | omega) only [runsY, lstY, facts, if_pos, Nat.reduceAdd, Nat.reduceLT, Nat.reduceLeDiff, Sc.av, plAV, Pa.av, cellAV, Ev.av, wrap_in, List.getElem?_eq_getElem, toNat_succ, q1, q2, zeroEv, *]
    | ((with_reducible refine condK_dec (fun _ => ?_) (fun _ => ?_)) <;> try omega)
    | ((with_reducible refine srstep_ndec (fun _ => ?_) (fun _ => ?_)) <;> try omega)
    | ((with_reducible refine OY_drawn ?_); refine OY_draw' _ rfl (by decide +kernel) ?_))
  · have q1 : hasNext s i k v = false := by simp only [hasNext, h1, decide_false, Bool.false_and]
    have q2 : nextOf s i k v = zeroEv := by simp only [nextOf, q1, Bool.false_eq_true, if_false]
    (refine PC.introY 1 mix (fn := Tryz.f35) Tryz.func35 rfl (names 35 _ Tryz.func35) fun F hF hro W => ?_; simp -implicitDefEqProofs only [Tryz.ntmps35, Tryz.results35, entL, Nat.reduceAdd, Nat.reduceSub])
    repeat' (first
    | simp -implicitDefEqProofs (disch := first | assumption | omega) only [runsY, lstY, facts, if_pos, Nat.reduceAdd, Nat.reduceLeDiff, Sc.av, plAV, Ev.av, wrap_in, q1, q2, zeroEv, *]
    | ((with_reducible refine srstep_ndec (fun _ => ?_) (fun _ => ?_)) <;> try omega)
    | ((with_reducible refine OY_drawn ?_); refine OY_draw' _ rfl (by decide +kernel) ?_))
end Go.Proofs.Pv
