/-
  Layer 9's edits: the cell of a place, and copies of a part of the events: calls that only look.
  Layer 9's edits: slices.Replace at a voice's events, among the blocks of a score.
  Conditions: none but those that each statement names.
-/
import Derived.Test.YtiikpmhjckdpgaaGreatDoorC09i
import Derived.Test.YtiikpmhjckdpgaaGreatDoorPvBF
namespace Go.Proofs.Pv
open Go Go.Proofs
set_option linter.unusedSimpArgs false
set_option linter.unusedVariables false
theorem rowsAt_congr {c c' : Nat → List AV} {n : Nat} (h : ∀ i, i < n → c i = c' i) : rowsAt c n = rowsAt c' n := by
 have := rowsAt_mapF (f := id) (c := c) (c' := c') n fun j hj => by rw [List.map_id]; exact h j hj
 rwa [List.map_id] at this
theorem rowsAt_cut {c : Nat → List AV} {k : Nat} (hk : ∀ j, (c j).length = k) {j : Nat} : ∀ {n : Nat}, j < n → ∃ Z, List.drop (j * k) (rowsAt c n) = c j ++ Z
 | 0, h => by omega
 | n + 1, h => by
  rw [rowsAt_succ]
  rcases Nat.lt_or_ge j n with hj | hj
  ·obtain ⟨Z, hZ⟩ := rowsAt_cut hk hj
   refine ⟨Z ++ c n, ?_⟩
   have hl : j * k ≤ (rowsAt c n).length := by rw [rowsAt_len hk]; exact Nat.mul_le_mul_right k (by omega)
   rw [List.drop_append_of_le_length hl, hZ, List.append_assoc]
  ·have : j = n := by omega
   subst this
   refine ⟨[], ?_⟩
   rw [List.drop_left' (by rw [rowsAt_len hk]), List.append_nil]
theorem rowsAt_head {c : Nat → List AV} {k : Nat} (hk : ∀ j, (c j).length = k) {j n : Nat} (hj : j < n) {i : Nat} (hi : i < k) : (List.drop (j * k + i) (rowsAt c n)).head? = (c j)[i]? := by
 obtain ⟨Z, hZ⟩ := rowsAt_cut hk hj
 rw [← List.drop_drop, hZ, List.head?_drop, List.getElem?_append_left (by rw [hk]; exact hi)]
theorem rowsAt_put {c : Nat → List AV} {k : Nat} (hk : ∀ j, (c j).length = k) {j : Nat} {v : List AV} (hv : v.length = k) : ∀ {n : Nat}, j < n → splice (rowsAt c n) (j * k) v = rowsAt (fun i => if i = j then v else c i) n
 | 0, h => by omega
 | n + 1, h => by
  have hl := rowsAt_len hk n
  rw [rowsAt_succ, rowsAt_succ]
  unfold splice
  rcases Nat.lt_or_ge j n with hj | hj
  ·have ih := rowsAt_put hk hv hj
   unfold splice at ih
   have h1 : (j + 1) * k ≤ n * k := Nat.mul_le_mul_right k hj
   have h2 : (j + 1) * k = j * k + k := Nat.succ_mul j k
   rw [List.take_append_of_le_length (by omega), List.drop_append_of_le_length (by omega), ← List.append_assoc, ih, if_neg (by omega)]
  ·have : j = n := by omega
   subst this
   rw [List.take_left' hl, List.drop_eq_nil_of_le (by rw [List.length_append, hl, hk, hv]; omega), List.append_nil, if_pos rfl]
   congr 1
   exact rowsAt_congr fun i hi => by rw [if_neg (by omega)]
theorem rd_end {q : Nat} {b' : Blk} {h : List (Nat × Blk)} (hq : hget h q = none) : ∀ k b, hget h k = some b → hget ((q, b') :: h) k = some b := by
 intro k b hk
 simp only [hget]
 split
 ·rename_i e; subst e; rw [hq] at hk; cases hk
 ·exact hk
def RdSub (R : List Nat) (h : DH) : List (Nat × Blk) → Prop
 | [] => True
 | (k, b) :: r => (R.contains k = true ∧ dget h k = some b) ∧ RdSub R h r
theorem rd_sub {R : List Nat} {h : DH} : ∀ {hl : List (Nat × Blk)}, RdSub R h hl → ∀ k b, hget hl k = some b → k ∈ R ∧ dget h k = some b
 | [], _, k, b, hk => by simp [hget] at hk
 | (k', b') :: r, hs, k, b, hk => by
  simp only [hget] at hk
  split at hk
  ·rename_i e; subst e; cases hk
   exact ⟨by simpa using hs.1.1, hs.1.2⟩
  ·exact rd_sub hs.2 k b hk
theorem there_t (n many : Int) (h : 0 ≤ n ∧ n < many) : PC Tryz.prog gl 45 [.int .i64 n, .int .i64 many] (fun v => v = .bool true) := by
 have := there_ok n many
 rwa [decide_eq_true h] at this
theorem there_f (n many : Int) (h : ¬ (0 ≤ n ∧ n < many)) : PC Tryz.prog gl 45 [.int .i64 n, .int .i64 many] (fun v => v = .bool false) := by
 have := there_ok n many
 rwa [decide_eq_false h] at this
def chH (s : Sc) (kd : AV) (j0 b0 : Nat) (vo at_ : Int) (rest : List AV) (R : List AV) : List (Nat × Blk) := [(28, .cells ([.str s.title, .sl 14 (s.bars.map Ba.av) .none, .msl 20 0 s.parts.length 5, kd, .int .i64 (j0 : Nat), .int .i64 (b0 : Nat), .int .i64 vo, .int .i64 at_] ++ rest)), (20, .cells (rowsAt (paC 21 s.parts j0) s.parts.length)), (21, .cells R)]
def back0 : List AV := [.int .i64 0, .int .i64 0, .int .i64 0, .int .i64 0, .int .i64 0, .int .i64 0, .sl 9 [] .full, .sl 14 [] .full, .sl 1 [] .full, .sl 1 [] .full, .int .i64 0, .int .i64 0, .str ⟨#[]⟩]
set_option maxRecDepth 100000 in
set_option maxHeartbeats 1000000 in
theorem cell_rd (s : Sc) (kd : AV) (vo at_ : Int) (j0 : Nat) (rest R : List AV) (b0 : Nat) (hj : j0 < s.parts.length) (hb : b0 < s.bars.length) (hc : b0 < (s.parts.getD j0 pa0).cells.length) : Rd Tryz.prog gl 44 [.ptr 28 0] (hget (chH s kd j0 b0 vo at_ rest R)) (.ptr 21 b0) := by
 refine Rd.introZ 2 200 mix names (fn := Tryz.f44) Tryz.func44 rfl (fun f hf => by rw [AV.ren, hf 21 _ rfl]) fun m F hF hro W => ?_
 simp -implicitDefEqProofs only [Tryz.ntmps44, Tryz.results44, entL, Nat.reduceAdd, Nat.reduceSub, chH]
 have hpl : (rowsAt (paC 21 s.parts j0) s.parts.length).length = s.parts.length * 5 := by rw [rowsAt_len (k := 5) (fun _ => rfl)]
 have hrow : (List.drop (j0 * 5 + 3) (rowsAt (paC 21 s.parts j0) s.parts.length)).head? = some (.msl 21 0 (s.parts.getD j0 pa0).cells.length 1) := by rw [rowsAt_head (k := 5) (fun _ => rfl) hj (by omega)]; simp [paC]
 repeat' (first
  | simp -implicitDefEqProofs only [↓reduceIte, runsY, lstY, facts, Nat.reduceAdd, Nat.reduceEqDiff, Nat.reduceLeDiff, vops_nil, vops_cons, vstep_val, drawVK_at, *]
  | ((with_reducible refine v_at 45 ?_); refine vstep_call (there_t _ _ (by omega)) (rfl) ?_)
  | simp -implicitDefEqProofs (disch := first | assumption | omega) only [runsY, lstY, facts, if_pos, if_neg, Nat.reduceAdd, Nat.reduceEqDiff, Nat.reduceLeDiff, List.length_drop, RdK_at, vops_nil, vops_cons, vstep_val, drawVK_at, *]
  | ((with_reducible refine OZ_drawn ?_); refine OZ_drawV (by decide +kernel) ?_)
  | ((with_reducible refine wend ?_ ?_); · kernel_rfl))
 exact rd_end (by simp only [hget]; rw [if_neg (by omega), if_neg (by omega), if_neg (by omega)])
end Go.Proofs.Pv
namespace Go.Proofs.Pv
open Go Go.Proofs
set_option linter.unusedSimpArgs false
set_option linter.unusedVariables false
set_option maxRecDepth 100000 in
set_option maxHeartbeats 1000000 in
theorem oneFlat {α : Type} {c : α → List AV} (h : ∀ x, (c x).all AV.one = true) : ∀ l : List α, (l.flatMap c).all AV.one = true
 | [] => rfl
 | x :: l => by simp only [List.flatMap_cons, List.all_append, h x, oneFlat h l, Bool.and_self]
theorem take_flat {α : Type} {c : α → List AV} {k : Nat} (h : ∀ x, (c x).length = k) : ∀ (l : List α) (n : Nat), List.take (n * k) (l.flatMap c) = (l.take n).flatMap c
 | [], n => by simp
 | x :: l, 0 => by simp
 | x :: l, n + 1 => by
  have hx := h x
  rw [List.flatMap_cons, List.take_succ_cons, List.flatMap_cons, ← take_flat h l n, Nat.succ_mul, Nat.add_comm, ← hx, List.take_length_add_append]
theorem drop_flat {α : Type} {c : α → List AV} {k : Nat} (h : ∀ x, (c x).length = k) : ∀ (l : List α) (n : Nat), List.drop (n * k) (l.flatMap c) = (l.drop n).flatMap c
 | [], n => by simp
 | x :: l, 0 => by simp
 | x :: l, n + 1 => by
  have hx := h x
  rw [List.flatMap_cons, List.drop_succ_cons, ← drop_flat h l n, Nat.succ_mul, Nat.add_comm, ← hx, List.drop_length_add_append]
theorem cloneEv_rd (l : List Ev) (a n : Nat) (hl : l.length ≤ 1000000) (ha : a + n ≤ l.length) (hn : 0 < n) : Rd Tryz.prog gl 47 [.msl 23 (0 + a * 9) n 9] (hget [(23, .cells (l.flatMap Ev.cells))]) (.sl 9 (((l.drop a).take n).map Ev.av) .none) := by
 have hfl : (l.flatMap Ev.cells).length = l.length * 9 := flat_length (k := 9) (fun _ => rfl) l
 have hcut : List.take (n * 9) (List.drop (a * 9) (l.flatMap Ev.cells)) = ((l.drop a).take n).flatMap Ev.cells := by rw [drop_flat (c := Ev.cells) (k := 9) (fun _ => rfl), take_flat (c := Ev.cells) (k := 9) (fun _ => rfl)]
 have hone : (((l.drop a).take n).flatMap Ev.cells).all AV.one = true := oneFlat (fun _ => rfl) _
 have hpure : (((l.drop a).take n).flatMap Ev.cells).all AV.pure = true := pureFlat (fun _ => rfl) _
 have hlen : ((l.drop a).take n).length = n := by rw [List.length_take, List.length_drop]; omega
 have hfl2 : (((l.drop a).take n).flatMap Ev.cells).length = n * 9 := by rw [flat_length (k := 9) (fun _ => rfl), hlen]
 have hch : chunks (!(Nat.beq 9 1)) 9 n (((l.drop a).take n).flatMap Ev.cells) = ((l.drop a).take n).map Ev.av := by
  have := chunksFlat (c := Ev.cells) (k := 9) (fun _ => rfl) ((l.drop a).take n)
  rw [hlen] at this; exact this
 refine Rd.introF 2 200 mix names (fn := Tryz.f47) Tryz.func47 rfl (fun f hf => rfl) fun m F hF hro W => ?_
 simp -implicitDefEqProofs only [Tryz.ntmps47, Tryz.results47, entL, Nat.reduceAdd, Nat.reduceSub]
 repeat' (first
  | simp -implicitDefEqProofs only [↓reduceIte, runsY, lstY, facts, Nat.reduceAdd, Nat.reduceLT, Nat.reduceMul, aop2_bin, aop3_bin, anil_m, isSlO_s, Option.map_none, aappM, xcells, List.flatMap_nil, or_true, *]
  | simp -implicitDefEqProofs (disch := first | assumption | omega) only [runsY, lstY, if_pos, Nat.reduceEqDiff, Nat.reduceLT, RdK_at, frz0, frz, *])
 exact fun k b h => h
set_option maxRecDepth 100000 in
theorem cloneEv0_rd (hl : List (Nat × Blk)) : Rd Tryz.prog gl 47 [.sl 9 [] .none] (hget hl) (.sl 9 [] .none) := by
 refine Rd.introF 2 200 mix names (fn := Tryz.f47) Tryz.func47 rfl (fun f hf => rfl) fun m F hF hro W => ?_
 simp -implicitDefEqProofs only [Tryz.ntmps47, Tryz.results47, entL, Nat.reduceAdd, Nat.reduceSub]
 repeat' (first
  | simp -implicitDefEqProofs only [↓reduceIte, runsY, lstY, facts, aop2_bin, aop3_bin, anil_n, aop4_bin, emptySl_nil, isSlO_s, Option.map_none, *]
  | with_reducible refine sstep_stop ?_)
 refine OZ_both ?_ ?_
 all_goals repeat' (simp -implicitDefEqProofs only [↓reduceIte, runsY, lstY, facts, Nat.reduceAdd, Nat.reduceMul, RdK_at, frz0, frz, *])
 all_goals exact fun k b h => h
theorem clonePart_rd (l : List Ev) (hl : l.length ≤ 1000000) (a n : Nat) (ha : a + n ≤ l.length) : Rd Tryz.prog gl 47 [.msl 23 (a * 9) n 9] (hget [(23, .cells (l.flatMap Ev.cells))]) (.sl 9 (((l.drop a).take n).map Ev.av) .none) := by
 rcases Nat.eq_zero_or_pos n with hn | hn
 ·subst hn
  exact (cloneEv0_rd _).nilMsl
 ·have := cloneEv_rd l a n hl ha hn
  rwa [Nat.zero_add] at this
theorem span_t (a b c : Int) (h : 0 ≤ a ∧ 0 ≤ b ∧ a + b ≤ c) (hc : c ≤ 1000000) : PC Tryz.prog gl 46 [.int .i64 a, .int .i64 b, .int .i64 c] (fun v => v = .bool true) := by
 have := span_ok a b c (by omega) (by omega)
 rwa [decide_eq_true (show 0 ≤ a ∧ 0 ≤ b ∧ a ≤ c ∧ b ≤ c - a by omega)] at this
end Go.Proofs.Pv
namespace Go.Proofs.Pv
open Go Go.Proofs
set_option linter.unusedSimpArgs false
set_option linter.unusedVariables false
def repl (l : List Ev) (a n : Nat) (es : List Ev) : List Ev := l.take a ++ es ++ l.drop (a + n)
end Go.Proofs.Pv
