/-
  Chapter 27: whether a shape holds a point: package draw's answer and the document's.
  Conditions: the shape's numbers are machine numbers.
-/
import Derived.Test.YtgjjcdjcpbjdgaaGreatDoorO27b
namespace Go.Proofs.Pv
set_option linter.unusedVariables false
set_option linter.unusedSimpArgs false
open Go Go.Proofs
set_option linter.unusedSimpArgs false
set_option maxRecDepth 10000

/-- A shape, as data. -/
structure Sh where
  (k x y w h g p0 p1 p2 p3 n : Int) (s : ByteArray)
def Sh.av (a : Sh) : AV := .agg [.int .i64 a.k, .int .i64 a.x, .int .i64 a.y, .int .i64 a.w, .int .i64 a.h, .int .i64 a.g, .int .i64 a.p0, .int .i64 a.p1, .int .i64 a.p2, .int .i64 a.p3, .int .i64 a.n, .str a.s]
def nearB (n : Int) : Bool := decide (n ≥ -1000000000) && decide (n ≤ 1000000000)
theorem nearB_in {n : Int} (h : nearB n = true) : -1000000000 ≤ n ∧ n ≤ 1000000000 := by
  simp only [nearB, Bool.and_eq_true, decide_eq_true_eq] at h; exact h
def nears (a : Sh) (x y : Int) : List Int := [a.x, a.y, a.w, a.h, x, y]
def holdsB (a : Sh) (x y : Int) : Bool := (nears a x y).all nearB && (decide (x ≥ a.x) && (decide (x - a.x < a.w) && (decide (y ≥ a.y) && decide (y - a.y < a.h))))

theorem near_ok (n : Int) : PC Tryz.prog gl 18 [.int .i64 n] (fun v => v = .bool (nearB n)) := by
  refine PC.introX 1 mix (fn := Tryz.f18) Tryz.func18 rfl (names 18 _ Tryz.func18) fun F hF hro W => ?_
  simp -implicitDefEqProofs only [Tryz.ntmps18, Tryz.results18, fr0, st0, List.length_cons, List.length_nil, List.cons_append, List.nil_append, Nat.reduceAdd, Nat.reduceSub, List.replicate_succ, List.replicate_zero]
  cases h : decide (n ≥ -1000000000) with
  | true =>
    simp -implicitDefEqProofs only [runs, List.getD_cons_zero, List.getD_cons_succ, List.set_cons_zero, List.set_cons_succ, List.getElem?_cons_zero, List.getElem?_cons_succ, Option.map_some, if_true, ite_true, if_false, ite_false, List.length_cons, List.length_nil, List.drop_zero, List.drop_succ_cons, List.take_succ_cons, List.take_zero, List.head?_cons, List.nil_append, List.cons_append, List.append_nil, List.all_cons, List.all_nil, Option.getD_some, List.map_cons, List.map_nil, List.size_toArray, eq_self, Nat.reduceAdd, Nat.reduceEqDiff, Nat.reduceLT, Nat.reduceLeDiff, Nat.reduceSub, List.replicate_succ, List.replicate_zero, Nat.reduceMul, List.isEmpty_cons, List.isEmpty_nil, Int.cast_ofNat_Int, Int.reduceLT, Int.reduceLE, Int.reduceToNat, Int.toNat_zero, Int.toNat_natCast, Int.natCast_nonneg, Int.reduceGE, Int.reduceGT, facts, h, beq_self_eq_true]
    try simp -implicitDefEqProofs only [fins, List.take_succ_cons, List.take_zero, List.map_cons, List.map_nil, List.all_cons, List.all_nil]
    simp [nearB, h]
  | false =>
    simp -implicitDefEqProofs only [runs, List.getD_cons_zero, List.getD_cons_succ, List.set_cons_zero, List.set_cons_succ, List.getElem?_cons_zero, List.getElem?_cons_succ, Option.map_some, if_true, ite_true, if_false, ite_false, List.length_cons, List.length_nil, List.drop_zero, List.drop_succ_cons, List.take_succ_cons, List.take_zero, List.head?_cons, List.nil_append, List.cons_append, List.append_nil, List.all_cons, List.all_nil, Option.getD_some, List.map_cons, List.map_nil, List.size_toArray, eq_self, Nat.reduceAdd, Nat.reduceEqDiff, Nat.reduceLT, Nat.reduceLeDiff, Nat.reduceSub, List.replicate_succ, List.replicate_zero, Nat.reduceMul, List.isEmpty_cons, List.isEmpty_nil, Int.cast_ofNat_Int, Int.reduceLT, Int.reduceLE, Int.reduceToNat, Int.toNat_zero, Int.toNat_natCast, Int.natCast_nonneg, Int.reduceGE, Int.reduceGT, facts, h, Bool.false_beq, Bool.not_true]
    try simp -implicitDefEqProofs only [fins, List.take_succ_cons, List.take_zero, List.map_cons, List.map_nil, List.all_cons, List.all_nil]
    simp [nearB, h]

def Sh.cells (a : Sh) : List AV := [.int .i64 a.k, .int .i64 a.x, .int .i64 a.y, .int .i64 a.w, .int .i64 a.h, .int .i64 a.g, .int .i64 a.p0, .int .i64 a.p1, .int .i64 a.p2, .int .i64 a.p3, .int .i64 a.n, .str a.s]
def fr12 (a : Sh) (x y : Int) (i : Nat) : Fr := ⟨[.undef, .int .i64 x, .int .i64 y, .ptr 0 0, .undef, .undef, .undef, .undef, .undef, .undef, .undef, .undef, .undef, .undef, .undef, .undef, .undef, .undef, .undef, .sl 1 (intsV (nears a x y)) .full, .int .i64 6, .int .i64 (i : Nat), .undef, .undef, .undef, .undef, .undef, .undef, .undef, .undef, .undef, .undef, .undef, .undef, .undef, .undef, .undef, .undef, .undef, .undef, .undef, .undef, .undef, .undef, .undef, .undef, .undef, .undef, .undef, .undef, .undef, .undef, .undef, .undef, .undef, .undef, .undef, .undef, .undef, .undef], []⟩
theorem pick_near (n : Int) : (nearB n = true ∧ decide (n < -1000000000) = false ∧ decide (n > 1000000000) = false) ∨ (nearB n = false ∧ (decide (n < -1000000000) = true ∨ decide (n < -1000000000) = false ∧ decide (n > 1000000000) = true)) := by
  unfold nearB
  by_cases h1 : n < -1000000000
  · right; simp [h1] <;> omega
  · by_cases h2 : n > 1000000000
    · right; simp [h1, h2] <;> omega
    · left; simp [h1, h2] <;> omega
theorem holds_ok (a : Sh) (x y : Int) : PC Tryz.prog gl 12 [a.av, .int .i64 x, .int .i64 y] (fun v => v = .bool (holdsB a x y)) := by
  refine PC.introX 1 mix (fn := Tryz.f12) Tryz.func12 rfl (names 12 _ Tryz.func12) fun F hF hro W => ?_
  simp -implicitDefEqProofs only [Tryz.ntmps12, Tryz.results12, fr0, st0, List.length_cons, List.length_nil, List.cons_append, List.nil_append, Nat.reduceAdd, Nat.reduceSub, List.replicate_succ, List.replicate_zero]
  simp -implicitDefEqProofs only [runs, List.getD_cons_zero, List.getD_cons_succ, List.set_cons_zero, List.set_cons_succ, List.getElem?_cons_zero, List.getElem?_cons_succ, Option.map_some, if_true, ite_true, if_false, ite_false, List.length_cons, List.length_nil, List.drop_zero, List.drop_succ_cons, List.take_succ_cons, List.take_zero, List.head?_cons, List.nil_append, List.cons_append, List.append_nil, List.all_cons, List.all_nil, Option.getD_some, List.map_cons, List.map_nil, List.size_toArray, eq_self, Nat.reduceAdd, Nat.reduceEqDiff, Nat.reduceLT, Nat.reduceLeDiff, Nat.reduceSub, List.replicate_succ, List.replicate_zero, Nat.reduceMul, List.isEmpty_cons, List.isEmpty_nil, Int.cast_ofNat_Int, Int.reduceLT, Int.reduceLE, Int.reduceToNat, Int.toNat_zero, Int.toNat_natCast, Int.natCast_nonneg, Int.reduceGE, Int.reduceGT, facts, Sh.av]
  have hlen : (nears a x y).length = 6 := rfl
  refine OX_loop' [false, true, true, true, false, false, false, false, false, false, false, false, false, false, false, false, false, false, false, true, true, true, false, false, false, false, false, false, false, false, false, false, false, false, false, false, false, false, false, false, false, false, false, false, false, false, false, false, false, false, false, false, false, false, false, false, false, false, false, false] (fun m fr st => ∃ (i nx : Nat), i ≤ 6 ∧ m = 6 - i ∧ (∀ j (h : j < (nears a x y).length), j < i → nearB (nears a x y)[j] = true) ∧ fr = fr12 a x y i ∧ st = ⟨[(0, .cells a.cells)], nx⟩) 6 ⟨0, _, by omega, by omega, fun j _ h => absurd h (Nat.not_lt_zero _), by rfl, by rfl⟩ ?_
  rintro m fr st ⟨i, nx, hi, rfl, hprev, rfl, rfl⟩
  by_cases hlt : i < 6
  · have hlt' : decide ((i : Int) < 6) = true := decide_eq_true (by omega)
    have hrow := intsV_at (l := nears a x y) (i := i) (by rw [hlen]; exact hlt)
    have hinc := wrap_inc (i := i) (n := 6) hlt (by omega)
    rcases pick_near ((nears a x y)[i]'(by rw [hlen]; exact hlt)) with ⟨e1, e2, e3⟩ | ⟨e1, e2 | ⟨e2, e3⟩⟩
    · simp -implicitDefEqProofs only [runs, List.getD_cons_zero, List.getD_cons_succ, List.set_cons_zero, List.set_cons_succ, List.getElem?_cons_zero, List.getElem?_cons_succ, Option.map_some, if_true, ite_true, if_false, ite_false, List.length_cons, List.length_nil, List.drop_zero, List.drop_succ_cons, List.take_succ_cons, List.take_zero, List.head?_cons, List.nil_append, List.cons_append, List.append_nil, List.all_cons, List.all_nil, Option.getD_some, List.map_cons, List.map_nil, List.size_toArray, eq_self, Nat.reduceAdd, Nat.reduceEqDiff, Nat.reduceLT, Nat.reduceLeDiff, Nat.reduceSub, List.replicate_succ, List.replicate_zero, Nat.reduceMul, List.isEmpty_cons, List.isEmpty_nil, Int.cast_ofNat_Int, Int.reduceLT, Int.reduceLE, Int.reduceToNat, Int.toNat_zero, Int.toNat_natCast, Int.natCast_nonneg, Int.reduceGE, Int.reduceGT, facts, fr12, hlt', hrow, Int.natCast_nonneg, Int.toNat_natCast, e2, e3]
      refine ⟨6 - (i + 1), by omega, i + 1, _, by omega, rfl, fun j hj hji => ?_, ?_, rfl⟩
      · rcases Nat.lt_succ_iff_lt_or_eq.1 hji with h | rfl
        · exact hprev j hj h
        · exact e1
      · rw [hinc]
    · have hB : holdsB a x y = false := by
        have : (nears a x y).all nearB = false := by rw [List.all_eq_false]; exact ⟨_, List.getElem_mem _, by rw [e1]; exact Bool.false_ne_true⟩
        rw [holdsB, this]; rfl
      simp -implicitDefEqProofs only [runs, List.getD_cons_zero, List.getD_cons_succ, List.set_cons_zero, List.set_cons_succ, List.getElem?_cons_zero, List.getElem?_cons_succ, Option.map_some, if_true, ite_true, if_false, ite_false, List.length_cons, List.length_nil, List.drop_zero, List.drop_succ_cons, List.take_succ_cons, List.take_zero, List.head?_cons, List.nil_append, List.cons_append, List.append_nil, List.all_cons, List.all_nil, Option.getD_some, List.map_cons, List.map_nil, List.size_toArray, eq_self, Nat.reduceAdd, Nat.reduceEqDiff, Nat.reduceLT, Nat.reduceLeDiff, Nat.reduceSub, List.replicate_succ, List.replicate_zero, Nat.reduceMul, List.isEmpty_cons, List.isEmpty_nil, Int.cast_ofNat_Int, Int.reduceLT, Int.reduceLE, Int.reduceToNat, Int.toNat_zero, Int.toNat_natCast, Int.natCast_nonneg, Int.reduceGE, Int.reduceGT, facts, fr12, hlt', hrow, Int.natCast_nonneg, Int.toNat_natCast, e2]
      try simp -implicitDefEqProofs only [fins, List.take_succ_cons, List.take_zero, List.map_cons, List.map_nil, List.all_cons, List.all_nil]
      rw [hB]
    · have hB : holdsB a x y = false := by
        have : (nears a x y).all nearB = false := by rw [List.all_eq_false]; exact ⟨_, List.getElem_mem _, by rw [e1]; exact Bool.false_ne_true⟩
        rw [holdsB, this]; rfl
      simp -implicitDefEqProofs only [runs, List.getD_cons_zero, List.getD_cons_succ, List.set_cons_zero, List.set_cons_succ, List.getElem?_cons_zero, List.getElem?_cons_succ, Option.map_some, if_true, ite_true, if_false, ite_false, List.length_cons, List.length_nil, List.drop_zero, List.drop_succ_cons, List.take_succ_cons, List.take_zero, List.head?_cons, List.nil_append, List.cons_append, List.append_nil, List.all_cons, List.all_nil, Option.getD_some, List.map_cons, List.map_nil, List.size_toArray, eq_self, Nat.reduceAdd, Nat.reduceEqDiff, Nat.reduceLT, Nat.reduceLeDiff, Nat.reduceSub, List.replicate_succ, List.replicate_zero, Nat.reduceMul, List.isEmpty_cons, List.isEmpty_nil, Int.cast_ofNat_Int, Int.reduceLT, Int.reduceLE, Int.reduceToNat, Int.toNat_zero, Int.toNat_natCast, Int.natCast_nonneg, Int.reduceGE, Int.reduceGT, facts, fr12, hlt', hrow, Int.natCast_nonneg, Int.toNat_natCast, e2, e3]
      try simp -implicitDefEqProofs only [fins, List.take_succ_cons, List.take_zero, List.map_cons, List.map_nil, List.all_cons, List.all_nil]
      rw [hB]
  · have hlt' : decide ((i : Int) < 6) = false := decide_eq_false (by omega)
    have hall : (nears a x y).all nearB = true := by
      rw [List.all_eq_true]
      intro z hz
      obtain ⟨j, hj, rfl⟩ := List.mem_iff_getElem.1 hz
      exact hprev j hj (by rw [hlen] at hj; omega)
    have near : ∀ z ∈ nears a x y, -1000000000 ≤ z ∧ z ≤ 1000000000 := fun z hz => nearB_in (List.all_eq_true.1 hall z hz)
    have n1 := near a.x (by simp [nears])
    have n2 := near a.y (by simp [nears])
    have n5 := near x (by simp [nears])
    have n6 := near y (by simp [nears])
    have w1 : IntKind.i64.wrap (x - a.x) = x - a.x := wrap_i64 _ (by unfold I64; omega)
    have w2 : IntKind.i64.wrap (y - a.y) = y - a.y := wrap_i64 _ (by unfold I64; omega)
    cases h1 : decide (x ≥ a.x) with
    | false =>
      simp -implicitDefEqProofs only [runs, List.getD_cons_zero, List.getD_cons_succ, List.set_cons_zero, List.set_cons_succ, List.getElem?_cons_zero, List.getElem?_cons_succ, Option.map_some, if_true, ite_true, if_false, ite_false, List.length_cons, List.length_nil, List.drop_zero, List.drop_succ_cons, List.take_succ_cons, List.take_zero, List.head?_cons, List.nil_append, List.cons_append, List.append_nil, List.all_cons, List.all_nil, Option.getD_some, List.map_cons, List.map_nil, List.size_toArray, eq_self, Nat.reduceAdd, Nat.reduceEqDiff, Nat.reduceLT, Nat.reduceLeDiff, Nat.reduceSub, List.replicate_succ, List.replicate_zero, Nat.reduceMul, List.isEmpty_cons, List.isEmpty_nil, Int.cast_ofNat_Int, Int.reduceLT, Int.reduceLE, Int.reduceToNat, Int.toNat_zero, Int.toNat_natCast, Int.natCast_nonneg, Int.reduceGE, Int.reduceGT, facts, fr12, Sh.cells, hlt', h1, w1, w2]
      try simp -implicitDefEqProofs only [fins, List.take_succ_cons, List.take_zero, List.map_cons, List.map_nil, List.all_cons, List.all_nil]
      simp only [holdsB, hall, h1, Bool.true_and, Bool.false_and]
    | true =>
    cases h2 : decide (x - a.x < a.w) with
    | false =>
      simp -implicitDefEqProofs only [runs, List.getD_cons_zero, List.getD_cons_succ, List.set_cons_zero, List.set_cons_succ, List.getElem?_cons_zero, List.getElem?_cons_succ, Option.map_some, if_true, ite_true, if_false, ite_false, List.length_cons, List.length_nil, List.drop_zero, List.drop_succ_cons, List.take_succ_cons, List.take_zero, List.head?_cons, List.nil_append, List.cons_append, List.append_nil, List.all_cons, List.all_nil, Option.getD_some, List.map_cons, List.map_nil, List.size_toArray, eq_self, Nat.reduceAdd, Nat.reduceEqDiff, Nat.reduceLT, Nat.reduceLeDiff, Nat.reduceSub, List.replicate_succ, List.replicate_zero, Nat.reduceMul, List.isEmpty_cons, List.isEmpty_nil, Int.cast_ofNat_Int, Int.reduceLT, Int.reduceLE, Int.reduceToNat, Int.toNat_zero, Int.toNat_natCast, Int.natCast_nonneg, Int.reduceGE, Int.reduceGT, facts, fr12, Sh.cells, hlt', h1, h2, w1, w2]
      try simp -implicitDefEqProofs only [fins, List.take_succ_cons, List.take_zero, List.map_cons, List.map_nil, List.all_cons, List.all_nil]
      simp only [holdsB, hall, h1, h2, Bool.true_and, Bool.false_and]
    | true =>
    cases h3 : decide (y ≥ a.y) with
    | false =>
      simp -implicitDefEqProofs only [runs, List.getD_cons_zero, List.getD_cons_succ, List.set_cons_zero, List.set_cons_succ, List.getElem?_cons_zero, List.getElem?_cons_succ, Option.map_some, if_true, ite_true, if_false, ite_false, List.length_cons, List.length_nil, List.drop_zero, List.drop_succ_cons, List.take_succ_cons, List.take_zero, List.head?_cons, List.nil_append, List.cons_append, List.append_nil, List.all_cons, List.all_nil, Option.getD_some, List.map_cons, List.map_nil, List.size_toArray, eq_self, Nat.reduceAdd, Nat.reduceEqDiff, Nat.reduceLT, Nat.reduceLeDiff, Nat.reduceSub, List.replicate_succ, List.replicate_zero, Nat.reduceMul, List.isEmpty_cons, List.isEmpty_nil, Int.cast_ofNat_Int, Int.reduceLT, Int.reduceLE, Int.reduceToNat, Int.toNat_zero, Int.toNat_natCast, Int.natCast_nonneg, Int.reduceGE, Int.reduceGT, facts, fr12, Sh.cells, hlt', h1, h2, h3, w1, w2]
      try simp -implicitDefEqProofs only [fins, List.take_succ_cons, List.take_zero, List.map_cons, List.map_nil, List.all_cons, List.all_nil]
      simp only [holdsB, hall, h1, h2, h3, Bool.true_and, Bool.false_and]
    | true =>
      simp -implicitDefEqProofs only [runs, List.getD_cons_zero, List.getD_cons_succ, List.set_cons_zero, List.set_cons_succ, List.getElem?_cons_zero, List.getElem?_cons_succ, Option.map_some, if_true, ite_true, if_false, ite_false, List.length_cons, List.length_nil, List.drop_zero, List.drop_succ_cons, List.take_succ_cons, List.take_zero, List.head?_cons, List.nil_append, List.cons_append, List.append_nil, List.all_cons, List.all_nil, Option.getD_some, List.map_cons, List.map_nil, List.size_toArray, eq_self, Nat.reduceAdd, Nat.reduceEqDiff, Nat.reduceLT, Nat.reduceLeDiff, Nat.reduceSub, List.replicate_succ, List.replicate_zero, Nat.reduceMul, List.isEmpty_cons, List.isEmpty_nil, Int.cast_ofNat_Int, Int.reduceLT, Int.reduceLE, Int.reduceToNat, Int.toNat_zero, Int.toNat_natCast, Int.natCast_nonneg, Int.reduceGE, Int.reduceGT, facts, fr12, Sh.cells, hlt', h1, h2, h3, w1, w2]
      try simp -implicitDefEqProofs only [fins, List.take_succ_cons, List.take_zero, List.map_cons, List.map_nil, List.all_cons, List.all_nil]
      simp only [holdsB, hall, h1, h2, h3, Bool.true_and, Bool.false_and]
end Go.Proofs.Pv
