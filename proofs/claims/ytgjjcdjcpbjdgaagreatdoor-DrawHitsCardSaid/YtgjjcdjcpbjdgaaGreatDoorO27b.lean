/-
  Chapter 27: the first of some things, and whether a number is one of some.
  Conditions: the list is not longer than a machine's memory.
-/
import Derived.Test.YtgjjcdjcpbjdgaaGreatDoorO27a
namespace Go.Proofs.Pv
set_option linter.unusedVariables false
set_option linter.unusedSimpArgs false
open Go Go.Proofs
set_option linter.unusedSimpArgs false
set_option maxRecDepth 10000

def I64 (n : Int) : Prop := -9223372036854775808 ≤ n ∧ n ≤ 9223372036854775807
theorem wrap_i64 (n : Int) (h : I64 n) : IntKind.i64.wrap n = n := IntWalk.i64_in n (by unfold I64 at h; omega)
theorem wrap_inc {i n : Nat} (h : i < n) (hn : n ≤ 1000000) : IntKind.i64.wrap ((i : Int) + 1) = ((i + 1 : Nat) : Int) := by rw [wrap_i64 _ (by unfold I64; omega)]; rfl

/-- The number of the first one; -1: there is none. -/
def firstI {α : Type} (p : α → Bool) (l : List α) : Int := match l.findIdx? p with
  | some i => i
  | none => -1
theorem firstI_hit {α : Type} {p : α → Bool} {l : List α} {i : Nat} (hi : i < l.length) (hp : p l[i] = true) (hprev : ∀ j (h : j < l.length), j < i → p l[j] = false) : firstI p l = i := by
  have : l.findIdx? p = some i := by
    rw [List.findIdx?_eq_some_iff_getElem]
    exact ⟨hi, hp, fun j hj => by simpa using hprev j (by omega) hj⟩
  simp [firstI, this]
theorem firstI_none {α : Type} {p : α → Bool} {l : List α} (hprev : ∀ j (h : j < l.length), p l[j] = false) : firstI p l = -1 := by
  have : l.findIdx? p = none := by
    rw [List.findIdx?_eq_none_iff]
    intro x hx
    obtain ⟨j, hj, rfl⟩ := List.mem_iff_getElem.1 hx
    exact hprev j hj
  simp [firstI, this]
theorem firstI_ge {α : Type} (p : α → Bool) (l : List α) : decide (firstI p l ≥ 0) = l.any p := by
  unfold firstI
  cases h : l.findIdx? p with
  | none =>
    rw [List.findIdx?_eq_none_iff] at h
    have : l.any p = false := by rw [List.any_eq_false]; intro x hx; simp [h x hx]
    rw [this]; rfl
  | some i =>
    rw [List.findIdx?_eq_some_iff_getElem] at h
    obtain ⟨h1, h2, _⟩ := h
    have : l.any p = true := List.any_eq_true.2 ⟨_, List.getElem_mem h1, h2⟩
    rw [this]; simp

def intsV (l : List Int) : List AV := l.map (AV.int .i64)
theorem intsV_at {l : List Int} {i : Nat} (h : i < l.length) : (intsV l)[i]? = some (.int .i64 l[i]) := by simp [intsV, h]
theorem intsV_len (l : List Int) : (intsV l).length = l.length := by simp [intsV]

def fr17 (ks : List Int) (x : Int) (i : Nat) : Fr := ⟨[.sl 1 (intsV ks) .none, .int .i64 x, .undef, .undef, .undef, .undef, .undef, .int .i64 (ks.length : Nat), .int .i64 (i : Nat), .undef, .undef, .undef, .undef, .undef, .undef, .undef, .undef, .undef, .undef], []⟩
theorem indexI_ok (ks : List Int) (x : Int) (hk : ks.length ≤ 1000000) : PC Tryz.prog gl 17 [.sl 1 (intsV ks) .none, .int .i64 x] (fun v => v = .int .i64 (firstI (fun y => x == y) ks)) := by
  refine PC.introX 1 mix (fn := Tryz.f17) Tryz.func17 rfl (names 17 _ Tryz.func17) fun F hF hro W => ?_
  simp -implicitDefEqProofs only [Tryz.ntmps17, Tryz.results17, fr0, st0, List.length_cons, List.length_nil, List.cons_append, List.nil_append, Nat.reduceAdd, Nat.reduceSub, List.replicate_succ, List.replicate_zero]
  simp -implicitDefEqProofs only [runs, List.getD_cons_zero, List.getD_cons_succ, List.set_cons_zero, List.set_cons_succ, List.getElem?_cons_zero, List.getElem?_cons_succ, Option.map_some, if_true, ite_true, if_false, ite_false, List.length_cons, List.length_nil, List.drop_zero, List.drop_succ_cons, List.take_succ_cons, List.take_zero, List.head?_cons, List.nil_append, List.cons_append, List.append_nil, List.all_cons, List.all_nil, Option.getD_some, List.map_cons, List.map_nil, List.size_toArray, eq_self, Nat.reduceAdd, Nat.reduceEqDiff, Nat.reduceLT, Nat.reduceLeDiff, Nat.reduceSub, List.replicate_succ, List.replicate_zero, Nat.reduceMul, List.isEmpty_cons, List.isEmpty_nil, Int.cast_ofNat_Int, Int.reduceLT, Int.reduceLE, Int.reduceToNat, Int.toNat_zero, Int.toNat_natCast, Int.natCast_nonneg, Int.reduceGE, Int.reduceGT, facts, intsV_len]
  refine OX_loop' [true, true, false, false, false, false, false, true, true, false, false, false, false, false, false, false, false, false, false] (fun m fr st => ∃ i : Nat, i ≤ ks.length ∧ m = ks.length - i ∧ (∀ j (h : j < ks.length), j < i → (x == ks[j]) = false) ∧ fr = fr17 ks x i) ks.length ⟨0, by omega, by omega, fun j _ h => absurd h (Nat.not_lt_zero _), by rfl⟩ ?_
  rintro m fr ⟨h, nx⟩ ⟨i, hi, rfl, hprev, rfl⟩
  by_cases hlt : i < ks.length
  · have hlt' : decide ((i : Int) < (ks.length : Nat)) = true := decide_eq_true (by omega)
    have hrow := intsV_at hlt
    have hinc := wrap_inc hlt hk
    cases hp : (x == ks[i]) with
    | true =>
      simp -implicitDefEqProofs only [runs, List.getD_cons_zero, List.getD_cons_succ, List.set_cons_zero, List.set_cons_succ, List.getElem?_cons_zero, List.getElem?_cons_succ, Option.map_some, if_true, ite_true, if_false, ite_false, List.length_cons, List.length_nil, List.drop_zero, List.drop_succ_cons, List.take_succ_cons, List.take_zero, List.head?_cons, List.nil_append, List.cons_append, List.append_nil, List.all_cons, List.all_nil, Option.getD_some, List.map_cons, List.map_nil, List.size_toArray, eq_self, Nat.reduceAdd, Nat.reduceEqDiff, Nat.reduceLT, Nat.reduceLeDiff, Nat.reduceSub, List.replicate_succ, List.replicate_zero, Nat.reduceMul, List.isEmpty_cons, List.isEmpty_nil, Int.cast_ofNat_Int, Int.reduceLT, Int.reduceLE, Int.reduceToNat, Int.toNat_zero, Int.toNat_natCast, Int.natCast_nonneg, Int.reduceGE, Int.reduceGT, facts, fr17, intsV_len, hlt', hrow, hp, Int.natCast_nonneg, Int.toNat_natCast]
      try simp -implicitDefEqProofs only [fins, List.take_succ_cons, List.take_zero, List.map_cons, List.map_nil, List.all_cons, List.all_nil]
      rw [firstI_hit (p := fun y => x == y) hlt hp hprev]
    | false =>
      simp -implicitDefEqProofs only [runs, List.getD_cons_zero, List.getD_cons_succ, List.set_cons_zero, List.set_cons_succ, List.getElem?_cons_zero, List.getElem?_cons_succ, Option.map_some, if_true, ite_true, if_false, ite_false, List.length_cons, List.length_nil, List.drop_zero, List.drop_succ_cons, List.take_succ_cons, List.take_zero, List.head?_cons, List.nil_append, List.cons_append, List.append_nil, List.all_cons, List.all_nil, Option.getD_some, List.map_cons, List.map_nil, List.size_toArray, eq_self, Nat.reduceAdd, Nat.reduceEqDiff, Nat.reduceLT, Nat.reduceLeDiff, Nat.reduceSub, List.replicate_succ, List.replicate_zero, Nat.reduceMul, List.isEmpty_cons, List.isEmpty_nil, Int.cast_ofNat_Int, Int.reduceLT, Int.reduceLE, Int.reduceToNat, Int.toNat_zero, Int.toNat_natCast, Int.natCast_nonneg, Int.reduceGE, Int.reduceGT, facts, fr17, intsV_len, hlt', hrow, hp, Int.natCast_nonneg, Int.toNat_natCast]
      refine ⟨ks.length - (i + 1), by omega, i + 1, by omega, rfl, fun j hj hji => ?_, ?_⟩
      · rcases Nat.lt_succ_iff_lt_or_eq.1 hji with h | rfl
        · exact hprev j hj h
        · exact hp
      · rw [hinc]
  · have hlt' : decide ((i : Int) < (ks.length : Nat)) = false := decide_eq_false (by omega)
    simp -implicitDefEqProofs only [runs, List.getD_cons_zero, List.getD_cons_succ, List.set_cons_zero, List.set_cons_succ, List.getElem?_cons_zero, List.getElem?_cons_succ, Option.map_some, if_true, ite_true, if_false, ite_false, List.length_cons, List.length_nil, List.drop_zero, List.drop_succ_cons, List.take_succ_cons, List.take_zero, List.head?_cons, List.nil_append, List.cons_append, List.append_nil, List.all_cons, List.all_nil, Option.getD_some, List.map_cons, List.map_nil, List.size_toArray, eq_self, Nat.reduceAdd, Nat.reduceEqDiff, Nat.reduceLT, Nat.reduceLeDiff, Nat.reduceSub, List.replicate_succ, List.replicate_zero, Nat.reduceMul, List.isEmpty_cons, List.isEmpty_nil, Int.cast_ofNat_Int, Int.reduceLT, Int.reduceLE, Int.reduceToNat, Int.toNat_zero, Int.toNat_natCast, Int.natCast_nonneg, Int.reduceGE, Int.reduceGT, facts, fr17, intsV_len, hlt']
    try simp -implicitDefEqProofs only [fins, List.take_succ_cons, List.take_zero, List.map_cons, List.map_nil, List.all_cons, List.all_nil]
    rw [firstI_none (p := fun y => x == y) (fun j hj => hprev j hj (by omega))]

theorem contains_ok (ks : List Int) (x : Int) (hk : ks.length ≤ 1000000) : PC Tryz.prog gl 11 [.sl 1 (intsV ks) .none, .int .i64 x] (fun v => v = .bool (ks.any fun y => x == y)) := by
  refine PC.introX 1 mix (fn := Tryz.f11) Tryz.func11 rfl (names 11 _ Tryz.func11) fun F hF hro W => ?_
  simp -implicitDefEqProofs only [Tryz.ntmps11, Tryz.results11, fr0, st0, List.length_cons, List.length_nil, List.cons_append, List.nil_append, Nat.reduceAdd, Nat.reduceSub, List.replicate_succ, List.replicate_zero]
  simp -implicitDefEqProofs only [runs, List.getD_cons_zero, List.getD_cons_succ, List.set_cons_zero, List.set_cons_succ, List.getElem?_cons_zero, List.getElem?_cons_succ, Option.map_some, if_true, ite_true, if_false, ite_false, List.length_cons, List.length_nil, List.drop_zero, List.drop_succ_cons, List.take_succ_cons, List.take_zero, List.head?_cons, List.nil_append, List.cons_append, List.append_nil, List.all_cons, List.all_nil, Option.getD_some, List.map_cons, List.map_nil, List.size_toArray, eq_self, Nat.reduceAdd, Nat.reduceEqDiff, Nat.reduceLT, Nat.reduceLeDiff, Nat.reduceSub, List.replicate_succ, List.replicate_zero, Nat.reduceMul, List.isEmpty_cons, List.isEmpty_nil, Int.cast_ofNat_Int, Int.reduceLT, Int.reduceLE, Int.reduceToNat, Int.toNat_zero, Int.toNat_natCast, Int.natCast_nonneg, Int.reduceGE, Int.reduceGT, facts]
  refine PC.useX hF (indexI_ok ks x hk) rfl fun v hv => ?_
  subst hv
  simp -implicitDefEqProofs only [runs, List.getD_cons_zero, List.getD_cons_succ, List.set_cons_zero, List.set_cons_succ, List.getElem?_cons_zero, List.getElem?_cons_succ, Option.map_some, if_true, ite_true, if_false, ite_false, List.length_cons, List.length_nil, List.drop_zero, List.drop_succ_cons, List.take_succ_cons, List.take_zero, List.head?_cons, List.nil_append, List.cons_append, List.append_nil, List.all_cons, List.all_nil, Option.getD_some, List.map_cons, List.map_nil, List.size_toArray, eq_self, Nat.reduceAdd, Nat.reduceEqDiff, Nat.reduceLT, Nat.reduceLeDiff, Nat.reduceSub, List.replicate_succ, List.replicate_zero, Nat.reduceMul, List.isEmpty_cons, List.isEmpty_nil, Int.cast_ofNat_Int, Int.reduceLT, Int.reduceLE, Int.reduceToNat, Int.toNat_zero, Int.toNat_natCast, Int.natCast_nonneg, Int.reduceGE, Int.reduceGT, facts]
  try simp -implicitDefEqProofs only [fins, List.take_succ_cons, List.take_zero, List.map_cons, List.map_nil, List.all_cons, List.all_nil]
  rw [firstI_ge]
end Go.Proofs.Pv
