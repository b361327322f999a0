/-
  Chapter 27: what of shapes stands at a point: package draw's answer.
  Conditions: the list is not longer than a machine's memory.
-/
import Derived.Test.YtgjjcdjcpbjdgaaGreatDoorO27c
namespace Go.Proofs.Pv
set_option linter.unusedVariables false
set_option linter.unusedSimpArgs false
open Go Go.Proofs
set_option linter.unusedSimpArgs false
set_option maxRecDepth 10000

/-- What the closure that is handed to slices.IndexFunc tells. -/
def hitB (ks : List Int) (x y : Int) (a : Sh) : Bool := (ks.any fun z => a.k == z) && holdsB a x y
def caps (ks : List Int) (x y : Int) : List AV := [.vp [.sl 1 (intsV ks) .none], .vp [.int .i64 x], .vp [.int .i64 y]]
theorem hit1_ok (ks : List Int) (x y : Int) (a : Sh) (hk : ks.length ≤ 1000000) : PC Tryz.prog gl 10 (a.av :: caps ks x y) (fun v => v = .bool (hitB ks x y a)) := by
  refine PC.introX 1 mix (fn := Tryz.f10) Tryz.func10 rfl (names 10 _ Tryz.func10) fun F hF hro W => ?_
  simp -implicitDefEqProofs only [Tryz.ntmps10, Tryz.results10, fr0, st0, List.length_cons, List.length_nil, List.cons_append, List.nil_append, Nat.reduceAdd, Nat.reduceSub, List.replicate_succ, List.replicate_zero]
  simp -implicitDefEqProofs only [runs, List.getD_cons_zero, List.getD_cons_succ, List.set_cons_zero, List.set_cons_succ, List.getElem?_cons_zero, List.getElem?_cons_succ, Option.map_some, if_true, ite_true, if_false, ite_false, List.length_cons, List.length_nil, List.drop_zero, List.drop_succ_cons, List.take_succ_cons, List.take_zero, List.head?_cons, List.nil_append, List.cons_append, List.append_nil, List.all_cons, List.all_nil, Option.getD_some, List.map_cons, List.map_nil, List.size_toArray, eq_self, Nat.reduceAdd, Nat.reduceEqDiff, Nat.reduceLT, Nat.reduceLeDiff, Nat.reduceSub, List.replicate_succ, List.replicate_zero, Nat.reduceMul, List.isEmpty_cons, List.isEmpty_nil, Int.cast_ofNat_Int, Int.reduceLT, Int.reduceLE, Int.reduceToNat, Int.toNat_zero, Int.toNat_natCast, Int.natCast_nonneg, Int.reduceGE, Int.reduceGT, facts, Sh.av, caps]
  refine PC.useX hF (contains_ok ks a.k hk) rfl fun v hv => ?_
  subst hv
  cases h : (ks.any fun z => a.k == z) with
  | false =>
    simp -implicitDefEqProofs only [runs, List.getD_cons_zero, List.getD_cons_succ, List.set_cons_zero, List.set_cons_succ, List.getElem?_cons_zero, List.getElem?_cons_succ, Option.map_some, if_true, ite_true, if_false, ite_false, List.length_cons, List.length_nil, List.drop_zero, List.drop_succ_cons, List.take_succ_cons, List.take_zero, List.head?_cons, List.nil_append, List.cons_append, List.append_nil, List.all_cons, List.all_nil, Option.getD_some, List.map_cons, List.map_nil, List.size_toArray, eq_self, Nat.reduceAdd, Nat.reduceEqDiff, Nat.reduceLT, Nat.reduceLeDiff, Nat.reduceSub, List.replicate_succ, List.replicate_zero, Nat.reduceMul, List.isEmpty_cons, List.isEmpty_nil, Int.cast_ofNat_Int, Int.reduceLT, Int.reduceLE, Int.reduceToNat, Int.toNat_zero, Int.toNat_natCast, Int.natCast_nonneg, Int.reduceGE, Int.reduceGT, facts, h, Bool.false_beq, Bool.not_true]
    try simp -implicitDefEqProofs only [fins, List.take_succ_cons, List.take_zero, List.map_cons, List.map_nil, List.all_cons, List.all_nil]
    simp only [hitB, h, Bool.false_and]
  | true =>
    simp -implicitDefEqProofs only [runs, List.getD_cons_zero, List.getD_cons_succ, List.set_cons_zero, List.set_cons_succ, List.getElem?_cons_zero, List.getElem?_cons_succ, Option.map_some, if_true, ite_true, if_false, ite_false, List.length_cons, List.length_nil, List.drop_zero, List.drop_succ_cons, List.take_succ_cons, List.take_zero, List.head?_cons, List.nil_append, List.cons_append, List.append_nil, List.all_cons, List.all_nil, Option.getD_some, List.map_cons, List.map_nil, List.size_toArray, eq_self, Nat.reduceAdd, Nat.reduceEqDiff, Nat.reduceLT, Nat.reduceLeDiff, Nat.reduceSub, List.replicate_succ, List.replicate_zero, Nat.reduceMul, List.isEmpty_cons, List.isEmpty_nil, Int.cast_ofNat_Int, Int.reduceLT, Int.reduceLE, Int.reduceToNat, Int.toNat_zero, Int.toNat_natCast, Int.natCast_nonneg, Int.reduceGE, Int.reduceGT, facts, h, beq_self_eq_true]
    refine PC.useX hF (holds_ok a x y) rfl fun v hv => ?_
    subst hv
    simp -implicitDefEqProofs only [runs, List.getD_cons_zero, List.getD_cons_succ, List.set_cons_zero, List.set_cons_succ, List.getElem?_cons_zero, List.getElem?_cons_succ, Option.map_some, if_true, ite_true, if_false, ite_false, List.length_cons, List.length_nil, List.drop_zero, List.drop_succ_cons, List.take_succ_cons, List.take_zero, List.head?_cons, List.nil_append, List.cons_append, List.append_nil, List.all_cons, List.all_nil, Option.getD_some, List.map_cons, List.map_nil, List.size_toArray, eq_self, Nat.reduceAdd, Nat.reduceEqDiff, Nat.reduceLT, Nat.reduceLeDiff, Nat.reduceSub, List.replicate_succ, List.replicate_zero, Nat.reduceMul, List.isEmpty_cons, List.isEmpty_nil, Int.cast_ofNat_Int, Int.reduceLT, Int.reduceLE, Int.reduceToNat, Int.toNat_zero, Int.toNat_natCast, Int.natCast_nonneg, Int.reduceGE, Int.reduceGT, facts, h, beq_self_eq_true]
    try simp -implicitDefEqProofs only [fins, List.take_succ_cons, List.take_zero, List.map_cons, List.map_nil, List.all_cons, List.all_nil]
    simp only [hitB, h, Bool.true_and]

def shs (l : List Sh) : List AV := l.map Sh.av
theorem shs_at {l : List Sh} {i : Nat} (h : i < l.length) : (shs l)[i]? = some l[i].av := by simp [shs, h]
theorem shs_len (l : List Sh) : (shs l).length = l.length := by simp [shs]
def fr9 (l : List Sh) (c : AV) (i : Nat) : Fr := ⟨[.sl 12 (shs l) .none, c, .undef, .undef, .undef, .undef, .undef, .int .i64 (l.length : Nat), .int .i64 (i : Nat), .undef, .undef, .undef, .undef, .undef, .undef, .undef, .undef, .undef, .undef], []⟩
theorem indexFunc_ok (l : List Sh) (f : FuncId) (cap : List AV) (p : Sh → Bool) (hl : l.length ≤ 1000000) (hc : cap.map AV.plain = cap) (hp : ∀ a ∈ l, PC Tryz.prog gl f (a.av :: cap) (fun v => v = .bool (p a))) :
    PC Tryz.prog gl 9 [.sl 12 (shs l) .none, .fn f [] cap] (fun v => v = .int .i64 (firstI p l)) := by
  refine PC.introX 2 mix (fn := Tryz.f9) Tryz.func9 rfl (names 9 _ Tryz.func9) fun F hF hro W => ?_
  simp -implicitDefEqProofs only [Tryz.ntmps9, Tryz.results9, fr0, st0, List.length_cons, List.length_nil, List.cons_append, List.nil_append, Nat.reduceAdd, Nat.reduceSub, List.replicate_succ, List.replicate_zero]
  simp -implicitDefEqProofs only [runs, List.getD_cons_zero, List.getD_cons_succ, List.set_cons_zero, List.set_cons_succ, List.getElem?_cons_zero, List.getElem?_cons_succ, Option.map_some, if_true, ite_true, if_false, ite_false, List.length_cons, List.length_nil, List.drop_zero, List.drop_succ_cons, List.take_succ_cons, List.take_zero, List.head?_cons, List.nil_append, List.cons_append, List.append_nil, List.all_cons, List.all_nil, Option.getD_some, List.map_cons, List.map_nil, List.size_toArray, eq_self, Nat.reduceAdd, Nat.reduceEqDiff, Nat.reduceLT, Nat.reduceLeDiff, Nat.reduceSub, List.replicate_succ, List.replicate_zero, Nat.reduceMul, List.isEmpty_cons, List.isEmpty_nil, Int.cast_ofNat_Int, Int.reduceLT, Int.reduceLE, Int.reduceToNat, Int.toNat_zero, Int.toNat_natCast, Int.natCast_nonneg, Int.reduceGE, Int.reduceGT, facts, shs_len]
  refine OX_loop' [true, true, false, false, false, false, false, true, true, false, false, false, false, false, false, false, false, false, false] (fun m fr st => ∃ i : Nat, i ≤ l.length ∧ m = l.length - i ∧ (∀ j (h : j < l.length), j < i → p l[j] = false) ∧ fr = fr9 l (.fn f [] cap) i) l.length ⟨0, by omega, by omega, fun j _ h => absurd h (Nat.not_lt_zero _), by rfl⟩ ?_
  rintro m fr ⟨h, nx⟩ ⟨i, hi, rfl, hprev, rfl⟩
  by_cases hlt : i < l.length
  · have hlt' : decide ((i : Int) < (l.length : Nat)) = true := decide_eq_true (by omega)
    have hrow := shs_at hlt
    have hinc := wrap_inc hlt hl
    simp -implicitDefEqProofs only [runs, List.getD_cons_zero, List.getD_cons_succ, List.set_cons_zero, List.set_cons_succ, List.getElem?_cons_zero, List.getElem?_cons_succ, Option.map_some, if_true, ite_true, if_false, ite_false, List.length_cons, List.length_nil, List.drop_zero, List.drop_succ_cons, List.take_succ_cons, List.take_zero, List.head?_cons, List.nil_append, List.cons_append, List.append_nil, List.all_cons, List.all_nil, Option.getD_some, List.map_cons, List.map_nil, List.size_toArray, eq_self, Nat.reduceAdd, Nat.reduceEqDiff, Nat.reduceLT, Nat.reduceLeDiff, Nat.reduceSub, List.replicate_succ, List.replicate_zero, Nat.reduceMul, List.isEmpty_cons, List.isEmpty_nil, Int.cast_ofNat_Int, Int.reduceLT, Int.reduceLE, Int.reduceToNat, Int.toNat_zero, Int.toNat_natCast, Int.natCast_nonneg, Int.reduceGE, Int.reduceGT, facts, fr9, shs_len, hlt', hrow, Int.natCast_nonneg, Int.toNat_natCast, Sh.av]
    refine PC.useX hF (hp l[i] (List.getElem_mem _)) (by simp only [List.map_cons, hc]; rfl) fun v hv => ?_
    subst hv
    cases hq : p l[i] with
    | true =>
      simp -implicitDefEqProofs only [runs, List.getD_cons_zero, List.getD_cons_succ, List.set_cons_zero, List.set_cons_succ, List.getElem?_cons_zero, List.getElem?_cons_succ, Option.map_some, if_true, ite_true, if_false, ite_false, List.length_cons, List.length_nil, List.drop_zero, List.drop_succ_cons, List.take_succ_cons, List.take_zero, List.head?_cons, List.nil_append, List.cons_append, List.append_nil, List.all_cons, List.all_nil, Option.getD_some, List.map_cons, List.map_nil, List.size_toArray, eq_self, Nat.reduceAdd, Nat.reduceEqDiff, Nat.reduceLT, Nat.reduceLeDiff, Nat.reduceSub, List.replicate_succ, List.replicate_zero, Nat.reduceMul, List.isEmpty_cons, List.isEmpty_nil, Int.cast_ofNat_Int, Int.reduceLT, Int.reduceLE, Int.reduceToNat, Int.toNat_zero, Int.toNat_natCast, Int.natCast_nonneg, Int.reduceGE, Int.reduceGT, facts, hq]
      try simp -implicitDefEqProofs only [fins, List.take_succ_cons, List.take_zero, List.map_cons, List.map_nil, List.all_cons, List.all_nil]
      rw [firstI_hit (p := p) hlt hq hprev]
    | false =>
      simp -implicitDefEqProofs only [runs, List.getD_cons_zero, List.getD_cons_succ, List.set_cons_zero, List.set_cons_succ, List.getElem?_cons_zero, List.getElem?_cons_succ, Option.map_some, if_true, ite_true, if_false, ite_false, List.length_cons, List.length_nil, List.drop_zero, List.drop_succ_cons, List.take_succ_cons, List.take_zero, List.head?_cons, List.nil_append, List.cons_append, List.append_nil, List.all_cons, List.all_nil, Option.getD_some, List.map_cons, List.map_nil, List.size_toArray, eq_self, Nat.reduceAdd, Nat.reduceEqDiff, Nat.reduceLT, Nat.reduceLeDiff, Nat.reduceSub, List.replicate_succ, List.replicate_zero, Nat.reduceMul, List.isEmpty_cons, List.isEmpty_nil, Int.cast_ofNat_Int, Int.reduceLT, Int.reduceLE, Int.reduceToNat, Int.toNat_zero, Int.toNat_natCast, Int.natCast_nonneg, Int.reduceGE, Int.reduceGT, facts, hq]
      refine ⟨l.length - (i + 1), by omega, i + 1, by omega, rfl, fun j hj hji => ?_, ?_⟩
      · rcases Nat.lt_succ_iff_lt_or_eq.1 hji with h | rfl
        · exact hprev j hj h
        · exact hq
      · rw [hinc]
  · have hlt' : decide ((i : Int) < (l.length : Nat)) = false := decide_eq_false (by omega)
    simp -implicitDefEqProofs only [runs, List.getD_cons_zero, List.getD_cons_succ, List.set_cons_zero, List.set_cons_succ, List.getElem?_cons_zero, List.getElem?_cons_succ, Option.map_some, if_true, ite_true, if_false, ite_false, List.length_cons, List.length_nil, List.drop_zero, List.drop_succ_cons, List.take_succ_cons, List.take_zero, List.head?_cons, List.nil_append, List.cons_append, List.append_nil, List.all_cons, List.all_nil, Option.getD_some, List.map_cons, List.map_nil, List.size_toArray, eq_self, Nat.reduceAdd, Nat.reduceEqDiff, Nat.reduceLT, Nat.reduceLeDiff, Nat.reduceSub, List.replicate_succ, List.replicate_zero, Nat.reduceMul, List.isEmpty_cons, List.isEmpty_nil, Int.cast_ofNat_Int, Int.reduceLT, Int.reduceLE, Int.reduceToNat, Int.toNat_zero, Int.toNat_natCast, Int.natCast_nonneg, Int.reduceGE, Int.reduceGT, facts, fr9, shs_len, hlt']
    try simp -implicitDefEqProofs only [fins, List.take_succ_cons, List.take_zero, List.map_cons, List.map_nil, List.all_cons, List.all_nil]
    rw [firstI_none (p := p) (fun j hj => hprev j hj (by omega))]
end Go.Proofs.Pv
