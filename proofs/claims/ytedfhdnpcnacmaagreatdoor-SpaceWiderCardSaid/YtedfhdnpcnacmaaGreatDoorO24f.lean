/-
  Chapter 24: what the program's types are, as the abstract machine asks them; small functions of package ratio.
  Conditions: none.
-/
import Derived.Test.YtedfhdnpcnacmaaGreatDoorPvV
import Derived.Test.YtedfhdnpcnacmaaGreatDoorK24base
namespace Go.Proofs.Pv
set_option linter.unusedVariables false
set_option linter.unusedSimpArgs false
open Go Go.Proofs
set_option linter.unusedSimpArgs false

theorem sz3 : sz Tryz.prog 3 = some 1 := by kernel_rfl
theorem sz43 : sz Tryz.prog 43 = some 2 := by kernel_rfl
theorem sz45 : sz Tryz.prog 45 = some 4 := by kernel_rfl
theorem ag3 : ag Tryz.prog 3 = false := by kernel_rfl
theorem ag43 : ag Tryz.prog 43 = true := by kernel_rfl
theorem ag45 : ag Tryz.prog 45 = true := by kernel_rfl
theorem fld43_0 : fld Tryz.prog 43 0 = some (0, 1, 3) := by kernel_rfl
theorem fld43_1 : fld Tryz.prog 43 1 = some (1, 1, 3) := by kernel_rfl
theorem fld45_0 : fld Tryz.prog 45 0 = some (0, 2, 43) := by kernel_rfl
theorem fld45_1 : fld Tryz.prog 45 1 = some (2, 1, 3) := by kernel_rfl
theorem fld45_2 : fld Tryz.prog 45 2 = some (3, 1, 3) := by kernel_rfl
theorem zro45 : zro Tryz.prog 45 = some [.int .i64 0, .int .i64 0, .int .i64 0, .int .i64 0] := by kernel_rfl

theorem zro43 : zro Tryz.prog 43 = some [.int .i64 0, .int .i64 0] := by kernel_rfl
theorem places43 : places Tryz.prog 43 = some [(0, 1), (1, 1)] := by kernel_rfl
theorem ptOf43_0 : ptOf Tryz.prog 43 0 = 3 := by kernel_rfl
theorem ptOf43_1 : ptOf Tryz.prog 43 1 = 3 := by kernel_rfl
theorem aeq43 (a b c d : Int) : aeq Tryz.prog 9 43 (.agg [.int .i64 a, .int .i64 b]) (.agg [.int .i64 c, .int .i64 d]) = some ((a == c) && ((b == d) && true)) := by kernel_rfl

def I64 (n : Int) : Prop := -9223372036854775808 ≤ n ∧ n ≤ 9223372036854775807
theorem wrap_u64 (n : Int) (h : 0 ≤ n ∧ n < 18446744073709551616) : IntKind.u64.wrap n = n := by
  simp only [IntKind.wrap, IntKind.bits, IntKind.signed, Bool.false_and, Bool.false_eq_true, if_false]
  omega
theorem wrap_i64 (n : Int) (h : I64 n) : IntKind.i64.wrap n = n := IntWalk.i64_in n (by unfold I64 at h; omega)
theorem wrap_neg (n : Int) (h : I64 n) (hn : n < 0) : IntKind.u64.wrap (0 - IntKind.u64.wrap n) = n.natAbs := by
  unfold I64 at h
  simp only [IntKind.wrap, IntKind.bits, IntKind.signed, Bool.false_and, Bool.false_eq_true, if_false]
  omega
theorem wrap_pos (n : Int) (h : I64 n) (hn : 0 ≤ n) : IntKind.u64.wrap n = n.natAbs := by
  unfold I64 at h
  rw [wrap_u64 n (by omega)]; omega

theorem abs_ok (n : Int) (h : I64 n) : PC Tryz.prog gl 94 [.int .i64 n] (fun v => v = .int .u64 n.natAbs) := by
  refine PC.introO 1 mix (fn := Tryz.f94) Tryz.func94 rfl (names 94 _ Tryz.func94) fun F hF W => ?_
  simp -implicitDefEqProofs only [Tryz.ntmps94, Tryz.results94, fr0, st0, List.length_cons, List.length_nil, List.cons_append, List.nil_append, Nat.reduceAdd, Nat.reduceSub, List.replicate_succ, List.replicate_zero]
  simp -implicitDefEqProofs only [crun_seq, crun_block, crun_cond, crun_skip, crun_exit, crun_ret, crun_label, crun_region', crun_draw, crun_loop, seqK_normal, seqK_exit, seqK_ret, blockK_normal, blockK_exit, blockK_ret, regK_at, sK_at, drawK_at, loopK_normal, loopK_exit, loopK_ret, saops_nil, saops_cons, slim_mk, wantedG_none, wantedG_some, gdj_zero, gdj_succ, gwT, gwF, gw_tup, uu, sstep_no, sstep_val, sstep_skip, put_some, put_none, app_nil, app_new, hset_top, hset_ne, hget_ne, app_set, hp_mk, hget_top, srops_nil, srops_cons, srstep_no, srstep_val, isCall, sput_some, sput_none, aop, aopD, aop1, ev, evC, ofV1, evs, List.getD_cons_zero, List.getD_cons_succ, List.set_cons_zero, List.set_cons_succ, List.getElem?_cons_zero, List.getElem?_cons_succ, condK_bool, leave_ret, leave_normal, ares1, ares2, ares3, aresC, fillA, abin, aarith, aun, oConv, oPick, oAlloc, oBox, oBuild, oCall, oExtract, acall, abuiltin, alen, amax, aload, astore, afaddr, afield, aiaddr, mkv, splice, AV.ite, AV.isUndef, AV.cells, Option.map_some, if_true, ite_true, Bool.false_eq_true, if_false, ite_false, List.length_cons, List.length_nil, Nat.reduceAdd, Nat.reduceSub, Nat.reduceLeDiff, List.drop_zero, List.drop_succ_cons, List.take_succ_cons, List.take_zero, List.head?_cons, List.nil_append, List.cons_append, List.append_nil, List.all_cons, List.all_nil, AV.one, Bool.and_true, Bool.true_and, and_true, true_and, and_self, Nat.zero_le, Option.getD_some, Fr.fgt, fgtL, List.map_cons, List.map_nil, Nat.add_zero, Nat.zero_add, AV.isMsl, Nat.le_refl, decide_true, decide_false, Bool.not_true, Bool.not_false, Nat.reduceEqDiff, List.size_toArray, eq_self, arrD0, arrD1, List.map_cons, List.map_nil, Int.ofNat_zero, not_false_eq_true, Nat.add_left_cancel_iff, Nat.add_right_cancel_iff, Nat.left_eq_add, Nat.right_eq_add, Nat.add_eq_left, Nat.add_eq_right, Nat.succ_ne_self, sz3, sz43, sz45, ag3, ag43, ag45, fld43_0, fld43_1, fld45_0, fld45_1, fld45_2, zro45, zro43, places43, ptOf43_0, ptOf43_1, aeq43, Tryz.eqGuardType43, Tryz.underlying3, Tryz.underlying163, Tryz.underlying4, Tryz.underlying28, Tryz.underlying29, Tryz.underlying43, Tryz.underlying45, stripR_int, stripR_bool, stripR_sl, stripR_str, strip_int, strip_bool, strip_sl, strip_str, strip0_int, strip0_bool, strip0_sl, strip0_str, pureR_int, pureR_bool, pureR_str, pureR_sl, pureV_int, pureV_bool, pureV_str, pureV_sl, pure_int, pure_bool, pure_str, pure_sl, stripR_agg, strip_agg, stripR_tup, pureR_agg, pureV_agg, pureR_tup]
  split
  · rename_i hn
    rw [wrap_neg n h (by simpa using hn)]
  · rename_i hn
    rw [wrap_pos n h (by simpa using hn)]

theorem common_ok : ∀ (b a : Nat), a < 18446744073709551616 → b < 18446744073709551616 → PC Tryz.prog gl 95 [.int .u64 a, .int .u64 b] (fun v => v = .int .u64 (Nat.gcd a b)) := by
  intro b
  induction b using Nat.strongRecOn with
  | _ b ih =>
  intro a ha hb
  refine PC.introO 1 mix (fn := Tryz.f95) Tryz.func95 rfl (names 95 _ Tryz.func95) fun F hF W => ?_
  simp -implicitDefEqProofs only [Tryz.ntmps95, Tryz.results95, fr0, st0, List.length_cons, List.length_nil, List.cons_append, List.nil_append, Nat.reduceAdd, Nat.reduceSub, List.replicate_succ, List.replicate_zero]
  by_cases h0 : b = 0
  · subst h0
    simp -implicitDefEqProofs only [crun_seq, crun_block, crun_cond, crun_skip, crun_exit, crun_ret, crun_label, crun_region', crun_draw, crun_loop, seqK_normal, seqK_exit, seqK_ret, blockK_normal, blockK_exit, blockK_ret, regK_at, sK_at, drawK_at, loopK_normal, loopK_exit, loopK_ret, saops_nil, saops_cons, slim_mk, wantedG_none, wantedG_some, gdj_zero, gdj_succ, gwT, gwF, gw_tup, uu, sstep_no, sstep_val, sstep_skip, put_some, put_none, app_nil, app_new, hset_top, hset_ne, hget_ne, app_set, hp_mk, hget_top, srops_nil, srops_cons, srstep_no, srstep_val, isCall, sput_some, sput_none, aop, aopD, aop1, ev, evC, ofV1, evs, List.getD_cons_zero, List.getD_cons_succ, List.set_cons_zero, List.set_cons_succ, List.getElem?_cons_zero, List.getElem?_cons_succ, condK_bool, leave_ret, leave_normal, ares1, ares2, ares3, aresC, fillA, abin, aarith, aun, oConv, oPick, oAlloc, oBox, oBuild, oCall, oExtract, acall, abuiltin, alen, amax, aload, astore, afaddr, afield, aiaddr, mkv, splice, AV.ite, AV.isUndef, AV.cells, Option.map_some, if_true, ite_true, Bool.false_eq_true, if_false, ite_false, List.length_cons, List.length_nil, Nat.reduceAdd, Nat.reduceSub, Nat.reduceLeDiff, List.drop_zero, List.drop_succ_cons, List.take_succ_cons, List.take_zero, List.head?_cons, List.nil_append, List.cons_append, List.append_nil, List.all_cons, List.all_nil, AV.one, Bool.and_true, Bool.true_and, and_true, true_and, and_self, Nat.zero_le, Option.getD_some, Fr.fgt, fgtL, List.map_cons, List.map_nil, Nat.add_zero, Nat.zero_add, AV.isMsl, Nat.le_refl, decide_true, decide_false, Bool.not_true, Bool.not_false, Nat.reduceEqDiff, List.size_toArray, eq_self, arrD0, arrD1, List.map_cons, List.map_nil, Int.ofNat_zero, not_false_eq_true, Nat.add_left_cancel_iff, Nat.add_right_cancel_iff, Nat.left_eq_add, Nat.right_eq_add, Nat.add_eq_left, Nat.add_eq_right, Nat.succ_ne_self, sz3, sz43, sz45, ag3, ag43, ag45, fld43_0, fld43_1, fld45_0, fld45_1, fld45_2, zro45, zro43, places43, ptOf43_0, ptOf43_1, aeq43, Tryz.eqGuardType43, Tryz.underlying3, Tryz.underlying163, Tryz.underlying4, Tryz.underlying28, Tryz.underlying29, Tryz.underlying43, Tryz.underlying45, beq_self_eq_true, Nat.gcd_zero_right, stripR_int, stripR_bool, stripR_sl, stripR_str, strip_int, strip_bool, strip_sl, strip_str, strip0_int, strip0_bool, strip0_sl, strip0_str, pureR_int, pureR_bool, pureR_str, pureR_sl, pureV_int, pureV_bool, pureV_str, pureV_sl, pure_int, pure_bool, pure_str, pure_sl, stripR_agg, strip_agg, stripR_tup, pureR_agg, pureV_agg, pureR_tup]
  · have h1 : ((b : Int) == 0) = false := by simp; omega
    have h2 : ¬ (b : Int) = 0 := by omega
    simp -implicitDefEqProofs only [crun_seq, crun_block, crun_cond, crun_skip, crun_exit, crun_ret, crun_label, crun_region', crun_draw, crun_loop, seqK_normal, seqK_exit, seqK_ret, blockK_normal, blockK_exit, blockK_ret, regK_at, sK_at, drawK_at, loopK_normal, loopK_exit, loopK_ret, saops_nil, saops_cons, slim_mk, wantedG_none, wantedG_some, gdj_zero, gdj_succ, gwT, gwF, gw_tup, uu, sstep_no, sstep_val, sstep_skip, put_some, put_none, app_nil, app_new, hset_top, hset_ne, hget_ne, app_set, hp_mk, hget_top, srops_nil, srops_cons, srstep_no, srstep_val, isCall, sput_some, sput_none, aop, aopD, aop1, ev, evC, ofV1, evs, List.getD_cons_zero, List.getD_cons_succ, List.set_cons_zero, List.set_cons_succ, List.getElem?_cons_zero, List.getElem?_cons_succ, condK_bool, leave_ret, leave_normal, ares1, ares2, ares3, aresC, fillA, abin, aarith, aun, oConv, oPick, oAlloc, oBox, oBuild, oCall, oExtract, acall, abuiltin, alen, amax, aload, astore, afaddr, afield, aiaddr, mkv, splice, AV.ite, AV.isUndef, AV.cells, Option.map_some, if_true, ite_true, Bool.false_eq_true, if_false, ite_false, List.length_cons, List.length_nil, Nat.reduceAdd, Nat.reduceSub, Nat.reduceLeDiff, List.drop_zero, List.drop_succ_cons, List.take_succ_cons, List.take_zero, List.head?_cons, List.nil_append, List.cons_append, List.append_nil, List.all_cons, List.all_nil, AV.one, Bool.and_true, Bool.true_and, and_true, true_and, and_self, Nat.zero_le, Option.getD_some, Fr.fgt, fgtL, List.map_cons, List.map_nil, Nat.add_zero, Nat.zero_add, AV.isMsl, Nat.le_refl, decide_true, decide_false, Bool.not_true, Bool.not_false, Nat.reduceEqDiff, List.size_toArray, eq_self, arrD0, arrD1, List.map_cons, List.map_nil, Int.ofNat_zero, not_false_eq_true, Nat.add_left_cancel_iff, Nat.add_right_cancel_iff, Nat.left_eq_add, Nat.right_eq_add, Nat.add_eq_left, Nat.add_eq_right, Nat.succ_ne_self, sz3, sz43, sz45, ag3, ag43, ag45, fld43_0, fld43_1, fld45_0, fld45_1, fld45_2, zro45, zro43, places43, ptOf43_0, ptOf43_1, aeq43, Tryz.eqGuardType43, Tryz.underlying3, Tryz.underlying163, Tryz.underlying4, Tryz.underlying28, Tryz.underlying29, Tryz.underlying43, Tryz.underlying45, h1, h2, sstep_call]
    have h3 : (a : Int).tmod (b : Int) = ((a % b : Nat) : Int) := by rw [Int.ofNat_tmod]
    rw [h3]
    have hlt := Nat.mod_lt a (Nat.pos_of_ne_zero h0)
    refine PC.use hF (ih (a % b) hlt b hb (by omega)) (by rfl) fun v hv => ?_
    subst hv
    simp -implicitDefEqProofs only [crun_seq, crun_block, crun_cond, crun_skip, crun_exit, crun_ret, crun_label, crun_region', crun_draw, crun_loop, seqK_normal, seqK_exit, seqK_ret, blockK_normal, blockK_exit, blockK_ret, regK_at, sK_at, drawK_at, loopK_normal, loopK_exit, loopK_ret, saops_nil, saops_cons, slim_mk, wantedG_none, wantedG_some, gdj_zero, gdj_succ, gwT, gwF, gw_tup, uu, sstep_no, sstep_val, sstep_skip, put_some, put_none, app_nil, app_new, hset_top, hset_ne, hget_ne, app_set, hp_mk, hget_top, srops_nil, srops_cons, srstep_no, srstep_val, isCall, sput_some, sput_none, aop, aopD, aop1, ev, evC, ofV1, evs, List.getD_cons_zero, List.getD_cons_succ, List.set_cons_zero, List.set_cons_succ, List.getElem?_cons_zero, List.getElem?_cons_succ, condK_bool, leave_ret, leave_normal, ares1, ares2, ares3, aresC, fillA, abin, aarith, aun, oConv, oPick, oAlloc, oBox, oBuild, oCall, oExtract, acall, abuiltin, alen, amax, aload, astore, afaddr, afield, aiaddr, mkv, splice, AV.ite, AV.isUndef, AV.cells, Option.map_some, if_true, ite_true, Bool.false_eq_true, if_false, ite_false, List.length_cons, List.length_nil, Nat.reduceAdd, Nat.reduceSub, Nat.reduceLeDiff, List.drop_zero, List.drop_succ_cons, List.take_succ_cons, List.take_zero, List.head?_cons, List.nil_append, List.cons_append, List.append_nil, List.all_cons, List.all_nil, AV.one, Bool.and_true, Bool.true_and, and_true, true_and, and_self, Nat.zero_le, Option.getD_some, Fr.fgt, fgtL, List.map_cons, List.map_nil, Nat.add_zero, Nat.zero_add, AV.isMsl, Nat.le_refl, decide_true, decide_false, Bool.not_true, Bool.not_false, Nat.reduceEqDiff, List.size_toArray, eq_self, arrD0, arrD1, List.map_cons, List.map_nil, Int.ofNat_zero, not_false_eq_true, Nat.add_left_cancel_iff, Nat.add_right_cancel_iff, Nat.left_eq_add, Nat.right_eq_add, Nat.add_eq_left, Nat.add_eq_right, Nat.succ_ne_self, sz3, sz43, sz45, ag3, ag43, ag45, fld43_0, fld43_1, fld45_0, fld45_1, fld45_2, zro45, zro43, places43, ptOf43_0, ptOf43_1, aeq43, Tryz.eqGuardType43, Tryz.underlying3, Tryz.underlying163, Tryz.underlying4, Tryz.underlying28, Tryz.underlying29, Tryz.underlying43, Tryz.underlying45, stripR_int, stripR_bool, stripR_sl, stripR_str, strip_int, strip_bool, strip_sl, strip_str, strip0_int, strip0_bool, strip0_sl, strip0_str, pureR_int, pureR_bool, pureR_str, pureR_sl, pureV_int, pureV_bool, pureV_str, pureV_sl, pure_int, pure_bool, pure_str, pure_sl, stripR_agg, strip_agg, stripR_tup, pureR_agg, pureV_agg, pureR_tup]
    rw [Nat.gcd_comm b (a % b), ← Nat.gcd_rec, Nat.gcd_comm]
end Go.Proofs.Pv
