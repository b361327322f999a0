/-
  Chapter 27: the law DrawHits, by contract: it answers true whatever the shapes and the point.
  Conditions: none beyond what the types let in.
-/
import Derived.Test.YtgjjcdjcpbjdgaaGreatDoorPvY
import Derived.Test.YtgjjcdjcpbjdgaaGreatDoorO27g
import Derived.Test.YtgjjcdjcpbjdgaaGreatDoorK27j
namespace Go.Proofs.Pv
set_option linter.unusedVariables false
set_option linter.unusedSimpArgs false
open Go Go.Proofs
set_option linter.unusedSimpArgs false
set_option maxRecDepth 10000
set_option maxHeartbeats 4000000

theorem cells39 : Tryz.prog.cellsOf 39 = 12 := by kernel_rfl
theorem cells25 : Tryz.prog.cellsOf 25 = 4 := by kernel_rfl
theorem cells3 : Tryz.prog.cellsOf 3 = 1 := by kernel_rfl
theorem cells9 : Tryz.prog.cellsOf 9 = 1 := by kernel_rfl
theorem okV_int {d : Nat} {cs : List AV} (h : okV Tryz.prog (d + 1) 3 cs) : ∃ n, cs = [.int .i64 n] := by
  simp only [okV, Tryz.underlying3] at h
  obtain ⟨n, rfl, hw⟩ := h
  exact ⟨n, rfl⟩
theorem okV_str {d : Nat} {cs : List AV} (h : okV Tryz.prog (d + 1) 9 cs) : ∃ s, cs = [.str s] := by
  simp only [okV, Tryz.underlying9] at h
  obtain ⟨s, rfl, hw⟩ := h
  exact ⟨s, rfl⟩
theorem split1 {cs : List AV} {k : Nat} {a : List AV} (h : cs.take k = a) : cs = a ++ cs.drop k := by rw [← h, List.take_append_drop]
theorem okV_place {d : Nat} {cs : List AV} (h : okV Tryz.prog (d + 2) 25 cs) : ∃ a b c e, cs = [.int .i64 a, .int .i64 b, .int .i64 c, .int .i64 e] := by
  have h' : okTs Tryz.prog (okV Tryz.prog (d + 1)) [3, 3, 3, 3] cs := by simpa only [okV, Tryz.underlying25, List.map_cons, List.map_nil] using h
  simp only [okTs, cells3] at h'
  obtain ⟨h1, h2, h3, h4, h5⟩ := h'
  obtain ⟨a, e1⟩ := okV_int h1
  obtain ⟨b, e2⟩ := okV_int h2
  obtain ⟨c, e3⟩ := okV_int h3
  obtain ⟨e, e4⟩ := okV_int h4
  refine ⟨a, b, c, e, ?_⟩
  rw [split1 e1, split1 e2, split1 e3, split1 e4, h5]; rfl
theorem okV_shape {d : Nat} {cs : List AV} (h : okV Tryz.prog (d + 3) 39 cs) : ∃ a : Sh, mkRow Tryz.prog 39 cs = a.av := by
  have hm : mkRow Tryz.prog 39 cs = .agg cs := by simp only [mkRow, ag39, if_true]
  rw [hm]
  have h' : okTs Tryz.prog (okV Tryz.prog (d + 2)) [3, 3, 3, 3, 3, 3, 25, 3, 9] cs := by simpa only [okV, Tryz.underlying39, List.map_cons, List.map_nil] using h
  simp only [okTs, cells3, cells25, cells9] at h'
  obtain ⟨h1, h2, h3, h4, h5, h6, h7, h8, h9, h10⟩ := h'
  obtain ⟨k, e1⟩ := okV_int h1
  obtain ⟨x, e2⟩ := okV_int h2
  obtain ⟨y, e3⟩ := okV_int h3
  obtain ⟨w, e4⟩ := okV_int h4
  obtain ⟨hh, e5⟩ := okV_int h5
  obtain ⟨g, e6⟩ := okV_int h6
  obtain ⟨p0, p1, p2, p3, e7⟩ := okV_place h7
  obtain ⟨n, e8⟩ := okV_int h8
  obtain ⟨s, e9⟩ := okV_str h9
  refine ⟨⟨k, x, y, w, hh, g, p0, p1, p2, p3, n, s⟩, ?_⟩
  rw [split1 e1, split1 e2, split1 e3, split1 e4, split1 e5, split1 e6, split1 e7, split1 e8, split1 e9, h10]; rfl
theorem shs_of : ∀ (rows : List AV), (∀ r ∈ rows, ∃ a : Sh, r = a.av) → ∃ l : List Sh, rows = shs l
  | [], _ => ⟨[], rfl⟩
  | r :: rows, h => by
    obtain ⟨a, e1⟩ := h r (by simp)
    obtain ⟨l, f1⟩ := shs_of rows fun x hx => h x (by simp [hx])
    exact ⟨a :: l, by rw [e1, f1]; rfl⟩
theorem okV_shapes {cs : List AV} (h : okV Tryz.prog 6 22 cs) : ∃ l : List Sh, cs = [.sl 12 (shs l) .none] := by
  have h' : ∃ rows, cs = [.sl (Tryz.prog.cellsOf 39) rows .none] ∧ rows.length ≤ maxLen ∧ ∀ r ∈ rows, ∃ cs, r = mkRow Tryz.prog 39 cs ∧ okV Tryz.prog 5 39 cs := by simpa only [okV, Tryz.underlying22] using h
  obtain ⟨rows, rfl, _, hr⟩ := h'
  obtain ⟨l, rfl⟩ := shs_of rows fun r hr' => by
    obtain ⟨x, rfl, hx⟩ := hr r hr'
    exact okV_shape hx
  exact ⟨l, by rw [cells39]⟩

theorem awake_ok : PC Tryz.prog gl 4 [] (fun v => v = .bool true) := eAwake_ok
theorem hitR_form (l : List Sh) (x y : Int) : ∃ a b c d e, hitR l x y = .tup [.agg [.int .i64 a, .int .i64 b, .int .i64 c, .int .i64 d], .bool e] := by
  unfold hitR
  split
  · exact ⟨_, _, _, _, _, rfl⟩
  · split
    · exact ⟨_, _, _, _, _, rfl⟩
    · exact ⟨_, _, _, _, _, rfl⟩

theorem hits_law : ∀ cs ds es, okV Tryz.prog 6 22 cs → okV Tryz.prog 6 3 ds → okV Tryz.prog 6 3 es → PC Tryz.prog gl 3 (cs ++ ds ++ es) (fun v => v = .bool true) := by
  intro cs ds es h hd he
  obtain ⟨l, rfl⟩ := okV_shapes h
  obtain ⟨x, rfl⟩ := okV_int hd
  obtain ⟨y, rfl⟩ := okV_int he
  refine PC.introX 1 mix (fn := Tryz.f3) Tryz.func3 rfl (names 3 _ Tryz.func3) fun F hF hro W => ?_
  simp -implicitDefEqProofs only [Tryz.ntmps3, Tryz.results3, fr0, st0, List.length_cons, List.length_nil, List.cons_append, List.nil_append, Nat.reduceAdd, Nat.reduceSub, List.replicate_succ, List.replicate_zero]
  simp -implicitDefEqProofs only [runs, List.getD_cons_zero, List.getD_cons_succ, List.set_cons_zero, List.set_cons_succ, List.getElem?_cons_zero, List.getElem?_cons_succ, Option.map_some, if_true, ite_true, if_false, ite_false, List.length_cons, List.length_nil, List.drop_zero, List.drop_succ_cons, List.take_succ_cons, List.take_zero, List.head?_cons, List.nil_append, List.cons_append, List.append_nil, List.all_cons, List.all_nil, Option.getD_some, List.map_cons, List.map_nil, List.size_toArray, eq_self, Nat.reduceAdd, Nat.reduceEqDiff, Nat.reduceLT, Nat.reduceLeDiff, Nat.reduceSub, List.replicate_succ, List.replicate_zero, Nat.reduceMul, List.isEmpty_cons, List.isEmpty_nil, Int.cast_ofNat_Int, Int.reduceLT, Int.reduceLE, Int.reduceToNat, Int.toNat_zero, Int.toNat_natCast, Int.natCast_nonneg, Int.reduceGE, Int.reduceGT, facts]
  refine PC.useX hF awake_ok rfl fun v hv => ?_
  subst hv
  cases g : decide (((l.length : Nat) : Int) > 40) with
  | true =>
    simp -implicitDefEqProofs only [runs, List.getD_cons_zero, List.getD_cons_succ, List.set_cons_zero, List.set_cons_succ, List.getElem?_cons_zero, List.getElem?_cons_succ, Option.map_some, if_true, ite_true, if_false, ite_false, List.length_cons, List.length_nil, List.drop_zero, List.drop_succ_cons, List.take_succ_cons, List.take_zero, List.head?_cons, List.nil_append, List.cons_append, List.append_nil, List.all_cons, List.all_nil, Option.getD_some, List.map_cons, List.map_nil, List.size_toArray, eq_self, Nat.reduceAdd, Nat.reduceEqDiff, Nat.reduceLT, Nat.reduceLeDiff, Nat.reduceSub, List.replicate_succ, List.replicate_zero, Nat.reduceMul, List.isEmpty_cons, List.isEmpty_nil, Int.cast_ofNat_Int, Int.reduceLT, Int.reduceLE, Int.reduceToNat, Int.toNat_zero, Int.toNat_natCast, Int.natCast_nonneg, Int.reduceGE, Int.reduceGT, facts, shs_len, g]
  | false =>
    have hl : l.length ≤ 1000000 := by have := of_decide_eq_false g; omega
    simp -implicitDefEqProofs only [runs, List.getD_cons_zero, List.getD_cons_succ, List.set_cons_zero, List.set_cons_succ, List.getElem?_cons_zero, List.getElem?_cons_succ, Option.map_some, if_true, ite_true, if_false, ite_false, List.length_cons, List.length_nil, List.drop_zero, List.drop_succ_cons, List.take_succ_cons, List.take_zero, List.head?_cons, List.nil_append, List.cons_append, List.append_nil, List.all_cons, List.all_nil, Option.getD_some, List.map_cons, List.map_nil, List.size_toArray, eq_self, Nat.reduceAdd, Nat.reduceEqDiff, Nat.reduceLT, Nat.reduceLeDiff, Nat.reduceSub, List.replicate_succ, List.replicate_zero, Nat.reduceMul, List.isEmpty_cons, List.isEmpty_nil, Int.cast_ofNat_Int, Int.reduceLT, Int.reduceLE, Int.reduceToNat, Int.toNat_zero, Int.toNat_natCast, Int.natCast_nonneg, Int.reduceGE, Int.reduceGT, facts, shs_len, g]
    refine PC.useX hF (hit_ok l x y hl) rfl fun v hv => ?_
    subst hv
    obtain ⟨a, b, c, d, e, hr⟩ := hitR_form l x y
    simp -implicitDefEqProofs only [runs, List.getD_cons_zero, List.getD_cons_succ, List.set_cons_zero, List.set_cons_succ, List.getElem?_cons_zero, List.getElem?_cons_succ, Option.map_some, if_true, ite_true, if_false, ite_false, List.length_cons, List.length_nil, List.drop_zero, List.drop_succ_cons, List.take_succ_cons, List.take_zero, List.head?_cons, List.nil_append, List.cons_append, List.append_nil, List.all_cons, List.all_nil, Option.getD_some, List.map_cons, List.map_nil, List.size_toArray, eq_self, Nat.reduceAdd, Nat.reduceEqDiff, Nat.reduceLT, Nat.reduceLeDiff, Nat.reduceSub, List.replicate_succ, List.replicate_zero, Nat.reduceMul, List.isEmpty_cons, List.isEmpty_nil, Int.cast_ofNat_Int, Int.reduceLT, Int.reduceLE, Int.reduceToNat, Int.toNat_zero, Int.toNat_natCast, Int.natCast_nonneg, Int.reduceGE, Int.reduceGT, facts, hr]
    refine PC.useX hF (refHit_ok l x y hl) rfl fun v hv => ?_
    subst hv
    simp -implicitDefEqProofs only [runs, List.getD_cons_zero, List.getD_cons_succ, List.set_cons_zero, List.set_cons_succ, List.getElem?_cons_zero, List.getElem?_cons_succ, Option.map_some, if_true, ite_true, if_false, ite_false, List.length_cons, List.length_nil, List.drop_zero, List.drop_succ_cons, List.take_succ_cons, List.take_zero, List.head?_cons, List.nil_append, List.cons_append, List.append_nil, List.all_cons, List.all_nil, Option.getD_some, List.map_cons, List.map_nil, List.size_toArray, eq_self, Nat.reduceAdd, Nat.reduceEqDiff, Nat.reduceLT, Nat.reduceLeDiff, Nat.reduceSub, List.replicate_succ, List.replicate_zero, Nat.reduceMul, List.isEmpty_cons, List.isEmpty_nil, Int.cast_ofNat_Int, Int.reduceLT, Int.reduceLE, Int.reduceToNat, Int.toNat_zero, Int.toNat_natCast, Int.natCast_nonneg, Int.reduceGE, Int.reduceGT, facts, hr, beq_self_eq_true, Option.map_some]
end Go.Proofs.Pv
