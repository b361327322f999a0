/-
  slices.Clone at a part of a list of bars, of cells, of dynamics, as a call that looks.
  Layer 9's edits: whether there are things for each part, and each bar (fits), as a call that looks.
  Conditions: none but those that each statement names.
-/
import Derived.Test.YtiikpmhjckdpgaaGreatDoorC10c
namespace Go.Proofs.Pv
open Go Go.Proofs
set_option linter.unusedSimpArgs false
set_option linter.unusedVariables false
set_option maxRecDepth 100000 in
set_option maxHeartbeats 1000000 in
theorem cloneBaN (l : List (Ba)) (a n : Nat) (hl : l.length ≤ 1000000) (ha : a + n ≤ l.length) (hn : 0 < n) (q : Nat) (hq : q < 2000) : Rd Tryz.prog gl 55 [.msl q (a * 14) n 14] (hget [(q, .cells (l.flatMap Ba.cells))]) (.sl 14 (((l.drop a).take n).map Ba.av) .none) := by
 have hfl := flBa l
 have hcut : List.take (n * 14) (List.drop (a * 14) (l.flatMap Ba.cells)) = ((l.drop a).take n).flatMap Ba.cells := by rw [drop_flat (c := Ba.cells) (k := 14) (fun _ => rfl), take_flat (c := Ba.cells) (k := 14) (fun _ => rfl)]
 have hone : (((l.drop a).take n).flatMap Ba.cells).all AV.one = true := onBa _
 have hpure : (((l.drop a).take n).flatMap Ba.cells).all AV.pure = true := pureFlat (fun _ => rfl) _
 have hlen : ((l.drop a).take n).length = n := by rw [List.length_take, List.length_drop]; omega
 have hfl2 : (((l.drop a).take n).flatMap Ba.cells).length = n * 14 := by rw [flBa, hlen]
 have hch : chunks (!(Nat.beq 14 1)) 14 n (((l.drop a).take n).flatMap Ba.cells) = ((l.drop a).take n).map Ba.av := by
  have := chunksFlat (c := Ba.cells) (k := 14) (fun _ => rfl) ((l.drop a).take n)
  rw [hlen] at this; exact this
 have hne : ∀ m r : Nat, (q = m + 2000 + r) = False := fun m r => by simp only [eq_iff_iff, iff_false]; omega
 have hne0 : ∀ m : Nat, (q = m + 2000) = False := fun m => by simp only [eq_iff_iff, iff_false]; omega
 refine Rd.introF 2 2000 mix names (fn := Tryz.f55) Tryz.func55 rfl (fun f hf => rfl) fun m F hF hro W => ?_
 simp -implicitDefEqProofs only [Tryz.ntmps55, Tryz.results55, entL, Nat.reduceAdd, Nat.reduceSub]
 repeat' (first
  | simp -implicitDefEqProofs (maxSteps := 9999999) only [↓reduceIte, runsY, lstY, facts, Nat.reduceAdd, Nat.reduceLT, Nat.reduceMul, aop2_bin, aop3_bin, anil_m, isSlO_s, Option.map_none, aappM, xcells, List.flatMap_nil, or_true, Nat.add_assoc, *]
  | simp -implicitDefEqProofs (maxSteps := 9999999) (disch := first | assumption | omega) only [runsY, lstY, if_pos, if_neg, Nat.reduceAdd, Nat.reduceLT, RdK_at, frz0, frz, Nat.add_assoc, *])
 exact fun k b h => h
set_option maxRecDepth 100000 in
theorem cloneBa0 (hl : List (Nat × Blk)) : Rd Tryz.prog gl 55 [.sl 14 [] .none] (hget hl) (.sl 14 [] .none) := by
 refine Rd.introF 2 200 mix names (fn := Tryz.f55) Tryz.func55 rfl (fun f hf => rfl) fun m F hF hro W => ?_
 simp -implicitDefEqProofs only [Tryz.ntmps55, Tryz.results55, entL, Nat.reduceAdd, Nat.reduceSub]
 repeat' (first
  | simp -implicitDefEqProofs (maxSteps := 9999999) only [↓reduceIte, runsY, lstY, facts, aop2_bin, aop3_bin, anil_n, aop4_bin, emptySl_nil, isSlO_s, Option.map_none, *]
  | with_reducible refine sstep_stop ?_)
 refine OZ_both ?_ ?_
 all_goals repeat' (simp -implicitDefEqProofs (maxSteps := 9999999) only [↓reduceIte, runsY, lstY, facts, Nat.reduceAdd, Nat.reduceMul, RdK_at, frz0, frz, *])
 all_goals exact fun k b h => h
theorem cloneBa_rd (l : List (Ba)) (a n : Nat) (hl : l.length ≤ 1000000) (ha : a + n ≤ l.length) (q : Nat) (hq : q < 2000) : Rd Tryz.prog gl 55 [.msl q (a * 14) n 14] (hget [(q, .cells (l.flatMap Ba.cells))]) (.sl 14 (((l.drop a).take n).map Ba.av) .none) := by
 rcases Nat.eq_zero_or_pos n with hn | hn
 ·subst hn
  exact (cloneBa0 _).nilMsl
 ·exact cloneBaN l a n hl ha hn q hq
set_option maxRecDepth 100000 in
set_option maxHeartbeats 1000000 in
theorem cloneCeN (l : List (List Vo)) (a n : Nat) (hl : l.length ≤ 1000000) (ha : a + n ≤ l.length) (hn : 0 < n) (q : Nat) (hq : q < 2000) : Rd Tryz.prog gl 57 [.msl q (a) n 1] (hget [(q, .cells (l.flatMap ceC1))]) (.sl 1 (((l.drop a).take n).map cellAV) .none) := by
 have hfl := flCe l
 have hcut : List.take (n) (List.drop (a) (l.flatMap ceC1)) = ((l.drop a).take n).flatMap ceC1 := by have := drop_flat (c := ceC1) (k := 1) (fun _ => rfl) l a; have h2 := take_flat (c := ceC1) (k := 1) (fun _ => rfl) (l.drop a) n; rw [Nat.mul_one] at this h2; rw [this, h2]
 have hone : (((l.drop a).take n).flatMap ceC1).all AV.one = true := onCe _
 have hpure : (((l.drop a).take n).flatMap ceC1).all AV.pure = true := pureFlat (fun _ => rfl) _
 have hlen : ((l.drop a).take n).length = n := by rw [List.length_take, List.length_drop]; omega
 have hfl2 : (((l.drop a).take n).flatMap ceC1).length = n := by rw [flCe, hlen]
 have hch : chunks (!(Nat.beq 1 1)) 1 n (((l.drop a).take n).flatMap ceC1) = ((l.drop a).take n).map cellAV := by
  have := chunksOne (c := cellAV) ((l.drop a).take n)
  rw [hlen] at this
  rw [show ((l.drop a).take n).flatMap ceC1 = ((l.drop a).take n).map cellAV from flatOne _]
  exact this
 have hne : ∀ m r : Nat, (q = m + 2000 + r) = False := fun m r => by simp only [eq_iff_iff, iff_false]; omega
 have hne0 : ∀ m : Nat, (q = m + 2000) = False := fun m => by simp only [eq_iff_iff, iff_false]; omega
 refine Rd.introF 2 2000 mix names (fn := Tryz.f57) Tryz.func57 rfl (fun f hf => rfl) fun m F hF hro W => ?_
 simp -implicitDefEqProofs only [Tryz.ntmps57, Tryz.results57, entL, Nat.reduceAdd, Nat.reduceSub]
 repeat' (first
  | simp -implicitDefEqProofs (maxSteps := 9999999) only [↓reduceIte, runsY, lstY, facts, Nat.reduceAdd, Nat.reduceLT, aop2_bin, aop3_bin, anil_m, isSlO_s, Option.map_none, aappM, xcells, List.flatMap_nil, or_true, Nat.add_assoc, *]
  | simp -implicitDefEqProofs (maxSteps := 9999999) (disch := first | assumption | omega) only [runsY, lstY, if_pos, if_neg, Nat.reduceAdd, Nat.reduceLT, RdK_at, frz0, frz, Nat.add_assoc, *])
 exact fun k b h => h
set_option maxRecDepth 100000 in
theorem cloneCe0 (hl : List (Nat × Blk)) : Rd Tryz.prog gl 57 [.sl 1 [] .none] (hget hl) (.sl 1 [] .none) := by
 refine Rd.introF 2 200 mix names (fn := Tryz.f57) Tryz.func57 rfl (fun f hf => rfl) fun m F hF hro W => ?_
 simp -implicitDefEqProofs only [Tryz.ntmps57, Tryz.results57, entL, Nat.reduceAdd, Nat.reduceSub]
 repeat' (first
  | simp -implicitDefEqProofs (maxSteps := 9999999) only [↓reduceIte, runsY, lstY, facts, aop2_bin, aop3_bin, anil_n, aop4_bin, emptySl_nil, isSlO_s, Option.map_none, *]
  | with_reducible refine sstep_stop ?_)
 refine OZ_both ?_ ?_
 all_goals repeat' (simp -implicitDefEqProofs (maxSteps := 9999999) only [↓reduceIte, runsY, lstY, facts, Nat.reduceAdd, RdK_at, frz0, frz, *])
 all_goals exact fun k b h => h
theorem cloneCe_rd (l : List (List Vo)) (a n : Nat) (hl : l.length ≤ 1000000) (ha : a + n ≤ l.length) (q : Nat) (hq : q < 2000) : Rd Tryz.prog gl 57 [.msl q (a) n 1] (hget [(q, .cells (l.flatMap ceC1))]) (.sl 1 (((l.drop a).take n).map cellAV) .none) := by
 rcases Nat.eq_zero_or_pos n with hn | hn
 ·subst hn
  exact (cloneCe0 _).nilMsl
 ·exact cloneCeN l a n hl ha hn q hq
set_option maxRecDepth 100000 in
set_option maxHeartbeats 1000000 in
theorem cloneDyN (l : List (List Dy)) (a n : Nat) (hl : l.length ≤ 1000000) (ha : a + n ≤ l.length) (hn : 0 < n) (q : Nat) (hq : q < 2000) : Rd Tryz.prog gl 58 [.msl q (a) n 1] (hget [(q, .cells (l.flatMap dyC))]) (.sl 1 (((l.drop a).take n).map dynsAV) .none) := by
 have hfl := flDy l
 have hcut : List.take (n) (List.drop (a) (l.flatMap dyC)) = ((l.drop a).take n).flatMap dyC := by have := drop_flat (c := dyC) (k := 1) (fun _ => rfl) l a; have h2 := take_flat (c := dyC) (k := 1) (fun _ => rfl) (l.drop a) n; rw [Nat.mul_one] at this h2; rw [this, h2]
 have hone : (((l.drop a).take n).flatMap dyC).all AV.one = true := onDy _
 have hpure : (((l.drop a).take n).flatMap dyC).all AV.pure = true := pureFlat (fun _ => rfl) _
 have hlen : ((l.drop a).take n).length = n := by rw [List.length_take, List.length_drop]; omega
 have hfl2 : (((l.drop a).take n).flatMap dyC).length = n := by rw [flDy, hlen]
 have hch : chunks (!(Nat.beq 1 1)) 1 n (((l.drop a).take n).flatMap dyC) = ((l.drop a).take n).map dynsAV := by
  have := chunksOne (c := dynsAV) ((l.drop a).take n)
  rw [hlen] at this
  rw [show ((l.drop a).take n).flatMap dyC = ((l.drop a).take n).map dynsAV from flatOne _]
  exact this
 have hne : ∀ m r : Nat, (q = m + 2000 + r) = False := fun m r => by simp only [eq_iff_iff, iff_false]; omega
 have hne0 : ∀ m : Nat, (q = m + 2000) = False := fun m => by simp only [eq_iff_iff, iff_false]; omega
 refine Rd.introF 2 2000 mix names (fn := Tryz.f58) Tryz.func58 rfl (fun f hf => rfl) fun m F hF hro W => ?_
 simp -implicitDefEqProofs only [Tryz.ntmps58, Tryz.results58, entL, Nat.reduceAdd, Nat.reduceSub]
 repeat' (first
  | simp -implicitDefEqProofs (maxSteps := 9999999) only [↓reduceIte, runsY, lstY, facts, Nat.reduceAdd, Nat.reduceLT, aop2_bin, aop3_bin, anil_m, isSlO_s, Option.map_none, aappM, xcells, List.flatMap_nil, or_true, Nat.add_assoc, *]
  | simp -implicitDefEqProofs (maxSteps := 9999999) (disch := first | assumption | omega) only [runsY, lstY, if_pos, if_neg, Nat.reduceAdd, Nat.reduceLT, RdK_at, frz0, frz, Nat.add_assoc, *])
 exact fun k b h => h
set_option maxRecDepth 100000 in
theorem cloneDy0 (hl : List (Nat × Blk)) : Rd Tryz.prog gl 58 [.sl 1 [] .none] (hget hl) (.sl 1 [] .none) := by
 refine Rd.introF 2 200 mix names (fn := Tryz.f58) Tryz.func58 rfl (fun f hf => rfl) fun m F hF hro W => ?_
 simp -implicitDefEqProofs only [Tryz.ntmps58, Tryz.results58, entL, Nat.reduceAdd, Nat.reduceSub]
 repeat' (first
  | simp -implicitDefEqProofs (maxSteps := 9999999) only [↓reduceIte, runsY, lstY, facts, aop2_bin, aop3_bin, anil_n, aop4_bin, emptySl_nil, isSlO_s, Option.map_none, *]
  | with_reducible refine sstep_stop ?_)
 refine OZ_both ?_ ?_
 all_goals repeat' (simp -implicitDefEqProofs (maxSteps := 9999999) only [↓reduceIte, runsY, lstY, facts, Nat.reduceAdd, RdK_at, frz0, frz, *])
 all_goals exact fun k b h => h
theorem cloneDy_rd (l : List (List Dy)) (a n : Nat) (hl : l.length ≤ 1000000) (ha : a + n ≤ l.length) (q : Nat) (hq : q < 2000) : Rd Tryz.prog gl 58 [.msl q (a) n 1] (hget [(q, .cells (l.flatMap dyC))]) (.sl 1 (((l.drop a).take n).map dynsAV) .none) := by
 rcases Nat.eq_zero_or_pos n with hn | hn
 ·subst hn
  exact (cloneDy0 _).nilMsl
 ·exact cloneDyN l a n hl ha hn q hq
end Go.Proofs.Pv
namespace Go.Proofs.Pv
open Go Go.Proofs
set_option linter.unusedSimpArgs false
set_option linter.unusedVariables false
def lowK (n : Nat) : Nat → Option Nat := fun k => if k < n then some k else none
theorem lowK_at {n k : Nat} (h : k < n) : lowK n k = some k := if_pos h
theorem RenOk.lowOk {n : Nat} {marks : List Nat} (h : (marks.all fun k => decide (k < n)) = true) : RenOk n n (lowK n) (lowK n) marks := by
 refine ⟨fun k k' h => ?_, fun k h => lowK_at h, fun k' h => if_neg h, fun k hk => by simpa using List.all_eq_true.1 h k hk⟩
 unfold lowK at h
 split at h
 ·rename_i h1
  simp only [Option.some.injEq] at h
  subst h; exact lowK_at h1
 ·cases h
theorem hren2 (m : Nat) {X : List AV} (hX : ∀ f : Nat → Option Nat, (∀ k, k < 100 → f k = some k) → X.map (AV.ren f) = X) : HRen (lowK (m + 221)) [(m + 200, .cells [.ptr 34 0]), (34, .cells X)] [(m + 200, .cells [.ptr 34 0]), (34, .cells X)] := by
 refine HRen.cons (cs := [.ptr 34 0]) (m + 200) (by simp [hget]) (lowK_at (by omega)) ?_ (HRen.cons (cs := X) 34 ?_ (lowK_at (by omega)) (hX _ fun k hk => lowK_at (by omega)) HRen.nil)
 ·simp only [List.map_cons, List.map_nil, AV.ren, lowK_at (show 34 < m + 221 by omega)]
 ·simp only [hget]
  rw [if_neg (by omega)]; rfl
theorem getVos {l : List (List (List Vo))} {i : Nat} (h : i < l.length) : l[i]? = some l[i] := List.getElem?_eq_getElem h
theorem getDys {l : List (List (List Dy))} {i : Nat} (h : i < l.length) : l[i]? = some l[i] := List.getElem?_eq_getElem h
def fitB {α : Type} (np nb : Nat) (l : List (List α)) : Bool := decide (((l.length : Nat) : Int) = ((np : Nat) : Int)) && !(l.any fun x => decide (((x.length : Nat) : Int) ≠ ((nb : Nat) : Int)))
theorem keep28 (m : Nat) {X : List AV} {bx : Blk} : ∀ k b, hget [(34, .cells X)] k = some b → hget [(m + 200, bx), (34, .cells X)] k = some b := by
 intro k b h
 simp only [hget] at h ⊢
 split at h
 ·rename_i e
  subst e
  rw [if_neg (by omega), if_pos rfl]; exact h
 ·cases h
theorem fitB_hit {α : Type} {np nb i : Nat} {l : List (List α)} (hi : i < l.length) (h : l[i].length ≠ nb) : fitB np nb l = false := by
 have : (l.any fun x => decide (((x.length : Nat) : Int) ≠ ((nb : Nat) : Int))) = true := List.any_eq_true.2 ⟨l[i], List.getElem_mem hi, by simp only [ne_eq, decide_eq_true_eq]; omega⟩
 rw [fitB, this]; simp
theorem fitB_all {α : Type} {np nb : Nat} {l : List (List α)} (h0 : l.length = np) (h : ∀ j (hj : j < l.length), l[j].length = nb) : fitB np nb l = true := by
 have : (l.any fun x => decide (((x.length : Nat) : Int) ≠ ((nb : Nat) : Int))) = false := by
  rw [List.any_eq_false]
  intro x hx
  obtain ⟨j, hj, rfl⟩ := List.mem_iff_getElem.1 hx
  have := h j hj
  simp only [ne_eq, decide_eq_true_eq]; omega
 rw [fitB, this, h0]; simp
theorem fitB_ne {α : Type} {np nb : Nat} {l : List (List α)} (h0 : l.length ≠ np) : fitB np nb l = false := by
 rw [fitB, decide_eq_false (by omega)]; rfl
set_option maxRecDepth 100000 in
set_option maxHeartbeats 4000000 in
theorem fitsVo_rd (t : ByteArray) (B kd p b v a n ev : AV) (np : Nat) (l : List (List (List Vo))) (ob : List Ba) (rest : List AV) (hl : l.length ≤ 1000000) (hX : ∀ f : Nat → Option Nat, (∀ k, k < 100 → f k = some k) → (.str t :: B :: .msl 20 0 np 5 :: kd :: p :: b :: v :: a :: n :: ev :: .sl 14 (ob.map Ba.av) .none :: rest : List AV).map (AV.ren f) = .str t :: B :: .msl 20 0 np 5 :: kd :: p :: b :: v :: a :: n :: ev :: .sl 14 (ob.map Ba.av) .none :: rest) : Rd Tryz.prog gl 50 [.ptr 34 0, .sl 1 (l.map cellsAV) .none] (hget [(34, .cells (.str t :: B :: .msl 20 0 np 5 :: kd :: p :: b :: v :: a :: n :: ev :: .sl 14 (ob.map Ba.av) .none :: rest))]) (.bool (fitB np ob.length l)) := by
 have hr1 : ∀ m : Nat, m + 200 < m + 221 := fun m => by omega
 have hsm : ∀ m : Nat, 34 < m + 221 := fun m => by omega
 refine Rd.introZ 5 200 mix names (fn := Tryz.f50) Tryz.func50 rfl (fun f hf => by rfl) fun m F hF hro W => ?_
 simp -implicitDefEqProofs only [Tryz.ntmps50, Tryz.results50, entL, Nat.reduceAdd, Nat.reduceSub]
 repeat' (first
  | simp -implicitDefEqProofs (maxSteps := 9999999) only [↓reduceIte, runsY, lstY, facts, Nat.reduceAdd, Nat.reduceEqDiff, Nat.reduceLeDiff, RdK_at, Nat.add_assoc, *]
  | ((with_reducible refine sstep_split (fun _ => ?_) (fun _ => ?_)) <;> try omega))
 rotate_left
 ·rename_i h1
  exact ⟨by rw [fitB_ne (by simp only [beq_eq_false_iff_ne, ne_eq] at h1; omega)], fun k b h => by first | exact keep28 m k b h | exact h⟩
 rename_i h1
 have hlen : np = l.length := by simp only [beq_iff_eq] at h1; omega
 subst hlen
 clear h1
 refine OZ_at 88 ?_
 (refine OZ_inline hF hro mix names 4 (fn := Tryz.f88) Tryz.func88 rfl ?_; simp -implicitDefEqProofs only [Tryz.ntmps88, Tryz.results88, entL, Nat.reduceAdd, Nat.reduceSub])
 repeat' (simp -implicitDefEqProofs (maxSteps := 9999999) only [runsY, lstY, Nat.reduceAdd, Nat.add_assoc, *])
 refine OZ_at 124 ?_
 (refine OZ_inline hF hro mix names 3 (fn := Tryz.f124) Tryz.func124 rfl ?_; simp -implicitDefEqProofs only [Tryz.ntmps124, Tryz.results124, entL, Nat.reduceAdd, Nat.reduceSub])
 repeat' (simp -implicitDefEqProofs (maxSteps := 9999999) only [↓reduceIte, runsY, lstY, facts, Nat.reduceAdd, Int.reduceNeg, Nat.add_assoc, *])
 refine OZ_forR [true, true, false, false, false, false, false, true, true, false, false, false, false, false, false, false, false, false, false] (m + 221) l.length (fun i (_ : Unit) => ⟨[.sl 1 (l.map cellsAV) .none, .fn 89 [] [.ptr (m + 200) 0], .ud, .ud, .ud, .ud, .ud, .int .i64 (l.length : Nat), .int .i64 (i : Nat), .ud, .ud, .ud, .ud, .ud, .ud, .ud, .ud, .ud, .ud], []⟩) (fun i _ => ⟨(m + 200, .cells [.ptr 34 0]) :: [(34, .cells (.str t :: B :: .msl 20 0 l.length 5 :: kd :: p :: b :: v :: a :: n :: ev :: .sl 14 (ob.map Ba.av) .none :: rest))], m + 221⟩) (fun i _ => ∀ j (hj : j < l.length), j < i → l[j].length = ob.length) ⟨(), by omega, lowK (m + 221), lowK (m + 221), RenOk.lowOk rfl, hren2 _ hX, rfl, by simp [Fr.renF, fgtL, AV.ren, AV.renL, lowK, hsm, hr1]⟩ ?_
 rintro i x hi hQ
 rcases Nat.lt_or_ge i l.length with hlt | hge
 ·repeat' (first
  | simp -implicitDefEqProofs (maxSteps := 9999999) only [↓reduceIte, runsY, lstY, facts, Nat.reduceAdd, Int.reduceGE, Int.reduceNeg, RdK_at, Nat.add_assoc, getVos, cellsAV, loopR_exit, *]
  | ((with_reducible refine condK_dec (fun _ => ?_) (fun _ => ?_)) <;> try omega))
  refine OZ_at 89 ?_
  (refine OZ_inline hF hro mix names 1 (fn := Tryz.f89) Tryz.func89 rfl ?_; simp -implicitDefEqProofs only [Tryz.ntmps89, Tryz.results89, entL, Nat.reduceAdd, Nat.reduceSub])
  repeat' (first
  | simp -implicitDefEqProofs (maxSteps := 9999999) only [↓reduceIte, runsY, lstY, facts, Nat.reduceAdd, Nat.reduceEqDiff, Nat.reduceLeDiff, Int.reduceNeg, RdK_at, Nat.add_assoc, loopR_ret, *]
  | simp -implicitDefEqProofs (maxSteps := 9999999) (disch := first | assumption | omega) only [Int.reduceNeg, wrap_in, *]
  | ((with_reducible refine condK_split (fun _ => ?_) (fun _ => ?_)) <;> try omega))
  ·rename_i h1
   exact ⟨by rw [fitB_hit hlt (by simp only [bne_iff_ne, ne_eq] at h1; omega)], keep28 m⟩
  ·rename_i h1
   refine OZ_nextR i () hlt rfl (fun j hj hji => ?_) (lowK (m + 221)) (lowK (m + 221)) (RenOk.lowOk rfl) (hren2 _ hX) rfl (by simp [Fr.renF, fgtL, AV.ren, AV.renL, lowK, hsm, hr1])
   rcases Nat.lt_or_ge j i with h2 | h2
   ·exact hQ j hj h2
   ·have : j = i := by omega
    subst this
    simp only [bne_eq_false_iff_eq] at h1
    omega
 ·repeat' (first
  | simp -implicitDefEqProofs (maxSteps := 9999999) only [↓reduceIte, runsY, lstY, facts, Nat.reduceAdd, Int.reduceGE, Int.reduceNeg, RdK_at, Nat.add_assoc, loopR_exit, *]
  | simp -implicitDefEqProofs (maxSteps := 9999999) (disch := first | assumption | omega) only [Int.reduceNeg, *]
  | ((with_reducible refine condK_dec (fun _ => ?_) (fun _ => ?_)) <;> try omega))
  exact ⟨by rw [fitB_all rfl (fun j hj => hQ j hj (by omega))], keep28 m⟩
set_option maxRecDepth 100000 in
set_option maxHeartbeats 4000000 in
theorem fitsDy_rd (t : ByteArray) (B kd p b v a n ev : AV) (np : Nat) (l : List (List (List Dy))) (ob : List Ba) (rest : List AV) (hl : l.length ≤ 1000000) (hX : ∀ f : Nat → Option Nat, (∀ k, k < 100 → f k = some k) → (.str t :: B :: .msl 20 0 np 5 :: kd :: p :: b :: v :: a :: n :: ev :: .sl 14 (ob.map Ba.av) .none :: rest : List AV).map (AV.ren f) = .str t :: B :: .msl 20 0 np 5 :: kd :: p :: b :: v :: a :: n :: ev :: .sl 14 (ob.map Ba.av) .none :: rest) : Rd Tryz.prog gl 51 [.ptr 34 0, .sl 1 (l.map dynssAV) .none] (hget [(34, .cells (.str t :: B :: .msl 20 0 np 5 :: kd :: p :: b :: v :: a :: n :: ev :: .sl 14 (ob.map Ba.av) .none :: rest))]) (.bool (fitB np ob.length l)) := by
 have hr1 : ∀ m : Nat, m + 200 < m + 221 := fun m => by omega
 have hsm : ∀ m : Nat, 34 < m + 221 := fun m => by omega
 refine Rd.introZ 5 200 mix names (fn := Tryz.f51) Tryz.func51 rfl (fun f hf => by rfl) fun m F hF hro W => ?_
 simp -implicitDefEqProofs only [Tryz.ntmps51, Tryz.results51, entL, Nat.reduceAdd, Nat.reduceSub]
 repeat' (first
  | simp -implicitDefEqProofs (maxSteps := 9999999) only [↓reduceIte, runsY, lstY, facts, Nat.reduceAdd, Nat.reduceEqDiff, Nat.reduceLeDiff, RdK_at, Nat.add_assoc, *]
  | ((with_reducible refine sstep_split (fun _ => ?_) (fun _ => ?_)) <;> try omega))
 rotate_left
 ·rename_i h1
  exact ⟨by rw [fitB_ne (by simp only [beq_eq_false_iff_ne, ne_eq] at h1; omega)], fun k b h => by first | exact keep28 m k b h | exact h⟩
 rename_i h1
 have hlen : np = l.length := by simp only [beq_iff_eq] at h1; omega
 subst hlen
 clear h1
 refine OZ_at 90 ?_
 (refine OZ_inline hF hro mix names 4 (fn := Tryz.f90) Tryz.func90 rfl ?_; simp -implicitDefEqProofs only [Tryz.ntmps90, Tryz.results90, entL, Nat.reduceAdd, Nat.reduceSub])
 repeat' (simp -implicitDefEqProofs (maxSteps := 9999999) only [runsY, lstY, Nat.reduceAdd, Nat.add_assoc, *])
 refine OZ_at 125 ?_
 (refine OZ_inline hF hro mix names 3 (fn := Tryz.f125) Tryz.func125 rfl ?_; simp -implicitDefEqProofs only [Tryz.ntmps125, Tryz.results125, entL, Nat.reduceAdd, Nat.reduceSub])
 repeat' (simp -implicitDefEqProofs (maxSteps := 9999999) only [↓reduceIte, runsY, lstY, facts, Nat.reduceAdd, Int.reduceNeg, Nat.add_assoc, *])
 refine OZ_forR [true, true, false, false, false, false, false, true, true, false, false, false, false, false, false, false, false, false, false] (m + 221) l.length (fun i (_ : Unit) => ⟨[.sl 1 (l.map dynssAV) .none, .fn 91 [] [.ptr (m + 200) 0], .ud, .ud, .ud, .ud, .ud, .int .i64 (l.length : Nat), .int .i64 (i : Nat), .ud, .ud, .ud, .ud, .ud, .ud, .ud, .ud, .ud, .ud], []⟩) (fun i _ => ⟨(m + 200, .cells [.ptr 34 0]) :: [(34, .cells (.str t :: B :: .msl 20 0 l.length 5 :: kd :: p :: b :: v :: a :: n :: ev :: .sl 14 (ob.map Ba.av) .none :: rest))], m + 221⟩) (fun i _ => ∀ j (hj : j < l.length), j < i → l[j].length = ob.length) ⟨(), by omega, lowK (m + 221), lowK (m + 221), RenOk.lowOk rfl, hren2 _ hX, rfl, by simp [Fr.renF, fgtL, AV.ren, AV.renL, lowK, hsm, hr1]⟩ ?_
 rintro i x hi hQ
 rcases Nat.lt_or_ge i l.length with hlt | hge
 ·repeat' (first
  | simp -implicitDefEqProofs (maxSteps := 9999999) only [↓reduceIte, runsY, lstY, facts, Nat.reduceAdd, Int.reduceGE, Int.reduceNeg, RdK_at, Nat.add_assoc, getDys, dynssAV, loopR_exit, *]
  | ((with_reducible refine condK_dec (fun _ => ?_) (fun _ => ?_)) <;> try omega))
  refine OZ_at 91 ?_
  (refine OZ_inline hF hro mix names 1 (fn := Tryz.f91) Tryz.func91 rfl ?_; simp -implicitDefEqProofs only [Tryz.ntmps91, Tryz.results91, entL, Nat.reduceAdd, Nat.reduceSub])
  repeat' (first
  | simp -implicitDefEqProofs (maxSteps := 9999999) only [↓reduceIte, runsY, lstY, facts, Nat.reduceAdd, Nat.reduceEqDiff, Nat.reduceLeDiff, Int.reduceNeg, RdK_at, Nat.add_assoc, loopR_ret, *]
  | simp -implicitDefEqProofs (maxSteps := 9999999) (disch := first | assumption | omega) only [Int.reduceNeg, wrap_in, *]
  | ((with_reducible refine condK_split (fun _ => ?_) (fun _ => ?_)) <;> try omega))
  ·rename_i h1
   exact ⟨by rw [fitB_hit hlt (by simp only [bne_iff_ne, ne_eq] at h1; omega)], keep28 m⟩
  ·rename_i h1
   refine OZ_nextR i () hlt rfl (fun j hj hji => ?_) (lowK (m + 221)) (lowK (m + 221)) (RenOk.lowOk rfl) (hren2 _ hX) rfl (by simp [Fr.renF, fgtL, AV.ren, AV.renL, lowK, hsm, hr1])
   rcases Nat.lt_or_ge j i with h2 | h2
   ·exact hQ j hj h2
   ·have : j = i := by omega
    subst this
    simp only [bne_eq_false_iff_eq] at h1
    omega
 ·repeat' (first
  | simp -implicitDefEqProofs (maxSteps := 9999999) only [↓reduceIte, runsY, lstY, facts, Nat.reduceAdd, Int.reduceGE, Int.reduceNeg, RdK_at, Nat.add_assoc, loopR_exit, *]
  | simp -implicitDefEqProofs (maxSteps := 9999999) (disch := first | assumption | omega) only [Int.reduceNeg, *]
  | ((with_reducible refine condK_dec (fun _ => ?_) (fun _ => ?_)) <;> try omega))
  exact ⟨by rw [fitB_all rfl (fun j hj => hQ j hj (by omega))], keep28 m⟩
theorem hren28 (m : Nat) {X : List AV} (hX : ∀ f : Nat → Option Nat, (∀ k, k < 100 → f k = some k) → X.map (AV.ren f) = X) : HRen (lowK (m + 221)) [(m + 200, .cells [.ptr 28 0]), (28, .cells X)] [(m + 200, .cells [.ptr 28 0]), (28, .cells X)] := by
 refine HRen.cons (cs := [.ptr 28 0]) (m + 200) (by simp [hget]) (lowK_at (by omega)) ?_ (HRen.cons (cs := X) 28 ?_ (lowK_at (by omega)) (hX _ fun k hk => lowK_at (by omega)) HRen.nil)
 ·simp only [List.map_cons, List.map_nil, AV.ren, lowK_at (show 28 < m + 221 by omega)]
 ·simp only [hget]
  rw [if_neg (by omega)]; rfl
theorem keep28b (m : Nat) {X : List AV} {bx : Blk} : ∀ k b, hget [(28, .cells X)] k = some b → hget [(m + 200, bx), (28, .cells X)] k = some b := by
 intro k b h
 simp only [hget] at h ⊢
 split at h
 ·rename_i e
  subst e
  rw [if_neg (by omega), if_pos rfl]; exact h
 ·cases h
set_option maxRecDepth 100000 in
set_option maxHeartbeats 4000000 in
theorem fitsVo28_rd (t : ByteArray) (B kd p b v a n ev : AV) (np : Nat) (l : List (List (List Vo))) (ob : List Ba) (rest : List AV) (hl : l.length ≤ 1000000) (hX : ∀ f : Nat → Option Nat, (∀ k, k < 100 → f k = some k) → (.str t :: B :: .msl 20 0 np 5 :: kd :: p :: b :: v :: a :: n :: ev :: .sl 14 (ob.map Ba.av) .none :: rest : List AV).map (AV.ren f) = .str t :: B :: .msl 20 0 np 5 :: kd :: p :: b :: v :: a :: n :: ev :: .sl 14 (ob.map Ba.av) .none :: rest) : Rd Tryz.prog gl 50 [.ptr 28 0, .sl 1 (l.map cellsAV) .none] (hget [(28, .cells (.str t :: B :: .msl 20 0 np 5 :: kd :: p :: b :: v :: a :: n :: ev :: .sl 14 (ob.map Ba.av) .none :: rest))]) (.bool (fitB np ob.length l)) := by
 have hr1 : ∀ m : Nat, m + 200 < m + 221 := fun m => by omega
 have hsm : ∀ m : Nat, 28 < m + 221 := fun m => by omega
 refine Rd.introZ 5 200 mix names (fn := Tryz.f50) Tryz.func50 rfl (fun f hf => by rfl) fun m F hF hro W => ?_
 simp -implicitDefEqProofs only [Tryz.ntmps50, Tryz.results50, entL, Nat.reduceAdd, Nat.reduceSub]
 repeat' (first
  | simp -implicitDefEqProofs (maxSteps := 9999999) only [↓reduceIte, runsY, lstY, facts, Nat.reduceAdd, Nat.reduceEqDiff, Nat.reduceLeDiff, RdK_at, Nat.add_assoc, *]
  | ((with_reducible refine sstep_split (fun _ => ?_) (fun _ => ?_)) <;> try omega))
 rotate_left
 ·rename_i h1
  exact ⟨by rw [fitB_ne (by simp only [beq_eq_false_iff_ne, ne_eq] at h1; omega)], fun k b h => by first | exact keep28b m k b h | exact h⟩
 rename_i h1
 have hlen : np = l.length := by simp only [beq_iff_eq] at h1; omega
 subst hlen
 clear h1
 refine OZ_at 88 ?_
 (refine OZ_inline hF hro mix names 4 (fn := Tryz.f88) Tryz.func88 rfl ?_; simp -implicitDefEqProofs only [Tryz.ntmps88, Tryz.results88, entL, Nat.reduceAdd, Nat.reduceSub])
 repeat' (simp -implicitDefEqProofs (maxSteps := 9999999) only [runsY, lstY, Nat.reduceAdd, Nat.add_assoc, *])
 refine OZ_at 124 ?_
 (refine OZ_inline hF hro mix names 3 (fn := Tryz.f124) Tryz.func124 rfl ?_; simp -implicitDefEqProofs only [Tryz.ntmps124, Tryz.results124, entL, Nat.reduceAdd, Nat.reduceSub])
 repeat' (simp -implicitDefEqProofs (maxSteps := 9999999) only [↓reduceIte, runsY, lstY, facts, Nat.reduceAdd, Int.reduceNeg, Nat.add_assoc, *])
 refine OZ_forR [true, true, false, false, false, false, false, true, true, false, false, false, false, false, false, false, false, false, false] (m + 221) l.length (fun i (_ : Unit) => ⟨[.sl 1 (l.map cellsAV) .none, .fn 89 [] [.ptr (m + 200) 0], .ud, .ud, .ud, .ud, .ud, .int .i64 (l.length : Nat), .int .i64 (i : Nat), .ud, .ud, .ud, .ud, .ud, .ud, .ud, .ud, .ud, .ud], []⟩) (fun i _ => ⟨(m + 200, .cells [.ptr 28 0]) :: [(28, .cells (.str t :: B :: .msl 20 0 l.length 5 :: kd :: p :: b :: v :: a :: n :: ev :: .sl 14 (ob.map Ba.av) .none :: rest))], m + 221⟩) (fun i _ => ∀ j (hj : j < l.length), j < i → l[j].length = ob.length) ⟨(), by omega, lowK (m + 221), lowK (m + 221), RenOk.lowOk rfl, hren28 _ hX, rfl, by simp [Fr.renF, fgtL, AV.ren, AV.renL, lowK, hsm, hr1]⟩ ?_
 rintro i x hi hQ
 rcases Nat.lt_or_ge i l.length with hlt | hge
 ·repeat' (first
  | simp -implicitDefEqProofs (maxSteps := 9999999) only [↓reduceIte, runsY, lstY, facts, Nat.reduceAdd, Int.reduceGE, Int.reduceNeg, RdK_at, Nat.add_assoc, getVos, cellsAV, loopR_exit, *]
  | ((with_reducible refine condK_dec (fun _ => ?_) (fun _ => ?_)) <;> try omega))
  refine OZ_at 89 ?_
  (refine OZ_inline hF hro mix names 1 (fn := Tryz.f89) Tryz.func89 rfl ?_; simp -implicitDefEqProofs only [Tryz.ntmps89, Tryz.results89, entL, Nat.reduceAdd, Nat.reduceSub])
  repeat' (first
  | simp -implicitDefEqProofs (maxSteps := 9999999) only [↓reduceIte, runsY, lstY, facts, Nat.reduceAdd, Nat.reduceEqDiff, Nat.reduceLeDiff, Int.reduceNeg, RdK_at, Nat.add_assoc, loopR_ret, *]
  | simp -implicitDefEqProofs (maxSteps := 9999999) (disch := first | assumption | omega) only [Int.reduceNeg, wrap_in, *]
  | ((with_reducible refine condK_split (fun _ => ?_) (fun _ => ?_)) <;> try omega))
  ·rename_i h1
   exact ⟨by rw [fitB_hit hlt (by simp only [bne_iff_ne, ne_eq] at h1; omega)], keep28b m⟩
  ·rename_i h1
   refine OZ_nextR i () hlt rfl (fun j hj hji => ?_) (lowK (m + 221)) (lowK (m + 221)) (RenOk.lowOk rfl) (hren28 _ hX) rfl (by simp [Fr.renF, fgtL, AV.ren, AV.renL, lowK, hsm, hr1])
   rcases Nat.lt_or_ge j i with h2 | h2
   ·exact hQ j hj h2
   ·have : j = i := by omega
    subst this
    simp only [bne_eq_false_iff_eq] at h1
    omega
 ·repeat' (first
  | simp -implicitDefEqProofs (maxSteps := 9999999) only [↓reduceIte, runsY, lstY, facts, Nat.reduceAdd, Int.reduceGE, Int.reduceNeg, RdK_at, Nat.add_assoc, loopR_exit, *]
  | simp -implicitDefEqProofs (maxSteps := 9999999) (disch := first | assumption | omega) only [Int.reduceNeg, *]
  | ((with_reducible refine condK_dec (fun _ => ?_) (fun _ => ?_)) <;> try omega))
  exact ⟨by rw [fitB_all rfl (fun j hj => hQ j hj (by omega))], keep28b m⟩
set_option maxRecDepth 100000 in
set_option maxHeartbeats 4000000 in
theorem fitsDy28_rd (t : ByteArray) (B kd p b v a n ev : AV) (np : Nat) (l : List (List (List Dy))) (ob : List Ba) (rest : List AV) (hl : l.length ≤ 1000000) (hX : ∀ f : Nat → Option Nat, (∀ k, k < 100 → f k = some k) → (.str t :: B :: .msl 20 0 np 5 :: kd :: p :: b :: v :: a :: n :: ev :: .sl 14 (ob.map Ba.av) .none :: rest : List AV).map (AV.ren f) = .str t :: B :: .msl 20 0 np 5 :: kd :: p :: b :: v :: a :: n :: ev :: .sl 14 (ob.map Ba.av) .none :: rest) : Rd Tryz.prog gl 51 [.ptr 28 0, .sl 1 (l.map dynssAV) .none] (hget [(28, .cells (.str t :: B :: .msl 20 0 np 5 :: kd :: p :: b :: v :: a :: n :: ev :: .sl 14 (ob.map Ba.av) .none :: rest))]) (.bool (fitB np ob.length l)) := by
 have hr1 : ∀ m : Nat, m + 200 < m + 221 := fun m => by omega
 have hsm : ∀ m : Nat, 28 < m + 221 := fun m => by omega
 refine Rd.introZ 5 200 mix names (fn := Tryz.f51) Tryz.func51 rfl (fun f hf => by rfl) fun m F hF hro W => ?_
 simp -implicitDefEqProofs only [Tryz.ntmps51, Tryz.results51, entL, Nat.reduceAdd, Nat.reduceSub]
 repeat' (first
  | simp -implicitDefEqProofs (maxSteps := 9999999) only [↓reduceIte, runsY, lstY, facts, Nat.reduceAdd, Nat.reduceEqDiff, Nat.reduceLeDiff, RdK_at, Nat.add_assoc, *]
  | ((with_reducible refine sstep_split (fun _ => ?_) (fun _ => ?_)) <;> try omega))
 rotate_left
 ·rename_i h1
  exact ⟨by rw [fitB_ne (by simp only [beq_eq_false_iff_ne, ne_eq] at h1; omega)], fun k b h => by first | exact keep28b m k b h | exact h⟩
 rename_i h1
 have hlen : np = l.length := by simp only [beq_iff_eq] at h1; omega
 subst hlen
 clear h1
 refine OZ_at 90 ?_
 (refine OZ_inline hF hro mix names 4 (fn := Tryz.f90) Tryz.func90 rfl ?_; simp -implicitDefEqProofs only [Tryz.ntmps90, Tryz.results90, entL, Nat.reduceAdd, Nat.reduceSub])
 repeat' (simp -implicitDefEqProofs (maxSteps := 9999999) only [runsY, lstY, Nat.reduceAdd, Nat.add_assoc, *])
 refine OZ_at 125 ?_
 (refine OZ_inline hF hro mix names 3 (fn := Tryz.f125) Tryz.func125 rfl ?_; simp -implicitDefEqProofs only [Tryz.ntmps125, Tryz.results125, entL, Nat.reduceAdd, Nat.reduceSub])
 repeat' (simp -implicitDefEqProofs (maxSteps := 9999999) only [↓reduceIte, runsY, lstY, facts, Nat.reduceAdd, Int.reduceNeg, Nat.add_assoc, *])
 refine OZ_forR [true, true, false, false, false, false, false, true, true, false, false, false, false, false, false, false, false, false, false] (m + 221) l.length (fun i (_ : Unit) => ⟨[.sl 1 (l.map dynssAV) .none, .fn 91 [] [.ptr (m + 200) 0], .ud, .ud, .ud, .ud, .ud, .int .i64 (l.length : Nat), .int .i64 (i : Nat), .ud, .ud, .ud, .ud, .ud, .ud, .ud, .ud, .ud, .ud], []⟩) (fun i _ => ⟨(m + 200, .cells [.ptr 28 0]) :: [(28, .cells (.str t :: B :: .msl 20 0 l.length 5 :: kd :: p :: b :: v :: a :: n :: ev :: .sl 14 (ob.map Ba.av) .none :: rest))], m + 221⟩) (fun i _ => ∀ j (hj : j < l.length), j < i → l[j].length = ob.length) ⟨(), by omega, lowK (m + 221), lowK (m + 221), RenOk.lowOk rfl, hren28 _ hX, rfl, by simp [Fr.renF, fgtL, AV.ren, AV.renL, lowK, hsm, hr1]⟩ ?_
 rintro i x hi hQ
 rcases Nat.lt_or_ge i l.length with hlt | hge
 ·repeat' (first
  | simp -implicitDefEqProofs (maxSteps := 9999999) only [↓reduceIte, runsY, lstY, facts, Nat.reduceAdd, Int.reduceGE, Int.reduceNeg, RdK_at, Nat.add_assoc, getDys, dynssAV, loopR_exit, *]
  | ((with_reducible refine condK_dec (fun _ => ?_) (fun _ => ?_)) <;> try omega))
  refine OZ_at 91 ?_
  (refine OZ_inline hF hro mix names 1 (fn := Tryz.f91) Tryz.func91 rfl ?_; simp -implicitDefEqProofs only [Tryz.ntmps91, Tryz.results91, entL, Nat.reduceAdd, Nat.reduceSub])
  repeat' (first
  | simp -implicitDefEqProofs (maxSteps := 9999999) only [↓reduceIte, runsY, lstY, facts, Nat.reduceAdd, Nat.reduceEqDiff, Nat.reduceLeDiff, Int.reduceNeg, RdK_at, Nat.add_assoc, loopR_ret, *]
  | simp -implicitDefEqProofs (maxSteps := 9999999) (disch := first | assumption | omega) only [Int.reduceNeg, wrap_in, *]
  | ((with_reducible refine condK_split (fun _ => ?_) (fun _ => ?_)) <;> try omega))
  ·rename_i h1
   exact ⟨by rw [fitB_hit hlt (by simp only [bne_iff_ne, ne_eq] at h1; omega)], keep28b m⟩
  ·rename_i h1
   refine OZ_nextR i () hlt rfl (fun j hj hji => ?_) (lowK (m + 221)) (lowK (m + 221)) (RenOk.lowOk rfl) (hren28 _ hX) rfl (by simp [Fr.renF, fgtL, AV.ren, AV.renL, lowK, hsm, hr1])
   rcases Nat.lt_or_ge j i with h2 | h2
   ·exact hQ j hj h2
   ·have : j = i := by omega
    subst this
    simp only [bne_eq_false_iff_eq] at h1
    omega
 ·repeat' (first
  | simp -implicitDefEqProofs (maxSteps := 9999999) only [↓reduceIte, runsY, lstY, facts, Nat.reduceAdd, Int.reduceGE, Int.reduceNeg, RdK_at, Nat.add_assoc, loopR_exit, *]
  | simp -implicitDefEqProofs (maxSteps := 9999999) (disch := first | assumption | omega) only [Int.reduceNeg, *]
  | ((with_reducible refine condK_dec (fun _ => ?_) (fun _ => ?_)) <;> try omega))
  exact ⟨by rw [fitB_all rfl (fun j hj => hQ j hj (by omega))], keep28b m⟩
end Go.Proofs.Pv
