/-
  slices.Insert, Delete and Clone at lists of bars, of cells, of dynamics, among a score's blocks.
  Small lemmas on the keys of blocks, and on calls that look.
  Conditions: none but those that each statement names.
-/
import Derived.Test.YtiikpmhjckdpgaaGreatDoorC10a
import Derived.Test.YtiikpmhjckdpgaaGreatDoorC09l
import Derived.Test.YtiikpmhjckdpgaaGreatDoorC10i
import Derived.Test.YtiikpmhjckdpgaaGreatDoorC10d
namespace Go.Proofs.Pv
open Go Go.Proofs
set_option linter.unusedSimpArgs false
set_option linter.unusedVariables false
def insL {α : Type} (l es : List α) (a : Nat) : List α := l.take a ++ es ++ l.drop a
def delL {α : Type} (l : List α) (a d : Nat) : List α := l.take a ++ l.drop (a + d)
theorem insL_len {α : Type} {l es : List α} {a : Nat} (h : a ≤ l.length) : (insL l es a).length = l.length + es.length := by simp only [insL, List.length_append, List.length_take, List.length_drop]; omega
theorem delL_len {α : Type} {l : List α} {a d : Nat} (h : a + d ≤ l.length) : (delL l a d).length = l.length - d := by simp only [delL, List.length_append, List.length_take, List.length_drop]; omega
theorem Rd.call {P : Program} {G : Nat → Option (List AV)} {F : Fence} (hF : Free F) {W : World} {f : FuncId} {args : List AV} {hr : Hp} {v : AV} (rd : Rd P G f args hr v) {st : St} {K : AV → St → Prop} (hs : ∀ k b, hr k = some b → st.hp k = some b) (hK : K v st) : CallOk F P G W f args K st := by
 intro M w vs inv hargs
 obtain ⟨h1, h2⟩ := rd F hF W _ _ M w vs st.nx (fun k hk => hk) hs inv hargs
 refine ⟨h1, fun n => (h2 n).mono ?_⟩
 rintro e w' ⟨M', u, rfl, h3, h4, h5⟩
 exact ⟨M', u, v, st, rfl, h3, h4, h5, hK⟩
section
variable {F : Fence} {W : World} {f : FuncId} {n n' k m q r nx n0 a : Nat} {C0 C1 C2 : List AV} {rest : List AV}
theorem wide2_call (hF : Free F) (hro : F.round = none) (wd : Wide Tryz.prog gl f [.msl 0 0 n k, .int .i64 (a : Nat), .msl 1 0 m k] [(0, .cells C0), (1, .cells C1)] 2 (.msl 0 0 n' k) [(0, C2)] 1) (hqr : q ≠ r) (r0 : ∀ f, C0.map (AV.ren f) = C0) (r1 : ∀ f, C1.map (AV.ren f) = C1) (r2 : ∀ f, C2.map (AV.ren f) = C2) :
  CallOk F Tryz.prog gl W f [.msl q 0 n k, .int .i64 (a : Nat), .msl r 0 m k] (fun u su => u = .msl nx 0 n' k ∧ su = ⟨[(nx, .cells C2)], nx + 1⟩) ⟨[(q, .cells C0), (r, .cells C1)], nx⟩ := by
 refine wd.call hF hro (fun k => if k = q then some 0 else if k = r then some 1 else none) (fun k => if k = 0 then some q else if k = 1 then some r else none) ?_ (fun k hk => by show (if k = 0 then some q else if k = 1 then some r else none) = none; rw [if_neg (by omega), if_neg (by omega)]) (st := ⟨[(q, .cells C0), (r, .cells C1)], nx⟩)
  (HRen.cons q (by simp [hget]) (by simp) (r0 _) (HRen.cons r (by simp [hget, Ne.symm hqr]) (by simp [Ne.symm hqr]) (r1 _) HRen.nil)) (by simp [AV.ren, Ne.symm hqr]) ⟨?_, ?_⟩
 ·intro k k' h
  split at h
  ·rename_i e; subst e; cases h; rfl
  ·split at h
   ·rename_i e; subst e; cases h; rfl
   ·cases h
 ·simp [AV.ren, up]
 ·simp only [hup_cons, hup_nil, hC_cons, hC_nil, r2, Nat.zero_add]
theorem wide1_call (hF : Free F) (hro : F.round = none) (wd : Wide Tryz.prog gl f (.msl 0 0 n k :: rest) [(0, .cells C0)] n0 (.msl 0 0 n' k) [(0, C2)] 1) (h0 : 0 < n0) (hr : ∀ f, rest.map (AV.ren f) = rest) (r0 : ∀ f, C0.map (AV.ren f) = C0) (r2 : ∀ f, C2.map (AV.ren f) = C2) :
  CallOk F Tryz.prog gl W f (.msl q 0 n k :: rest) (fun u su => u = .msl nx 0 n' k ∧ su = ⟨[(nx, .cells C2)], nx + 1⟩) ⟨[(q, .cells C0)], nx⟩ := by
 refine wd.call hF hro (fun k => if k = q then some 0 else none) (fun k => if k = 0 then some q else none) ?_ (fun k hk => by show (if k = 0 then some q else none) = none; rw [if_neg (by omega)]) (st := ⟨[(q, .cells C0)], nx⟩)
  (HRen.cons q (by simp [hget]) (by simp) (r0 _) HRen.nil) (by rw [List.map_cons, hr]; simp [AV.ren]) ⟨?_, ?_⟩
 ·intro k k' h
  split at h
  ·rename_i e; subst e; cases h; rfl
  ·cases h
 ·simp [AV.ren, up]
 ·simp only [hup_cons, hup_nil, hC_cons, hC_nil, r2, Nat.zero_add]
end
theorem flBa : ∀ l : List (Ba), (l.flatMap Ba.cells).length = l.length * 14 := flat_length (k := 14) fun _ => rfl
theorem onBa (l : List (Ba)) : (l.flatMap Ba.cells).all AV.one = true := oneFlat (fun _ => rfl) l
theorem insXBa (l es : List (Ba)) (a : Nat) (ha : a ≤ l.length) (hs : l.length + es.length ≤ 1000000) : Wide Tryz.prog gl 52 [.msl 0 0 l.length 14, .int .i64 (a : Nat), ownA 1 14 es.length] (hC ((0, l.flatMap Ba.cells) :: ownH 1 (es.flatMap Ba.cells) es.length)) 2 (.msl 0 0 (insL l es a).length 14) [(0, (insL l es a).flatMap Ba.cells)] 1 := by
 have := insertBa_wide ((l.take a).flatMap Ba.cells) ((l.drop a).flatMap Ba.cells) (es.flatMap Ba.cells) a (l.length - a) es.length (by rw [flBa, List.length_take]; congr 1 <;> omega) (by rw [flBa, List.length_drop]) (by rw [flBa]) (onBa _) (onBa _) (onBa _) (fun f => baRen _) (fun f => baRen _) (fun f => baRen _) (by omega)
 have e1 : a + (l.length - a) = l.length := by omega
 have e2 : (insL l es a).length = a + es.length + (l.length - a) := by rw [insL_len ha]; omega
 have e3 : (l.take a).flatMap Ba.cells ++ (l.drop a).flatMap Ba.cells = l.flatMap Ba.cells := by rw [← List.flatMap_append, List.take_append_drop]
 have e4 : (l.take a).flatMap Ba.cells ++ es.flatMap Ba.cells ++ (l.drop a).flatMap Ba.cells = (insL l es a).flatMap Ba.cells := by simp only [insL, List.flatMap_append]
 rw [e1, e3, e4, ← e2] at this
 exact this
theorem insBa_s {F : Fence} (hF : Free F) (hro : F.round = none) {W : World} (l es : List (Ba)) (a : Nat) (ha : a ≤ l.length) (hs : l.length + es.length ≤ 1000000) (m : Nat) (hm : es.length = m + 1) {q r nx : Nat} (hqr : q ≠ r) :
  CallOk F Tryz.prog gl W 52 [.msl q 0 l.length 14, .int .i64 (a : Nat), .msl r 0 (m + 1) 14] (fun u su => u = .msl nx 0 (insL l es a).length 14 ∧ su = ⟨[(nx, .cells ((insL l es a).flatMap Ba.cells))], nx + 1⟩) ⟨[(q, .cells (l.flatMap Ba.cells)), (r, .cells (es.flatMap Ba.cells))], nx⟩ := by
 have := insXBa l es a ha hs
 rw [hm] at this
 simp only [ownA_succ, ownH_succ, hC_cons, hC_nil] at this
 exact wide2_call hF hro this hqr (fun f => baRen _) (fun f => baRen _) (fun f => baRen _)
theorem insBa_z {F : Fence} (hF : Free F) (hro : F.round = none) {W : World} (l es : List (Ba)) (a : Nat) (ha : a ≤ l.length) (hs : l.length + es.length ≤ 1000000) (hm : es.length = 0) {q nx : Nat} :
  CallOk F Tryz.prog gl W 52 [.msl q 0 l.length 14, .int .i64 (a : Nat), .sl 14 [] .mut] (fun u su => u = .msl nx 0 (insL l es a).length 14 ∧ su = ⟨[(nx, .cells ((insL l es a).flatMap Ba.cells))], nx + 1⟩) ⟨[(q, .cells (l.flatMap Ba.cells))], nx⟩ := by
 have := insXBa l es a ha hs
 rw [hm] at this
 simp only [ownA_zero, ownH_zero, hC_cons, hC_nil] at this
 exact wide1_call hF hro this (by decide) (fun f => rfl) (fun f => baRen _) (fun f => baRen _)
theorem delBa_s {F : Fence} (hF : Free F) (hro : F.round = none) {W : World} (l : List (Ba)) (a d : Nat) (ha : a + d ≤ l.length) (hs : l.length ≤ 1000000) {q nx : Nat} :
  CallOk F Tryz.prog gl W 56 [.msl q 0 l.length 14, .int .i64 (a : Nat), .int .i64 ((a + d : Nat) : Int)] (fun u su => u = .msl nx 0 (delL l a d).length 14 ∧ su = ⟨[(nx, .cells ((delL l a d).flatMap Ba.cells))], nx + 1⟩) ⟨[(q, .cells (l.flatMap Ba.cells))], nx⟩ := by
 have := deleteBa_wide ((l.take a).flatMap Ba.cells) (((l.drop a).take d).flatMap Ba.cells) ((l.drop (a + d)).flatMap Ba.cells) a d (l.length - (a + d)) (by rw [flBa, List.length_take]; congr 1 <;> omega) (by rw [flBa, List.length_take, List.length_drop]; congr 1 <;> omega) (by rw [flBa, List.length_drop]) (onBa _) (onBa _) (onBa _) (fun f => baRen _) (fun f => baRen _) (by omega)
 have e1 : a + d + (l.length - (a + d)) = l.length := by omega
 have e2 : (delL l a d).length = a + (l.length - (a + d)) := by rw [delL_len ha]; omega
 have e3 : (l.take a).flatMap Ba.cells ++ ((l.drop a).take d).flatMap Ba.cells ++ (l.drop (a + d)).flatMap Ba.cells = l.flatMap Ba.cells := by
  rw [← List.flatMap_append, ← List.flatMap_append, ← List.drop_drop, List.append_assoc, List.take_append_drop, List.take_append_drop]
 have e4 : (l.take a).flatMap Ba.cells ++ (l.drop (a + d)).flatMap Ba.cells = (delL l a d).flatMap Ba.cells := by simp only [delL, List.flatMap_append]
 rw [e1, e3, e4, ← e2] at this
 exact wide1_call hF hro this (by decide) (fun f => rfl) (fun f => baRen _) (fun f => baRen _)
theorem flCe : ∀ l : List (List Vo), (l.flatMap ceC1).length = l.length := fun l => by rw [flat_length (k := 1) fun _ => rfl, Nat.mul_one]
theorem onCe (l : List (List Vo)) : (l.flatMap ceC1).all AV.one = true := oneFlat (fun _ => rfl) l
theorem insXCe (l es : List (List Vo)) (a : Nat) (ha : a ≤ l.length) (hs : l.length + es.length ≤ 1000000) : Wide Tryz.prog gl 53 [.msl 0 0 l.length 1, .int .i64 (a : Nat), ownA 1 1 es.length] (hC ((0, l.flatMap ceC1) :: ownH 1 (es.flatMap ceC1) es.length)) 2 (.msl 0 0 (insL l es a).length 1) [(0, (insL l es a).flatMap ceC1)] 1 := by
 have := insertCe_wide ((l.take a).flatMap ceC1) ((l.drop a).flatMap ceC1) (es.flatMap ceC1) a (l.length - a) es.length (by rw [flCe, List.length_take]; congr 1 <;> omega) (by rw [flCe, List.length_drop]) (by rw [flCe]) (onCe _) (onCe _) (onCe _) (fun f => ceRen _) (fun f => ceRen _) (fun f => ceRen _) (by omega)
 have e1 : a + (l.length - a) = l.length := by omega
 have e2 : (insL l es a).length = a + es.length + (l.length - a) := by rw [insL_len ha]; omega
 have e3 : (l.take a).flatMap ceC1 ++ (l.drop a).flatMap ceC1 = l.flatMap ceC1 := by rw [← List.flatMap_append, List.take_append_drop]
 have e4 : (l.take a).flatMap ceC1 ++ es.flatMap ceC1 ++ (l.drop a).flatMap ceC1 = (insL l es a).flatMap ceC1 := by simp only [insL, List.flatMap_append]
 rw [e1, e3, e4, ← e2] at this
 exact this
theorem insCe_s {F : Fence} (hF : Free F) (hro : F.round = none) {W : World} (l es : List (List Vo)) (a : Nat) (ha : a ≤ l.length) (hs : l.length + es.length ≤ 1000000) (m : Nat) (hm : es.length = m + 1) {q r nx : Nat} (hqr : q ≠ r) :
  CallOk F Tryz.prog gl W 53 [.msl q 0 l.length 1, .int .i64 (a : Nat), .msl r 0 (m + 1) 1] (fun u su => u = .msl nx 0 (insL l es a).length 1 ∧ su = ⟨[(nx, .cells ((insL l es a).flatMap ceC1))], nx + 1⟩) ⟨[(q, .cells (l.flatMap ceC1)), (r, .cells (es.flatMap ceC1))], nx⟩ := by
 have := insXCe l es a ha hs
 rw [hm] at this
 simp only [ownA_succ, ownH_succ, hC_cons, hC_nil] at this
 exact wide2_call hF hro this hqr (fun f => ceRen _) (fun f => ceRen _) (fun f => ceRen _)
theorem insCe_z {F : Fence} (hF : Free F) (hro : F.round = none) {W : World} (l es : List (List Vo)) (a : Nat) (ha : a ≤ l.length) (hs : l.length + es.length ≤ 1000000) (hm : es.length = 0) {q nx : Nat} :
  CallOk F Tryz.prog gl W 53 [.msl q 0 l.length 1, .int .i64 (a : Nat), .sl 1 [] .mut] (fun u su => u = .msl nx 0 (insL l es a).length 1 ∧ su = ⟨[(nx, .cells ((insL l es a).flatMap ceC1))], nx + 1⟩) ⟨[(q, .cells (l.flatMap ceC1))], nx⟩ := by
 have := insXCe l es a ha hs
 rw [hm] at this
 simp only [ownA_zero, ownH_zero, hC_cons, hC_nil] at this
 exact wide1_call hF hro this (by decide) (fun f => rfl) (fun f => ceRen _) (fun f => ceRen _)
theorem delCe_s {F : Fence} (hF : Free F) (hro : F.round = none) {W : World} (l : List (List Vo)) (a d : Nat) (ha : a + d ≤ l.length) (hs : l.length ≤ 1000000) {q nx : Nat} :
  CallOk F Tryz.prog gl W 59 [.msl q 0 l.length 1, .int .i64 (a : Nat), .int .i64 ((a + d : Nat) : Int)] (fun u su => u = .msl nx 0 (delL l a d).length 1 ∧ su = ⟨[(nx, .cells ((delL l a d).flatMap ceC1))], nx + 1⟩) ⟨[(q, .cells (l.flatMap ceC1))], nx⟩ := by
 have := deleteCe_wide ((l.take a).flatMap ceC1) (((l.drop a).take d).flatMap ceC1) ((l.drop (a + d)).flatMap ceC1) a d (l.length - (a + d)) (by rw [flCe, List.length_take]; congr 1 <;> omega) (by rw [flCe, List.length_take, List.length_drop]; congr 1 <;> omega) (by rw [flCe, List.length_drop]) (onCe _) (onCe _) (onCe _) (fun f => ceRen _) (fun f => ceRen _) (by omega)
 have e1 : a + d + (l.length - (a + d)) = l.length := by omega
 have e2 : (delL l a d).length = a + (l.length - (a + d)) := by rw [delL_len ha]; omega
 have e3 : (l.take a).flatMap ceC1 ++ ((l.drop a).take d).flatMap ceC1 ++ (l.drop (a + d)).flatMap ceC1 = l.flatMap ceC1 := by
  rw [← List.flatMap_append, ← List.flatMap_append, ← List.drop_drop, List.append_assoc, List.take_append_drop, List.take_append_drop]
 have e4 : (l.take a).flatMap ceC1 ++ (l.drop (a + d)).flatMap ceC1 = (delL l a d).flatMap ceC1 := by simp only [delL, List.flatMap_append]
 rw [e1, e3, e4, ← e2] at this
 exact wide1_call hF hro this (by decide) (fun f => rfl) (fun f => ceRen _) (fun f => ceRen _)
theorem flDy : ∀ l : List (List Dy), (l.flatMap dyC).length = l.length := fun l => by rw [flat_length (k := 1) fun _ => rfl, Nat.mul_one]
theorem onDy (l : List (List Dy)) : (l.flatMap dyC).all AV.one = true := oneFlat (fun _ => rfl) l
theorem insXDy (l es : List (List Dy)) (a : Nat) (ha : a ≤ l.length) (hs : l.length + es.length ≤ 1000000) : Wide Tryz.prog gl 54 [.msl 0 0 l.length 1, .int .i64 (a : Nat), ownA 1 1 es.length] (hC ((0, l.flatMap dyC) :: ownH 1 (es.flatMap dyC) es.length)) 2 (.msl 0 0 (insL l es a).length 1) [(0, (insL l es a).flatMap dyC)] 1 := by
 have := insertDy_wide ((l.take a).flatMap dyC) ((l.drop a).flatMap dyC) (es.flatMap dyC) a (l.length - a) es.length (by rw [flDy, List.length_take]; congr 1 <;> omega) (by rw [flDy, List.length_drop]) (by rw [flDy]) (onDy _) (onDy _) (onDy _) (fun f => dyRen _) (fun f => dyRen _) (fun f => dyRen _) (by omega)
 have e1 : a + (l.length - a) = l.length := by omega
 have e2 : (insL l es a).length = a + es.length + (l.length - a) := by rw [insL_len ha]; omega
 have e3 : (l.take a).flatMap dyC ++ (l.drop a).flatMap dyC = l.flatMap dyC := by rw [← List.flatMap_append, List.take_append_drop]
 have e4 : (l.take a).flatMap dyC ++ es.flatMap dyC ++ (l.drop a).flatMap dyC = (insL l es a).flatMap dyC := by simp only [insL, List.flatMap_append]
 rw [e1, e3, e4, ← e2] at this
 exact this
theorem insDy_s {F : Fence} (hF : Free F) (hro : F.round = none) {W : World} (l es : List (List Dy)) (a : Nat) (ha : a ≤ l.length) (hs : l.length + es.length ≤ 1000000) (m : Nat) (hm : es.length = m + 1) {q r nx : Nat} (hqr : q ≠ r) :
  CallOk F Tryz.prog gl W 54 [.msl q 0 l.length 1, .int .i64 (a : Nat), .msl r 0 (m + 1) 1] (fun u su => u = .msl nx 0 (insL l es a).length 1 ∧ su = ⟨[(nx, .cells ((insL l es a).flatMap dyC))], nx + 1⟩) ⟨[(q, .cells (l.flatMap dyC)), (r, .cells (es.flatMap dyC))], nx⟩ := by
 have := insXDy l es a ha hs
 rw [hm] at this
 simp only [ownA_succ, ownH_succ, hC_cons, hC_nil] at this
 exact wide2_call hF hro this hqr (fun f => dyRen _) (fun f => dyRen _) (fun f => dyRen _)
theorem insDy_z {F : Fence} (hF : Free F) (hro : F.round = none) {W : World} (l es : List (List Dy)) (a : Nat) (ha : a ≤ l.length) (hs : l.length + es.length ≤ 1000000) (hm : es.length = 0) {q nx : Nat} :
  CallOk F Tryz.prog gl W 54 [.msl q 0 l.length 1, .int .i64 (a : Nat), .sl 1 [] .mut] (fun u su => u = .msl nx 0 (insL l es a).length 1 ∧ su = ⟨[(nx, .cells ((insL l es a).flatMap dyC))], nx + 1⟩) ⟨[(q, .cells (l.flatMap dyC))], nx⟩ := by
 have := insXDy l es a ha hs
 rw [hm] at this
 simp only [ownA_zero, ownH_zero, hC_cons, hC_nil] at this
 exact wide1_call hF hro this (by decide) (fun f => rfl) (fun f => dyRen _) (fun f => dyRen _)
theorem delDy_s {F : Fence} (hF : Free F) (hro : F.round = none) {W : World} (l : List (List Dy)) (a d : Nat) (ha : a + d ≤ l.length) (hs : l.length ≤ 1000000) {q nx : Nat} :
  CallOk F Tryz.prog gl W 60 [.msl q 0 l.length 1, .int .i64 (a : Nat), .int .i64 ((a + d : Nat) : Int)] (fun u su => u = .msl nx 0 (delL l a d).length 1 ∧ su = ⟨[(nx, .cells ((delL l a d).flatMap dyC))], nx + 1⟩) ⟨[(q, .cells (l.flatMap dyC))], nx⟩ := by
 have := deleteDy_wide ((l.take a).flatMap dyC) (((l.drop a).take d).flatMap dyC) ((l.drop (a + d)).flatMap dyC) a d (l.length - (a + d)) (by rw [flDy, List.length_take]; congr 1 <;> omega) (by rw [flDy, List.length_take, List.length_drop]; congr 1 <;> omega) (by rw [flDy, List.length_drop]) (onDy _) (onDy _) (onDy _) (fun f => dyRen _) (fun f => dyRen _) (by omega)
 have e1 : a + d + (l.length - (a + d)) = l.length := by omega
 have e2 : (delL l a d).length = a + (l.length - (a + d)) := by rw [delL_len ha]; omega
 have e3 : (l.take a).flatMap dyC ++ ((l.drop a).take d).flatMap dyC ++ (l.drop (a + d)).flatMap dyC = l.flatMap dyC := by
  rw [← List.flatMap_append, ← List.flatMap_append, ← List.drop_drop, List.append_assoc, List.take_append_drop, List.take_append_drop]
 have e4 : (l.take a).flatMap dyC ++ (l.drop (a + d)).flatMap dyC = (delL l a d).flatMap dyC := by simp only [delL, List.flatMap_append]
 rw [e1, e3, e4, ← e2] at this
 exact wide1_call hF hro this (by decide) (fun f => rfl) (fun f => dyRen _) (fun f => dyRen _)
end Go.Proofs.Pv
namespace Go.Proofs.Pv
open Go Go.Proofs
set_option linter.unusedSimpArgs false
set_option linter.unusedVariables false
theorem kin2 {a b k : Nat} : [a, b].contains k = (decide (k = a) || decide (k = b)) := by simp [List.contains_cons]
theorem kin1 {a k : Nat} : [a].contains k = decide (k = a) := by simp [List.contains_cons]
theorem rdSub {h : List (Nat × Blk)} {nx q : Nat} {X : Blk} (e : hget h q = some X) : ∀ k b, hget [(q, X)] k = some b → (⟨h, nx⟩ : St).hp k = some b := by
 intro k b h1
 simp only [hget] at h1
 split at h1
 ·rename_i e1
  subst e1
  exact e.trans h1
 ·cases h1
def opL (o : EOp) (k b c : Int) : List AV := [.int .i64 k, .int .i64 o.part, .int .i64 b, .int .i64 o.voice, .int .i64 o.at_, .int .i64 c, .sl 9 (o.events.map Ev.av) .none, .sl 14 (o.bars.map Ba.av) .none, .sl 1 (o.cells.map cellsAV) .none, .sl 1 (o.dyns.map dynssAV) .none, .int .i64 o.steps, .int .i64 o.halves, .str o.text]
def pre6 (B0 B1 B2 B3 B4 B5 : Blk) : List (Nat × Blk) := [(36, B0), (9, B1), (3, B2), (2, B3), (1, B4), (0, B5)]
def pRow (p : Pa) (k k2 : Nat) : List AV := [.str p.name, .int .i64 p.clef, .int .i64 p.channel, .msl k 0 p.cells.length 1, .msl k2 0 p.dyns.length 1]
def pC (p : Pa) (k k2 : Nat) : List (Nat × List AV) := [(k, p.cells.flatMap ceC1), (k2, p.dyns.flatMap dyC)]
def pBlk (p : Pa) (k k2 : Nat) : List (Nat × Blk) := [(k, .cells (p.cells.flatMap ceC1)), (k2, .cells (p.dyns.flatMap dyC))]
def Pa.ins (p : Pa) (c : List (List Vo)) (d : List (List Dy)) (b : Nat) : Pa := ⟨p.name, p.clef, p.channel, insL p.cells c b, insL p.dyns d b⟩
def Pa.del (p : Pa) (b c : Nat) : Pa := ⟨p.name, p.clef, p.channel, delL p.cells b c, delL p.dyns b c⟩
theorem OZ_lp {P : Program} {G : Nat → Option (List AV)} {F : Fence} {W : World} {rng : Bool} {d : Nat} {c : Code} {K : Kont Prop} {fr : Fr} {st : St} (g : (OZ F P G W rng (d + 1)).loop c K fr st) : (OZ F P G W rng (d + 1)).loop c K fr st := g
def errF (e : Int) : AV := .tup [.agg [.str ⟨#[]⟩, .sl 14 [] .full, .sl 5 [] .full], .agg back0, .int .i64 e]
def bkL (b n : Int) (l2 l3 l4 : List AV) : List AV := [.int .i64 0, .int .i64 b, .int .i64 0, .int .i64 0, .int .i64 n, .sl 9 [] .none, .sl 14 l2 .none, .sl 1 l3 .none, .sl 1 l4 .none, .int .i64 0, .int .i64 0, .str ⟨#[]⟩]
structure Box (p : Prop) : Prop where
 out : p
def hk0 (q : Nat) : List (Nat × Blk) → List (Nat × Blk)
 | [] => []
 | (k, b) :: h => if k = q then hk0 q h else (k, b) :: hk0 q h
theorem hk0_nil {q : Nat} : hk0 q [] = [] := rfl
theorem hk0_cons {q k : Nat} {b : Blk} {h : List (Nat × Blk)} : hk0 q ((k, b) :: h) = if k = q then hk0 q h else (k, b) :: hk0 q h := rfl
theorem hk0_get {q k : Nat} {b : Blk} : ∀ {h : List (Nat × Blk)}, hget (hk0 q h) k = some b → hget h k = some b ∧ k ≠ q
 | [], h1 => by simp [hk0, hget] at h1
 | (k', b') :: h, h1 => by
  simp only [hk0] at h1
  by_cases e : k' = q
  ·rw [if_pos e] at h1
   obtain ⟨g1, g2⟩ := hk0_get h1
   refine ⟨?_, g2⟩
   simp only [hget]
   rw [if_neg (fun e2 => g2 (e2.trans e))]; exact g1
  ·rw [if_neg e] at h1
   simp only [hget] at h1 ⊢
   split at h1
   ·rename_i e2
    rw [if_pos e2]
    exact ⟨h1, fun e3 => e (e2.symm.trans e3)⟩
   ·rename_i e2
    rw [if_neg e2]
    exact hk0_get h1
theorem OZ_frame1 {P : Program} {G : Nat → Option (List AV)} {F : Fence} {W : World} {rng : Bool} {d : Nat} {f : FuncId} {args : List AV} {v : AV} {q nx : Nat} {X Y : Blk} {h : List (Nat × Blk)} {K : AV → St → Prop} (e : hget h q = some X)
  (hc : CallOk F P G W f args (fun u su => u = v ∧ su = ⟨[(nx, Y)], nx + 1⟩) ⟨[(q, X)], nx⟩) (hK : K v ⟨hk0 q h ++ [(nx, Y)], nx + 1⟩) : (OZ F P G W rng d).call f args K ⟨h, nx⟩ := by
 refine OZ_call ?_
 intro M w vs inv hargs
 obtain ⟨F1, inv1, hback⟩ := inv.hide (fun k => decide (k = q)) (hp1 := hget [(q, X)]) (al1 := (· < nx)) (fun k b hk => ⟨rdSub (nx := nx) e k b hk, by
  simp only [hget] at hk
  split at hk
  ·rename_i e1; simpa using e1
  ·cases hk⟩) (fun k hk => hk)
 obtain ⟨g, hcall⟩ := hc { M with F := F1 } w vs inv1 hargs
 refine ⟨g, fun n => (hcall n).mono ?_⟩
 rintro e w' ⟨M', v', av, st2, rfl, r1, r2, r3, rfl, rfl⟩
 obtain ⟨hle2, hinv2⟩ := hback M' w' _ _ r1 r2
 refine ⟨{ M' with F := M.F }, v', _, ⟨hk0 q h ++ [(nx, Y)], nx + 1⟩, rfl, hle2, hinv2 _ fun k b hk => ?_, r3, hK⟩
 simp only [St.hp, hget_append] at hk
 split at hk
 ·rename_i x hx
  simp only [Option.some.injEq] at hk
  subst hk
  obtain ⟨g1, g2⟩ := hk0_get hx
  exact .inl ⟨g1, by simpa using g2⟩
 ·exact .inr hk
theorem ren_scoreB {n : Nat} {a : ByteArray} {k o m s k2 o2 m2 s2 : Nat} : AV.ren (up n) (.agg [.str a, .msl k o m s, .msl k2 o2 m2 s2]) = .agg [.str a, .msl (k + n) o m s, .msl (k2 + n) o2 m2 s2] := rfl
theorem renS {n : Nat} {a : ByteArray} : AV.ren (up n) (.str a) = .str a := rfl
theorem renI {n : Nat} {k : IntKind} {a : Int} : AV.ren (up n) (.int k a) = .int k a := rfl
end Go.Proofs.Pv
