/-
  The abstract machine, part L: calls of functions, contracts of functions that are handed plain values.
  Conditions: the invariant 'Inv'.
-/
import Derived.Test.YtgjjcdjcpbjdgaaGreatDoorPvK
import Derived.RangeFuncRecord
namespace Go.Proofs.Pv
set_option linter.unusedVariables false
set_option linter.unusedSimpArgs false
open Go
variable {P : Program} {G : Nat → Option (List AV)} {R : Type}

def ares (P : Program) (g : Hp) (s : List AV) : ResultVar → Option AV
  | .tmp t => some (s.getD t .undef)
  | .cell a t => aload P g t (s.getD a .undef)
def aresL (P : Program) (g : Hp) (s : List AV) : List ResultVar → Option (List AV)
  | [] => some []
  | r :: rs => match ares P g s r, aresL P g s rs with
    | some v, some vs => some (v :: vs)
    | _, _ => none
def aresults (P : Program) (g : Hp) (s : List AV) (rs : List ResultVar) : Option AV :=
  match aresL P g s rs with
  | some [v] => some v
  | some vs => some (.tup vs)
  | none => none

def closeMarks : List Nat → St → Option St
  | [], st => some st
  | k :: ks, st => match st.hp k with
    | some (.dfd true) => closeMarks ks ⟨hset st.h k (.dfd false), st.nx⟩
    | _ => none
def hlow (n : Nat) : List (Nat × Blk) → List (Nat × Blk)
  | [] => []
  | (k, b) :: r => if k < n then (k, b) :: hlow n r else hlow n r

def kleave (P : Program) (H : Hand R) (rs : List ResultVar) (fin : AV → St → AV × St) (K : AV → St → R) : Kont R := fun x fr st =>
  match x with
  | .normal | .ret => match closeMarks fr.marks st with
    | some st' => match aresults P st'.hp fr.s rs with
      | some v => match fin v st' with
        | (v', st'') => K v' st''
      | none => H.fail
    | none => H.fail
  | _ => H.fail

def fr0 (n : Nat) (args : List AV) : Fr := ⟨args ++ List.replicate (n - args.length) .undef, []⟩

/-- What may be forgotten of the abstract heap. -/
def Weak (st st' : St) : Prop := st.nx ≤ st'.nx ∧ ∀ k b, st'.hp k = some b → st.hp k = some b

mutual
/-- Leads to no key from n on. -/
def AV.lo (n : Nat) : AV → Bool
  | .ptr k _ | .msl k _ _ _ | .map k | .yld k => decide (k < n)
  | .sl _ _ (.tok k) => decide (k < n)
  | .fn _ a b => AV.loL n a && AV.loL n b
  | .agg cs | .tup cs => AV.loL n cs
  | .ifc _ v => AV.lo n v
  | _ => true
def AV.loL (n : Nat) : List AV → Bool
  | [] => true
  | x :: xs => AV.lo n x && AV.loL n xs
end
def Blk.lo (n : Nat) : Blk → Bool
  | .cells cs => AV.loL n cs
  | .map es _ => es.all fun e => e.key.lo n && e.val.lo n
  | .mit m _ _ _ => decide (m < n)
  | .loop _ _ s _ _ _ d => AV.loL n s && decide (d < n)
  | _ => true
def hlo (n : Nat) : List (Nat × Blk) → Bool
  | [] => true
  | (k, b) :: r => (decide (n ≤ k) || b.lo n) && hlo n r
/-- What a function has laid is forgotten where nothing that stays may lead there. -/
def finD (args : List AV) (n0 : Nat) (v : AV) (st : St) : St :=
  if v.pureR && (args.all AV.pureV || hlo n0 st.h) then ⟨hlow n0 st.h, max st.nx (n0 + 65536)⟩ else st
/-- A slice that may change no more. -/
def frz (v : AV) (st : St) : AV × St :=
  match v with
  | .msl key off n k => match st.hp key with
    | some (.cells cs) => if off = 0 ∧ n * k ≤ cs.length ∧ 0 < k ∧ cs.all AV.pure = true then (.sl k (chunks (!(Nat.beq k 1)) k n cs) .none, ⟨hdel st.h key, st.nx⟩) else (v, st)
    | _ => (v, st)
  | _ => (v, st)
def frzL (f : AV → St → AV × St) : List AV → St → List AV × St
  | [], st => ([], st)
  | x :: xs, st => match f x st with
    | (x', st') => match frzL f xs st' with
      | (xs', st'') => (x' :: xs', st'')
/-- .. and all that it leads to. -/
def frzV : Nat → AV → St → AV × St
  | 0, v, st => (v, st)
  | d + 1, v, st => match v with
    | .agg cs => match frzL (frzV d) cs st with
      | (cs', st') => (.agg cs', st')
    | .tup cs => match frzL (frzV d) cs st with
      | (cs', st') => (.tup cs', st')
    | .msl key off n k => match st.hp key with
      | some (.cells cs) => match frzL (frzV d) cs st with
        | (cs', st') => match st'.hp key with
          | some (.cells _) => frz (.msl key off n k) ⟨hset st'.h key (.cells cs'), st'.nx⟩
          | _ => (v, st')
      | _ => (v, st)
    | _ => (v, st)
def finC (fz : Bool) (args : List AV) (n0 : Nat) (v : AV) (st : St) : AV × St :=
  match (if fz then frzV 9 v st else (v, st)) with
  | (v', st') => (v', finD args n0 v' st')

def afunc (P : Program) (G : Nat → Option (List AV)) (H : Hand R) (fin : List AV → Nat → AV → St → AV × St) (f : FuncId) (args : List AV) (K : AV → St → R) (st : St) : R :=
  match P.funcs[f]? with
  | some fn => match fn.body with
    | some c => crun P G H c (kleave P H fn.results.toList (fin args st.nx) K) (fr0 fn.ntmps args) st
    | none => H.fail
  | none => H.fail

def resOf (tmps : Array Value) : ResultVar → Sem Value
  | .tmp t => pure (tmps.getD t undef)
  | .cell a t => do loadVar t (← asAddr (tmps.getD a undef))
theorem results_eq (fn : Func) (tmps : Array Value) : results fn tmps = (do let vs ← fn.results.mapM (resOf tmps); pure (if h : vs.size = 1 then vs[0] else .tuple vs)) := by
  unfold results
  have : (fun x : ResultVar => (match x with
    | .tmp t => pure (tmps.getD t undef)
    | .cell a t => do loadVar t (← asAddr (tmps.getD a undef)) : Sem Value)) = resOf tmps := by funext x; cases x <;> rfl
  rw [← this]
  rfl
theorem loadVar_of {t : TypeId} {va u : Value} {w : World} (h : (Instr.loadAt t va).run P w = .ok u w) : ((do loadVar t (← asAddr va)) : Sem Value).run P w = .ok u w := by
  cases va <;> simp [Instr.loadAt, Instr.sureAddr] at h
  rename_i A
  cases A <;> simp at h
  simpa [asAddr] using h

theorem run_results_go {M : Mem} {al : Nat → Prop} {hp : Hp} {W w : World} (inv : Inv G M al hp W w) {s : List AV} {tmps : Array Value} (rs : RelS M s tmps) : ∀ (l : List ResultVar) (vs : List AV), aresL P hp s l = some vs →
    ∃ us : List Value, (l.mapM (resOf tmps)).run P w = .ok us w ∧ RelL M.rel vs us
  | [], vs, h => by simp [aresL] at h; subst h; exact ⟨[], by simp, rfl, fun i a v h => by simp at h⟩
  | r :: l, vs, h => by
    unfold aresL at h
    split at h
    · rename_i v vs' h1 h2
      simp only [Option.some.injEq] at h; subst h
      obtain ⟨us, g1, g2⟩ := run_results_go inv rs l vs' h2
      have key : ∃ u, (resOf tmps r).run P w = .ok u w ∧ M.rel v u := by
        cases r with
        | tmp t =>
          simp only [ares, Option.some.injEq] at h1; subst h1
          exact ⟨_, rfl, rs.get t⟩
        | cell a t =>
          simp only [ares] at h1
          obtain ⟨u, k1, k2⟩ := loadAt_ok (P := P) inv (rs.get a) h1
          exact ⟨u, loadVar_of k1, k2⟩
      obtain ⟨u, k1, k2⟩ := key
      refine ⟨u :: us, ?_, by simp [g2.1], fun i a b e1 e2 => ?_⟩
      · rw [List.mapM_cons]
        simp only [Sem.run_bind, k1, Result.andThen_ok, g1, Sem.run_pure]
      · cases i with
        | zero => simp at e1 e2; subst e1; subst e2; exact k2
        | succ i => exact g2.2 i a b (by simpa using e1) (by simpa using e2)
    · cases h

theorem run_results {M : Mem} {al : Nat → Prop} {hp : Hp} {W w : World} (inv : Inv G M al hp W w) {s : List AV} {tmps : Array Value} (rs : RelS M s tmps) {fn : Func} {v : AV} (h : aresults P hp s fn.results.toList = some v) :
    ∃ u, (results fn tmps).run P w = .ok u w ∧ M.rel v u := by
  unfold aresults at h
  cases hl : aresL P hp s fn.results.toList with
  | none => rw [hl] at h; cases h
  | some vs =>
    obtain ⟨us, h1, h2⟩ := run_results_go inv rs _ _ hl
    have hrun : (results fn tmps).run P w = .ok (if h : us.toArray.size = 1 then us.toArray[0] else .tuple us.toArray) w := by
      rw [results_eq, Array.mapM_eq_mapM_toList]
      simp only [Sem.run_bind, Sem.run_map, h1, Result.andThen_ok, Sem.run_pure]
    rw [hrun]
    rw [hl] at h
    match vs, us, h2, h with
    | [a], [u], h2, h =>
      simp only [Option.some.injEq] at h; subst h
      exact ⟨u, by simp, h2.2 0 _ _ rfl rfl⟩
    | [], us, h2, h =>
      simp only [Option.some.injEq] at h; subst h
      have : us = [] := List.eq_nil_of_length_eq_zero h2.1.symm
      subst this
      exact ⟨_, rfl, .tup (by simp) (fun i h => by simp at h)⟩
    | a :: b :: vs, us, h2, h =>
      simp only [Option.some.injEq] at h; subst h
      have hne : ¬ us.toArray.size = 1 := by have := h2.1; simp at this ⊢; omega
      rw [dif_neg hne]
      exact ⟨_, rfl, .tup (by simpa using h2.1.symm) (fun i h h' => by show M.rel _ _; simpa using h2.get i h (by simpa using h'))⟩
    | [a], [], h2, _ => simp [RelL] at h2
    | [a], _ :: _ :: _, h2, _ => simp [RelL] at h2

theorem hlow_get (n : Nat) : ∀ (h : List (Nat × Blk)) (k : Nat) (b : Blk), hget (hlow n h) k = some b → hget h k = some b
  | [], k, b, h => by simp [hlow, hget] at h
  | (k', b') :: r, k, b, h => by
    simp only [hlow] at h
    split at h
    · simp only [hget] at h ⊢
      split
      · rename_i e; rw [if_pos e] at h; exact h
      · rename_i e; rw [if_neg e] at h; exact hlow_get n r k b h
    · rename_i hn
      have ih := hlow_get n r k b h
      simp only [hget]
      split
      · rename_i e
        subst e
        exfalso
        have : ∀ (r : List (Nat × Blk)), hget (hlow n r) k = none := by
          intro r
          induction r with
          | nil => rfl
          | cons p r ih =>
            obtain ⟨q, c⟩ := p
            simp only [hlow]
            split
            · rename_i hq
              simp only [hget]
              rw [if_neg (by omega)]
              exact ih
            · exact ih
        rw [this r] at h; cases h
      · exact ih

theorem hlow_none (n : Nat) {k : Nat} (hk : ¬ k < n) : ∀ (r : List (Nat × Blk)), hget (hlow n r) k = none
  | [] => rfl
  | (q, c) :: r => by
    simp only [hlow]
    split
    · simp only [hget]; rw [if_neg (by omega)]; exact hlow_none n hk r
    · exact hlow_none n hk r

theorem Weak.refl (st : St) : Weak st st := ⟨Nat.le_refl _, fun _ _ h => h⟩
theorem finD_weak (args : List AV) (n : Nat) (v : AV) (st : St) : Weak st (finD args n v st) := by
  unfold finD
  split
  · exact ⟨Nat.le_max_left _ _, fun k b h => hlow_get _ _ _ _ h⟩
  · exact Weak.refl st

/-- What is made of a result and the heap at a function's return stands for the same world. -/
def FinOk (G : Nat → Option (List AV)) (fin : AV → St → AV × St) : Prop :=
  ∀ {W : World} {M : Mem} {w : World} {v : AV} {u : Value} {st : St}, Inv G M (· < st.nx) st.hp W w → M.rel v u → ∃ M', M.le M' ∧ Inv G M' (· < (fin v st).2.nx) (fin v st).2.hp W w ∧ M'.rel (fin v st).1 u

theorem chunks_len {a : Bool} {k : Nat} : ∀ (n : Nat) (cs : List AV), (chunks a k n cs).length = n
  | 0, _ => rfl
  | n + 1, cs => by simp only [chunks, List.length_cons, chunks_len n]
theorem chunks_cells {k : Nat} (hk : 0 < k) : ∀ (n : Nat) (cs : List AV), n * k ≤ cs.length → (∀ x ∈ cs, x.pure = true) →
    (∀ r ∈ chunks (!(Nat.beq k 1)) k n cs, r.cells.length = k ∧ ∀ x ∈ r.cells, x.pure = true) ∧ (chunks (!(Nat.beq k 1)) k n cs).flatMap AV.cells = cs.take (n * k)
  | 0, cs, _, _ => by simp [chunks]
  | n + 1, cs, hl, hp => by
    have hl' : n * k + k ≤ cs.length := by rw [← Nat.succ_mul]; exact hl
    obtain ⟨h1, h2⟩ := chunks_cells hk n (cs.drop k) (by simp; omega) (fun x hx => hp x (List.mem_of_mem_drop hx))
    have hrow : (if (!(Nat.beq k 1)) = true then AV.agg (cs.take k) else cs.headD .undef).cells = cs.take k := by
      by_cases e : k = 1
      · subst e
        match cs, hl', hp with
        | [], hl', _ => simp at hl'
        | c :: cs, _, hp =>
          have hc := AV.one_of_pure (hp c (by simp))
          simp only [show Nat.beq 1 1 = true from rfl, Bool.not_true, Bool.false_eq_true, if_false, List.headD_cons, List.take_succ_cons, List.take_zero]
          cases c <;> first | rfl | simp [AV.one] at hc
      · have hb : Nat.beq k 1 = false := by
          cases h : Nat.beq k 1 with
          | false => rfl
          | true => exact absurd (Nat.eq_of_beq_eq_true h) e
        simp [hb, AV.cells]
    simp only [chunks]
    refine ⟨fun r hr => ?_, ?_⟩
    · rcases List.mem_cons.1 hr with rfl | hr
      · rw [hrow]
        exact ⟨by simp; omega, fun x hx => hp x (List.mem_of_mem_take hx)⟩
      · exact h1 r hr
    · rw [List.flatMap_cons, hrow, h2, Nat.succ_mul, Nat.add_comm, List.take_add]

theorem frz_ok : FinOk G frz := by
  intro W M w v u st inv hv
  unfold frz
  split
  · rename_i key off n k
    split
    · rename_i cs hk
      split
      · rename_i hc
        obtain ⟨rfl, hle, hk0, hpure⟩ := hc
        rw [List.all_eq_true] at hpure
        obtain ⟨b, ob, g1, g2, g3, g4, g5⟩ := inv.live key _ hk
        cases hv with
        | @msl _ _ _ _ _ _ b' c z hL hT hz hcap =>
        have hb : b' = b := by simpa [Mem.blockOf, Blk.isTok, hL] using g1
        subst hb
        cases ob <;> simp only [LiveAs] at g3
        rename_i cur el fr
        obtain ⟨rfl, k1, k2, _⟩ := g3
        have hIb : ∀ o, M.I b' o = none := g5 rfl
        have hle1 : M.le (M.addI b' 0 (cur.toList.take cs.length)) := Mem.le_addI g4 fun o _ _ => hIb o
        have hlen : (cur.toList.take cs.length).length = cs.length := by simp; omega
        have hrelI : ∀ j (hj : j < cs.length), ∃ x, (M.addI b' 0 (cur.toList.take cs.length)).I b' j = some x ∧ Rel M.I noL noT cs[j] x := by
          intro j hj
          have hjc : j < cur.size := by omega
          refine ⟨cur[j], ?_, (k2 j hj hjc).pure (hpure _ (List.getElem_mem hj))⟩
          simp only [Mem.addI]
          rw [if_pos ⟨trivial, by omega, by rw [hlen]; omega⟩, Nat.sub_zero, List.getElem?_take, if_pos hj]
          simp [hjc]
        refine ⟨_, hle1, ?_, ?_⟩
        · show Inv G _ (· < st.nx) (hget (hdel st.h key)) W w
          rw [hget_hdel]
          constructor
          · intro d o x hx
            simp only [Mem.addI] at hx
            split at hx
            · rename_i hd
              obtain ⟨rfl, _, ho⟩ := hd
              rw [cell?_of_heap g2]
              rw [Nat.sub_zero, List.getElem?_take] at hx
              split at hx
              · simpa using hx
              · cases hx
            · exact inv.imm d o x hx
          · exact inv.far
          · exact inv.os
          · exact inv.tape
          · exact inv.out
          · exact inv.fresh
          · intro q bk hq
            by_cases e : q = key
            · subst e; simp [hpSet] at hq
            · simp only [hpSet, e, if_false] at hq
              obtain ⟨b2, ob2, r1, r2, r3, r4, r5⟩ := inv.live q bk hq
              have hne : b2 ≠ b' := fun eb => by subst eb; exact e (inv.inj q key bk _ b2 hq hk r1 g1)
              refine ⟨b2, ob2, r1, r2, r3.grow hle1 (fun ht b3 e3 z3 hT3 o ho => ?_), r4, fun ht o => ?_⟩
              · cases bk <;> simp [Blk.isTok] at ht
                cases ob2 <;> simp only [LiveAs] at r3
                obtain ⟨_, b4, e4, z4, s1, _, _, s4⟩ := r3
                rw [hT3] at s1; cases s1
                have : b2 = b3 := by simpa [Mem.blockOf, Blk.isTok, hT3] using r1.symm
                subst this
                simp only [Mem.addI]
                rw [if_neg (by intro hc; exact hne hc.1)]
                exact s4 o ho
              · simp only [Mem.addI]
                rw [if_neg (by intro hc; exact hne hc.1)]
                exact r5 ht o
          · intro k1 k2 b1 b2 q h1 h2 h3 h4
            refine inv.inj k1 k2 b1 b2 q ?_ ?_ h3 h4
            · simp only [hpSet] at h1; split at h1
              · cases h1
              · exact h1
            · simp only [hpSet] at h2; split at h2
              · cases h2
              · exact h2
          · intro g cells hg; exact Rel.mono0 hle1.I (inv.glob g cells hg) (fun _ _ h => h) (fun _ _ h => h)
          · intros; trivial
        · obtain ⟨c1, c2⟩ := chunks_cells hk0 n cs hle hpure
          have hl := chunks_len (a := !(Nat.beq k 1)) (k := k) n cs
          have key2 : Rel (M.addI b' 0 (cur.toList.take cs.length)).I (M.addI b' 0 (cur.toList.take cs.length)).L (M.addI b' 0 (cur.toList.take cs.length)).T (.sl k (chunks (!(Nat.beq k 1)) k n cs) .none) (.slice (some ⟨b', 0, none⟩) (chunks (!(Nat.beq k 1)) k n cs).length c) := by
            refine sl_of_flat (cs := (cur.toList.take cs.length).take (n * k)) (fun r hr => (c1 r hr).1) (fun r hr => (c1 r hr).2) ?_ ?_ (by rw [hl]; exact hcap) trivial
            · rw [c2]
              refine RelL.take ⟨hlen.symm, fun i a x h1 h2 => ?_⟩ _
              obtain ⟨hi, rfl⟩ := List.getElem?_eq_some_iff.1 h1
              obtain ⟨y, e1, e2⟩ := hrelI i hi
              simp only [Mem.addI] at e1
              rw [if_pos ⟨trivial, by omega, by rw [hlen]; omega⟩, Nat.sub_zero, h2] at e1
              simp only [Option.some.injEq] at e1
              subst e1
              exact Rel.mono0 hle1.I e2 (fun _ _ h => h) (fun _ _ h => h)
            · intro q hq
              have hq' : q < cs.length := by simp at hq; omega
              simp only [Mem.addI]
              rw [if_pos ⟨trivial, by omega, by rw [hlen]; omega⟩, Nat.sub_zero]
              rw [List.getElem_take, List.getElem?_eq_getElem]
          rw [hl] at key2
          exact key2
      · exact ⟨M, M.le_refl, inv, hv⟩
    · exact ⟨M, M.le_refl, inv, hv⟩
  · exact ⟨M, M.le_refl, inv, hv⟩

theorem frzL_ok {f : AV → St → AV × St} (hf : FinOk G f) : ∀ (l : List AV) (us : List Value) {W : World} {M : Mem} {w : World} {st : St}, Inv G M (· < st.nx) st.hp W w → RelL M.rel l us →
    ∃ M', M.le M' ∧ Inv G M' (· < (frzL f l st).2.nx) (frzL f l st).2.hp W w ∧ RelL M'.rel (frzL f l st).1 us
  | [], us, W, M, w, st, inv, hr => ⟨M, M.le_refl, inv, hr⟩
  | x :: xs, [], W, M, w, st, inv, hr => by simp [RelL] at hr
  | x :: xs, u :: us, W, M, w, st, inv, hr => by
    obtain ⟨M1, a1, a2, a3⟩ := hf inv (hr.2 0 x u rfl rfl)
    have hr' : RelL M1.rel xs us := ⟨by simpa using hr.1, fun i a v h1 h2 => M.rel_mono a1 (hr.2 (i + 1) a v (by simpa using h1) (by simpa using h2))⟩
    obtain ⟨M2, b1, b2, b3⟩ := frzL_ok hf xs us a2 hr'
    refine ⟨M2, Mem.le_trans a1 b1, b2, ?_⟩
    simp only [frzL]
    refine ⟨by simp [b3.1], fun i a v h1 h2 => ?_⟩
    cases i with
    | zero => simp at h1 h2; subst h1; subst h2; exact M1.rel_mono b1 a3
    | succ i => exact b3.2 i a v (by simpa using h1) (by simpa using h2)
theorem frzV_ok : ∀ d, FinOk G (frzV d)
  | 0 => by
    intro inv hv
    exact ⟨_, Mem.le_refl _, inv, hv⟩
  | d + 1 => by
    rename_i W M w v u st
    intro inv hv
    have ih := frzL_ok (frzV_ok d)
    unfold frzV
    split
    · rename_i cs
      cases hv with
      | @agg _ _ _ vs hs hr =>
        obtain ⟨M', a1, a2, a3⟩ := ih cs vs.toList inv (RelL.of_get (by simpa using hs) (fun i h1 h2 => by have := hr i h1 (by simpa using h2); rwa [← Array.getElem_toList] at this))
        refine ⟨M', a1, a2, .agg (by have := a3.1; simpa using this.symm) (fun i h1 h2 => ?_)⟩
        have := a3.get i h1 (by simpa using h2)
        rwa [Array.getElem_toList] at this
    · rename_i cs
      cases hv with
      | @tup _ _ _ vs hs hr =>
        obtain ⟨M', a1, a2, a3⟩ := ih cs vs.toList inv (RelL.of_get (by simpa using hs) (fun i h1 h2 => by have := hr i h1 (by simpa using h2); rwa [← Array.getElem_toList] at this))
        refine ⟨M', a1, a2, .tup (by have := a3.1; simpa using this.symm) (fun i h1 h2 => ?_)⟩
        have := a3.get i h1 (by simpa using h2)
        rwa [Array.getElem_toList] at this
    · rename_i key off n k
      split
      · rename_i cs hk
        obtain ⟨b, ob, g1, g2, g3, g4, g5⟩ := inv.live key _ hk
        cases ob <;> simp only [LiveAs] at g3
        rename_i cur el fr
        obtain ⟨hfr, k1, k2, k3⟩ := g3
        have hL : M.L key = some b := by simpa [Mem.blockOf, Blk.isTok] using g1
        obtain ⟨M', a1, a2, a3⟩ := ih cs (cur.toList.take cs.length) inv (RelL.of_get (by simp; omega) (fun i h1 h2 => by
          have := k2 i h1 (by omega)
          simpa using this))
        simp only
        split
        · rename_i old hk'
          obtain ⟨b', ob', q1, q2, q3, q4, q5⟩ := a2.live key _ hk'
          have hL' : M'.L key = some b := a1.L _ _ hL
          have hb : b' = b := by simpa [Mem.blockOf, Blk.isTok, hL'] using q1.symm
          subst hb
          rw [g2] at q2; cases q2
          simp only [LiveAs] at q3
          have hl : (frzL (frzV d) cs st).1.length = cs.length := by have := a3.1; simp at this; omega
          have inv2 := a2.turn (w' := w) (new := .cells (frzL (frzV d) cs st).1) (ob := .cells cur el fr) hk' hL' rfl rfl rfl rfl rfl (fun _ _ => rfl) g2
            ⟨hfr, by omega, fun i h1 h2 => by
              have := a3.get i h1 (by simp; omega)
              simpa using this, q3.2.2.2⟩
          have inv3 : Inv G M' (· < (frzL (frzV d) cs st).2.nx) (St.hp ⟨hset (frzL (frzV d) cs st).2.h key (.cells (frzL (frzV d) cs st).1), (frzL (frzV d) cs st).2.nx⟩) W w := by
            have : St.hp ⟨hset (frzL (frzV d) cs st).2.h key (.cells (frzL (frzV d) cs st).1), (frzL (frzV d) cs st).2.nx⟩ = hpSet (frzL (frzV d) cs st).2.hp key (some (.cells (frzL (frzV d) cs st).1)) := hget_hset _ _ _
            rw [this]; exact inv2
          obtain ⟨M3, c1, c2, c3⟩ := frz_ok (st := ⟨hset (frzL (frzV d) cs st).2.h key (.cells (frzL (frzV d) cs st).1), (frzL (frzV d) cs st).2.nx⟩) inv3 (M.rel_mono a1 hv)
          exact ⟨M3, Mem.le_trans a1 c1, c2, c3⟩
        · exact ⟨M', a1, a2, M.rel_mono a1 hv⟩
      · exact ⟨M, M.le_refl, inv, hv⟩
    · exact ⟨M, M.le_refl, inv, hv⟩

theorem finC_ok (fz : Bool) (args : List AV) (n : Nat) : FinOk G (finC fz args n) := by
  intro W M w v u st inv hv
  have step : ∀ (v : AV) (st : St) (M : Mem), Inv G M (· < st.nx) st.hp W w → M.rel v u → Inv G M (· < (finD args n v st).nx) (finD args n v st).hp W w := by
    intro v st M inv _
    obtain ⟨q1, q2⟩ := finD_weak args n v st
    exact (inv.more fun k (hk : k < st.nx) => Nat.lt_of_lt_of_le hk q1).less q2
  unfold finC
  cases fz with
  | false =>
    simp only [Bool.false_eq_true, if_false]
    exact ⟨M, M.le_refl, step v st M inv hv, hv⟩
  | true =>
    simp only [if_true]
    obtain ⟨M', h1, h2, h3⟩ := frzV_ok 9 inv hv
    exact ⟨M', h1, step _ _ M' h2 h3, h3⟩

/-- The marks that loops over functions have left are taken off. -/
theorem closeMarks_ok {F : Fence} {n : Nat} {fn : Func} {tmps : Array Value} {Q : Ending → World → Prop} {W : World} {s : List AV} {rs : List ResultVar} (hrs : rs = fn.results.toList) {M : Mem} : ∀ (marks : List Nat) (defers : List Deferred) (st st' : St) (w : World) (v : AV),
    RelS M s tmps → Inv G M (· < st.nx) st.hp W w → defers.length = marks.length → (∀ (i : Nat) key, marks[i]? = some key → ∃ l, M.L key = some l ∧ defers[i]? = some { target := .collected l, args := #[] }) →
    closeMarks marks st = some st' → aresults P st'.hp s rs = some v → (∀ u w', Inv G M (· < st'.nx) st'.hp W w' → M.rel v u → Q (.returned u) w') → LeavesInM F n P fn tmps Q defers .returning w
  | [], [], st, st', w, v, hrel, inv, _, _, h, hv, hQ => by
    simp [closeMarks] at h; subst h
    subst hrs
    obtain ⟨u, h1, h2⟩ := run_results inv hrel hv
    exact ⟨u, h1, hQ u w inv h2⟩
  | [], _ :: _, _, _, _, _, _, _, hl, _, _, _, _ => by simp at hl
  | _ :: _, [], _, _, _, _, _, _, hl, _, _, _, _ => by simp at hl
  | k :: ks, d :: ds, st, st', w, v, hrel, inv, hl, hd, h, hv, hQ => by
    unfold closeMarks at h
    split at h
    · rename_i hk
      obtain ⟨l, hL, he⟩ := hd 0 k rfl
      simp only [List.getElem?_cons_zero, Option.some.injEq] at he
      subst he
      obtain ⟨b, ob, g1, g2, g3, g4, g5⟩ := inv.live k _ hk
      have hb : b = l := by simpa [Mem.blockOf, Blk.isTok, hL] using g1.symm
      subst hb
      cases ob <;> simp only [LiveAs] at g3
      subst g3
      have inv' := inv.turn (w' := w.putObj b (.deferred none)) (old := .dfd true) (new := .dfd false) (ob := .deferred none) hk hL rfl rfl rfl rfl rfl
        (fun q hq => by simp [World.putObj, Array.getElem?_setIfInBounds, Ne.symm hq]) (by simp [World.putObj, lt_of_heap g2]) rfl
      refine ⟨by simp, .inl ⟨b, _, rfl, run_takeDeferred g2, ?_⟩⟩
      refine closeMarks_ok hrs ks ds ⟨hset st.h k (.dfd false), st.nx⟩ st' _ v hrel ?_ (by simpa using hl) (fun i key hi => by simpa using hd (i + 1) key (by simpa using hi)) h hv hQ
      have : St.hp ⟨hset st.h k (.dfd false), st.nx⟩ = hpSet st.hp k (some (.dfd false)) := hget_hset _ _ _
      rw [this]; exact inv'
    · cases h

theorem afunc_ok {F : Fence} (hF : Free F) (hr : F.round = none) (hname : ∀ (f : Nat) (fn : Func), P.funcs[f]? = some fn → fn.name ≠ "runtime.NumGoroutine") {W : World} {ok : R → Prop} {H : Hand R} (hH : HandOk F P G W ok H) {fin : List AV → Nat → AV → St → AV × St} (hfin : ∀ args n, FinOk G (fin args n)) {f : FuncId} {args : List AV} {K : AV → St → R} {st : St}
    (h : ok (afunc P G H fin f args K st)) : CallOk F P G W f args (fun v st => ok (K v st)) st := by
  intro M w vs inv hargs
  unfold afunc at h
  split at h
  · rename_i fn hfn
    split at h
    · rename_i c hc
      refine ⟨⟨fn, hfn, by simp [hc], hname f fn hfn⟩, fun n => ?_⟩
      refine callsIn_of_wp_marks hfn hc (hF.fn f) ?_ hr
      have sim : Sim G W M (fr0 fn.ntmps args) st { tmps := vs ++ Array.replicate (fn.ntmps - vs.size) undef, defers := [] } w := by
        refine ⟨inv, ?_, ⟨rfl, fun i key hi => by simp [fr0] at hi⟩⟩
        have hsz : vs.size = args.length := by have := hargs.1; simp at this; exact this.symm
        refine ⟨by simp [fr0, hsz], fun i h1 h2 => ?_⟩
        simp only [fr0, List.length_append, List.length_replicate] at h1
        by_cases hi : i < args.length
        · simp only [fr0]
          rw [List.getElem_append_left hi, Array.getElem_append_left (by omega)]
          exact hargs.getA i hi (by omega)
        · simp only [fr0]
          rw [List.getElem_append_right (by omega)]
          simp only [List.getElem_replicate]
          exact .undef
      refine wpIn_mono (crun_sound hF hH c _ _ _ h M _ w n sim) ?_
      rintro e a w' ⟨M', fr, st', x, hM, sim', rfl, hk⟩
      have leave : ok (kleave P H fn.results.toList (fin args st.nx) K .ret fr st') → LeavesInM F n P fn a.tmps (fun e w' => ∃ M' v av st', e = .returned v ∧ M.le M' ∧ Inv G M' (· < st'.nx) st'.hp W w' ∧ M'.rel av v ∧ ok (K av st')) a.defers .returning w' := by
        intro hk
        simp only [kleave] at hk
        split at hk
        · rename_i st'' hst
          split at hk
          · rename_i v hv
            refine closeMarks_ok rfl fr.marks a.defers st' st'' w' v sim'.rs sim'.inv sim'.defers.1 sim'.defers.2 hst hv ?_
            intro u w2 inv2 hu
            obtain ⟨M2, q1, q2, q3⟩ := hfin args st.nx inv2 hu
            exact ⟨M2, u, _, _, rfl, Mem.le_trans hM q1, q2, q3, hk⟩
          · exact absurd hk hH.fail
        · exact absurd hk hH.fail
      cases x with
      | normal => exact leave hk
      | ret => exact leave hk
      | exit id => exact absurd hk hH.fail
      | goto l => exact absurd hk hH.fail
    · exact absurd h hH.fail
  · exact absurd h hH.fail

end Go.Proofs.Pv
