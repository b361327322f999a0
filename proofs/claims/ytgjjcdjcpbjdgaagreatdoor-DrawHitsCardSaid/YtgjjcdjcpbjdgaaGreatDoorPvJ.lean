/-
  The abstract machine, part J: each operation, as the model carries it out.
  Conditions: the invariant 'Inv' and related slots; no function of the program bears the name of the runtime's own count of goroutines.
-/
import Derived.Test.YtgjjcdjcpbjdgaaGreatDoorPvU
namespace Go.Proofs.Pv
set_option linter.unusedVariables false
set_option linter.unusedSimpArgs false
open Go
variable {P : Program} {G : Nat → Option (List AV)} {M : Mem} {al : Nat → Prop} {hp : Hp} {W w : World}

def ResOk (P : Program) (G : Nat → Option (List AV)) (M : Mem) (al : Nat → Prop) (hp : Hp) (W : World) (nx : Nat) (w : World) (r : Result Next) : Res → Prop
  | .val v u => ∃ v' w' M', r = .ok (.value v') w' ∧ M.le M' ∧ Inv G M' (alAdd al nx) (updH hp u) W w' ∧ M'.rel v v'
  | .skip u => ∃ w' M', r = .ok .skip w' ∧ M.le M' ∧ Inv G M' (alAdd al nx) (updH hp u) W w'
  | .call f args => ∃ vs, RelL M.rel args vs.toList ∧ ∀ fn, P.funcs[f]? = some fn → fn.body.isSome = true → fn.name ≠ "runtime.NumGoroutine" → r = .ok (.enter f vs) w
  | .yield key args => ∃ l vs, M.L key = some l ∧ RelL M.rel args vs.toList ∧ r = (Instr.yield l vs).run P w
  | .branch l => ∃ v u, (v, u) ∈ l ∧ ∃ v' w' M', r = .ok (.value v') w' ∧ M.le M' ∧ Inv G M' (alAdd al nx) (updH hp u) W w' ∧ M'.rel v v'

theorem evs_rel (inv : Inv G M al hp W w) {s : List AV} {a : Act} (rs : RelS M s a.tmps) (ts : Array TypeId) : ∀ (xs : List Operand) (i : Nat), RelL M.rel (evs P G s ts i xs) (xs.map a.eval)
  | [], i => ⟨rfl, fun i a v h => by simp [evs] at h⟩
  | x :: xs, i => by
    have ih := evs_rel inv rs ts xs (i + 1)
    refine ⟨by simp [evs, ih.1], fun j b v h1 h2 => ?_⟩
    cases j with
    | zero =>
      simp [evs] at h1 h2
      subst h1; subst h2
      exact ev_rel inv rs _ x
    | succ j => exact ih.2 j b v (by simpa [evs] using h1) (by simpa using h2)

theorem amax_ok {lt : Int → Int → Bool} {f : Value → Value → Sem Value} (hf : ∀ k k' (x y : Int), (f (.int k x) (.int k' y)) = pure (.int k (if lt x y then y else x))) : ∀ (xs : List AV) (vs : List Value) (x av : AV) (vx : Value),
    M.rel x vx → RelL M.rel xs vs → amax lt x xs = some av → ∃ v, (vs.foldlM f vx).run P w = .ok v w ∧ M.rel av v
  | [], [], x, av, vx, hx, _, h => by simp [amax] at h; subst h; exact ⟨vx, by simp, hx⟩
  | y :: xs, v :: vs, x, av, vx, hx, hl, h => by
    cases x <;> cases y <;> simp only [amax] at h <;> try (cases h; done)
    rename_i k a k' b
    split at h
    · rename_i hk; subst hk
      have hv := hl.2 0 _ _ rfl rfl
      cases hx; cases hv
      obtain ⟨v', h1, h2⟩ := amax_ok hf xs vs _ av _ (.int (k := k) (n := if lt a b then b else a)) ⟨by simpa using hl.1, fun i p q g1 g2 => hl.2 (i + 1) p q (by simpa using g1) (by simpa using g2)⟩ h
      exact ⟨v', by simp [hf, h1], h2⟩
    · cases h
  | [], _ :: _, _, _, _, _, hl, _ => by simp [RelL] at hl
  | _ :: _, [], _, _, _, _, hl, _ => by simp [RelL] at hl

theorem alen_ok (inv : Inv G M al hp W w) {t : TypeId} {x av : AV} {vx : Value} (hx : M.rel x vx) (h : alen P hp t x = some av) (ts : Array TypeId) (h0 : ts.getD 0 0 = t) (hs : 0 < ts.size) (ty : TypeId) :
    ∃ v, (Builtin.len_ ts ty #[vx]).run P w = .ok v w ∧ M.rel av v := by
  have ht : ts[0]? = some t := by
    rw [Array.getElem?_eq_getElem hs]; simp [Array.getD, hs] at h0; rw [h0]
  unfold alen at h
  split at h
  · rename_i hu; cases hx; simp only [Option.some.injEq] at h; subst h
    exact ⟨_, by simp [Builtin.len_, ht, run_und hu, goInt]; done, .int⟩
  · rename_i hu; simp only [Option.some.injEq] at h; subst h
    obtain ⟨A, c, cs, rfl, _⟩ := Rel.sl_cells inv hx
    exact ⟨_, by simp [Builtin.len_, ht, run_und hu, goInt]; done, .int⟩
  · rename_i hu; cases hx; simp only [Option.some.injEq] at h; subst h
    exact ⟨_, by simp [Builtin.len_, ht, run_und hu, goInt]; done, .int⟩
  · rename_i hu; cases hx; simp only [Option.some.injEq] at h; subst h
    exact ⟨_, by simp [Builtin.len_, ht, run_und hu, goInt]; done, .int⟩
  · rename_i key hu
    split at h
    · rename_i es cl hk
      simp only [Option.some.injEq] at h; subst h
      cases hx with
      | @map _ _ _ b hL =>
        obtain ⟨b', ob, g1, g2, g3, _⟩ := inv.live _ _ hk
        have : b' = b := by simpa [Mem.blockOf, Blk.isTok, hL] using g1.symm
        subst this
        cases ob <;> simp only [LiveAs] at g3
        obtain ⟨_, g4, _⟩ := g3
        exact ⟨_, by simp [Builtin.len_, ht, run_und hu, goInt, getObj, Sem.run, g2, g4]; done, .int⟩
    · cases h
  · rename_i n e hu; simp only [Option.some.injEq] at h; subst h
    exact ⟨_, by simp [Builtin.len_, ht, run_und hu, goInt]; done, .int⟩
  · cases h

theorem arr1 {α : Type} {vs : Array α} (h : vs.size = 1) : ∃ v, vs = #[v] := by
  obtain ⟨l⟩ := vs
  match l, h with
  | [v], _ => exact ⟨v, rfl⟩
theorem arr2 {α : Type} {vs : Array α} (h : vs.size = 2) : ∃ v u, vs = #[v, u] := by
  obtain ⟨l⟩ := vs
  match l, h with
  | [v, u], _ => exact ⟨v, u, rfl⟩

theorem builtin_ok (inv : Inv G M al hp W w) {nx : Nat} (hn : ¬ al nx) {b : Builtin} {ts : Array TypeId} {ty : TypeId} {cst : Array Bool} {args : List AV} {vs : Array Value} {av : AV} {u : List (Nat × Option Blk)}
    (hl : ts.size = vs.size) (hr : RelL M.rel args vs.toList) (h : abuiltin P hp nx b ts args = some (av, u)) :
    ∃ v w' M', (builtin b ts ty cst vs).run P w = .ok (.value v) w' ∧ M.le M' ∧ Inv G M' (alAdd al nx) (updH hp u) W w' ∧ M'.rel av v := by
  unfold abuiltin at h
  split at h
  · rename_i x
    cases hq : alen P hp (ts.getD 0 0) x with
    | none => rw [hq] at h; cases h
    | some r =>
      simp only [hq, Option.map_some, Option.some.injEq, Prod.mk.injEq] at h
      obtain ⟨rfl, rfl⟩ := h
      have hvs : vs.size = 1 := by simpa using hr.1.symm
      obtain ⟨v, hv⟩ := arr1 hvs
      subst hv
      obtain ⟨v', h1, h2⟩ := alen_ok (P := P) (w := w) inv (hr.2 0 x v rfl rfl) hq ts rfl (by omega) ty
      exact ⟨v', w, M, by simp [builtin, h1], M.le_refl, inv.more fun k hk => .inl hk, h2⟩
  · rename_i s x
    split at h
    · rename_i ht
      have hvs : vs.size = 2 := by simpa using hr.1.symm
      obtain ⟨v, v2, hv⟩ := arr2 hvs
      subst hv
      obtain ⟨t0, t1, hts⟩ := arr2 (show ts.size = 2 by simpa using hl)
      subst hts
      simp at ht h
      subst ht
      split at h
      · rename_i hq
        simp only [Option.some.injEq] at h; subst h
        obtain ⟨v', w', M', h1, h2, h3, h4⟩ := aappend_ok (ty := ty) inv hn (hr.2 0 s v rfl rfl) (hr.2 1 x v2 rfl rfl) hq
        exact ⟨v', w', M', by simp [builtin, h1], h2, h3, h4⟩
      · obtain ⟨v', w', M', h1, h2, h3, h4⟩ := aappM_ok (ty := ty) inv hn (hr.2 0 s v rfl rfl) (hr.2 1 x v2 rfl rfl) h
        exact ⟨v', w', M', by simp [builtin, h1], h2, h3, h4⟩
    · cases h
  · rename_i x rest
    cases hq : amax (fun a b => decide (a < b)) x rest with
    | none => rw [hq] at h; cases h
    | some r =>
      simp only [hq, Option.map_some, Option.some.injEq, Prod.mk.injEq] at h
      obtain ⟨rfl, rfl⟩ := h
      obtain ⟨v0, vr, hv⟩ : ∃ v0 vr, vs.toList = v0 :: vr := by
        cases hvl : vs.toList with
        | nil => rw [hvl] at hr; simp [RelL] at hr
        | cons a b => exact ⟨a, b, rfl⟩
      rw [hv] at hr
      obtain ⟨v', h1, h2⟩ := amax_ok (P := P) (w := w) (f := Builtin.max2) (lt := fun a b => decide (a < b)) (fun k k' x y => by simp [Builtin.max2]) rest vr x _ v0 (hr.2 0 x v0 rfl rfl) ⟨by simpa using hr.1, fun i p q g1 g2 => hr.2 (i + 1) p q (by simpa using g1) (by simpa using g2)⟩ hq
      exact ⟨v', w, M, by simp [builtin, Builtin.max_, hv, h1], M.le_refl, inv.more fun k hk => .inl hk, h2⟩
  · rename_i x rest
    cases hq : amax (fun a b => decide (b < a)) x rest with
    | none => rw [hq] at h; cases h
    | some r =>
      simp only [hq, Option.map_some, Option.some.injEq, Prod.mk.injEq] at h
      obtain ⟨rfl, rfl⟩ := h
      obtain ⟨v0, vr, hv⟩ : ∃ v0 vr, vs.toList = v0 :: vr := by
        cases hvl : vs.toList with
        | nil => rw [hvl] at hr; simp [RelL] at hr
        | cons a b => exact ⟨a, b, rfl⟩
      rw [hv] at hr
      obtain ⟨v', h1, h2⟩ := amax_ok (P := P) (w := w) (f := Builtin.min2) (lt := fun a b => decide (b < a)) (fun k k' x y => by simp [Builtin.min2]) rest vr x _ v0 (hr.2 0 x v0 rfl rfl) ⟨by simpa using hr.1, fun i p q g1 g2 => hr.2 (i + 1) p q (by simpa using g1) (by simpa using g2)⟩ hq
      exact ⟨v', w, M, by simp [builtin, Builtin.min_, hv, h1], M.le_refl, inv.more fun k hk => .inl hk, h2⟩
  · rename_i d x
    have hvs : vs.size = 2 := by simpa using hr.1.symm
    obtain ⟨v, v2, hv⟩ := arr2 hvs
    subst hv
    obtain ⟨t0, t1, hts⟩ := arr2 (show ts.size = 2 by simpa using hl)
    subst hts
    obtain ⟨v', w', h1, h2, h3⟩ := acopy_ok (t := t0) (t1 := t1) (ty := ty) inv (hr.2 0 d v rfl rfl) (hr.2 1 x v2 rfl rfl) h
    exact ⟨v', w', M, by simp [builtin, h1], M.le_refl, h2.more fun k hk => .inl hk, h3⟩
  · cases h


theorem relO {s : List AV} {a : Act} (inv : Inv G M al hp W w) (rs : RelS M s a.tmps) (x : Option Operand) : RelO M (evo P G s x) (x.map a.eval) := by
  cases x with
  | none => exact trivial
  | some x => exact ev_rel inv rs 0 x

theorem parts_rel {s : List AV} {a : Act} (inv : Inv G M al hp W w) (rs : RelS M s a.tmps) (f : Nat → TypeId) (ps : Array (Nat × Operand)) :
    (ps.toList.map fun p => (p.1, ev P G s (f p.1) p.2)).length = (ps.map fun (i, x) => (i, a.eval x)).toList.length ∧
    ∀ (i : Nat) p q, (ps.toList.map fun p => (p.1, ev P G s (f p.1) p.2))[i]? = some p → (ps.map fun (i, x) => (i, a.eval x)).toList[i]? = some q → p.1 = q.1 ∧ M.rel p.2 q.2 := by
  refine ⟨by simp, fun i p q h1 h2 => ?_⟩
  rw [List.getElem?_map] at h1
  rw [Array.toList_map, List.getElem?_map] at h2
  cases hp : ps.toList[i]? with
  | none => rw [hp] at h1; cases h1
  | some r =>
    rw [hp] at h1 h2
    simp only [Option.map_some, Option.some.injEq] at h1 h2
    subst h1; subst h2
    exact ⟨rfl, ev_rel inv rs _ _⟩

theorem resOk_same (inv : Inv G M al hp W w) {nx : Nat} {r : Result Next} {av : AV} {v : Value} (hr : r = .ok (.value v) w) (h : M.rel av v) : ResOk P G M al hp W nx w r (.val av []) :=
  ⟨v, w, M, hr, M.le_refl, inv.more fun _ hk => .inl hk, h⟩

theorem resOk_of (inv : Inv G M al hp W w) {nx : Nat} {x : Sem Value} {oav : Option AV} {res : Res} (h : (oav.map fun v => Res.val v []) = some res) (hx : ∀ av, oav = some av → ∃ v, x.run P w = .ok v w ∧ M.rel av v) :
    ResOk P G M al hp W nx w ((do pure (.value (← x)) : Sem Next).run P w) res := by
  cases ho : oav with
  | none => rw [ho] at h; cases h
  | some av =>
    rw [ho] at h
    simp only [Option.map_some, Option.some.injEq] at h
    subst h
    obtain ⟨v, h1, h2⟩ := hx av ho
    exact resOk_same inv (v := v) (by simp [h1]) h2

set_option maxHeartbeats 1000000 in
theorem aop1_ok (inv : Inv G M al hp W w) {nx : Nat} (hn : ¬ al nx) {s : List AV} {a : Act} (rs : RelS M s a.tmps) {o : Oper} {res : Res} (h : aop1 P G s hp nx o = some res) :
    ResOk P G M al hp W nx w ((execOp a.eval o).run P w) res := by
  obtain ⟨dst, op, ty, pos, after, guard⟩ := o
  unfold aop1 at h
  cases op <;> simp only [oPick, oAlloc, oBox, oBuild, oBuildSlice, oNil, oConv, oFunc, oExtract, oCall] at h <;> try (cases h; done)
  case move x => simp only [Option.some.injEq] at h; subst h; exact resOk_same inv (v := a.eval x) (by simp [execOp]) (ev_rel inv rs _ _)
  case assign x => simp only [Option.some.injEq] at h; subst h; exact resOk_same inv (v := a.eval x) (by simp [execOp]) (ev_rel inv rs _ _)
  case pick c x y =>
    split at h
    · rename_i q hq
      simp only [Option.some.injEq] at h; subst h
      have hc := ev_rel (P := P) inv rs ty c
      rw [hq] at hc
      have hcv : a.eval c = .bool q := by
        have : ∀ v, M.rel (.bool q) v → v = .bool q := fun v hv => by cases hv; rfl
        exact this _ hc
      have hx := ev_rel (P := P) inv rs ty x
      have hy := ev_rel (P := P) inv rs ty y
      refine resOk_same inv (v := if q then a.eval x else a.eval y) (by simp [execOp, hcv, asBool]) ?_
      unfold AV.ite
      split
      · rename_i b1 b2 e1 e2
        rw [e1] at hx; rw [e2] at hy
        have : ∀ v b, M.rel (.bool b) v → v = .bool b := fun v b hv => by cases hv; rfl
        rw [this _ _ hx, this _ _ hy]
        cases q <;> exact .bool
      · cases q
        · exact hy
        · exact hx
    · cases h
  case alloc e =>
    split at h
    · rename_i z hz
      simp only [Option.some.injEq] at h; subst h
      obtain ⟨v, w', M', h1, h2, h3, h4⟩ := alloc_ok inv hn hz
      exact ⟨v, w', M', by simp [execOp, h1], h2, h3, h4⟩
    · cases h
  case box e x =>
    split at h
    · cases h
    · rename_i hu
      simp only [Option.some.injEq] at h; subst h
      obtain ⟨v, w', M', h1, h2, h3, h4⟩ := box_ok (P := P) (t := e) inv hn (ev_rel inv rs e x) (by simpa using hu)
      exact ⟨v, w', M', by simp [execOp, h1], h2, h3, h4⟩
  case build t ps =>
    split at h
    · rename_i z pl hz hpl
      refine resOk_of inv h fun av hav => ?_
      cases hf : fillA (fun i => pl[i]?) z (ps.toList.map fun p => (p.1, ev P G s (ptOf P t p.1) p.2)) with
      | none => rw [hf] at hav; cases hav
      | some cs =>
        rw [hf] at hav
        simp only [Option.map_some, Option.some.injEq] at hav
        subst hav
        obtain ⟨g1, g2⟩ := parts_rel (P := P) inv rs (ptOf P t) ps
        exact build_ok hz hpl g1 g2 hf
    · cases h
  case buildSlice t len ps =>
    obtain ⟨g1, g2⟩ := parts_rel (P := P) inv rs (fun _ => ptOf P t 0) ps
    obtain ⟨av, u, v, w', M', rfl, h1, h2, h3, h4⟩ := buildSlice_ok inv hn g1 g2 h
    exact ⟨v, w', M', by simp [execOp, h1], h2, h3, h4⟩
  case load t x => exact resOk_of inv h fun av hav => loadAt_ok inv (ev_rel inv rs _ _) hav
  case store t x y =>
    cases hu : astore P hp t (ev P G s 0 x) (ev P G s t y) with
    | none => rw [hu] at h; cases h
    | some u =>
      rw [hu] at h
      simp only [Option.map_some, Option.some.injEq] at h
      subst h
      obtain ⟨w', h1, h2⟩ := storeAt_ok inv (ev_rel inv rs _ _) (ev_rel inv rs _ _) hu
      exact ⟨w', M, by simp [execOp, h1], M.le_refl, h2.more fun _ hk => .inl hk⟩
  case nilCheck x =>
    have hx := ev_rel (P := P) inv rs ty x
    split at h
    all_goals first
      | (cases h; done)
      | (rename_i e
         simp only [Option.some.injEq] at h; subst h
         rw [e] at hx
         refine resOk_same inv (v := a.eval x) ?_ (by rw [e]; exact hx)
         generalize hv : a.eval x = v at hx
         cases hx <;> simp [execOp, hv])
  case binOp op t x y t' => exact resOk_of inv h fun av hav => binOp_ok (ev_rel inv rs _ _) (ev_rel inv rs _ _) hav
  case unOp op t x => exact resOk_of inv h fun av hav => unOp_ok (ev_rel inv rs _ _) hav
  case convert t u x =>
    have hx := ev_rel (P := P) inv rs t x
    split at h
    · rename_i d k q n h1 h2 h3
      simp only [Option.some.injEq] at h; subst h
      rw [h3] at hx
      generalize hv : a.eval x = v at hx
      cases hx
      refine resOk_same inv (v := .int k (k.wrap n)) ?_ .int
      simp only [execOp, hv, convert, Sem.run_bind, run_und h1, run_und h2, Result.andThen_ok, Conv.intToInt, Sem.run_pure]
    · rename_i d q h1 h2 h3
      simp only [Option.some.injEq] at h; subst h
      rw [h3] at hx
      generalize hv : a.eval x = v at hx
      cases hx
      refine resOk_same inv (v := .string q) ?_ .str
      simp only [execOp, hv, convert, Sem.run_bind, run_und h1, run_und h2, Result.andThen_ok, Sem.run_pure]
    · cases h
  case makeFunc fn first cap =>
    cases fn <;> simp only at h <;> try (cases h; done)
    rename_i f
    simp only [Option.some.injEq] at h; subst h
    refine resOk_same inv (v := .func (.func f) (first.map a.eval) (cap.map a.eval)) (by simp [execOp, Instr.makeFunc]) ?_
    exact .fn (by simp) (by simp) (fun i h1 h2 => by have h := ev_rel (P := P) inv rs 0 (first[i]'(by simpa using h1)); simp only [Mem.rel] at h; simpa using h) (fun i h1 h2 => by have h := ev_rel (P := P) inv rs 0 (cap[i]'(by simpa using h1)); simp only [Mem.rel] at h; simpa using h)
  case slice t x lo hi mx => exact resOk_of inv h fun av hav => sliceAt_ok (ev_rel inv rs _ _) (relO inv rs _) (relO inv rs _) (relO inv rs _) hav
  case fieldAddr t x f => exact resOk_of inv h fun av hav => fieldAt_ok (ev_rel inv rs _ _) hav
  case field t x f =>
    refine resOk_of inv h fun av hav => ?_
    unfold afield at hav
    have hx := ev_rel (P := P) inv rs t x
    split at hav
    · rename_i off n ft cs hf hcs
      obtain ⟨fs, fl, h1, h2, rfl, rfl, h4⟩ := fld_und hf
      rw [hcs] at hx
      generalize a.eval x = v at hx
      cases hx with
      | agg hs hr =>
        obtain ⟨v', g1, g2⟩ := part_ok (P := P) (w := w) hs hr hav
        exact ⟨v', by simp [Instr.field, run_und h1, h2, asAgg, g1], g2⟩
    · cases hav
  case indexAddr t x i => exact resOk_of inv h fun av hav => indexAt_ok (ev_rel inv rs _ _) (ev_rel inv rs _ _) hav
  case index t x i => exact resOk_of inv h fun av hav => index_ok (ev_rel inv rs _ _) (ev_rel inv rs _ _) hav
  case extract x i =>
    have hx := ev_rel (P := P) inv rs 0 x
    split at h
    · rename_i vs hvs
      refine resOk_of inv h fun av hav => ?_
      rw [hvs] at hx
      generalize a.eval x = v at hx
      cases hx with
      | @tup _ _ _ cs hs hr =>
        obtain ⟨hi, rfl⟩ := List.getElem?_eq_some_iff.1 hav
        have hi' : i < cs.size := by omega
        exact ⟨cs[i], by simp [Instr.extract, hi'], hr i hi hi'⟩
    · cases h
  case call c =>
    obtain ⟨callee, args, argTypes⟩ := c
    have hargs : RelL M.rel (evs P G s argTypes 0 args.toList) (args.map a.eval).toList := by rw [Array.toList_map]; exact evs_rel inv rs argTypes args.toList 0
    cases callee <;> simp only at h <;> try (cases h; done)
    case builtin b =>
      split at h
      case isFalse => cases h
      rename_i hsz
      cases hb : abuiltin P hp nx b argTypes (evs P G s argTypes 0 args.toList) with
      | none => rw [hb] at h; cases h
      | some r =>
        obtain ⟨av, u⟩ := r
        rw [hb] at h
        simp only [Option.map_some, Option.some.injEq] at h
        subst h
        obtain ⟨v, w', M', h1, h2, h3, h4⟩ := builtin_ok (ty := ty) (cst := args.map fun | .const _ => true | _ => false) inv hn (by simpa using hsz) hargs hb
        exact ⟨v, w', M', by simp [execOp, resolve, invoke]; exact h1, h2, h3, h4⟩
    case value f =>
      have hf := ev_rel (P := P) inv rs 0 f
      unfold acall at h
      split at h
      · rename_i g first cap hg
        simp only [Option.some.injEq] at h; subst h
        rw [hg] at hf
        generalize hv : a.eval f = v at hf
        cases hf with
        | @fn _ _ _ _ _ fs cs hfs hcs g1 g2 =>
          refine ⟨fs ++ (args.map a.eval) ++ cs, ?_, fun fn h1 h2 h3 => ?_⟩
          · simp only [Array.toList_append]
            exact ((RelL.of_get (by simpa using hfs) (fun i e1 e2 => by have := g1 i e1 (by simpa using e2); rwa [← Array.getElem_toList] at this)).append hargs).append (RelL.of_get (by simpa using hcs) (fun i e1 e2 => by have := g2 i e1 (by simpa using e2); rwa [← Array.getElem_toList] at this))
          · simp [execOp, resolve, hv, Deferred.ofValue, invoke, callFunc, h1, h3]
            intro hb; rw [hb] at h2; cases h2
      · rename_i key hg
        simp only [Option.some.injEq] at h; subst h
        rw [hg] at hf
        generalize hv : a.eval f = v at hf
        cases hf with
        | @yld _ _ _ l hL =>
          refine ⟨l, args.map a.eval, hL, hargs, ?_⟩
          simp [execOp, resolve, hv, Deferred.ofValue, invoke]
      · cases h

end Go.Proofs.Pv
