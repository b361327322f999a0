/-
  The abstract machine, part N: what an operation looks at; regions that draw their order of evaluation.
  Conditions: the invariant 'Inv'.
-/
import Derived.Test.YtgjjcdjcpbjdgaaGreatDoorPvM
namespace Go.Proofs.Pv
set_option linter.unusedVariables false
set_option linter.unusedSimpArgs false
open Go
variable {P : Program} {G : Nat → Option (List AV)}

def AV.keysOf : AV → List Nat
  | .ptr k _ | .msl k _ _ _ | .map k | .sl _ _ (.tok k) => [k]
  | _ => []
/-- The keys that an operation looks at. -/
def akeys (P : Program) (G : Nat → Option (List AV)) (s : List AV) (o : Oper) : List Nat :=
  match o.op with
  | .load _ a => (ev P G s o.type a).keysOf
  | .store _ a _ => (ev P G s 0 a).keysOf
  | .call c => match c.callee with
    | .builtin _ => (evs P G s c.argTypes 0 c.args.toList).flatMap AV.keysOf
    | _ => []
  | .lookup t x _ _ => (ev P G s t x).keysOf
  | .mapUpdate t m _ _ | .insert t m _ _ => (ev P G s t m).keysOf
  | .range t x => (ev P G s t x).keysOf
  | _ => []

theorem evs_congr {s s' : List AV} {ts : Array TypeId} : ∀ (xs : List Operand) (i : Nat), (∀ x ∈ xs, ∀ ty, ev P G s ty x = ev P G s' ty x) → evs P G s ts i xs = evs P G s' ts i xs
  | [], _, _ => rfl
  | x :: xs, i, h => by
    simp only [evs]
    rw [h x (by simp), evs_congr xs (i + 1) fun y hy => h y (by simp [hy])]

theorem aload_congr {g g' : Hp} {t : TypeId} {a : AV} (h : ∀ k ∈ a.keysOf, g k = g' k) : aload P g t a = aload P g' t a := by
  unfold aload; cases sz P t with
  | none => rfl
  | some n => cases a <;> first | rfl | (have := h _ (List.mem_singleton.2 rfl); simp only [this])
theorem astore_congr {g g' : Hp} {t : TypeId} {a v : AV} (h : ∀ k ∈ a.keysOf, g k = g' k) : astore P g t a v = astore P g' t a v := by
  cases a <;> first | (have := h _ (List.mem_singleton.2 rfl); simp only [astore, this]; done) | (simp only [astore])
theorem alen_congr {g g' : Hp} {t : TypeId} {a : AV} (h : ∀ k ∈ a.keysOf, g k = g' k) : alen P g t a = alen P g' t a := by
  by_cases hm : ∃ k, a = .map k
  · obtain ⟨k, rfl⟩ := hm
    have := h k (List.mem_singleton.2 rfl)
    unfold alen
    cases P.underlying t with
    | none => rfl
    | some d => cases d <;> first | rfl | (simp only [this])
  · unfold alen
    cases P.underlying t with
    | none => rfl
    | some d => cases d <;> cases a <;> first | rfl | exact absurd ⟨_, rfl⟩ hm
theorem aappend_congr {g g' : Hp} {nx : Nat} {t : TypeId} {a x : AV} (h : ∀ k ∈ a.keysOf, g k = g' k) : aappend P g nx t a x = aappend P g' nx t a x := by
  unfold aappend
  cases elt P t with
  | none => rfl
  | some e =>
    simp only
    cases sz P e <;> cases byt P e <;> cases a <;> cases x <;> try rfl
    rename_i tk _ _ _
    cases tk <;> try rfl
    have := h _ (List.mem_singleton.2 rfl)
    simp only [this]
theorem xcells_congr {g g' : Hp} {n : Nat} {x : AV} (h : ∀ k ∈ x.keysOf, g k = g' k) : xcells g n x = xcells g' n x := by
  cases x <;> first | rfl | (have := h _ (List.mem_singleton.2 rfl); simp only [xcells, this])
theorem aappM_congr {g g' : Hp} {nx : Nat} {t : TypeId} {a x : AV} (h : ∀ k ∈ a.keysOf, g k = g' k) (hx : ∀ k ∈ x.keysOf, g k = g' k) : aappM P g nx t a x = aappM P g' nx t a x := by
  unfold aappM
  cases elt P t with
  | none => rfl
  | some e =>
    simp only
    cases sz P e <;> cases byt P e <;> try rfl
    simp only
    rw [xcells_congr hx]
    cases a <;> try rfl
    have := h _ (List.mem_singleton.2 rfl)
    simp only [this]
theorem acopy_congr {g g' : Hp} {t : TypeId} {d x : AV} (h : ∀ k ∈ d.keysOf, g k = g' k) (hx : ∀ k ∈ x.keysOf, g k = g' k) : acopy P g t d x = acopy P g' t d x := by
  unfold acopy
  cases elt P t with
  | none => rfl
  | some e =>
    cases d <;> try rfl
    rename_i key off m k
    have := h key (List.mem_singleton.2 rfl)
    simp only [this]
    cases sz P e with
    | none => rfl
    | some n => simp only [xcells_congr hx]
theorem abuiltin_congr {g g' : Hp} {nx : Nat} {b : Builtin} {ts : Array TypeId} {args : List AV} (h : ∀ k ∈ args.flatMap AV.keysOf, g k = g' k) : abuiltin P g nx b ts args = abuiltin P g' nx b ts args := by
  unfold abuiltin
  split <;> try rfl
  · rw [alen_congr]; intro k hk; exact h k (by simp [hk])
  · rw [aappend_congr, aappM_congr]
    · intro k hk; exact h k (by simp [hk])
    · intro k hk; exact h k (by simp [hk])
    · intro k hk; exact h k (by simp [hk])
  · exact acopy_congr (fun k hk => h k (by simp [hk])) (fun k hk => h k (by simp [hk]))

theorem map_ps_congr {s s' : List AV} {f : Nat → TypeId} : ∀ (ps : List (Nat × Operand)), (∀ x ∈ ps.map (·.2), ∀ ty, ev P G s ty x = ev P G s' ty x) →
    ps.map (fun p => (p.1, ev P G s (f p.1) p.2)) = ps.map (fun p => (p.1, ev P G s' (f p.1) p.2))
  | [], _ => rfl
  | p :: ps, h => by
    simp only [List.map_cons]
    rw [h p.2 (by simp), map_ps_congr ps fun x hx => h x (by simp [hx])]
theorem map_ev_congr {s s' : List AV} {ty : TypeId} : ∀ (xs : List Operand), (∀ x ∈ xs, ∀ ty, ev P G s ty x = ev P G s' ty x) → xs.map (ev P G s ty) = xs.map (ev P G s' ty)
  | [], _ => rfl
  | x :: xs, h => by
    simp only [List.map_cons]
    rw [h x (by simp), map_ev_congr xs fun y hy => h y (by simp [hy])]
theorem evo_congr {s s' : List AV} {x : Option Operand} (h : ∀ y ∈ x.toArray, ∀ ty, ev P G s ty y = ev P G s' ty y) : evo P G s x = evo P G s' x := by
  cases x with
  | none => rfl
  | some y => simp only [evo, Option.map_some]; rw [h y (by simp)]

set_option maxHeartbeats 1000000 in
theorem aop1_congr {s s' : List AV} {g g' : Hp} {nx : Nat} {o : Oper} (hs : ∀ x ∈ o.op.operands, ∀ ty, ev P G s ty x = ev P G s' ty x) (hg : ∀ k ∈ akeys P G s o, g k = g' k) :
    aop1 P G s g nx o = aop1 P G s' g' nx o ∧ akeys P G s o = akeys P G s' o := by
  obtain ⟨dst, op, ty, pos, after, guard⟩ := o
  cases op <;> simp only [aop1, oPick, oAlloc, oBox, oBuild, oBuildSlice, oNil, oConv, oFunc, oExtract, oCall, akeys, Op.operands] at hs hg ⊢ <;> try trivial
  case move x => rw [hs x (by simp)]; trivial
  case assign x => rw [hs x (by simp)]; trivial
  case pick c a b => rw [hs c (by simp), hs a (by simp), hs b (by simp)]; trivial
  case box e x => rw [hs x (by simp)]; trivial
  case build t ps => rw [map_ps_congr ps.toList fun x hx => hs x (by simpa using hx)]; trivial
  case buildSlice t l ps => rw [map_ps_congr (f := fun _ => ptOf P t 0) ps.toList fun x hx => hs x (by simpa using hx)]; trivial
  case load t a => rw [aload_congr hg, hs a (by simp)]; trivial
  case store t a v => rw [astore_congr hg, hs a (by simp), hs v (by simp)]; trivial
  case nilCheck x => rw [hs x (by simp)]; trivial
  case binOp a b x y z => rw [hs x (by simp), hs y (by simp)]; trivial
  case unOp a b x => rw [hs x (by simp)]; trivial
  case convert a b x => rw [hs x (by simp)]; trivial
  case makeFunc t first cap =>
    cases t <;> try trivial
    simp only
    rw [map_ev_congr first.toList fun x hx => hs x (by simp at hx ⊢; exact .inl hx), map_ev_congr cap.toList fun x hx => hs x (by simp at hx ⊢; exact .inr hx)]; trivial
  case slice t x l h m =>
    rw [hs x (by simp), evo_congr (x := l) fun y hy => hs y (by simp at hy ⊢; simp [hy]), evo_congr (x := h) fun y hy => hs y (by simp at hy ⊢; simp [hy]), evo_congr (x := m) fun y hy => hs y (by simp at hy ⊢; simp [hy])]; trivial
  case fieldAddr t x f => rw [hs x (by simp)]; trivial
  case field t x f => rw [hs x (by simp)]; trivial
  case indexAddr t x i => rw [hs x (by simp), hs i (by simp)]; trivial
  case index t x i => rw [hs x (by simp), hs i (by simp)]; trivial
  case extract x i => rw [hs x (by simp)]; trivial
  case lookup t x i ok => rw [hs x (by simp)]; trivial
  case mapUpdate t m k v => rw [hs m (by simp)]; trivial
  case insert t m k v => rw [hs m (by simp)]; trivial
  case range t x => rw [hs x (by simp)]; trivial
  case call c =>
    obtain ⟨callee, args, ats⟩ := c
    have ha : evs P G s ats 0 args.toList = evs P G s' ats 0 args.toList := evs_congr _ _ fun x hx => hs x (by simp [Call.operands]; exact .inr (by simpa using hx))
    cases callee <;> simp only at hs hg ⊢
    · rename_i f
      rw [hs f (by simp [Call.operands]), ha]; trivial
    · trivial
    · rw [abuiltin_congr hg, ha]; trivial

theorem ents_congr {g g' : Hp} {a : AV} (h : ∀ k ∈ a.keysOf, g k = g' k) : ents g a = ents g' a := by
  cases a <;> first | rfl | (simp only [ents]; rw [h _ (List.mem_singleton.2 rfl)])

set_option maxHeartbeats 1000000 in
theorem aop2_congr {s s' : List AV} {g g' : Hp} {nx : Nat} {o : Oper} (hs : ∀ x ∈ o.op.operands, ∀ ty, ev P G s ty x = ev P G s' ty x) (hg : ∀ k ∈ akeys P G s o, g k = g' k) :
    aop2 P G s g nx o = aop2 P G s' g' nx o ∧ aop3 P G s nx o = aop3 P G s' nx o := by
  obtain ⟨dst, op, ty, pos, after, guard⟩ := o
  cases op <;> simp only [aop2, aop3, akeys, Op.operands] at hs hg ⊢ <;> try trivial
  case makeMap t r =>
    cases r with
    | none => trivial
    | some r => simp only; rw [hs r (by simp)]; trivial
  case lookup t x i ok =>
    rw [ents_congr hg]
    simp only [hs x (by simp), hs i (by simp)]; trivial
  case mapUpdate t m k v =>
    have e1 := hs m (by simp) t
    simp only [hs k (by simp), hs v (by simp)]
    refine ⟨?_, trivial⟩
    rw [e1] at hg ⊢
    cases P.underlying t with
    | none => rfl
    | some d =>
      generalize ev P G s' t m = y at hg ⊢
      cases d <;> first | rfl | (cases y <;> first | rfl | (have h1 := hg _ (List.mem_singleton.2 rfl); simp only [h1]))
  case insert t m k v =>
    have e1 := hs m (by simp) t
    simp only [hs k (by simp), hs v (by simp)]
    refine ⟨?_, trivial⟩
    rw [e1] at hg ⊢
    cases P.underlying t with
    | none => rfl
    | some d =>
      generalize ev P G s' t m = y at hg ⊢
      cases d <;> first | rfl | (cases y <;> first | rfl | (have h1 := hg _ (List.mem_singleton.2 rfl); simp only [h1]))
  case range t x =>
    have e1 := hs x (by simp) t
    refine ⟨?_, trivial⟩
    rw [e1] at hg ⊢
    cases P.underlying t with
    | none => rfl
    | some d =>
      generalize ev P G s' t x = y at hg ⊢
      cases d <;> first | rfl | (cases y <;> first | rfl | (have h1 := hg _ (List.mem_singleton.2 rfl); simp only [h1]))
  case binOp op t x y z => refine ⟨trivial, ?_⟩; rw [hs x (by simp)]
  case makeSlice t l c => refine ⟨trivial, ?_⟩; simp only [hs l (by simp), hs c (by simp)]

theorem aop_congr {s s' : List AV} {g g' : Hp} {nx : Nat} {o : Oper} (hs : ∀ x ∈ o.op.operands, ∀ ty, ev P G s ty x = ev P G s' ty x) (hg : ∀ k ∈ akeys P G s o, g k = g' k) :
    aopD P G s g nx o = aopD P G s' g' nx o ∧ akeys P G s o = akeys P G s' o := by
  obtain ⟨h1, h2⟩ := aop1_congr (nx := nx) hs hg
  obtain ⟨h3, h4⟩ := aop2_congr (nx := nx) hs hg
  exact ⟨by unfold aopD; rw [h1, h3, h4], h2⟩

end Go.Proofs.Pv
