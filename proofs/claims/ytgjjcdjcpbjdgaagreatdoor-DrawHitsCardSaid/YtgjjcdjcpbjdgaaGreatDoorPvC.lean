/-
  The abstract machine, part C: what it does to values is what the model does: operations that change no block.
  Conditions: the invariant 'Inv' between the abstract state and the model's world.
-/
import Derived.Test.YtgjjcdjcpbjdgaaGreatDoorPvB
namespace Go.Proofs.Pv
set_option linter.unusedVariables false
set_option linter.unusedSimpArgs false
open Go
variable {P : Program} {G : Nat → Option (List AV)} {M : Mem} {al : Nat → Prop} {hp : Hp} {W w : World}

theorem ofV1_rel {I : Imm} {L : Lo} {T : To} (k : Nat) (v : Value) : Rel I L T (ofV1 k v) v := by
  unfold ofV1
  split
  all_goals first
    | exact Rel.sl (rows := []) (b := 0) (o := 0) (c := 0) (fun _ => undef) (Nat.le_refl _) (by simp) (fun q hq => by simp at hq) (by simp) (by simp) (fun j i hj => by simp at hj) rfl
    | constructor

theorem ofVs_rel {I : Imm} {L : Lo} {T : To} : ∀ (ks : List Nat) (vs : List Value), (ofVs ks vs).length = vs.length ∧ ∀ i (h : i < (ofVs ks vs).length) (h' : i < vs.length), Rel I L T (ofVs ks vs)[i] vs[i]
  | ks, [] => by cases ks <;> exact ⟨rfl, fun i h => by simp [ofVs] at h⟩
  | [], v :: vs => by
    obtain ⟨h1, h2⟩ := ofVs_rel (I := I) (L := L) (T := T) [] vs
    refine ⟨by simp [ofVs, h1], fun i h h' => ?_⟩
    cases i with
    | zero => exact ofV1_rel 0 v
    | succ i => exact h2 i (by simpa [ofVs] using h) (by simpa using h')
  | k :: ks, v :: vs => by
    obtain ⟨h1, h2⟩ := ofVs_rel (I := I) (L := L) (T := T) ks vs
    refine ⟨by simp [ofVs, h1], fun i h h' => ?_⟩
    cases i with
    | zero => exact ofV1_rel k v
    | succ i => exact h2 i (by simpa [ofVs] using h) (by simpa using h')

theorem evC_rel {I : Imm} {L : Lo} {T : To} (ty : TypeId) (v : Value) : Rel I L T (evC P ty v) v := by
  unfold evC
  split
  · rename_i cs
    obtain ⟨h1, h2⟩ := ofVs_rel (I := I) (L := L) (T := T) (cellKs P 8 ty) cs.toList
    exact .agg (by simpa using h1.symm) (fun i h h' => by have := h2 i h (by simpa using h'); rwa [Array.getElem_toList] at this)
  · exact ofV1_rel _ _

/-- The slots of a frame. -/
def RelS (M : Mem) (s : List AV) (tmps : Array Value) : Prop := tmps.size = s.length ∧ ∀ i (h : i < s.length) (h' : i < tmps.size), M.rel s[i] tmps[i]

theorem RelS.mono {M M' : Mem} (h : M.le M') {s : List AV} {tmps : Array Value} (r : RelS M s tmps) : RelS M' s tmps :=
  ⟨r.1, fun i h1 h2 => M.rel_mono h (r.2 i h1 h2)⟩

theorem RelS.get {s : List AV} {tmps : Array Value} (r : RelS M s tmps) (t : Nat) : M.rel (s.getD t .undef) (tmps.getD t undef) := by
  by_cases h : t < s.length
  · have h' : t < tmps.size := by rw [r.1]; exact h
    simpa [List.getD_eq_getElem?_getD, h, Array.getD, h'] using r.2 t h h'
  · simp only [List.getD_eq_getElem?_getD, List.getElem?_eq_none (Nat.le_of_not_lt h), Option.getD_none]
    exact .undef

theorem RelS.set {s : List AV} {tmps : Array Value} (r : RelS M s tmps) (t : Nat) {a : AV} {v : Value} (h : M.rel a v) : RelS M (s.set t a) (tmps.setIfInBounds t v) := by
  refine ⟨by simpa using r.1, fun i h1 h2 => ?_⟩
  by_cases e : t = i
  · subst e
    have h1' : t < s.length := by simpa using h1
    simpa using h
  · have h1' : i < s.length := by simpa using h1
    have h2' : i < tmps.size := by simpa using h2
    have := r.2 i h1' h2'
    rw [Array.getElem_setIfInBounds (by simpa using h2'), List.getElem_set]
    simpa [e] using this

theorem ev_rel (inv : Inv G M al hp W w) {s : List AV} {a : Act} (r : RelS M s a.tmps) (ty : TypeId) (x : Operand) : M.rel (ev P G s ty x) (a.eval x) := by
  cases x with
  | tmp t => exact r.get t
  | const v =>
    by_cases hv : v = .slice none 0 0
    · subst hv
      show M.rel (.sl (kOf P ty) [] (mutOf G ty)) (.slice none 0 0)
      unfold mutOf
      split
      · exact Rel.sl (t := .mut) (rows := []) (b := 0) (o := 0) (c := 0) (fun _ => undef) (Nat.le_refl _) (by simp) (fun q hq => by simp at hq) (by simp) (by simp) (fun j i hj => by simp at hj) rfl
      · exact Rel.sl (t := .full) (rows := []) (b := 0) (o := 0) (c := 0) (fun _ => undef) (Nat.le_refl _) (by simp) (fun q hq => by simp at hq) (by simp) (by simp) (fun j i hj => by simp at hj) rfl
    · have : evK P G ty v = evC P ty v := by
        unfold evK
        split <;> first | rfl | exact absurd rfl hv
      show M.rel (evK P G ty v) v
      rw [this]; exact evC_rel ty v
  | global g =>
    simp only [ev, Act.eval]
    split
    · rename_i cs hg; exact (inv.glob g cs hg).of_pure
    · exact .undef
  | func f => exact .fn rfl rfl (fun i h => by simp at h) (fun i h => by simp at h)

/-! ### Types -/
theorem sz_info {t : TypeId} {n : Nat} (h : sz P t = some n) : ∃ i, P.info? t = some i ∧ i.size = n := by
  unfold sz at h
  split at h
  · rename_i i d hi hd; exact ⟨i, hi, by simpa using h⟩
  · cases h
theorem sz_und {t : TypeId} {n : Nat} (h : sz P t = some n) : ∃ d, P.underlying t = some d := by
  unfold sz at h
  split at h
  · rename_i i d hi hd; exact ⟨d, hd⟩
  · cases h
theorem run_sizeOf {t : TypeId} {n : Nat} (h : sz P t = some n) : (sizeOf t).run P w = .ok n w := by
  obtain ⟨i, hi, rfl⟩ := sz_info h
  simp [sizeOf, typeInfo, hi]
theorem run_und {t : TypeId} {d : TypeDesc} (h : P.underlying t = some d) : (underlying t).run P w = .ok d w := by
  simp [underlying, h]
theorem run_isAgg {t : TypeId} {d : TypeDesc} (h : P.underlying t = some d) : (isAgg t).run P w = .ok (ag P t) w := by
  simp only [isAgg, Sem.run_bind, run_und h, Result.andThen_ok, ag, h]
  cases d <;> rfl

/-! ### Reading -/
theorem Addr.add_none (b o n : Nat) : (⟨b, o, none⟩ : Addr).add n = ⟨b, o + n, none⟩ := by
  unfold Addr.add; split <;> simp_all

/-- Cells of the world, from an address on, that are what abstract cells say. -/
def CellsAt (L : Lo) (T : To) (I : Imm) (w : World) (b o : Nat) (cs : List AV) : Prop :=
  ∀ i (h : i < cs.length), ∃ v, w.cell? ⟨b, o + i, none⟩ = some v ∧ Rel I L T cs[i] v

theorem CellsAt.drop {L T I} {b o : Nat} {cs : List AV} (h : CellsAt L T I w b o cs) (n : Nat) : CellsAt L T I w b (o + n) (cs.drop n) := by
  intro i hi
  obtain ⟨v, h1, h2⟩ := h (n + i) (by simp at hi; omega)
  exact ⟨v, by rw [← h1]; congr 2; omega, by simpa using h2⟩
theorem CellsAt.take {L T I} {b o : Nat} {cs : List AV} (h : CellsAt L T I w b o cs) (n : Nat) : CellsAt L T I w b o (cs.take n) := by
  intro i hi
  obtain ⟨v, h1, h2⟩ := h i (by simp at hi; omega)
  exact ⟨v, h1, by simpa using h2⟩

theorem cell?_of_heap {b : Nat} {c : Array Value} {e : TypeId} {fr : Nat × Nat} (h : w.heap[b]? = some (.cells c e fr)) (i : Nat) : w.cell? ⟨b, i, none⟩ = c[i]? := by
  simp [World.cell?, h]

theorem cellsAt_live (inv : Inv G M al hp W w) {key : Nat} {cs : List AV} (h : hp key = some (.cells cs)) : ∃ b, M.L key = some b ∧ CellsAt M.L M.T M.I w b 0 cs := by
  obtain ⟨b, ob, hb, ho, hl, _, _⟩ := inv.live _ _ h
  cases ob <;> simp only [LiveAs] at hl
  rename_i c e fr
  refine ⟨b, by simpa [Mem.blockOf, Blk.isTok] using hb, fun i hi => ?_⟩
  have hi' : i < c.size := Nat.lt_of_lt_of_le hi hl.2.1
  exact ⟨c[i], by rw [Nat.zero_add, cell?_of_heap ho]; simp [hi'], hl.2.2.1 i hi hi'⟩

theorem cellsAt_vp (inv : Inv G M al hp W w) {cs : List AV} {b o : Nat} (vs : Nat → Value) (hI : ∀ q, q < cs.length → M.I b (o + q) = some (vs q))
    (hR : ∀ i (hi : i < cs.length), Rel M.I noL noT cs[i] (vs i)) : CellsAt M.L M.T M.I w b o cs :=
  fun i hi => ⟨vs i, inv.imm _ _ _ (hI i hi), (hR i hi).of_pure⟩

theorem run_loadCells_at {L T I} {b o n : Nat} {cs : List AV} (h : CellsAt L T I w b o cs) (hn : n ≤ cs.length) :
    ∃ vs : Array Value, (loadCells ⟨b, o, none⟩ n).run P w = .ok vs w ∧ vs.size = n ∧ ∀ i (h1 : i < n) (h2 : i < vs.size) (h3 : i < cs.length), Rel I L T cs[i] vs[i] := by
  have hx : ∀ i, ∃ v, (i < cs.length → w.cell? ⟨b, o + i, none⟩ = some v ∧ ∀ h : i < cs.length, Rel I L T cs[i] v) := by
    intro i
    by_cases hi : i < cs.length
    · obtain ⟨v, h1, h2⟩ := h i hi; exact ⟨v, fun _ => ⟨h1, fun _ => h2⟩⟩
    · exact ⟨undef, fun h => absurd h hi⟩
  obtain ⟨f, hf⟩ := Classical.axiomOfChoice hx
  refine ⟨((List.range n).map f).toArray, run_loadCells w _ n f (fun j hj => ?_), by simp, fun i h1 h2 h3 => ?_⟩
  · rw [Addr.add_none]; exact (hf j (by omega)).1
  · simpa using (hf i h3).2 h3

theorem run_loadVar_at {L T I} {t : TypeId} {d : TypeDesc} {n : Nat} {b o : Nat} {cs : List AV} {av : AV} (hd : P.underlying t = some d) (hn : sz P t = some n)
    (h : CellsAt L T I w b o cs) (hv : mkv (ag P t) n cs = some av) : ∃ v, (loadVar t ⟨b, o, none⟩).run P w = .ok v w ∧ Rel I L T av v := by
  unfold mkv at hv
  split at hv
  · rename_i hle
    by_cases ha : ag P t = true
    · simp only [ha, if_true, Option.some.injEq] at hv
      subst hv
      obtain ⟨vs, h1, h2, h3⟩ := run_loadCells_at (P := P) h hle
      refine ⟨.agg vs, ?_, .agg (by simp [h2]; omega) (fun i hi hi' => ?_)⟩
      · simp [loadVar, run_isAgg hd, ha, run_sizeOf hn, h1]
      · have : i < n := by simp at hi; omega
        simpa using h3 i this hi' (by omega)
    · simp only [Bool.not_eq_true] at ha
      simp only [ha, Bool.false_eq_true, if_false] at hv
      cases cs with
      | nil => simp at hv
      | cons c cs =>
        simp only [List.head?_cons, Option.some.injEq] at hv
        subst hv
        obtain ⟨v, h1, h2⟩ := h 0 (by simp)
        refine ⟨v, ?_, by simpa using h2⟩
        simp only [Nat.add_zero] at h1
        simp [loadVar, run_isAgg hd, ha, h1]
  · cases hv

end Go.Proofs.Pv
