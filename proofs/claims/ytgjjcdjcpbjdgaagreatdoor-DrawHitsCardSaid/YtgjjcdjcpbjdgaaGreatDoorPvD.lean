/-
  The abstract machine, part D: how the invariant goes on when the model's world grows or one block of its own turns.
  Conditions: the invariant 'Inv'.
-/
import Derived.Test.YtgjjcdjcpbjdgaaGreatDoorPvC
import Derived.Laws.AppendOwn
namespace Go.Proofs.Pv
set_option linter.unusedVariables false
set_option linter.unusedSimpArgs false
open Go
variable {P : Program} {G : Nat → Option (List AV)} {M : Mem} {al : Nat → Prop} {hp : Hp} {W w : World}

theorem lt_of_heap {b : Nat} {ob : Obj} (h : w.heap[b]? = some ob) : b < w.heap.size := (Array.getElem?_eq_some_iff.1 h).1
theorem Inv.lt_I (inv : Inv G M al hp W w) {b o : Nat} {v : Value} (h : M.I b o = some v) : b < w.heap.size := by
  have := inv.imm b o v h
  unfold World.cell? at this
  split at this
  · rename_i h; exact lt_of_heap h
  · cases this
theorem Inv.lt_F (inv : Inv G M al hp W w) {b : Nat} {ob : Obj} (h : M.F b = some ob) : b < w.heap.size := lt_of_heap (inv.far b ob h)
theorem Inv.noI (inv : Inv G M al hp W w) {b : Nat} (h : w.heap.size ≤ b) (o : Nat) : M.I b o = none := by
  cases e : M.I b o with
  | none => rfl
  | some v => have := inv.lt_I e; omega
theorem Inv.noF (inv : Inv G M al hp W w) {b : Nat} (h : w.heap.size ≤ b) : M.F b = none := by
  cases e : M.F b with
  | none => rfl
  | some v => have := inv.lt_F e; omega

def Mem.addL (M : Mem) (k b : Nat) (z : Nat := 0) : Mem := { M with L := fun q => if q = k then some b else M.L q, T := fun q => if q = k then some (b, 0, z) else M.T q }
def Mem.addT (M : Mem) (k : Nat) (x : Nat × Nat × Nat) : Mem := { M with T := fun q => if q = k then some x else M.T q }
def Mem.addI (M : Mem) (b lo : Nat) (cs : List Value) : Mem := { M with I := fun q o => if q = b ∧ lo ≤ o ∧ o < lo + cs.length then cs[o - lo]? else M.I q o }
def hpSet (hp : Hp) (k : Nat) (x : Option Blk) : Hp := fun q => if q = k then x else hp q
def alAdd (al : Nat → Prop) (k : Nat) : Nat → Prop := fun q => al q ∨ q = k

theorem Mem.le_addL {k b z : Nat} (h : M.L k = none ∧ M.T k = none) : M.le (M.addL k b z) := by
  refine ⟨fun _ _ _ h => h, fun q x hq => ?_, fun q x hq => ?_, fun _ _ h => h, fun _ _ _ => rfl⟩
  · simp only [Mem.addL]
    split
    · rename_i e; subst e; rw [h.1] at hq; cases hq
    · exact hq
  · simp only [Mem.addL]
    split
    · rename_i e; subst e; rw [h.2] at hq; cases hq
    · exact hq
theorem Mem.le_addT {k : Nat} {x : Nat × Nat × Nat} (h : M.T k = none) : M.le (M.addT k x) := by
  refine ⟨fun _ _ _ h => h, fun _ _ h => h, fun q y hq => ?_, fun _ _ h => h, fun _ _ _ => rfl⟩
  simp only [Mem.addT]
  split
  · rename_i e; subst e; rw [h] at hq; cases hq
  · exact hq
theorem Mem.le_addI {b lo : Nat} {cs : List Value} (hF : M.F b = none) (h : ∀ o, lo ≤ o → o < lo + cs.length → M.I b o = none) : M.le (M.addI b lo cs) := by
  refine ⟨fun q o v hq => ?_, fun _ _ h => h, fun _ _ h => h, fun _ _ h => h, fun q o hf => ?_⟩
  · simp only [Mem.addI]
    split
    · rename_i e
      obtain ⟨rfl, h1, h2⟩ := e
      rw [h o h1 h2] at hq; cases hq
    · exact hq
  · simp only [Mem.addI]
    rw [if_neg]
    rintro ⟨rfl, _⟩
    exact hf hF

/-- A block is told anew where the memory's tale has grown, and nothing of its own room has been given away. -/
theorem LiveAs.grow {M' : Mem} (h : M.le M') {key : Nat} {blk : Blk} {ob : Obj} (hl : LiveAs M key blk ob)
    (hI : blk.isTok = true → ∀ b e z, M.T key = some (b, e, z) → ∀ o, e ≤ o → M'.I b o = none) : LiveAs M' key blk ob := by
  cases blk <;> cases ob <;> simp only [LiveAs] at hl ⊢ <;> try exact hl
  · obtain ⟨b, z, h3, h4⟩ := hl.2.2.2
    exact ⟨hl.1, hl.2.1, fun i h1 h2 => M.rel_mono h (hl.2.2.1 i h1 h2), b, z, h.T _ _ h3, h4⟩
  · obtain ⟨h1, b, e, z, h2, h3, h4, h5⟩ := hl
    exact ⟨h1, b, e, z, h.T _ _ h2, h3, h4, hI rfl b e z h2⟩
  · exact ⟨hl.1, hl.2.1, fun i h1 h2 => ⟨M.rel_mono h (hl.2.2 i h1 h2).1, M.rel_mono h (hl.2.2 i h1 h2).2.1, (hl.2.2 i h1 h2).2.2⟩⟩
  · obtain ⟨⟨b, h1, h2⟩, h3⟩ := hl; exact ⟨⟨b, h.L _ _ h1, h2⟩, h3⟩
  · obtain ⟨a, b, d, e, f, g, i, j⟩ := hl; exact ⟨a, b, d, e, f, h.L _ _ g, i, fun x h1 h2 => M.rel_mono h (j x h1 h2)⟩

theorem Mem.blockOf_mono {M' : Mem} (h : M.le M') {key : Nat} {blk : Blk} {b : Nat} (hb : M.blockOf key blk = some b) : M'.blockOf key blk = some b := by
  unfold Mem.blockOf at hb ⊢
  split
  · rename_i ht
    rw [if_pos ht] at hb
    cases hT : M.T key with
    | none => simp [hT] at hb
    | some x => rw [h.T _ _ hT]; simpa [hT] using hb
  · rename_i ht
    rw [if_neg ht] at hb
    exact h.L _ _ hb

theorem Inv.blk_lt (inv : Inv G M al hp W w) {key : Nat} {blk : Blk} (h : hp key = some blk) {b : Nat} (hb : M.blockOf key blk = some b) : b < w.heap.size := by
  obtain ⟨b', ob, h1, h2, _⟩ := inv.live _ _ h
  rw [hb] at h1; cases h1; exact lt_of_heap h2

theorem Inv.al_of (inv : Inv G M al hp W w) {key : Nat} {blk : Blk} (h : hp key = some blk) : al key := by
  obtain ⟨b, ob, h1, _⟩ := inv.live _ _ h
  by_cases ha : al key
  · exact ha
  · have := inv.fresh key ha
    unfold Mem.blockOf at h1
    split at h1 <;> simp_all

/-- A new block, tracked. -/
theorem Inv.alloc (inv : Inv G M al hp W w) {nx : Nat} (hn : ¬ al nx) {z : Nat} (blk : Blk) (ob : Obj) (ht : blk.isTok = false)
    (hl : LiveAs (M.addL nx w.heap.size z) nx blk ob) :
    M.le (M.addL nx w.heap.size z) ∧ Inv G (M.addL nx w.heap.size z) (alAdd al nx) (hpSet hp nx (some blk)) W (w.alloc ob) := by
  have hfr := inv.fresh nx hn
  have hle : M.le (M.addL nx w.heap.size z) := Mem.le_addL hfr
  have hold : ∀ k, k < w.heap.size → (w.alloc ob).heap[k]? = w.heap[k]? := fun k hk => by
    show (w.heap.push ob)[k]? = _; rw [Array.getElem?_push, if_neg (by omega)]
  have hnew : (w.alloc ob).heap[w.heap.size]? = some ob := by show (w.heap.push ob)[w.heap.size]? = _; simp
  refine ⟨hle, ?_⟩
  constructor
  · intro b o v h
    have h' : M.I b o = some v := h
    rw [World.cell?_of_block (w := w) (a := ⟨b, o, none⟩) (hold b (inv.lt_I h'))]; exact inv.imm b o v h'
  · intro b x h
    have h' : M.F b = some x := h
    rw [hold b (inv.lt_F h')]; exact inv.far b x h'
  · exact inv.os
  · exact inv.tape
  · exact inv.out
  · intro key hk
    have h1 : ¬ al key := fun h => hk (.inl h)
    have h2 : key ≠ nx := fun h => hk (.inr h)
    have := inv.fresh key h1
    simp [Mem.addL, h2, this]
  · intro key bk h
    by_cases e : key = nx
    · subst e
      simp only [hpSet, if_true, Option.some.injEq] at h
      subst h
      refine ⟨w.heap.size, ob, by simp [Mem.blockOf, ht, Mem.addL], hnew, hl, inv.noF (Nat.le_refl _), fun _ o => inv.noI (Nat.le_refl _) o⟩
    · simp only [hpSet, e, if_false] at h
      obtain ⟨b, x, h1, h2, h3, h4, h5⟩ := inv.live key bk h
      exact ⟨b, x, Mem.blockOf_mono hle h1, by rw [hold b (lt_of_heap h2)]; exact h2, h3.grow hle (fun htk b' e' z' hT o ho => by
        cases bk <;> simp [Blk.isTok] at htk
        cases x <;> simp only [LiveAs] at h3
        obtain ⟨_, b1, e1, z1, g1, _, _, g4⟩ := h3
        rw [hT] at g1; cases g1; exact g4 o ho), h4, h5⟩
  · intro k1 k2 b1 b2 b g1 g2 g3 g4
    by_cases e1 : k1 = nx <;> by_cases e2 : k2 = nx
    · rw [e1, e2]
    · subst e1
      simp only [hpSet, if_true, Option.some.injEq] at g1
      subst g1
      simp only [hpSet, e2, if_false] at g2
      obtain ⟨b', x, h1, h2, _⟩ := inv.live k2 b2 g2
      have h1' := Mem.blockOf_mono hle h1
      rw [g4] at h1'; cases h1'
      simp [Mem.blockOf, ht, Mem.addL] at g3
      have := lt_of_heap h2; omega
    · subst e2
      simp only [hpSet, if_true, Option.some.injEq] at g2
      subst g2
      simp only [hpSet, e1, if_false] at g1
      obtain ⟨b', x, h1, h2, _⟩ := inv.live k1 b1 g1
      have h1' := Mem.blockOf_mono hle h1
      rw [g3] at h1'; cases h1'
      simp [Mem.blockOf, ht, Mem.addL] at g4
      have := lt_of_heap h2; omega
    · simp only [hpSet, e1, if_false] at g1
      simp only [hpSet, e2, if_false] at g2
      obtain ⟨x1, _, h1, _⟩ := inv.live k1 b1 g1
      obtain ⟨x2, _, h2, _⟩ := inv.live k2 b2 g2
      have h1' := Mem.blockOf_mono hle h1
      have h2' := Mem.blockOf_mono hle h2
      rw [g3] at h1'; rw [g4] at h2'; cases h1'; cases h2'
      exact inv.inj k1 k2 b1 b2 b g1 g2 h1 h2
  · intro g cells h; exact inv.glob g cells h
  · intros; trivial

/-- A new block that will never turn. -/
theorem Inv.allocI (inv : Inv G M al hp W w) (c : Array Value) (e : TypeId) (n : Nat) (hn : n ≤ c.size) :
    M.le (M.addI w.heap.size 0 (c.toList.take n)) ∧ Inv G (M.addI w.heap.size 0 (c.toList.take n)) al hp W (w.alloc (.cells c e)) := by
  have hle : M.le (M.addI w.heap.size 0 (c.toList.take n)) := Mem.le_addI (inv.noF (Nat.le_refl _)) fun o _ _ => inv.noI (Nat.le_refl _) o
  have hold : ∀ k, k < w.heap.size → (w.alloc (.cells c e)).heap[k]? = w.heap[k]? := fun k hk => by
    show (w.heap.push _)[k]? = _; rw [Array.getElem?_push, if_neg (by omega)]
  refine ⟨hle, ?_⟩
  constructor
  · intro b o v h
    simp only [Mem.addI] at h
    split at h
    · rename_i hb
      obtain ⟨rfl, _, ho⟩ := hb
      rw [World.cell?_alloc_new]
      simp only [Nat.sub_zero, List.getElem?_take, Nat.zero_add, List.length_take] at h ho
      split at h
      · simpa using h
      · cases h
    · rw [World.cell?_of_block (w := w) (a := ⟨b, o, none⟩) (hold b (inv.lt_I h))]; exact inv.imm b o v h
  · intro b x h
    have h' : M.F b = some x := h
    rw [hold b (inv.lt_F h')]; exact inv.far b x h'
  · exact inv.os
  · exact inv.tape
  · exact inv.out
  · intro key hk; exact inv.fresh key hk
  · intro key bk h
    obtain ⟨b, x, h1, h2, h3, h4, h5⟩ := inv.live key bk h
    have hb := lt_of_heap h2
    refine ⟨b, x, h1, by rw [hold b hb]; exact h2, h3.grow hle (fun htk b' e' z' hT o ho => ?_), h4, fun ht o => ?_⟩
    · cases bk <;> simp [Blk.isTok] at htk
      cases x <;> simp only [LiveAs] at h3
      obtain ⟨_, b1, e1, z1, g1, _, _, g4⟩ := h3
      rw [hT] at g1; cases g1
      have : b = b' := by simpa [Mem.blockOf, Blk.isTok, hT] using h1.symm
      subst this
      simp only [Mem.addI]
      rw [if_neg (by omega)]; exact g4 o ho
    · simp only [Mem.addI]
      rw [if_neg (by omega)]; exact h5 ht o
  · exact inv.inj
  · intro g cells h; exact Rel.mono0 hle.I (inv.glob g cells h) (fun _ _ h => h) (fun _ _ h => h)
  · intros; trivial

/-- One tracked block turns. -/
theorem Inv.turn (inv : Inv G M al hp W w) {w' : World} {key b : Nat} {old new : Blk} {ob : Obj} (hk : hp key = some old) (hb : M.L key = some b) (ho : old.isTok = false) (hn : new.isTok = false)
    (hos : w'.os = w.os) (htape : w'.tape = w.tape) (hout : w'.output = w.output) (hoth : ∀ k, k ≠ b → w'.heap[k]? = w.heap[k]?) (hnew : w'.heap[b]? = some ob) (hl : LiveAs M key new ob) :
    Inv G M al (hpSet hp key (some new)) W w' := by
  obtain ⟨b0, ob0, g1, g2, g3, g4, g5⟩ := inv.live key old hk
  have hb0 : b0 = b := by simpa [Mem.blockOf, ho, hb] using g1.symm
  subst hb0
  have hIb : ∀ o, M.I b0 o = none := g5 ho
  constructor
  · intro q o v h
    have hq : q ≠ b0 := fun e => by subst e; rw [hIb o] at h; cases h
    rw [World.cell?_of_block (w := w) (a := ⟨q, o, none⟩) (hoth q hq)]; exact inv.imm q o v h
  · intro q x h
    have hq : q ≠ b0 := fun e => by subst e; rw [g4] at h; cases h
    rw [hoth q hq]; exact inv.far q x h
  · rw [hos]; exact inv.os
  · rw [htape]; exact inv.tape
  · rw [hout]; exact inv.out
  · exact inv.fresh
  · intro k bk h
    by_cases e : k = key
    · subst e
      simp only [hpSet, if_true, Option.some.injEq] at h
      subst h
      exact ⟨b0, ob, by simp [Mem.blockOf, hn, hb], hnew, hl, g4, fun _ => hIb⟩
    · simp only [hpSet, e, if_false] at h
      obtain ⟨q, x, h1, h2, h3, h4, h5⟩ := inv.live k bk h
      have hq : q ≠ b0 := fun eq => by subst eq; exact e (inv.inj k key bk old q h hk h1 g1)
      exact ⟨q, x, h1, by rw [hoth q hq]; exact h2, h3, h4, h5⟩
  · intro k1 k2 b1 b2 q h1 h2 h3 h4
    have tr : ∀ k bk, hpSet hp key (some new) k = some bk → M.blockOf k bk = some q → ∃ bk', hp k = some bk' ∧ M.blockOf k bk' = some q := by
      intro k bk h h'
      by_cases e : k = key
      · subst e
        simp only [hpSet, if_true, Option.some.injEq] at h
        subst h
        exact ⟨old, hk, by simpa [Mem.blockOf, hn, ho] using h'⟩
      · simp only [hpSet, e, if_false] at h
        exact ⟨bk, h, h'⟩
    obtain ⟨c1, d1, f1⟩ := tr k1 b1 h1 h3
    obtain ⟨c2, d2, f2⟩ := tr k2 b2 h2 h4
    exact inv.inj k1 k2 c1 c2 q d1 d2 f1 f2
  · exact inv.glob
  · intros; trivial

/-- A draw. -/
theorem Inv.drew (inv : Inv G M al hp W w) : Inv G M al hp W w.drew :=
  ⟨inv.imm, inv.far, inv.os, inv.tape, inv.out, inv.fresh, inv.live, inv.inj, inv.glob, inv.has⟩

/-- Tracked blocks may be forgotten. -/
theorem Inv.less (inv : Inv G M al hp W w) {hp' : Hp} (h : ∀ k b, hp' k = some b → hp k = some b) : Inv G M al hp' W w :=
  ⟨inv.imm, inv.far, inv.os, inv.tape, inv.out, inv.fresh, fun k b hk => inv.live k b (h k b hk), fun k1 k2 b1 b2 b h1 h2 => inv.inj k1 k2 b1 b2 b (h _ _ h1) (h _ _ h2), inv.glob, fun _ _ _ => trivial⟩

theorem Inv.more (inv : Inv G M al hp W w) {al' : Nat → Prop} (h : ∀ k, al k → al' k) : Inv G M al' hp W w :=
  ⟨inv.imm, inv.far, inv.os, inv.tape, inv.out, fun k hk => inv.fresh k (fun ha => hk (h k ha)), inv.live, inv.inj, inv.glob, fun _ _ _ => trivial⟩

end Go.Proofs.Pv
