/-
  The abstract machine, part BA: open proofs whose loops begin each round with the same keys: what a round has laid is forgotten, what it has made longer is named anew.
  The abstract machine, part BB: open proofs with all handlers; loops begin each round with the same keys.
  The abstract machine, part BC: the steps of an open proof in one text; where a condition is not known the run stands still.
  Scopes of labels, and ranges over functions, in the stepping lemmas.
  Conditions: none but those that each statement names.
-/
import Derived.Test.YtiikpmhjckdpgaaGreatDoorPvV
import Derived.IntWalk
namespace Go.Proofs.Pv
set_option linter.unusedSimpArgs false
set_option linter.unusedVariables false
open Go
variable {P : Program} {G : Nat → Option (List AV)}
def renK (n : Nat) : List (Nat × Nat) → Nat → Option Nat
 | [], k => if k < n then some k else none
 | p :: r, k => if k = p.1 then some p.2 else renK n r k
mutual
def AV.ren (f : Nat → Option Nat) : AV → AV
 | .ptr k o => match f k with
  | some k' => .ptr k' o
  | none => .ud
 | .msl k a b c => match f k with
  | some k' => .msl k' a b c
  | none => .ud
 | .mcap k a b c d => match f k with
  | some k' => .mcap k' a b c d
  | none => .ud
 | .map k => match f k with
  | some k' => .map k'
  | none => .ud
 | .yld k => match f k with
  | some k' => .yld k'
  | none => .ud
 | .sl n r (.tok k) => match f k with
  | some k' => .sl n r (.tok k')
  | none => .sl n r .none
 | .fn g a b => .fn g (AV.renL f a) (AV.renL f b)
 | .agg cs => .agg (AV.renL f cs)
 | .tup cs => .tup (AV.renL f cs)
 | .ifc t v => .ifc t (AV.ren f v)
 | x => x
def AV.renL (f : Nat → Option Nat) : List AV → List AV
 | [] => []
 | x :: xs => AV.ren f x :: AV.renL f xs
end
theorem AV.renL_eq (f : Nat → Option Nat) : ∀ l, AV.renL f l = l.map (AV.ren f)
 | [] => rfl
 | x :: xs => by simp only [AV.renL, List.map_cons, AV.renL_eq f xs]
theorem Rel.ren {I : Imm} {f : Nat → Option Nat} {L : Lo} {T : To} {a : AV} {v : Value} (h : Rel I L T a v) :
  ∀ {L' : Lo} {T' : To}, (∀ k k' b, f k = some k' → L k = some b → L' k' = some b) → (∀ k k' x, f k = some k' → T k = some x → T' k' = some x) → Rel I L' T' (a.ren f) v := by
 induction h with
 | ud => intros; exact .ud
 | int => intros; exact .int
 | bool => intros; exact .bool
 | str => intros; exact .str
 | @sl L T k c A rows t b o vs hc hA hI' hk hP hR ht ih =>
  intro L' T' hL hT
  by_cases htk : ∃ q, t = .tok q
  ·obtain ⟨q, rfl⟩ := htk
   simp only [AV.ren]
   split
   ·rename_i q' hq
    exact .sl vs hc hA hI' hk hP hR ⟨ht.1, ht.2.1, hT _ _ _ hq ht.2.2⟩
   ·exact .sl vs hc hA hI' hk hP hR trivial
  ·have e : (AV.sl k rows t).ren f = .sl k rows t := by cases t <;> first | rfl | exact absurd ⟨_, rfl⟩ htk
   rw [e]
   refine .sl vs hc hA hI' hk hP hR ?_
   cases t <;> first | exact ht | exact absurd ⟨_, rfl⟩ htk
 | msl h1 h2 h3 h4 =>
  intro L' T' hL hT
  simp only [AV.ren]
  split
  ·rename_i q' hq; exact .msl (hL _ _ _ hq h1) (hT _ _ _ hq h2) h3 h4
  ·exact .ud
 | mcap h1 h2 h3 h4 =>
  intro L' T' hL hT
  simp only [AV.ren]
  split
  ·rename_i q' hq; exact .mcap (hL _ _ _ hq h1) (hT _ _ _ hq h2) h3 h4
  ·exact .ud
 | vp vs hI' hR ih => intros; exact .vp vs hI' hR
 | ptr h1 =>
  intro L' T' hL hT
  simp only [AV.ren]
  split
  ·rename_i q' hq; exact .ptr (hL _ _ _ hq h1)
  ·exact .ud
 | nilp => intros; exact .nilp
 | fn hf hc _ _ ih1 ih2 =>
  intro L' T' hL hT
  simp only [AV.ren, AV.renL_eq]
  exact .fn (by simpa using hf) (by simpa using hc) (fun i h h' => by simpa using ih1 i (by simpa using h) h' hL hT) (fun i h h' => by simpa using ih2 i (by simpa using h) h' hL hT)
 | yld h1 =>
  intro L' T' hL hT
  simp only [AV.ren]
  split
  ·rename_i q' hq; exact .yld (hL _ _ _ hq h1)
  ·exact .ud
 | nilf => intros; exact .nilf
 | map h1 =>
  intro L' T' hL hT
  simp only [AV.ren]
  split
  ·rename_i q' hq; exact .map (hL _ _ _ hq h1)
  ·exact .ud
 | nilm => intros; exact .nilm
 | agg hs _ ih =>
  intro L' T' hL hT
  simp only [AV.ren, AV.renL_eq]
  exact .agg (by simpa using hs) (fun i h h' => by simpa using ih i (by simpa using h) h' hL hT)
 | tup hs _ ih =>
  intro L' T' hL hT
  simp only [AV.ren, AV.renL_eq]
  exact .tup (by simpa using hs) (fun i h h' => by simpa using ih i (by simpa using h) h' hL hT)
 | nili => intros; exact .nili
 | ifc _ ih => intro L' T' hL hT; exact .ifc (ih hL hT)
def ME.ren (f : Nat → Option Nat) (e : ME) : ME := ⟨e.key.ren f, e.val.ren f, e.born⟩
def Blk.ren (f : Nat → Option Nat) : Blk → Option Blk
 | .cells cs => some (.cells (cs.map (AV.ren f)))
 | .map es c => some (.map (es.map (ME.ren f)) c)
 | .mit m a b c => match f m with
  | some m' => some (.mit m' a b c)
  | none => none
 | .loop st pd s ps as bo d => match f d with
  | some d' => some (.loop st pd (s.map (AV.ren f)) ps as bo d')
  | none => none
 | x => some x
def hlowR (n : Nat) (f : Nat → Option Nat) (srcs : List Nat) : List (Nat × Blk) → Option (List (Nat × Blk))
 | [] => some []
 | (k, b) :: r => if k < n ∧ k ∉ srcs then (match b.ren f, hlowR n f srcs r with
  | some b', some r' => some ((k, b') :: r')
  | _, _ => none) else hlowR n f srcs r
def haccs (f : Nat → Option Nat) (h : List (Nat × Blk)) : List (Nat × Nat) → Option (List (Nat × Blk))
 | [] => some []
 | (a, k) :: r => match hget h a with
  | some b => (match b.ren f, haccs f h r with
   | some b', some r' => some ((k, b') :: r')
   | _, _ => none)
  | none => none
def accP (s : List AV) : List (Nat × Nat) → List (Nat × Nat)
 | [] => []
 | (t, k) :: r => match s.getD t .ud with
  | .sl _ _ (.tok q) => (q, k) :: accP s r
  | .msl q _ _ _ => (q, k) :: accP s r
  | .mcap q _ _ _ _ => (q, k) :: accP s r
  | .ptr q _ => (q, k) :: accP s r
  | .map q => (q, k) :: accP s r
  | _ => accP s r
def fitP (n n1 : Nat) : List (Nat × Nat) → Bool
 | [] => decide (n ≤ n1)
 | (a, b) :: r => decide (n ≤ b ∧ b < n1) && (r.all fun p => !(decide (p.1 = a)) && !(decide (p.2 = b))) && fitP n n1 r
def Fr.norm (n : Nat) (mask : List Bool) (accs : List (Nat × Nat)) (fr : Fr) : Fr := ⟨(fgtL mask fr.s).map (AV.ren (renK n (accP fr.s accs))), fr.marks⟩
def St.norm (n n1 : Nat) (accs : List (Nat × Nat)) (fr : Fr) (st : St) : Option St :=
 if (fitP n n1 (accP fr.s accs) && fr.marks.all fun k => decide (k < n)) = true then
  (match haccs (renK n (accP fr.s accs)) st.h (accP fr.s accs), hlowR n (renK n (accP fr.s accs)) ((accP fr.s accs).map (·.1)) st.h with
  | some a, some b => some ⟨a ++ b, n1⟩
  | _, _ => none)
 else none
def invP : List (Nat × Nat) → Nat → Option Nat
 | [], _ => none
 | p :: r, k => if k = p.2 then some p.1 else invP r k
def newL (n : Nat) (ρ : List (Nat × Nat)) {α : Type} (L : Nat → Option α) : Nat → Option α := fun k => if k < n then L k else (match invP ρ k with
 | some a => L a
 | none => none)
theorem renK_mem {n : Nat} : ∀ {ρ : List (Nat × Nat)} {k k' : Nat}, renK n ρ k = some k' → (k, k') ∈ ρ ∨ (k' = k ∧ k < n)
 | [], k, k', h => by
  simp only [renK] at h
  split at h
  ·rename_i hk; cases h; exact .inr ⟨rfl, hk⟩
  ·cases h
 | (a, b) :: r, k, k', h => by
  simp only [renK] at h
  split at h
  ·rename_i e; cases h; subst e; exact .inl (by simp)
  ·rcases renK_mem h with h | h
   ·exact .inl (List.mem_cons_of_mem _ h)
   ·exact .inr h
theorem fitP_mem {n n1 : Nat} : ∀ {ρ : List (Nat × Nat)}, fitP n n1 ρ = true → n ≤ n1 ∧ (∀ p ∈ ρ, n ≤ p.2 ∧ p.2 < n1) ∧ (∀ p ∈ ρ, ∀ q ∈ ρ, p.1 = q.1 → p = q) ∧ (∀ p ∈ ρ, ∀ q ∈ ρ, p.2 = q.2 → p = q)
 | [], h => by simp [fitP] at h; exact ⟨h, by simp, by simp, by simp⟩
 | (a, b) :: r, h => by
  simp only [fitP, Bool.and_eq_true, decide_eq_true_eq, List.all_eq_true, Bool.not_eq_true', decide_eq_false_iff_not] at h
  obtain ⟨⟨h1, h2⟩, h3⟩ := h
  obtain ⟨g0, g1, g2, g3⟩ := fitP_mem h3
  refine ⟨g0, ?_, ?_, ?_⟩
  ·intro p hp
   rcases List.mem_cons.1 hp with rfl | hp
   ·exact h1
   ·exact g1 p hp
  ·intro p hp q hq e
   rcases List.mem_cons.1 hp with rfl | hp
   ·rcases List.mem_cons.1 hq with rfl | hq
    ·rfl
    ·exact absurd e.symm (h2 q hq).1
   ·rcases List.mem_cons.1 hq with rfl | hq
    ·exact absurd e (h2 p hp).1
    ·exact g2 p hp q hq e
  ·intro p hp q hq e
   rcases List.mem_cons.1 hp with rfl | hp
   ·rcases List.mem_cons.1 hq with rfl | hq
    ·rfl
    ·exact absurd e.symm (h2 q hq).2
   ·rcases List.mem_cons.1 hq with rfl | hq
    ·exact absurd e (h2 p hp).2
    ·exact g3 p hp q hq e
theorem invP_mem : ∀ {ρ : List (Nat × Nat)} {k a : Nat}, invP ρ k = some a → (a, k) ∈ ρ
 | [], k, a, h => by simp [invP] at h
 | (x, y) :: r, k, a, h => by
  simp only [invP] at h
  split at h
  ·rename_i e; cases h; subst e; simp
  ·exact List.mem_cons_of_mem _ (invP_mem h)
theorem invP_of {ρ : List (Nat × Nat)} (hu : ∀ p ∈ ρ, ∀ q ∈ ρ, p.2 = q.2 → p = q) {a k : Nat} (h : (a, k) ∈ ρ) : invP ρ k = some a := by
 have : ∃ x, invP ρ k = some x := by
  clear hu
  induction ρ with
  | nil => cases h
  | cons p r ih =>
   simp only [invP]
   split
   ·exact ⟨_, rfl⟩
   ·rename_i hne
    rcases List.mem_cons.1 h with rfl | h
    ·exact absurd rfl hne
    ·exact ih h
 obtain ⟨x, hx⟩ := this
 have := hu _ (invP_mem hx) _ h rfl
 cases this
 exact hx
theorem newL_ren {n n1 : Nat} {ρ : List (Nat × Nat)} (hf : fitP n n1 ρ = true) {α : Type} {L : Nat → Option α} {k k' : Nat} {b : α} (h : renK n ρ k = some k') (hb : L k = some b) : newL n ρ L k' = some b := by
 obtain ⟨g0, g1, g2, g3⟩ := fitP_mem hf
 rcases renK_mem h with h | ⟨rfl, h⟩
 ·have := g1 _ h
  unfold newL
  have : ¬ k' < n := by simp only at this; omega
  rw [if_neg this, invP_of g3 h]
  exact hb
 ·unfold newL
  rw [if_pos h]; exact hb
def Mem.named (n : Nat) (ρ : List (Nat × Nat)) (M : Mem) : Mem := { I := M.I, L := newL n ρ M.L, T := newL n ρ M.T, F := M.F }
theorem Mem.le_named {n : Nat} {ρ : List (Nat × Nat)} {M0 M : Mem} (h : M0.le M) (hf : ∀ k, ¬ k < n → M0.L k = none ∧ M0.T k = none) : M0.le (M.named n ρ) := by
 refine ⟨h.I, fun k b hk => ?_, fun k x hk => ?_, h.F, h.IF⟩
 ·have : k < n := by
   by_cases h' : k < n
   ·exact h'
   ·rw [(hf k h').1] at hk; cases hk
  simp only [Mem.named, newL, if_pos this]
  exact h.L k b hk
 ·have : k < n := by
   by_cases h' : k < n
   ·exact h'
   ·rw [(hf k h').2] at hk; cases hk
  simp only [Mem.named, newL, if_pos this]
  exact h.T k x hk
theorem haccs_get {f : Nat → Option Nat} {h : List (Nat × Blk)} : ∀ {ρ : List (Nat × Nat)} {r : List (Nat × Blk)} {k : Nat} {b' : Blk}, haccs f h ρ = some r → hget r k = some b' → ∃ a b, (a, k) ∈ ρ ∧ hget h a = some b ∧ b.ren f = some b'
 | [], r, k, b', hh, hg => by simp [haccs] at hh; subst hh; simp [hget] at hg
 | (a, q) :: ρ, r, k, b', hh, hg => by
  simp only [haccs] at hh
  split at hh
  ·rename_i b hb
   split at hh
   ·rename_i b1 r1 h1 h2
    simp only [Option.some.injEq] at hh; subst hh
    simp only [hget] at hg
    split at hg
    ·rename_i e
     simp only [Option.some.injEq] at hg; subst hg; subst e
     exact ⟨a, b, by simp, hb, h1⟩
    ·obtain ⟨a', b2, g1, g2, g3⟩ := haccs_get h2 hg
     exact ⟨a', b2, List.mem_cons_of_mem _ g1, g2, g3⟩
   ·cases hh
  ·cases hh
theorem hlowR_get {n : Nat} {f : Nat → Option Nat} {srcs : List Nat} : ∀ {h r : List (Nat × Blk)} {k : Nat} {b' : Blk}, hlowR n f srcs h = some r → hget r k = some b' → k < n ∧ k ∉ srcs ∧ ∃ b, hget h k = some b ∧ b.ren f = some b'
 | [], r, k, b', hh, hg => by simp [hlowR] at hh; subst hh; simp [hget] at hg
 | (q, b) :: h, r, k, b', hh, hg => by
  simp only [hlowR] at hh
  split at hh
  ·rename_i hq
   split at hh
   ·rename_i b1 r1 h1 h2
    simp only [Option.some.injEq] at hh; subst hh
    simp only [hget] at hg
    split at hg
    ·rename_i e
     simp only [Option.some.injEq] at hg; subst hg; subst e
     exact ⟨hq.1, hq.2, b, by simp [hget], h1⟩
    ·rename_i hne
     obtain ⟨g1, g2, b2, g3, g4⟩ := hlowR_get h2 hg
     exact ⟨g1, g2, b2, by simp [hget, hne, g3], g4⟩
   ·cases hh
  ·rename_i hq
   obtain ⟨g1, g2, b2, g3, g4⟩ := hlowR_get hh hg
   have hne : ¬ k = q := by rintro rfl; exact hq ⟨g1, g2⟩
   exact ⟨g1, g2, b2, by simp [hget, hne, g3], g4⟩
theorem hget_append : ∀ (a b : List (Nat × Blk)) (k : Nat), hget (a ++ b) k = match hget a k with
  | some x => some x
  | none => hget b k
 | [], b, k => rfl
 | (q, x) :: a, b, k => by
  simp only [List.cons_append, hget]
  split
  ·rfl
  ·exact hget_append a b k
theorem Blk.ren_tok {f : Nat → Option Nat} {b b' : Blk} (h : b.ren f = some b') : b'.isTok = b.isTok := by
 cases b <;> simp only [Blk.ren] at h
 all_goals first
  | (cases h; rfl)
  | (split at h <;> first | (cases h; rfl) | cases h)
theorem LiveAs.named {n n1 : Nat} {ρ : List (Nat × Nat)} (hf : fitP n n1 ρ = true) {M : Mem} {k k' : Nat} (hk : renK n ρ k = some k') {b b' : Blk} {ob : Obj} (h : LiveAs M k b ob) (hb : b.ren (renK n ρ) = some b') : LiveAs (M.named n ρ) k' b' ob := by
 have hr : ∀ {a : AV} {v : Value}, M.rel a v → (M.named n ρ).rel (a.ren (renK n ρ)) v := fun r => Rel.ren r (fun k k' b h1 h2 => newL_ren hf h1 h2) (fun k k' b h1 h2 => newL_ren hf h1 h2)
 have hT : ∀ {x}, M.T k = some x → (M.named n ρ).T k' = some x := fun h => newL_ren hf hk h
 cases b with
 | cells cs =>
  simp only [Blk.ren, Option.some.injEq] at hb; subst hb
  cases ob <;> simp only [LiveAs] at h ⊢
  obtain ⟨h1, h2, h3, b, z, h4, h5⟩ := h
  exact ⟨h1, by simpa using h2, fun i hi hi' => by simpa using hr (h3 i (by simpa using hi) hi'), b, z, hT h4, h5⟩
 | tok =>
  simp only [Blk.ren, Option.some.injEq] at hb; subst hb
  cases ob <;> simp only [LiveAs] at h ⊢
  obtain ⟨h1, b, e, z, h4, h5⟩ := h
  exact ⟨h1, b, e, z, hT h4, h5⟩
 | map es c =>
  simp only [Blk.ren, Option.some.injEq] at hb; subst hb
  cases ob <;> simp only [LiveAs] at h ⊢
  obtain ⟨h1, h2, h3⟩ := h
  refine ⟨h1, by simpa using h2, fun i hi hi' => ?_⟩
  obtain ⟨g1, g2, g3⟩ := h3 i (by simpa using hi) hi'
  simp only [List.getElem_map, ME.ren]
  exact ⟨hr g1, hr g2, g3⟩
 | sit s p =>
  simp only [Blk.ren, Option.some.injEq] at hb; subst hb
  cases ob <;> simp only [LiveAs] at h ⊢
  exact h
 | mit m a b c =>
  simp only [Blk.ren] at hb
  split at hb
  ·rename_i m' hm
   simp only [Option.some.injEq] at hb; subst hb
   cases ob <;> simp only [LiveAs] at h ⊢
   obtain ⟨⟨b, h1, h2⟩, h3⟩ := h
   exact ⟨⟨b, newL_ren hf hm h1, h2⟩, h3⟩
  ·cases hb
 | nmit =>
  simp only [Blk.ren, Option.some.injEq] at hb; subst hb
  cases ob <;> simp only [LiveAs] at h ⊢
  exact h
 | loop st pd s ps as bo d =>
  simp only [Blk.ren] at hb
  split at hb
  ·rename_i d' hd
   simp only [Option.some.injEq] at hb; subst hb
   cases ob <;> simp only [LiveAs] at h ⊢
   obtain ⟨h1, h2, h3, h4, h5, h6, h7, h8⟩ := h
   exact ⟨h1, h2, h3, h4, h5, newL_ren hf hd h6, by simpa using h7, fun i hi hi' => by simpa using hr (h8 i (by simpa using hi) hi')⟩
  ·cases hb
 | dfd o =>
  simp only [Blk.ren, Option.some.injEq] at hb; subst hb
  cases ob <;> simp only [LiveAs] at h ⊢
  exact h
theorem Sim.norm {W : World} {M : Mem} {fr : Fr} {st st' : St} {a : Act} {w : World} {n n1 : Nat} {mask : List Bool} {accs : List (Nat × Nat)} (sim : Sim G W M fr st a w) (h : St.norm n n1 accs fr st = some st') :
  ∃ ρ, Sim G W (M.named n ρ) (fr.norm n mask accs) st' a w := by
 unfold St.norm at h
 split at h
 ·rename_i hc
  rw [Bool.and_eq_true] at hc
  obtain ⟨hfit, hmk⟩ := hc
  split at h
  ·rename_i ha hb e1 e2
   simp only [Option.some.injEq] at h; subst h
   refine ⟨accP fr.s accs, ?_⟩
   generalize hρ : accP fr.s accs = ρ at *
   obtain ⟨g0, g1, g2, g3⟩ := fitP_mem hfit
   have hr : ∀ {a : AV} {v : Value}, M.rel a v → (M.named n ρ).rel (a.ren (renK n ρ)) v := fun r => Rel.ren r (fun k k' b h1 h2 => newL_ren hfit h1 h2) (fun k k' b h1 h2 => newL_ren hfit h1 h2)
   have back : ∀ k b', hget (ha ++ hb) k = some b' → ∃ q b, renK n ρ q = some k ∧ hget st.h q = some b ∧ b.ren (renK n ρ) = some b' ∧ ((q, k) ∈ ρ ∨ (q = k ∧ k < n ∧ k ∉ ρ.map (·.1))) := by
    intro k b' hk
    rw [hget_append] at hk
    split at hk
    ·rename_i x hx
     simp only [Option.some.injEq] at hk; subst hk
     obtain ⟨q, b, k1, k2, k3⟩ := haccs_get e1 hx
     refine ⟨q, b, ?_, k2, k3, .inl k1⟩
     clear e1 e2 hx k3 hmk hρ hfit hr
     induction ρ with
     | nil => cases k1
     | cons p r ih =>
      simp only [renK]
      split
      ·rename_i e
       have := g2 _ k1 p (by simp) e
       rw [← this]
      ·rename_i hne
       rcases List.mem_cons.1 k1 with rfl | k1
       ·exact absurd rfl hne
       ·exact ih (fun p hp => g1 p (List.mem_cons_of_mem _ hp)) (fun p hp q hq => g2 p (List.mem_cons_of_mem _ hp) q (List.mem_cons_of_mem _ hq)) (fun p hp q hq => g3 p (List.mem_cons_of_mem _ hp) q (List.mem_cons_of_mem _ hq)) k1
    ·obtain ⟨k1, k2, b, k3, k4⟩ := hlowR_get e2 hk
     refine ⟨k, b, ?_, k3, k4, .inr ⟨rfl, k1, k2⟩⟩
     clear e1 e2 hk k3 k4 hmk hρ hfit g1 g2 g3 hr
     induction ρ with
     | nil => simp [renK, k1]
     | cons p r ih =>
      simp only [List.map_cons, List.mem_cons, not_or] at k2
      simp only [renK, if_neg k2.1]
      exact ih k2.2
   refine ⟨⟨sim.inv.imm, sim.inv.far, sim.inv.os, sim.inv.tape, sim.inv.out, fun key hkey => ?_, fun key blk hb => ?_, fun k1 k2 b1 b2 b h1 h2 h3 h4 => ?_, fun g cells hg => sim.inv.glob g cells hg, fun _ _ _ => trivial⟩, ⟨?_, fun i h1 h2 => ?_⟩, ?_⟩
   ·have hkey' : ¬ key < n1 := hkey
    have hn : ¬ key < n := by omega
    have : invP ρ key = none := by
     cases hi : invP ρ key with
     | none => rfl
     | some a => exact absurd (g1 _ (invP_mem hi)).2 hkey'
    simp [Mem.named, newL, hn, this]
   ·obtain ⟨q, b0, k1, k2, k3, _⟩ := back key blk hb
    obtain ⟨b, ob, m1, m2, m3, m4, m5⟩ := sim.inv.live q b0 k2
    refine ⟨b, ob, ?_, m2, m3.named hfit k1 k3, m4, fun ht => m5 (by rw [← Blk.ren_tok k3]; exact ht)⟩
    unfold Mem.blockOf at m1 ⊢
    rw [Blk.ren_tok k3]
    split
    ·rename_i ht
     rw [if_pos ht] at m1
     cases hT : M.T q with
     | none => rw [hT] at m1; cases m1
     | some x =>
      rw [hT] at m1
      show (newL n ρ M.T key).map (·.1) = some b
      rw [newL_ren hfit k1 hT]; exact m1
    ·rename_i ht
     rw [if_neg ht] at m1
     exact newL_ren hfit k1 m1
   ·obtain ⟨q1, c1, r1, r2, r3, r4⟩ := back k1 b1 h1
    obtain ⟨q2, c2, s1, s2, s3, s4⟩ := back k2 b2 h2
    have same : ∀ {q k : Nat} {c b' : Blk}, renK n ρ q = some k → hget st.h q = some c → c.ren (renK n ρ) = some b' → (M.named n ρ).blockOf k b' = some b → M.blockOf q c = some b := by
     intro q k c b' u1 u2 u3 u4
     obtain ⟨b0, ob, m1, m2, m3, m4, m5⟩ := sim.inv.live q c u2
     have : (M.named n ρ).blockOf k b' = some b0 := by
      unfold Mem.blockOf at m1 ⊢
      rw [Blk.ren_tok u3]
      split
      ·rename_i ht
       rw [if_pos ht] at m1
       cases hT : M.T q with
       | none => rw [hT] at m1; cases m1
       | some x =>
        rw [hT] at m1
        show (newL n ρ M.T k).map (·.1) = some b0
        rw [newL_ren hfit u1 hT]; exact m1
      ·rename_i ht
       rw [if_neg ht] at m1
       exact newL_ren hfit u1 m1
     rw [u4] at this
     cases this
     exact m1
    have e := sim.inv.inj q1 q2 c1 c2 b r2 s2 (same r1 r2 r3 h3) (same s1 s2 s3 h4)
    subst e
    rw [r1] at s1
    exact Option.some.inj s1
   ·simp only [Fr.norm, List.length_map, fgtL_len]; exact sim.rs.1
   ·have h1' : i < (fgtL mask fr.s).length := by simpa [Fr.norm] using h1
    have h0 : i < fr.s.length := by simpa [fgtL_len] using h1'
    simp only [Fr.norm, List.getElem_map, hρ]
    exact hr (fgtL_get mask fr.s i _ h0 h1' (sim.rs.2 i h0 h2))
   ·refine ⟨sim.defers.1, fun i key hi => ?_⟩
    obtain ⟨l, k1, k2⟩ := sim.defers.2 i key hi
    refine ⟨l, ?_, k2⟩
    have hlt : key < n := by
     have := List.all_eq_true.1 hmk key (List.mem_of_getElem? hi)
     simpa using this
    simp only [Mem.named, newL, if_pos hlt]
    exact k1
  ·cases h
 ·cases h
def roKindB (o : Oper) : Bool := roKind o || (match o.op with
 | .buildSlice _ _ _ => true
 | _ => false)
def roOkB (ops : Array Oper) : Bool := ops.toList.all roKindB && statOk ops (ancs ops.toList []) && callsOk ops (ancs ops.toList [])
theorem abslice_nx {nx nx' : Nat} {t : TypeId} {len : Nat} {parts : List (Nat × AV)} {v : AV} (h : abslice P nx t len parts = some (.val v [])) : abslice P nx' t len parts = some (.val v []) := by
 simp only [abslice] at h ⊢
 cases he : elt P t with
 | none => simp [he] at h
 | some e =>
  simp only [he] at h ⊢
  cases hz : zeroRow P e with
  | none => simp [hz] at h
  | some nz =>
   obtain ⟨n, z⟩ := nz
   simp only [hz] at h ⊢
   by_cases hle : len * n ≤ 16777216
   ·simp only [if_pos hle] at h ⊢
    cases hr : setRows n (List.replicate len z) (parts.map fun p => (p.1, p.2.strip)) with
    | none => simp [hr] at h
    | some rows =>
     simp only [hr] at h ⊢
     by_cases hp : rows.all AV.pureV = true
     ·simp only [if_pos hp] at h ⊢
      exact h
     ·simp only [if_neg hp] at h
      split at h <;> simp at h
   ·simp [if_neg hle] at h
theorem abslice_nocall {nx : Nat} {t : TypeId} {len : Nat} {parts : List (Nat × AV)} {f : FuncId} {args : List AV} (h : abslice P nx t len parts = some (.call f args)) : False := by
 simp only [abslice] at h
 cases he : elt P t with
 | none => simp [he] at h
 | some e =>
  simp only [he] at h
  cases hz : zeroRow P e with
  | none => simp [hz] at h
  | some nz =>
   obtain ⟨n, z⟩ := nz
   simp only [hz] at h
   by_cases hle : len * n ≤ 16777216
   ·simp only [if_pos hle] at h
    cases hr : setRows n (List.replicate len z) (parts.map fun p => (p.1, p.2.strip)) with
    | none => simp [hr] at h
    | some rows =>
     simp only [hr] at h
     by_cases hp : rows.all AV.pureV = true
     ·simp only [if_pos hp] at h
      simp at h
     ·simp only [if_neg hp] at h
      split at h <;> simp at h
   ·simp [if_neg hle] at h
theorem aopD_bs {s : List AV} {g : Hp} {dst : Option Tmp} {t : TypeId} {l : Nat} {ps : Array (Nat × Operand)} {ty : TypeId} {pos : String} {after : Array Edge} {guard : Option (Nat × Bool)} (nx : Nat) : aopD P G s g nx ⟨dst, .buildSlice t l ps, ty, pos, after, guard⟩ = oBuildSlice P G s nx t l ps := by
 simp only [aopD, aop1]
 cases oBuildSlice P G s nx t l ps <;> rfl
theorem aopD_roB {s : List AV} {g : Hp} {nx nx' : Nat} {o : Oper} (h : roKindB o = true) {v : AV} (hv : aopD P G s g nx o = some (.val v [])) : aopD P G s g nx' o = some (.val v []) := by
 unfold roKindB at h
 rw [Bool.or_eq_true] at h
 rcases h with h | h
 ·rw [← aopD_ro (nx := nx) h]; exact hv
 ·obtain ⟨dst, op, ty, pos, after, guard⟩ := o
  cases op <;> simp at h
  rw [aopD_bs] at hv ⊢
  exact abslice_nx hv
theorem aopD_roC {s : List AV} {g : Hp} {nx nx' : Nat} {o : Oper} (h : roKindB o = true) {f : FuncId} {args : List AV} (hv : aopD P G s g nx o = some (.call f args)) : aopD P G s g nx' o = some (.call f args) := by
 unfold roKindB at h
 rw [Bool.or_eq_true] at h
 rcases h with h | h
 ·rw [← aopD_ro (nx := nx) h]; exact hv
 ·obtain ⟨dst, op, ty, pos, after, guard⟩ := o
  cases op <;> simp at h
  rw [aopD_bs] at hv
  exact (abslice_nocall hv).elim
theorem ro_SB {ops : Array Oper} {anc : List (List Nat)} {nx0 : Nat} {h0 : DH} {K : List AV → Prop} (hk : ∀ o ∈ ops.toList, roKindB o = true) (hc : callsOk ops anc = true) :
    ∀ (l : List Oper) (k : Nat) (log : List LE) (s : List AV), (∀ j, l[j]? = ops[k + j]?) → (∀ e ∈ log, e.wk = [] ∧ e.all = false ∧ e.p < k ∧ (e.call = true → ∃ o, ops[e.p]? = some o ∧ isCall o = true)) → rops P G ops K (dget h0) l s →
      drunS P G (fun _ _ _ _ _ _ => False) ops anc (fun nx s h => nx = nx0 ∧ h = h0 ∧ K s) (List.range' k l.length) log nx0 s h0
  | [], k, log, s, _, _, h => ⟨rfl, rfl, h⟩
  | o :: rest, k, log, s, hl, hlog, h => by
    have ho : ops[k]? = some o := by simpa using (hl 0).symm
    have hrest : ∀ j, rest[j]? = ops[k + 1 + j]? := fun j => by
      have := hl (j + 1)
      rw [show k + 1 + j = k + (j + 1) by omega, ← this]; simp
    have hko : roKindB o = true := hk o (by
      obtain ⟨h1, h2⟩ := Array.getElem?_eq_some_iff.1 ho
      rw [← h2]; simp)
    have hks : k < ops.size := (Array.getElem?_eq_some_iff.1 ho).1
    have grow : ∀ e : LE, e.wk = [] → e.all = false → e.p = k → (e.call = true → isCall o = true) → ∀ x ∈ e :: log, x.wk = [] ∧ x.all = false ∧ x.p < k + 1 ∧ (x.call = true → ∃ o, ops[x.p]? = some o ∧ isCall o = true) := by
      intro e h1 h2 h3 h4 x hx
      rcases List.mem_cons.1 hx with rfl | hx
      · exact ⟨h1, h2, by omega, fun hcall => ⟨o, by rw [h3]; exact ho, h4 hcall⟩⟩
      · obtain ⟨a, b, c, d⟩ := hlog x hx
        exact ⟨a, b, by omega, d⟩
    have check : ∀ e : LE, e.wk = [] → e.all = false → e.p = k → (e.call = true → isCall o = true) → chk anc e log = true := by
      intro e h1 h2 h3 h4
      simp only [chk, List.all_eq_true, Bool.or_eq_true]
      intro x hx
      obtain ⟨a, b, c, d⟩ := hlog x hx
      by_cases hcc : (e.call && x.call) = true
      · left
        rw [Bool.and_eq_true] at hcc
        obtain ⟨o', ho', hco'⟩ := d hcc.2
        simp only [callsOk, List.all_eq_true, List.mem_range] at hc
        have := hc k hks x.p c
        rw [ho', ho] at this
        simp only [hco', h4 hcc.1, Bool.and_self, Bool.not_true, Bool.false_or] at this
        rw [h3]; exact this
      · right
        simp only [compat, beside, disj, h1, a, h2, b]
        cases h5 : e.call <;> cases h6 : x.call <;> simp_all
    simp only [rops] at h
    simp only [List.length_cons, List.range'_succ, drunS]
    split at h
    · exact h.elim
    · rename_i hw
      refine ⟨o, ⟨k, [], [], false, false, false, 0⟩, uu, h0, nx0, ho, .inl ⟨hw, rfl, rfl, rfl, rfl⟩, check _ rfl rfl rfl (fun hx => by cases hx), ?_⟩
      exact ro_SB hk hc rest (k + 1) _ _ hrest (grow _ rfl rfl rfl (fun hx => by cases hx)) h
    · rename_i hw
      split at h
      · rename_i v hv
        replace hv := aopD_roB (nx' := nx0 + k) hko hv
        refine ⟨o, ⟨k, akeys P G s o, [], false, false, usesNx o.op, 0⟩, v, h0, nx0, ho, .inr (.inl ⟨hw, [], .inl hv, by simp, rfl, rfl, rfl⟩), check _ rfl rfl rfl (fun hx => by cases hx), ?_⟩
        exact ro_SB hk hc rest (k + 1) _ _ hrest (grow _ rfl rfl rfl (fun hx => by cases hx)) h
      · rename_i f args hv
        obtain ⟨hcall, r, hr, h⟩ := h
        replace hv := aopD_roC (nx' := nx0 + k) hko hv
        refine ⟨o, ⟨k, akeys P G s o, [], true, false, true, 0⟩, r, h0, nx0, ho, .inr (.inr (.inl ⟨hw, ⟨f, args, hv, hr⟩, rfl, rfl, rfl⟩)), check _ rfl rfl rfl (fun _ => hcall), ?_⟩
        exact ro_SB hk hc rest (k + 1) _ _ hrest (grow _ rfl rfl rfl (fun _ => hcall)) h
      · exact h.elim
theorem ro_okB {F : Fence} (hF : Free F) (hmix : P.follows .mixedOrders = true) {W : World} {id : Nat} {ops : Array Oper} {K : Fr → St → Prop} {fr : Fr} {st : St} (hro : roOkB ops = true)
  (h : rops P G ops (fun s => K ⟨s, fr.marks⟩ ⟨st.h, st.nx + ops.size⟩) st.hp ops.toList fr.s) : CodeOk F P G W (.region id ops true) (fun x fr st => match x with | .normal => K fr st | _ => False) fr st := by
 intro M a w n sim
 simp only [roOkB, Bool.and_eq_true, List.all_eq_true] at hro
 obtain ⟨⟨hk, hs⟩, hc⟩ := hro
 have hget0 : ∀ k, st.hp k = dget (dh0 st.nx (news 0 ops.toList) st.h) k := by
  intro k
  cases e : dget (dh0 st.nx (news 0 ops.toList) st.h) k with
  | some b => exact dh0_get _ _ _ _ _ e
  | none =>
   cases e2 : st.hp k with
   | none => rfl
   | some b =>
    have hlt : k < st.nx := sim.inv.al_of e2
    exfalso
    have : ∀ (l : List Nat), dget (dh0 st.nx l st.h) k = some b := by
     intro l
     induction l with
     | nil => simp only [dh0, List.map_nil, List.nil_append]; rw [dget_map]; exact e2
     | cons p l ih =>
      simp only [dh0, List.map_cons, List.cons_append, dget]
      rw [if_neg (by omega)]
      exact ih
    rw [this] at e; cases e
 have hS := ro_SB (P := P) (G := G) (nx0 := st.nx) (h0 := dh0 st.nx (news 0 ops.toList) st.h) hk hc ops.toList 0 [] fr.s (fun j => by simp) (fun e he => by cases he) (rops_congr hget0 _ _ h)
 rw [← List.range_eq_range'] at hS
 simp only [Array.length_toList] at hS
 refine wpIn_region_any hmix ?_
 refine draw_any (P := P) (G := G) (W := W) (gc := fun _ _ _ _ _ _ => False) (M0 := M) (marks := fr.marks) hF (fun _ _ _ _ _ _ h => h.elim) ⟨hs, ancs_ok ops.toList [] [] rfl (fun i o hi => by simp at hi), by rw [ancs_len]; simp⟩ (fun M' nx s h a w hM sim' hkk => ?_) ops.size (List.range ops.size) _ st.nx fr.s _ M a _ (by simp) (by simp) (fun i hi => by simp [Array.getD, hi]) (fun i hi => List.mem_range.1 hi) List.pairwise_lt_range
  (fun i hi hn => absurd (List.mem_range.2 hi) hn) M.le_refl ?_ hS
 ·obtain ⟨rfl, rfl, hkk⟩ := hkk
  refine ⟨M', ⟨s, fr.marks⟩, ⟨st.h, st.nx + ops.size⟩, .normal, hM, ⟨?_, sim'.rs, sim'.defers⟩, rfl, hkk⟩
  refine (sim'.inv.more fun k hk => hk.1).less fun k b hk => ?_
  rw [← hget0]; exact hk
 ·refine ⟨?_, sim.rs, sim.defers⟩
  have inv := sim.inv
  have inv' : Inv G M (· < st.nx) st.hp W { w with drawn := w.drawn + 1 } := ⟨inv.imm, inv.far, inv.os, inv.tape, inv.out, inv.fresh, inv.live, inv.inj, inv.glob, inv.has⟩
  refine (inv'.more fun k hk => ⟨?_, fun p _ => ?_⟩).less fun k b hk => dh0_get _ _ _ _ _ hk
  ·have : k < st.nx := hk
   omega
  ·have : k < st.nx := hk
   omega
def logOk (anc : List (List Nat)) : List LE → Bool
 | [] => true
 | e :: log => chk anc e log && logOk anc log
def wops (P : Program) (G : Nat → Option (List AV)) (gds : List (Option Tmp)) (anc : List (List Nat)) (nx0 : Nat) (K : List AV → DH → Prop) : Nat → List SOp → List LE → List AV → DH → Prop
 | _, [], log, s, h => logOk anc log = true ∧ K s h
 | p, o :: rest, log, s, h => match wantedG gds s o.guard with
  | none => False
  | some false => wops P G gds anc nx0 K (p + 1) rest (⟨p, [], [], false, false, false, 0⟩ :: log) (sput s o.dst uu) h
  | some true => match aopD P G s (dget h) (nx0 + p) o.full with
   | some (.val v u) => (u.all fun x => dhas h x.1) = true ∧ wops P G gds anc nx0 K (p + 1) rest (⟨p, akeys P G s o.full, u.map (·.1), false, false, usesNx o.op, 0⟩ :: log) (sput s o.dst v) (dupd h u)
   | some (.skip u) => (u.all fun x => dhas h x.1) = true ∧ wops P G gds anc nx0 K (p + 1) rest (⟨p, akeys P G s o.full, u.map (·.1), false, false, usesNx o.op, 0⟩ :: log) (sput s o.dst uu) (dupd h u)
   | some (.call f args) => ∃ r, Pl P G f args r ∧ wops P G gds anc nx0 K (p + 1) rest (⟨p, akeys P G s o.full, [], true, false, true, 0⟩ :: log) (sput s o.dst r) h
   | _ => False
theorem akeys_slim {s : List AV} {o : Oper} : akeys P G s (slim o).full = akeys P G s o := by
 obtain ⟨a, b, c, d, e, f⟩ := o; rfl
theorem wops_S {ops : Array Oper} {anc : List (List Nat)} {nx0 : Nat} {K : List AV → DH → Prop} : ∀ (l : List Oper) (k : Nat) (log : List LE) (s : List AV) (h : DH), (∀ j, l[j]? = ops[k + j]?) →
  wops P G (ops.toList.map (·.dst)) anc nx0 K k (l.map slim) log s h →
  logOk anc log = true ∧ drunS P G (fun _ _ _ _ _ _ => False) ops anc (fun nx s h => nx = nx0 ∧ K s h) (List.range' k l.length) log nx0 s h
 | [], k, log, s, h, _, hw => ⟨hw.1, rfl, hw.2⟩
 | o :: rest, k, log, s, h, hl, hw => by
  have ho : ops[k]? = some o := by simpa using (hl 0).symm
  have hrest : ∀ j, rest[j]? = ops[k + 1 + j]? := fun j => by
   have := hl (j + 1)
   rw [show k + 1 + j = k + (j + 1) by omega, ← this]; simp
  simp only [List.map_cons, wops] at hw
  rw [show (slim o).guard = o.guard from rfl, ← wantedG_eq (ops := ops)] at hw
  simp only [List.length_cons, List.range'_succ, drunS]
  cases hwa : wantedA ops s o with
  | none => rw [hwa] at hw; exact hw.elim
  | some c =>
   rw [hwa] at hw
   cases c with
   | false =>
    obtain ⟨h1, h2⟩ := wops_S rest (k + 1) _ _ _ hrest hw
    simp only [logOk, Bool.and_eq_true] at h1
    exact ⟨h1.2, o, _, uu, h, nx0, ho, .inl ⟨hwa, rfl, rfl, rfl, rfl⟩, h1.1, h2⟩
   | true =>
    simp only at hw
    rw [← aopD_slim, akeys_slim] at hw
    cases hop : aopD P G s (dget h) (nx0 + k) o with
    | none => rw [hop] at hw; exact hw.elim
    | some r =>
     rw [hop] at hw
     cases r with
     | val v u =>
      obtain ⟨hd, hw⟩ := hw
      obtain ⟨h1, h2⟩ := wops_S rest (k + 1) _ _ _ hrest hw
      simp only [logOk, Bool.and_eq_true] at h1
      exact ⟨h1.2, o, _, v, dupd h u, nx0, ho, .inr (.inl ⟨hwa, u, .inl hop, fun x hx => List.all_eq_true.1 hd x hx, rfl, rfl, rfl⟩), h1.1, h2⟩
     | skip u =>
      obtain ⟨hd, hw⟩ := hw
      obtain ⟨h1, h2⟩ := wops_S rest (k + 1) _ _ _ hrest hw
      simp only [logOk, Bool.and_eq_true] at h1
      exact ⟨h1.2, o, _, uu, dupd h u, nx0, ho, .inr (.inl ⟨hwa, u, .inr ⟨hop, rfl⟩, fun x hx => List.all_eq_true.1 hd x hx, rfl, rfl, rfl⟩), h1.1, h2⟩
     | call f args =>
      obtain ⟨r, hr, hw⟩ := hw
      obtain ⟨h1, h2⟩ := wops_S rest (k + 1) _ _ _ hrest hw
      simp only [logOk, Bool.and_eq_true] at h1
      exact ⟨h1.2, o, _, r, h, nx0, ho, .inr (.inr (.inl ⟨hwa, ⟨f, args, hop, hr⟩, rfl, rfl, rfl⟩)), h1.1, h2⟩
     | yield key args => exact hw.elim
     | branch l => exact hw.elim
def drawWK (K : Fr → St → Prop) (marks : List Nat) (n : Nat) : List AV → DH → Prop := fun s h => K ⟨s, marks⟩ ⟨undh h, n⟩
theorem drawWK_at {K : Fr → St → Prop} {marks : List Nat} {n : Nat} {s : List AV} {h : DH} : drawWK K marks n s h = K ⟨s, marks⟩ ⟨undh h, n⟩ := rfl
theorem wops_ok {F : Fence} (hF : Free F) (hmix : P.follows .mixedOrders = true) {W : World} {id : Nat} {ops : Array Oper} {K : Fr → St → Prop} {fr : Fr} {st : St} (hs : statOk ops (ancs ops.toList []) = true)
  (h : wops P G (ops.toList.map (·.dst)) (ancs ops.toList []) st.nx (drawWK K fr.marks (st.nx + ops.size)) 0 (ops.toList.map slim) [] fr.s (dh0 st.nx (news 0 ops.toList) st.h)) :
  CodeOk F P G W (.region id ops true) (fun x fr st => match x with | .normal => K fr st | _ => False) fr st := by
 intro M a w n sim
 have hS := (wops_S ops.toList 0 [] fr.s _ (fun j => by simp) h).2
 rw [← List.range_eq_range'] at hS
 simp only [Array.length_toList] at hS
 refine wpIn_region_any hmix ?_
 refine draw_any (P := P) (G := G) (W := W) (gc := fun _ _ _ _ _ _ => False) (M0 := M) (marks := fr.marks) hF (fun _ _ _ _ _ _ h => h.elim) ⟨hs, ancs_ok ops.toList [] [] rfl (fun i o hi => by simp at hi), by rw [ancs_len]; simp⟩ (fun M' nx s h a w hM sim' hkk => ?_) ops.size (List.range ops.size) _ st.nx fr.s _ M a _ (by simp) (by simp) (fun i hi => by simp [Array.getD, hi]) (fun i hi => List.mem_range.1 hi) List.pairwise_lt_range
  (fun i hi hn => absurd (List.mem_range.2 hi) hn) M.le_refl ?_ hS
 ·obtain ⟨rfl, hkk⟩ := hkk
  refine ⟨M', ⟨s, fr.marks⟩, ⟨undh h, st.nx + ops.size⟩, .normal, hM, ⟨?_, sim'.rs, sim'.defers⟩, rfl, hkk⟩
  exact (sim'.inv.more fun k hk => hk.1).less fun k b hk => undh_get _ _ _ hk
 ·refine ⟨?_, sim.rs, sim.defers⟩
  have inv := sim.inv
  have inv' : Inv G M (· < st.nx) st.hp W { w with drawn := w.drawn + 1 } := ⟨inv.imm, inv.far, inv.os, inv.tape, inv.out, inv.fresh, inv.live, inv.inj, inv.glob, inv.has⟩
  refine (inv'.more fun k hk => ⟨?_, fun p _ => ?_⟩).less fun k b hk => dh0_get _ _ _ _ _ hk
  ·have : k < st.nx := hk
   omega
  ·have : k < st.nx := hk
   omega
section
variable {gds : List (Option Tmp)} {anc : List (List Nat)} {nx0 : Nat} {K : List AV → DH → Prop}
def wstep (P : Program) (G : Nat → Option (List AV)) (gds : List (Option Tmp)) (anc : List (List Nat)) (nx0 : Nat) (K : List AV → DH → Prop) (p : Nat) (rest : List SOp) (d : Option Tmp) (log : List LE) (s : List AV) (h : DH) (ak : List Nat) (un : Bool) (c : Option Bool) (r : Option Res) : Prop :=
 match c with
 | none => False
 | some false => wops P G gds anc nx0 K (p + 1) rest (⟨p, [], [], false, false, false, 0⟩ :: log) (sput s d uu) h
 | some true => match r with
  | some (.val v u) => (u.all fun x => dhas h x.1) = true ∧ wops P G gds anc nx0 K (p + 1) rest (⟨p, ak, u.map (·.1), false, false, un, 0⟩ :: log) (sput s d v) (dupd h u)
  | some (.skip u) => (u.all fun x => dhas h x.1) = true ∧ wops P G gds anc nx0 K (p + 1) rest (⟨p, ak, u.map (·.1), false, false, un, 0⟩ :: log) (sput s d uu) (dupd h u)
  | some (.call f args) => ∃ r, Pl P G f args r ∧ wops P G gds anc nx0 K (p + 1) rest (⟨p, ak, [], true, false, true, 0⟩ :: log) (sput s d r) h
  | _ => False
theorem wops_nil {p : Nat} {log : List LE} {s : List AV} {h : DH} : wops P G gds anc nx0 K p [] log s h = (logOk anc log = true ∧ K s h) := rfl
theorem wops_cons {p : Nat} {dst : Option Tmp} {op : Op} {ty : TypeId} {g : Option (Nat × Bool)} {rest : List SOp} {log : List LE} {s : List AV} {h : DH} :
  wops P G gds anc nx0 K p (⟨dst, op, ty, g⟩ :: rest) log s h = wstep P G gds anc nx0 K p rest dst log s h (akeys P G s ⟨dst, op, ty, "", #[], g⟩) (usesNx op) (wantedG gds s g) (aopD P G s (dget h) (nx0 + p) ⟨dst, op, ty, "", #[], g⟩) := by
 rfl
theorem wstep_no {p : Nat} {rest : List SOp} {d : Option Tmp} {log : List LE} {s : List AV} {h : DH} {ak : List Nat} {un : Bool} {r : Option Res} : wstep P G gds anc nx0 K p rest d log s h ak un (some false) r = wops P G gds anc nx0 K (p + 1) rest (⟨p, [], [], false, false, false, 0⟩ :: log) (sput s d uu) h := rfl
theorem wstep_val {p : Nat} {rest : List SOp} {d : Option Tmp} {log : List LE} {s : List AV} {h : DH} {ak : List Nat} {un : Bool} {v : AV} {u : List (Nat × Option Blk)} : wstep P G gds anc nx0 K p rest d log s h ak un (some true) (some (.val v u)) = ((u.all fun x => dhas h x.1) = true ∧ wops P G gds anc nx0 K (p + 1) rest (⟨p, ak, u.map (·.1), false, false, un, 0⟩ :: log) (sput s d v) (dupd h u)) := rfl
theorem wstep_skip {p : Nat} {rest : List SOp} {d : Option Tmp} {log : List LE} {s : List AV} {h : DH} {ak : List Nat} {un : Bool} {u : List (Nat × Option Blk)} : wstep P G gds anc nx0 K p rest d log s h ak un (some true) (some (.skip u)) = ((u.all fun x => dhas h x.1) = true ∧ wops P G gds anc nx0 K (p + 1) rest (⟨p, ak, u.map (·.1), false, false, un, 0⟩ :: log) (sput s d uu) (dupd h u)) := rfl
theorem wstep_call {p : Nat} {rest : List SOp} {d : Option Tmp} {log : List LE} {s : List AV} {h : DH} {ak : List Nat} {un : Bool} {f : FuncId} {args args' : List AV} {r : AV} (hc : PC P G f args' (fun v => v = r)) (he : args.map AV.plain = args') (hk : wops P G gds anc nx0 K (p + 1) rest (⟨p, ak, [], true, false, true, 0⟩ :: log) (sput s d r) h) :
  wstep P G gds anc nx0 K p rest d log s h ak un (some true) (some (.call f args)) := by
 subst he
 exact ⟨r, hc, hk⟩
theorem w_at (f : FuncId) {p : Nat} {rest : List SOp} {d : Option Tmp} {log : List LE} {s : List AV} {h : DH} {ak : List Nat} {un : Bool} {args : List AV} (g : wstep P G gds anc nx0 K p rest d log s h ak un (some true) (some (.call f args))) : wstep P G gds anc nx0 K p rest d log s h ak un (some true) (some (.call f args)) := g
def Stuck (p : Prop) : Prop := p
theorem wend1 {log : List LE} (h1 : logOk anc log = true) : logOk anc log = true := h1
theorem wend {log : List LE} {X : Prop} (h1 : logOk anc log = true) (h2 : X) : logOk anc log = true ∧ X := ⟨h1, h2⟩
end
end Go.Proofs.Pv
namespace Go.Proofs.Pv
set_option linter.unusedSimpArgs false
open Go
set_option linter.unusedVariables false
variable {P : Program} {G : Nat → Option (List AV)}
def loopY (K : Kont Prop) (n n1 : Nat) (mask : List Bool) (accs : List (Nat × Nat)) (m : Nat) (I : Nat → Fr → St → Prop) : Kont Prop := fun x fr' st' => match x with
 | .normal => ∃ st'', St.norm n n1 accs fr' st' = some st'' ∧ ∃ m', m' < m ∧ I m' (fr'.norm n mask accs) st''
 | x => K x fr' st'
theorem loopY_normal {K : Kont Prop} {n n1 : Nat} {mask : List Bool} {accs : List (Nat × Nat)} {m : Nat} {I : Nat → Fr → St → Prop} {fr : Fr} {st : St} : loopY K n n1 mask accs m I .normal fr st = ∃ st'', St.norm n n1 accs fr st = some st'' ∧ ∃ m', m' < m ∧ I m' (fr.norm n mask accs) st'' := rfl
theorem loopY_exit {K : Kont Prop} {n n1 : Nat} {mask : List Bool} {accs : List (Nat × Nat)} {m : Nat} {I : Nat → Fr → St → Prop} {id : Nat} {fr : Fr} {st : St} : loopY K n n1 mask accs m I (.exit id) fr st = K (.exit id) fr st := rfl
theorem loopY_ret {K : Kont Prop} {n n1 : Nat} {mask : List Bool} {accs : List (Nat × Nat)} {m : Nat} {I : Nat → Fr → St → Prop} {fr : Fr} {st : St} : loopY K n n1 mask accs m I .ret fr st = K .ret fr st := rfl
def OY (F : Fence) (P : Program) (G : Nat → Option (List AV)) (W : World) : Bool → Nat → Hand Prop
 | _, 0 => { SH F P G W with loop := fun _ _ _ _ => False, draw := fun _ _ _ _ => False, rangeF := fun _ _ _ _ _ _ _ => False, yield := fun _ _ _ _ => False }
 | rng, d + 1 => { SH F P G W with
  loop := fun c K fr st => (∃ (mask : List Bool) (accs : List (Nat × Nat)) (n1 : Nat) (I : Nat → Fr → St → Prop), (∃ st', St.norm st.nx n1 accs fr st = some st' ∧ ∃ m, I m (fr.norm st.nx mask accs) st') ∧ ∀ m fr1 st1, I m fr1 st1 → crun P G (OY F P G W rng d) c (loopY K st.nx n1 mask accs m I) fr1 st1) ∨ ∃ n, cloop P G (OY F P G W rng d) c K n fr st
  rangeF := fun f ps assign body K fr st => rng = true ∧ crangeF P G (OY F P G W true d) f ps assign body K fr st
  yield := fun key args K st => cyield P G (OY F P G W false d) key args K st
  draw := fun ops K fr st => (roOkB ops = true ∧ rops P G ops (fun s => K ⟨s, fr.marks⟩ ⟨st.h, st.nx + ops.size⟩) st.hp ops.toList fr.s) ∨ (statOk ops (ancs ops.toList []) = true ∧ wops P G (ops.toList.map (·.dst)) (ancs ops.toList []) st.nx (drawWK K fr.marks (st.nx + ops.size)) 0 (ops.toList.map slim) [] fr.s (dh0 st.nx (news 0 ops.toList) st.h)) }
theorem OY_ok {F0 : Fence} (hmix : P.follows .mixedOrders = true) (W : World) : ∀ (d : Nat) (rng : Bool) (F : Fence), Free F → F.plain = F0 → (rng = true → F.round = none) → HandOk F P G W id (OY F0 P G W rng d) := by
 intro d
 induction d with
 | zero =>
  intro rng F hF h0 hr
  have hcall : ∀ f args K st, CallOkE F0 P G W f args K st → CallOkE F P G W f args (fun v st => K v st) st := by
   intro f args K st h
   rcases h with h | h
   ·refine .inl ?_
    intro M w vs inv hargs
    subst h0
    obtain ⟨h1, h2⟩ := h M w vs inv hargs
    exact ⟨h1, fun n => h2 n⟩
   ·exact .inr h
  cases rng <;> exact ⟨fun h => h, hcall, fun _ _ _ _ h => h.elim, fun _ _ _ _ h => h.elim, fun _ _ _ _ _ _ _ h => h.elim, fun id _ _ _ _ h => h.elim, fun _ h => h⟩
 | succ d ih =>
  intro rng F hF h0 hr
  have hcall : ∀ f args K st, CallOkE F0 P G W f args K st → CallOkE F P G W f args (fun v st => K v st) st := by
   intro f args K st h
   rcases h with h | h
   ·refine .inl ?_
    intro M w vs inv hargs
    subst h0
    obtain ⟨h1, h2⟩ := h M w vs inv hargs
    exact ⟨h1, fun n => h2 n⟩
   ·exact .inr h
  refine ⟨fun h => h, hcall, fun c K fr st h => ?_, fun key args K st h => ?_, fun f ps assign body K fr st h => ?_, fun i ops K fr st h => ?_, fun _ h => h⟩
  ·rcases h with ⟨mask, accs, n1, I, ⟨st', hst, m, hm⟩, hround⟩ | ⟨n, hn⟩
   ·intro M a w n sim
    have hfresh : ∀ k, ¬ k < st.nx → M.L k = none ∧ M.T k = none := fun k hk => sim.inv.fresh k hk
    let J : Nat → Act → World → Prop := fun m a w => ∃ M' fr1 st1, M.le M' ∧ Sim G W M' fr1 st1 a w ∧ I m fr1 st1
    obtain ⟨ρ, sim0⟩ := sim.norm (mask := mask) hst
    refine wpIn_loop (fun a w => ∃ m, J m a w) (fun a w => least fun m => J m a w) ⟨m, _, _, _, Mem.le_named M.le_refl hfresh, sim0, hm⟩ ?_
    rintro a w ⟨m0, hm0⟩
    obtain ⟨h1, h2⟩ := least_spec (p := fun m => J m a w) hm0
    obtain ⟨M', fr', st', g1, g2, g3⟩ := h1
    refine wpIn_mono (crun_sound hF (ih rng F hF h0 hr) c _ _ _ (hround _ _ st' g3) M' a w n g2) ?_
    rintro e a' w' ⟨M2, fr2, st2, x, k1, k2, rfl, k4⟩
    cases x with
    | normal =>
     obtain ⟨st3, hst3, m', hlt, hI⟩ := k4
     obtain ⟨ρ', sim3⟩ := k2.norm (mask := mask) hst3
     have hJ : J m' a' w' := ⟨_, _, _, Mem.le_named (Mem.le_trans g1 k1) hfresh, sim3, hI⟩
     exact ⟨⟨m', hJ⟩, Nat.lt_of_le_of_lt ((least_spec (p := fun m => J m a' w') hJ).2 m' hJ) hlt⟩
    | exit id => exact ⟨M2, fr2, st2, .exit id, Mem.le_trans g1 k1, k2, rfl, k4⟩
    | goto l => exact ⟨M2, fr2, st2, .goto l, Mem.le_trans g1 k1, k2, rfl, k4⟩
    | ret => exact ⟨M2, fr2, st2, .ret, Mem.le_trans g1 k1, k2, rfl, k4⟩
   ·exact cloop_ok hF (ih rng F hF h0 hr) n fr st hn
  ·exact cyield_ok hF (fun l => ih false (F.inRound l) ⟨hF.fn, hF.depth⟩ h0 (fun h => by cases h)) (ih false F hF h0 (fun h => by cases h)).fail h
  ·obtain ⟨rfl, h⟩ := h
   exact crangeF_ok hF (hr rfl) (ih true F hF h0 hr) h
  ·rcases h with h | h
   ·exact ro_okB hF hmix h.1 h.2
   ·exact wops_ok hF hmix h.1 h.2
open Classical in
theorem PC.introY (d : Nat) (hmix : P.follows .mixedOrders = true) {f : FuncId} {fn : Func} {c : Code} {args : List AV} {R : AV → Prop} (hf : P.funcs[f]? = some fn) (hb : fn.body = some c) (hname : fn.name ≠ "runtime.NumGoroutine")
  (h : ∀ (F : Fence), Free F → F.round = none → ∀ (W : World), crun P G (OY F P G W true d) c (kleave P (OY F P G W true d) fn.results.toList (fun v st => (v, st)) fun v _ => v.stripR.pureR = true ∧ R v.stripR) (fr0 fn.ntmps args) st0) : PC P G f args R := by
 refine PC.introH (fun F W => if F.round = none then OY F.plain P G W true d else SH F P G W) (fun F hF W => ?_) hf hb hname fun F hF hro W => ?_
 ·by_cases hro : F.round = none
  ·rw [if_pos hro]; exact OY_ok hmix W d true F hF rfl (fun _ => hro)
  ·rw [if_neg hro]; exact SH_ok F W
 ·rw [if_pos hro]
  exact h F.plain ⟨hF.fn, hF.depth⟩ rfl W
section
variable {F : Fence} {W : World} {rng : Bool} {d : Nat}
theorem OY_call {f : FuncId} {args : List AV} {K : AV → St → Prop} {st : St} (h : CallOk F P G W f args K st) : (OY F P G W rng d).call f args K st := by
 cases d with
 | zero => cases rng <;> exact .inl h
 | succ d => exact .inl h
theorem PC.useY (hF : Free F) {f : FuncId} {args args' : List AV} {R : AV → Prop} (h : PC P G f args' R) (he : args.map AV.plain = args') {K : AV → St → Prop} {st : St} (hK : ∀ v, R v → K v st) :
  (OY F P G W rng d).call f args K st := by
 subst he
 exact OY_call (PC.callOk hF h hK)
theorem OY_inline (hF : Free F) (hro : F.round = none) (hmix : P.follows .mixedOrders = true) (hname : ∀ (f : Nat) (fn : Func), P.funcs[f]? = some fn → fn.name ≠ "runtime.NumGoroutine") (d' : Nat) {f : FuncId} {fn : Func} {c : Code} {args : List AV} {K : AV → St → Prop} {st : St} (hf : P.funcs[f]? = some fn) (hb : fn.body = some c)
  (h : crun P G (OY F P G W true d') c (kleave P (OY F P G W true d') fn.results.toList (fun v st => (v, st)) K) (fr0 fn.ntmps args) st) : (OY F P G W rng d).call f args K st := by
 have hpl : F.plain = F := by cases F; simp only [Fence.plain] at hro ⊢; simp_all
 refine OY_call (afunc_ok (ok := id) hF hro hname (OY_ok hmix W d' true F hF hpl (fun _ => hro)) (fin := fun _ _ v st => (v, st)) (fun _ _ _ _ _ _ _ _ inv hv => ⟨_, Mem.le_refl _, inv, hv⟩) ?_)
 unfold afunc
 rw [hf]
 simp only [hb]
 exact h
theorem OY_draw' {ops : Array Oper} {K : Fr → St → Prop} {s : List AV} {marks : List Nat} {h : List (Nat × Blk)} {nx : Nat} (n : Nat) (hn : ops.size = n) (h1 : roOkB ops = true) (h2 : srops P G (ops.toList.map (·.dst)) (drawK K marks ⟨h, nx + n⟩) (hget h) (ops.toList.map slim) s) :
  (OY F P G W rng (d + 1)).draw ops K ⟨s, marks⟩ ⟨h, nx⟩ := by
 subst hn
 refine .inl ⟨h1, ?_⟩
 rw [rops_srops]
 exact h2
theorem OY_drawW {ops : Array Oper} {K : Fr → St → Prop} {s : List AV} {marks : List Nat} {h : List (Nat × Blk)} {nx : Nat} (h1 : statOk ops (ancs ops.toList []) = true)
 (h2 : wops P G (ops.toList.map (·.dst)) (ancs ops.toList []) nx (drawWK K marks (nx + ops.size)) 0 (ops.toList.map slim) [] s (dh0 nx (news 0 ops.toList) h)) :
 (OY F P G W rng (d + 1)).draw ops K ⟨s, marks⟩ ⟨h, nx⟩ := .inr ⟨h1, h2⟩
theorem OY_loop' {c : Code} {K : Kont Prop} {fr : Fr} {st : St} (mask : List Bool) (accs : List (Nat × Nat)) (n1 : Nat) (I : Nat → Fr → St → Prop) (h0 : ∃ st', St.norm st.nx n1 accs fr st = some st' ∧ ∃ m, I m (fr.norm st.nx mask accs) st')
 (h : ∀ m fr1 st1, I m fr1 st1 → crun P G (OY F P G W rng d) c (loopY K st.nx n1 mask accs m I) fr1 st1) : (OY F P G W rng (d + 1)).loop c K fr st := .inl ⟨mask, accs, n1, I, h0, h⟩
theorem OY_for {σ : Type} {c : Code} {K : Kont Prop} {fr : Fr} {st : St} (mask : List Bool) (accs : List (Nat × Nat)) (n1 : Nat) (n : Nat) (f : Nat → σ → Fr) (s : Nat → σ → St) (Q : Nat → σ → Prop) (x0 : σ) (hq : Q 0 x0) (hs : St.norm st.nx n1 accs fr st = some (s 0 x0)) (hf : fr.norm st.nx mask accs = f 0 x0)
  (h : ∀ i x, i ≤ n → Q i x → crun P G (OY F P G W rng d) c (loopY K st.nx n1 mask accs (n - i) (fun m fr st => ∃ i x, i ≤ n ∧ m = n - i ∧ Q i x ∧ fr = f i x ∧ st = s i x)) (f i x) (s i x)) : (OY F P G W rng (d + 1)).loop c K fr st := by
 refine OY_loop' mask accs n1 (fun m fr st => ∃ i x, i ≤ n ∧ m = n - i ∧ Q i x ∧ fr = f i x ∧ st = s i x) ⟨_, hs, n, 0, x0, by omega, by omega, hq, hf, rfl⟩ ?_
 rintro m fr1 st1 ⟨i, x, hi, rfl, hQ, rfl, rfl⟩
 exact h i x hi hQ
theorem OY_next {σ : Type} {n n1 i : Nat} {k : Nat} {mask : List Bool} {accs : List (Nat × Nat)} {f : Nat → σ → Fr} {s : Nat → σ → St} {Q : Nat → σ → Prop} {fr : Fr} {st : St} (x : σ) (hi : i < n) (hQ : Q (i + 1) x) (hs : St.norm k n1 accs fr st = some (s (i + 1) x)) (hf : fr.norm k mask accs = f (i + 1) x) :
  ∃ st'', St.norm k n1 accs fr st = some st'' ∧ ∃ m', m' < n - i ∧ ∃ j y, j ≤ n ∧ m' = n - j ∧ Q j y ∧ fr.norm k mask accs = f j y ∧ st'' = s j y :=
 ⟨_, hs, n - (i + 1), by omega, i + 1, x, by omega, rfl, hQ, hf, rfl⟩
theorem OY_unroll {c : Code} {K : Kont Prop} {fr : Fr} {st : St} (n : Nat) (h : cloop P G (OY F P G W rng d) c K n fr st) : (OY F P G W rng (d + 1)).loop c K fr st := .inr ⟨n, h⟩
end
theorem condK_t {R : Type} {H : Hand R} {a b : R} : condK H (.bool true) a b = a := rfl
theorem condK_f {R : Type} {H : Hand R} {a b : R} : condK H (.bool false) a b = b := rfl
@[congr] theorem condK_congr {R : Type} {H : Hand R} {v v' : AV} {a b : R} (h : v = v') : condK H v a b = condK H v' a b := by rw [h]
theorem condK_split {H : Hand Prop} {q : Bool} {a b : Prop} (h1 : q = true → a) (h2 : q = false → b) : condK H (.bool q) a b := by
 cases q with
 | true => exact h1 rfl
 | false => exact h2 rfl
theorem condK_dec {H : Hand Prop} {p : Prop} [Decidable p] {a b : Prop} (h1 : p → a) (h2 : ¬ p → b) : condK H (.bool (decide p)) a b := by
 by_cases h : p
 ·rw [decide_eq_true h]; exact h1 h
 ·rw [decide_eq_false h]; exact h2 h
theorem wrap_in {n : Int} (h : -9223372036854775808 ≤ n ∧ n ≤ 9223372036854775807) : IntKind.i64.wrap n = n := IntWalk.i64_in n (by omega)
theorem sstep_dec {H : Hand Prop} {gds : List (Option Tmp)} {K : Fr → St → Prop} {rest : List SOp} {d : Option Tmp} {fr : Fr} {st : St} {p : Prop} [Decidable p] {r : Option Res} (h1 : p → sstep P G H gds K rest d fr st (some true) r) (h0 : ¬ p → sstep P G H gds K rest d fr st (some false) r) : sstep P G H gds K rest d fr st (some (decide p)) r := by
 by_cases h : p
 ·rw [decide_eq_true h]; exact h1 h
 ·rw [decide_eq_false h]; exact h0 h
theorem sstep_ndec {H : Hand Prop} {gds : List (Option Tmp)} {K : Fr → St → Prop} {rest : List SOp} {d : Option Tmp} {fr : Fr} {st : St} {p : Prop} [Decidable p] {r : Option Res} (h1 : p → sstep P G H gds K rest d fr st (some false) r) (h0 : ¬ p → sstep P G H gds K rest d fr st (some true) r) : sstep P G H gds K rest d fr st (some (!decide p)) r := by
 by_cases h : p
 ·rw [decide_eq_true h]; exact h1 h
 ·rw [decide_eq_false h]; exact h0 h
theorem sstep_split {H : Hand Prop} {gds : List (Option Tmp)} {K : Fr → St → Prop} {rest : List SOp} {d : Option Tmp} {fr : Fr} {st : St} {b : Bool} {r : Option Res} (h1 : b = true → sstep P G H gds K rest d fr st (some true) r) (h0 : b = false → sstep P G H gds K rest d fr st (some false) r) : sstep P G H gds K rest d fr st (some b) r := by
 cases b with
 | false => exact h0 rfl
 | true => exact h1 rfl
theorem sstep_nsplit {H : Hand Prop} {gds : List (Option Tmp)} {K : Fr → St → Prop} {rest : List SOp} {d : Option Tmp} {fr : Fr} {st : St} {b : Bool} {r : Option Res} (h1 : b = true → sstep P G H gds K rest d fr st (some false) r) (h0 : b = false → sstep P G H gds K rest d fr st (some true) r) : sstep P G H gds K rest d fr st (some (!b)) r := by
 cases b with
 | false => exact h0 rfl
 | true => exact h1 rfl
theorem srstep_dec {gds : List (Option Tmp)} {K : List AV → Prop} {g : Hp} {rest : List SOp} {d : Option Tmp} {s : List AV} {ic : Bool} {p : Prop} [Decidable p] {r : Option Res} (h1 : p → srstep P G gds K g rest d s ic (some true) r) (h0 : ¬ p → srstep P G gds K g rest d s ic (some false) r) : srstep P G gds K g rest d s ic (some (decide p)) r := by
 by_cases h : p
 ·rw [decide_eq_true h]; exact h1 h
 ·rw [decide_eq_false h]; exact h0 h
theorem srstep_ndec {gds : List (Option Tmp)} {K : List AV → Prop} {g : Hp} {rest : List SOp} {d : Option Tmp} {s : List AV} {ic : Bool} {p : Prop} [Decidable p] {r : Option Res} (h1 : p → srstep P G gds K g rest d s ic (some false) r) (h0 : ¬ p → srstep P G gds K g rest d s ic (some true) r) : srstep P G gds K g rest d s ic (some (!decide p)) r := by
 by_cases h : p
 ·rw [decide_eq_true h]; exact h1 h
 ·rw [decide_eq_false h]; exact h0 h
theorem srstep_nsplit {gds : List (Option Tmp)} {K : List AV → Prop} {g : Hp} {rest : List SOp} {d : Option Tmp} {s : List AV} {ic : Bool} {b : Bool} {r : Option Res} (h1 : b = true → srstep P G gds K g rest d s ic (some false) r) (h0 : b = false → srstep P G gds K g rest d s ic (some true) r) : srstep P G gds K g rest d s ic (some (!b)) r := by
 cases b with
 | false => exact h0 rfl
 | true => exact h1 rfl
theorem condK_nsplit {H : Hand Prop} {q : Bool} {a b : Prop} (h1 : q = true → b) (h2 : q = false → a) : condK H (.bool (!q)) a b := by
 cases q with
 | true => exact h1 rfl
 | false => exact h2 rfl
theorem OY_at {F : Fence} {W : World} {rng : Bool} {d : Nat} (f : FuncId) {args : List AV} {K : AV → St → Prop} {st : St} (h : (OY F P G W rng d).call f args K st) : (OY F P G W rng d).call f args K st := h
theorem sr_at (f : FuncId) {gds : List (Option Tmp)} {K : List AV → Prop} {g : Hp} {rest : List SOp} {d : Option Tmp} {s : List AV} {args : List AV} (h : srstep P G gds K g rest d s true (some true) (some (.call f args))) : srstep P G gds K g rest d s true (some true) (some (.call f args)) := h
theorem OY_drawn {F : Fence} {W : World} {rng : Bool} {d : Nat} {ops : Array Oper} {K : Fr → St → Prop} {s : List AV} {marks : List Nat} {h : List (Nat × Blk)} {nx : Nat} (g : (OY F P G W rng (d + 1)).draw ops K ⟨s, marks⟩ ⟨h, nx⟩) : (OY F P G W rng (d + 1)).draw ops K ⟨s, marks⟩ ⟨h, nx⟩ := g
theorem sstep_stop {H : Hand Prop} {gds : List (Option Tmp)} {K : Fr → St → Prop} {rest : List SOp} {d : Option Tmp} {fr : Fr} {st : St} {r : Option Res} (h : Stuck (sstep P G H gds K rest d fr st (some true) r)) : sstep P G H gds K rest d fr st (some true) r := h
theorem plain_int {k : IntKind} {n : Int} : AV.plain (.int k n) = .int k n := rfl
theorem plain_sl {k : Nat} {r : List AV} {t : Tk} : AV.plain (.sl k r t) = .sl k r .none := rfl
theorem plain_fn {f : FuncId} {a b : List AV} (ha : AV.pureL a = true) (hb : AV.pureL b = true) : AV.plain (.fn f a b) = .fn f a b := by
 simp only [AV.plain, AV.plain0, AV.strip0, AV.pure, ha, hb, Bool.and_self, if_true]
end Go.Proofs.Pv
namespace Go.Proofs.Pv
set_option linter.unusedSimpArgs false
open Go
set_option linter.unusedVariables false
def runsY' := PLift.up (And.intro (And.intro (And.intro (And.intro (And.intro (And.intro (And.intro @crun_seq (And.intro @crun_block @crun_cond)) (And.intro @crun_skip (And.intro @crun_exit @crun_ret))) (And.intro (And.intro @crun_label (And.intro @crun_region' @crun_draw)) (And.intro (And.intro @crun_loop @seqK_normal) (And.intro @seqK_exit @seqK_ret)))) (And.intro (And.intro (And.intro @blockK_normal (And.intro @blockK_exit @blockK_ret)) (And.intro (And.intro @regK_at @sK_at) (And.intro @drawK_at @loopK_normal))) (And.intro (And.intro @loopK_exit (And.intro @loopK_ret @saops_nil)) (And.intro (And.intro @saops_cons @slim_mk) (And.intro @wantedG_none @wantedG_some))))) (And.intro (And.intro (And.intro (And.intro @gdj_zero (And.intro @gdj_succ @gwT)) (And.intro @gwF (And.intro @gw_tup @uu.eq_def))) (And.intro (And.intro @sstep_no (And.intro @sstep_val @sstep_skip)) (And.intro (And.intro @put_some @put_none) (And.intro @app_nil @app_new)))) (And.intro (And.intro (And.intro @hset_top (And.intro @hset_ne @hget_ne)) (And.intro (And.intro @app_set @hp_mk) (And.intro @hget_top @srops_nil))) (And.intro (And.intro @srops_cons (And.intro @srstep_no @srstep_val)) (And.intro (And.intro @isCall.eq_def @sput_some) (And.intro @sput_none @aop.eq_def)))))) (And.intro (And.intro (And.intro (And.intro (And.intro @aopD.eq_def (And.intro @aop1.eq_def @ev.eq_def)) (And.intro @evK.eq_def (And.intro @evC.eq_def @ofV1.eq_def))) (And.intro (And.intro @evs.eq_1 (And.intro @evs.eq_2 @leave_ret)) (And.intro (And.intro @leave_normal @fillA.eq_1) (And.intro @fillA.eq_2 @abin.eq_def)))) (And.intro (And.intro (And.intro @aarith.eq_def (And.intro @aun.eq_def @oConv.eq_def)) (And.intro (And.intro @oPick.eq_def @oAlloc.eq_def) (And.intro @oBox.eq_def @oBuild.eq_def))) (And.intro (And.intro @oCall.eq_def (And.intro @oExtract.eq_def @acall.eq_def)) (And.intro (And.intro @abuiltin.eq_def @alen.eq_def) (And.intro @amax.eq_1 @amax.eq_2))))) (And.intro (And.intro (And.intro (And.intro @amax.eq_3 (And.intro @aload.eq_def @astore.eq_def)) (And.intro @afaddr.eq_def (And.intro @afield.eq_def @aiaddr.eq_def))) (And.intro (And.intro @mkv.eq_def (And.intro @splice.eq_def @AV.ite.eq_def)) (And.intro (And.intro @AV.isUndef.eq_def @AV.cells.eq_def) (And.intro @AV.one.eq_def @Fr.fgt.eq_def)))) (And.intro (And.intro (And.intro @fgtL.eq_1 (And.intro @fgtL.eq_2 @fgtL.eq_3)) (And.intro (And.intro @AV.isMsl.eq_def @arrD0) (And.intro @arrD1 @loopS_normal))) (And.intro (And.intro @loopS_exit (And.intro @loopS_ret @unrollK_normal)) (And.intro (And.intro @unrollK_exit @unrollK_ret) (And.intro @sstep_call @oBuildSlice.eq_def))))))) (And.intro (And.intro (And.intro (And.intro (And.intro (And.intro @abslice.eq_def (And.intro @setRows.eq_1 @setRows.eq_2)) (And.intro @aslice.eq_def (And.intro @oNil.eq_def @oFunc.eq_def))) (And.intro (And.intro @evo.eq_def (And.intro @aindex.eq_def @bnd.eq_def)) (And.intro (And.intro @stripR_int @stripR_bool) (And.intro @stripR_sl @stripR_str)))) (And.intro (And.intro (And.intro @strip_int (And.intro @strip_bool @strip_sl)) (And.intro (And.intro @strip_str @strip0_int) (And.intro @strip0_bool @strip0_sl))) (And.intro (And.intro @strip0_str (And.intro @pureR_int @pureR_bool)) (And.intro (And.intro @pureR_str @pureR_sl) (And.intro @pureV_int @pureV_bool))))) (And.intro (And.intro (And.intro (And.intro @pureV_str (And.intro @pureV_sl @pure_int)) (And.intro @pure_bool (And.intro @pure_str @pure_sl))) (And.intro (And.intro @stripR_agg (And.intro @strip_agg @stripR_tup)) (And.intro (And.intro @pureR_agg @pureV_agg) (And.intro @pureR_tup @Bool.false_eq_true)))) (And.intro (And.intro (And.intro @Bool.and_true (And.intro @Bool.true_and @and_true)) (And.intro (And.intro @true_and @and_self) (And.intro @Nat.zero_le @Nat.add_zero))) (And.intro (And.intro @Nat.zero_add (And.intro @Nat.le_refl @decide_true)) (And.intro (And.intro @decide_false @Bool.not_true) (And.intro @Bool.not_false @Int.ofNat_zero)))))) (And.intro (And.intro (And.intro (And.intro (And.intro @not_false_eq_true (And.intro @Nat.add_left_cancel_iff @Nat.add_right_cancel_iff)) (And.intro @Nat.left_eq_add (And.intro @Nat.right_eq_add @Nat.add_eq_left))) (And.intro (And.intro @Nat.add_eq_right (And.intro @Nat.succ_ne_self @false_or)) (And.intro (And.intro @or_false @or_self) (And.intro @Nat.not_lt_zero @Bool.and_self)))) (And.intro (And.intro (And.intro @Nat.lt_irrefl (And.intro @Nat.mul_one @Nat.one_mul)) (And.intro (And.intro @condK_t @condK_f) (And.intro @loopY_normal @loopY_exit))) (And.intro (And.intro @loopY_ret (And.intro @cloop_succ @aresults.eq_def)) (And.intro (And.intro @aresL.eq_1 @aresL.eq_2) (And.intro @ares.eq_def @aappend.eq_def))))) (And.intro (And.intro (And.intro (And.intro @app_tok (And.intro @hdel.eq_1 @hdel.eq_2)) (And.intro @astr.eq_def (And.intro @wops_nil @wops_cons))) (And.intro (And.intro @wstep_no (And.intro @wstep_val @wstep_skip)) (And.intro (And.intro @drawWK_at @dget.eq_1) (And.intro @dget.eq_2 @dset.eq_1)))) (And.intro (And.intro (And.intro @dset.eq_2 (And.intro @dhas.eq_1 @dhas.eq_2)) (And.intro (And.intro @dupd.eq_1 @dupd.eq_2) (And.intro @dh0.eq_def @news.eq_1))) (And.intro (And.intro @news.eq_2 (And.intro @undh.eq_1 @undh.eq_2)) (And.intro (And.intro @undh.eq_3 @akeys.eq_def) (And.intro @AV.keysOf.eq_def @usesNx.eq_def))))))))
theorem runsY : type_of% runsY'.down := runsY'.down
def lstY' := PLift.up (And.intro (And.intro (And.intro (And.intro (And.intro @List.getD_cons_zero.{0} (And.intro @List.getD_cons_succ.{0} @List.set_cons_zero.{0})) (And.intro @List.set_cons_succ.{0} (And.intro @List.getElem?_cons_zero.{0} @List.getElem?_cons_succ.{0}))) (And.intro (And.intro @Option.map_some.{0,0} (And.intro @if_true.{1} @if_false.{1})) (And.intro @List.length_cons.{0} (And.intro @List.length_nil.{0} @List.drop_zero.{0})))) (And.intro (And.intro (And.intro @List.drop_succ_cons.{0} (And.intro @List.take_succ_cons.{0} @List.take_zero.{0})) (And.intro @List.head?_cons.{0} (And.intro @List.nil_append.{0} @List.cons_append.{0}))) (And.intro (And.intro @List.append_nil.{0} (And.intro @List.all_cons.{0} @List.all_nil.{0})) (And.intro @Option.getD_some.{0} (And.intro @List.map_cons.{0,0} @List.map_nil.{0,0}))))) (And.intro (And.intro (And.intro (And.intro @List.size_toArray.{0} (And.intro @eq_self.{1} @List.replicate_succ.{0})) (And.intro @List.replicate_zero.{0} (And.intro @List.isEmpty_cons.{0} @List.isEmpty_nil.{0}))) (And.intro (And.intro @Int.cast_ofNat_Int (And.intro @Int.toNat_zero @Int.toNat_natCast)) (And.intro @Int.natCast_nonneg (And.intro @beq_self_eq_true.{0} @Bool.not_true)))) (And.intro (And.intro (And.intro @Bool.not_false (And.intro @Bool.true_beq @Bool.false_beq)) (And.intro @beq_true (And.intro @beq_false @List.length_map.{0,0}))) (And.intro (And.intro @Bool.or_true (And.intro @Bool.true_or @Bool.false_or)) (And.intro (And.intro @Bool.or_false @Bool.false_and) (And.intro @Bool.and_false @List.getElem?_map.{0,0}))))))
theorem lstY : type_of% lstY'.down := lstY'.down
theorem ent0 (n : Nat) (args : List AV) : fr0 n args = ⟨args ++ List.replicate (n - args.length) .ud, []⟩ := rfl
theorem ent1 : st0 = ⟨[], 0⟩ := rfl
def entL' := PLift.up (And.intro @List.length_cons.{0} (And.intro @List.length_nil.{0} (And.intro @List.cons_append.{0} (And.intro @List.nil_append.{0} (And.intro @List.replicate_succ.{0} (And.intro @List.replicate_zero.{0} (And.intro ent0 ent1)))))))
theorem entL : type_of% entL'.down := entL'.down
def mkM' : Nat → Nat → List Nat → List Bool
 | 0, _, _ => []
 | n + 1, i, l => l.any (Nat.beq i) :: mkM' n (i + 1) l
def mkM (n : Nat) (l : List Nat) : List Bool := mkM' n 0 l
end Go.Proofs.Pv
namespace Go.Proofs.Pv
set_option linter.unusedSimpArgs false
set_option linter.unusedVariables false
open Go Go.Proofs
variable {R : Type} {P : Program} {G : Nat → Option (List AV)} {H : Hand R}
def scopeK (H : Hand R) (K : Kont R) : Kont R := fun x fr st => match x with
 | .goto _ => H.fail
 | x => K x fr st
theorem crun_scope {c : Code} {K : Kont R} {fr : Fr} {st : St} : crun P G H (.scope c) K fr st = crun P G H c (scopeK H K) fr st := rfl
theorem scopeK_ret {K : Kont R} {fr : Fr} {st : St} : scopeK H K .ret fr st = K .ret fr st := rfl
theorem crun_rangeFunc {f : Operand} {ps : Array Tmp} {ca bo : Code} {K : Kont R} {fr : Fr} {st : St} : crun P G H (.rangeFunc f ps ca bo) K fr st = H.rangeF f ps ca bo K fr st := rfl
def rangeK (H : Hand R) (K : Kont R) (s : List AV) (marks : List Nat) (nx : Nat) : AV → St → R := fun _ st' => match st'.hp (nx + 1) with
 | some (.loop stt pd _ _ _ _ _) =>
  if stt = .busy then H.fail else
  match pd with
  | none => K .normal ⟨s, nx :: marks⟩ (hrem st' (nx + 1))
  | some .ret => K .ret ⟨s, nx :: marks⟩ (hrem st' (nx + 1))
  | some (.exit id) => K (.exit id) ⟨s, nx :: marks⟩ (hrem st' (nx + 1))
  | _ => H.fail
 | _ => H.fail
theorem rangeK_none {K : Kont R} {s : List AV} {marks : List Nat} {nx : Nat} {v : AV} {st : St} {s1 : List AV} {ps : Array Tmp} {ca bo : Code} {kd : Nat} (h : st.hp (nx + 1) = some (.loop .ready none s1 ps ca bo kd)) : rangeK H K s marks nx v st = K .normal ⟨s, nx :: marks⟩ (hrem st (nx + 1)) := by
 unfold rangeK; rw [h]; rfl
theorem rangeK_ret {K : Kont R} {s : List AV} {marks : List Nat} {nx : Nat} {v : AV} {st : St} {s1 : List AV} {ps : Array Tmp} {ca bo : Code} {kd : Nat} (h : st.hp (nx + 1) = some (.loop .done (some .ret) s1 ps ca bo kd)) : rangeK H K s marks nx v st = K .ret ⟨s, nx :: marks⟩ (hrem st (nx + 1)) := by
 unfold rangeK; rw [h]; rfl
theorem OY_range {F : Fence} {W : World} {d : Nat} {f : Operand} {ps : Array Tmp} {ca bo : Code} {K : Kont Prop} {fr : Fr} {st : St} (g : FuncId) (first cap : List AV) (he : ev P G fr.s 0 f = .fn g first cap) (hbd : hasBody P g = true)
  (h : (OY F P G W true d).call g (first ++ [.yld (st.nx + 1)] ++ cap) (rangeK (OY F P G W true d) K fr.s fr.marks st.nx) ⟨(st.nx + 1, .loop .ready none fr.s ps ca bo st.nx) :: (st.nx, .dfd true) :: st.h, st.nx + 2⟩) :
  (OY F P G W true (d + 1)).rangeF f ps ca bo K fr st := by
 refine ⟨rfl, ?_⟩
 unfold crangeF
 rw [he]
 simp only [hbd, if_true]
 exact h
structure Same (a b : Code) : Prop where
 eq : a = b
theorem OY_range' {F : Fence} {W : World} {d : Nat} {f : Operand} {ps : Array Tmp} {ca bo : Code} {K : Kont Prop} {fr : Fr} {st : St} (g : FuncId) (first cap : List AV) (he : ev P G fr.s 0 f = .fn g first cap) (hbd : hasBody P g = true)
 (h : ∀ ca' bo', Same ca' ca → Same bo' bo → (OY F P G W true d).call g (first ++ [.yld (st.nx + 1)] ++ cap) (rangeK (OY F P G W true d) K fr.s fr.marks st.nx) ⟨(st.nx + 1, .loop .ready none fr.s ps ca' bo' st.nx) :: (st.nx, .dfd true) :: st.h, st.nx + 2⟩) :
 (OY F P G W true (d + 1)).rangeF f ps ca bo K fr st := OY_range g first cap he hbd (h ca bo ⟨rfl⟩ ⟨rfl⟩)
def roundK (H : Hand R) (key : Nat) (K : AV → St → R) : Kont R := fun x _ st2 => match st2.hp key with
 | some (.loop _ _ s2 ps2 as2 bo2 kd2) => (match x with
  | .normal => K (.bool true) (hput st2 key (.loop .ready none s2 ps2 as2 bo2 kd2))
  | .ret => K (.bool false) (hput st2 key (.loop .done (some .ret) s2 ps2 as2 bo2 kd2))
  | .exit id => K (.bool false) (hput st2 key (.loop .done (some (.exit id)) s2 ps2 as2 bo2 kd2))
  | .goto _ => H.fail)
 | _ => H.fail
def takeK (P : Program) (G : Nat → Option (List AV)) (H : Hand R) (key : Nat) (body : Code) (K : AV → St → R) : Kont R := fun x fr1 st1 => match x with
 | .normal => (match st1.hp key with
  | some (.loop .ready pd1 s1 ps1 as1 bo1 kd1) => crun P G H body (roundK H key K) fr1 (hput st1 key (.loop .busy pd1 s1 ps1 as1 bo1 kd1))
  | _ => H.fail)
 | _ => H.fail
theorem OY_yield {F : Fence} {W : World} {rng : Bool} {d : Nat} {key : Nat} {args : List AV} {K : AV → St → Prop} {st : St} {pd : Option Code} {s : List AV} {ps : Array Tmp} {ca bo : Code} {kd : Nat} (h1 : st.hp key = some (.loop .ready pd s ps ca bo kd)) (h2 : args.length = ps.size)
  (h : crun P G (OY F P G W false d) ca (takeK P G (OY F P G W false d) key bo K) ⟨setPs s ps.toList args, []⟩ st) : (OY F P G W rng (d + 1)).yield key args K st := by
 show cyield P G (OY F P G W false d) key args K st
 unfold cyield
 rw [h1]
 simp only [h2, if_true]
 exact h
theorem takeK_normal {key : Nat} {body : Code} {K : AV → St → R} {fr : Fr} {st : St} {pd : Option Code} {s : List AV} {ps : Array Tmp} {ca bo : Code} {kd : Nat} (h1 : st.hp key = some (.loop .ready pd s ps ca bo kd)) : takeK P G H key body K .normal fr st = crun P G H body (roundK H key K) fr (hput st key (.loop .busy pd s ps ca bo kd)) := by
 unfold takeK; simp only [h1]
theorem roundK_normal {key : Nat} {K : AV → St → R} {fr : Fr} {st : St} {stt : LoopState} {pd : Option Code} {s : List AV} {ps : Array Tmp} {ca bo : Code} {kd : Nat} (h1 : st.hp key = some (.loop stt pd s ps ca bo kd)) : roundK H key K .normal fr st = K (.bool true) (hput st key (.loop .ready none s ps ca bo kd)) := by
 unfold roundK; simp only [h1]
theorem roundK_ret {key : Nat} {K : AV → St → R} {fr : Fr} {st : St} {stt : LoopState} {pd : Option Code} {s : List AV} {ps : Array Tmp} {ca bo : Code} {kd : Nat} (h1 : st.hp key = some (.loop stt pd s ps ca bo kd)) : roundK H key K .ret fr st = K (.bool false) (hput st key (.loop .done (some .ret) s ps ca bo kd)) := by
 unfold roundK; simp only [h1]
theorem setPs_nil {s : List AV} : setPs s [] [] = s := rfl
theorem sstep_yield {gds : List (Option Tmp)} {K : Fr → St → R} {rest : List SOp} {d : Option Tmp} {fr : Fr} {st : St} {key : Nat} {args : List AV} : sstep P G H gds K rest d fr st (some true) (some (.yield key args)) = H.yield key args (sK P G H gds K rest d fr) st := rfl
theorem leave_retM {rs : List ResultVar} {fin : AV → St → AV × St} {K : AV → St → R} {s : List AV} {st st' : St} {marks : List Nat} (h : closeMarks marks st = some st') : kleave P H rs fin K .ret ⟨s, marks⟩ st = match aresults P st'.hp s rs with
  | some v => match fin v st' with
   | (v', st'') => K v' st''
  | none => H.fail := by
 show (match closeMarks marks st with
  | some st' => match aresults P st'.hp s rs with
   | some v => match fin v st' with
    | (v', st'') => K v' st''
   | none => H.fail
  | none => H.fail) = _
 rw [h]
end Go.Proofs.Pv
