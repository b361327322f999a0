/-
  The abstract machine, part P: a region that draws its order of evaluation, at the model.
  Conditions: the invariant 'Inv'; the program follows mixed orders; no round of a loop over a function.
-/
import Derived.Test.YtgjjcdjcpbjdgaaGreatDoorPvO
namespace Go.Proofs.Pv
set_option linter.unusedVariables false
set_option linter.unusedSimpArgs false
open Go
variable {P : Program} {G : Nat → Option (List AV)}

/-- What a round's abstract answer stands for. -/
def YieldOk (F : Fence) (P : Program) (G : Nat → Option (List AV)) (W : World) (key : Nat) (args : List AV) (K : AV → St → Prop) (st : St) : Prop :=
  ∀ M w vs, Inv G M (· < st.nx) st.hp W w → RelL M.rel args vs.toList → ∀ l, M.L key = some l →
    ∃ f tmps assign body, (Instr.yield l vs).run P w = .ok (.round l f tmps assign body) w ∧
      ∀ n, RoundIn F n P l f tmps assign body w fun e w' => ∃ M' v av st', e = .returned v ∧ M.le M' ∧ Inv G M' (· < st'.nx) st'.hp W w' ∧ M'.rel av v ∧ K av st'
def GcOk (F : Fence) (P : Program) (G : Nat → Option (List AV)) (W : World) (gc : GC) : Prop :=
  ∀ y f args st v st', gc y f args st v st' → if y then YieldOk F P G W f args (fun u su => u = v ∧ su = st') st else CallOk F P G W f args (fun u su => u = v ∧ su = st') st

def alD (nx0 N : Nat) (l : List Nat) (k : Nat) : Prop := k < nx0 + N ∧ ∀ p ∈ l, k ≠ nx0 + p

structure SimD (G : Nat → Option (List AV)) (W : World) (M : Mem) (nx0 N : Nat) (l : List Nat) (s : List AV) (marks : List Nat) (h : DH) (a : Act) (w : World) : Prop where
  inv : Inv G M (alD nx0 N l) (dget h) W w
  rs : RelS M s a.tmps
  defers : a.defers.length = marks.length ∧ ∀ (i : Nat) key, marks[i]? = some key → ∃ l, M.L key = some l ∧ a.defers[i]? = some { target := .collected l, args := #[] }

theorem SimD.put {W : World} {M : Mem} {nx0 nx1 N : Nat} {l l' : List Nat} {s : List AV} {marks : List Nat} {h h' : DH} {a : Act} {w w' : World} (sim : SimD G W M nx0 N l s marks h a w) {M' : Mem} (hle : M.le M') (inv' : Inv G M' (alD nx1 N l') (dget h') W w') (d : Option Tmp) {v : AV} {u : Value} (hv : M'.rel v u) :
    SimD G W M' nx1 N l' (sput s d v) marks h' (a.put d u) w' := by
  have rs := sim.rs.mono hle
  obtain ⟨d1, d2⟩ := sim.defers
  have hd : ∀ (i : Nat) key, marks[i]? = some key → ∃ l, M'.L key = some l ∧ a.defers[i]? = some { target := .collected l, args := #[] } := fun i key h => by
    obtain ⟨l, h1, h2⟩ := d2 i key h; exact ⟨l, hle.L _ _ h1, h2⟩
  cases d with
  | none => exact ⟨inv', rs, ⟨d1, hd⟩⟩
  | some d => exact ⟨inv', rs.set d hv, ⟨d1, hd⟩⟩

def uni (a s : List Nat) : List Nat := a.foldl (fun s x => if s.contains x then s else x :: s) s
def ancs : List Oper → List (List Nat) → List (List Nat)
  | [], acc => acc
  | o :: r, acc => ancs r (acc ++ [o.after.toList.foldl (fun s e => if Region.binds .any e then uni (e.on :: acc.getD e.on []) s else s) []])

theorem mem_uni : ∀ (a s : List Nat) (x : Nat), x ∈ uni a s → x ∈ a ∨ x ∈ s
  | [], s, x, h => .inr h
  | y :: a, s, x, h => by
    simp only [uni, List.foldl_cons] at h
    rcases mem_uni a _ x h with h | h
    · exact .inl (by simp [h])
    · split at h
      · exact .inr h
      · rcases List.mem_cons.1 h with rfl | h
        · exact .inl (by simp)
        · exact .inr h
theorem mem_anc (acc : List (List Nat)) : ∀ (es : List Edge) (s : List Nat) (x : Nat), x ∈ es.foldl (fun s e => if Region.binds .any e then uni (e.on :: acc.getD e.on []) s else s) s →
    x ∈ s ∨ ∃ e ∈ es, Region.binds .any e = true ∧ (x = e.on ∨ x ∈ acc.getD e.on [])
  | [], s, x, h => .inl h
  | e :: es, s, x, h => by
    simp only [List.foldl_cons] at h
    rcases mem_anc acc es _ x h with h | ⟨e', h1, h2⟩
    · split at h
      · rename_i hb
        rcases mem_uni _ _ x h with h | h
        · refine .inr ⟨e, by simp, hb, ?_⟩
          rcases List.mem_cons.1 h with h | h
          · exact .inl h
          · exact .inr h
        · exact .inl h
      · exact .inl h
    · exact .inr ⟨e', by simp [h1], h2⟩

def AncOk (ops : List Oper) (acc : List (List Nat)) : Prop := ∀ (i : Nat) (o : Oper), i < acc.length → ops[i]? = some o → ∀ x ∈ acc.getD i [], ∃ e ∈ o.after, Region.binds .any e = true ∧ (x = e.on ∨ x ∈ acc.getD e.on [])
theorem getD_append_mono (acc : List (List Nat)) (y : List Nat) (k x : Nat) (h : x ∈ acc.getD k []) : x ∈ (acc ++ [y]).getD k [] := by
  simp only [List.getD_eq_getElem?_getD] at h ⊢
  by_cases hk : k < acc.length
  · rw [List.getElem?_append_left hk]; exact h
  · rw [List.getElem?_eq_none (by omega)] at h; simp at h
theorem ancs_ok : ∀ (l pre : List Oper) (acc : List (List Nat)), acc.length = pre.length → AncOk (pre ++ l) acc → AncOk (pre ++ l) (ancs l acc)
  | [], _, _, _, h => h
  | o :: r, pre, acc, hl, h => by
    have e1 : pre ++ o :: r = (pre ++ [o]) ++ r := by simp
    rw [e1] at h ⊢
    refine ancs_ok r (pre ++ [o]) _ (by simp [hl]) ?_
    intro i oi hi hoi x hx
    by_cases hlt : i < acc.length
    · have hx : x ∈ acc.getD i [] := by
        simp only [List.getD_eq_getElem?_getD] at hx ⊢
        rw [List.getElem?_append_left hlt] at hx; exact hx
      obtain ⟨e, h1, h2, h3⟩ := h i oi hlt hoi x hx
      exact ⟨e, h1, h2, h3.imp id (getD_append_mono _ _ _ _)⟩
    · have hi' : i = acc.length := by simp at hi; omega
      subst hi'
      have ho : oi = o := by
        rw [hl] at hoi
        simp at hoi; exact hoi.symm
      subst ho
      simp only [List.getD_eq_getElem?_getD] at hx
      rw [List.getElem?_append_right (Nat.le_refl _), Nat.sub_self] at hx
      simp only [List.getElem?_cons_zero, Option.getD_some] at hx
      simp only [← List.getD_eq_getElem?_getD] at hx
      rcases mem_anc acc _ _ x hx with h | ⟨e, h1, h2, h3⟩
      · cases h
      · exact ⟨e, by simpa using h1, h2, h3.imp id (getD_append_mono _ _ _ _)⟩

def mk (l : List Nat) : Nat := l.foldr (fun t m => (1 <<< t) ||| m) 0
theorem mk_mem : ∀ (l : List Nat) (t : Nat), t ∈ l → (mk l).testBit t = true
  | a :: l, t, h => by
    simp only [mk, List.foldr_cons, Nat.testBit_or, Bool.or_eq_true]
    rcases List.mem_cons.1 h with rfl | h
    · left; simp [Nat.testBit_shiftLeft]
    · right; exact mk_mem l t h
def dmask (o : Oper) : Nat := match o.dst with
  | some d => 1 <<< d
  | none => 0
def lmask (ops : Array Oper) (o : Oper) : Nat := mk (o.looksAt ops)
def apartM (x y : Nat × Nat) : Bool := Nat.beq (x.1 &&& y.2) 0 && Nat.beq (x.1 &&& y.1) 0 && Nat.beq (y.1 &&& x.2) 0
theorem and_bit {d m : Nat} (h : (1 <<< d) &&& m = 0) : m.testBit d = false := by
  have := congrArg (fun n => n.testBit d) h
  simpa [Nat.testBit_and, Nat.testBit_shiftLeft] using this
theorem apartM_ok {ops : Array Oper} {x y : Oper} (h : apartM (dmask x, lmask ops x) (dmask y, lmask ops y) = true) : x.apart ops y = true := by
  simp only [apartM, Bool.and_eq_true] at h
  obtain ⟨⟨h1, h2⟩, h3⟩ := h
  replace h1 := Nat.eq_of_beq_eq_true h1
  replace h2 := Nat.eq_of_beq_eq_true h2
  replace h3 := Nat.eq_of_beq_eq_true h3
  unfold Oper.apart
  simp only [Bool.and_eq_true]
  constructor
  · cases hx : x.dst with
    | none => rfl
    | some d =>
      simp only [dmask, hx] at h1 h2
      simp only [Bool.and_eq_true, Bool.not_eq_true', bne_iff_ne, ne_eq]
      refine ⟨?_, fun hy => ?_⟩
      · cases hc : (y.looksAt ops).contains d with
        | false => rfl
        | true =>
          have := mk_mem _ d (by simpa using hc)
          have h0 := and_bit h1
          unfold lmask at h0
          rw [h0] at this; cases this
      · rw [hy] at h2
        have h0 := and_bit h2
        simp [Nat.testBit_shiftLeft] at h0
  · cases hy : y.dst with
    | none => rfl
    | some d =>
      simp only [dmask, hy] at h3
      cases hc : (x.looksAt ops).contains d with
      | false => simp only [hc]; rfl
      | true =>
        have := mk_mem _ d (by simpa using hc)
        have h0 := and_bit h3
        unfold lmask at h0
        rw [h0] at this; cases this

def pairsOk (anc : List (List Nat)) : Nat → List (Nat × Nat) → List (Nat × (Nat × Nat)) → Bool
  | _, [], _ => true
  | i, m :: r, prev => (prev.all fun q => apartM q.2 m || (anc.getD i []).contains q.1) && pairsOk anc (i + 1) r ((i, m) :: prev)
theorem pairsOk_at {anc : List (List Nat)} : ∀ (l : List (Nat × Nat)) (i : Nat) (prev : List (Nat × (Nat × Nat))), pairsOk anc i l prev = true → ∀ (k : Nat) (m : Nat × Nat), l[k]? = some m →
    (∀ q ∈ prev, apartM q.2 m = true ∨ (anc.getD (i + k) []).contains q.1 = true) ∧ ∀ j mj, j < k → l[j]? = some mj → apartM mj m = true ∨ (anc.getD (i + k) []).contains (i + j) = true
  | [], _, _, _, k, m, hk => by simp at hk
  | x :: r, i, prev, h, k, m, hk => by
    simp only [pairsOk, Bool.and_eq_true, List.all_eq_true, Bool.or_eq_true] at h
    cases k with
    | zero =>
      simp at hk; subst hk
      exact ⟨h.1, fun j mj hj => absurd hj (Nat.not_lt_zero _)⟩
    | succ k =>
      have ih := pairsOk_at r (i + 1) _ h.2 k m (by simpa using hk)
      rw [show i + 1 + k = i + (k + 1) by omega] at ih
      refine ⟨fun q hq => ih.1 q (by simp [hq]), fun j mj hj hmj => ?_⟩
      cases j with
      | zero =>
        simp at hmj; subst hmj
        exact ih.1 (i, x) (by simp)
      | succ j =>
        have := ih.2 j mj (by omega) (by simpa using hmj)
        rwa [show i + 1 + j = i + (j + 1) by omega] at this

def statOk (ops : Array Oper) (anc : List (List Nat)) : Bool :=
  ((List.range ops.size).all fun i => match ops[i]? with
   | none => true
   | some o => o.after.toList.all fun e => !Region.binds .any e || Nat.blt e.on i) &&
  pairsOk anc 0 (ops.toList.map fun o => (dmask o, lmask ops o)) []

theorem undh_get : ∀ (h : DH) (k : Nat) (b : Blk), hget (undh h) k = some b → dget h k = some b
  | [], _, _, h => by simp [undh, hget] at h
  | (k', some b') :: r, k, b, h => by
    simp only [undh, hget] at h
    simp only [dget]
    split
    · rename_i e; rw [if_pos e] at h; exact h
    · rename_i e; rw [if_neg e] at h; exact undh_get r k b h
  | (k', none) :: r, k, b, h => by
    simp only [undh] at h
    rw [hget_hdel] at h
    simp only [hpSet] at h
    simp only [dget]
    split
    · rename_i e; rw [if_pos e] at h; cases h
    · rename_i e; rw [if_neg e] at h; exact undh_get r k b h
theorem dget_map : ∀ (h : List (Nat × Blk)) (k : Nat), dget (h.map fun x => (x.1, some x.2)) k = hget h k
  | [], _ => rfl
  | (k', b) :: r, k => by simp only [List.map_cons, dget, hget, dget_map r k]
theorem dh0_get (nx0 : Nat) (h : List (Nat × Blk)) : ∀ (l : List Nat) (k : Nat) (b : Blk), dget (dh0 nx0 l h) k = some b → hget h k = some b
  | [], k, b, hk => by simp only [dh0, List.map_nil, List.nil_append] at hk; rw [dget_map] at hk; exact hk
  | p :: l, k, b, hk => by
    simp only [dh0, List.map_cons, List.cons_append, dget] at hk
    split at hk
    · cases hk
    · exact dh0_get nx0 h l k b hk

theorem dget_sel {R : List Nat} : ∀ (h : DH) (k : Nat) (b : Blk), dget (hsel R h) k = some b → dget h k = some b ∧ R.contains k = true
  | [], _, _, h => by simp [hsel, dget] at h
  | (k', c) :: r, k, b, h => by
    simp only [hsel, List.filter_cons] at h
    by_cases hc : R.contains k' = true
    · simp only [hc, if_true, dget] at h
      simp only [dget]
      split at h
      · rename_i e; subst e; rw [if_pos rfl]; exact ⟨h, hc⟩
      · rename_i e; rw [if_neg e]; exact dget_sel r k b h
    · have hc' : R.contains k' = false := by simpa using hc
      simp only [hc', Bool.false_eq_true, if_false] at h
      obtain ⟨h1, h2⟩ := dget_sel r k b h
      have hne : ¬ k = k' := fun e => by subst e; rw [h2] at hc'; cases hc'
      simp only [dget, hne, if_false]
      exact ⟨h1, h2⟩
theorem dhas_of_dget : ∀ (h : DH) (k : Nat) (b : Blk), dget h k = some b → dhas h k = true
  | [], _, _, h => by simp [dget] at h
  | (k', c) :: r, k, b, h => by
    simp only [dget] at h
    simp only [dhas]
    split
    · rfl
    · rename_i e; rw [if_neg e] at h; exact dhas_of_dget r k b h
theorem dhas_keep_out {R : List Nat} : ∀ (h : DH) (k : Nat), dhas (hkeep R h) k = true → R.contains k = false
  | [], _, h => by simp [hkeep, dhas] at h
  | (k', c) :: r, k, h => by
    simp only [hkeep, List.filter_cons] at h
    by_cases hc : R.contains k' = true
    · simp only [hc, Bool.not_true, Bool.false_eq_true, if_false] at h
      exact dhas_keep_out r k h
    · have hc' : R.contains k' = false := by simpa using hc
      simp only [hc', Bool.not_false, if_true, dhas] at h
      split at h
      · rename_i e; subst e; exact hc'
      · exact dhas_keep_out r k h

/-- Blocks may be set aside for a while: who does not know of them leaves them as they are. -/
theorem Inv.hide {M : Mem} {al : Nat → Prop} {hp : Hp} {W w : World} (inv : Inv G M al hp W w) (S : Nat → Bool) {hp1 : Hp} (h1 : ∀ k b, hp1 k = some b → hp k = some b ∧ S k = true) {al1 : Nat → Prop} (hal : ∀ k, al k → al1 k) :
    ∃ F1, Inv G { M with F := F1 } al1 hp1 W w ∧ ∀ (M' : Mem) (w' : World) (al' : Nat → Prop) (hp' : Hp), Mem.le { M with F := F1 } M' → Inv G M' al' hp' W w' →
      M.le { M' with F := M.F } ∧ ∀ hp2 : Hp, (∀ k b, hp2 k = some b → (hp k = some b ∧ S k = false) ∨ hp' k = some b) → Inv G { M' with F := M.F } al' hp2 W w' := by
  classical
  let hid : Nat → Prop := fun b => ∃ k blk, hp k = some blk ∧ S k = false ∧ M.blockOf k blk = some b
  let F1 : Nat → Option Obj := fun b => if hid b then w.heap[b]? else M.F b
  have hhid : ∀ b, hid b → M.F b = none ∧ ∃ ob, w.heap[b]? = some ob ∧ F1 b = some ob := by
    rintro b ⟨k, blk, g1, g2, g3⟩
    obtain ⟨b', ob, q1, q2, q3, q4, q5⟩ := inv.live k blk g1
    rw [g3] at q1; cases q1
    exact ⟨q4, ob, q2, by show (if hid b then w.heap[b]? else M.F b) = _; rw [if_pos ⟨k, blk, g1, g2, g3⟩]; exact q2⟩
  have hF1 : ∀ b, ¬ hid b → F1 b = M.F b := fun b hb => if_neg hb
  have hF1some : ∀ b, M.F b ≠ none → F1 b = M.F b := fun b hb => hF1 b fun hh => hb (hhid b hh).1
  refine ⟨F1, ?_, ?_⟩
  · refine ⟨inv.imm, fun b ob hb => ?_, inv.os, inv.tape, inv.out, fun key hk => inv.fresh key fun ha => hk (hal key ha), fun key blk hk => ?_, fun k1 k2 b1 b2 b g1 g2 => inv.inj k1 k2 b1 b2 b (h1 _ _ g1).1 (h1 _ _ g2).1, inv.glob, fun _ _ _ => trivial⟩
    · by_cases hb' : hid b
      · obtain ⟨_, ob', q1, q2⟩ := hhid b hb'
        have hb2 : F1 b = some ob := hb
        rw [q2] at hb2; cases hb2; exact q1
      · have hb2 : F1 b = some ob := hb
        rw [hF1 b hb'] at hb2; exact inv.far b ob hb2
    · obtain ⟨g1, g2⟩ := h1 key blk hk
      obtain ⟨b, ob, q1, q2, q3, q4, q5⟩ := inv.live key blk g1
      refine ⟨b, ob, q1, q2, q3, ?_, q5⟩
      show F1 b = none
      rw [hF1 b ?_]; · exact q4
      rintro ⟨k, blk', r1, r2, r3⟩
      have := inv.inj k key blk' blk b r1 g1 r3 q1
      subst this
      rw [g2] at r2; cases r2
  · intro M' w' al' hp' hle inv'
    have hle2 : M.le { M' with F := M.F } := ⟨hle.I, hle.L, hle.T, fun _ _ h => h, fun b o hb => hle.IF b o (by show F1 b ≠ none; rw [hF1some b hb]; exact hb)⟩
    refine ⟨hle2, fun hp2 h2 => ?_⟩
    -- a block that was set aside
    have aside : ∀ key blk, hp key = some blk → S key = false → ∃ b ob, M.blockOf key blk = some b ∧ Mem.blockOf { M' with F := M.F } key blk = some b ∧ w'.heap[b]? = some ob ∧ LiveAs { M' with F := M.F } key blk ob ∧ M.F b = none ∧ (blk.isTok = false → ∀ o, M'.I b o = none) ∧ M'.F b ≠ none := by
      intro key blk g1 g2
      obtain ⟨b, ob, q1, q2, q3, q4, q5⟩ := inv.live key blk g1
      have hb : hid b := ⟨key, blk, g1, g2, q1⟩
      obtain ⟨_, ob', r1, r2⟩ := hhid b hb
      rw [q2] at r1; cases r1
      have hMF : M'.F b = some ob := hle.F b ob r2
      have hI : ∀ o, M'.I b o = M.I b o := fun o => hle.IF b o (by show F1 b ≠ none; rw [r2]; simp)
      refine ⟨b, ob, q1, Mem.blockOf_mono hle2 q1, inv'.far b ob hMF, q3.grow hle2 (fun ht b' e z hT o ho => ?_), q4, fun ht o => ?_, by rw [hMF]; simp⟩
      · cases blk <;> simp [Blk.isTok] at ht
        cases ob <;> simp only [LiveAs] at q3
        obtain ⟨_, b1, e1, z1, s1, _, _, s4⟩ := q3
        rw [hT] at s1; cases s1
        have : b = b' := by simpa [Mem.blockOf, Blk.isTok, hT] using q1.symm
        subst this
        show M'.I b o = none
        rw [hI o]; exact s4 o ho
      · rw [hI o]; exact q5 ht o
    refine ⟨inv'.imm, fun b ob hb => ?_, inv'.os, inv'.tape, inv'.out, inv'.fresh, fun key blk hk => ?_, fun k1 k2 b1 b2 b g1 g2 g3 g4 => ?_, inv'.glob, fun _ _ _ => trivial⟩
    · have hb' : M.F b = some ob := hb
      have : F1 b = some ob := by rw [hF1some b (by rw [hb']; simp)]; exact hb'
      exact inv'.far b ob (hle.F b ob this)
    · rcases h2 key blk hk with ⟨g1, g2⟩ | g1
      · obtain ⟨b, ob, _, q1, q2, q3, q4, q5, _⟩ := aside key blk g1 g2
        exact ⟨b, ob, q1, q2, q3, q4, q5⟩
      · obtain ⟨b, ob, q1, q2, q3, q4, q5⟩ := inv'.live key blk g1
        refine ⟨b, ob, q1, q2, q3, ?_, q5⟩
        show M.F b = none
        cases e : M.F b with
        | none => rfl
        | some x =>
          have : F1 b = some x := by rw [hF1some b (by rw [e]; simp)]; exact e
          rw [hle.F b x this] at q4; cases q4
    · rcases h2 k1 b1 g1 with ⟨r1, r2⟩ | r1 <;> rcases h2 k2 b2 g2 with ⟨t1, t2⟩ | t1
      · obtain ⟨c1, _, q1, q1', _⟩ := aside k1 b1 r1 r2
        obtain ⟨c2, _, q2, q2', _⟩ := aside k2 b2 t1 t2
        rw [g3] at q1'; rw [g4] at q2'; cases q1'; cases q2'
        exact inv.inj k1 k2 b1 b2 b r1 t1 q1 q2
      · obtain ⟨c1, _, q1, q1', _, _, _, _, q6⟩ := aside k1 b1 r1 r2
        rw [g3] at q1'; cases q1'
        obtain ⟨c2, _, p1, _, _, p4, _⟩ := inv'.live k2 b2 t1
        have g4' : M'.blockOf k2 b2 = some b := g4
        rw [g4'] at p1; cases p1
        exact absurd p4 q6
      · obtain ⟨c1, _, q1, q1', _, _, _, _, q6⟩ := aside k2 b2 t1 t2
        rw [g4] at q1'; cases q1'
        obtain ⟨c2, _, p1, _, _, p4, _⟩ := inv'.live k1 b1 r1
        have g3' : M'.blockOf k1 b1 = some b := g3
        rw [g3'] at p1; cases p1
        exact absurd p4 q6
      · exact inv'.inj k1 k2 b1 b2 b r1 t1 g3 g4

section
variable {ops : Array Oper} {anc : List (List Nat)}
theorem statOk_at (h : statOk ops anc = true ∧ AncOk ops.toList anc ∧ anc.length = ops.size) {i : Nat} {o : Oper} (ho : ops[i]? = some o) :
    (∀ e ∈ o.after, Region.binds .any e = true → e.on < i) ∧ (∀ a ∈ anc.getD i [], ∃ e ∈ o.after, Region.binds .any e = true ∧ (a = e.on ∨ a ∈ anc.getD e.on [])) ∧
    ∀ j o', j < i → ops[j]? = some o' → (anc.getD i []).contains j = false → o'.apart ops o = true := by
  have hi : i < ops.size := (Array.getElem?_eq_some_iff.1 ho).1
  obtain ⟨h, h2, hl⟩ := h
  simp only [statOk, Bool.and_eq_true, List.all_eq_true] at h
  obtain ⟨h1, h3⟩ := h
  refine ⟨fun e he hb => ?_, h2 i o (by omega) (by simpa using ho), fun j o' hj ho' hn => ?_⟩
  · have := h1 i (List.mem_range.2 hi)
    rw [ho] at this
    simp only [List.all_eq_true, Bool.or_eq_true] at this
    rcases this e (by simpa using he) with h | h
    · rw [hb] at h; cases h
    · have : e.on + 1 ≤ i := by simpa [Nat.blt] using h
      omega
  · have := (pairsOk_at _ 0 [] h3 i (dmask o, lmask ops o) (by simp [ho])).2 j (dmask o', lmask ops o') hj (by simp [ho'])
    simp only [Nat.zero_add] at this
    rcases this with h | h
    · exact apartM_ok h
    · rw [hn] at h; cases h

theorem draw_any {gc : GC} {F : Fence} (hF : Free F) {W : World} (hgc : GcOk F P G W gc) (hs : statOk ops anc = true ∧ AncOk ops.toList anc ∧ anc.length = ops.size) {marks : List Nat} {K : Nat → List AV → DH → Prop} {Q : Exit → Act → World → Prop} {M0 : Mem} {n : Nat}
    (hQ : ∀ M nx0 s h a w, M0.le M → SimD G W M nx0 ops.size [] s marks h a w → K nx0 s h → Q .normal a w) : ∀ (m : Nat) (l : List Nat) (listed : Array Bool) (nx0 : Nat) (s : List AV) (h : DH) (M : Mem) (a : Act) (w : World), l.length = m →
      listed.size = ops.size → (∀ i, i < ops.size → (listed.getD i true = false ↔ i ∈ l)) → (∀ i ∈ l, i < ops.size) → l.Pairwise (· < ·) → (∀ i, i < ops.size → i ∉ l → ∀ x ∈ anc.getD i [], x ∉ l) →
      M0.le M → SimD G W M nx0 ops.size l s marks h a w → drunS P G gc ops anc K l [] nx0 s h → wpAnyIn F n P .any ops Q m listed a w := by
  intro m
  induction m with
  | zero =>
    intro l listed nx0 s h M a w hm hsz hl hlt hp hdown hM sim hd
    have hl0 : l = [] := List.eq_nil_of_length_eq_zero hm
    subst hl0
    refine ⟨?_, hQ M nx0 s h a w hM sim hd⟩
    rw [List.eq_nil_iff_forall_not_mem]
    intro i hi
    obtain ⟨h1, o, ho, _⟩ := mem_ready.1 hi
    have := (hl i (Array.getElem?_eq_some_iff.1 ho).1).1 h1
    cases this
  | succ m ih =>
    intro l listed nx0 s h M a w hm hsz hl hlt hp hdown hM sim hd
    have hlisted : ∀ i, i < ops.size → i ∉ l → listed.getD i false = true := fun i hi hn => by
      have : ¬ listed.getD i true = false := fun e => hn ((hl i hi).1 e)
      have hi' : i < listed.size := by rw [hsz]; exact hi
      simp [Array.getD, hi'] at this ⊢
      exact this
    refine ⟨fun h0 => ?_, fun i hi => ?_⟩
    · exfalso
      cases l with
      | nil => simp at hm
      | cons x xs =>
        have hx : x < ops.size := hlt x (by simp)
        have ho : ops[x]? = some ops[x] := Array.getElem?_eq_getElem hx
        have : x ∈ Region.ready .any ops listed := by
          refine mem_ready.2 ⟨(hl x hx).2 (by simp), ops[x], ho, fun e he hb => ?_⟩
          have hlt' := (statOk_at hs ho).1 e he hb
          refine hlisted e.on (Nat.lt_trans hlt' hx) fun hm => ?_
          rcases List.mem_cons.1 hm with h1 | h1
          · omega
          · have := (List.pairwise_cons.1 hp).1 _ h1
            omega
        rw [h0] at this; cases this
    · obtain ⟨h1, o, ho, hall⟩ := mem_ready.1 hi
      have hisz : i < ops.size := (Array.getElem?_eq_some_iff.1 ho).1
      have hil : i ∈ l := (hl i hisz).1 h1
      obtain ⟨l1, l2, rfl⟩ := List.append_of_mem hil
      have hdone : ∀ e ∈ o.after, Region.binds .any e = true → e.on < ops.size ∧ e.on ∉ l1 ++ i :: l2 := fun e he hb => by
        have hlt' := (statOk_at hs ho).1 e he hb
        have hsz' := Nat.lt_trans hlt' hisz
        refine ⟨hsz', fun hm => ?_⟩
        have := hall e he hb
        have h2 := (hl e.on hsz').2 hm
        have hi' : e.on < listed.size := by rw [hsz]; exact hsz'
        simp [Array.getD, hi'] at this h2
        rw [this] at h2; cases h2
      have hanc : ∀ x ∈ anc.getD i [], x ∉ l1 ++ i :: l2 := fun x hx => by
        obtain ⟨e, he, hb, hxe⟩ := (statOk_at hs ho).2.1 x hx
        obtain ⟨g1, g2⟩ := hdone e he hb
        rcases hxe with rfl | hxe
        · exact g2
        · exact hdown e.on g1 g2 x hxe
      have hpw := List.pairwise_append.1 hp
      have hl1 : ∀ p ∈ l1, p < i := fun p hp' => hpw.2.2 p hp' i (by simp)
      have hl2 : ∀ p ∈ l2, i < p := fun p hp' => (List.pairwise_cons.1 hpw.2.1).1 p hp'
      have hn : i ∉ l1 ++ l2 := fun hm => by
        rcases List.mem_append.1 hm with h | h
        · have := hl1 i h; omega
        · have := hl2 i h; omega
      have hfront := drunS_front l1 (fun p hp' => by
        have hnc : (anc.getD i []).contains p = false := by
          cases hc : (anc.getD i []).contains p with
          | false => rfl
          | true => exact absurd (List.mem_append_left _ hp') (hanc p (by simpa using hc))
        refine ⟨hnc, fun op oi h1 h2 => ?_⟩
        rw [ho] at h2
        simp only [Option.some.injEq] at h2; subst h2
        exact (statOk_at hs ho).2.2 p op (hl1 p hp') h1 hnc) hd
      obtain ⟨o', e, v, h', nx', k1, k2, k3, k5⟩ := hfront
      rw [ho] at k1
      simp only [Option.some.injEq] at k1; subst k1
      have ih' := fun nx s h M a w => ih (l1 ++ l2) (listed.setIfInBounds i true) nx s h M a w (by simp at hm ⊢; omega) (by simpa using hsz) (fun j hj => by
          by_cases hji : i = j
          · subst hji
            have hi' : i < listed.size := by rw [hsz]; exact hisz
            simp only [List.mem_append] at hn
            simp [Array.getD, hi', hn]
          · rw [getD_set_ne true hji, hl j hj]
            have : ¬ j = i := fun e => hji e.symm
            simp [this]) (fun j hj => hlt j (by rcases List.mem_append.1 hj with h | h <;> simp [h])) (by
          refine List.pairwise_append.2 ⟨hpw.1, (List.pairwise_cons.1 hpw.2.1).2, fun a ha b hb => hpw.2.2 a ha b (by simp [hb])⟩) (fun j hj hjn x hx hxl => by
          have hxl' : x ∈ l1 ++ i :: l2 := by rcases List.mem_append.1 hxl with h | h <;> simp [h]
          by_cases hji : j = i
          · subst hji; exact hanc x hx hxl'
          · refine hdown j hj (fun hm => hjn ?_) x hx hxl'
            rcases List.mem_append.1 hm with h | h
            · exact List.mem_append_left _ h
            · rcases List.mem_cons.1 h with h | h
              · exact absurd h hji
              · exact List.mem_append_right _ h)
      have k5' := drunS_less (log' := []) (l1 ++ l2) (fun x hx => by cases hx) k5
      have hal0 : ∀ k, alD nx0 ops.size (l1 ++ i :: l2) k → alD nx0 ops.size (l1 ++ l2) k := fun k hk => ⟨hk.1, fun p hp' => hk.2 p (by rcases List.mem_append.1 hp' with h | h <;> simp [h])⟩
      have hal : ∀ k, alAdd (alD nx0 ops.size (l1 ++ i :: l2)) (nx0 + i) k → alD nx0 ops.size (l1 ++ l2) k := fun k hk => by
        rcases hk with hk | rfl
        · exact hal0 k hk
        · refine ⟨by omega, fun p hp' he => hn ?_⟩
          have : p = i := by omega
          rw [← this]; exact hp'
      have hnal : ¬ alD nx0 ops.size (l1 ++ i :: l2) (nx0 + i) := fun hk => hk.2 i (by simp) rfl
      unfold wpOpIn
      rw [ho]
      simp only
      have hnd : wantedA ops s o = some true → (∃ r, aopD P G s (dget h) (nx0 + i) o = some r) → ∀ c, o.op ≠ .defer c := by
        rintro _ ⟨r, hres⟩ c hc'
        obtain ⟨dst, op, ty, pos, after, guard⟩ := o
        simp only at hc'
        subst hc'
        simp [aopD, aop1, aop2, aop3] at hres
      rcases k2 with ⟨hw, rfl, rfl, rfl, _⟩ | ⟨hw, u, hres, k4, rfl, rfl, _⟩ | ⟨hw, ⟨f, args, hres, hPl⟩, rfl, rfl, _⟩ | ⟨hw, R, ⟨y, f, args, st', hres, hg, _, _, rfl, rfl⟩, _⟩
      · have hw' := wantedA_ok sim.rs hw
        rw [if_neg (by rw [hw']; simp)]
        exact ⟨fun f _ => hF.fn f, ih' _ _ _ M _ _ hM (sim.put M.le_refl (sim.inv.more hal0) o.dst uu_rel) k5'⟩
      · have hup := dget_dupd u h k4
        have hw' := wantedA_ok sim.rs hw
        rw [if_pos hw']
        refine ⟨fun f _ => hF.fn f, ?_⟩
        rw [Oper.semAt_eq _ _ _ (hnd hw (by rcases hres with h | ⟨h, _⟩ <;> exact ⟨_, h⟩))]
        rcases hres with hres | ⟨hres, rfl⟩
        · obtain ⟨v', w', M', h1, h2, h3, h4⟩ := aopD_ok (P := P) sim.inv hnal sim.rs hres
          rw [h1]
          refine ih' _ _ _ M' _ _ (Mem.le_trans hM h2) (sim.put h2 ?_ o.dst h4) k5'
          rw [hup]
          exact h3.more hal
        · obtain ⟨w', M', h1, h2, h3⟩ := aopD_ok (P := P) sim.inv hnal sim.rs hres
          rw [h1]
          refine ih' _ _ _ M' _ _ (Mem.le_trans hM h2) (sim.put h2 ?_ o.dst uu_rel) k5'
          rw [hup]
          exact h3.more hal
      · have hw' := wantedA_ok sim.rs hw
        rw [if_pos hw']
        refine ⟨fun f _ => hF.fn f, ?_⟩
        rw [Oper.semAt_eq _ _ _ (hnd hw ⟨_, hres⟩)]
        obtain ⟨vs, g1, g2⟩ := aopD_ok (P := P) sim.inv hnal sim.rs hres
        obtain ⟨⟨fn, q1, q2, q3⟩, hcall⟩ := PC.callG hF hPl sim.inv g1
        rw [g2 fn q1 q2 q3, Oper.uponIn_enter]
        refine ⟨fun hd => by rw [hF.depth] at hd; simp at hd, (hcall (n - 1)).mono ?_⟩
        rintro e w' ⟨M', v', av, rfl, r1, r2, r3, rfl⟩
        exact ih' _ _ _ M' _ _ (Mem.le_trans hM r1) (sim.put r1 (r2.more hal0) o.dst r3) k5'
      · have hw' := wantedA_ok sim.rs hw
        rw [if_pos hw']
        refine ⟨fun f _ => hF.fn f, ?_⟩
        rw [Oper.semAt_eq _ _ _ (hnd hw ⟨_, hres⟩)]
        have hg' := hgc _ _ _ _ _ _ hg
        obtain ⟨F1, inv1, hback⟩ := sim.inv.hide (fun k => R.contains k) (hp1 := hget (undh (hsel R h))) (al1 := (· < nx0 + ops.size)) (fun k b hk => dget_sel h k b (undh_get _ _ _ hk)) (fun k hk => hk.1)
        have fin : ∀ w' M' v' av st2, Mem.le { M with F := F1 } M' → Inv G M' (· < st2.nx) st2.hp W w' → M'.rel av v' → av = v ∧ st2 = st' → wpAnyIn F n P .any ops Q m (listed.setIfInBounds i true) (a.put o.dst v') w' := by
          rintro w' M' v' av st2 r1 r2 r3 ⟨rfl, rfl⟩
          obtain ⟨hle2, hinv2⟩ := hback M' w' _ _ r1 r2
          refine ih' _ _ _ { M' with F := M.F } _ _ (Mem.le_trans hM hle2) (sim.put hle2 ?_ o.dst r3) k5'
          refine (hinv2 (dget (hkeep R h ++ dh0 st2.nx (news 0 ops.toList) st2.h)) fun k b hk => ?_).more fun k hk => ⟨?_, fun p _ => ?_⟩
          · rw [dget_app] at hk
            split at hk
            · rename_i hh
              have hR := dhas_keep_out h k hh
              rw [dget_keep h k hR] at hk
              exact .inl ⟨hk, hR⟩
            · exact .inr (dh0_get _ _ _ _ _ hk)
          · have : k < st2.nx := hk
            omega
          · have : k < st2.nx := hk
            omega
        cases y with
        | false =>
          simp only [Bool.false_eq_true, if_false] at hg'
          have hres' : aopD P G s (dget h) (nx0 + i) o = some (.call f args) := by simpa [tgt] using hres
          obtain ⟨vs, g1, g2⟩ := aopD_ok (P := P) sim.inv hnal sim.rs hres'
          obtain ⟨⟨fn, q1, q2, q3⟩, hcall⟩ := hg' { M with F := F1 } w vs inv1 g1
          rw [g2 fn q1 q2 q3, Oper.uponIn_enter]
          refine ⟨fun hd => by rw [hF.depth] at hd; simp at hd, (hcall (n - 1)).mono ?_⟩
          rintro e w' ⟨M', v', av, st2, rfl, r1, r2, r3, r4⟩
          exact fin w' M' v' av st2 r1 r2 r3 r4
        | true =>
          simp only [if_true] at hg'
          have hres' : aopD P G s (dget h) (nx0 + i) o = some (.yield f args) := by simpa [tgt] using hres
          obtain ⟨l, vs, hL, g1, g2⟩ := aopD_ok (P := P) sim.inv hnal sim.rs hres'
          obtain ⟨f', tmps, assign, body, t1, t2⟩ := hg' { M with F := F1 } w vs inv1 g1 l hL
          rw [g2, t1, Oper.uponIn_round]
          refine ⟨fun hd => by rw [hF.depth] at hd; simp at hd, (t2 (n - 1)).mono ?_⟩
          rintro e w' ⟨M', v', av, st2, rfl, r1, r2, r3, r4⟩
          exact fin w' M' v' av st2 r1 r2 r3 r4
end

/-! ### As a run -/
theorem ancs_len : ∀ (l : List Oper) (acc : List (List Nat)), (ancs l acc).length = acc.length + l.length
  | [], _ => by simp [ancs]
  | o :: r, acc => by simp [ancs, ancs_len r]; omega
section
variable {R : Type}
def sputF (s : List AV) (d : Option Tmp) (v : AV) (k : List AV → R) : R :=
  match d with
  | some d => setF s d v k
  | none => k s
theorem sputF_eq (s : List AV) (d : Option Tmp) (v : AV) (k : List AV → R) : sputF s d v k = k (sput s d v) := by
  cases d <;> simp only [sputF, sput, setF_eq]
def dsetF : DH → Nat → Option Blk → (DH → R) → R
  | [], _, _, k => k []
  | (q', b') :: r, q, b, k => if q = q' then k ((q', b) :: r) else dsetF r q b fun r' => k ((q', b') :: r')
theorem dsetF_eq : ∀ (h : DH) (q : Nat) (b : Option Blk) (k : DH → R), dsetF h q b k = k (dset h q b)
  | [], _, _, _ => rfl
  | (q', b') :: r, q, b, k => by
    simp only [dsetF, dset]
    split
    · rfl
    · rw [dsetF_eq r]
def dupdF : DH → List (Nat × Option Blk) → (DH → R) → R
  | h, [], k => k h
  | h, (q, some b) :: u, k => forceB b fun b' => dsetF h q (some b') fun h' => dupdF h' u k
  | h, (q, none) :: u, k => dsetF h q none fun h' => dupdF h' u k
theorem dupdF_eq : ∀ (u : List (Nat × Option Blk)) (h : DH) (k : DH → R), dupdF h u k = k (dupd h u)
  | [], _, _ => rfl
  | (q, some b) :: u, h, k => by simp only [dupdF, forceB_eq, dsetF_eq, dupd]; rw [dupdF_eq u]
  | (q, none) :: u, h, k => by simp only [dupdF, dsetF_eq, dupd]; rw [dupdF_eq u]
def forceDH : DH → (DH → R) → R
  | [], k => k []
  | (q, none) :: r, k => forceNat q fun q' => forceDH r fun r' => k ((q', none) :: r')
  | (q, some b) :: r, k => forceNat q fun q' => forceDH r fun r' => k ((q', some b) :: r')
theorem forceDH_eq : ∀ (h : DH) (k : DH → R), forceDH h k = k h
  | [], _ => rfl
  | (q, none) :: r, k => by simp only [forceDH, forceNat_eq]; rw [forceDH_eq r]
  | (q, some b) :: r, k => by simp only [forceDH, forceNat_eq]; rw [forceDH_eq r]
def forceH : List (Nat × Blk) → (List (Nat × Blk) → R) → R
  | [], k => k []
  | (q, b) :: r, k => forceH r fun r' => k ((q, b) :: r')
theorem forceH_eq : ∀ (h : List (Nat × Blk)) (k : List (Nat × Blk) → R), forceH h k = k h
  | [], _ => rfl
  | (q, b) :: r, k => by simp only [forceH]; rw [forceH_eq r]
/-- What an operation looked at and turned is kept where it matters. -/
def keep (anc : List (List Nat)) (e : LE) (log : List LE) (fail : R) (k : List LE → R) : R :=
  if triv e then k log else if chk anc e log then k (e :: log) else fail
theorem keep_ok {ok : R → Prop} {anc : List (List Nat)} {e : LE} {log : List LE} {fail : R} (hfail : ¬ ok fail) {k : List LE → R} (h : ok (keep anc e log fail k)) : chk anc e log = true ∧ ∃ log', (∀ x ∈ e :: log, x ∈ log' ∨ triv x = true) ∧ ok (k log') := by
  unfold keep at h
  split at h
  · rename_i ht
    refine ⟨chk_triv ht, log, fun x hx => ?_, h⟩
    rcases List.mem_cons.1 hx with rfl | hx
    · exact .inr ht
    · exact .inl hx
  · split at h
    · rename_i hc
      exact ⟨hc, e :: log, fun x hx => .inl hx, h⟩
    · exact absurd h hfail
mutual
/-- The keys that a value leads to. -/
def AV.ks : AV → List Nat
  | .ptr k _ | .msl k _ _ _ | .map k | .yld k => [k]
  | .sl _ _ (.tok k) => [k]
  | .fn _ a b => AV.ksL a ++ AV.ksL b
  | .agg cs | .tup cs => AV.ksL cs
  | .ifc _ v => v.ks
  | _ => []
def AV.ksL : List AV → List Nat
  | [] => []
  | x :: xs => x.ks ++ AV.ksL xs
end
def Blk.ks : Blk → List Nat
  | .cells cs => AV.ksL cs
  | .map es _ => es.flatMap fun e => e.key.ks ++ e.val.ks
  | .mit m _ _ _ => [m]
  | .loop _ _ s _ _ _ d => d :: AV.ksL s
  | _ => []
/-- The keys that may be come to from some. -/
def closeK (h : DH) : Nat → List Nat → List Nat → List Nat
  | 0, _, acc => acc
  | _, [], acc => acc
  | n + 1, k :: todo, acc => if acc.contains k then closeK h n todo acc else closeK h n ((match dget h k with
      | some b => b.ks
      | none => []) ++ todo) (k :: acc)
def reach (h : DH) (args : List AV) : List Nat := closeK h 1000 (AV.ksL args) []

def drun (P : Program) (G : Nat → Option (List AV)) (fail : R) (callP : FuncId → List AV → ((List Nat → St → R) → R) → (AV → R) → (List Nat → AV → St → R) → R) (yieldP : Nat → List AV → (List Nat → AV → St → R) → List Nat → St → R) (ops : Array Oper) (anc : List (List Nat)) (K : Nat → List AV → DH → R) : List Nat → List LE → Nat → List AV → DH → R
  | [], _, nx0, s, h => K nx0 s h
  | p :: rest, log, nx0, s, h =>
    match ops[p]? with
    | none => fail
    | some o => match wantedA ops s o with
      | none => fail
      | some c => if c then
          match aopD P G s (dget h) (nx0 + p) o with
          | some (.val v u) => if u.all (fun x => dhas h x.1) then keep anc ⟨p, akeys P G s o, u.map (·.1), false, false, usesNx o.op, 0⟩ log fail fun log' => forceO o.op v fun v' => sputF s o.dst v' fun s' => dupdF h u fun h' => drun P G fail callP yieldP ops anc K rest log' nx0 s' h' else fail
          | some (.skip u) => if u.all (fun x => dhas h x.1) then keep anc ⟨p, akeys P G s o, u.map (·.1), false, false, usesNx o.op, 0⟩ log fail fun log' => sputF s o.dst uu fun s' => dupdF h u fun h' => drun P G fail callP yieldP ops anc K rest log' nx0 s' h' else fail
          | some (.call f args) => callP f args (fun k => let R := reach h args; k R ⟨undh (hsel R h), nx0 + ops.size⟩) (fun v => keep anc ⟨p, akeys P G s o, [], true, false, true, 0⟩ log fail fun log' => sputF s o.dst v fun s' => drun P G fail callP yieldP ops anc K rest log' nx0 s' h)
              (fun R v st' => if st'.h.all (fun x => R.contains x.1 || Nat.ble (nx0 + ops.size) x.1) && Nat.ble (nx0 + ops.size) st'.nx then
                keep anc ⟨p, akeys P G s o ++ R, R, true, true, true, nx0 + ops.size⟩ log fail fun log' => sputF s o.dst v fun s' => forceDH (hkeep R h ++ dh0 st'.nx (news 0 ops.toList) st'.h) fun h' => drun P G fail callP yieldP ops anc K rest log' st'.nx s' h' else fail)
          | some (.yield f args) => let R := reach h (.yld f :: args); yieldP f args
              (fun R v st' => if st'.h.all (fun x => R.contains x.1 || Nat.ble (nx0 + ops.size) x.1) && Nat.ble (nx0 + ops.size) st'.nx then
                keep anc ⟨p, akeys P G s o ++ R, R, true, true, true, nx0 + ops.size⟩ log fail fun log' => sputF s o.dst v fun s' => forceDH (hkeep R h ++ dh0 st'.nx (news 0 ops.toList) st'.h) fun h' => drun P G fail callP yieldP ops anc K rest log' st'.nx s' h' else fail) R ⟨undh (hsel R h), nx0 + ops.size⟩
          | _ => fail
        else sputF s o.dst uu fun s' => drun P G fail callP yieldP ops anc K rest log nx0 s' h

def adraw (P : Program) (G : Nat → Option (List AV)) (fail : R) (callP : FuncId → List AV → ((List Nat → St → R) → R) → (AV → R) → (List Nat → AV → St → R) → R) (yieldP : Nat → List AV → (List Nat → AV → St → R) → List Nat → St → R) (ops : Array Oper) (K : Fr → St → R) (fr : Fr) (st : St) : R :=
  if statOk ops (ancs ops.toList []) then
    forceDH (dh0 st.nx (news 0 ops.toList) st.h) fun h0 => drun P G fail callP yieldP ops (ancs ops.toList []) (fun nx s h => forceH (undh h) fun h' => forceNat (nx + ops.size) fun n' => K ⟨s, fr.marks⟩ ⟨h', n'⟩) (List.range ops.size) [] st.nx fr.s h0
  else fail

/-- What a handler of calls in a drawn region answers: a call of plain values with a plain result, or one of the wide kind. -/
def DrawOk (P : Program) (G : Nat → Option (List AV)) (gc : GC) (ok : R → Prop) (callP : FuncId → List AV → ((List Nat → St → R) → R) → (AV → R) → (List Nat → AV → St → R) → R) : Prop :=
  ∀ f args g K1 K2, ok (callP f args g K1 K2) → (∃ r, Pl P G f args r ∧ ok (K1 r)) ∨ ∃ k, ok (g k) ∧ ∀ R st, ok (k R st) → ∃ v st', gc false f args st v st' ∧ ok (K2 R v st')
def DrawYOk (gc : GC) (ok : R → Prop) (yieldP : Nat → List AV → (List Nat → AV → St → R) → List Nat → St → R) : Prop :=
  ∀ f args K2 R st, ok (yieldP f args K2 R st) → ∃ v st', gc true f args st v st' ∧ ok (K2 R v st')

theorem drun_S {gc : GC} {ok : R → Prop} {fail : R} {callP : FuncId → List AV → ((List Nat → St → R) → R) → (AV → R) → (List Nat → AV → St → R) → R} {yieldP : Nat → List AV → (List Nat → AV → St → R) → List Nat → St → R} (hfail : ¬ ok fail) (hcall : DrawOk P G gc ok callP) (hyield : DrawYOk gc ok yieldP) {ops : Array Oper} {anc : List (List Nat)} {K : Nat → List AV → DH → R} :
    ∀ (l : List Nat) (log : List LE) (nx0 : Nat) (s : List AV) (h : DH), ok (drun P G fail callP yieldP ops anc K l log nx0 s h) → drunS P G gc ops anc (fun nx s h => ok (K nx s h)) l log nx0 s h
  | [], _, _, _, _, hk => hk
  | p :: rest, log, nx0, s, h, hk => by
    simp only [drun, forceO_eq, sputF_eq, dupdF_eq, forceDH_eq] at hk
    split at hk
    · exact absurd hk hfail
    · rename_i o ho
      split at hk
      · exact absurd hk hfail
      · rename_i c hc
        cases c with
        | false =>
          simp only [Bool.false_eq_true, if_false] at hk
          have ht : triv ⟨p, [], [], false, false, false, 0⟩ = true := rfl
          refine ⟨o, _, _, _, _, ho, .inl ⟨hc, rfl, rfl, rfl, rfl⟩, chk_triv ht, ?_⟩
          refine drunS_less' rest (fun x hx => ?_) (drun_S hfail hcall hyield rest _ _ _ _ hk)
          rcases List.mem_cons.1 hx with rfl | hx
          · exact .inr ht
          · exact .inl hx
        | true =>
          simp only [if_true] at hk
          split at hk
          · rename_i v u hres
            split at hk
            · rename_i hall
              simp only [List.all_eq_true] at hall
              obtain ⟨hchk, log', hl, hk⟩ := keep_ok hfail hk
              exact ⟨o, _, _, _, _, ho, .inr (.inl ⟨hc, u, .inl hres, hall, rfl, rfl, rfl⟩), hchk, drunS_less' rest hl (drun_S hfail hcall hyield rest _ _ _ _ hk)⟩
            · exact absurd hk hfail
          · rename_i u hres
            split at hk
            · rename_i hall
              simp only [List.all_eq_true] at hall
              obtain ⟨hchk, log', hl, hk⟩ := keep_ok hfail hk
              exact ⟨o, _, _, _, _, ho, .inr (.inl ⟨hc, u, .inr ⟨hres, rfl⟩, hall, rfl, rfl, rfl⟩), hchk, drunS_less' rest hl (drun_S hfail hcall hyield rest _ _ _ _ hk)⟩
            · exact absurd hk hfail
          · rename_i f args hres
            rcases hcall _ _ _ _ _ hk with ⟨r, hr, hk⟩ | ⟨k, hk, hkk⟩
            · obtain ⟨hchk, log', hl, hk⟩ := keep_ok hfail hk
              exact ⟨o, _, _, _, _, ho, .inr (.inr (.inl ⟨hc, ⟨f, args, hres, hr⟩, rfl, rfl, rfl⟩)), hchk, drunS_less' rest hl (drun_S hfail hcall hyield rest _ _ _ _ hk)⟩
            · obtain ⟨v, st', hg, hk⟩ := hkk _ _ hk
              split at hk
              · rename_i hcond
                simp only [Bool.and_eq_true, List.all_eq_true, Bool.or_eq_true] at hcond
                obtain ⟨hchk, log', hl, hk⟩ := keep_ok hfail hk
                refine ⟨o, _, _, _, _, ho, .inr (.inr (.inr ⟨hc, _, ⟨false, f, args, st', hres, hg, fun x hx => ?_, Nat.le_of_ble_eq_true hcond.2, rfl, rfl⟩, rfl⟩)), hchk, drunS_less' rest hl (drun_S hfail hcall hyield rest _ _ _ _ hk)⟩
                rcases hcond.1 x hx with h | h
                · exact .inl h
                · exact .inr (Nat.le_of_ble_eq_true h)
              · exact absurd hk hfail
          · rename_i f args hres
            obtain ⟨v, st', hg, hk⟩ := hyield _ _ _ _ _ hk
            split at hk
            · rename_i hcond
              simp only [Bool.and_eq_true, List.all_eq_true, Bool.or_eq_true] at hcond
              obtain ⟨hchk, log', hl, hk⟩ := keep_ok hfail hk
              refine ⟨o, _, _, _, _, ho, .inr (.inr (.inr ⟨hc, _, ⟨true, f, args, st', hres, hg, fun x hx => ?_, Nat.le_of_ble_eq_true hcond.2, rfl, rfl⟩, rfl⟩)), hchk, drunS_less' rest hl (drun_S hfail hcall hyield rest _ _ _ _ hk)⟩
              rcases hcond.1 x hx with h | h
              · exact .inl h
              · exact .inr (Nat.le_of_ble_eq_true h)
            · exact absurd hk hfail
          · exact absurd hk hfail

theorem adraw_ok {gc : GC} {F : Fence} (hF : Free F) (hmix : P.follows .mixedOrders = true) {W : World} (hgc : GcOk F P G W gc) {ok : R → Prop} {fail : R} {callP : FuncId → List AV → ((List Nat → St → R) → R) → (AV → R) → (List Nat → AV → St → R) → R} {yieldP : Nat → List AV → (List Nat → AV → St → R) → List Nat → St → R} (hfail : ¬ ok fail) (hcall : DrawOk P G gc ok callP) (hyield : DrawYOk gc ok yieldP)
    {id : Nat} {ops : Array Oper} {K : Fr → St → R} {fr : Fr} {st : St} (h : ok (adraw P G fail callP yieldP ops K fr st)) : CodeOk F P G W (.region id ops true) (fun x fr st => match x with | .normal => ok (K fr st) | _ => False) fr st := by
  intro M a w n sim
  unfold adraw at h
  simp only [forceDH_eq, forceH_eq, forceNat_eq] at h
  split at h
  · rename_i hs
    have hS := drun_S hfail hcall hyield _ _ _ _ _ h
    refine wpIn_region_any hmix ?_
    refine draw_any (P := P) (G := G) (W := W) (M0 := M) (marks := fr.marks) hF hgc ⟨hs, ancs_ok ops.toList [] [] rfl (fun i o hi => by simp at hi), by rw [ancs_len]; simp⟩ (fun M' nx s h a w hM sim' hk => ?_) ops.size (List.range ops.size) _ st.nx fr.s _ M a _ (by simp) (by simp) (fun i hi => by simp [Array.getD, hi]) (fun i hi => List.mem_range.1 hi) List.pairwise_lt_range
      (fun i hi hn => absurd (List.mem_range.2 hi) hn) M.le_refl ?_ hS
    · refine ⟨M', ⟨s, fr.marks⟩, ⟨undh h, nx + ops.size⟩, .normal, hM, ⟨?_, sim'.rs, sim'.defers⟩, rfl, hk⟩
      exact (sim'.inv.more fun k hk => hk.1).less fun k b hk => undh_get _ _ _ hk
    · refine ⟨?_, sim.rs, sim.defers⟩
      have inv := sim.inv
      have inv' : Inv G M (· < st.nx) st.hp W { w with drawn := w.drawn + 1 } := ⟨inv.imm, inv.far, inv.os, inv.tape, inv.out, inv.fresh, inv.live, inv.inj, inv.glob, inv.has⟩
      refine (inv'.more fun k hk => ⟨?_, fun p _ => ?_⟩).less fun k b hk => dh0_get _ _ _ _ _ hk
      · have : k < st.nx := hk
        omega
      · have : k < st.nx := hk
        omega
  · exact absurd h hfail
end

end Go.Proofs.Pv
