/-
  The abstract machine, part O: regions that draw their order of evaluation: a run in the order of the text, with a look at what each operation looks at and turns, stands for every order.
  Conditions: the invariant 'Inv'; the program follows mixed orders.
-/
import Derived.Test.YtgjjcdjcpbjdgaaGreatDoorPvN
namespace Go.Proofs.Pv
set_option linter.unusedVariables false
set_option linter.unusedSimpArgs false
open Go
variable {P : Program} {G : Nat → Option (List AV)}

/-- A call of plain values that answers r. -/
def Pl (P : Program) (G : Nat → Option (List AV)) (f : FuncId) (args : List AV) (r : AV) : Prop :=
  PC P G f (args.map AV.plain) (fun v => v = r)

abbrev DH := List (Nat × Option Blk)
def dget : DH → Nat → Option Blk
  | [], _ => none
  | (k', b) :: r, k => if k = k' then b else dget r k
def dset : DH → Nat → Option Blk → DH
  | [], _, _ => []
  | (k', b') :: r, k, b => if k = k' then (k', b) :: r else (k', b') :: dset r k b
def dhas : DH → Nat → Bool
  | [], _ => false
  | (k', _) :: r, k => if k = k' then true else dhas r k
def dupd : DH → List (Nat × Option Blk) → DH
  | h, [] => h
  | h, (k, b) :: u => dupd (dset h k b) u

theorem dhas_dset : ∀ (h : DH) (k : Nat) (b : Option Blk) (q : Nat), dhas (dset h k b) q = dhas h q
  | [], _, _, _ => rfl
  | (k', b') :: r, k, b, q => by
    simp only [dset]
    split
    · rfl
    · simp only [dhas, dhas_dset r]
theorem dhas_dupd : ∀ (u : List (Nat × Option Blk)) (h : DH) (q : Nat), dhas (dupd h u) q = dhas h q
  | [], _, _ => rfl
  | (k, b) :: u, h, q => by simp only [dupd]; rw [dhas_dupd u, dhas_dset]
theorem dset_comm : ∀ (h : DH) (k1 k2 : Nat) (a b : Option Blk), k1 ≠ k2 → dset (dset h k1 a) k2 b = dset (dset h k2 b) k1 a
  | [], _, _, _, _, _ => rfl
  | (k', b') :: r, k1, k2, a, b, hne => by
    by_cases h1 : k1 = k'
    · have h2 : ¬ k2 = k' := fun e => hne (h1.trans e.symm)
      simp [dset, h1, h2]
    · by_cases h2 : k2 = k'
      · simp [dset, h1, h2]
      · simp [dset, h1, h2, dset_comm r k1 k2 a b hne]
theorem dset_dupd : ∀ (u : List (Nat × Option Blk)) (h : DH) (k : Nat) (b : Option Blk), (∀ x ∈ u, x.1 ≠ k) → dset (dupd h u) k b = dupd (dset h k b) u
  | [], _, _, _, _ => rfl
  | (q, c) :: u, h, k, b, hne => by
    simp only [dupd]
    rw [dset_dupd u _ k b fun x hx => hne x (by simp [hx]), dset_comm _ _ _ _ _ (hne (q, c) (by simp))]
theorem dupd_comm : ∀ (u u' : List (Nat × Option Blk)) (h : DH), (∀ x ∈ u, ∀ y ∈ u', x.1 ≠ y.1) → dupd (dupd h u) u' = dupd (dupd h u') u
  | [], _, _, _ => rfl
  | (k, b) :: u, u', h, hne => by
    simp only [dupd]
    rw [dset_dupd u' h k b fun y hy => (hne (k, b) (by simp) y hy).symm]
    exact dupd_comm u u' _ fun x hx => hne x (by simp [hx])
theorem dget_dset_ne : ∀ (h : DH) (k q : Nat) (b : Option Blk), q ≠ k → dget (dset h k b) q = dget h q
  | [], _, _, _, _ => rfl
  | (k', b') :: r, k, q, b, hne => by
    simp only [dset]
    split
    · rename_i e; subst e; simp [dget, hne]
    · simp only [dget, dget_dset_ne r k q b hne]
theorem dget_dupd_ne : ∀ (u : List (Nat × Option Blk)) (h : DH) (q : Nat), (∀ x ∈ u, x.1 ≠ q) → dget (dupd h u) q = dget h q
  | [], _, _, _ => rfl
  | (k, b) :: u, h, q, hne => by
    simp only [dupd]
    rw [dget_dupd_ne u _ q fun x hx => hne x (by simp [hx]), dget_dset_ne _ _ _ _ (hne (k, b) (by simp)).symm]
theorem dget_dset : ∀ (h : DH) (k : Nat) (b : Option Blk), dhas h k = true → dget (dset h k b) = hpSet (dget h) k b
  | [], _, _, h => by simp [dhas] at h
  | (k', b') :: r, k, b, h => by
    funext q
    simp only [dset]
    split
    · rename_i e; subst e; simp only [dget, hpSet]; split <;> rfl
    · rename_i e
      simp only [dhas, e, if_false] at h
      simp only [dget, dget_dset r k b h, hpSet]
      by_cases h1 : q = k'
      · subst h1
        have : ¬ q = k := fun h => e h.symm
        simp [this]
      · simp [h1]
theorem dget_dupd : ∀ (u : List (Nat × Option Blk)) (h : DH), (∀ x ∈ u, dhas h x.1 = true) → dget (dupd h u) = updH (dget h) u
  | [], _, _ => rfl
  | (k, b) :: u, h, hp => by
    simp only [dupd, updH]
    rw [dget_dupd u _ fun x hx => by rw [dhas_dset]; exact hp x (by simp [hx]), dget_dset h k b (hp (k, b) (by simp))]

/-- What is kept of an operation that has been done: its place, the keys that it looked at, those that it turned, whether it was a call. -/
structure LE where
  p : Nat
  ak : List Nat
  wk : List Nat
  call : Bool
  all : Bool := false
  al : Bool := false
  top : Nat := 0

def disj (a b : List Nat) : Bool := a.all fun x => !b.contains x
def triv (e : LE) : Bool := e.ak.isEmpty && e.wk.isEmpty && !e.call && !e.all && !e.al
/-- Beside a wide call stands only what lays no block and knows none that the call may lay. -/
def beside (e e' : LE) : Bool := !e.all || (!e'.al && e'.ak.all (fun k => Nat.blt k e.top) && e'.wk.all (fun k => Nat.blt k e.top))
def compat (e e' : LE) : Bool := disj e.wk e'.ak && disj e.wk e'.wk && disj e.ak e'.wk && !(e.call && e'.call) && beside e e' && beside e' e
def chk (anc : List (List Nat)) (e : LE) (log : List LE) : Bool := log.all fun e' => (anc.getD e.p []).contains e'.p || compat e e'

theorem disj_iff {a b : List Nat} : disj a b = true ↔ ∀ x ∈ a, x ∉ b := by simp [disj]
theorem disj_symm {a b : List Nat} (h : disj a b = true) : disj b a = true := disj_iff.2 fun x hx ha => disj_iff.1 h x ha hx
theorem compat_symm {e e' : LE} (h : compat e e' = true) : compat e' e = true := by
  simp only [compat, Bool.and_eq_true] at h ⊢
  refine ⟨⟨⟨⟨⟨disj_symm h.1.1.1.2, disj_symm h.1.1.1.1.2⟩, disj_symm h.1.1.1.1.1⟩, ?_⟩, h.2⟩, h.1.2⟩
  have h1 := h.1.1.2
  cases h2 : e.call <;> cases h3 : e'.call <;> simp_all

def sput (s : List AV) (d : Option Tmp) (v : AV) : List AV :=
  match d with
  | some d => s.set d v
  | none => s

/-- Operations that may lay a new block. -/
def usesNx : Op → Bool
  | .alloc _ | .box _ _ | .buildSlice _ _ _ | .call _ | .makeMap _ _ | .makeSlice _ _ _ | .range _ _ => true
  | _ => false
theorem aopD_nx {s : List AV} {g : Hp} {nx nx' : Nat} {o : Oper} (h : usesNx o.op = false) : aopD P G s g nx o = aopD P G s g nx' o := by
  obtain ⟨dst, op, ty, pos, after, guard⟩ := o
  cases op <;> first | rfl | (simp [usesNx] at h; done)

def news : Nat → List Oper → List Nat
  | _, [] => []
  | p, o :: r => match o.op with
    | .alloc _ | .box _ _ | .buildSlice _ _ _ | .call _ | .makeMap _ _ | .makeSlice _ _ _ | .range _ _ => p :: news (p + 1) r
    | _ => news (p + 1) r
def dh0 (nx0 : Nat) (l : List Nat) (h : List (Nat × Blk)) : DH := (l.map fun p => (nx0 + p, none)) ++ h.map fun x => (x.1, some x.2)
def undh : DH → List (Nat × Blk)
  | [] => []
  | (k, some b) :: r => (k, b) :: undh r
  | (k, none) :: r => hdel (undh r) k

/-- Calls, and rounds of loops over functions, that may look at, and turn, all. -/
abbrev GC := Bool → Nat → List AV → St → AV → St → Prop
def tgt (y : Bool) (f : Nat) (args : List AV) : Res := if y then .yield f args else .call f args

def hsel (R : List Nat) (h : DH) : DH := h.filter fun x => R.contains x.1
def hkeep (R : List Nat) (h : DH) : DH := h.filter fun x => !R.contains x.1

def DOne (P : Program) (G : Nat → Option (List AV)) (gc : GC) (ops : Array Oper) (nx0 : Nat) (o : Oper) (p : Nat) (s : List AV) (h : DH) (e : LE) (v : AV) (h' : DH) (nx' : Nat) : Prop :=
  (wantedA ops s o = some false ∧ v = uu ∧ h' = h ∧ nx' = nx0 ∧ e = ⟨p, [], [], false, false, false, 0⟩) ∨
  (wantedA ops s o = some true ∧ ∃ u, (aopD P G s (dget h) (nx0 + p) o = some (.val v u) ∨ aopD P G s (dget h) (nx0 + p) o = some (.skip u) ∧ v = uu) ∧ (∀ x ∈ u, dhas h x.1 = true) ∧ h' = dupd h u ∧ nx' = nx0 ∧ e = ⟨p, akeys P G s o, u.map (·.1), false, false, usesNx o.op, 0⟩) ∨
  (wantedA ops s o = some true ∧ (∃ f args, aopD P G s (dget h) (nx0 + p) o = some (.call f args) ∧ Pl P G f args v) ∧ h' = h ∧ nx' = nx0 ∧ e = ⟨p, akeys P G s o, [], true, false, true, 0⟩) ∨
  (wantedA ops s o = some true ∧ ∃ R, (∃ y f args st', aopD P G s (dget h) (nx0 + p) o = some (tgt y f args) ∧ gc y f args ⟨undh (hsel R h), nx0 + ops.size⟩ v st' ∧ (∀ x ∈ st'.h, R.contains x.1 = true ∨ nx0 + ops.size ≤ x.1) ∧ nx0 + ops.size ≤ st'.nx ∧
      h' = hkeep R h ++ dh0 st'.nx (news 0 ops.toList) st'.h ∧ nx' = st'.nx) ∧ e = ⟨p, akeys P G s o ++ R, R, true, true, true, nx0 + ops.size⟩)

def drunS (P : Program) (G : Nat → Option (List AV)) (gc : GC) (ops : Array Oper) (anc : List (List Nat)) (K : Nat → List AV → DH → Prop) : List Nat → List LE → Nat → List AV → DH → Prop
  | [], _, nx, s, h => K nx s h
  | p :: rest, log, nx, s, h => ∃ o e v h' nx', ops[p]? = some o ∧ DOne P G gc ops nx o p s h e v h' nx' ∧ chk anc e log = true ∧ drunS P G gc ops anc K rest (e :: log) nx' (sput s o.dst v) h'

section
variable {gc : GC} {ops : Array Oper} {anc : List (List Nat)} {nx0 : Nat} {K : Nat → List AV → DH → Prop}

theorem triv_iff {e : LE} : triv e = true ↔ e.ak = [] ∧ e.wk = [] ∧ e.call = false ∧ e.all = false ∧ e.al = false := by
  simp only [triv, Bool.and_eq_true, List.isEmpty_iff, Bool.not_eq_true', and_assoc]
theorem compat_triv {e e' : LE} (h : triv e' = true) : compat e e' = true := by
  obtain ⟨h1, h2, h3, h4, h5⟩ := triv_iff.1 h
  simp [compat, beside, disj, h1, h2, h3, h4, h5]
theorem chk_triv {e : LE} {log : List LE} (h : triv e = true) : chk anc e log = true := by
  simp only [chk, List.all_eq_true, Bool.or_eq_true]
  exact fun x _ => .inr (compat_symm (compat_triv h))

theorem drunS_less' : ∀ (l : List Nat) {log log' : List LE} {nx : Nat} {s : List AV} {h : DH}, (∀ e ∈ log', e ∈ log ∨ triv e = true) → drunS P G gc ops anc K l log nx s h → drunS P G gc ops anc K l log' nx s h
  | [], _, _, _, _, _, _, hr => hr
  | p :: l, log, log', nx, s, h, hl, ⟨o, e, v, h', nx', h1, h2, h3, h5⟩ => by
    refine ⟨o, e, v, h', nx', h1, h2, ?_, drunS_less' l (fun x hx => ?_) h5⟩
    · simp only [chk, List.all_eq_true, Bool.or_eq_true] at h3 ⊢
      intro x hx
      rcases hl x hx with hx | hx
      · exact h3 x hx
      · exact .inr (compat_triv hx)
    · rcases List.mem_cons.1 hx with rfl | hx
      · simp
      · rcases hl x hx with hx | hx
        · exact .inl (List.mem_cons_of_mem _ hx)
        · exact .inr hx
theorem drunS_less (l : List Nat) {log log' : List LE} {nx : Nat} {s : List AV} {h : DH} (hl : ∀ e ∈ log', e ∈ log) (hr : drunS P G gc ops anc K l log nx s h) : drunS P G gc ops anc K l log' nx s h :=
  drunS_less' l (fun e he => .inl (hl e he)) hr

theorem ev_sput {s : List AV} {d : Option Tmp} {v : AV} {ty : TypeId} {x : Operand} (h : ∀ t, d = some t → x ≠ .tmp t) : ev P G (sput s d v) ty x = ev P G s ty x := by
  cases d with
  | none => rfl
  | some d =>
    cases x with
    | tmp t =>
      have : d ≠ t := fun e => h d rfl (by rw [e])
      simp only [ev, sput, List.getD_eq_getElem?_getD]
      rw [List.getElem?_set_ne this]
    | _ => rfl

theorem wantedA_sput {s : List AV} {d : Option Tmp} {v : AV} {o : Oper} (h : ∀ t, d = some t → t ∉ o.looksAt ops) : wantedA ops (sput s d v) o = wantedA ops s o := by
  cases d with
  | none => rfl
  | some d =>
    unfold wantedA
    cases hg : o.guard with
    | none => rfl
    | some g =>
      obtain ⟨j, want⟩ := g
      simp only
      cases hd : (ops[j]?).bind (·.dst) with
      | none => rfl
      | some t =>
        have : d ≠ t := fun e => h d rfl (by subst e; simp [Oper.looksAt, hg, hd])
        simp only [sput]
        rw [List.getElem?_set_ne this]

/-- An operation does not look at a place that another one turns. -/
theorem dOne_sput {s : List AV} {h h' : DH} {nx' : Nat} {o : Oper} {p : Nat} {e : LE} {v : AV} {d : Option Tmp} {x : AV} (hd : ∀ t, d = some t → t ∉ o.looksAt ops) :
    DOne P G gc ops nx0 o p s h e v h' nx' ↔ DOne P G gc ops nx0 o p (sput s d x) h e v h' nx' := by
  have hs : ∀ y ∈ o.op.operands, ∀ ty, ev P G (sput s d x) ty y = ev P G s ty y := fun y hy ty => ev_sput fun t ht e => hd t ht (by
    subst e
    exact List.mem_append_left _ (List.mem_filterMap.2 ⟨.tmp t, by simpa using hy, rfl⟩))
  obtain ⟨h1, h2⟩ := aop_congr (P := P) (G := G) (s := sput s d x) (s' := s) (g := dget h) (g' := dget h) (nx := nx0 + p) hs (fun _ _ => rfl)
  have hw := wantedA_sput (ops := ops) (s := s) (v := x) hd
  unfold DOne
  rw [hw, h1, h2]

/-- What an operation that is no call of the wide kind does, it does in each heap that is the same where it looks. -/
theorem dOne_h {s : List AV} {h h' : DH} {nx' : Nat} {o : Oper} {p : Nat} {e : LE} {v : AV} (hd : DOne P G gc ops nx0 o p s h e v h' nx') (ha : e.all = false) :
    ∃ u, h' = dupd h u ∧ nx' = nx0 ∧ (∀ x ∈ u, x.1 ∈ e.wk) ∧ (∀ x ∈ u, dhas h x.1 = true) ∧
      ∀ h2, (∀ k ∈ e.ak, dget h k = dget h2 k) → (∀ x ∈ u, dhas h2 x.1 = true) → DOne P G gc ops nx0 o p s h2 e v (dupd h2 u) nx0 ∧ (e.al = false → ∀ m, DOne P G gc ops m o p s h2 e v (dupd h2 u) m) := by
  rcases hd with ⟨h1, h2, h3, h4, h5⟩ | ⟨h1, u, h2, h3, h4, h5, h6⟩ | ⟨h1, h2, h3, h4, h5⟩ | ⟨_, _, _, h3⟩
  · exact ⟨[], h3, h4, by simp, by simp, fun g _ _ => ⟨.inl ⟨h1, h2, rfl, rfl, h5⟩, fun _ m => .inl ⟨h1, h2, rfl, rfl, h5⟩⟩⟩
  · subst h6
    refine ⟨u, h4, h5, fun x hx => List.mem_map.2 ⟨x, hx, rfl⟩, h3, fun g hk hg => ?_⟩
    have e1 := (aop_congr (P := P) (G := G) (s := s) (s' := s) (g := dget h) (g' := dget g) (nx := nx0 + p) (o := o) (fun _ _ _ => rfl) hk).1
    rw [e1] at h2
    refine ⟨.inr (.inl ⟨h1, u, h2, hg, rfl, rfl, rfl⟩), fun hal m => .inr (.inl ⟨h1, u, ?_, hg, rfl, rfl, rfl⟩)⟩
    rw [aopD_nx (nx' := nx0 + p) hal]; exact h2
  · subst h5
    refine ⟨[], h3, h4, by simp, by simp, fun g hk hg => ⟨.inr (.inr (.inl ⟨h1, ?_, rfl, rfl, rfl⟩)), fun hal => by cases hal⟩⟩
    rw [← (aop_congr (P := P) (G := G) (s := s) (s' := s) (g := dget h) (g' := dget g) (nx := nx0 + p) (o := o) (fun _ _ _ => rfl) hk).1]
    exact h2
  · subst h3; cases ha

theorem dhas_keep {R : List Nat} : ∀ (h : DH) (k : Nat), R.contains k = false → dhas (hkeep R h) k = dhas h k
  | [], _, _ => rfl
  | (k', b) :: r, k, hk => by
    simp only [hkeep, List.filter_cons]
    have ih := dhas_keep r k hk
    by_cases h : R.contains k' = true
    · have hne : ¬ k = k' := fun e => by subst e; rw [hk] at h; cases h
      simp only [h, Bool.not_true, Bool.false_eq_true, if_false, dhas, hne]
      exact ih
    · have h' : R.contains k' = false := by simpa using h
      simp only [h', Bool.not_false, if_true, dhas]
      split
      · rfl
      · exact ih
theorem dget_keep {R : List Nat} : ∀ (h : DH) (k : Nat), R.contains k = false → dget (hkeep R h) k = dget h k
  | [], _, _ => rfl
  | (k', b) :: r, k, hk => by
    simp only [hkeep, List.filter_cons]
    have ih := dget_keep r k hk
    by_cases h : R.contains k' = true
    · have hne : ¬ k = k' := fun e => by subst e; rw [hk] at h; cases h
      simp only [h, Bool.not_true, Bool.false_eq_true, if_false, dget, hne]
      exact ih
    · have h' : R.contains k' = false := by simpa using h
      simp only [h', Bool.not_false, if_true, dget]
      split
      · rfl
      · exact ih
theorem dget_app : ∀ (h x : DH) (k : Nat), dget (h ++ x) k = if dhas h k then dget h k else dget x k
  | [], _, _ => rfl
  | (k', b) :: r, x, k => by
    simp only [List.cons_append, dget, dhas]
    by_cases e : k = k'
    · simp [e]
    · simp only [e, if_false]; exact dget_app r x k
theorem dhas_app : ∀ (h x : DH) (k : Nat), dhas (h ++ x) k = (dhas h k || dhas x k)
  | [], _, _ => rfl
  | (k', b) :: r, x, k => by
    simp only [List.cons_append, dhas]
    by_cases e : k = k'
    · simp [e]
    · simp only [e, if_false]; exact dhas_app r x k
theorem dget_none : ∀ (h : DH) (k : Nat), dhas h k = false → dget h k = none
  | [], _, _ => rfl
  | (k', b) :: r, k, h => by
    simp only [dhas] at h
    simp only [dget]
    split at h
    · cases h
    · rename_i e; rw [if_neg e]; exact dget_none r k h
theorem dset_app : ∀ (h x : DH) (k : Nat) (b : Option Blk), dhas h k = true → dset (h ++ x) k b = dset h k b ++ x
  | [], _, _, _, h => by simp [dhas] at h
  | (k', b') :: r, x, k, b, h => by
    simp only [List.cons_append, dset]
    by_cases e : k = k'
    · simp [e]
    · simp only [dhas, e, if_false] at h
      simp only [e, if_false, List.cons_append, dset_app r x k b h]
theorem dset_sel {R : List Nat} : ∀ (h : DH) (k : Nat) (b : Option Blk), R.contains k = false → hsel R (dset h k b) = hsel R h ∧ hkeep R (dset h k b) = dset (hkeep R h) k b
  | [], _, _, _ => ⟨rfl, rfl⟩
  | (k', b') :: r, k, b, hk => by
    obtain ⟨i1, i2⟩ := dset_sel r k b hk
    by_cases e : k = k'
    · subst e
      have hk' : k ∉ R := by simpa using hk
      simp [dset, hsel, hkeep, List.filter_cons, hk']
    · simp only [dset, e, if_false]
      simp only [hsel, hkeep, List.filter_cons] at i1 i2 ⊢
      by_cases h : R.contains k' = true
      · simp only [h, if_true, Bool.not_true, Bool.false_eq_true, if_false]
        exact ⟨by rw [i1], i2⟩
      · have h' : R.contains k' = false := by simpa using h
        simp only [h', Bool.false_eq_true, if_false, Bool.not_false, if_true, dset, e]
        exact ⟨i1, by rw [i2]⟩
theorem dupd_sel {R : List Nat} : ∀ (u : List (Nat × Option Blk)) (h : DH), (∀ x ∈ u, R.contains x.1 = false) → hsel R (dupd h u) = hsel R h ∧ hkeep R (dupd h u) = dupd (hkeep R h) u
  | [], _, _ => ⟨rfl, rfl⟩
  | (k, b) :: u, h, hk => by
    obtain ⟨i1, i2⟩ := dset_sel (R := R) h k b (hk (k, b) (by simp))
    obtain ⟨j1, j2⟩ := dupd_sel u (dset h k b) fun x hx => hk x (by simp [hx])
    simp only [dupd]
    exact ⟨j1.trans i1, by rw [j2, i2]⟩
theorem dupd_app : ∀ (u : List (Nat × Option Blk)) (h x : DH), (∀ y ∈ u, dhas h y.1 = true) → dupd (h ++ x) u = dupd h u ++ x
  | [], _, _, _ => rfl
  | (k, b) :: u, h, x, hk => by
    simp only [dupd]
    rw [dset_app h x k b (hk (k, b) (by simp))]
    exact dupd_app u _ x fun y hy => by rw [dhas_dset]; exact hk y (by simp [hy])

/-- What lies behind a wide call is new, or was the call's own. -/
theorem dhas_dh0 {nx : Nat} {R : List Nat} {top : Nat} {hh : List (Nat × Blk)} (h1 : ∀ x ∈ hh, R.contains x.1 = true ∨ top ≤ x.1) (h2 : top ≤ nx) (l : List Nat) {k : Nat} (hk : k < top) (hR : R.contains k = false) : dhas (dh0 nx l hh) k = false := by
  have key : ∀ (z : DH), (∀ x ∈ z, x.1 ≠ k) → dhas z k = false := by
    intro z
    induction z with
    | nil => intro _; rfl
    | cons x z ih =>
      intro hz
      obtain ⟨k', b⟩ := x
      simp only [dhas]
      rw [if_neg (fun e => hz (k', b) (by simp) e.symm)]
      exact ih fun y hy => hz y (by simp [hy])
  refine key _ fun x hx => ?_
  rcases List.mem_append.1 hx with hx | hx
  · obtain ⟨p, _, rfl⟩ := List.mem_map.1 hx
    simp only; omega
  · obtain ⟨y, hy, rfl⟩ := List.mem_map.1 hx
    simp only
    intro e
    rcases h1 y hy with h | h
    · rw [e, hR] at h; cases h
    · omega

theorem dOne_p {o : Oper} {p : Nat} {s : List AV} {h h' : DH} {nx' : Nat} {e : LE} {v : AV} (hd : DOne P G gc ops nx0 o p s h e v h' nx') : e.p = p := by
  rcases hd with ⟨_, _, _, _, rfl⟩ | ⟨_, _, _, _, _, _, rfl⟩ | ⟨_, _, _, _, rfl⟩ | ⟨_, _, _, rfl⟩ <;> rfl

/-- A wide call does what it does in each heap that is the same where it looks; and what else there is stays. -/
theorem dOne_all {s : List AV} {h h' : DH} {nx' : Nat} {o : Oper} {p : Nat} {e : LE} {v : AV} (hd : DOne P G gc ops nx0 o p s h e v h' nx') (ha : e.all = true) :
    (∀ k ∈ e.wk, k ∈ e.ak) ∧ e.call = true ∧ (∀ k, k < e.top → k ∉ e.wk → dget h' k = dget h k ∧ (dhas h' k = true → dhas h k = true) ∧ (dhas h k = true → dhas h' k = true)) ∧
      (∀ u : List (Nat × Option Blk), (∀ x ∈ u, x.1 ∉ e.ak ∧ dhas h x.1 = true) → DOne P G gc ops nx0 o p s (dupd h u) e v (dupd h' u) nx') := by
  rcases hd with ⟨_, _, _, _, h5⟩ | ⟨_, _, _, _, _, _, h5⟩ | ⟨_, _, _, _, h5⟩ | ⟨h1, R, ⟨y, f, args, st', g1, g2, g3, g4, g5, g6⟩, h5⟩
  · subst h5; cases ha
  · subst h5; cases ha
  · subst h5; cases ha
  · subst h5
    have hcont : ∀ k, k ∉ R → R.contains k = false := fun k hk => by simpa using hk
    refine ⟨fun k hk => List.mem_append_right _ hk, rfl, fun k hk hR => ?_, fun u hu => ?_⟩
    · have hX := dhas_dh0 g3 g4 (news 0 ops.toList) hk (hcont k hR)
      subst g5
      refine ⟨?_, ?_, ?_⟩
      · rw [dget_app, dhas_keep h k (hcont k hR), dget_keep h k (hcont k hR), dget_none _ _ hX]
        split
        · rfl
        · rename_i hh; exact (dget_none _ _ (by simpa using hh)).symm
      · rw [dhas_app, dhas_keep h k (hcont k hR), hX, Bool.or_false]; exact id
      · rw [dhas_app, dhas_keep h k (hcont k hR), hX, Bool.or_false]; exact id
    · have huR : ∀ x ∈ u, R.contains x.1 = false := fun x hx => hcont _ fun hm => (hu x hx).1 (List.mem_append_right _ hm)
      obtain ⟨q1, q2⟩ := dupd_sel u h huR
      refine .inr (.inr (.inr ⟨h1, R, ⟨y, f, args, st', ?_, by rw [q1]; exact g2, g3, g4, ?_, g6⟩, rfl⟩))
      · rw [← (aop_congr (P := P) (G := G) (s := s) (s' := s) (g := dget h) (g' := dget (dupd h u)) (nx := nx0 + p) (o := o) (fun _ _ _ => rfl) (fun k hk => (dget_dupd_ne u h k fun x hx hxe => (hu x hx).1 (List.mem_append_left _ (hxe ▸ hk))).symm)).1]
        exact g1
      · rw [q2, g5]
        exact dupd_app u _ _ fun y hy => by rw [dhas_keep h _ (huR y hy)]; exact (hu y hy).2

theorem sput_comm {s : List AV} {d d' : Option Tmp} {v v' : AV} (h : ∀ t, d = some t → d' ≠ some t) : sput (sput s d v) d' v' = sput (sput s d' v') d v := by
  cases d <;> cases d' <;> try rfl
  rename_i a b
  simp only [sput]
  rw [List.set_comm]
  intro e; exact h a rfl (by rw [e])

theorem drunS_swap {p q : Nat} {rest : List Nat} {log : List LE} {nx : Nat} {s : List AV} {h : DH} (hn : (anc.getD q []).contains p = false)
    (hap : ∀ o o', ops[p]? = some o → ops[q]? = some o' → o.apart ops o' = true)
    (H : drunS P G gc ops anc K (p :: q :: rest) log nx s h) : drunS P G gc ops anc K (q :: p :: rest) log nx s h := by
  obtain ⟨o, e, v, h1, nx1, g1, g2, g3, o', e', v', h2, nx2, k1, k2, k3, k5⟩ := H
  obtain ⟨ap1, ap2, ap3⟩ := Oper.apart_spec (hap o o' g1 k1)
  have ep := dOne_p g2
  have ep' := dOne_p k2
  have hc : compat e' e = true := by
    simp only [chk, List.all_cons, Bool.and_eq_true, Bool.or_eq_true] at k3
    rcases k3.1 with hc | hc
    · rw [ep', ep, hn] at hc; cases hc
    · exact hc
  have hc0 := hc
  simp only [compat, beside, Bool.and_eq_true, disj_iff, Bool.or_eq_true, Bool.not_eq_true', List.all_eq_true] at hc
  obtain ⟨⟨⟨⟨⟨c1, c2⟩, c3⟩, c4⟩, c5⟩, c6⟩ := hc
  have hlt : ∀ {k t : Nat}, Nat.blt k t = true → k < t := fun {k t} h => by
    have : k + 1 ≤ t := by simpa [Nat.blt] using h
    omega
  have k2s := (dOne_sput (P := P) (G := G) (gc := gc) (s := s) (d := o.dst) (x := v) ap1).2 k2
  have hlog : chk anc e' log = true ∧ chk anc e (e' :: log) = true := by
    simp only [chk, List.all_cons, Bool.and_eq_true, Bool.or_eq_true] at k3 ⊢
    exact ⟨k3.2, .inr (compat_symm hc0), g3⟩
  have key : ∃ ha na, DOne P G gc ops nx o' q s h e' v' ha na ∧ DOne P G gc ops na o p (sput s o'.dst v') ha e v h2 nx2 := by
    by_cases he : e.all = true
    · obtain ⟨w1, w2, w3, w4⟩ := dOne_all g2 he
      have he' : e'.all = false := by
        cases hh : e'.all with
        | false => rfl
        | true =>
          have := (dOne_all k2s hh).2.1
          rw [this, w2] at c4; cases c4
      have c6' : (e'.al = false ∧ ∀ x ∈ e'.ak, Nat.blt x e.top = true) ∧ ∀ x ∈ e'.wk, Nat.blt x e.top = true := by
        rcases c6 with h | h
        · rw [he] at h; cases h
        · exact h
      obtain ⟨u', b1, b2, b3, b4, b5⟩ := dOne_h k2s he'
      subst b1; subst b2
      have hkey : ∀ k ∈ e'.ak, dget h1 k = dget h k := fun k hk => (w3 k (hlt (c6'.1.2 k hk)) (fun hw => c3 k hk hw)).1
      have hhas : ∀ x ∈ u', dhas h x.1 = true := fun x hx => (w3 _ (hlt (c6'.2 _ (b3 x hx))) (fun hw => c2 _ (b3 x hx) hw)).2.1 (b4 x hx)
      exact ⟨dupd h u', nx, (b5 h hkey hhas).2 c6'.1.1 nx, (dOne_sput ap3).1 (w4 u' fun x hx => ⟨c1 _ (b3 x hx), hhas x hx⟩)⟩
    · have he : e.all = false := by simpa using he
      obtain ⟨u, a1, a2, a3, a4, a5⟩ := dOne_h g2 he
      subst a1; subst a2
      by_cases he' : e'.all = true
      · have c5' : (e.al = false ∧ ∀ x ∈ e.ak, Nat.blt x e'.top = true) ∧ ∀ x ∈ e.wk, Nat.blt x e'.top = true := by
          rcases c5 with h | h
          · rw [he'] at h; cases h
          · exact h
        have hx : ∃ h3, DOne P G gc ops nx1 o' q s h e' v' h3 nx2 ∧ h2 = dupd h3 u := by
          rcases k2s with ⟨_, _, _, _, h5⟩ | ⟨_, _, _, _, _, _, h5⟩ | ⟨_, _, _, _, h5⟩ | ⟨h1, R, ⟨y, f, args, st', g1, g2, g3, g4, g5, g6⟩, h5⟩
          · subst h5; cases he'
          · subst h5; cases he'
          · subst h5; cases he'
          · subst h5
            have huR : ∀ x ∈ u, R.contains x.1 = false := fun x hx => by
              have : x.1 ∉ R := fun hm => c2 _ hm (a3 x hx)
              simpa using this
            obtain ⟨q1, q2⟩ := dupd_sel u h huR
            refine ⟨hkeep R h ++ dh0 st'.nx (news 0 ops.toList) st'.h, .inr (.inr (.inr ⟨h1, R, ⟨y, f, args, st', ?_, by rw [← q1]; exact g2, g3, g4, rfl, g6⟩, rfl⟩)), ?_⟩
            · rw [(aop_congr (P := P) (G := G) (s := s) (s' := s) (g := dget h) (g' := dget (dupd h u)) (nx := nx1 + q) (o := o') (fun _ _ _ => rfl) (fun k hk => (dget_dupd_ne u h k fun x hx hxe => c3 k (List.mem_append_left _ hk) (hxe ▸ a3 x hx)).symm)).1]
              exact g1
            · rw [g5, q2]
              exact (dupd_app u _ _ fun y hy => by rw [dhas_keep h _ (huR y hy)]; exact a4 y hy).symm
        obtain ⟨h3, d1, rfl⟩ := hx
        obtain ⟨w1, w2, w3, w4⟩ := dOne_all d1 he'
        refine ⟨h3, nx2, d1, (dOne_sput ap3).1 ?_⟩
        exact (a5 h3 (fun k hk => ((w3 k (hlt (c5'.1.2 k hk)) (fun hw => c1 k hw hk)).1).symm) (fun x hx => (w3 _ (hlt (c5'.2 _ (a3 x hx))) (fun hw => c2 _ hw (a3 x hx))).2.2 (a4 x hx))).2 c5'.1.1 nx2
      · have he' : e'.all = false := by simpa using he'
        obtain ⟨u', b1, b2, b3, b4, b5⟩ := dOne_h k2s he'
        subst b1; subst b2
        have hu : ∀ x ∈ u, ∀ y ∈ u', x.1 ≠ y.1 := fun x hx y hy hxy => c2 _ (b3 y hy) (hxy ▸ a3 x hx)
        refine ⟨dupd h u', nx2, (b5 h (fun k hk => (dget_dupd_ne u h k fun x hx hxe => c3 k hk (hxe ▸ a3 x hx))) (fun x hx => by have := b4 x hx; rwa [dhas_dupd] at this)).1, (dOne_sput ap3).1 ?_⟩
        rw [dupd_comm u u' h hu]
        exact (a5 (dupd h u') (fun k hk => (dget_dupd_ne u' h k fun x hx hxe => c1 k (hxe ▸ b3 x hx) hk).symm) (fun x hx => by rw [dhas_dupd]; exact a4 x hx)).1
  obtain ⟨ha, na, d1, d2⟩ := key
  refine ⟨o', e', v', ha, na, k1, d1, hlog.1, o, e, v, h2, nx2, g1, d2, hlog.2, ?_⟩
  rw [sput_comm (d := o'.dst) (d' := o.dst) fun t ht h' => ap2 t h' ht]
  refine drunS_less (log := e' :: e :: log) (log' := e :: e' :: log) rest (fun x hx => ?_) k5
  rcases List.mem_cons.1 hx with rfl | hx
  · simp
  · rcases List.mem_cons.1 hx with rfl | hx
    · simp
    · simp [hx]

theorem drunS_front {i : Nat} {l2 : List Nat} : ∀ (l1 : List Nat) {log : List LE} {nx : Nat} {s : List AV} {h : DH}, (∀ p ∈ l1, (anc.getD i []).contains p = false ∧ ∀ o o', ops[p]? = some o → ops[i]? = some o' → o.apart ops o' = true) →
    drunS P G gc ops anc K (l1 ++ i :: l2) log nx s h → drunS P G gc ops anc K (i :: (l1 ++ l2)) log nx s h
  | [], _, _, _, _, _, h => h
  | p :: l1, log, nx, s, h, hn, ⟨o, e, v, h', nx', h1, h2, h3, h5⟩ => by
    have ih := drunS_front l1 (fun q hq => hn q (by simp [hq])) h5
    exact drunS_swap (hn p (by simp)).1 (hn p (by simp)).2 ⟨o, e, v, h', nx', h1, h2, h3, ih⟩
end

end Go.Proofs.Pv
