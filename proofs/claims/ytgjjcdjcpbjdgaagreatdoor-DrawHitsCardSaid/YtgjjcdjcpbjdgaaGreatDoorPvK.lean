/-
  The abstract machine, part K: regions, code and calls; and that a good run of the abstract machine is a good run of the model.
  Conditions: the invariant 'Inv'; what a handler answers is sound.
-/
import Derived.Test.YtgjjcdjcpbjdgaaGreatDoorPvS
namespace Go.Proofs.Pv
set_option linter.unusedVariables false
set_option linter.unusedSimpArgs false
open Go
variable {P : Program} {G : Nat → Option (List AV)}

/-! ### The abstract heap -/
structure St where
  h : List (Nat × Blk)
  nx : Nat

def hget : List (Nat × Blk) → Nat → Option Blk
  | [], _ => none
  | (k', b) :: r, k => if k = k' then some b else hget r k
def hset : List (Nat × Blk) → Nat → Blk → List (Nat × Blk)
  | [], k, b => [(k, b)]
  | (k', b') :: r, k, b => if k = k' then (k, b) :: r else (k', b') :: hset r k b
def hdel : List (Nat × Blk) → Nat → List (Nat × Blk)
  | [], _ => []
  | (k', b') :: r, k => if k = k' then hdel r k else (k', b') :: hdel r k
def hupd (nx : Nat) (h : List (Nat × Blk)) : List (Nat × Option Blk) → List (Nat × Blk)
  | [] => h
  | (k, none) :: u => hupd nx (hdel h k) u
  | (k, some b) :: u => hupd nx (if k = nx then (k, b) :: h else hset h k b) u
def St.hp (st : St) : Hp := hget st.h
def St.app (st : St) (u : List (Nat × Option Blk)) : St := ⟨hupd st.nx st.h u, st.nx + 1⟩

theorem hget_hset : ∀ (h : List (Nat × Blk)) (k : Nat) (b : Blk), hget (hset h k b) = hpSet (hget h) k (some b)
  | [], k, b => by funext q; simp [hset, hget, hpSet]
  | (k', b') :: r, k, b => by
    funext q
    simp only [hset]
    split
    · rename_i e; subst e; simp only [hget, hpSet]; split <;> rfl
    · rename_i e
      simp only [hget, hget_hset r k b, hpSet]
      by_cases h1 : q = k'
      · subst h1
        have : ¬ q = k := fun h => e h.symm
        simp [this]
      · simp [h1]
theorem hget_hdel : ∀ (h : List (Nat × Blk)) (k : Nat), hget (hdel h k) = hpSet (hget h) k none
  | [], k => by funext q; simp [hdel, hget, hpSet]
  | (k', b') :: r, k => by
    funext q
    simp only [hdel]
    split
    · rename_i e; subst e
      rw [hget_hdel r k]; simp only [hget, hpSet]; split <;> rfl
    · rename_i e
      simp only [hget, hget_hdel r k, hpSet]
      by_cases h1 : q = k'
      · subst h1
        have : ¬ q = k := fun h => e h.symm
        simp [this]
      · simp [h1]
theorem hget_hupd (nx : Nat) : ∀ (u : List (Nat × Option Blk)) (h : List (Nat × Blk)), hget (hupd nx h u) = updH (hget h) u
  | [], h => rfl
  | (k, none) :: u, h => by simp only [hupd, updH]; rw [hget_hupd nx u, hget_hdel]
  | (k, some b) :: u, h => by
    simp only [hupd, updH]
    rw [hget_hupd nx u]
    congr 1
    split
    · rename_i e; subst e; funext q; simp [hget, hpSet]
    · exact hget_hset h k b

/-! ### Frames and code -/
structure Fr where
  s : List AV
  marks : List Nat

inductive AX where
  | normal | exit (id : Nat) | goto (l : Nat) | ret

def AX.toExit : AX → Exit
  | .normal => .normal
  | .exit id => .exit id
  | .goto l => .goto l
  | .ret => .ret

abbrev Kont (R : Type) := AX → Fr → St → R

structure Hand (R : Type) where
  fail : R
  call : FuncId → List AV → (AV → St → R) → St → R
  loop : Code → Kont R → Fr → St → R
  yield : Nat → List AV → (AV → St → R) → St → R
  rangeF : Operand → Array Tmp → Code → Code → Kont R → Fr → St → R
  draw : Array Oper → (Fr → St → R) → Fr → St → R
  both : List R → R

def Fr.put (fr : Fr) (d : Option Tmp) (v : AV) : Fr :=
  match d with
  | some d => { fr with s := fr.s.set d v }
  | none => fr

/-- What a place holds whose operation was not carried out. -/
def uu : AV := .tup []
theorem uu_rel {M : Mem} : M.rel uu undef := .tup rfl (fun i h => by simp at h)

/-- The same, the places laid out as far as they are turned. -/
def setF {R : Type} : List AV → Nat → AV → (List AV → R) → R
  | [], _, _, k => k []
  | _ :: t, 0, v, k => k (v :: t)
  | a :: t, d + 1, v, k => setF t d v fun t' => k (a :: t')
theorem setF_eq {R : Type} : ∀ (s : List AV) (d : Nat) (v : AV) (k : List AV → R), setF s d v k = k (s.set d v)
  | [], _, _, _ => rfl
  | _ :: _, 0, _, _ => rfl
  | a :: t, d + 1, v, k => by simp only [setF, List.set_cons_succ]; rw [setF_eq t d v]
def putF {R : Type} (fr : Fr) (d : Option Tmp) (v : AV) (k : Fr → R) : R :=
  match d with
  | some d => match fr with
    | ⟨s, m⟩ => setF s d v fun s' => k ⟨s', m⟩
  | none => k fr
theorem putF_eq {R : Type} (fr : Fr) (d : Option Tmp) (v : AV) (k : Fr → R) : putF fr d v k = k (fr.put d v) := by
  cases d with
  | none => rfl
  | some d => cases fr; simp only [putF, setF_eq, Fr.put]

/-! Laying values out as they are made: it turns no answer, and lets a run by the kernel go faster. -/
section
variable {R : Type}
def forceNat : Nat → (Nat → R) → R
  | 0, k => k 0
  | n + 1, k => k (n + 1)
theorem forceNat_eq (n : Nat) (k : Nat → R) : forceNat n k = k n := by cases n <;> rfl
def force1 : AV → (AV → R) → R
  | .int q (.ofNat n), k => forceNat n fun n' => k (.int q (.ofNat n'))
  | .int q (.negSucc n), k => forceNat n fun n' => k (.int q (.negSucc n'))
  | .undef, k => k .undef
  | .bool true, k => k (.bool true)
  | .bool false, k => k (.bool false)
  | .str s, k => k (.str s)
  | .sl a b c, k => k (.sl a b c)
  | .msl a b c d, k => k (.msl a b c d)
  | .vp a, k => k (.vp a)
  | .ptr a b, k => forceNat b fun b' => k (.ptr a b')
  | .nilp, k => k .nilp
  | .fn a b c, k => k (.fn a b c)
  | .yld a, k => k (.yld a)
  | .nilf, k => k .nilf
  | .map a, k => k (.map a)
  | .nilm, k => k .nilm
  | .agg a, k => k (.agg a)
  | .tup a, k => k (.tup a)
  | .nili, k => k .nili
  | .ifc a b, k => k (.ifc a b)
theorem force1_eq (v : AV) (k : AV → R) : force1 v k = k v := by
  cases v <;> try rfl
  · rename_i q n; cases n <;> simp only [force1, forceNat_eq]
  · rename_i b; cases b <;> rfl
  · simp only [force1, forceNat_eq]
def forceL1 : List AV → (List AV → R) → R
  | [], k => k []
  | a :: t, k => force1 a fun a' => forceL1 t fun t' => k (a' :: t')
theorem forceL1_eq : ∀ (l : List AV) (k : List AV → R), forceL1 l k = k l
  | [], _ => rfl
  | a :: t, k => by simp only [forceL1, force1_eq]; rw [forceL1_eq t]
def force2 : AV → (AV → R) → R
  | .agg cs, k => forceL1 cs fun cs' => k (.agg cs')
  | .tup cs, k => forceL1 cs fun cs' => k (.tup cs')
  | .vp cs, k => forceL1 cs fun cs' => k (.vp cs')
  | x, k => force1 x k
theorem force2_eq (v : AV) (k : AV → R) : force2 v k = k v := by
  cases v <;> simp only [force2, force1_eq, forceL1_eq]
def forceL2 : List AV → (List AV → R) → R
  | [], k => k []
  | a :: t, k => force2 a fun a' => forceL2 t fun t' => k (a' :: t')
theorem forceL2_eq : ∀ (l : List AV) (k : List AV → R), forceL2 l k = k l
  | [], _ => rfl
  | a :: t, k => by simp only [forceL2, force2_eq]; rw [forceL2_eq t]
def force3 : AV → (AV → R) → R
  | .sl n rows t, k => forceL2 rows fun rows' => k (.sl n rows' t)
  | .tup cs, k => forceL2 cs fun cs' => k (.tup cs')
  | x, k => force2 x k
theorem force3_eq (v : AV) (k : AV → R) : force3 v k = k v := by
  cases v <;> simp only [force3, force2_eq, forceL2_eq]
/-- As deep as an operation makes it. -/
def forceO (o : Op) (v : AV) (k : AV → R) : R :=
  match o with
  | .move _ | .assign _ | .pick _ _ _ | .extract _ _ => k v
  | .buildSlice _ _ _ | .slice _ _ _ _ _ | .call _ => force3 v k
  | _ => force2 v k
theorem forceO_eq (o : Op) (v : AV) (k : AV → R) : forceO o v k = k v := by
  unfold forceO; split <;> first | rfl | rw [force3_eq] | rw [force2_eq]
def forceB : Blk → (Blk → R) → R
  | .cells cs, k => forceL1 cs fun cs' => k (.cells cs')
  | x, k => k x
theorem forceB_eq (b : Blk) (k : Blk → R) : forceB b k = k b := by
  cases b <;> simp only [forceB, forceL1_eq]
def hsetF : List (Nat × Blk) → Nat → Blk → (List (Nat × Blk) → R) → R
  | [], q, b, k => k [(q, b)]
  | (q', b') :: r, q, b, k => if q = q' then k ((q, b) :: r) else hsetF r q b fun r' => k ((q', b') :: r')
theorem hsetF_eq : ∀ (h : List (Nat × Blk)) (q : Nat) (b : Blk) (k : List (Nat × Blk) → R), hsetF h q b k = k (hset h q b)
  | [], _, _, _ => rfl
  | (q', b') :: r, q, b, k => by
    simp only [hsetF, hset]
    split
    · rfl
    · rw [hsetF_eq r]
def hdelF : List (Nat × Blk) → Nat → (List (Nat × Blk) → R) → R
  | [], _, k => k []
  | (q', b') :: r, q, k => if q = q' then hdelF r q k else hdelF r q fun r' => k ((q', b') :: r')
theorem hdelF_eq : ∀ (h : List (Nat × Blk)) (q : Nat) (k : List (Nat × Blk) → R), hdelF h q k = k (hdel h q)
  | [], _, _ => rfl
  | (q', b') :: r, q, k => by
    simp only [hdelF, hdel]
    split
    · rw [hdelF_eq r]
    · rw [hdelF_eq r]
def hupdF (nx : Nat) : List (Nat × Option Blk) → List (Nat × Blk) → (List (Nat × Blk) → R) → R
  | [], h, k => k h
  | (q, none) :: u, h, k => hdelF h q fun h' => hupdF nx u h' k
  | (q, some b) :: u, h, k => forceB b fun b' => if q = nx then hupdF nx u ((q, b') :: h) k else hsetF h q b' fun h' => hupdF nx u h' k
theorem hupdF_eq (nx : Nat) : ∀ (u : List (Nat × Option Blk)) (h : List (Nat × Blk)) (k : List (Nat × Blk) → R), hupdF nx u h k = k (hupd nx h u)
  | [], _, _ => rfl
  | (q, none) :: u, h, k => by simp only [hupdF, hdelF_eq, hupd]; rw [hupdF_eq nx u]
  | (q, some b) :: u, h, k => by
    simp only [hupdF, forceB_eq, hsetF_eq, hupd]
    split
    · rw [hupdF_eq nx u]
    · rw [hupdF_eq nx u]
def appF (st : St) (u : List (Nat × Option Blk)) (k : St → R) : R :=
  match st with
  | ⟨h, nx⟩ => match u with
    | [] => forceNat (nx + 1) fun nx' => k ⟨h, nx'⟩
    | u => hupdF nx u h fun h' => forceNat (nx + 1) fun nx' => k ⟨h', nx'⟩
theorem appF_eq (st : St) (u : List (Nat × Option Blk)) (k : St → R) : appF st u k = k (st.app u) := by
  cases st
  unfold appF
  cases u <;> simp only [hupdF_eq, forceNat_eq] <;> rfl
end

def wantedA (ops : Array Oper) (s : List AV) (o : Oper) : Option Bool :=
  match o.guard with
  | none => some true
  | some (j, want) => match (ops[j]?).bind (·.dst) with
    | some d => match s[d]? with
      | some (.bool b) => some (b == want)
      | some (.tup _) => some false
      | _ => none
    | none => none

variable {R : Type}

def aops (P : Program) (G : Nat → Option (List AV)) (H : Hand R) (ops : Array Oper) (K : Fr → St → R) : List Oper → Fr → St → R
  | [], fr, st => K fr st
  | o :: rest, fr, st =>
    match wantedA ops fr.s o with
    | none => H.fail
    | some c => if c then
        match aop P G fr.s st.hp st.nx o with
        | none => H.fail
        | some (.val v u) => forceO o.op v fun v' => putF fr o.dst v' fun fr' => appF st u fun st' => aops P G H ops K rest fr' st'
        | some (.skip u) => putF fr o.dst uu fun fr' => appF st u fun st' => aops P G H ops K rest fr' st'
        | some (.call f args) => H.call f args (fun v st' => putF fr o.dst v fun fr' => aops P G H ops K rest fr' st') st
        | some (.yield key args) => H.yield key args (fun v st' => putF fr o.dst v fun fr' => aops P G H ops K rest fr' st') st
        | some (.branch l) => H.both (l.map fun x => putF fr o.dst x.1 fun fr' => aops P G H ops K rest fr' (st.app x.2))
      else putF fr o.dst uu fun fr' => aops P G H ops K rest fr' st

def crun (P : Program) (G : Nat → Option (List AV)) (H : Hand R) : Code → Kont R → Fr → St → R
  | .skip, K, fr, st => K .normal fr st
  | .region _ ops draw, K, fr, st => if draw then H.draw ops (K .normal) fr st else aops P G H ops (K .normal) ops.toList fr st
  | .seq a b, K, fr, st => crun P G H a (fun x fr st => match x with
      | .normal => crun P G H b K fr st
      | x => K x fr st) fr st
  | .cond c a b, K, fr, st => match ev P G fr.s 0 c with
    | .bool q => if q then crun P G H a K fr st else crun P G H b K fr st
    | _ => H.fail
  | .block id c, K, fr, st => crun P G H c (fun x fr st => match x with
      | .exit id' => if id' = id then K .normal fr st else K (.exit id') fr st
      | x => K x fr st) fr st
  | .loop c, K, fr, st => H.loop c K fr st
  | .rangeFunc f ps assign body, K, fr, st => H.rangeF f ps assign body K fr st
  | .exit id, K, fr, st => K (.exit id) fr st
  | .label _, K, fr, st => K .normal fr st
  | .goto _, _, _, _ => H.fail
  | .scope c, K, fr, st => crun P G H c (fun x fr st => match x with
      | .goto _ => H.fail
      | x => K x fr st) fr st
  | .ret, K, fr, st => K .ret fr st
  | .refuse _, _, _, _ => H.fail

/-! ### Soundness -/
/-- A scope of labels that nothing jumps to. -/
theorem wpIn_scope_straight {F : Fence} {n : Nat} {Q : Exit → Act → World → Prop} {a : Act} {w : World} {c : Code} (h : c.wpIn F n P (fun e a w => match e with
    | .goto _ => False
    | e => Q e a w) a w) : (Code.scope c).wpIn F n P Q a w := by
  intro b k cs hro hb hr
  have h0 : (lone (b.atR a (.code (.scope c) :: k)) cs w).fenced P F := fenced_calm hb hr rfl
  have s0 : step P (lone (b.atR a (.code (.scope c) :: k)) cs w) = .next (lone (b.atR a (.code c :: .inScope c :: k)) cs w) := step_lone_go (by simp [stepG, stepG.exec, Frame.atR])
  obtain ⟨e, a₁, w₁, hq, harr⟩ := h b (.inScope c :: k) cs hro hb hr
  have s1 : step P (lone (b.atR a₁ (.inScope c :: k)) cs w₁) = .next (lone (b.atR a₁ k) cs w₁) := step_lone_go (by simp [stepG, stepG.exec, Frame.atR])
  cases e with
  | normal => exact ⟨.normal, a₁, w₁, hq, .head h0 s0 (StepsIn.trans harr (.one (fenced_calm hb hr rfl) s1))⟩
  | exit id =>
    have hx : exitTo id (.inScope c :: k) = exitTo id k := by simp [exitTo]
    exact ⟨.exit id, a₁, w₁, hq, fun k' hk => .head h0 s0 (harr.1 k' (by rw [hx]; exact hk)),
        fun hr' hk => let ⟨k₁, h1, h2⟩ := harr.2 hr' (by rw [hx]; exact hk); ⟨k₁, h1, .head h0 s0 h2⟩⟩
  | goto l => exact hq.elim
  | ret => exact ⟨_, a₁, w₁, hq, .of_steps (.one h0 s0) harr⟩
  | panic ch => exact ⟨_, a₁, w₁, hq, .of_steps (.one h0 s0) harr⟩
  | outgrown => exact ⟨_, a₁, w₁, hq, .of_steps (.one h0 s0) harr⟩

/-- The abstract frame and heap against the model's. -/
structure Sim (G : Nat → Option (List AV)) (W : World) (M : Mem) (fr : Fr) (st : St) (a : Act) (w : World) : Prop where
  inv : Inv G M (· < st.nx) st.hp W w
  rs : RelS M fr.s a.tmps
  defers : a.defers.length = fr.marks.length ∧ ∀ (i : Nat) key, fr.marks[i]? = some key → ∃ l, M.L key = some l ∧ a.defers[i]? = some { target := .collected l, args := #[] }

def Post (G : Nat → Option (List AV)) (W : World) (M0 : Mem) (K : AX → Fr → St → Prop) : Exit → Act → World → Prop :=
  fun e a w => ∃ M fr st x, M0.le M ∧ Sim G W M fr st a w ∧ AX.toExit x = e ∧ K x fr st

theorem Post.mono {W : World} {M0 M1 : Mem} (h : M0.le M1) {K K' : AX → Fr → St → Prop} (hK : ∀ x fr st, K x fr st → K' x fr st) {e : Exit} {a : Act} {w : World} (hp : Post G W M1 K e a w) : Post G W M0 K' e a w := by
  obtain ⟨M, fr, st, x, h1, h2, h3, h4⟩ := hp
  exact ⟨M, fr, st, x, Mem.le_trans h h1, h2, h3, hK _ _ _ h4⟩

/-- The fence lets everything in. -/
structure Free (F : Fence) : Prop where
  fn : ∀ f, F.fn f
  depth : F.depth = none

/-- What a call's abstract answer stands for. -/
def CallOk (F : Fence) (P : Program) (G : Nat → Option (List AV)) (W : World) (f : FuncId) (args : List AV) (K : AV → St → Prop) (st : St) : Prop :=
  ∀ M w vs, Inv G M (· < st.nx) st.hp W w → RelL M.rel args vs.toList → (∃ fn, P.funcs[f]? = some fn ∧ fn.body.isSome = true ∧ fn.name ≠ "runtime.NumGoroutine") ∧
    ∀ n, CallsIn F n P f vs w fun e w' => ∃ M' v av st', e = .returned v ∧ M.le M' ∧ Inv G M' (· < st'.nx) st'.hp W w' ∧ M'.rel av v ∧ K av st'
def CodeOk (F : Fence) (P : Program) (G : Nat → Option (List AV)) (W : World) (c : Code) (K : AX → Fr → St → Prop) (fr : Fr) (st : St) : Prop :=
  ∀ M a w n, Sim G W M fr st a w → c.wpIn F n P (Post G W M K) a w

structure HandOk (F : Fence) (P : Program) (G : Nat → Option (List AV)) (W : World) (ok : R → Prop) (H : Hand R) : Prop where
  fail : ¬ ok H.fail
  call : ∀ f args K st, ok (H.call f args K st) → CallOk F P G W f args (fun v st => ok (K v st)) st
  loop : ∀ c K fr st, ok (H.loop c K fr st) → CodeOk F P G W (.loop c) (fun x fr st => ok (K x fr st)) fr st
  yield : ∀ key args K st, ok (H.yield key args K st) → ∀ M w vs, Inv G M (· < st.nx) st.hp W w → RelL M.rel args vs.toList → ∀ l, M.L key = some l →
    ∃ f tmps assign body, (Instr.yield l vs).run P w = .ok (.round l f tmps assign body) w ∧
      ∀ n, RoundIn F n P l f tmps assign body w fun e w' => ∃ M' v av st', e = .returned v ∧ M.le M' ∧ Inv G M' (· < st'.nx) st'.hp W w' ∧ M'.rel av v ∧ ok (K av st')
  rangeF : ∀ f ps assign body K fr st, ok (H.rangeF f ps assign body K fr st) → CodeOk F P G W (.rangeFunc f ps assign body) (fun x fr st => ok (K x fr st)) fr st
  draw : ∀ id ops K fr st, ok (H.draw ops K fr st) → CodeOk F P G W (.region id ops true) (fun x fr st => match x with | .normal => ok (K fr st) | _ => False) fr st
  both : ∀ l, ok (H.both l) → ∀ x ∈ l, ok x

theorem wantedA_ok {M : Mem} {ops : Array Oper} {s : List AV} {tmps : Array Value} (rs : RelS M s tmps) {o : Oper} {c : Bool} (h : wantedA ops s o = some c) : Region.wanted o (yielded ops tmps) = c := by
  unfold wantedA at h
  unfold Region.wanted
  split at h
  · simp only [Option.some.injEq] at h; subst h; rename_i hg; rw [hg]
  · rename_i j want hg
    rw [hg]
    split at h
    · rename_i d hd
      split at h
      · rename_i b hb
        simp only [Option.some.injEq] at h; subst h
        obtain ⟨h1, h2⟩ := List.getElem?_eq_some_iff.1 hb
        have h1' : d < tmps.size := by rw [rs.1]; exact h1
        have := rs.2 d h1 h1'
        rw [h2] at this
        have hv : tmps[d] = .bool b := by
          have : ∀ v, M.rel (.bool b) v → v = .bool b := fun v hv => by cases hv; rfl
          exact this _ (by assumption)
        simp only [yielded, hd, Option.bind_some, Array.getElem?_eq_getElem h1', hv]
        cases b <;> cases want <;> rfl
      · rename_i ts hb
        simp only [Option.some.injEq] at h; subst h
        obtain ⟨h1, h2⟩ := List.getElem?_eq_some_iff.1 hb
        have h1' : d < tmps.size := by rw [rs.1]; exact h1
        have := rs.2 d h1 h1'
        rw [h2] at this
        have hv : ∃ cs, tmps[d] = .tuple cs := by
          have : ∀ v, M.rel (.tup ts) v → ∃ cs, v = .tuple cs := fun v hv => by cases hv; exact ⟨_, rfl⟩
          exact this _ (by assumption)
        obtain ⟨cs, hv⟩ := hv
        simp only [yielded, hd, Option.bind_some, Array.getElem?_eq_getElem h1', hv]
        cases want <;> rfl
      · cases h
    · cases h

theorem Sim.put {W : World} {M : Mem} {fr : Fr} {st : St} {a : Act} {w : World} (sim : Sim G W M fr st a w) {M' : Mem} (hle : M.le M') {st' : St} {w' : World} (inv' : Inv G M' (· < st'.nx) st'.hp W w') (d : Option Tmp) {v : AV} {u : Value} (hv : M'.rel v u) :
    Sim G W M' (fr.put d v) st' (a.put d u) w' := by
  have rs := sim.rs.mono hle
  obtain ⟨d1, d2⟩ := sim.defers
  have hd : ∀ (i : Nat) key, fr.marks[i]? = some key → ∃ l, M'.L key = some l ∧ a.defers[i]? = some { target := .collected l, args := #[] } := fun i key h => by
    obtain ⟨l, h1, h2⟩ := d2 i key h; exact ⟨l, hle.L _ _ h1, h2⟩
  cases d with
  | none => exact ⟨inv', rs, ⟨d1, hd⟩⟩
  | some d => exact ⟨inv', rs.set d hv, ⟨d1, hd⟩⟩

theorem alAdd_succ {nx : Nat} : ∀ k, alAdd (· < nx) nx k → k < nx + 1 := by
  intro k h
  rcases h with h | h
  · exact Nat.lt_succ_of_lt h
  · omega

theorem aops_sound {F : Fence} (hF : Free F) {W : World} {ok : R → Prop} {H : Hand R} (hH : HandOk F P G W ok H) {ops : Array Oper} {K : Fr → St → R} {Q : Exit → Act → World → Prop} {M0 : Mem} {n : Nat}
    (hQ : ∀ M fr st a w, M0.le M → Sim G W M fr st a w → ok (K fr st) → Q .normal a w) : ∀ (l : List Oper) (k : Nat), (∀ j, l[j]? = ops[k + j]?) → ∀ (fr : Fr) (st : St) (M : Mem) (a : Act) (w : World), M0.le M → Sim G W M fr st a w →
      ok (aops P G H ops K l fr st) → wpOpsIn F n P ops Q (List.range' k l.length) a w
  | [], k, _, fr, st, M, a, w, hM, sim, h => hQ M fr st a w hM sim h
  | o :: rest, k, hl, fr, st, M, a, w, hM, sim, h => by
    have ho : ops[k]? = some o := by simpa using (hl 0).symm
    have hrest : ∀ j, rest[j]? = ops[k + 1 + j]? := fun j => by
      have := hl (j + 1)
      rw [show k + 1 + j = k + (j + 1) by omega, ← this]; simp
    have ih := aops_sound hF hH (n := n) hQ rest (k + 1) hrest
    simp only [List.length_cons, List.range'_succ, wpOpsIn, ho]
    simp only [aops, putF_eq, forceO_eq, appF_eq] at h
    split at h
    · exact absurd h hH.fail
    · rename_i c hc
      have hw := wantedA_ok sim.rs hc
      cases c with
      | false =>
        simp only [Bool.false_eq_true, if_false] at h
        rw [if_neg (by rw [hw]; simp)]
        exact ⟨fun f _ => hF.fn f, ih _ _ M _ _ hM (sim.put M.le_refl sim.inv o.dst uu_rel) h⟩
      | true =>
        simp only [if_true] at h
        rw [if_pos hw]
        refine ⟨fun f _ => hF.fn f, ?_⟩
        have hn : ¬ st.nx < st.nx := Nat.lt_irrefl _
        cases hres : aop P G fr.s st.hp st.nx o with
        | none => rw [hres] at h; exact absurd h hH.fail
        | some res =>
          rw [hres] at h
          have hnd : ∀ c, o.op ≠ .defer c := by
            intro c hc'
            obtain ⟨dst, op, ty, pos, after, guard⟩ := o
            simp only at hc'
            subst hc'
            simp [aop, aopD, aop1, aop2, aop3, aop4] at hres
          have hr := aop_ok (P := P) sim.inv hn sim.rs hres
          rw [Oper.semAt_eq _ _ _ hnd]
          cases res with
          | val v u =>
            obtain ⟨v', w', M', h1, h2, h3, h4⟩ := hr
            rw [h1]
            refine ih _ _ M' _ _ (Mem.le_trans hM h2) (sim.put h2 ?_ o.dst h4) h
            have : (st.app u).hp = updH st.hp u := hget_hupd _ _ _
            rw [this]
            exact h3.more alAdd_succ
          | skip u =>
            obtain ⟨w', M', h1, h2, h3⟩ := hr
            rw [h1]
            refine ih _ _ M' _ _ (Mem.le_trans hM h2) (sim.put h2 ?_ o.dst uu_rel) h
            have : (st.app u).hp = updH st.hp u := hget_hupd _ _ _
            rw [this]
            exact h3.more alAdd_succ
          | call f args =>
            obtain ⟨vs, h1, h2⟩ := hr
            obtain ⟨⟨fn, g1, g2, g3⟩, hcall⟩ := hH.call _ _ _ _ h M w vs sim.inv h1
            rw [h2 fn g1 g2 g3, Oper.uponIn_enter]
            refine ⟨fun hd => by rw [hF.depth] at hd; simp at hd, (hcall (n - 1)).mono ?_⟩
            rintro e w' ⟨M', v, av, st', rfl, k1, k2, k3, k4⟩
            exact ih _ _ M' _ _ (Mem.le_trans hM k1) (sim.put k1 k2 o.dst k3) k4
          | yield key args =>
            obtain ⟨l, vs, hL, h1, h2⟩ := hr
            obtain ⟨f, tmps, assign, body, g1, g2⟩ := hH.yield _ _ _ _ h M w vs sim.inv h1 l hL
            rw [h2, g1, Oper.uponIn_round]
            refine ⟨fun hd => by rw [hF.depth] at hd; simp at hd, (g2 (n - 1)).mono ?_⟩
            rintro e w' ⟨M', v, av, st', rfl, k1, k2, k3, k4⟩
            exact ih _ _ M' _ _ (Mem.le_trans hM k1) (sim.put k1 k2 o.dst k3) k4
          | branch l =>
            obtain ⟨v, u, hmem, v', w', M', h1, h2, h3, h4⟩ := hr
            rw [h1]
            have hx := hH.both _ h _ (List.mem_map.2 ⟨(v, u), hmem, rfl⟩)
            refine ih _ _ M' _ _ (Mem.le_trans hM h2) (sim.put h2 ?_ o.dst h4) hx
            have : (st.app u).hp = updH st.hp u := hget_hupd _ _ _
            rw [this]
            exact h3.more alAdd_succ

theorem crun_sound {F : Fence} (hF : Free F) {W : World} {ok : R → Prop} {H : Hand R} (hH : HandOk F P G W ok H) : ∀ (c : Code) (K : Kont R) (fr : Fr) (st : St), ok (crun P G H c K fr st) →
    CodeOk F P G W c (fun x fr st => ok (K x fr st)) fr st := by
  intro c
  induction c with
  | skip => intro K fr st h M a w n sim; exact wpIn_skip ⟨M, fr, st, .normal, M.le_refl, sim, rfl, h⟩
  | region id ops draw =>
    intro K fr st h M a w n sim
    cases draw with
    | true =>
      simp only [crun, if_true] at h
      refine wpIn_mono (hH.draw id ops _ fr st h M a w n sim) ?_
      intro e a w hp
      refine Post.mono M.le_refl (fun x fr st hx => ?_) hp
      cases x <;> first | exact hx | exact hx.elim
    | false =>
      simp only [crun, Bool.false_eq_true, if_false] at h
      refine wpIn_region ?_
      have := aops_sound hF hH (M0 := M) (n := n) (Q := Post G W M fun x fr st => ok (K x fr st)) (ops := ops) (fun M' fr st a w hM sim hk => ⟨M', fr, st, .normal, hM, sim, rfl, hk⟩) ops.toList 0 (fun j => by simp) fr st M a w M.le_refl sim h
      rw [List.range_eq_range']
      simpa using this
  | seq a b iha ihb =>
    intro K fr st h M ac w n sim
    simp only [crun] at h
    refine wpIn_seq (wpIn_mono (iha _ fr st h M ac w n sim) ?_)
    rintro e a' w' ⟨M', fr', st', x, h1, h2, rfl, h4⟩
    cases x with
    | normal => exact wpIn_mono (ihb _ fr' st' h4 M' a' w' n h2) fun e a w hp => Post.mono h1 (fun _ _ _ h => h) hp
    | exit id => exact ⟨M', fr', st', .exit id, h1, h2, rfl, h4⟩
    | goto l => exact ⟨M', fr', st', .goto l, h1, h2, rfl, h4⟩
    | ret => exact ⟨M', fr', st', .ret, h1, h2, rfl, h4⟩
  | cond c a b iha ihb =>
    intro K fr st h M ac w n sim
    simp only [crun] at h
    have hc := ev_rel (P := P) sim.inv sim.rs 0 c
    split at h
    · rename_i q hq
      rw [hq] at hc
      have hv : ac.eval c = .bool q := by
        have : ∀ v, M.rel (.bool q) v → v = .bool q := fun v hv => by cases hv; rfl
        exact this _ hc
      refine wpIn_cond hv ?_
      cases q with
      | true => simp only [if_true] at h ⊢; exact iha K fr st h M ac w n sim
      | false => simp only [Bool.false_eq_true, if_false] at h ⊢; exact ihb K fr st h M ac w n sim
    · exact absurd h hH.fail
  | block id c ih =>
    intro K fr st h M ac w n sim
    simp only [crun] at h
    refine wpIn_block (wpIn_mono (ih _ fr st h M ac w n sim) ?_)
    rintro e a' w' ⟨M', fr', st', x, h1, h2, rfl, h4⟩
    cases x with
    | normal => exact ⟨M', fr', st', .normal, h1, h2, rfl, h4⟩
    | exit id' =>
      simp only at h4
      simp only [AX.toExit, Exit.inBlock]
      split
      · rename_i e; rw [if_pos e] at h4; exact ⟨M', fr', st', .normal, h1, h2, rfl, h4⟩
      · rename_i e; rw [if_neg e] at h4; exact ⟨M', fr', st', .exit id', h1, h2, rfl, h4⟩
    | goto l => exact ⟨M', fr', st', .goto l, h1, h2, rfl, h4⟩
    | ret => exact ⟨M', fr', st', .ret, h1, h2, rfl, h4⟩
  | loop c _ => intro K fr st h; exact hH.loop c K fr st h
  | rangeFunc f ps assign body _ _ => intro K fr st h; exact hH.rangeF f ps assign body K fr st h
  | exit id => intro K fr st h M a w n sim; exact wpIn_exit ⟨M, fr, st, .exit id, M.le_refl, sim, rfl, h⟩
  | label l => intro K fr st h M a w n sim; exact wpIn_label ⟨M, fr, st, .normal, M.le_refl, sim, rfl, h⟩
  | goto l => intro K fr st h; exact absurd h hH.fail
  | scope c ih =>
    intro K fr st h M ac w n sim
    simp only [crun] at h
    refine wpIn_scope_straight (wpIn_mono (ih _ fr st h M ac w n sim) ?_)
    rintro e a' w' ⟨M', fr', st', x, h1, h2, rfl, h4⟩
    cases x with
    | normal => exact ⟨M', fr', st', .normal, h1, h2, rfl, h4⟩
    | exit id' => exact ⟨M', fr', st', .exit id', h1, h2, rfl, h4⟩
    | goto l => exact absurd h4 hH.fail
    | ret => exact ⟨M', fr', st', .ret, h1, h2, rfl, h4⟩
  | ret => intro K fr st h M a w n sim; exact wpIn_ret ⟨M, fr, st, .ret, M.le_refl, sim, rfl, h⟩
  | refuse s => intro K fr st h; exact absurd h hH.fail

end Go.Proofs.Pv
