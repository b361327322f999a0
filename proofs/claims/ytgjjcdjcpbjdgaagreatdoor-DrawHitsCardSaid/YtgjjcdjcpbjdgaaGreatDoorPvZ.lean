/-
  The abstract machine, part Z: drawn regions that only read and call: a run in the order of the text stands for every order, by a look at the region's text alone.
  Conditions: the invariant 'Inv'; the program follows mixed orders.
-/
import Derived.Test.YtgjjcdjcpbjdgaaGreatDoorPvQ
namespace Go.Proofs.Pv
set_option linter.unusedVariables false
set_option linter.unusedSimpArgs false
open Go
variable {P : Program} {G : Nat → Option (List AV)}

/-- A call of a function, no builtin. -/
def isCall (o : Oper) : Bool := match o.op with
  | .call c => (match c.callee with
    | .builtin _ => false
    | _ => true)
  | _ => false
/-- Operations that only read, or call. -/
def roKind (o : Oper) : Bool := match o.op with
  | .call c => (match c.callee with
    | .builtin .len | .builtin .max | .builtin .min => true
    | .value _ => true
    | _ => false)
  | .move _ | .assign _ | .pick _ _ _ | .build _ _ | .load _ _ | .nilCheck _ | .binOp .. | .unOp .. | .convert _ _ _ | .makeFunc .. | .slice .. | .fieldAddr .. | .field .. | .indexAddr .. | .index .. | .extract _ _ => true
  | _ => false
def callsOk (ops : Array Oper) (anc : List (List Nat)) : Bool :=
  (List.range ops.size).all fun j => (List.range j).all fun i => match ops[i]?, ops[j]? with
    | some a, some b => !(isCall a && isCall b) || (anc.getD j []).contains i
    | _, _ => true
def roOk (ops : Array Oper) : Bool := ops.toList.all roKind && statOk ops (ancs ops.toList []) && callsOk ops (ancs ops.toList [])

def rops (P : Program) (G : Nat → Option (List AV)) (ops : Array Oper) (K : List AV → Prop) (g : Hp) : List Oper → List AV → Prop
  | [], s => K s
  | o :: rest, s => match wantedA ops s o with
    | none => False
    | some false => rops P G ops K g rest (sput s o.dst uu)
    | some true => match aopD P G s g 0 o with
      | some (.val v []) => rops P G ops K g rest (sput s o.dst v)
      | some (.call f args) => isCall o = true ∧ ∃ r, Pl P G f args r ∧ rops P G ops K g rest (sput s o.dst r)
      | _ => False

theorem aopD_ro {s : List AV} {g : Hp} {nx nx' : Nat} {o : Oper} (h : roKind o = true) : aopD P G s g nx o = aopD P G s g nx' o := by
  obtain ⟨dst, op, ty, pos, after, guard⟩ := o
  cases op <;> first
    | rfl
    | (simp [roKind] at h; done)
    | skip
  rename_i c
  obtain ⟨callee, args, ats⟩ := c
  cases callee with
  | value f => rfl
  | invoke a b => simp [roKind] at h
  | builtin b =>
    simp only [roKind] at h
    split at h
    · rename_i hb
      cases hb
      have : ∀ l, abuiltin P g nx .len ats l = abuiltin P g nx' .len ats l := fun l => by
        cases l with
        | nil => rfl
        | cons a t => cases t <;> rfl
      simp only [aopD, aop1, oCall, this]
      rfl
    · rename_i hb
      cases hb
      have : ∀ l, abuiltin P g nx .max ats l = abuiltin P g nx' .max ats l := fun l => by
        cases l with
        | nil => rfl
        | cons a t => cases t <;> rfl
      simp only [aopD, aop1, oCall, this]
      rfl
    · rename_i hb
      cases hb
      have : ∀ l, abuiltin P g nx .min ats l = abuiltin P g nx' .min ats l := fun l => by
        cases l with
        | nil => rfl
        | cons a t => cases t <;> rfl
      simp only [aopD, aop1, oCall, this]
      rfl
    · rename_i hb
      cases hb
    · cases h
theorem ro_S {ops : Array Oper} {anc : List (List Nat)} {nx0 : Nat} {h0 : DH} {K : List AV → Prop} (hk : ∀ o ∈ ops.toList, roKind o = true) (hc : callsOk ops anc = true) :
    ∀ (l : List Oper) (k : Nat) (log : List LE) (s : List AV), (∀ j, l[j]? = ops[k + j]?) → (∀ e ∈ log, e.wk = [] ∧ e.all = false ∧ e.p < k ∧ (e.call = true → ∃ o, ops[e.p]? = some o ∧ isCall o = true)) → rops P G ops K (dget h0) l s →
      drunS P G (fun _ _ _ _ _ _ => False) ops anc (fun nx s h => nx = nx0 ∧ h = h0 ∧ K s) (List.range' k l.length) log nx0 s h0
  | [], k, log, s, _, _, h => ⟨rfl, rfl, h⟩
  | o :: rest, k, log, s, hl, hlog, h => by
    have ho : ops[k]? = some o := by simpa using (hl 0).symm
    have hrest : ∀ j, rest[j]? = ops[k + 1 + j]? := fun j => by
      have := hl (j + 1)
      rw [show k + 1 + j = k + (j + 1) by omega, ← this]; simp
    have hko : roKind o = true := hk o (by
      obtain ⟨h1, h2⟩ := Array.getElem?_eq_some_iff.1 ho
      rw [← h2]; simp)
    have hks : k < ops.size := (Array.getElem?_eq_some_iff.1 ho).1
    have grow : ∀ e : LE, e.wk = [] → e.all = false → e.p = k → (e.call = true → isCall o = true) → ∀ x ∈ e :: log, x.wk = [] ∧ x.all = false ∧ x.p < k + 1 ∧ (x.call = true → ∃ o, ops[x.p]? = some o ∧ isCall o = true) := by
      intro e h1 h2 h3 h4 x hx
      rcases List.mem_cons.1 hx with rfl | hx
      · exact ⟨h1, h2, by omega, fun hcall => ⟨o, by rw [h3]; exact ho, h4 hcall⟩⟩
      · obtain ⟨a, b, c, d⟩ := hlog x hx
        exact ⟨a, b, by omega, d⟩
    have check : ∀ e : LE, e.wk = [] → e.all = false → e.p = k → (e.call = true → isCall o = true) → chk anc e log = true := by
      intro e h1 h2 h3 h4
      simp only [chk, List.all_eq_true, Bool.or_eq_true]
      intro x hx
      obtain ⟨a, b, c, d⟩ := hlog x hx
      by_cases hcc : (e.call && x.call) = true
      · left
        rw [Bool.and_eq_true] at hcc
        obtain ⟨o', ho', hco'⟩ := d hcc.2
        simp only [callsOk, List.all_eq_true, List.mem_range] at hc
        have := hc k hks x.p c
        rw [ho', ho] at this
        simp only [hco', h4 hcc.1, Bool.and_self, Bool.not_true, Bool.false_or] at this
        rw [h3]; exact this
      · right
        simp only [compat, beside, disj, h1, a, h2, b]
        cases h5 : e.call <;> cases h6 : x.call <;> simp_all
    simp only [rops] at h
    simp only [List.length_cons, List.range'_succ, drunS]
    split at h
    · exact h.elim
    · rename_i hw
      refine ⟨o, ⟨k, [], [], false, false, false, 0⟩, uu, h0, nx0, ho, .inl ⟨hw, rfl, rfl, rfl, rfl⟩, check _ rfl rfl rfl (fun hx => by cases hx), ?_⟩
      exact ro_S hk hc rest (k + 1) _ _ hrest (grow _ rfl rfl rfl (fun hx => by cases hx)) h
    · rename_i hw
      split at h
      · rename_i v hv
        rw [aopD_ro (nx' := nx0 + k) hko] at hv
        refine ⟨o, ⟨k, akeys P G s o, [], false, false, usesNx o.op, 0⟩, v, h0, nx0, ho, .inr (.inl ⟨hw, [], .inl hv, by simp, rfl, rfl, rfl⟩), check _ rfl rfl rfl (fun hx => by cases hx), ?_⟩
        exact ro_S hk hc rest (k + 1) _ _ hrest (grow _ rfl rfl rfl (fun hx => by cases hx)) h
      · rename_i f args hv
        obtain ⟨hcall, r, hr, h⟩ := h
        rw [aopD_ro (nx' := nx0 + k) hko] at hv
        refine ⟨o, ⟨k, akeys P G s o, [], true, false, true, 0⟩, r, h0, nx0, ho, .inr (.inr (.inl ⟨hw, ⟨f, args, hv, hr⟩, rfl, rfl, rfl⟩)), check _ rfl rfl rfl (fun _ => hcall), ?_⟩
        exact ro_S hk hc rest (k + 1) _ _ hrest (grow _ rfl rfl rfl (fun _ => hcall)) h
      · exact h.elim

theorem rops_congr {ops : Array Oper} {K : List AV → Prop} {g g' : Hp} (hg : ∀ k, g k = g' k) (l : List Oper) (s : List AV) (h : rops P G ops K g l s) : rops P G ops K g' l s := by
  have : g = g' := funext hg
  subst this; exact h

theorem ro_ok {F : Fence} (hF : Free F) (hmix : P.follows .mixedOrders = true) {W : World} {id : Nat} {ops : Array Oper} {K : Fr → St → Prop} {fr : Fr} {st : St} (hro : roOk ops = true)
    (h : rops P G ops (fun s => K ⟨s, fr.marks⟩ ⟨st.h, st.nx + ops.size⟩) st.hp ops.toList fr.s) : CodeOk F P G W (.region id ops true) (fun x fr st => match x with | .normal => K fr st | _ => False) fr st := by
  intro M a w n sim
  simp only [roOk, Bool.and_eq_true, List.all_eq_true] at hro
  obtain ⟨⟨hk, hs⟩, hc⟩ := hro
  have hget0 : ∀ k, st.hp k = dget (dh0 st.nx (news 0 ops.toList) st.h) k := by
    intro k
    cases e : dget (dh0 st.nx (news 0 ops.toList) st.h) k with
    | some b => exact dh0_get _ _ _ _ _ e
    | none =>
      cases e2 : st.hp k with
      | none => rfl
      | some b =>
        have hlt : k < st.nx := sim.inv.al_of e2
        exfalso
        have : ∀ (l : List Nat), dget (dh0 st.nx l st.h) k = some b := by
          intro l
          induction l with
          | nil => simp only [dh0, List.map_nil, List.nil_append]; rw [dget_map]; exact e2
          | cons p l ih =>
            simp only [dh0, List.map_cons, List.cons_append, dget]
            rw [if_neg (by omega)]
            exact ih
        rw [this] at e; cases e
  have hS := ro_S (P := P) (G := G) (nx0 := st.nx) (h0 := dh0 st.nx (news 0 ops.toList) st.h) hk hc ops.toList 0 [] fr.s (fun j => by simp) (fun e he => by cases he) (rops_congr hget0 _ _ h)
  rw [← List.range_eq_range'] at hS
  simp only [Array.length_toList] at hS
  refine wpIn_region_any hmix ?_
  refine draw_any (P := P) (G := G) (W := W) (gc := fun _ _ _ _ _ _ => False) (M0 := M) (marks := fr.marks) hF (fun _ _ _ _ _ _ h => h.elim) ⟨hs, ancs_ok ops.toList [] [] rfl (fun i o hi => by simp at hi), by rw [ancs_len]; simp⟩ (fun M' nx s h a w hM sim' hkk => ?_) ops.size (List.range ops.size) _ st.nx fr.s _ M a _ (by simp) (by simp) (fun i hi => by simp [Array.getD, hi]) (fun i hi => List.mem_range.1 hi) List.pairwise_lt_range
    (fun i hi hn => absurd (List.mem_range.2 hi) hn) M.le_refl ?_ hS
  · obtain ⟨rfl, rfl, hkk⟩ := hkk
    refine ⟨M', ⟨s, fr.marks⟩, ⟨st.h, st.nx + ops.size⟩, .normal, hM, ⟨?_, sim'.rs, sim'.defers⟩, rfl, hkk⟩
    refine (sim'.inv.more fun k hk => hk.1).less fun k b hk => ?_
    rw [← hget0]; exact hk
  · refine ⟨?_, sim.rs, sim.defers⟩
    have inv := sim.inv
    have inv' : Inv G M (· < st.nx) st.hp W { w with drawn := w.drawn + 1 } := ⟨inv.imm, inv.far, inv.os, inv.tape, inv.out, inv.fresh, inv.live, inv.inj, inv.glob, inv.has⟩
    refine (inv'.more fun k hk => ⟨?_, fun p _ => ?_⟩).less fun k b hk => dh0_get _ _ _ _ _ hk
    · have : k < st.nx := hk
      omega
    · have : k < st.nx := hk
      omega

end Go.Proofs.Pv
