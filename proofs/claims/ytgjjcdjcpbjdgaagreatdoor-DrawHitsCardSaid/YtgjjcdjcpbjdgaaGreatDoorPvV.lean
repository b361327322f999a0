/-
  The abstract machine, part V: open proofs: loops by an invariant and a number that falls, drawn regions run in the order of the text, calls by their contracts.
  Conditions: the invariant 'Inv'; the program follows mixed orders.
-/
import Derived.Test.YtgjjcdjcpbjdgaaGreatDoorPvZ
namespace Go.Proofs.Pv
set_option linter.unusedVariables false
set_option linter.unusedSimpArgs false
open Go
variable {P : Program} {G : Nat → Option (List AV)}

theorem exists_least {p : Nat → Prop} : ∀ m, p m → ∃ k, p k ∧ ∀ j, p j → k ≤ j := by
  intro m
  induction m using Nat.strongRecOn with
  | _ m ih =>
    intro h
    by_cases hs : ∃ k, k < m ∧ p k
    · obtain ⟨k, h1, h2⟩ := hs
      exact ih k h1 h2
    · exact ⟨m, h, fun j hj => Nat.le_of_not_lt fun hlt => hs ⟨j, hlt, hj⟩⟩
open Classical in
noncomputable def least (p : Nat → Prop) : Nat := if h : ∃ k, p k ∧ ∀ j, p j → k ≤ j then h.choose else 0
theorem least_spec {p : Nat → Prop} {m : Nat} (h : p m) : p (least p) ∧ ∀ j, p j → least p ≤ j := by
  have hx := exists_least m h
  unfold least
  rw [dif_pos hx]
  exact hx.choose_spec

/-- Places are forgotten. -/
def fgtL : List Bool → List AV → List AV
  | b :: bs, a :: s => (match b with
    | true => a
    | false => .undef) :: fgtL bs s
  | _, s => s
def Fr.fgt (mask : List Bool) (fr : Fr) : Fr := ⟨fgtL mask fr.s, fr.marks⟩
theorem fgtL_len : ∀ (m : List Bool) (s : List AV), (fgtL m s).length = s.length
  | [], s => by cases s <;> rfl
  | _ :: _, [] => rfl
  | b :: bs, a :: s => by simp only [fgtL, List.length_cons, fgtL_len bs s]
theorem fgtL_get {M : Mem} : ∀ (m : List Bool) (s : List AV) (i : Nat) (v : Value) (h : i < s.length) (h' : i < (fgtL m s).length), M.rel s[i] v → M.rel (fgtL m s)[i] v
  | [], s, i, v, h, h', hr => by cases s <;> exact hr
  | _ :: _, [], i, v, h, _, _ => by simp at h
  | b :: bs, a :: s, 0, v, h, h', hr => by cases b <;> first | exact .undef | exact hr
  | b :: bs, a :: s, i + 1, v, h, h', hr => fgtL_get bs s i v (by simpa using h) (by simpa [fgtL] using h') hr
theorem Sim.fgt {W : World} {M : Mem} {fr : Fr} {st : St} {a : Act} {w : World} (sim : Sim G W M fr st a w) (mask : List Bool) : Sim G W M (fr.fgt mask) st a w := by
  refine ⟨sim.inv, ⟨by simp only [Fr.fgt, fgtL_len]; exact sim.rs.1, fun i h h' => ?_⟩, sim.defers⟩
  have h2 : i < fr.s.length := by simpa [Fr.fgt, fgtL_len] using h
  exact fgtL_get mask fr.s i _ h2 h (sim.rs.2 i h2 h')

/-- The handlers of an open proof, loops d deep. -/
def OH (F : Fence) (P : Program) (G : Nat → Option (List AV)) (W : World) : Nat → Hand Prop
  | 0 => { SH F P G W with loop := fun _ _ _ _ => False, draw := fun _ _ _ _ => False, rangeF := fun _ _ _ _ _ _ _ => False, yield := fun _ _ _ _ => False }
  | d + 1 => { SH F P G W with
      loop := fun c K fr st => ∃ (mask : List Bool) (I : Nat → Fr → Prop), (∃ m, I m (fr.fgt mask)) ∧ ∀ m fr st, I m fr → crun P G (OH F P G W d) c (fun x fr' st' => match x with
        | .normal => ∃ m', m' < m ∧ I m' (fr'.fgt mask)
        | x => K x fr' st') fr st
      draw := fun ops K fr st => roOk ops = true ∧ rops P G ops (fun s => K ⟨s, fr.marks⟩ ⟨st.h, st.nx + ops.size⟩) st.hp ops.toList fr.s }

theorem OH_ok {F : Fence} (hF : Free F) (hmix : P.follows .mixedOrders = true) (W : World) : ∀ d, HandOk F P G W id (OH F P G W d) := by
  intro d
  induction d with
  | zero => exact ⟨fun h => h, fun _ _ _ _ h => h, fun _ _ _ _ h => h.elim, fun _ _ _ _ h => h.elim, fun _ _ _ _ _ _ _ h => h.elim, fun id _ _ _ _ h => h.elim, fun _ h => h⟩
  | succ d ih =>
    refine ⟨fun h => h, fun _ _ _ _ h => h, fun c K fr st h => ?_, fun _ _ _ _ h => h, fun _ _ _ _ _ _ _ h => h, fun i ops K fr st h => ?_, fun _ h => h⟩
    · obtain ⟨mask, I, ⟨m, hm⟩, hround⟩ := h
      intro M a w n sim
      let J : Nat → Act → World → Prop := fun m a w => ∃ M' fr st, M.le M' ∧ Sim G W M' fr st a w ∧ I m (fr.fgt mask)
      refine wpIn_loop (fun a w => ∃ m, J m a w) (fun a w => least fun m => J m a w) ⟨m, M, fr, st, M.le_refl, sim, hm⟩ ?_
      rintro a w ⟨m0, hm0⟩
      obtain ⟨h1, h2⟩ := least_spec (p := fun m => J m a w) hm0
      obtain ⟨M', fr', st', g1, g2, g3⟩ := h1
      refine wpIn_mono (crun_sound hF ih c _ _ _ (hround _ _ st' g3) M' a w n (g2.fgt mask)) ?_
      rintro e a' w' ⟨M2, fr2, st2, x, k1, k2, rfl, k4⟩
      cases x with
      | normal =>
        obtain ⟨m', hlt, hI⟩ := k4
        have hJ : J m' a' w' := ⟨M2, fr2, st2, Mem.le_trans g1 k1, k2, hI⟩
        exact ⟨⟨m', hJ⟩, Nat.lt_of_le_of_lt ((least_spec (p := fun m => J m a' w') hJ).2 m' hJ) hlt⟩
      | exit id => exact ⟨M2, fr2, st2, .exit id, Mem.le_trans g1 k1, k2, rfl, k4⟩
      | goto l => exact ⟨M2, fr2, st2, .goto l, Mem.le_trans g1 k1, k2, rfl, k4⟩
      | ret => exact ⟨M2, fr2, st2, .ret, Mem.le_trans g1 k1, k2, rfl, k4⟩
    · exact ro_ok hF hmix h.1 h.2

/-- How a contract is proved. -/
theorem PC.introO (d : Nat) (hmix : P.follows .mixedOrders = true) {f : FuncId} {fn : Func} {c : Code} {args : List AV} {R : AV → Prop} (hf : P.funcs[f]? = some fn) (hb : fn.body = some c) (hname : fn.name ≠ "runtime.NumGoroutine")
    (h : ∀ (F : Fence), Free F → ∀ (W : World), crun P G (OH F P G W d) c (kleave P (OH F P G W d) fn.results.toList (fun v st => (v, st)) fun v _ => v.stripR.pureR = true ∧ R v.stripR) (fr0 fn.ntmps args) st0) : PC P G f args R :=
  PC.introH (fun F W => OH F P G W d) (fun F hF W => OH_ok hF hmix W d) hf hb hname fun F hF _ W => h F hF W

/-- A contract at a call. -/
theorem PC.use {F : Fence} (hF : Free F) {W : World} {d : Nat} {f : FuncId} {args args' : List AV} {R : AV → Prop} (h : PC P G f args' R) (he : args.map AV.plain = args') {K : AV → St → Prop} {st : St} (hK : ∀ v, R v → K v st) :
    (OH F P G W (d + 1)).call f args K st := by
  subst he
  exact PC.callOk hF h hK
theorem OH_draw {F : Fence} {W : World} {d : Nat} {ops : Array Oper} {K : Fr → St → Prop} {fr : Fr} {st : St} (h1 : roOk ops = true) (h2 : rops P G ops (fun s => K ⟨s, fr.marks⟩ ⟨st.h, st.nx + ops.size⟩) st.hp ops.toList fr.s) : (OH F P G W (d + 1)).draw ops K fr st := ⟨h1, h2⟩
/-- A loop, by an invariant over the frame (its places as far as the mask keeps them) and a number that falls. -/
theorem OH_loop {F : Fence} {W : World} {d : Nat} {c : Code} {K : Kont Prop} {fr : Fr} {st : St} (mask : List Bool) (I : Nat → Fr → Prop) (m : Nat) (h0 : I m (fr.fgt mask))
    (h : ∀ m fr st, I m fr → crun P G (OH F P G W d) c (fun x fr' st' => match x with
        | .normal => ∃ m', m' < m ∧ I m' (fr'.fgt mask)
        | x => K x fr' st') fr st) : (OH F P G W (d + 1)).loop c K fr st := ⟨mask, I, ⟨m, h0⟩, h⟩
/-- What follows a round. -/
def loopK (K : Kont Prop) (mask : List Bool) (m : Nat) (I : Nat → Fr → Prop) : Kont Prop := fun x fr' st' => match x with
  | .normal => ∃ m', m' < m ∧ I m' (fr'.fgt mask)
  | x => K x fr' st'
theorem loopK_normal {K : Kont Prop} {mask : List Bool} {m : Nat} {I : Nat → Fr → Prop} {fr : Fr} {st : St} : loopK K mask m I .normal fr st = ∃ m', m' < m ∧ I m' (fr.fgt mask) := rfl
theorem loopK_exit {K : Kont Prop} {mask : List Bool} {m : Nat} {I : Nat → Fr → Prop} {id : Nat} {fr : Fr} {st : St} : loopK K mask m I (.exit id) fr st = K (.exit id) fr st := rfl
theorem loopK_ret {K : Kont Prop} {mask : List Bool} {m : Nat} {I : Nat → Fr → Prop} {fr : Fr} {st : St} : loopK K mask m I .ret fr st = K .ret fr st := rfl
theorem OH_loop' {F : Fence} {W : World} {d : Nat} {c : Code} {K : Kont Prop} {fr : Fr} {st : St} (mask : List Bool) (I : Nat → Fr → Prop) (m : Nat) (h0 : I m (fr.fgt mask))
    (h : ∀ m fr st, I m fr → crun P G (OH F P G W d) c (loopK K mask m I) fr st) : (OH F P G W (d + 1)).loop c K fr st := OH_loop mask I m h0 h

/-! ### Stepping -/
section
variable {R : Type} {H : Hand R}
def seqK (P : Program) (G : Nat → Option (List AV)) (H : Hand R) (b : Code) (K : Kont R) : Kont R := fun x fr st => match x with
  | .normal => crun P G H b K fr st
  | x => K x fr st
theorem seqK_normal {b : Code} {K : Kont R} {fr : Fr} {st : St} : seqK P G H b K .normal fr st = crun P G H b K fr st := rfl
theorem seqK_exit {b : Code} {K : Kont R} {id : Nat} {fr : Fr} {st : St} : seqK P G H b K (.exit id) fr st = K (.exit id) fr st := rfl
theorem seqK_ret {b : Code} {K : Kont R} {fr : Fr} {st : St} : seqK P G H b K .ret fr st = K .ret fr st := rfl
theorem crun_seq {a b : Code} {K : Kont R} {fr : Fr} {st : St} : crun P G H (.seq a b) K fr st = crun P G H a (seqK P G H b K) fr st := rfl
def blockK (id : Nat) (K : Kont R) : Kont R := fun x fr st => match x with
  | .exit id' => if id' = id then K .normal fr st else K (.exit id') fr st
  | x => K x fr st
theorem blockK_normal {id : Nat} {K : Kont R} {fr : Fr} {st : St} : blockK id K .normal fr st = K .normal fr st := rfl
theorem blockK_ret {id : Nat} {K : Kont R} {fr : Fr} {st : St} : blockK id K .ret fr st = K .ret fr st := rfl
theorem blockK_exit {id : Nat} {K : Kont R} {fr : Fr} {st : St} : blockK id K (.exit id) fr st = K .normal fr st := by simp [blockK]
theorem blockK_exit_ne {id id' : Nat} {K : Kont R} {fr : Fr} {st : St} (h : ¬ id' = id) : blockK id K (.exit id') fr st = K (.exit id') fr st := by simp [blockK, h]
theorem crun_block {id : Nat} {c : Code} {K : Kont R} {fr : Fr} {st : St} : crun P G H (.block id c) K fr st = crun P G H c (blockK id K) fr st := rfl
def condK (H : Hand R) (v : AV) (a b : R) : R := match v with
  | .bool q => if q then a else b
  | _ => H.fail
theorem condK_bool {q : Bool} {a b : R} : condK H (.bool q) a b = if q = true then a else b := rfl
theorem crun_cond {c : Operand} {a b : Code} {K : Kont R} {fr : Fr} {st : St} : crun P G H (.cond c a b) K fr st = condK H (ev P G fr.s 0 c) (crun P G H a K fr st) (crun P G H b K fr st) := by
  simp only [crun, condK]
  cases ev P G fr.s 0 c <;> rfl
theorem crun_skip {K : Kont R} {fr : Fr} {st : St} : crun P G H .skip K fr st = K .normal fr st := rfl
theorem crun_exit {id : Nat} {K : Kont R} {fr : Fr} {st : St} : crun P G H (.exit id) K fr st = K (.exit id) fr st := rfl
theorem crun_ret {K : Kont R} {fr : Fr} {st : St} : crun P G H .ret K fr st = K .ret fr st := rfl
theorem crun_label {l : Nat} {K : Kont R} {fr : Fr} {st : St} : crun P G H (.label l) K fr st = K .normal fr st := rfl
theorem crun_loop {c : Code} {K : Kont R} {fr : Fr} {st : St} : crun P G H (.loop c) K fr st = H.loop c K fr st := rfl
def regK (K : Kont R) : Fr → St → R := fun fr st => K .normal fr st
theorem regK_at {K : Kont R} {fr : Fr} {st : St} : regK K fr st = K .normal fr st := rfl
theorem crun_region {id : Nat} {ops : Array Oper} {K : Kont R} {fr : Fr} {st : St} : crun P G H (.region id ops false) K fr st = aops P G H ops (regK K) ops.toList fr st := rfl
theorem crun_draw {id : Nat} {ops : Array Oper} {K : Kont R} {fr : Fr} {st : St} : crun P G H (.region id ops true) K fr st = H.draw ops (regK K) fr st := rfl
theorem aops_nil {ops : Array Oper} {K : Fr → St → R} {fr : Fr} {st : St} : aops P G H ops K [] fr st = K fr st := rfl
def restK (P : Program) (G : Nat → Option (List AV)) (H : Hand R) (ops : Array Oper) (K : Fr → St → R) (rest : List Oper) (d : Option Tmp) (fr : Fr) : AV → St → R := fun v st => aops P G H ops K rest (fr.put d v) st
theorem restK_at {ops : Array Oper} {K : Fr → St → R} {rest : List Oper} {d : Option Tmp} {fr : Fr} {v : AV} {st : St} : restK P G H ops K rest d fr v st = aops P G H ops K rest (fr.put d v) st := rfl
def stepK (P : Program) (G : Nat → Option (List AV)) (H : Hand R) (ops : Array Oper) (K : Fr → St → R) (rest : List Oper) (d : Option Tmp) (fr : Fr) (st : St) (c : Option Bool) (r : Option Res) : R :=
  match c with
  | none => H.fail
  | some false => aops P G H ops K rest (fr.put d uu) st
  | some true => match r with
    | none => H.fail
    | some (.val v u) => aops P G H ops K rest (fr.put d v) (st.app u)
    | some (.skip u) => aops P G H ops K rest (fr.put d uu) (st.app u)
    | some (.call f args) => H.call f args (restK P G H ops K rest d fr) st
    | some (.yield key args) => H.yield key args (restK P G H ops K rest d fr) st
    | some (.branch l) => H.both (l.map fun x => aops P G H ops K rest (fr.put d x.1) (st.app x.2))
theorem aops_cons {ops : Array Oper} {K : Fr → St → R} {o : Oper} {rest : List Oper} {fr : Fr} {st : St} :
    aops P G H ops K (o :: rest) fr st = stepK P G H ops K rest o.dst fr st (wantedA ops fr.s o) (aop P G fr.s st.hp st.nx o) := by
  simp only [aops, putF_eq, forceO_eq, appF_eq, stepK]
  cases wantedA ops fr.s o with
  | none => rfl
  | some c =>
    cases c with
    | false => rfl
    | true =>
      simp only [if_true]
      cases aop P G fr.s st.hp st.nx o with
      | none => rfl
      | some r => cases r <;> rfl
theorem stepK_no {ops : Array Oper} {K : Fr → St → R} {rest : List Oper} {d : Option Tmp} {fr : Fr} {st : St} {r : Option Res} : stepK P G H ops K rest d fr st (some false) r = aops P G H ops K rest (fr.put d uu) st := rfl
theorem stepK_val {ops : Array Oper} {K : Fr → St → R} {rest : List Oper} {d : Option Tmp} {fr : Fr} {st : St} {v : AV} {u : List (Nat × Option Blk)} : stepK P G H ops K rest d fr st (some true) (some (.val v u)) = aops P G H ops K rest (fr.put d v) (st.app u) := rfl
theorem stepK_skip {ops : Array Oper} {K : Fr → St → R} {rest : List Oper} {d : Option Tmp} {fr : Fr} {st : St} {u : List (Nat × Option Blk)} : stepK P G H ops K rest d fr st (some true) (some (.skip u)) = aops P G H ops K rest (fr.put d uu) (st.app u) := rfl
theorem stepK_call {ops : Array Oper} {K : Fr → St → R} {rest : List Oper} {d : Option Tmp} {fr : Fr} {st : St} {f : FuncId} {args : List AV} : stepK P G H ops K rest d fr st (some true) (some (.call f args)) = H.call f args (restK P G H ops K rest d fr) st := rfl
theorem wantedA_all {ops : Array Oper} {s : List AV} {dst : Option Tmp} {op : Op} {ty : TypeId} {pos : String} {after : Array Edge} : wantedA ops s ⟨dst, op, ty, pos, after, none⟩ = some true := rfl
theorem put_some {s : List AV} {m : List Nat} {d : Tmp} {v : AV} : Fr.put ⟨s, m⟩ (some d) v = ⟨s.set d v, m⟩ := rfl
theorem put_none {fr : Fr} {v : AV} : Fr.put fr none v = fr := rfl
theorem aop_of1 {s : List AV} {g : Hp} {nx : Nat} {o : Oper} {r : Res} (h : aop1 P G s g nx o = some r) : aop P G s g nx o = some r := by
  simp only [aop, aopD, h]
theorem leave_ret {rs : List ResultVar} {fin : AV → St → AV × St} {K : AV → St → R} {s : List AV} {st : St} : kleave P H rs fin K .ret ⟨s, []⟩ st = match aresults P st.hp s rs with
    | some v => match fin v st with
      | (v', st'') => K v' st''
    | none => H.fail := rfl
theorem leave_normal {rs : List ResultVar} {fin : AV → St → AV × St} {K : AV → St → R} {s : List AV} {st : St} : kleave P H rs fin K .normal ⟨s, []⟩ st = match aresults P st.hp s rs with
    | some v => match fin v st with
      | (v', st'') => K v' st''
    | none => H.fail := rfl
/-! The same for drawn regions. -/
def stepR (P : Program) (G : Nat → Option (List AV)) (ops : Array Oper) (K : List AV → Prop) (g : Hp) (rest : List Oper) (d : Option Tmp) (s : List AV) (ic : Bool) (c : Option Bool) (r : Option Res) : Prop :=
  match c with
  | none => False
  | some false => rops P G ops K g rest (sput s d uu)
  | some true => match r with
    | some (.val v []) => rops P G ops K g rest (sput s d v)
    | some (.call f args) => ic = true ∧ ∃ r, Pl P G f args r ∧ rops P G ops K g rest (sput s d r)
    | _ => False
theorem rops_nil {ops : Array Oper} {K : List AV → Prop} {g : Hp} {s : List AV} : rops P G ops K g [] s = K s := rfl
theorem rops_cons {ops : Array Oper} {K : List AV → Prop} {g : Hp} {o : Oper} {rest : List Oper} {s : List AV} : rops P G ops K g (o :: rest) s = stepR P G ops K g rest o.dst s (isCall o) (wantedA ops s o) (aopD P G s g 0 o) := by
  simp only [rops, stepR]
  cases wantedA ops s o with
  | none => rfl
  | some c => cases c <;> rfl
theorem stepR_no {ops : Array Oper} {K : List AV → Prop} {g : Hp} {rest : List Oper} {d : Option Tmp} {s : List AV} {ic : Bool} {r : Option Res} : stepR P G ops K g rest d s ic (some false) r = rops P G ops K g rest (sput s d uu) := rfl
theorem stepR_val {ops : Array Oper} {K : List AV → Prop} {g : Hp} {rest : List Oper} {d : Option Tmp} {s : List AV} {ic : Bool} {v : AV} : stepR P G ops K g rest d s ic (some true) (some (.val v [])) = rops P G ops K g rest (sput s d v) := rfl
theorem stepR_call {ops : Array Oper} {K : List AV → Prop} {g : Hp} {rest : List Oper} {d : Option Tmp} {s : List AV} {ic : Bool} {f : FuncId} {args : List AV} : stepR P G ops K g rest d s ic (some true) (some (.call f args)) = (ic = true ∧ ∃ r, Pl P G f args r ∧ rops P G ops K g rest (sput s d r)) := rfl
/-- What a guard finds in its place. -/
def gw (v : Option AV) (want : Bool) : Option Bool := match v with
  | some (.bool b) => some (b == want)
  | some (.tup _) => some false
  | _ => none
theorem wantedA_guard {ops : Array Oper} {s : List AV} {dst : Option Tmp} {op : Op} {ty : TypeId} {pos : String} {after : Array Edge} {j d : Nat} {want : Bool} (h : (ops[j]?).bind (·.dst) = some d) :
    wantedA ops s ⟨dst, op, ty, pos, after, some (j, want)⟩ = gw s[d]? want := by
  simp only [wantedA, h, gw]
  cases s[d]? with
  | none => rfl
  | some v => cases v <;> rfl
theorem gw_bool {b want : Bool} : gw (some (.bool b)) want = some (b == want) := rfl
theorem gw_uu {want : Bool} : gw (some uu) want = some false := rfl
theorem gw_tup {l : List AV} {want : Bool} : gw (some (.tup l)) want = some false := rfl
theorem sput_some {s : List AV} {d : Tmp} {v : AV} : sput s (some d) v = s.set d v := rfl
theorem sput_none {s : List AV} {v : AV} : sput s none v = s := rfl
theorem arrD0 {α : Type} {a d : α} {l : List α} : (List.toArray (a :: l)).getD 0 d = a := rfl
theorem arrD1 {α : Type} {a b d : α} {l : List α} : (List.toArray (a :: b :: l)).getD 1 d = b := rfl
theorem aresC {g : Hp} {s : List AV} {a u : Tmp} {t : TypeId} : aresults P g s [.cell a t, .tmp u] = (match aload P g t (s.getD a .undef) with
    | some v => some (.tup [v, s.getD u .undef])
    | none => none) := by
  simp only [aresults, aresL, ares]
  cases aload P g t (s.getD a .undef) <;> rfl
theorem stripR_int {k : IntKind} {n : Int} : AV.stripR (.int k n) = .int k n := rfl
theorem stripR_bool {b : Bool} : AV.stripR (.bool b) = .bool b := rfl
theorem stripR_sl {k : Nat} {r : List AV} {t : Tk} : AV.stripR (.sl k r t) = .sl k r .none := rfl
theorem stripR_str {q : ByteArray} : AV.stripR (.str q) = .str q := rfl
theorem strip_int {k : IntKind} {n : Int} : AV.strip (.int k n) = .int k n := rfl
theorem strip_bool {b : Bool} : AV.strip (.bool b) = .bool b := rfl
theorem strip_sl {k : Nat} {r : List AV} {t : Tk} : AV.strip (.sl k r t) = .sl k r .none := rfl
theorem strip_str {q : ByteArray} : AV.strip (.str q) = .str q := rfl
theorem strip0_int {k : IntKind} {n : Int} : AV.strip0 (.int k n) = .int k n := rfl
theorem strip0_bool {b : Bool} : AV.strip0 (.bool b) = .bool b := rfl
theorem strip0_sl {k : Nat} {r : List AV} {t : Tk} : AV.strip0 (.sl k r t) = .sl k r .none := rfl
theorem strip0_str {q : ByteArray} : AV.strip0 (.str q) = .str q := rfl
theorem pureR_int {k : IntKind} {n : Int} : AV.pureR (.int k n) = true := rfl
theorem pureR_bool {b : Bool} : AV.pureR (.bool b) = true := rfl
theorem pureR_str {q : ByteArray} : AV.pureR (.str q) = true := rfl
theorem pureR_sl {k : Nat} {r : List AV} : AV.pureR (.sl k r .none) = true := rfl
theorem pureV_int {k : IntKind} {n : Int} : AV.pureV (.int k n) = true := rfl
theorem pureV_bool {b : Bool} : AV.pureV (.bool b) = true := rfl
theorem pureV_str {q : ByteArray} : AV.pureV (.str q) = true := rfl
theorem pureV_sl {k : Nat} {r : List AV} : AV.pureV (.sl k r .none) = true := rfl
theorem pure_int {k : IntKind} {n : Int} : AV.pure (.int k n) = true := rfl
theorem pure_bool {b : Bool} : AV.pure (.bool b) = true := rfl
theorem pure_str {q : ByteArray} : AV.pure (.str q) = true := rfl
theorem pure_sl {k : Nat} {r : List AV} : AV.pure (.sl k r .none) = true := rfl
theorem stripR_agg {cs : List AV} : AV.stripR (.agg cs) = .agg (cs.map AV.strip0) := rfl
theorem strip_agg {cs : List AV} : AV.strip (.agg cs) = .agg (cs.map AV.strip0) := rfl
theorem stripR_tup {cs : List AV} : AV.stripR (.tup cs) = .tup (cs.map AV.strip) := rfl
theorem pureR_agg {cs : List AV} : AV.pureR (.agg cs) = cs.all AV.pure := rfl
theorem pureV_agg {cs : List AV} : AV.pureV (.agg cs) = cs.all AV.pure := rfl
theorem pureR_tup {cs : List AV} : AV.pureR (.tup cs) = cs.all AV.pureV := rfl
theorem app_nil {h : List (Nat × Blk)} {nx : Nat} : St.app ⟨h, nx⟩ [] = ⟨h, nx + 1⟩ := rfl
theorem app_new {h : List (Nat × Blk)} {nx : Nat} {b : Blk} : St.app ⟨h, nx⟩ [(nx, some b)] = ⟨(nx, b) :: h, nx + 1⟩ := by simp [St.app, hupd]
theorem app_set {h : List (Nat × Blk)} {nx k : Nat} {b : Blk} (hne : ¬ k = nx) : St.app ⟨h, nx⟩ [(k, some b)] = ⟨hset h k b, nx + 1⟩ := by simp [St.app, hupd, hne]
theorem hset_top {h : List (Nat × Blk)} {k : Nat} {b0 b : Blk} : hset ((k, b0) :: h) k b = (k, b) :: h := by simp [hset]
theorem hset_ne {h : List (Nat × Blk)} {k q : Nat} {b0 b : Blk} (hne : ¬ q = k) : hset ((k, b0) :: h) q b = (k, b0) :: hset h q b := by simp [hset, hne]
theorem hp_mk {h : List (Nat × Blk)} {nx : Nat} : St.hp ⟨h, nx⟩ = hget h := rfl
theorem hget_top {h : List (Nat × Blk)} {k : Nat} {b : Blk} : hget ((k, b) :: h) k = some b := by simp [hget]
theorem hget_ne {h : List (Nat × Blk)} {k q : Nat} {b : Blk} (hne : ¬ q = k) : hget ((k, b) :: h) q = hget h q := by simp [hget, hne]
theorem ares1 {g : Hp} {s : List AV} {t : Tmp} : aresults P g s [.tmp t] = some (s.getD t .undef) := rfl
theorem ares3 {g : Hp} {s : List AV} {t u v : Tmp} : aresults P g s [.tmp t, .tmp u, .tmp v] = some (.tup [s.getD t .undef, s.getD u .undef, s.getD v .undef]) := rfl
theorem ares2 {g : Hp} {s : List AV} {t u : Tmp} : aresults P g s [.tmp t, .tmp u] = some (.tup [s.getD t .undef, s.getD u .undef]) := rfl
/-! The same, over what matters of an operation alone. -/
structure SOp where
  dst : Option Tmp
  op : Op
  type : TypeId
  guard : Option (Nat × Bool)
def SOp.full (o : SOp) : Oper := ⟨o.dst, o.op, o.type, "", #[], o.guard⟩
def slim (o : Oper) : SOp := ⟨o.dst, o.op, o.type, o.guard⟩
def gdj (gds : List (Option Tmp)) (j : Nat) : Option Tmp := (gds[j]?).bind id
def wantedG (gds : List (Option Tmp)) (s : List AV) : Option (Nat × Bool) → Option Bool
  | none => some true
  | some (j, want) => match gdj gds j with
    | some d => gw s[d]? want
    | none => none
theorem wantedG_eq {ops : Array Oper} {s : List AV} {o : Oper} : wantedA ops s o = wantedG (ops.toList.map (·.dst)) s o.guard := by
  unfold wantedA wantedG
  cases o.guard with
  | none => rfl
  | some g =>
    obtain ⟨j, want⟩ := g
    have : gdj (ops.toList.map (·.dst)) j = (ops[j]?).bind (·.dst) := by
      unfold gdj
      rw [List.getElem?_map, Array.getElem?_toList]
      cases ops[j]? <;> rfl
    simp only [this]
    cases (ops[j]?).bind (·.dst) with
    | none => rfl
    | some d =>
      simp only [gw]
      cases s[d]? with
      | none => rfl
      | some v => cases v <;> rfl
theorem aop_slim {s : List AV} {g : Hp} {nx : Nat} {o : Oper} : aop P G s g nx o = aop P G s g nx (slim o).full := by
  obtain ⟨a, b, c, d, e, f⟩ := o; rfl
theorem aopD_slim {s : List AV} {g : Hp} {nx : Nat} {o : Oper} : aopD P G s g nx o = aopD P G s g nx (slim o).full := by
  obtain ⟨a, b, c, d, e, f⟩ := o; rfl
theorem isCall_slim {o : Oper} : isCall o = isCall (slim o).full := by
  obtain ⟨a, b, c, d, e, f⟩ := o; rfl

def saops (P : Program) (G : Nat → Option (List AV)) (H : Hand R) (gds : List (Option Tmp)) (K : Fr → St → R) : List SOp → Fr → St → R
  | [], fr, st => K fr st
  | o :: rest, fr, st =>
    match wantedG gds fr.s o.guard with
    | none => H.fail
    | some false => saops P G H gds K rest (fr.put o.dst uu) st
    | some true => match aop P G fr.s st.hp st.nx o.full with
      | none => H.fail
      | some (.val v u) => saops P G H gds K rest (fr.put o.dst v) (st.app u)
      | some (.skip u) => saops P G H gds K rest (fr.put o.dst uu) (st.app u)
      | some (.call f args) => H.call f args (fun v st' => saops P G H gds K rest (fr.put o.dst v) st') st
      | some (.yield key args) => H.yield key args (fun v st' => saops P G H gds K rest (fr.put o.dst v) st') st
      | some (.branch l) => H.both (l.map fun x => saops P G H gds K rest (fr.put o.dst x.1) (st.app x.2))
theorem aops_saops {ops : Array Oper} {K : Fr → St → R} : ∀ (l : List Oper) (fr : Fr) (st : St), aops P G H ops K l fr st = saops P G H (ops.toList.map (·.dst)) K (l.map slim) fr st
  | [], _, _ => rfl
  | o :: rest, fr, st => by
    simp only [List.map_cons, saops, aops, putF_eq, forceO_eq, appF_eq, wantedG_eq, ← aop_slim, aops_saops rest]
    show _ = (match wantedG (ops.toList.map (·.dst)) fr.s o.guard with
      | none => H.fail
      | some false => _
      | some true => _)
    cases wantedG (ops.toList.map (·.dst)) fr.s o.guard with
    | none => rfl
    | some c =>
      cases c with
      | false => rfl
      | true =>
        simp only [if_true]
        cases aop P G fr.s st.hp st.nx o with
        | none => rfl
        | some r => cases r <;> rfl
theorem crun_region' {id : Nat} {ops : Array Oper} {K : Kont R} {fr : Fr} {st : St} : crun P G H (.region id ops false) K fr st = saops P G H (ops.toList.map (·.dst)) (regK K) (ops.toList.map slim) fr st := by
  rw [crun_region, aops_saops]
theorem slim_mk {dst : Option Tmp} {op : Op} {ty : TypeId} {pos : String} {after : Array Edge} {g : Option (Nat × Bool)} : slim ⟨dst, op, ty, pos, after, g⟩ = ⟨dst, op, ty, g⟩ := rfl
theorem full_mk {dst : Option Tmp} {op : Op} {ty : TypeId} {g : Option (Nat × Bool)} : SOp.full ⟨dst, op, ty, g⟩ = ⟨dst, op, ty, "", #[], g⟩ := rfl
def sK (P : Program) (G : Nat → Option (List AV)) (H : Hand R) (gds : List (Option Tmp)) (K : Fr → St → R) (rest : List SOp) (d : Option Tmp) (fr : Fr) : AV → St → R := fun v st => saops P G H gds K rest (fr.put d v) st
theorem sK_at {gds : List (Option Tmp)} {K : Fr → St → R} {rest : List SOp} {d : Option Tmp} {fr : Fr} {v : AV} {st : St} : sK P G H gds K rest d fr v st = saops P G H gds K rest (fr.put d v) st := rfl
def sstep (P : Program) (G : Nat → Option (List AV)) (H : Hand R) (gds : List (Option Tmp)) (K : Fr → St → R) (rest : List SOp) (d : Option Tmp) (fr : Fr) (st : St) (c : Option Bool) (r : Option Res) : R :=
  match c with
  | none => H.fail
  | some false => saops P G H gds K rest (fr.put d uu) st
  | some true => match r with
    | none => H.fail
    | some (.val v u) => saops P G H gds K rest (fr.put d v) (st.app u)
    | some (.skip u) => saops P G H gds K rest (fr.put d uu) (st.app u)
    | some (.call f args) => H.call f args (sK P G H gds K rest d fr) st
    | some (.yield key args) => H.yield key args (sK P G H gds K rest d fr) st
    | some (.branch l) => H.both (l.map fun x => saops P G H gds K rest (fr.put d x.1) (st.app x.2))
theorem saops_nil {gds : List (Option Tmp)} {K : Fr → St → R} {fr : Fr} {st : St} : saops P G H gds K [] fr st = K fr st := rfl
theorem saops_cons {gds : List (Option Tmp)} {K : Fr → St → R} {dst : Option Tmp} {op : Op} {ty : TypeId} {g : Option (Nat × Bool)} {rest : List SOp} {fr : Fr} {st : St} :
    saops P G H gds K (⟨dst, op, ty, g⟩ :: rest) fr st = sstep P G H gds K rest dst fr st (wantedG gds fr.s g) (aop P G fr.s st.hp st.nx ⟨dst, op, ty, "", #[], g⟩) := by
  rfl
theorem sstep_no {gds : List (Option Tmp)} {K : Fr → St → R} {rest : List SOp} {d : Option Tmp} {fr : Fr} {st : St} {r : Option Res} : sstep P G H gds K rest d fr st (some false) r = saops P G H gds K rest (fr.put d uu) st := rfl
theorem sstep_val {gds : List (Option Tmp)} {K : Fr → St → R} {rest : List SOp} {d : Option Tmp} {fr : Fr} {st : St} {v : AV} {u : List (Nat × Option Blk)} : sstep P G H gds K rest d fr st (some true) (some (.val v u)) = saops P G H gds K rest (fr.put d v) (st.app u) := rfl
theorem sstep_skip {gds : List (Option Tmp)} {K : Fr → St → R} {rest : List SOp} {d : Option Tmp} {fr : Fr} {st : St} {u : List (Nat × Option Blk)} : sstep P G H gds K rest d fr st (some true) (some (.skip u)) = saops P G H gds K rest (fr.put d uu) (st.app u) := rfl
theorem sstep_call {gds : List (Option Tmp)} {K : Fr → St → R} {rest : List SOp} {d : Option Tmp} {fr : Fr} {st : St} {f : FuncId} {args : List AV} : sstep P G H gds K rest d fr st (some true) (some (.call f args)) = H.call f args (sK P G H gds K rest d fr) st := rfl
theorem wantedG_none {gds : List (Option Tmp)} {s : List AV} : wantedG gds s none = some true := rfl
theorem wantedG_some {gds : List (Option Tmp)} {s : List AV} {j : Nat} {want : Bool} : wantedG gds s (some (j, want)) = match gdj gds j with
    | some d => gw s[d]? want
    | none => none := rfl
theorem gdj_zero {a : Option Tmp} {l : List (Option Tmp)} : gdj (a :: l) 0 = a := rfl
theorem gdj_succ {a : Option Tmp} {l : List (Option Tmp)} {n : Nat} : gdj (a :: l) (n + 1) = gdj l n := rfl
theorem gwT {b : Bool} : gw (some (.bool b)) true = some b := by cases b <;> rfl
theorem gwF {b : Bool} : gw (some (.bool b)) false = some (!b) := by cases b <;> rfl

def srops (P : Program) (G : Nat → Option (List AV)) (gds : List (Option Tmp)) (K : List AV → Prop) (g : Hp) : List SOp → List AV → Prop
  | [], s => K s
  | o :: rest, s => match wantedG gds s o.guard with
    | none => False
    | some false => srops P G gds K g rest (sput s o.dst uu)
    | some true => match aopD P G s g 0 o.full with
      | some (.val v []) => srops P G gds K g rest (sput s o.dst v)
      | some (.call f args) => isCall o.full = true ∧ ∃ r, Pl P G f args r ∧ srops P G gds K g rest (sput s o.dst r)
      | _ => False
theorem rops_srops {ops : Array Oper} {K : List AV → Prop} {g : Hp} : ∀ (l : List Oper) (s : List AV), rops P G ops K g l s = srops P G (ops.toList.map (·.dst)) K g (l.map slim) s
  | [], _ => rfl
  | o :: rest, s => by
    simp only [List.map_cons, srops, rops, wantedG_eq, ← aopD_slim, ← isCall_slim, rops_srops rest]
    rfl
def srstep (P : Program) (G : Nat → Option (List AV)) (gds : List (Option Tmp)) (K : List AV → Prop) (g : Hp) (rest : List SOp) (d : Option Tmp) (s : List AV) (ic : Bool) (c : Option Bool) (r : Option Res) : Prop :=
  match c with
  | none => False
  | some false => srops P G gds K g rest (sput s d uu)
  | some true => match r with
    | some (.val v []) => srops P G gds K g rest (sput s d v)
    | some (.call f args) => ic = true ∧ ∃ r, Pl P G f args r ∧ srops P G gds K g rest (sput s d r)
    | _ => False
theorem srops_nil {gds : List (Option Tmp)} {K : List AV → Prop} {g : Hp} {s : List AV} : srops P G gds K g [] s = K s := rfl
theorem srops_cons {gds : List (Option Tmp)} {K : List AV → Prop} {g : Hp} {dst : Option Tmp} {op : Op} {ty : TypeId} {gd : Option (Nat × Bool)} {rest : List SOp} {s : List AV} :
    srops P G gds K g (⟨dst, op, ty, gd⟩ :: rest) s = srstep P G gds K g rest dst s (isCall ⟨dst, op, ty, "", #[], gd⟩) (wantedG gds s gd) (aopD P G s g 0 ⟨dst, op, ty, "", #[], gd⟩) := by
  rfl
theorem srstep_no {gds : List (Option Tmp)} {K : List AV → Prop} {g : Hp} {rest : List SOp} {d : Option Tmp} {s : List AV} {ic : Bool} {r : Option Res} : srstep P G gds K g rest d s ic (some false) r = srops P G gds K g rest (sput s d uu) := rfl
theorem srstep_val {gds : List (Option Tmp)} {K : List AV → Prop} {g : Hp} {rest : List SOp} {d : Option Tmp} {s : List AV} {ic : Bool} {v : AV} : srstep P G gds K g rest d s ic (some true) (some (.val v [])) = srops P G gds K g rest (sput s d v) := rfl
/-- A guard that may be met or not. -/
theorem srstep_cases {gds : List (Option Tmp)} {K : List AV → Prop} {g : Hp} {rest : List SOp} {d : Option Tmp} {s : List AV} {ic : Bool} {b : Bool} {r : Option Res} (h0 : b = false → srstep P G gds K g rest d s ic (some false) r) (h1 : b = true → srstep P G gds K g rest d s ic (some true) r) : srstep P G gds K g rest d s ic (some b) r := by
  cases b with
  | false => exact h0 rfl
  | true => exact h1 rfl
theorem sstep_cases {H : Hand Prop} {gds : List (Option Tmp)} {K : Fr → St → Prop} {rest : List SOp} {d : Option Tmp} {fr : Fr} {st : St} {b : Bool} {r : Option Res} (h0 : b = false → sstep P G H gds K rest d fr st (some false) r) (h1 : b = true → sstep P G H gds K rest d fr st (some true) r) : sstep P G H gds K rest d fr st (some b) r := by
  cases b with
  | false => exact h0 rfl
  | true => exact h1 rfl
/-- A call in a drawn region, by its contract. -/
theorem srstep_call {gds : List (Option Tmp)} {K : List AV → Prop} {g : Hp} {rest : List SOp} {d : Option Tmp} {s : List AV} {f : FuncId} {args args' : List AV} {r : AV} (h : PC P G f args' (fun v => v = r)) (he : args.map AV.plain = args') (hk : srops P G gds K g rest (sput s d r)) :
    srstep P G gds K g rest d s true (some true) (some (.call f args)) := by
  subst he
  exact ⟨rfl, r, h, hk⟩
def drawK (K : Fr → St → Prop) (marks : List Nat) (st : St) : List AV → Prop := fun s => K ⟨s, marks⟩ st
theorem drawK_at {K : Fr → St → Prop} {marks : List Nat} {st : St} {s : List AV} : drawK K marks st s = K ⟨s, marks⟩ st := rfl
theorem OH_draw' {F : Fence} {W : World} {d : Nat} {ops : Array Oper} {K : Fr → St → Prop} {s : List AV} {marks : List Nat} {h : List (Nat × Blk)} {nx : Nat} (n : Nat) (hn : ops.size = n) (h1 : roOk ops = true) (h2 : srops P G (ops.toList.map (·.dst)) (drawK K marks ⟨h, nx + n⟩) (hget h) (ops.toList.map slim) s) :
    (OH F P G W (d + 1)).draw ops K ⟨s, marks⟩ ⟨h, nx⟩ := by
  subst hn
  refine OH_draw h1 ?_
  rw [rops_srops]
  exact h2
end

end Go.Proofs.Pv
