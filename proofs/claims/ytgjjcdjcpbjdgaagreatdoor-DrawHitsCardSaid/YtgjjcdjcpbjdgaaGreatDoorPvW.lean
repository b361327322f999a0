/-
  The abstract machine, part W: open proofs whose loops carry slices: the invariant speaks of the heap, too.
  Conditions: the invariant 'Inv'; the program follows mixed orders.
-/
import Derived.Test.YtgjjcdjcpbjdgaaGreatDoorPvV
namespace Go.Proofs.Pv
set_option linter.unusedVariables false
set_option linter.unusedSimpArgs false
open Go
variable {P : Program} {G : Nat → Option (List AV)}

/-- The handlers of an open proof, loops d deep. -/
def OS (F : Fence) (P : Program) (G : Nat → Option (List AV)) (W : World) : Nat → Hand Prop
  | 0 => OH F P G W 0
  | d + 1 => { SH F P G W with
      loop := fun c K fr st => ∃ (mask : List Bool) (I : Nat → Fr → St → Prop), (∃ m, I m (fr.fgt mask) st) ∧ ∀ m fr st, I m fr st → crun P G (OS F P G W d) c (fun x fr' st' => match x with
        | .normal => ∃ m', m' < m ∧ I m' (fr'.fgt mask) st'
        | x => K x fr' st') fr st
      draw := fun ops K fr st => roOk ops = true ∧ rops P G ops (fun s => K ⟨s, fr.marks⟩ ⟨st.h, st.nx + ops.size⟩) st.hp ops.toList fr.s }

theorem OS_ok {F : Fence} (hF : Free F) (hmix : P.follows .mixedOrders = true) (W : World) : ∀ d, HandOk F P G W id (OS F P G W d) := by
  intro d
  induction d with
  | zero => exact OH_ok hF hmix W 0
  | succ d ih =>
    refine ⟨fun h => h, fun _ _ _ _ h => h, fun c K fr st h => ?_, fun _ _ _ _ h => h, fun _ _ _ _ _ _ _ h => h, fun i ops K fr st h => ?_, fun _ h => h⟩
    · obtain ⟨mask, I, ⟨m, hm⟩, hround⟩ := h
      intro M a w n sim
      let J : Nat → Act → World → Prop := fun m a w => ∃ M' fr st, M.le M' ∧ Sim G W M' fr st a w ∧ I m (fr.fgt mask) st
      refine wpIn_loop (fun a w => ∃ m, J m a w) (fun a w => least fun m => J m a w) ⟨m, M, fr, st, M.le_refl, sim, hm⟩ ?_
      rintro a w ⟨m0, hm0⟩
      obtain ⟨h1, h2⟩ := least_spec (p := fun m => J m a w) hm0
      obtain ⟨M', fr', st', g1, g2, g3⟩ := h1
      refine wpIn_mono (crun_sound hF ih c _ _ _ (hround _ _ st' g3) M' a w n (g2.fgt mask)) ?_
      rintro e a' w' ⟨M2, fr2, st2, x, k1, k2, rfl, k4⟩
      cases x with
      | normal =>
        obtain ⟨m', hlt, hI⟩ := k4
        have hJ : J m' a' w' := ⟨M2, fr2, st2, Mem.le_trans g1 k1, k2, hI⟩
        exact ⟨⟨m', hJ⟩, Nat.lt_of_le_of_lt ((least_spec (p := fun m => J m a' w') hJ).2 m' hJ) hlt⟩
      | exit id => exact ⟨M2, fr2, st2, .exit id, Mem.le_trans g1 k1, k2, rfl, k4⟩
      | goto l => exact ⟨M2, fr2, st2, .goto l, Mem.le_trans g1 k1, k2, rfl, k4⟩
      | ret => exact ⟨M2, fr2, st2, .ret, Mem.le_trans g1 k1, k2, rfl, k4⟩
    · exact ro_ok hF hmix h.1 h.2

/-- How a contract is proved. -/
theorem PC.introS (d : Nat) (hmix : P.follows .mixedOrders = true) {f : FuncId} {fn : Func} {c : Code} {args : List AV} {R : AV → Prop} (hf : P.funcs[f]? = some fn) (hb : fn.body = some c) (hname : fn.name ≠ "runtime.NumGoroutine")
    (h : ∀ (F : Fence), Free F → ∀ (W : World), crun P G (OS F P G W d) c (kleave P (OS F P G W d) fn.results.toList (fun v st => (v, st)) fun v _ => v.stripR.pureR = true ∧ R v.stripR) (fr0 fn.ntmps args) st0) : PC P G f args R :=
  PC.introH (fun F W => OS F P G W d) (fun F hF W => OS_ok hF hmix W d) hf hb hname fun F hF _ W => h F hF W
/-- A contract at a call. -/
theorem PC.useS {F : Fence} (hF : Free F) {W : World} {d : Nat} {f : FuncId} {args args' : List AV} {R : AV → Prop} (h : PC P G f args' R) (he : args.map AV.plain = args') {K : AV → St → Prop} {st : St} (hK : ∀ v, R v → K v st) :
    (OS F P G W (d + 1)).call f args K st := by
  subst he
  exact PC.callOk hF h hK
theorem OS_draw' {F : Fence} {W : World} {d : Nat} {ops : Array Oper} {K : Fr → St → Prop} {s : List AV} {marks : List Nat} {h : List (Nat × Blk)} {nx : Nat} (n : Nat) (hn : ops.size = n) (h1 : roOk ops = true) (h2 : srops P G (ops.toList.map (·.dst)) (drawK K marks ⟨h, nx + n⟩) (hget h) (ops.toList.map slim) s) :
    (OS F P G W (d + 1)).draw ops K ⟨s, marks⟩ ⟨h, nx⟩ := by
  subst hn
  refine ⟨h1, ?_⟩
  rw [rops_srops]
  exact h2
/-- What follows a round. -/
def loopS (K : Kont Prop) (mask : List Bool) (m : Nat) (I : Nat → Fr → St → Prop) : Kont Prop := fun x fr' st' => match x with
  | .normal => ∃ m', m' < m ∧ I m' (fr'.fgt mask) st'
  | x => K x fr' st'
theorem loopS_normal {K : Kont Prop} {mask : List Bool} {m : Nat} {I : Nat → Fr → St → Prop} {fr : Fr} {st : St} : loopS K mask m I .normal fr st = ∃ m', m' < m ∧ I m' (fr.fgt mask) st := rfl
theorem loopS_exit {K : Kont Prop} {mask : List Bool} {m : Nat} {I : Nat → Fr → St → Prop} {id : Nat} {fr : Fr} {st : St} : loopS K mask m I (.exit id) fr st = K (.exit id) fr st := rfl
theorem loopS_ret {K : Kont Prop} {mask : List Bool} {m : Nat} {I : Nat → Fr → St → Prop} {fr : Fr} {st : St} : loopS K mask m I .ret fr st = K .ret fr st := rfl
theorem OS_loop' {F : Fence} {W : World} {d : Nat} {c : Code} {K : Kont Prop} {fr : Fr} {st : St} (mask : List Bool) (I : Nat → Fr → St → Prop) (m : Nat) (h0 : I m (fr.fgt mask) st)
    (h : ∀ m fr st, I m fr st → crun P G (OS F P G W d) c (loopS K mask m I) fr st) : (OS F P G W (d + 1)).loop c K fr st := ⟨mask, I, ⟨m, h0⟩, h⟩

theorem app_tok {h : List (Nat × Blk)} {nx q : Nat} {b : Blk} : St.app ⟨h, nx⟩ [(q, none), (nx, some b)] = ⟨(nx, b) :: hdel h q, nx + 1⟩ := by simp [St.app, hupd]
theorem hget_del {h : List (Nat × Blk)} {q k : Nat} (hne : ¬ k = q) : hget (hdel h q) k = hget h k := by rw [hget_hdel]; simp [hpSet, hne]
/-- Room of a slice that a loop makes longer. -/
def TkAt (tk : Tk) (rows : List AV) (st : St) : Prop := (tk = .full ∧ rows = []) ∨ ∃ k, tk = .tok k ∧ k < st.nx ∧ st.hp k = some .tok

end Go.Proofs.Pv
