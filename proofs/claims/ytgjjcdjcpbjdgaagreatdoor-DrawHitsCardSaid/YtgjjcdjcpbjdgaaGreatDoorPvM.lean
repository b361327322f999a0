/-
  The abstract machine, part M: contracts of functions that are handed plain values, and the handlers that stand for the model's own runs.
  Conditions: none of their own; each contract says what it asks.
-/
import Derived.Test.YtgjjcdjcpbjdgaaGreatDoorPvL
namespace Go.Proofs.Pv
set_option linter.unusedVariables false
set_option linter.unusedSimpArgs false
open Go
variable {P : Program} {G : Nat → Option (List AV)}

/-! ### Plain values -/
theorem Rel.pureV {I : Imm} {L : Lo} {T : To} {a : AV} {v : Value} (h : Rel I L T a v) (hp : a.pureV = true) : Rel I noL noT a v := by
  by_cases hg : ∃ cs, a = .agg cs
  · obtain ⟨cs, rfl⟩ := hg
    cases h with
    | agg hs hr =>
      simp only [AV.pureV, List.all_eq_true] at hp
      exact .agg hs (fun i h h' => (hr i h h').pure (hp _ (List.getElem_mem h)))
  · have : a.pureV = a.pure := by cases a <;> first | rfl | exact absurd ⟨_, rfl⟩ hg
    rw [this] at hp; exact h.pure hp
theorem Rel.pureR {I : Imm} {L : Lo} {T : To} {a : AV} {v : Value} (h : Rel I L T a v) (hp : a.pureR = true) : Rel I noL noT a v := by
  by_cases hg : ∃ cs, a = .tup cs
  · obtain ⟨cs, rfl⟩ := hg
    cases h with
    | tup hs hr =>
      simp only [AV.pureR, List.all_eq_true] at hp
      exact .tup hs (fun i h h' => (hr i h h').pureV (hp _ (List.getElem_mem h)))
  · have : a.pureR = a.pureV := by cases a <;> first | rfl | exact absurd ⟨_, rfl⟩ hg
    rw [this] at hp; exact h.pureV hp
theorem Rel.stripR {I : Imm} {L : Lo} {T : To} {a : AV} {v : Value} (h : Rel I L T a v) : Rel I L T a.stripR v := by
  by_cases hg : ∃ cs, a = .tup cs
  · obtain ⟨cs, rfl⟩ := hg
    cases h with
    | tup hs hr => exact .tup (by simpa using hs) (fun i h h' => by simpa using (hr i (by simpa using h) h').strip)
  · have : a.stripR = a.strip := by cases a <;> first | rfl | exact absurd ⟨_, rfl⟩ hg
    rw [this]; exact h.strip

def st0 : St := ⟨[], 0⟩

/-- THE CONTRACT OF A FUNCTION that is handed plain values: whatever lies in memory, it answers a plain value of which R holds, and what lay in memory lies as it lay. -/
def PC (P : Program) (G : Nat → Option (List AV)) (f : FuncId) (args : List AV) (R : AV → Prop) : Prop :=
  ∀ (F : Fence), Free F → F.round = none → ∀ (W : World) (M : Mem) (w : World) (vs : Array Value), M.L = noL → M.T = noT → Inv G M (fun _ => False) (fun _ => none) W w → RelL (Rel M.I noL noT) args vs.toList →
    (∃ fn, P.funcs[f]? = some fn ∧ fn.body.isSome = true ∧ fn.name ≠ "runtime.NumGoroutine") ∧
    ∀ n, CallsIn F n P f vs w fun e w' => ∃ M' v av, e = .returned v ∧ M.le M' ∧ Inv G M' (fun _ => True) (fun _ => none) W w' ∧ Rel M'.I noL noT av v ∧ R av

theorem PC.mono {f : FuncId} {args : List AV} {R R' : AV → Prop} (h : PC P G f args R) (hr : ∀ v, R v → R' v) : PC P G f args R' := by
  intro F hF hro W M w vs hL hT inv hargs
  obtain ⟨h1, h2⟩ := h F hF hro W M w vs hL hT inv hargs
  refine ⟨h1, fun n => (h2 n).mono ?_⟩
  rintro e w' ⟨M', v, av, g1, g2, g3, g4, g5⟩
  exact ⟨M', v, av, g1, g2, g3, g4, hr _ g5⟩

/-- A contract serves wherever the function is called. -/
theorem PC.callG {F : Fence} (hF : Free F) {W : World} {f : FuncId} {args : List AV} {R : AV → Prop} (h : PC P G f (args.map AV.plain) R) {al : Nat → Prop} {hp0 : Hp} {M : Mem} {w : World} {vs : Array Value} (inv : Inv G M al hp0 W w) (hargs : RelL M.rel args vs.toList) :
    (∃ fn, P.funcs[f]? = some fn ∧ fn.body.isSome = true ∧ fn.name ≠ "runtime.NumGoroutine") ∧
    ∀ n, CallsIn F n P f vs w fun e w' => ∃ M' v av, e = .returned v ∧ M.le M' ∧ Inv G M' al hp0 W w' ∧ M'.rel av v ∧ R av := by
  let M0 : Mem := { I := M.I, L := noL, T := noT, F := fun b => w.heap[b]? }
  have inv0 : Inv G M0 (fun _ => False) (fun _ => none) W w := by
    constructor
    · exact inv.imm
    · exact fun b ob h => h
    · exact inv.os
    · exact inv.tape
    · exact inv.out
    · exact fun key _ => ⟨rfl, rfl⟩
    · intro key blk h; cases h
    · intro k1 k2 b1 b2 b h; cases h
    · exact inv.glob
    · intros; trivial
  have hargs0 : RelL (Rel M0.I noL noT) (args.map AV.plain) vs.toList := by
    refine ⟨by simpa using hargs.1, fun i a v h1 h2 => ?_⟩
    rw [List.getElem?_map] at h1
    cases ha : args[i]? with
    | none => rw [ha] at h1; cases h1
    | some a0 =>
      rw [ha] at h1
      simp only [Option.map_some, Option.some.injEq] at h1
      subst h1
      exact (hargs.2 i a0 v ha h2).plain
  obtain ⟨g1, g2⟩ := h F.plain ⟨hF.fn, hF.depth⟩ rfl W M0 w vs rfl rfl inv0 hargs0
  replace g2 : ∀ n, CallsIn F n P f vs w _ := g2
  refine ⟨g1, fun n => (g2 n).mono ?_⟩
  rintro e w' ⟨M', v, av, rfl, hle, inv', hv, hR⟩
  have hold : ∀ b ob, w.heap[b]? = some ob → w'.heap[b]? = some ob := fun b ob hb => inv'.far b ob (hle.F b ob hb)
  have hIold : ∀ b o, b < w.heap.size → M'.I b o = M.I b o := fun b o hb => hle.IF b o (by show w.heap[b]? ≠ none; simp [hb])
  let M2 : Mem := { I := M'.I, L := M.L, T := M.T, F := M.F }
  have hle2 : M.le M2 := ⟨fun b o v hb => hle.I b o v hb, fun _ _ h => h, fun _ _ h => h, fun _ _ h => h, fun b o hf => by
    cases hb : M.F b with
    | none => exact absurd hb hf
    | some ob => exact hIold b o (inv.lt_F hb)⟩
  refine ⟨M2, v, av, rfl, hle2, ?_, hv.of_pure, hR⟩
  constructor
  · exact inv'.imm
  · exact fun b ob hb => hold b ob (inv.far b ob hb)
  · exact inv'.os
  · exact inv'.tape
  · exact inv'.out
  · exact inv.fresh
  · intro key blk hb
    obtain ⟨b, ob, k1, k2, k3, k4, k5⟩ := inv.live key blk hb
    have hlt := lt_of_heap k2
    refine ⟨b, ob, k1, hold b ob k2, k3.grow hle2 (fun ht b' e z hT o ho => ?_), k4, fun ht o => ?_⟩
    · cases blk <;> simp [Blk.isTok] at ht
      cases ob <;> simp only [LiveAs] at k3
      obtain ⟨_, b1, e1, z1, r1, _, _, r4⟩ := k3
      rw [hT] at r1; cases r1
      have : b = b' := by simpa [Mem.blockOf, Blk.isTok, hT] using k1.symm
      subst this
      show M'.I b o = none
      rw [hIold b o hlt]; exact r4 o ho
    · show M'.I b o = none
      rw [hIold b o hlt]; exact k5 ht o
  · exact inv.inj
  · exact inv'.glob
  · intros; trivial

theorem PC.callOk {F : Fence} (hF : Free F) {W : World} {f : FuncId} {args : List AV} {R : AV → Prop} (h : PC P G f (args.map AV.plain) R) {K : AV → St → Prop} {st : St} (hK : ∀ v, R v → K v st) :
    CallOk F P G W f args K st := by
  intro M w vs inv hargs
  obtain ⟨g1, g2⟩ := h.callG hF inv hargs
  refine ⟨g1, fun n => (g2 n).mono ?_⟩
  rintro e w' ⟨M', v, av, rfl, hle, inv', hv, hR⟩
  exact ⟨M', v, av, st, rfl, hle, inv', hv, hK av hR⟩

/-! ### The model's own runs as handlers -/
def SH (F : Fence) (P : Program) (G : Nat → Option (List AV)) (W : World) : Hand Prop where
  fail := False
  call := fun f args K st => CallOk F P G W f args K st
  loop := fun c K fr st => CodeOk F P G W (.loop c) K fr st
  yield := fun key args K st => ∀ M w vs, Inv G M (· < st.nx) st.hp W w → RelL M.rel args vs.toList → ∀ l, M.L key = some l →
    ∃ f tmps assign body, (Instr.yield l vs).run P w = .ok (.round l f tmps assign body) w ∧
      ∀ n, RoundIn F n P l f tmps assign body w fun e w' => ∃ M' v av st', e = .returned v ∧ M.le M' ∧ Inv G M' (· < st'.nx) st'.hp W w' ∧ M'.rel av v ∧ K av st'
  rangeF := fun f ps assign body K fr st => CodeOk F P G W (.rangeFunc f ps assign body) K fr st
  draw := fun ops K fr st => ∀ id, CodeOk F P G W (.region id ops true) (fun x fr st => match x with | .normal => K fr st | _ => False) fr st
  both := fun l => ∀ x ∈ l, x

theorem SH_ok (F : Fence) (W : World) : HandOk F P G W id (SH F P G W) :=
  ⟨fun h => h, fun _ _ _ _ h => h, fun _ _ _ _ h => h, fun _ _ _ _ h => h, fun _ _ _ _ _ _ _ h => h, fun id _ _ _ _ h => h id, fun _ h => h⟩

theorem PC.of_callOk {f : FuncId} {args : List AV} {R : AV → Prop} (h : ∀ (F : Fence), Free F → F.round = none → ∀ W, CallOk F P G W f args (fun v _ => v.stripR.pureR = true ∧ R v.stripR) st0) : PC P G f args R := by
  intro F hF hro W M w vs hL hT inv hargs
  have hinv : Inv G M (· < st0.nx) st0.hp W w := by
    refine ⟨inv.imm, inv.far, inv.os, inv.tape, inv.out, fun key _ => by rw [hL, hT]; exact ⟨rfl, rfl⟩, fun k b hk => (by cases hk), fun k1 k2 b1 b2 b hk => (by cases hk), inv.glob, fun _ _ _ => trivial⟩
  have hargs' : RelL M.rel args vs.toList := RelL.mono (fun a v hv => hv.of_pure) hargs
  obtain ⟨g1, g2⟩ := h F hF hro W M w vs hinv hargs'
  refine ⟨g1, fun n => (g2 n).mono ?_⟩
  rintro e w' ⟨M', v, av, st', rfl, hle, inv', hv, hp, hR⟩
  refine ⟨M', v, av.stripR, rfl, hle, ?_, Rel.pureR (Rel.stripR hv) hp, hR⟩
  exact (inv'.more fun _ _ => trivial).less fun k b hk => by cases hk

/-- How a contract is proved: the body, run by the abstract machine, calls and loops standing for the model's own. -/
theorem PC.introH (H : Fence → World → Hand Prop) (hH : ∀ F, Free F → ∀ W, HandOk F P G W id (H F W)) {f : FuncId} {fn : Func} {c : Code} {args : List AV} {R : AV → Prop} (hf : P.funcs[f]? = some fn) (hb : fn.body = some c) (hname : fn.name ≠ "runtime.NumGoroutine")
    (h : ∀ (F : Fence), Free F → F.round = none → ∀ W, crun P G (H F W) c (kleave P (H F W) fn.results.toList (fun v st => (v, st)) fun v _ => v.stripR.pureR = true ∧ R v.stripR) (fr0 fn.ntmps args) st0) : PC P G f args R := by
  refine PC.of_callOk fun F hF hro W => ?_
  have hrun := h F hF hro W
  · intro M w vs inv hargs
    refine ⟨⟨fn, hf, by simp [hb], hname⟩, fun n => ?_⟩
    refine callsIn_of_wp_marks hf hb (hF.fn f) ?_ hro
    have sim : Sim G W M (fr0 fn.ntmps args) st0 { tmps := vs ++ Array.replicate (fn.ntmps - vs.size) undef, defers := [] } w := by
      refine ⟨inv, ?_, ⟨rfl, fun i key hi => by simp [fr0] at hi⟩⟩
      have hsz : vs.size = args.length := by have := hargs.1; simp at this; exact this.symm
      refine ⟨by simp [fr0, hsz], fun i h1 h2 => ?_⟩
      simp only [fr0, List.length_append, List.length_replicate] at h1
      by_cases hi : i < args.length
      · simp only [fr0]
        rw [List.getElem_append_left hi, Array.getElem_append_left (by omega)]
        exact hargs.getA i hi (by omega)
      · simp only [fr0]
        rw [List.getElem_append_right (by omega)]
        simp only [List.getElem_replicate]
        exact .undef
    refine wpIn_mono (crun_sound hF (hH F hF W) c _ _ _ hrun M _ w n sim) ?_
    rintro e a w' ⟨M', fr, st', x, hM, sim', rfl, hk⟩
    have leave : kleave P (H F W) fn.results.toList (fun v st => (v, st)) (fun v _ => v.stripR.pureR = true ∧ R v.stripR) .ret fr st' → LeavesInM F n P fn a.tmps (fun e w' => ∃ (M' : Mem) (v : Value) (av : AV) (st' : St), e = .returned v ∧ M.le M' ∧ Inv G M' (· < st'.nx) st'.hp W w' ∧ M'.rel av v ∧ (av.stripR.pureR = true ∧ R av.stripR)) a.defers .returning w' := by
      intro hk
      simp only [kleave] at hk
      split at hk
      · rename_i st'' hst
        split at hk
        · rename_i v hv
          refine closeMarks_ok rfl fr.marks a.defers st' st'' w' v sim'.rs sim'.inv sim'.defers.1 sim'.defers.2 hst hv ?_
          intro u w2 inv2 hu
          exact ⟨M', u, v, st'', rfl, hM, inv2, hu, hk⟩
        · exact absurd hk (hH F hF W).fail
      · exact absurd hk (hH F hF W).fail
    cases x with
    | normal => exact leave hk
    | ret => exact leave hk
    | exit id => exact absurd hk (hH F hF W).fail
    | goto l => exact absurd hk (hH F hF W).fail

end Go.Proofs.Pv
