/-
  The abstract machine, part T: open proofs with all handlers: loops by invariant or round by round, ranges over functions, calls gone into, and calls that are handed what a block holds now.
  Conditions: the invariant 'Inv'; the program follows mixed orders.
-/
import Derived.Test.YtgjjcdjcpbjdgaaGreatDoorPvW
import Derived.Test.YtgjjcdjcpbjdgaaGreatDoorPvX
namespace Go.Proofs.Pv
set_option linter.unusedVariables false
set_option linter.unusedSimpArgs false
open Go
variable {P : Program} {G : Nat → Option (List AV)}

/-! ### Values as they stand at this moment -/
/-- What leads to blocks that may change is told as what they hold now. -/
def AV.now (hp : Hp) : Nat → AV → AV
  | 0, x => x.plain0
  | d + 1, x => match x with
    | .ptr key off => (match hp key with
      | some (.cells cs) => .vp ((cs.drop off).map (AV.now hp d))
      | _ => .undef)
    | .msl key off n k => (match hp key with
      | some (.cells cs) => if 0 < k ∧ off + n * k ≤ cs.length ∧ ((cs.drop off).map (AV.now hp d)).all AV.pure = true then .sl k (chunks (!(Nat.beq k 1)) k n ((cs.drop off).map (AV.now hp d))) .none else .undef
      | _ => .undef)
    | .fn f first cap => .fn f (first.map (AV.now hp d)) (cap.map (AV.now hp d))
    | .agg cs => .agg (cs.map (AV.now hp d))
    | x => x.plain0

theorem chunks_flat {k : Nat} (hk : 0 < k) {n : Nat} {cs : List AV} (hl : n * k ≤ cs.length) (hp : ∀ x ∈ cs, x.pure = true) :
    ∀ j i (hj : j < (chunks (!(Nat.beq k 1)) k n cs).length) (hi : i < ((chunks (!(Nat.beq k 1)) k n cs)[j]).cells.length), ∃ h : j * k + i < cs.length, ((chunks (!(Nat.beq k 1)) k n cs)[j]).cells[i] = cs[j * k + i] := by
  induction n generalizing cs with
  | zero => intro j i hj; simp [chunks] at hj
  | succ n ih =>
    intro j i hj hi
    have hl' : n * k + k ≤ cs.length := by rw [← Nat.succ_mul]; exact hl
    have hrow : (if (!(Nat.beq k 1)) = true then AV.agg (cs.take k) else cs.headD .undef).cells = cs.take k := by
      by_cases e : k = 1
      · subst e
        match cs, hl', hp with
        | [], hl', _ => simp at hl'
        | c :: cs, _, hp =>
          have hc := AV.one_of_pure (hp c (by simp))
          simp only [show Nat.beq 1 1 = true from rfl, Bool.not_true, Bool.false_eq_true, if_false, List.headD_cons, List.take_succ_cons, List.take_zero]
          cases c <;> first | rfl | simp [AV.one] at hc
      · have hb : Nat.beq k 1 = false := by
          cases h : Nat.beq k 1 with
          | false => rfl
          | true => exact absurd (Nat.eq_of_beq_eq_true h) e
        simp [hb, AV.cells]
    cases j with
    | zero =>
      simp only [chunks, List.getElem_cons_zero] at hi ⊢
      have hi' : i < (cs.take k).length := by rw [← hrow]; exact hi
      have hik : i < k := by simp at hi'; omega
      refine ⟨by omega, ?_⟩
      have : ∀ (l : List AV) (e : l = cs.take k) (h : i < l.length), l[i] = cs[0 * k + i]'(by omega) := by
        intro l e h; subst e; simp
      exact this _ hrow hi
    | succ j =>
      simp only [chunks, List.getElem_cons_succ] at hi ⊢
      obtain ⟨h1, h2⟩ := ih (cs := cs.drop k) (by simp; omega) (fun x hx => hp x (List.mem_of_mem_drop hx)) j i (by simpa [chunks] using hj) hi
      have hlen : (cs.drop k).length = cs.length - k := by simp
      refine ⟨by rw [Nat.succ_mul]; omega, ?_⟩
      rw [h2, List.getElem_drop]
      congr 1
      rw [Nat.succ_mul]; omega

theorem now_rel {M : Mem} {al : Nat → Prop} {hp : Hp} {W w : World} (inv : Inv G M al hp W w) : ∀ (d : Nat) {a : AV} {v : Value}, M.rel a v → Rel (imm w) noL noT (a.now hp d) v
  | 0, a, v, h => by
    have h' : Rel (imm w) M.L M.T a v := Rel.mono0 (fun b o x hx => inv.imm b o x hx) h (fun _ _ h => h) (fun _ _ h => h)
    exact h'.plain0
  | d + 1, a, v, h => by
    have h' : Rel (imm w) M.L M.T a v := Rel.mono0 (fun b o x hx => inv.imm b o x hx) h (fun _ _ h => h) (fun _ _ h => h)
    have ih := fun {a v} => @now_rel M al hp W w inv d a v
    cases a with
    | ptr key off =>
      simp only [AV.now]
      split
      · rename_i cs hk
        cases h with
        | @ptr _ _ _ _ b hL =>
        obtain ⟨b', ob, g1, g2, g3, g4, g5⟩ := inv.live key _ hk
        have hb : b' = b := by simpa [Mem.blockOf, Blk.isTok, hL] using g1.symm
        subst hb
        cases ob <;> simp only [LiveAs] at g3
        rename_i c el fr
        obtain ⟨rfl, k1, k2, _⟩ := g3
        refine .vp (fun q => c.getD (off + q) undef) (fun q hq => ?_) (fun i hi => ?_)
        · simp only [List.length_map, List.length_drop] at hq
          have hq' : off + q < c.size := by omega
          simp only [imm]
          rw [cell?_of_heap g2]
          simp [hq']
        · simp only [List.length_map, List.length_drop] at hi
          have hq' : off + i < c.size := by omega
          have := ih (k2 (off + i) (by omega) hq')
          simpa [hq'] using this
      · exact .undef
    | msl key off n k =>
      simp only [AV.now]
      split
      · rename_i cs hk
        split
        · rename_i hc
          obtain ⟨hk0, hle, hpure⟩ := hc
          rw [List.all_eq_true] at hpure
          cases h with
          | @msl _ _ _ _ _ _ b cap z hL hT hz hcap =>
          obtain ⟨b', ob, g1, g2, g3, g4, g5⟩ := inv.live key _ hk
          have hb : b' = b := by simpa [Mem.blockOf, Blk.isTok, hL] using g1.symm
          subst hb
          cases ob <;> simp only [LiveAs] at g3
          rename_i c el fr
          obtain ⟨rfl, k1, k2, _⟩ := g3
          have hl : n * k ≤ ((cs.drop off).map (AV.now hp d)).length := by simp; omega
          have hlen : (chunks (!(Nat.beq k 1)) k n ((cs.drop off).map (AV.now hp d))).length = n := chunks_len n _
          have key := Rel.sl (I := imm w) (L := noL) (T := noT) (k := k) (c := cap) (A := some ⟨b', off, none⟩) (rows := chunks (!(Nat.beq k 1)) k n ((cs.drop off).map (AV.now hp d))) (t := .none) (b := b') (o := off) (fun q => c.getD (off + q) undef)
            (by rw [hlen]; exact hcap) (fun _ => rfl) (fun q hq => by
              rw [hlen] at hq
              have hq' : off + q < c.size := by omega
              simp only [imm]
              rw [cell?_of_heap g2]
              simp [hq']) (fun r hr => ((chunks_cells hk0 n _ hl hpure).1 r hr).1) (fun r hr => ((chunks_cells hk0 n _ hl hpure).1 r hr).2)
            (fun j i hj hi => by
              obtain ⟨h1, h2⟩ := chunks_flat hk0 hl hpure j i hj hi
              rw [h2]
              simp only [List.length_map, List.length_drop] at h1
              have hq' : off + (j * k + i) < c.size := by omega
              have := ih (k2 (off + (j * k + i)) (by omega) hq')
              simpa [hq'] using this) trivial
          rw [hlen] at key
          exact key
        · exact .undef
      · exact .undef
    | fn f first cap =>
      simp only [AV.now]
      cases h with
      | @fn _ _ _ _ _ fs cs hf hc h1 h2 =>
      exact .fn (by simpa using hf) (by simpa using hc) (fun i h h' => by simpa using ih (h1 i (by simpa using h) h')) (fun i h h' => by simpa using ih (h2 i (by simpa using h) h'))
    | agg cells =>
      simp only [AV.now]
      cases h with
      | agg hs hr => exact .agg (by simpa using hs) (fun i h h' => by simpa using ih (hr i (by simpa using h) h'))
    | undef => exact h'.plain0
    | int => exact h'.plain0
    | bool => exact h'.plain0
    | str => exact h'.plain0
    | sl => exact h'.plain0
    | vp => exact h'.plain0
    | nilp => exact h'.plain0
    | yld => exact h'.plain0
    | nilf => exact h'.plain0
    | map => exact h'.plain0
    | nilm => exact h'.plain0
    | tup => exact h'.plain0
    | nili => exact h'.plain0
    | ifc => exact h'.plain0

/-- Data that leads nowhere. -/
def AV.flat0 : AV → Bool
  | .int _ _ | .bool _ | .str _ | .nilp | .nilf | .nilm | .nili | .sl _ [] .none => true
  | _ => false
def AV.flat1 : AV → Bool
  | .agg cs => cs.all AV.flat0
  | x => x.flat0
def AV.flat : AV → Bool
  | .tup vs => vs.all AV.flat1
  | x => x.flat1
theorem Rel.flat0 {I I' : Imm} {L L' : Lo} {T T' : To} {a : AV} {v : Value} (h : Rel I L T a v) (hf : a.flat0 = true) : Rel I' L' T' a v := by
  cases h with
  | int => exact .int
  | bool => exact .bool
  | str => exact .str
  | nilp => exact .nilp
  | nilf => exact .nilf
  | nilm => exact .nilm
  | nili => exact .nili
  | @sl _ _ k c A rows t b o vs hc hA hI hk hP hR ht =>
    match rows, t, hf with
    | [], .none, _ => exact .sl (b := b) (o := o) vs hc (fun h => absurd rfl h) (fun q hq => by simp at hq) (fun r hr => by simp at hr) (fun r hr => by simp at hr) (fun j i hj => by simp at hj) trivial
  | undef => simp [AV.flat0] at hf
  | msl => simp [AV.flat0] at hf
  | vp => simp [AV.flat0] at hf
  | ptr => simp [AV.flat0] at hf
  | fn => simp [AV.flat0] at hf
  | yld => simp [AV.flat0] at hf
  | map => simp [AV.flat0] at hf
  | agg => simp [AV.flat0] at hf
  | tup => simp [AV.flat0] at hf
  | ifc => simp [AV.flat0] at hf
theorem Rel.flat1 {I I' : Imm} {L L' : Lo} {T T' : To} {a : AV} {v : Value} (h : Rel I L T a v) (hf : a.flat1 = true) : Rel I' L' T' a v := by
  by_cases hg : ∃ cs, a = .agg cs
  · obtain ⟨cs, rfl⟩ := hg
    simp only [AV.flat1, List.all_eq_true] at hf
    cases h with
    | agg hs hr => exact .agg hs (fun i h h' => (hr i h h').flat0 (hf _ (List.getElem_mem h)))
  · have : a.flat1 = a.flat0 := by cases a <;> first | rfl | exact absurd ⟨_, rfl⟩ hg
    rw [this] at hf; exact h.flat0 hf
theorem Rel.flat {I I' : Imm} {L L' : Lo} {T T' : To} {a : AV} {v : Value} (h : Rel I L T a v) (hf : a.flat = true) : Rel I' L' T' a v := by
  by_cases hg : ∃ cs, a = .tup cs
  · obtain ⟨cs, rfl⟩ := hg
    simp only [AV.flat, List.all_eq_true] at hf
    cases h with
    | tup hs hr => exact .tup hs (fun i h h' => (hr i h h').flat1 (hf _ (List.getElem_mem h)))
  · have : a.flat = a.flat1 := by cases a <;> first | rfl | exact absurd ⟨_, rfl⟩ hg
    rw [this] at hf; exact h.flat1 hf

/-- A contract serves a call that is handed what blocks hold now, if what it answers leads nowhere. -/
theorem PC.callN {F : Fence} (hF : Free F) {W : World} {f : FuncId} {args : List AV} {R : AV → Prop} {hp0 : Hp} (d : Nat) (h : PC P G f (args.map (AV.now hp0 d)) R) (hfl : ∀ v, R v → v.flat = true) {al : Nat → Prop} {M : Mem} {w : World} {vs : Array Value} (inv : Inv G M al hp0 W w) (hargs : RelL M.rel args vs.toList) :
    (∃ fn, P.funcs[f]? = some fn ∧ fn.body.isSome = true ∧ fn.name ≠ "runtime.NumGoroutine") ∧
    ∀ n, CallsIn F n P f vs w fun e w' => ∃ v av, e = .returned v ∧ Inv G M al hp0 W w' ∧ M.rel av v ∧ R av := by
  let M0 : Mem := { I := imm w, L := noL, T := noT, F := fun b => w.heap[b]? }
  have inv0 : Inv G M0 (fun _ => False) (fun _ => none) W w := by
    constructor
    · exact fun b o v h => h
    · exact fun b ob h => h
    · exact inv.os
    · exact inv.tape
    · exact inv.out
    · exact fun key _ => ⟨rfl, rfl⟩
    · intro key blk h; cases h
    · intro k1 k2 b1 b2 b h; cases h
    · exact fun g cells hg => Rel.mono0 (fun b o x hx => inv.imm b o x hx) (inv.glob g cells hg) (fun _ _ h => h) (fun _ _ h => h)
    · intros; trivial
  have hargs0 : RelL (Rel M0.I noL noT) (args.map (AV.now hp0 d)) vs.toList := by
    refine ⟨by simpa using hargs.1, fun i a v h1 h2 => ?_⟩
    rw [List.getElem?_map] at h1
    cases ha : args[i]? with
    | none => rw [ha] at h1; cases h1
    | some a0 =>
      rw [ha] at h1
      simp only [Option.map_some, Option.some.injEq] at h1
      subst h1
      exact now_rel inv d (hargs.2 i a0 v ha h2)
  obtain ⟨g1, g2⟩ := h F.plain ⟨hF.fn, hF.depth⟩ rfl W M0 w vs rfl rfl inv0 hargs0
  replace g2 : ∀ n, CallsIn F n P f vs w _ := g2
  refine ⟨g1, fun n => (g2 n).mono ?_⟩
  rintro e w' ⟨M', v, av, rfl, hle, inv', hv, hR⟩
  have hold : ∀ b ob, w.heap[b]? = some ob → w'.heap[b]? = some ob := fun b ob hb => inv'.far b ob (hle.F b ob hb)
  refine ⟨v, av, rfl, ?_, hv.flat (hfl _ hR), hR⟩
  constructor
  · exact fun b o x hx => inv'.imm b o x (hle.I b o x (inv.imm b o x hx))
  · exact fun b ob hb => hold b ob (inv.far b ob hb)
  · exact inv'.os
  · exact inv'.tape
  · exact inv'.out
  · exact inv.fresh
  · intro key blk hb
    obtain ⟨b, ob, k1, k2, k3, k4, k5⟩ := inv.live key blk hb
    exact ⟨b, ob, k1, hold b ob k2, k3, k4, k5⟩
  · exact inv.inj
  · exact inv.glob
  · intros; trivial

theorem PC.callOkN {F : Fence} (hF : Free F) {W : World} {f : FuncId} {args : List AV} {R : AV → Prop} {st : St} (d : Nat) (h : PC P G f (args.map (AV.now st.hp d)) R) (hfl : ∀ v, R v → v.flat = true) {K : AV → St → Prop} (hK : ∀ v, R v → K v st) :
    CallOk F P G W f args K st := by
  intro M w vs inv hargs
  obtain ⟨g1, g2⟩ := h.callN hF d hfl inv hargs
  refine ⟨g1, fun n => (g2 n).mono ?_⟩
  rintro e w' ⟨v, av, rfl, inv', hv, hR⟩
  exact ⟨M, v, av, st, rfl, M.le_refl, inv', hv, hK av hR⟩

/-! ### All handlers -/
/-- What follows a round that is gone through. -/
def unrollK (P : Program) (G : Nat → Option (List AV)) (H : Hand Prop) (c : Code) (K : Kont Prop) (m : Nat) : Kont Prop := fun x fr st => match x with
  | .normal => cloop P G H c K m fr st
  | x => K x fr st

/-- The handlers of an open proof, d deep: loops by an invariant or round by round; ranges over functions gone into. -/
def OX (F : Fence) (P : Program) (G : Nat → Option (List AV)) (W : World) : Bool → Nat → Hand Prop
  | _, 0 => { SH F P G W with loop := fun _ _ _ _ => False, draw := fun _ _ _ _ => False, rangeF := fun _ _ _ _ _ _ _ => False, yield := fun _ _ _ _ => False }
  | rng, d + 1 => { SH F P G W with
      loop := fun c K fr st => (∃ (mask : List Bool) (I : Nat → Fr → St → Prop), (∃ m, I m (fr.fgt mask) st) ∧ ∀ m fr st, I m fr st → crun P G (OX F P G W rng d) c (loopS K mask m I) fr st) ∨ ∃ n, cloop P G (OX F P G W rng d) c K n fr st
      rangeF := fun f ps assign body K fr st => rng = true ∧ crangeF P G (OX F P G W true d) f ps assign body K fr st
      yield := fun key args K st => cyield P G (OX F P G W false d) key args K st
      draw := fun ops K fr st => roOk ops = true ∧ rops P G ops (fun s => K ⟨s, fr.marks⟩ ⟨st.h, st.nx + ops.size⟩) st.hp ops.toList fr.s }

theorem OX_ok {F0 : Fence} (hmix : P.follows .mixedOrders = true) (W : World) : ∀ (d : Nat) (rng : Bool) (F : Fence), Free F → F.plain = F0 → (rng = true → F.round = none) → HandOk F P G W id (OX F0 P G W rng d) := by
  intro d
  induction d with
  | zero =>
    intro rng F hF h0 hr
    have hcall : ∀ f args K st, CallOk F0 P G W f args K st → CallOk F P G W f args (fun v st => K v st) st := by
      intro f args K st h M w vs inv hargs
      subst h0
      obtain ⟨h1, h2⟩ := h M w vs inv hargs
      exact ⟨h1, fun n => h2 n⟩
    cases rng <;> exact ⟨fun h => h, hcall, fun _ _ _ _ h => h.elim, fun _ _ _ _ h => h.elim, fun _ _ _ _ _ _ _ h => h.elim, fun id _ _ _ _ h => h.elim, fun _ h => h⟩
  | succ d ih =>
    intro rng F hF h0 hr
    have hcall : ∀ f args K st, CallOk F0 P G W f args K st → CallOk F P G W f args (fun v st => K v st) st := by
      intro f args K st h M w vs inv hargs
      subst h0
      obtain ⟨h1, h2⟩ := h M w vs inv hargs
      exact ⟨h1, fun n => h2 n⟩
    refine ⟨fun h => h, hcall, fun c K fr st h => ?_, fun key args K st h => ?_, fun f ps assign body K fr st h => ?_, fun i ops K fr st h => ?_, fun _ h => h⟩
    · rcases h with ⟨mask, I, ⟨m, hm⟩, hround⟩ | ⟨n, hn⟩
      · intro M a w n sim
        let J : Nat → Act → World → Prop := fun m a w => ∃ M' fr st, M.le M' ∧ Sim G W M' fr st a w ∧ I m (fr.fgt mask) st
        refine wpIn_loop (fun a w => ∃ m, J m a w) (fun a w => least fun m => J m a w) ⟨m, M, fr, st, M.le_refl, sim, hm⟩ ?_
        rintro a w ⟨m0, hm0⟩
        obtain ⟨h1, h2⟩ := least_spec (p := fun m => J m a w) hm0
        obtain ⟨M', fr', st', g1, g2, g3⟩ := h1
        refine wpIn_mono (crun_sound hF (ih rng F hF h0 hr) c _ _ _ (hround _ _ st' g3) M' a w n (g2.fgt mask)) ?_
        rintro e a' w' ⟨M2, fr2, st2, x, k1, k2, rfl, k4⟩
        cases x with
        | normal =>
          obtain ⟨m', hlt, hI⟩ := k4
          have hJ : J m' a' w' := ⟨M2, fr2, st2, Mem.le_trans g1 k1, k2, hI⟩
          exact ⟨⟨m', hJ⟩, Nat.lt_of_le_of_lt ((least_spec (p := fun m => J m a' w') hJ).2 m' hJ) hlt⟩
        | exit id => exact ⟨M2, fr2, st2, .exit id, Mem.le_trans g1 k1, k2, rfl, k4⟩
        | goto l => exact ⟨M2, fr2, st2, .goto l, Mem.le_trans g1 k1, k2, rfl, k4⟩
        | ret => exact ⟨M2, fr2, st2, .ret, Mem.le_trans g1 k1, k2, rfl, k4⟩
      · exact cloop_ok hF (ih rng F hF h0 hr) n fr st hn
    · exact cyield_ok hF (fun l => ih false (F.inRound l) ⟨hF.fn, hF.depth⟩ h0 (fun h => by cases h)) (ih false F hF h0 (fun h => by cases h)).fail h
    · obtain ⟨rfl, h⟩ := h
      exact crangeF_ok hF (hr rfl) (ih true F hF h0 hr) h
    · exact ro_ok hF hmix h.1 h.2

open Classical in
/-- How a contract is proved. -/
theorem PC.introX (d : Nat) (hmix : P.follows .mixedOrders = true) {f : FuncId} {fn : Func} {c : Code} {args : List AV} {R : AV → Prop} (hf : P.funcs[f]? = some fn) (hb : fn.body = some c) (hname : fn.name ≠ "runtime.NumGoroutine")
    (h : ∀ (F : Fence), Free F → F.round = none → ∀ (W : World), crun P G (OX F P G W true d) c (kleave P (OX F P G W true d) fn.results.toList (fun v st => (v, st)) fun v _ => v.stripR.pureR = true ∧ R v.stripR) (fr0 fn.ntmps args) st0) : PC P G f args R := by
  refine PC.introH (fun F W => if F.round = none then OX F.plain P G W true d else SH F P G W) (fun F hF W => ?_) hf hb hname fun F hF hro W => ?_
  · by_cases hro : F.round = none
    · rw [if_pos hro]; exact OX_ok hmix W d true F hF rfl (fun _ => hro)
    · rw [if_neg hro]; exact SH_ok F W
  · rw [if_pos hro]
    exact h F.plain ⟨hF.fn, hF.depth⟩ rfl W

section
variable {F : Fence} {W : World} {rng : Bool} {d : Nat}
theorem OX_call {f : FuncId} {args : List AV} {K : AV → St → Prop} {st : St} (h : CallOk F P G W f args K st) : (OX F P G W rng d).call f args K st := by
  cases d with
  | zero => cases rng <;> exact h
  | succ d => exact h
/-- A contract at a call. -/
theorem PC.useX (hF : Free F) {f : FuncId} {args args' : List AV} {R : AV → Prop} (h : PC P G f args' R) (he : args.map AV.plain = args') {K : AV → St → Prop} {st : St} (hK : ∀ v, R v → K v st) :
    (OX F P G W rng d).call f args K st := by
  subst he
  exact OX_call (PC.callOk hF h hK)
/-- A contract at a call that is handed what blocks hold now. -/
theorem PC.useN (hF : Free F) (e : Nat) {f : FuncId} {args args' : List AV} {R : AV → Prop} {st : St} (h : PC P G f args' R) (hfl : ∀ v, R v → v.flat = true) (he : args.map (AV.now st.hp e) = args') {K : AV → St → Prop} (hK : ∀ v, R v → K v st) :
    (OX F P G W rng d).call f args K st := by
  subst he
  exact OX_call (PC.callOkN hF e h hfl hK)
/-- A call that is gone into. -/
theorem OX_inline (hF : Free F) (hro : F.round = none) (hmix : P.follows .mixedOrders = true) (hname : ∀ (f : Nat) (fn : Func), P.funcs[f]? = some fn → fn.name ≠ "runtime.NumGoroutine") (d' : Nat) {f : FuncId} {fn : Func} {c : Code} {args : List AV} {K : AV → St → Prop} {st : St} (hf : P.funcs[f]? = some fn) (hb : fn.body = some c)
    (h : crun P G (OX F P G W true d') c (kleave P (OX F P G W true d') fn.results.toList (fun v st => (v, st)) K) (fr0 fn.ntmps args) st) : (OX F P G W rng d).call f args K st := by
  have hpl : F.plain = F := by cases F; simp only [Fence.plain] at hro ⊢; simp_all
  refine OX_call (afunc_ok (ok := id) hF hro hname (OX_ok hmix W d' true F hF hpl (fun _ => hro)) (fin := fun _ _ v st => (v, st)) (fun _ _ _ _ _ _ _ _ inv hv => ⟨_, Mem.le_refl _, inv, hv⟩) ?_)
  unfold afunc
  rw [hf]
  simp only [hb]
  exact h
theorem OX_draw' {ops : Array Oper} {K : Fr → St → Prop} {s : List AV} {marks : List Nat} {h : List (Nat × Blk)} {nx : Nat} (n : Nat) (hn : ops.size = n) (h1 : roOk ops = true) (h2 : srops P G (ops.toList.map (·.dst)) (drawK K marks ⟨h, nx + n⟩) (hget h) (ops.toList.map slim) s) :
    (OX F P G W rng (d + 1)).draw ops K ⟨s, marks⟩ ⟨h, nx⟩ := by
  subst hn
  refine ⟨h1, ?_⟩
  rw [rops_srops]
  exact h2
theorem OX_loop' {c : Code} {K : Kont Prop} {fr : Fr} {st : St} (mask : List Bool) (I : Nat → Fr → St → Prop) (m : Nat) (h0 : I m (fr.fgt mask) st)
    (h : ∀ m fr st, I m fr st → crun P G (OX F P G W rng d) c (loopS K mask m I) fr st) : (OX F P G W rng (d + 1)).loop c K fr st := .inl ⟨mask, I, ⟨m, h0⟩, h⟩
theorem OX_unroll {c : Code} {K : Kont Prop} {fr : Fr} {st : St} (n : Nat) (h : cloop P G (OX F P G W rng d) c K n fr st) : (OX F P G W rng (d + 1)).loop c K fr st := .inr ⟨n, h⟩
theorem cloop_succ {H : Hand Prop} {c : Code} {K : Kont Prop} {m : Nat} {fr : Fr} {st : St} : cloop P G H c K (m + 1) fr st = crun P G H c (unrollK P G H c K m) fr st := rfl
theorem unrollK_normal {H : Hand Prop} {c : Code} {K : Kont Prop} {m : Nat} {fr : Fr} {st : St} : unrollK P G H c K m .normal fr st = cloop P G H c K m fr st := rfl
theorem unrollK_exit {H : Hand Prop} {c : Code} {K : Kont Prop} {m : Nat} {id : Nat} {fr : Fr} {st : St} : unrollK P G H c K m (.exit id) fr st = K (.exit id) fr st := rfl
theorem unrollK_ret {H : Hand Prop} {c : Code} {K : Kont Prop} {m : Nat} {fr : Fr} {st : St} : unrollK P G H c K m .ret fr st = K .ret fr st := rfl
end
end Go.Proofs.Pv
