/-
  The abstract machine, part G: more operations are what the model does: slices, stores, new variables, literals.
  Conditions: the invariant 'Inv' and related slots.
-/
import Derived.Test.YtgjjcdjcpbjdgaaGreatDoorPvF
import Derived.Laws.Tables
import Derived.Great.BuildSlice
namespace Go.Proofs.Pv
set_option linter.unusedVariables false
set_option linter.unusedSimpArgs false
open Go
variable {P : Program} {G : Nat → Option (List AV)} {M : Mem} {al : Nat → Prop} {hp : Hp} {W w : World}

/-! ### Slices -/
/-- A bound that may be absent. -/
def RelO (M : Mem) : Option AV → Option Value → Prop
  | none, none => True
  | some a, some v => M.rel a v
  | _, _ => False

theorem bnd_run {x : Option AV} {vx : Option Value} (hx : RelO M x vx) {d : Nat} {n : Int} (h : bnd x d = some n) :
    (vx = none ∧ x = none ∧ n = d) ∨ ∃ k, vx = some (.int k n) ∧ ∃ k', x = some (.int k' n) := by
  cases x with
  | none => cases vx with
    | none => left; exact ⟨rfl, rfl, by simpa [bnd] using h.symm⟩
    | some v => exact hx.elim
  | some a => cases vx with
    | none => exact hx.elim
    | some v =>
      cases a <;> simp [bnd] at h
      subst h
      have hx' : M.rel (.int _ _) v := hx
      cases hx'
      exact .inr ⟨_, rfl, _, rfl⟩

theorem sliceBound_ok {k : IntKind} {n : Int} {y : Nat} (code : BoundsCode) (h0 : 0 ≤ n) (h1 : n ≤ y) : (Instr.sliceBound (.int k n) y code).run P w = .ok n.toNat w := by
  simp [Instr.sliceBound, asIntOf, h0, h1]

theorem sliceBounds_ok {lo hi : Option AV} {vlo vhi : Option Value} (hlo : RelO M lo vlo) (hhi : RelO M hi vhi) {len cap : Nat} {l h : Int} (el : bnd lo 0 = some l) (eh : bnd hi len = some h)
    (h0 : 0 ≤ l) (h1 : l ≤ h) (h2 : h ≤ cap) (b : Bool) : (Instr.sliceBounds b len cap vlo vhi none).run P w = .ok (l.toNat, h.toNat, cap) w := by
  have a0 : 0 ≤ h := by omega
  rcases bnd_run hlo el with ⟨rfl, _, rfl⟩ | ⟨k, rfl, _⟩ <;> rcases bnd_run hhi eh with ⟨rfl, _, rfl⟩ | ⟨k', rfl, _⟩
  · simp [Instr.sliceBounds]
  · cases b <;> simp [Instr.sliceBounds, sliceBound_ok _ a0 h2]
  · have h1' : l ≤ ((len : Int).toNat : Int) := by omega
    simp at h1'
    cases b <;> simp [Instr.sliceBounds, sliceBound_ok (P := P) (w := w) (k := k) .sliceB h0 h1']
  · have h1' : l ≤ (h.toNat : Int) := by omega
    cases b <;> simp [Instr.sliceBounds, sliceBound_ok (P := P) (w := w) _ a0 h2, sliceBound_ok (P := P) (w := w) (k := k) .sliceB h0 h1']

theorem sliceBounds3_ok {lo hi : Option AV} {vlo vhi : Option Value} (hlo : RelO M lo vlo) (hhi : RelO M hi vhi) {len cap : Nat} {l h m : Int} {km : IntKind} (el : bnd lo 0 = some l) (eh : bnd hi len = some h) (his : hi.isSome = true)
    (h0 : 0 ≤ l) (h1 : l ≤ h) (h2 : h ≤ m) (h3 : m ≤ cap) (b : Bool) : (Instr.sliceBounds b len cap vlo vhi (some (.int km m))).run P w = .ok (l.toNat, h.toNat, m.toNat) w := by
  have a0 : 0 ≤ h := by omega
  have am : 0 ≤ m := by omega
  have h2' : h ≤ (m.toNat : Int) := by omega
  have h1' : l ≤ (h.toNat : Int) := by omega
  rcases bnd_run hhi eh with ⟨rfl, rfl, _⟩ | ⟨k', rfl, _⟩
  · simp at his
  rcases bnd_run hlo el with ⟨rfl, _, rfl⟩ | ⟨k, rfl, _⟩
  · cases b <;> simp [Instr.sliceBounds, sliceBound_ok (P := P) (w := w) _ am h3, sliceBound_ok (P := P) (w := w) _ a0 h2']
  · cases b <;> simp [Instr.sliceBounds, sliceBound_ok (P := P) (w := w) _ am h3, sliceBound_ok (P := P) (w := w) _ a0 h2', sliceBound_ok (P := P) (w := w) (k := k) .slice3C h0 h1']

/-- A part of a slice's rows. -/
theorem Rel.sl_part {I : Imm} {L : Lo} {T : To} {k c : Nat} {rows : List AV} {b o : Nat} (vs : Nat → Value) {A A' : Option Addr} (hA : rows ≠ [] → A = some ⟨b, o, none⟩)
    (hI : ∀ q, q < rows.length * k → I b (o + q) = some (vs q)) (hk : ∀ r ∈ rows, r.cells.length = k) (hP : ∀ r ∈ rows, ∀ x ∈ r.cells, x.pure = true)
    (hR : ∀ j i (hj : j < rows.length) (hi : i < (rows[j]).cells.length), Rel I noL noT ((rows[j]).cells[i]) (vs (j * k + i)))
    (l h : Nat) (h1 : l ≤ h) (h2 : h ≤ rows.length) (hc : h - l ≤ c) (hA' : l < h → A = some ⟨b, o, none⟩ → A' = some ⟨b, o + l * k, none⟩) (tk : Tk)
    (htk : tk = .none ∨ (tk = .full ∧ c = h - l)) : Rel I L T (.sl k ((rows.take h).drop l) tk) (.slice A' (h - l) c) := by
  have hlen : ((rows.take h).drop l).length = h - l := by simp; omega
  rw [← hlen]
  have hget : ∀ j (hj : j < ((rows.take h).drop l).length), ((rows.take h).drop l)[j] = rows[l + j]'(by simp at hj; omega) := fun j hj => by simp
  refine .sl (b := b) (o := o + l * k) (fun q => vs (l * k + q)) (by rw [hlen]; exact hc) (fun hne => ?_) (fun q hq => ?_) (fun r hr => ?_) (fun r hr => ?_) (fun j i hj hi => ?_) ?_
  · have hlt : l < h := by
      rcases Nat.lt_or_ge l h with h' | h'
      · exact h'
      · exact absurd (List.eq_nil_of_length_eq_zero (by rw [hlen]; omega)) hne
    exact hA' hlt (hA (by intro e; rw [e] at h2; simp at h2; omega))
  · rw [hlen] at hq
    rw [Nat.add_assoc]
    refine hI _ ?_
    have : (h - l) * k = h * k - l * k := Nat.sub_mul _ _ _
    have := Nat.mul_le_mul_right k h2
    have := Nat.mul_le_mul_right k h1
    omega
  · exact hk r (List.mem_of_mem_take (List.mem_of_mem_drop hr))
  · exact hP r (List.mem_of_mem_take (List.mem_of_mem_drop hr))
  · have e := hget j hj
    have hj' : l + j < rows.length := by simp at hj; omega
    have := hR (l + j) i hj' (by rw [← e]; exact hi)
    rw [show l * k + (j * k + i) = (l + j) * k + i by rw [Nat.add_mul]; omega]
    simpa only [e] using this
  · rcases htk with rfl | ⟨rfl, hc'⟩
    · trivial
    · show c = _; rw [hlen]; exact hc'

theorem sliceAt_ok {t : TypeId} {x av : AV} {vx : Value} {lo hi mx : Option AV} {vlo vhi vmx : Option Value} (hx : M.rel x vx) (hlo : RelO M lo vlo) (hhi : RelO M hi vhi) (hmx : RelO M mx vmx)
    (h : aslice P t x lo hi mx = some av) : ∃ v, (Instr.sliceAt t vx vlo vhi vmx).run P w = .ok v w ∧ M.rel av v := by
  unfold aslice at h
  split at h
  · rename_i s hu
    split at h
    · rename_i l hh el eh
      split at h
      · rename_i hc
        obtain ⟨h0, h1, h2⟩ := hc
        simp only [Option.some.injEq] at h; subst h
        cases hx
        cases vmx with
        | some v => exact hmx.elim
        | none =>
          have hb := sliceBounds_ok (P := P) (w := w) hlo hhi (cap := s.size) el eh h0 h1 h2 false
          exact ⟨_, by simp [Instr.sliceAt, Instr.slice, run_und hu, hb], .str⟩
      · cases h
    · cases h
  · rename_i e k rows tk hu
    split at h
    · rename_i l hh el eh
      split at h
      · rename_i hc
        obtain ⟨h0, h1, h2, hn⟩ := hc
        cases hx with
        | @sl _ _ _ c A _ _ b o vs hc hA hI hk hP hR ht =>
        split at h
        · cases vmx with
          | some v => exact hmx.elim
          | none =>
            simp only [Option.some.injEq] at h; subst h
            have hb := sliceBounds_ok (P := P) (w := w) hlo hhi (cap := c) el eh h0 h1 (by omega) true
            have hrun : (Instr.sliceAt t (.slice A rows.length c) vlo vhi none).run P w = .ok (.slice (if c = l.toNat then A else A.map (·.add (l.toNat * k))) (hh.toNat - l.toNat) (c - l.toNat)) w := by
              simp [Instr.sliceAt, Instr.slice, run_und hu, hb, run_sizeOf hn]
            refine ⟨_, hrun, ?_⟩
            by_cases hfull : l = 0 ∧ hh = rows.length
            · obtain ⟨rfl, rfl⟩ := hfull
              have e1 : (if c = (0 : Int).toNat then A else A.map (·.add ((0 : Int).toNat * k))) = A := by
                cases A <;> simp [Addr.add]
              rw [e1]
              have e2 : (rows.take ((rows.length : Int)).toNat).drop (0 : Int).toNat = rows := by simp
              rw [e2]
              show Rel M.I M.L M.T _ _
              simpa using Rel.sl vs hc hA hI hk hP hR ht
            · rw [if_neg hfull]
              refine Rel.sl_part vs hA hI hk hP hR l.toNat hh.toNat (by omega) (by omega) (by omega) (fun hlt hA0 => ?_) _ ?_
              · rw [if_neg (by omega), hA0]; simp [Addr.add_none]
              · split
                · rename_i hf
                  obtain ⟨rfl, rfl⟩ := hf
                  exact .inr ⟨rfl, by have : c = rows.length := ht; omega⟩
                · exact .inl rfl
        · rename_i km m
          split at h
          · rename_i hcm
            obtain ⟨his, g1, g2⟩ := hcm
            simp only [Option.some.injEq] at h; subst h
            cases vmx with
            | none => exact hmx.elim
            | some v =>
              have hm' : M.rel (.int km m) v := hmx
              cases hm'
              have hb := sliceBounds3_ok (P := P) (w := w) hlo hhi (cap := c) (km := km) el eh his h0 h1 g1 (by omega) true
              have hrun : (Instr.sliceAt t (.slice A rows.length c) vlo vhi (some (.int km m))).run P w = .ok (.slice (if m.toNat = l.toNat then A else A.map (·.add (l.toNat * k))) (hh.toNat - l.toNat) (m.toNat - l.toNat)) w := by
                simp [Instr.sliceAt, Instr.slice, run_und hu, hb, run_sizeOf hn]
              refine ⟨_, hrun, ?_⟩
              refine Rel.sl_part vs hA hI hk hP hR l.toNat hh.toNat (by omega) (by omega) (by omega) (fun hlt hA0 => ?_) _ ?_
              · rw [if_neg (by omega), hA0]; simp [Addr.add_none]
              · split
                · exact .inr ⟨rfl, by omega⟩
                · exact .inl rfl
          · cases h
        · cases h
      · cases h
    · cases h
  · rename_i e key off n k hu
    split at h
    · rename_i l hh el eh
      split at h
      · rename_i hc
        obtain ⟨h0, h1, h2, h3, hn⟩ := hc
        simp only [Option.some.injEq] at h; subst h
        cases hx with
        | @msl _ _ _ _ _ _ b c z hL hT hz hc =>
          cases vmx with
          | some v => exact hmx.elim
          | none =>
            have hb := sliceBounds_ok (P := P) (w := w) hlo hhi (cap := c) el eh h0 h1 (by omega) true
            have hne : c ≠ l.toNat := by omega
            have hrun : (Instr.sliceAt t (.slice (some ⟨b, off, none⟩) n c) vlo vhi none).run P w = .ok (.slice (some ⟨b, off + l.toNat * k, none⟩) (hh.toNat - l.toNat) (c - l.toNat)) w := by
              simp [Instr.sliceAt, Instr.slice, run_und hu, hb, run_sizeOf hn, hne, Addr.add_none]
            exact ⟨_, hrun, .msl hL hT (by
              have h1 : (c - l.toNat) * k = c * k - l.toNat * k := Nat.sub_mul _ _ _
              have h2 : l.toNat * k ≤ c * k := Nat.mul_le_mul_right _ (by omega)
              omega) (by omega)⟩
      · cases h
    · cases h
  · cases h

/-! ### Stores -/
theorem Rel.oneCell {I : Imm} {L : Lo} {T : To} {a : AV} {v : Value} (h : Rel I L T a v) (ho : a.one = true) : v.oneCell' = true := by
  cases h <;> first | rfl | simp [AV.one] at ho

def updH (hp : Hp) : List (Nat × Option Blk) → Hp
  | [] => hp
  | (k, x) :: rest => updH (hpSet hp k x) rest

def RelL (R : AV → Value → Prop) (as : List AV) (vs : List Value) : Prop := as.length = vs.length ∧ ∀ (i : Nat) a v, as[i]? = some a → vs[i]? = some v → R a v
theorem RelL.take {R : AV → Value → Prop} {as : List AV} {vs : List Value} (h : RelL R as vs) (n : Nat) : RelL R (as.take n) (vs.take n) := by
  refine ⟨by simp [h.1], fun i a v h1 h2 => ?_⟩
  rw [List.getElem?_take] at h1 h2
  split at h1
  · rename_i hi; rw [if_pos hi] at h2; exact h.2 i a v h1 h2
  · cases h1
theorem RelL.drop {R : AV → Value → Prop} {as : List AV} {vs : List Value} (h : RelL R as vs) (n : Nat) : RelL R (as.drop n) (vs.drop n) := by
  refine ⟨by simp [h.1], fun i a v h1 h2 => ?_⟩
  rw [List.getElem?_drop] at h1 h2
  exact h.2 _ a v h1 h2
theorem RelL.append {R : AV → Value → Prop} {as bs : List AV} {vs us : List Value} (h : RelL R as vs) (k : RelL R bs us) : RelL R (as ++ bs) (vs ++ us) := by
  refine ⟨by simp [h.1, k.1], fun i a v h1 h2 => ?_⟩
  by_cases hi : i < as.length
  · rw [List.getElem?_append_left hi] at h1
    rw [List.getElem?_append_left (by rw [← h.1]; exact hi)] at h2
    exact h.2 i a v h1 h2
  · rw [List.getElem?_append_right (by omega)] at h1
    rw [List.getElem?_append_right (by rw [← h.1]; omega), ← h.1] at h2
    exact k.2 _ a v h1 h2
theorem RelL.of_get {R : AV → Value → Prop} {as : List AV} {vs : List Value} (h : vs.length = as.length) (k : ∀ i (h : i < as.length) (h' : i < vs.length), R as[i] vs[i]) : RelL R as vs := by
  refine ⟨h.symm, fun i a v h1 h2 => ?_⟩
  obtain ⟨g1, rfl⟩ := List.getElem?_eq_some_iff.1 h1
  obtain ⟨g2, rfl⟩ := List.getElem?_eq_some_iff.1 h2
  exact k i g1 g2
theorem RelL.get {R : AV → Value → Prop} {as : List AV} {vs : List Value} (h : RelL R as vs) (i : Nat) (h1 : i < as.length) (h2 : i < vs.length) : R as[i] vs[i] :=
  h.2 i _ _ (List.getElem?_eq_getElem h1) (List.getElem?_eq_getElem h2)

theorem splice_rel {R : AV → Value → Prop} {cs vs : List AV} {c u : List Value} {off : Nat} (hc : RelL R cs c) (hv : RelL R vs u) :
    RelL R (splice cs off vs) (c.take off ++ u ++ c.drop (off + u.length)) := by
  unfold splice
  rw [hv.1]
  exact ((hc.take off).append hv).append (hc.drop _)

theorem storeAt_ok (inv : Inv G M al hp W w) {t : TypeId} {a v : AV} {va vv : Value} {u : List (Nat × Option Blk)} (ha : M.rel a va) (hv : M.rel v vv) (h : astore P hp t a v = some u) :
    ∃ w', (Instr.storeAt t va vv).run P w = .ok () w' ∧ Inv G M al (updH hp u) W w' := by
  unfold astore at h
  split at h
  · rename_i key off
    split at h
    · rename_i cs n hk hn
      split at h
      · rename_i hc
        obtain ⟨hu, hl, h1, hle⟩ := hc
        simp only [Option.some.injEq] at h; subst h
        cases ha with
        | @ptr _ _ _ _ b hL =>
          obtain ⟨b', ob, g1, g2, g3, g4, g5⟩ := inv.live _ _ hk
          have hb : b' = b := by simpa [Mem.blockOf, Blk.isTok, hL] using g1.symm
          subst hb
          cases ob <;> simp only [LiveAs] at g3
          rename_i c e fr
          obtain ⟨rfl, hs, hr, bz, zz, hTz, hzz⟩ := g3
          have hu' : v ≠ .undef := by intro e; subst e; simp [AV.isUndef] at hu
          obtain ⟨q1, q2⟩ := Rel.cells hv hu'
          have hsz : vv.cells.size = n := by rw [q1, hl]
          have hone : ∀ x ∈ vv.cells.toList, x.oneCell' = true := by
            intro x hx
            obtain ⟨i, hi, rfl⟩ := List.mem_iff_getElem.1 hx
            simp at hi
            have := q2 i (by omega) hi
            refine Rel.oneCell (by simpa using this) ?_
            exact (List.all_eq_true.1 h1) _ (List.getElem_mem _)
          have hst := run_storeCells_at P b' off e vv.cells.toList 0 c w g2 (by simp; omega) hone
          simp only [Nat.add_zero] at hst
          have hrel : RelL (Rel M.I M.L M.T) (splice cs off v.cells) ((c.toList.take cs.length).take off ++ vv.cells.toList ++ (c.toList.take cs.length).drop (off + vv.cells.toList.length)) :=
            splice_rel (RelL.of_get (by simp; omega) (fun i h h' => by have := hr i h (by omega); rw [List.getElem_take]; rwa [← Array.getElem_toList] at this))
              (RelL.of_get (by simpa using q1) (fun i h h' => by have := q2 i h (by simpa using h'); rwa [← Array.getElem_toList] at this))
          refine ⟨w.setRow b' (c.toList.take off ++ vv.cells.toList ++ c.toList.drop (off + vv.cells.toList.length)).toArray, ?_, ?_⟩
          · simp only [Instr.storeAt, Instr.sureAddr, Sem.run_bind, Sem.run_pure, Result.andThen_ok, storeVar, run_sizeOf hn, hsz, ne_eq, not_true_eq_false, if_false]
            exact hst
          refine inv.turn (old := .cells cs) (new := .cells (splice cs off v.cells)) hk hL rfl rfl rfl rfl rfl (fun k hk' => setRow_other w b' k _ hk') (setRow_heap w b' c _ e (0, 0) g2) ?_
          have hlen : (splice cs off v.cells).length = cs.length := by simp [splice]; omega
          refine ⟨rfl, by rw [hlen]; simp; omega, fun i h1' h2' => ?_, bz, zz, hTz, by simp; omega⟩
          show Rel M.I M.L M.T _ _
          have hi : i < cs.length := by omega
          have := hrel.get i h1' (by rw [← hrel.1]; exact h1')
          refine Eq.mp (congrArg _ ?_) this
          simp only [List.getElem_toArray]
          apply Option.some.inj
          rw [← List.getElem?_eq_getElem, ← List.getElem?_eq_getElem]
          simp only [List.getElem?_append, List.length_append, List.length_take, List.getElem?_take, List.getElem?_drop, Array.length_toList]
          have e1 : min off (min cs.length c.size) = off := by omega
          have e2 : min off c.size = off := by omega
          rw [e1, e2]
          split
          · split <;> rfl
          · rw [if_pos (by omega)]
      · cases h
    · cases h
  · cases h

end Go.Proofs.Pv
