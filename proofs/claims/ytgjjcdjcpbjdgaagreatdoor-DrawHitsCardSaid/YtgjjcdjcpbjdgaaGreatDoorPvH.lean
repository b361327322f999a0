/-
  The abstract machine, part H: new variables, literals and append are what the model does.
  Conditions: the invariant 'Inv' and related slots.
-/
import Derived.Test.YtgjjcdjcpbjdgaaGreatDoorPvG
namespace Go.Proofs.Pv
set_option linter.unusedVariables false
set_option linter.unusedSimpArgs false
open Go
variable {P : Program} {G : Nat → Option (List AV)} {M : Mem} {al : Nat → Prop} {hp : Hp} {W w : World}

theorem RelL.mono {R R' : AV → Value → Prop} (h : ∀ a v, R a v → R' a v) {as : List AV} {vs : List Value} (k : RelL R as vs) : RelL R' as vs :=
  ⟨k.1, fun i a v h1 h2 => h _ _ (k.2 i a v h1 h2)⟩
theorem RelL.getA {R : AV → Value → Prop} {as : List AV} {c : Array Value} (h : RelL R as c.toList) (i : Nat) (h1 : i < as.length) (h2 : i < c.size) : R as[i] c[i] := by
  have := h.get i h1 (by simpa using h2)
  rwa [Array.getElem_toList] at this
theorem RelL.cells_of {I : Imm} {L : Lo} {T : To} {a : AV} {v : Value} (h : Rel I L T a v) (hu : a.isUndef = false) : RelL (Rel I L T) a.cells v.cells.toList := by
  obtain ⟨h1, h2⟩ := Rel.cells h (by intro e; subst e; simp [AV.isUndef] at hu)
  exact RelL.of_get (by simpa using h1) (fun i h h' => by simpa using h2 i h (by simpa using h'))

theorem zro_ok {t : TypeId} {z : List AV} (h : zro P t = some z) : ∃ i zv, P.info? t = some i ∧ i.zero = some zv ∧ ∀ {I : Imm} {L : Lo} {T : To}, RelL (Rel I L T) z zv.cells.toList := by
  unfold zro at h
  split at h
  · rename_i i hi
    split at h
    · rename_i zv hz
      simp only [Option.some.injEq] at h; subst h
      refine ⟨i, zv, hi, hz, fun {I L T} => ?_⟩
      obtain ⟨h1, h2⟩ := ofVs_rel (I := I) (L := L) (T := T) (cellKs P 8 t) zv.cells.toList
      exact RelL.of_get h1.symm h2
    · cases h
  · cases h

/-- A new variable. -/
theorem newVar_ok (inv : Inv G M al hp W w) {nx : Nat} (hn : ¬ al nx) {cs : List AV} {c : Array Value} (e : TypeId) (hr : RelL (Rel M.I M.L M.T) cs c.toList) :
    M.le (M.addL nx w.heap.size c.size) ∧ Inv G (M.addL nx w.heap.size c.size) (alAdd al nx) (hpSet hp nx (some (.cells cs))) W (w.alloc (.cells c e)) ∧
      (M.addL nx w.heap.size c.size).rel (.ptr nx 0) (.pointer (some ⟨w.heap.size, 0, none⟩)) := by
  have hle : M.le (M.addL nx w.heap.size c.size) := Mem.le_addL (inv.fresh nx hn)
  obtain ⟨h1, h2⟩ := inv.alloc hn (z := c.size) (.cells cs) (.cells c e) rfl ⟨rfl, by have := hr.1; simp at this; omega, fun i g1 g2 => M.rel_mono hle (hr.getA i g1 g2), w.heap.size, c.size, by simp [Mem.addL], Nat.le_refl _⟩
  exact ⟨h1, h2, .ptr (by simp [Mem.addL])⟩

theorem alloc_ok (inv : Inv G M al hp W w) {nx : Nat} (hn : ¬ al nx) {t : TypeId} {z : List AV} (h : zro P t = some z) :
    ∃ v w' M', (Instr.alloc t true (.tuple #[])).run P w = .ok v w' ∧ M.le M' ∧ Inv G M' (alAdd al nx) (updH hp [(nx, some (.cells z))]) W w' ∧ M'.rel (.ptr nx 0) v := by
  obtain ⟨i, zv, hi, hz, hr⟩ := zro_ok h
  obtain ⟨h1, h2, h3⟩ := newVar_ok inv hn (c := zv.cells) t hr
  exact ⟨_, _, _, by simp [Instr.alloc, zeroValue, typeInfo, hi, hz, newVar, newRow], h1, h2, h3⟩

theorem box_ok (inv : Inv G M al hp W w) {nx : Nat} (hn : ¬ al nx) {t : TypeId} {a : AV} {v : Value} (hv : M.rel a v) (hu : a.isUndef = false) :
    ∃ v' w' M', (Instr.box t v).run P w = .ok v' w' ∧ M.le M' ∧ Inv G M' (alAdd al nx) (updH hp [(nx, some (.cells a.cells))]) W w' ∧ M'.rel (.ptr nx 0) v' := by
  obtain ⟨h1, h2, h3⟩ := newVar_ok inv hn (c := v.cells) t (RelL.cells_of hv hu)
  exact ⟨_, _, _, by simp [Instr.box, newVar, newRow], h1, h2, h3⟩

/-! ### Literals -/
theorem foldl_set (off : Nat) : ∀ (l : List Value) (k : Nat) (cs : Array Value), off + k + l.length ≤ cs.size →
    ((l.zipIdx k).foldl (fun (cs : Array Value) (x : Value × Nat) => cs.setIfInBounds (off + x.2) x.1) cs).toList = cs.toList.take (off + k) ++ l ++ cs.toList.drop (off + k + l.length)
  | [], k, cs, h => by simp
  | v :: l, k, cs, h => by
    simp only [List.zipIdx_cons, List.foldl_cons]
    rw [foldl_set off l (k + 1) (cs.setIfInBounds (off + k) v) (by simp at h ⊢; omega)]
    simp only [Array.toList_setIfInBounds]
    have e := list_seg_step cs.toList (off + k) v l (by simp at h ⊢; omega)
    simpa [Nat.add_assoc] using e

theorem fill_ok {place : Nat → Option (Nat × Nat)} {R : AV → Value → Prop} : ∀ (ps : List (Nat × AV)) (vs : List (Nat × Value)) (cs cs' : List AV) (c : Array Value),
    ps.length = vs.length → (∀ (i : Nat) p q, ps[i]? = some p → vs[i]? = some q → p.1 = q.1 ∧ (p.2.isUndef = false → RelL R p.2.cells q.2.cells.toList)) → RelL R cs c.toList →
    fillA place cs ps = some cs' → ∃ c', Instr.fill place c vs = some c' ∧ RelL R cs' c'.toList
  | [], [], cs, cs', c, _, _, hr, h => by simp [fillA] at h; subst h; exact ⟨c, rfl, hr⟩
  | (i, a) :: ps, (j, v) :: vs, cs, cs', c, hl, hp, hr, h => by
    obtain ⟨rfl, h0⟩ := hp 0 _ _ rfl rfl
    unfold fillA at h
    split at h
    · rename_i off n hpl
      split at h
      · rename_i hc
        obtain ⟨hu, hn, hle⟩ := hc
        have hra := h0 hu
        have hv : v.cells.size = n := by rw [← hn, hra.1]; simp
        have hcs : cs.length = c.size := by simpa using hr.1
        have hlen : off + 0 + v.cells.toList.length ≤ c.size := by simp; omega
        have hf := foldl_set off v.cells.toList 0 c hlen
        have hz : v.cells.zipIdx.foldl (fun (cs : Array Value) (x : Value × Nat) => cs.setIfInBounds (off + x.2) x.1) c = (v.cells.toList.zipIdx 0).foldl (fun (cs : Array Value) (x : Value × Nat) => cs.setIfInBounds (off + x.2) x.1) c := by
          rw [← Array.foldl_toList]; simp
        have hnew : RelL R (splice cs off a.cells) (v.cells.zipIdx.foldl (fun (cs : Array Value) (x : Value × Nat) => cs.setIfInBounds (off + x.2) x.1) c).toList := by
          rw [hz, hf]; simpa using splice_rel (off := off) hr hra
        obtain ⟨c', h1, h2⟩ := fill_ok ps vs _ cs' _ (by simpa using hl) (fun i p q g1 g2 => hp (i + 1) p q (by simpa using g1) (by simpa using g2)) hnew h
        refine ⟨c', ?_, h2⟩
        simp only [Instr.fill, hpl, hv]
        have : ¬ (off + n > c.size) := by omega
        simpa [this] using h1
      · cases h
    · cases h
  | [], _ :: _, _, _, _, hl, _, _, _ => by simp at hl
  | _ :: _, [], _, _, _, hl, _, _, _ => by simp at hl

theorem build_ok {t : TypeId} {z : List AV} {pl : List (Nat × Nat)} (hz : zro P t = some z) (hpl : places P t = some pl) {ps : List (Nat × AV)} {vs : Array (Nat × Value)} {cs : List AV}
    (hl : ps.length = vs.toList.length) (hr : ∀ (i : Nat) p q, ps[i]? = some p → vs.toList[i]? = some q → p.1 = q.1 ∧ M.rel p.2 q.2) (h : fillA (fun i => pl[i]?) z ps = some cs) :
    ∃ v, (Instr.build t vs).run P w = .ok v w ∧ M.rel (.agg cs) v := by
  obtain ⟨i, zv, hi, hzz, hrz⟩ := zro_ok hz
  have key : ∀ (place : Nat → Option (Nat × Nat)), (∀ j x, pl[j]? = some x → place j = some x) → ∃ c', Instr.fill place zv.cells vs.toList = some c' ∧ RelL (Rel M.I M.L M.T) cs c'.toList := by
    intro place hp
    have hmono : ∀ (ps : List (Nat × AV)) (z cs : List AV), fillA (fun i => pl[i]?) z ps = some cs → fillA place z ps = some cs := by
      intro ps
      induction ps with
      | nil => intro z cs h; exact h
      | cons p ps ih =>
        intro z cs h
        obtain ⟨j, a⟩ := p
        unfold fillA at h ⊢
        split at h
        · rename_i off n hq
          rw [hp j _ hq]
          simp only
          split at h
          · rename_i hc; rw [if_pos hc]; exact ih _ _ h
          · cases h
        · cases h
    exact fill_ok ps vs.toList z cs zv.cells hl (fun i p q g1 g2 => ⟨(hr i p q g1 g2).1, fun hu => RelL.cells_of (hr i p q g1 g2).2 hu⟩) hrz (hmono _ _ _ h)
  unfold places at hpl
  split at hpl
  · rename_i fs hu
    obtain ⟨c', h1, h2⟩ := key (fun j => pl.toArray[j]?) (fun j x hx => by simpa using hx)
    refine ⟨.agg c', run_build w t vs c' ?_, .agg (by simpa using h2.1.symm) (fun i g1 g2 => h2.getA i g1 g2)⟩
    simp only [Program.built, hi, hu, hzz, hpl]; exact h1
  · rename_i n e hu
    cases he : P.info? e with
    | none => simp [he] at hpl
    | some ie =>
      simp only [he, Option.map_some, Option.some.injEq] at hpl
      obtain ⟨c', h1, h2⟩ := key (fun j => some (j * ie.size, ie.size)) (fun j x hx => by
        subst hpl
        rw [List.getElem?_map] at hx
        cases hj : (List.range n)[j]? with
        | none => simp [hj] at hx
        | some y =>
          simp only [hj, Option.map_some, Option.some.injEq] at hx
          have : y = j := by
            obtain ⟨_, rfl⟩ := List.getElem?_eq_some_iff.1 hj
            simp
          subst this; exact congrArg some hx)
      refine ⟨.agg c', run_build w t vs c' ?_, .agg (by simpa using h2.1.symm) (fun i g1 g2 => h2.getA i g1 g2)⟩
      simp only [Program.built, hi, hu, hzz, he]; exact h1
  · cases hpl

/-! ### Rows, and their cells one behind the other -/
theorem flat_get {n : Nat} : ∀ (rows : List AV), (∀ r ∈ rows, r.cells.length = n) → ∀ (j i : Nat) (hj : j < rows.length), i < n → (rows.flatMap AV.cells)[j * n + i]? = (rows[j]).cells[i]?
  | [], _, j, i, hj, _ => by simp at hj
  | r :: rows, h, 0, i, hj, hi => by
    have hr := h r (by simp)
    simp only [List.flatMap_cons, Nat.zero_mul, Nat.zero_add, List.getElem_cons_zero]
    rw [List.getElem?_append_left (by omega)]
  | r :: rows, h, j + 1, i, hj, hi => by
    have hr := h r (by simp)
    simp only [List.flatMap_cons, List.getElem_cons_succ]
    rw [List.getElem?_append_right (by rw [hr, Nat.add_mul]; omega), hr]
    rw [show (j + 1) * n + i - n = j * n + i by rw [Nat.add_mul]; omega]
    exact flat_get rows (fun x hx => h x (by simp [hx])) j i (by simpa using hj) hi

theorem flat_len {n : Nat} : ∀ (rows : List AV), (∀ r ∈ rows, r.cells.length = n) → (rows.flatMap AV.cells).length = rows.length * n
  | [], _ => by simp
  | r :: rows, h => by
    simp only [List.flatMap_cons, List.length_append, h r (by simp), flat_len rows (fun x hx => h x (by simp [hx])), List.length_cons, Nat.add_mul]
    omega

/-- What a slice's rows are, said of all cells at once. -/
theorem sl_flat {I : Imm} {k : Nat} {rows : List AV} {vs : Nat → Value} (hk : ∀ r ∈ rows, r.cells.length = k)
    (hR : ∀ j i (hj : j < rows.length) (hi : i < (rows[j]).cells.length), Rel I noL noT ((rows[j]).cells[i]) (vs (j * k + i))) :
    RelL (Rel I noL noT) (rows.flatMap AV.cells) ((List.range (rows.length * k)).map vs) := by
  have hl := flat_len rows hk
  refine ⟨by simp [hl], fun q a v h1 h2 => ?_⟩
  have hq : q < rows.length * k := by rw [← hl]; exact (List.getElem?_eq_some_iff.1 h1).1
  have hk0 : 0 < k := by
    rcases Nat.eq_zero_or_pos k with h | h
    · subst h; simp at hq
    · exact h
  have hj : q / k < rows.length := Nat.div_lt_of_lt_mul (by rw [Nat.mul_comm]; exact hq)
  have hi : q % k < k := Nat.mod_lt _ hk0
  have hqe : q / k * k + q % k = q := by rw [Nat.mul_comm]; exact Nat.div_add_mod q k
  have hf := flat_get rows hk (q / k) (q % k) hj hi
  rw [hqe, h1] at hf
  have hc : (rows[q / k]).cells.length = k := hk _ (List.getElem_mem hj)
  have := hR (q / k) (q % k) hj (by omega)
  rw [hqe] at this
  rw [List.getElem?_eq_getElem (by omega)] at hf
  simp only [Option.some.injEq] at hf
  rw [hf]
  have hv : v = vs q := by
    rw [List.getElem?_map] at h2
    simp [hq] at h2
    exact h2.symm
  rw [hv]; exact this

theorem sl_of_flat {I : Imm} {L : Lo} {T : To} {k c b : Nat} {rows : List AV} {cs : List Value} {tk : Tk} (hk : ∀ r ∈ rows, r.cells.length = k) (hP : ∀ r ∈ rows, ∀ x ∈ r.cells, x.pure = true) (hr : RelL (Rel I noL noT) (rows.flatMap AV.cells) cs)
    (hI : ∀ q (h : q < cs.length), I b q = some cs[q]) (hc : rows.length ≤ c) (ht : TkOk T tk (some ⟨b, 0, none⟩) b 0 rows.length c k) : Rel I L T (.sl k rows tk) (.slice (some ⟨b, 0, none⟩) rows.length c) := by
  have hl := flat_len rows hk
  refine .sl (b := b) (o := 0) (fun q => cs.getD q undef) hc (fun _ => rfl) (fun q hq => ?_) hk hP (fun j i hj hi => ?_) ht
  · have hq' : q < cs.length := by rw [← hr.1, hl]; exact hq
    rw [Nat.zero_add, hI q hq']; simp [hq']
  · have hk' := hk _ (List.getElem_mem hj)
    have hf := flat_get rows hk j i hj (by omega)
    rw [List.getElem?_eq_getElem hi] at hf
    have hlt : j * k + i < cs.length := by
      rw [← hr.1]; exact (List.getElem?_eq_some_iff.1 hf).1
    have := hr.2 (j * k + i) _ cs[j * k + i] hf (List.getElem?_eq_getElem hlt)
    simpa [hlt] using this

end Go.Proofs.Pv
