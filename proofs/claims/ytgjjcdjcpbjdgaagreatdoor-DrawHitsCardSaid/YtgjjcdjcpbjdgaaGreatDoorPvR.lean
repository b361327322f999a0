/-
  The abstract machine, part R: maps, iterators and slices that are made: what the operations on them do, and that it is what the model does.
  Conditions: the invariant 'Inv'.
-/
import Derived.Test.YtgjjcdjcpbjdgaaGreatDoorPvJ
import Derived.RangeFuncRecord
namespace Go.Proofs.Pv
set_option linter.unusedVariables false
set_option linter.unusedSimpArgs false
open Go
variable {P : Program} {G : Nat → Option (List AV)} {M : Mem} {al : Nat → Prop} {hp : Hp} {W w : World}

/-! ### Keys -/
def lit1 : AV → Bool
  | .int _ _ | .bool _ | .str _ => true
  | _ => false
def AV.litB : AV → Bool
  | .agg cs => cs.all lit1
  | x => lit1 x
def beq1 : AV → AV → Bool
  | .int k a, .int k' b => decide (k = k') && decide (a = b)
  | .bool a, .bool b => a == b
  | .str a, .str b => a == b
  | _, _ => false
def beqL : List AV → List AV → Bool
  | [], [] => true
  | x :: xs, y :: ys => beq1 x y && beqL xs ys
  | _, _ => false
def AV.litEq : AV → AV → Bool
  | .agg xs, .agg ys => beqL xs ys
  | x, y => beq1 x y

theorem beq1_same {I I' : Imm} {L L' : Lo} {T T' : To} {a b : AV} {v u : Value} (h : beq1 a b = true) (h1 : Rel I L T a v) (h2 : Rel I' L' T' b u) (n : Nat) : Instr.sameBits n v u = true := by
  cases a <;> cases b <;> simp [beq1] at h
  · obtain ⟨rfl, rfl⟩ := h; cases h1; cases h2; simp [Instr.sameBits]
  · subst h; cases h1; cases h2; simp [Instr.sameBits]
  · cases h1; cases h2; simp only [Instr.sameBits]; exact h
theorem beqL_same {I I' : Imm} {L L' : Lo} {T T' : To} (n : Nat) : ∀ (xs ys : List AV) (vs us : List Value), beqL xs ys = true → RelL (Rel I L T) xs vs → RelL (Rel I' L' T') ys us → vs.length = us.length ∧ (vs.zip us).all (fun (x, y) => Instr.sameBits n x y) = true
  | [], [], vs, us, _, h1, h2 => by
    have e1 : vs = [] := List.eq_nil_of_length_eq_zero h1.1.symm
    have e2 : us = [] := List.eq_nil_of_length_eq_zero h2.1.symm
    subst e1; subst e2; simp
  | x :: xs, y :: ys, vs, us, h, h1, h2 => by
    match vs, us, h1, h2 with
    | v :: vs, u :: us, h1, h2 =>
      simp only [beqL, Bool.and_eq_true] at h
      obtain ⟨g1, g2⟩ := beqL_same n xs ys vs us h.2 ⟨by simpa using h1.1, fun i a v e1 e2 => h1.2 (i + 1) a v (by simpa using e1) (by simpa using e2)⟩ ⟨by simpa using h2.1, fun i a v e1 e2 => h2.2 (i + 1) a v (by simpa using e1) (by simpa using e2)⟩
      exact ⟨by simp [g1], by simp only [List.zip_cons_cons, List.all_cons, Bool.and_eq_true]; exact ⟨beq1_same h.1 (h1.2 0 x v rfl rfl) (h2.2 0 y u rfl rfl) n, g2⟩⟩
    | [], _, h1, _ => simp [RelL] at h1
    | _ :: _, [], _, h2 => simp [RelL] at h2
  | [], _ :: _, _, _, h, _, _ => by simp [beqL] at h
  | _ :: _, [], _, _, h, _, _ => by simp [beqL] at h
theorem litEq_same {I I' : Imm} {L L' : Lo} {T T' : To} {a b : AV} {v u : Value} (h : a.litEq b = true) (h1 : Rel I L T a v) (h2 : Rel I' L' T' b u) (n : Nat) : Instr.sameBits (n + 1) v u = true := by
  by_cases hg : ∃ xs ys, a = .agg xs ∧ b = .agg ys
  · obtain ⟨xs, ys, rfl, rfl⟩ := hg
    cases h1 with
    | @agg _ _ _ cs hs hr =>
      cases h2 with
      | @agg _ _ _ cs' hs' hr' =>
        obtain ⟨g1, g2⟩ := beqL_same n xs ys cs.toList cs'.toList h (RelL.of_get (by simpa using hs) (fun i e1 e2 => by simpa using hr i e1 (by simpa using e2))) (RelL.of_get (by simpa using hs') (fun i e1 e2 => by simpa using hr' i e1 (by simpa using e2)))
        simp only [Array.length_toList] at g1
        simp only [Instr.sameBits, g1, beq_self_eq_true, Bool.true_and]
        exact g2
  · have : beq1 a b = true := by
      cases a <;> cases b <;> first | exact h | exact absurd ⟨_, _, rfl, rfl⟩ hg
    exact beq1_same this h1 h2 _

def akcF (P : Program) (ok : TypeId → AV → Bool) : List Field → List AV → Bool
  | [], _ => true
  | f :: fs, xs =>
    if f.name = "_" then false else
    match partA P f.type xs f.offset with
    | some a => ok f.type a && akcF P ok fs xs
    | none => false
def akc (P : Program) : Nat → TypeId → AV → Bool
  | 0, _, _ => false
  | d + 1, t, x =>
    match P.underlying t, x with
    | some .bool, _ | some (.int _), _ | some .string, _ => true
    | some (.struct fs), .agg xs => akcF P (akc P d) fs.toList xs
    | _, _ => false

theorem akcF_each (d : Nat) (xs : List AV) : ∀ (fs : List Field), akcF P (akc P d) fs xs = true → ∀ f ∈ fs, f.name ≠ "_" ∧ ∃ a, partA P f.type xs f.offset = some a ∧ akc P d f.type a = true
  | [], _, _, hf => by cases hf
  | g :: fs, h, f, hf => by
    unfold akcF at h
    split at h
    · cases h
    · rename_i hn
      split at h
      · rename_i a ha
        simp only [Bool.and_eq_true] at h
        rcases List.mem_cons.1 hf with rfl | hf
        · exact ⟨hn, a, ha, h.1⟩
        · exact akcF_each d xs fs h.2 f hf
      · cases h

theorem akc_ok (em : Bool) : ∀ (d D : Nat), d ≤ D → ∀ {I : Imm} {L : Lo} {T : To} (t : TypeId) (x : AV) (v : Value), Rel I L T x v → akc P d t x = true → (Instr.checkKey em D t v).run P w = .ok () w
  | 0, _, _ => by intro t x v _ h; simp [akc] at h
  | d + 1, D, hD => by
    intro t x v hx h
    obtain ⟨D, rfl⟩ : ∃ D', D = D' + 1 := ⟨D - 1, by omega⟩
    unfold akc at h
    split at h
    · rename_i hu; simp [Instr.checkKey, run_und hu]
    · rename_i hu; simp [Instr.checkKey, run_und hu]
    · rename_i hu; simp [Instr.checkKey, run_und hu]
    · rename_i fs xs hu
      cases hx with
      | @agg _ _ _ cs hs hr =>
        have each := akcF_each d xs fs.toList h
        rw [Instr.checkKey]
        simp only [Sem.run_bind, run_und hu, Result.andThen_ok]
        rw [← Array.forIn_toList]
        clear h
        generalize fs.toList = l at each
        induction l with
        | nil => simp
        | cons f l ih =>
          obtain ⟨hn, a, ha, hk⟩ := each f (by simp)
          obtain ⟨u, p1, p2⟩ := part_ok (P := P) (w := w) hs hr ha
          have p3 := akc_ok em d D (by omega) f.type a u p2 hk
          simp only [List.forIn_cons, Sem.run_bind, hn, ne_eq, not_false_eq_true, if_true, Result.andThen_ok, p1, p3, Sem.run_pure]
          exact ih (fun y hy => each y (by simp [hy]))
    · cases h

/-! ### Entries -/
def afind (P : Program) (kt : TypeId) (k : AV) : List ME → Nat → Option (Option Nat)
  | [], _ => some none
  | e :: es, i => match aeq P 9 kt k e.key with
    | some true => some (some i)
    | some false => afind P kt k es (i + 1)
    | none => none

def MERel (M : Mem) (es : List ME) (es' : Array MapEntry) : Prop := es'.size = es.length ∧ ∀ i (h : i < es.length) (h' : i < es'.size), M.rel es[i].key es'[i].key ∧ M.rel es[i].val es'[i].val ∧ es'[i].born = es[i].born
def MERelL (M : Mem) (es : List ME) (es' : List MapEntry) : Prop := es'.length = es.length ∧ ∀ (i : Nat) e e', es[i]? = some e → es'[i]? = some e' → M.rel e.key e'.key ∧ M.rel e.val e'.val ∧ e'.born = e.born
theorem MERel.toL {es : List ME} {es' : Array MapEntry} (h : MERel M es es') : MERelL M es es'.toList := by
  refine ⟨by simpa using h.1, fun i e e' h1 h2 => ?_⟩
  obtain ⟨g1, rfl⟩ := List.getElem?_eq_some_iff.1 h1
  obtain ⟨g2, rfl⟩ := List.getElem?_eq_some_iff.1 h2
  have := h.2 i g1 (by simpa using g2)
  simpa using this
theorem MERelL.toA {es : List ME} {es' : Array MapEntry} (h : MERelL M es es'.toList) : MERel M es es' := by
  refine ⟨by simpa using h.1, fun i h1 h2 => ?_⟩
  exact h.2 i _ _ (by simp [h1]) (by simp [h2])
theorem MERelL.tail {e : ME} {es : List ME} {e' : MapEntry} {es' : List MapEntry} (h : MERelL M (e :: es) (e' :: es')) : MERelL M es es' :=
  ⟨by simpa using h.1, fun i a b h1 h2 => h.2 (i + 1) a b (by simpa using h1) (by simpa using h2)⟩

theorem sameNow_eq {kt : TypeId} {kd : TypeDesc} (hu : P.underlying kt = some kd) {x y : AV} {v u : Value} {b b' : Bool} (hx : M.rel x v) (hy : M.rel y u) (h : aeq P 9 kt x y = some b) (h' : Instr.sameNow kd v u = some b') : b' = b := by
  unfold aeq at h
  rw [hu] at h
  split at h
  · rename_i he
    simp only [Option.some.injEq] at he; subst he
    cases hx; cases hy; simp [Instr.sameNow] at h'; simp_all
  · rename_i he
    simp only [Option.some.injEq] at he; subst he
    cases hx; cases hy
    split at h
    · rename_i hk; subst hk; simp [Instr.sameNow] at h'; simp_all
    · cases h
  · rename_i he
    simp only [Option.some.injEq] at he; subst he
    cases hx; cases hy; simp [Instr.sameNow] at h'; simp_all
  · rename_i he
    simp only [Option.some.injEq] at he; subst he
    cases hx; cases hy; simp [Instr.sameNow] at h'
  · cases h

theorem findNow_ok {kt : TypeId} {kd : TypeDesc} (hu : P.underlying kt = some kd) {k : AV} {vk : Value} (hk : M.rel k vk) : ∀ (es : List ME) (es' : List MapEntry) (i : Nat) (r : Option Nat) (r' : Option (Nat × Value)), MERelL M es es' → afind P kt k es i = some r → Instr.findNow kd vk es' i = some r' →
    (match r with | none => r' = none | some j => ∃ e', i ≤ j ∧ es'[j - i]? = some e' ∧ r' = some (j, e'.val))
  | [], es', i, r, r', hr, h, h' => by
    have : es' = [] := List.eq_nil_of_length_eq_zero hr.1
    subst this
    simp [afind] at h; simp [Instr.findNow] at h'; subst h; subst h'; rfl
  | e :: es, es', i, r, r', hr, h, h' => by
    match es', hr, h' with
    | [], hr, _ => simp [MERelL] at hr
    | e' :: es', hr, h' =>
      have h0 := hr.2 0 e e' rfl rfl
      unfold afind at h
      unfold Instr.findNow at h'
      cases hq : aeq P 9 kt k e.key with
      | none => rw [hq] at h; cases h
      | some b =>
        rw [hq] at h
        cases hs : Instr.sameNow kd vk e'.key with
        | none => rw [hs] at h'; cases h'
        | some b' =>
          rw [hs] at h'
          have hb := sameNow_eq hu hk h0.1 hq hs
          subst hb
          cases b' with
          | true =>
            simp only [Option.some.injEq] at h h'; subst h; subst h'
            exact ⟨e', Nat.le_refl _, by simp, rfl⟩
          | false =>
            have := findNow_ok hu hk es es' (i + 1) r r' hr.tail h h'
            cases r with
            | none => exact this
            | some j =>
              obtain ⟨x, h1, h2, h3⟩ := this
              refine ⟨x, by omega, ?_, h3⟩
              rw [show j - i = (j - (i + 1)) + 1 by omega]; simpa using h2

theorem findAsking_ok {kt : TypeId} {k : AV} {vk : Value} (hk : M.rel k vk) : ∀ (es : List ME) (es' : List MapEntry) (i : Nat) (r : Option Nat), MERelL M es es' → afind P kt k es i = some r →
    ∃ r', (Instr.findAsking kt vk es' i).run P w = .ok r' w ∧ (match r with | none => r' = none | some j => ∃ e', i ≤ j ∧ es'[j - i]? = some e' ∧ r' = some (j, e'.val))
  | [], es', i, r, hr, h => by
    have : es' = [] := List.eq_nil_of_length_eq_zero hr.1
    subst this
    simp [afind] at h; subst h
    exact ⟨none, by simp [Instr.findAsking], rfl⟩
  | e :: es, es', i, r, hr, h => by
    match es', hr with
    | [], hr => simp [MERelL] at hr
    | e' :: es', hr =>
      have h0 := hr.2 0 e e' rfl rfl
      unfold afind at h
      cases hq : aeq P 9 kt k e.key with
      | none => rw [hq] at h; cases h
      | some b =>
        rw [hq] at h
        have he : (Op.equal kt vk e'.key).run P w = .ok b w := aeq_ok (P := P) (w := w) 9 Op.maxDepth (by decide) kt k e.key vk e'.key b hk h0.1 hq
        cases b with
        | true =>
          simp only [Option.some.injEq] at h; subst h
          exact ⟨some (i, e'.val), by simp [Instr.findAsking, he], e', Nat.le_refl _, by simp, rfl⟩
        | false =>
          obtain ⟨r', h1, h2⟩ := findAsking_ok hk es es' (i + 1) r hr.tail h
          refine ⟨r', by simp [Instr.findAsking, he, h1], ?_⟩
          cases r with
          | none => exact h2
          | some j =>
            obtain ⟨x, g1, g2, g3⟩ := h2
            refine ⟨x, by omega, ?_, g3⟩
            rw [show j - i = (j - (i + 1)) + 1 by omega]; simpa using g2

theorem findKey_ok {kt : TypeId} {kd : TypeDesc} (hu : P.underlying kt = some kd) {k : AV} {vk : Value} (hk : M.rel k vk) {es : List ME} {es' : List MapEntry} {r : Option Nat} (hr : MERelL M es es') (h : afind P kt k es 0 = some r) :
    ∃ r', (Instr.findKey kt vk es').run P w = .ok r' w ∧ (match r with | none => r' = none | some j => ∃ e', es'[j]? = some e' ∧ r' = some (j, e'.val)) := by
  unfold Instr.findKey
  simp only [Sem.run_bind, run_und hu, Result.andThen_ok]
  cases hf : Instr.findNow kd vk es' 0 with
  | some r' =>
    have := findNow_ok hu hk es es' 0 r r' hr h hf
    refine ⟨r', by simp, ?_⟩
    cases r with
    | none => exact this
    | some j => obtain ⟨x, _, h2, h3⟩ := this; exact ⟨x, by simpa using h2, h3⟩
  | none =>
    obtain ⟨r', h1, h2⟩ := findAsking_ok (P := P) (w := w) hk es es' 0 r hr h
    refine ⟨r', h1, ?_⟩
    cases r with
    | none => exact h2
    | some j => obtain ⟨x, _, h2, h3⟩ := h2; exact ⟨x, by simpa using h2, h3⟩

/-! ### The operations -/
def zval (P : Program) (t : TypeId) : Option AV :=
  match P.info? t with
  | some i => match i.zero with
    | some z => some (evC P t z)
    | none => none
  | none => none
def ents (g : Hp) : AV → Option (List ME)
  | .nilm => some []
  | .map key => match g key with
    | some (.map es _) => some es
    | _ => none
  | _ => none
def aop2 (P : Program) (G : Nat → Option (List AV)) (s : List AV) (g : Hp) (nx : Nat) (o : Oper) : Option Res :=
  let E := ev P G s
  match o.op with
  | .makeMap t r => match r with
    | none => some (.val (.map nx) [(nx, some (.map [] 0))])
    | some h => match P.underlying t, E 0 h with
      | some (.map _ _), .int _ _ => some (.val (.map nx) [(nx, some (.map [] 0))])
      | _, _ => none
  | .lookup t x i ok => match P.underlying t, ents g (E t x) with
    | some (.map kt et), some es =>
      if akc P 9 kt (E kt i) then
        match afind P kt (E kt i) es 0, zval P et with
        | some (some j), _ => match es[j]? with
          | some e => some (.val (if ok then .tup [e.val, .bool true] else e.val) [])
          | none => none
        | some none, some z => some (.val (if ok then .tup [z, .bool false] else z) [])
        | _, _ => none
      else none
    | _, _ => none
  | .mapUpdate t m k v | .insert t m k v => match P.underlying t, E t m with
    | some (.map kt et), .map key => match g key with
      | some (.map es clock) =>
        if akc P 9 kt (E kt k) then
          match afind P kt (E kt k) es 0 with
          | some (some j) => match es[j]? with
            | some e => if e.key.litEq (E kt k) then some (.skip [(key, some (.map (es.set j ⟨E kt k, E et v, e.born⟩) clock))]) else none
            | none => none
          | some none => some (.skip [(key, some (.map (es ++ [⟨E kt k, E et v, clock⟩]) (clock + 1)))])
          | none => none
        else none
      | _ => none
    | _, _ => none
  | .range t x => match P.underlying t, E t x with
    | some .string, .str q => some (.val (.ptr nx 0) [(nx, some (.sit q 0))])
    | some (.map _ _), .nilm => some (.val (.ptr nx 0) [(nx, some .nmit)])
    | some (.map _ _), .map key => match g key with
      | some (.map _ clock) => some (.val (.ptr nx 0) [(nx, some (.mit key clock [] clock))])
      | _ => none
    | _, _ => none
  | _ => none

theorem map_at (inv : Inv G M al hp W w) {key b : Nat} (hL : M.L key = some b) {es : List ME} {clock : Nat} (h : hp key = some (.map es clock)) : ∃ es', w.heap[b]? = some (.map es' clock) ∧ MERel M es es' := by
  obtain ⟨b0, ob, g1, g2, g3, g4, g5⟩ := inv.live key _ h
  have hb : b0 = b := by simpa [Mem.blockOf, Blk.isTok, hL] using g1.symm
  subst hb
  cases ob <;> simp only [LiveAs] at g3
  obtain ⟨rfl, g6, g7⟩ := g3
  exact ⟨_, g2, g6, g7⟩

theorem ents_ok (inv : Inv G M al hp W w) {x : AV} {v : Value} (hx : M.rel x v) {es : List ME} (h : ents hp x = some es) :
    ∃ es' : Array MapEntry, MERel M es es' ∧ ((v = .map none ∧ es' = #[]) ∨ ∃ b cl, v = .map (some b) ∧ w.heap[b]? = some (.map es' cl)) := by
  cases hx <;> simp only [ents] at h <;> try (cases h; done)
  · rename_i key b hL
    split at h
    · rename_i es0 cl hk
      simp only [Option.some.injEq] at h; subst h
      obtain ⟨es', g1, g2⟩ := map_at inv hL hk
      exact ⟨es', g2, .inr ⟨b, cl, rfl, g1⟩⟩
    · cases h
  · simp only [Option.some.injEq] at h; subst h
    exact ⟨#[], ⟨rfl, fun i h => by simp at h⟩, .inl ⟨rfl, rfl⟩⟩

theorem zval_ok {t : TypeId} {z : AV} (h : zval P t = some z) : ∃ zv, (zeroValue t).run P w = .ok zv w ∧ ∀ {I : Imm} {L : Lo} {T : To}, Rel I L T z zv := by
  unfold zval at h
  split at h
  · rename_i i hi
    split at h
    · rename_i zv hz
      simp only [Option.some.injEq] at h; subst h
      exact ⟨zv, by simp [zeroValue, typeInfo, hi, hz], evC_rel t zv⟩
    · cases h
  · cases h

theorem isEmpty_rel {es : List ME} {es' : Array MapEntry} (h : MERel M es es') : es'.isEmpty = es.isEmpty := by
  have := h.1
  cases es <;> simp_all [Array.isEmpty]

theorem lookup_ok (inv : Inv G M al hp W w) {t kt et : TypeId} {x k : AV} {vx vk : Value} (hx : M.rel x vx) (hk : M.rel k vk) (hu : P.underlying t = some (.map kt et)) {es : List ME} (he : ents hp x = some es) (hc : akc P 9 kt k = true) (ok : Bool) :
    (∀ j e, afind P kt k es 0 = some (some j) → es[j]? = some e → ∃ v, (Instr.lookup t vx vk ok).run P w = .ok v w ∧ M.rel (if ok then .tup [e.val, .bool true] else e.val) v) ∧
    (∀ z, afind P kt k es 0 = some none → zval P et = some z → ∃ v, (Instr.lookup t vx vk ok).run P w = .ok v w ∧ M.rel (if ok then .tup [z, .bool false] else z) v) := by
  obtain ⟨es', g1, g2⟩ := ents_ok inv hx he
  have hcu : ∃ kd, P.underlying kt = some kd := by
    unfold akc at hc
    cases hkd : P.underlying kt with
    | none => rw [hkd] at hc; simp at hc
    | some kd => exact ⟨kd, rfl⟩
  obtain ⟨kd, hkd⟩ := hcu
  have hck := akc_ok (P := P) (w := w) es'.isEmpty 9 10000 (by decide) kt k vk hk hc
  have tupRel : ∀ (a : AV) (b : Bool) (v : Value), M.rel a v → M.rel (.tup [a, .bool b]) (.tuple #[v, .bool b]) := fun a b v h => by
    refine .tup rfl (fun i h1 h2 => ?_)
    match i, h1 with
    | 0, _ => exact h
    | 1, _ => exact .bool
  constructor
  · intro j e hf hj
    obtain ⟨r', h1, h2⟩ := findKey_ok (P := P) (w := w) hkd hk g1.toL hf
    obtain ⟨e', h3, rfl⟩ := h2
    have hv := (g1.toL.2 j e e' hj h3).2.1
    refine ⟨if ok then .tuple #[e'.val, .bool true] else e'.val, ?_, by cases ok <;> simp <;> first | exact hv | exact tupRel _ _ _ hv⟩
    rcases g2 with ⟨rfl, rfl⟩ | ⟨b, cl, rfl, hb⟩
    · simp at h3
    · simp [Instr.lookup, run_und hu, getObj, Sem.run, hb] at hck ⊢
      simp [hck, h1]
  · intro z hf hz
    obtain ⟨r', h1, h2⟩ := findKey_ok (P := P) (w := w) hkd hk g1.toL hf
    simp only at h2; subst h2
    obtain ⟨zv, hz1, hz2⟩ := zval_ok (w := w) hz
    refine ⟨if ok then .tuple #[zv, .bool false] else zv, ?_, by cases ok <;> simp <;> first | exact hz2 | exact tupRel _ _ _ hz2⟩
    rcases g2 with ⟨rfl, rfl⟩ | ⟨b, cl, rfl, hb⟩
    · simp [Instr.lookup, run_und hu] at hck h1 ⊢
      simp [hck, h1, hz1]
    · simp [Instr.lookup, run_und hu, getObj, Sem.run, hb] at hck ⊢
      simp [hck, h1, hz1]

theorem MERel.grow {M' : Mem} (h : M.le M') {es : List ME} {es' : Array MapEntry} (r : MERel M es es') : MERel M' es es' :=
  ⟨r.1, fun i h1 h2 => ⟨M.rel_mono h (r.2 i h1 h2).1, M.rel_mono h (r.2 i h1 h2).2.1, (r.2 i h1 h2).2.2⟩⟩
theorem MERel.push {es : List ME} {es' : Array MapEntry} (r : MERel M es es') {e : ME} {e' : MapEntry} (h : M.rel e.key e'.key ∧ M.rel e.val e'.val ∧ e'.born = e.born) : MERel M (es ++ [e]) (es'.push e') := by
  refine ⟨by simp [r.1], fun i h1 h2 => ?_⟩
  by_cases hi : i < es.length
  · rw [List.getElem_append_left hi, Array.getElem_push_lt (by rw [r.1]; exact hi)]
    exact r.2 i hi (by rw [r.1]; exact hi)
  · have : i = es.length := by simp at h1; omega
    subst this
    simp [← r.1]; exact h
theorem MERel.set {es : List ME} {es' : Array MapEntry} (r : MERel M es es') {j : Nat} {e : ME} {f : MapEntry → MapEntry} (h : ∀ (h' : j < es'.size), M.rel e.key (f es'[j]).key ∧ M.rel e.val (f es'[j]).val ∧ (f es'[j]).born = e.born) : MERel M (es.set j e) (es'.modify j f) := by
  refine ⟨by simp [r.1], fun i h1 h2 => ?_⟩
  simp only [List.length_set, Array.size_modify] at h1 h2
  rw [List.getElem_set, Array.getElem_modify]
  split
  · rename_i e1; subst e1; exact h h2
  · exact r.2 i h1 h2

theorem mapUpdate_ok (inv : Inv G M al hp W w) {t kt et : TypeId} {key : Nat} {x k v : AV} {vx vk vv : Value} (hx : M.rel (.map key) vx) (hk : M.rel k vk) (hv : M.rel v vv) (hu : P.underlying t = some (.map kt et)) {es : List ME} {clock : Nat} (hm : hp key = some (.map es clock)) (hc : akc P 9 kt k = true) :
    (∀ j e, afind P kt k es 0 = some (some j) → es[j]? = some e → e.key.litEq k = true → ∃ w', (Instr.mapUpdate t vx vk vv).run P w = .ok () w' ∧ Inv G M al (hpSet hp key (some (.map (es.set j ⟨k, v, e.born⟩) clock))) W w') ∧
    (afind P kt k es 0 = some none → ∃ w', (Instr.mapUpdate t vx vk vv).run P w = .ok () w' ∧ Inv G M al (hpSet hp key (some (.map (es ++ [⟨k, v, clock⟩]) (clock + 1)))) W w') := by
  have hcu : ∃ kd, P.underlying kt = some kd := by
    unfold akc at hc
    cases hkd : P.underlying kt with
    | none => rw [hkd] at hc; simp at hc
    | some kd => exact ⟨kd, rfl⟩
  obtain ⟨kd, hkd⟩ := hcu
  have hck := akc_ok (P := P) (w := w) false 9 10000 (by decide) kt k vk hk hc
  cases hx with
  | @map _ _ _ b hL =>
    obtain ⟨es', hb, hr⟩ := map_at inv hL hm
    have hlt := lt_of_heap hb
    constructor
    · intro j e hf hj hlit
      obtain ⟨r', h1, h2⟩ := findKey_ok (P := P) (w := w) hkd hk hr.toL hf
      obtain ⟨e', h3, rfl⟩ := h2
      have hjr := hr.toL.2 j e e' hj h3
      have h3' : es'[j]? = some e' := by simpa using h3
      have hsame : Instr.sameBits 10000 e'.key vk = true := litEq_same hlit hjr.1 hk 9999
      refine ⟨w.putObj b (.map (es'.modify j fun e => { e with key := vk, val := vv }) clock), ?_, ?_⟩
      · simp [Instr.mapUpdate, run_und hu, getObj, setObj, Sem.run, hb, hck, h1, h3', Instr.keyThatStays, hsame, World.putObj]
      · refine inv.turn (old := .map es clock) hm hL rfl rfl rfl rfl rfl (fun q hq => World.putObj_heap_other hq) (World.putObj_heap_same hlt) ?_
        have hset := hr.set (j := j) (e := ⟨k, v, e.born⟩) (f := fun e => { e with key := vk, val := vv }) (fun h' => by
          have he : es'[j] = e' := by
            have := Array.getElem?_eq_getElem h'
            rw [h3'] at this; exact (Option.some.inj this).symm
          exact ⟨hk, hv, by show es'[j].born = e.born; rw [he]; exact hjr.2.2⟩)
        exact ⟨rfl, hset.1, hset.2⟩
    · intro hf
      obtain ⟨r', h1, h2⟩ := findKey_ok (P := P) (w := w) hkd hk hr.toL hf
      simp only at h2; subst h2
      refine ⟨w.putObj b (.map (es'.push { key := vk, val := vv, born := clock }) (clock + 1)), ?_, ?_⟩
      · simp [Instr.mapUpdate, run_und hu, getObj, setObj, Sem.run, hb, hck, h1, World.putObj]
      · refine inv.turn (old := .map es clock) hm hL rfl rfl rfl rfl rfl (fun q hq => World.putObj_heap_other hq) (World.putObj_heap_same hlt) ?_
        have hset := hr.push (e := ⟨k, v, clock⟩) (e' := { key := vk, val := vv, born := clock }) ⟨hk, hv, rfl⟩
        exact ⟨rfl, hset.1, hset.2⟩

theorem newObj_ok (inv : Inv G M al hp W w) {nx : Nat} (hn : ¬ al nx) (blk : Blk) (ob : Obj) (ht : blk.isTok = false) (hl : ∀ M', M.le M' → LiveAs M' nx blk ob) :
    M.le (M.addL nx w.heap.size) ∧ Inv G (M.addL nx w.heap.size) (alAdd al nx) (updH hp [(nx, some blk)]) W (w.alloc ob) ∧ (M.addL nx w.heap.size).L nx = some w.heap.size := by
  have hle : M.le (M.addL nx w.heap.size) := Mem.le_addL (inv.fresh nx hn)
  obtain ⟨h1, h2⟩ := inv.alloc hn blk ob ht (hl _ hle)
  exact ⟨h1, h2, by simp [Mem.addL]⟩

set_option maxHeartbeats 1000000 in
theorem aop2_ok (inv : Inv G M al hp W w) {nx : Nat} (hn : ¬ al nx) {s : List AV} {a : Act} (rs : RelS M s a.tmps) {o : Oper} {res : Res} (h : aop2 P G s hp nx o = some res) :
    ResOk P G M al hp W nx w ((execOp a.eval o).run P w) res := by
  obtain ⟨dst, op, ty, pos, after, guard⟩ := o
  unfold aop2 at h
  have up : ∀ (t : TypeId) (m k v : Operand), (match P.underlying t, ev P G s t m with
    | some (.map kt et), .map key => match hp key with
      | some (.map es clock) =>
        if akc P 9 kt (ev P G s kt k) then
          match afind P kt (ev P G s kt k) es 0 with
          | some (some j) => match es[j]? with
            | some e => if e.key.litEq (ev P G s kt k) then some (Res.skip [(key, some (.map (es.set j ⟨ev P G s kt k, ev P G s et v, e.born⟩) clock))]) else none
            | none => none
          | some none => some (.skip [(key, some (.map (es ++ [⟨ev P G s kt k, ev P G s et v, clock⟩]) (clock + 1)))])
          | none => none
        else none
      | _ => none
    | _, _ => none) = some res → ResOk P G M al hp W nx w ((do Instr.mapUpdate t (a.eval m) (a.eval k) (a.eval v); pure .skip : Sem Next).run P w) res := by
    intro t m k v h
    split at h
    · rename_i kt et key hu hm
      have hmr := ev_rel (P := P) inv rs t m
      rw [hm] at hmr
      split at h
      · rename_i es clock hkm
        split at h
        · rename_i hc
          obtain ⟨g1, g2⟩ := mapUpdate_ok (P := P) inv (x := .map key) hmr (ev_rel (P := P) inv rs kt k) (ev_rel (P := P) inv rs et v) hu hkm hc
          split at h
          · rename_i j hf
            split at h
            · rename_i e he
              split at h
              · rename_i hlit
                simp only [Option.some.injEq] at h; subst h
                obtain ⟨w', q1, q2⟩ := g1 j e hf he hlit
                exact ⟨w', M, by simp [q1], M.le_refl, q2.more fun k hk => .inl hk⟩
              · cases h
            · cases h
          · rename_i hf
            simp only [Option.some.injEq] at h; subst h
            obtain ⟨w', q1, q2⟩ := g2 hf
            exact ⟨w', M, by simp [q1], M.le_refl, q2.more fun k hk => .inl hk⟩
          · cases h
        · cases h
      · cases h
    · cases h
  cases op <;> simp only at h <;> try (cases h; done)
  case makeMap t r =>
    obtain ⟨g1, g2, g3⟩ := newObj_ok inv hn (.map [] 0) (.map #[] 0) rfl (fun M' _ => ⟨rfl, rfl, fun i h => by simp at h⟩)
    cases r with
    | none =>
      simp only [Option.some.injEq] at h; subst h
      exact ⟨_, _, _, by simp [execOp, Instr.makeMap], g1, g2, .map g3⟩
    | some r =>
      simp only at h
      split at h
      · rename_i k e q z hu hz
        simp only [Option.some.injEq] at h; subst h
        have hr := ev_rel (P := P) inv rs 0 r
        rw [hz] at hr
        generalize hva : a.eval r = vr at hr
        cases hr
        exact ⟨_, _, _, by simp [execOp, Instr.makeMap, run_und hu, hva, asInt]; exact rfl, g1, g2, .map g3⟩
      · cases h
  case lookup t x i ok =>
    split at h
    · rename_i kt et es hu he
      split at h
      · rename_i hc
        obtain ⟨g1, g2⟩ := lookup_ok (P := P) inv (ev_rel (P := P) inv rs t x) (ev_rel (P := P) inv rs kt i) hu he hc ok
        split at h
        · rename_i j hf
          split at h
          · rename_i e hj
            simp only [Option.some.injEq] at h; subst h
            obtain ⟨v, q1, q2⟩ := g1 j e hf hj
            exact resOk_same inv (v := v) (by simp [execOp, q1]) q2
          · cases h
        · rename_i z hf hz
          simp only [Option.some.injEq] at h; subst h
          obtain ⟨v, q1, q2⟩ := g2 z hf hz
          exact resOk_same inv (v := v) (by simp [execOp, q1]) q2
        · cases h
      · cases h
    · cases h
  case mapUpdate t m k v => exact up t m k v h
  case insert t m k v => exact up t m k v h
  case range t x =>
    have hx := ev_rel (P := P) inv rs t x
    split at h
    · rename_i q hu hq
      rw [hq] at hx
      simp only [Option.some.injEq] at h; subst h
      generalize hva : a.eval x = vx at hx
      cases hx
      obtain ⟨g1, g2, g3⟩ := newObj_ok inv hn (.sit q 0) (.stringIter q 0) rfl (fun M' _ => ⟨rfl, rfl⟩)
      exact ⟨_, _, _, by simp [execOp, Instr.range, run_und hu, hva], g1, g2, .ptr g3⟩
    · rename_i kt et hu hq
      rw [hq] at hx
      simp only [Option.some.injEq] at h; subst h
      generalize hva : a.eval x = vx at hx
      cases hx
      obtain ⟨g1, g2, g3⟩ := newObj_ok inv hn .nmit (.mapIter none 0 #[] 0) rfl (fun M' _ => rfl)
      exact ⟨_, _, _, by simp [execOp, Instr.range, run_und hu, hva], g1, g2, .ptr g3⟩
    · rename_i kt et key hu hq
      rw [hq] at hx
      split at h
      · rename_i es clock hm
        simp only [Option.some.injEq] at h; subst h
        generalize hva : a.eval x = vx at hx
        cases hx with
        | @map _ _ _ b hL =>
          obtain ⟨es', hb, hr⟩ := map_at inv hL hm
          obtain ⟨g1, g2, g3⟩ := newObj_ok inv hn (.mit key clock [] clock) (.mapIter (some b) clock #[] clock) rfl (fun M' hle => ⟨⟨b, hle.L _ _ hL, rfl⟩, rfl, rfl, rfl⟩)
          exact ⟨_, _, _, by simp [execOp, Instr.range, run_und hu, hva, getObj, Sem.run, hb], g1, g2, .ptr g3⟩
      · cases h
    · cases h

end Go.Proofs.Pv
