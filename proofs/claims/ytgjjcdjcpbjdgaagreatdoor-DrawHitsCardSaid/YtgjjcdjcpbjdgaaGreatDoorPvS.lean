/-
  The abstract machine, part S: slices that are made, steps of iterators; all operations together.
  Conditions: the invariant 'Inv'.
-/
import Derived.Test.YtgjjcdjcpbjdgaaGreatDoorPvR
import Derived.IntWalk
namespace Go.Proofs.Pv
set_option linter.unusedVariables false
set_option linter.unusedSimpArgs false
open Go
variable {P : Program} {G : Nat → Option (List AV)} {M : Mem} {al : Nat → Prop} {hp : Hp} {W w : World}

/-- A slice that is not nil. -/
def someSl : AV → Bool
  | .sl _ (_ :: _) _ => true
  | .msl _ _ _ _ => true
  | _ => false
theorem someSl_ok {v : AV} {u : Value} (h : someSl v = true) (hr : M.rel v u) : ∃ A n c, u = .slice (some A) n c := by
  unfold someSl at h
  split at h
  · cases hr with
    | sl vs hc hA hI' hk hP hR ht => exact ⟨_, _, _, by rw [hA (by simp)]⟩
  · cases hr with
    | msl hL hT hz hc => exact ⟨_, _, _, rfl⟩
  · cases h
theorem eq_nils (d : Nat) {t e : TypeId} (hu : P.underlying t = some (.slice e)) (A : Addr) (n c : Nat) : (Op.equalIn (d + 1) t (.slice (some A) n c) (.slice none 0 0)).run P w = .ok false w := by
  simp [Op.equalIn, run_und hu]
def isNilC : Operand → Bool
  | .const (.slice none 0 0) => true
  | _ => false
theorem isNilC_eq {x : Operand} (h : isNilC x = true) : x = .const (.slice none 0 0) := by
  unfold isNilC at h
  split at h
  · rfl
  · cases h
def isNilI : Operand → Bool
  | .const .nilIface => true
  | _ => false
theorem isNilI_eq {x : Operand} (h : isNilI x = true) : x = .const .nilIface := by
  unfold isNilI at h
  split at h
  · rfl
  · cases h
theorem eq_nili (d : Nat) {t : TypeId} {ms : Array (String × TypeId)} (hu : P.underlying t = some (.interface ms)) : (Op.equalIn (d + 1) t .nilIface .nilIface).run P w = .ok true w := by
  simp [Op.equalIn, run_und hu]
theorem eq_ifc (d : Nat) {t u : TypeId} {v : Value} {ms : Array (String × TypeId)} (hu : P.underlying t = some (.interface ms)) : (Op.equalIn (d + 1) t (.iface u v) .nilIface).run P w = .ok false w := by
  simp [Op.equalIn, run_und hu]
def anil (P : Program) (op : BinOp) (t : TypeId) (x : AV) (y : Operand) : Option Res :=
  match P.underlying t with
  | some (.slice _) => if isNilC y && someSl x then (match op with
    | .eql => some (.val (.bool false) [])
    | .neq => some (.val (.bool true) [])
    | _ => none) else none
  | some (.interface _) => if isNilI y then (match op, x with
    | .eql, .nili => some (.val (.bool true) [])
    | .neq, .nili => some (.val (.bool false) [])
    | .eql, .ifc _ _ => some (.val (.bool false) [])
    | .neq, .ifc _ _ => some (.val (.bool true) [])
    | _, _ => none) else none
  | _ => none
def aop3 (P : Program) (G : Nat → Option (List AV)) (s : List AV) (nx : Nat) (o : Oper) : Option Res :=
  let E := ev P G s
  match o.op with
  | .makeSlice t l c => match elt P t, E 0 l, E 0 c with
    | some e, .int _ len, .int _ cap => match zeroRow P e, byt P e with
      | some (n, z), some b => if 0 ≤ len ∧ len ≤ cap ∧ cap ≤ 16777216 ∧ cap.toNat * b ≤ 16777216 then some (.val (.msl nx 0 len.toNat n) [(nx, some (.cells ((List.replicate cap.toNat z).flatMap AV.cells)))]) else none
      | _, _ => none
    | _, _, _ => none
  | .binOp op t x y _ => anil P op t (E t x) y
  | _ => none

def aop4 (P : Program) (G : Nat → Option (List AV)) (s : List AV) (g : Hp) (o : Oper) : Option Res :=
  let E := ev P G s
  match o.op with
  | .next it str => match E 0 it with
    | .ptr key 0 => match g key, str with
      | some (.sit q pos), true =>
        if pos < q.size then some (.val (.tup [.bool true, .int .i64 pos, .int .i32 (Utf8.decode q pos).1]) [(key, some (.sit q (pos + (Utf8.decode q pos).2)))])
        else some (.val (.tup [.bool false]) [])
      | some .nmit, false => some (.val (.tup [.bool false]) [])
      | some (.mit m since seen last), false => match g m with
        | some (.map es clock) =>
          if !seen.isEmpty && !es.isEmpty && es.all (fun e => decide (e.born ≥ last)) then none else
          let left := es.filter fun e => !seen.contains e.born
          let old := left.filter (fun e => decide (e.born < since))
          let new := left.filter (fun e => decide (e.born ≥ since))
          some (.branch ((if old.isEmpty then [(.tup [.bool false], [])] else []) ++ (old ++ new).map fun e => (.tup [.bool true, e.key, e.val], [(key, some (.mit m since (seen ++ [e.born]) clock))])))
        | _ => none
      | _, _ => none
    | _ => none
  | .entry it => match E 0 it with
    | .ptr key 0 => match g key with
      | some (.mit m _ seen stepped) => match seen.getLast?, g m with
        | some st, some (.map es clock) => if clock = stepped then
            match es.find? (fun e => e.born == st) with
            | some e => some (.val (.tup [e.key, e.val]) [])
            | none => none
          else none
        | _, _ => none
      | _ => none
    | _ => none
  | _ => none

def aopD (P : Program) (G : Nat → Option (List AV)) (s : List AV) (g : Hp) (nx : Nat) (o : Oper) : Option Res :=
  match aop1 P G s g nx o with
  | some r => some r
  | none => match aop2 P G s g nx o with
    | some r => some r
    | none => aop3 P G s nx o
def aop (P : Program) (G : Nat → Option (List AV)) (s : List AV) (g : Hp) (nx : Nat) (o : Oper) : Option Res :=
  match aopD P G s g nx o with
  | some r => some r
  | none => aop4 P G s g o

theorem aop3_ok (inv : Inv G M al hp W w) {nx : Nat} (hn : ¬ al nx) {s : List AV} {a : Act} (rs : RelS M s a.tmps) {o : Oper} {res : Res} (h : aop3 P G s nx o = some res) :
    ResOk P G M al hp W nx w ((execOp a.eval o).run P w) res := by
  obtain ⟨dst, op, ty, pos, after, guard⟩ := o
  unfold aop3 at h
  cases op <;> simp only at h <;> try (cases h; done)
  case binOp op t x y z =>
    unfold anil at h
    split at h
    · rename_i e hu
      split at h
      · rename_i hc
        rw [Bool.and_eq_true] at hc
        have hy := isNilC_eq hc.1
        subst hy
        obtain ⟨A, n, c, hv⟩ := someSl_ok hc.2 (ev_rel (P := P) inv rs t x)
        have hrun : (Op.equalIn 10000 t (.slice (some A) n c) (.slice none 0 0)).run P w = .ok false w := eq_nils 9999 hu A n c
        have hc0 : a.eval (.const (.slice none 0 0)) = .slice none 0 0 := rfl
        have hd := eql_def t (.slice (some A) n c) (.slice none 0 0) (by simp) (by simp) (by simp) (by simp) hrun
        split at h
        · simp only [Option.some.injEq] at h; subst h
          have : (execOp a.eval ⟨dst, .binOp .eql t x (.const (.slice none 0 0)) z, ty, pos, after, guard⟩).run P w = .ok (.value (.bool false)) w := by
            simp [execOp, hv, hc0, eqGuard, hd.1]
          exact ⟨.bool false, w, M, this, M.le_refl, inv.more (fun k hk => .inl hk), .bool⟩
        · simp only [Option.some.injEq] at h; subst h
          have : (execOp a.eval ⟨dst, .binOp .neq t x (.const (.slice none 0 0)) z, ty, pos, after, guard⟩).run P w = .ok (.value (.bool true)) w := by
            simp [execOp, hv, hc0, eqGuard, hd.2]
          exact ⟨.bool true, w, M, this, M.le_refl, inv.more (fun k hk => .inl hk), .bool⟩
        · cases h
      · cases h
    · rename_i ms hu
      split at h
      · rename_i hc
        have hy := isNilI_eq hc
        subst hy
        have hxr := ev_rel (P := P) inv rs t x
        generalize hva : a.eval x = vx at hxr
        have hc0 : a.eval (.const .nilIface) = .nilIface := rfl
        split at h
        · rename_i he
          rw [he] at hxr; cases hxr
          have hd := eql_def t .nilIface .nilIface (by simp) (by simp) (by simp) (by simp) (eq_nili (P := P) (w := w) 9999 hu)
          simp only [Option.some.injEq] at h; subst h
          exact ⟨.bool true, w, M, by simp [execOp, hva, hc0, eqGuard, hd.1], M.le_refl, inv.more (fun k hk => .inl hk), .bool⟩
        · rename_i he
          rw [he] at hxr; cases hxr
          have hd := eql_def t .nilIface .nilIface (by simp) (by simp) (by simp) (by simp) (eq_nili (P := P) (w := w) 9999 hu)
          simp only [Option.some.injEq] at h; subst h
          exact ⟨.bool false, w, M, by simp [execOp, hva, hc0, eqGuard, hd.2], M.le_refl, inv.more (fun k hk => .inl hk), .bool⟩
        · rename_i u0 _ he
          rw [he] at hxr
          cases hxr with
          | @ifc _ _ _ _ v hr =>
          have hd := eql_def t (.iface u0 v) .nilIface (by simp) (by simp) (by simp) (by simp) (eq_ifc (P := P) (w := w) 9999 hu)
          simp only [Option.some.injEq] at h; subst h
          exact ⟨.bool false, w, M, by simp [execOp, hva, hc0, eqGuard, hd.1], M.le_refl, inv.more (fun k hk => .inl hk), .bool⟩
        · rename_i u0 _ he
          rw [he] at hxr
          cases hxr with
          | @ifc _ _ _ _ v hr =>
          have hd := eql_def t (.iface u0 v) .nilIface (by simp) (by simp) (by simp) (by simp) (eq_ifc (P := P) (w := w) 9999 hu)
          simp only [Option.some.injEq] at h; subst h
          exact ⟨.bool true, w, M, by simp [execOp, hva, hc0, eqGuard, hd.2], M.le_refl, inv.more (fun k hk => .inl hk), .bool⟩
        · cases h
      · cases h
    · cases h
  case makeSlice t l c =>
    split at h
    · rename_i e q len q' cap he hl hc
      have hu := elt_und he
      split at h
      · rename_i n z b hz hb
        split at h
        · rename_i hcond
          obtain ⟨c1, c2, c3, c4⟩ := hcond
          simp only [Option.some.injEq] at h; subst h
          obtain ⟨ie, zv, hi, hs, hzz, h0, hzl, hzr⟩ := zeroRow_ok hz
          have hlr := ev_rel (P := P) inv rs 0 l
          have hcr := ev_rel (P := P) inv rs 0 c
          rw [hl] at hlr; rw [hc] at hcr
          generalize hva : a.eval l = vl at hlr
          generalize hvc : a.eval c = vc at hcr
          cases hlr; cases hcr
          have hby : ie.bytes = b := by simpa [byt, hi] using hb
          have hw1 : IntKind.i64.wrap len = len := IntWalk.i64_in len (by omega)
          have hw2 : IntKind.i64.wrap cap = cap := IntWalk.i64_in cap (by omega)
          have hrel := replicate_rel (R := Rel M.I M.L M.T) cap.toNat hzl h0 hzr
          obtain ⟨g1, g2, g3⟩ := newVar_ok inv hn (c := (Array.range (cap.toNat * n)).map (zv.cells[· % zv.cells.size]!)) e hrel
          have hL : (M.addL nx w.heap.size ((Array.range (cap.toNat * n)).map (zv.cells[· % zv.cells.size]!)).size).L nx = some w.heap.size := by simp [Mem.addL]
          have hTT : (M.addL nx w.heap.size ((Array.range (cap.toNat * n)).map (zv.cells[· % zv.cells.size]!)).size).T nx = some (w.heap.size, 0, cap.toNat * n) := by simp [Mem.addL]
          have hzz' : 0 + cap.toNat * n ≤ cap.toNat * n := by omega
          refine ⟨.slice (some ⟨w.heap.size, 0, none⟩) len.toNat cap.toNat, w.alloc (.cells ((Array.range (cap.toNat * n)).map (zv.cells[· % zv.cells.size]!)) e), _, ?_, g1, g2, .msl hL hTT hzz' (by omega)⟩
          have hb0 : (ie.bytes : Int) * cap ≤ 281474976710656 := by
            have : ((cap.toNat * b : Nat) : Int) ≤ 16777216 := Int.ofNat_le.2 c4
            rw [hby]
            have hc' : (cap.toNat : Int) = cap := Int.toNat_of_nonneg (by omega)
            rw [Int.natCast_mul, hc', Int.mul_comm] at this
            omega
          have hb1 : ¬ cap.toNat * ie.bytes > roomBytes := by
            rw [hby]; unfold roomBytes
            have : (16777216 : Nat) ≤ 2 ^ 47 := by decide
            omega
          have hcond2 : ¬ ((cap < 0 ∨ 281474976710656 < (ie.bytes : Int) * cap) ∨ len < 0 ∨ cap < len) := by omega
          have hbool : ((decide (cap < 0) || decide ((ie.bytes : Int) * cap > 2 ^ 48)) || decide (len < 0) || decide (len > cap)) = false := by
            have e1 : ¬ cap < 0 := by omega
            have e2 : ¬ ((ie.bytes : Int) * cap > 2 ^ 48) := by omega
            have e3 : ¬ len < 0 := by omega
            have e4 : ¬ len > cap := by omega
            simp [e1, e3, e4]; omega
          have ha1 : (asInt (.int q len)).run P w = .ok len w := by simp [asInt, asIntOf]
          have ha2 : (asInt (.int q' cap)).run P w = .ok cap w := by simp [asInt, asIntOf]
          have hti : (typeInfo e).run P w = .ok ie w := by simp [typeInfo, hi]
          have hso : (sizeOf e).run P w = .ok n w := by simp [sizeOf, typeInfo, hi, hs]
          have hro : (askRoom (cap.toNat * ie.bytes)).run P w = .ok () w := by simp [askRoom, hb1]
          have hzv : (zeroValue e).run P w = .ok zv w := by simp [zeroValue, typeInfo, hi, hzz]
          simp only [execOp, Instr.makeSlice, Sem.run_bind, run_und hu, hva, hvc, ha1, ha2, hti, Result.andThen_ok, hw1, hw2]
          rw [hbool]
          simp only [Bool.false_eq_true, if_false, Sem.run_bind, hro, hso, Result.andThen_ok]
          rcases Nat.eq_zero_or_pos (cap.toNat * n) with hz0 | hz0
          · rw [hz0]
            simp only [if_true, Sem.run_bind, Sem.run_pure, Result.andThen_ok]
            simp [newRow]
            exact congrArg (fun c => w.alloc (.cells c e)) ((Array.eq_empty_of_size_eq_zero (by simp)).trans (Array.eq_empty_of_size_eq_zero (by simp)).symm)
          · rw [if_neg (by omega)]
            simp [hzv, newRow]
        · cases h
      · cases h
    · cases h

theorem iter_at (inv : Inv G M al hp W w) {key b : Nat} (hL : M.L key = some b) {blk : Blk} (ht : blk.isTok = false) (h : hp key = some blk) : ∃ ob, w.heap[b]? = some ob ∧ LiveAs M key blk ob := by
  obtain ⟨b0, ob, g1, g2, g3, g4, g5⟩ := inv.live key _ h
  have hb : b0 = b := by simpa [Mem.blockOf, ht, hL] using g1.symm
  subst hb
  exact ⟨ob, g2, g3⟩

theorem tup2 {a b : AV} {v u : Value} (h1 : M.rel a v) (h2 : M.rel b u) : M.rel (.tup [a, b]) (.tuple #[v, u]) := by
  refine .tup rfl (fun i g1 g2 => ?_)
  match i, g1 with
  | 0, _ => exact h1
  | 1, _ => exact h2
theorem tup3 {a b c : AV} {v u x : Value} (h1 : M.rel a v) (h2 : M.rel b u) (h3 : M.rel c x) : M.rel (.tup [a, b, c]) (.tuple #[v, u, x]) := by
  refine .tup rfl (fun i g1 g2 => ?_)
  match i, g1 with
  | 0, _ => exact h1
  | 1, _ => exact h2
  | 2, _ => exact h3
theorem tup1 {a : AV} {v : Value} (h1 : M.rel a v) : M.rel (.tup [a]) (.tuple #[v]) := by
  refine .tup rfl (fun i g1 g2 => ?_)
  match i, g1 with
  | 0, _ => exact h1

theorem MERelL.filter {p : Nat → Bool} : ∀ {es : List ME} {es' : List MapEntry}, MERelL M es es' → MERelL M (es.filter fun e => p e.born) (es'.filter fun e => p e.born)
  | [], es', h => by
    have : es' = [] := List.eq_nil_of_length_eq_zero h.1
    subst this; exact h
  | e :: es, es', h => by
    match es', h with
    | [], h => simp [MERelL] at h
    | e' :: es', h =>
      have ih := MERelL.filter (p := p) h.tail
      have h0 := h.2 0 e e' rfl rfl
      simp only [List.filter_cons, h0.2.2]
      cases p e.born
      · exact ih
      · refine ⟨by simp [ih.1], fun i a b g1 g2 => ?_⟩
        cases i with
        | zero => simp at g1 g2; subst g1; subst g2; exact h0
        | succ i => exact ih.2 i a b (by simpa using g1) (by simpa using g2)
theorem MERelL.append {es fs : List ME} {es' fs' : List MapEntry} (h : MERelL M es es') (k : MERelL M fs fs') : MERelL M (es ++ fs) (es' ++ fs') := by
  refine ⟨by simp [h.1, k.1], fun i a b g1 g2 => ?_⟩
  by_cases hi : i < es.length
  · rw [List.getElem?_append_left hi] at g1
    rw [List.getElem?_append_left (by rw [h.1]; exact hi)] at g2
    exact h.2 i a b g1 g2
  · rw [List.getElem?_append_right (by omega)] at g1
    rw [List.getElem?_append_right (by rw [h.1]; omega), h.1] at g2
    exact k.2 _ a b g1 g2
theorem MERelL.all {p : Nat → Bool} : ∀ {es : List ME} {es' : List MapEntry}, MERelL M es es' → (es'.all fun e => p e.born) = (es.all fun e => p e.born)
  | [], es', h => by
    have : es' = [] := List.eq_nil_of_length_eq_zero h.1
    subst this; rfl
  | e :: es, es', h => by
    match es', h with
    | [], h => simp [MERelL] at h
    | e' :: es', h =>
      have h0 := h.2 0 e e' rfl rfl
      simp only [List.all_cons, h0.2.2, MERelL.all (p := p) h.tail]
theorem MERelL.find {p : Nat → Bool} : ∀ {es : List ME} {es' : List MapEntry} {e : ME}, MERelL M es es' → (es.find? fun e => p e.born) = some e → ∃ e', (es'.find? fun e => p e.born) = some e' ∧ M.rel e.key e'.key ∧ M.rel e.val e'.val
  | [], _, _, _, h => by simp at h
  | x :: es, es', e, h, hf => by
    match es', h with
    | [], h => simp [MERelL] at h
    | e' :: es', h =>
      have h0 := h.2 0 x e' rfl rfl
      simp only [List.find?_cons, h0.2.2] at hf ⊢
      cases hp : p x.born
      · rw [hp] at hf; exact MERelL.find h.tail hf
      · rw [hp] at hf
        simp only [Option.some.injEq] at hf; subst hf
        exact ⟨e', rfl, h0.1, h0.2.1⟩

theorem getSome {α : Type} {l : List α} {c : Nat} {x : Option α} (h : (l.map some)[c]? = some x) : l[c]? = x ∧ x ≠ none := by
  rw [List.getElem?_map] at h
  cases hl : l[c]? with
  | none => rw [hl] at h; cases h
  | some y => rw [hl] at h; simp only [Option.map_some, Option.some.injEq] at h; subst h; exact ⟨rfl, by simp⟩

set_option maxHeartbeats 1000000 in
theorem next_map (inv : Inv G M al hp W w) {key m : Nat} {b : Nat} (hL : M.L key = some b) {since last : Nat} {seen : List Nat} (hk : hp key = some (.mit m since seen last)) {es : List ME} {clock : Nat} (hm : hp m = some (.map es clock)) (ty : TypeId)
    (hg : ¬ (!seen.isEmpty && !es.isEmpty && es.all (fun e => decide (e.born ≥ last))) = true) :
    ∃ v u, (v, u) ∈ (if ((es.filter fun e => !seen.contains e.born).filter (fun e => decide (e.born < since))).isEmpty then [(AV.tup [.bool false], ([] : List (Nat × Option Blk)))] else []) ++
        (((es.filter fun e => !seen.contains e.born).filter (fun e => decide (e.born < since))) ++ ((es.filter fun e => !seen.contains e.born).filter (fun e => decide (e.born ≥ since)))).map
          (fun e => (AV.tup [.bool true, e.key, e.val], [(key, some (Blk.mit m since (seen ++ [e.born]) clock))])) ∧
      ∃ v' w', (Instr.next (.pointer (some ⟨b, 0, none⟩)) false ty).run P w = .ok v' w' ∧ Inv G M al (updH hp u) W w' ∧ M.rel v v' := by
  obtain ⟨ob, hb, hlive⟩ := iter_at inv hL rfl hk
  cases ob <;> simp only [LiveAs] at hlive
  obtain ⟨⟨bm, hLm, hs0⟩, hs1, hs2, hs3⟩ := hlive
  rw [hs0, hs1, hs2, hs3] at hb
  obtain ⟨es', hbm, hr⟩ := map_at inv hLm hm
  have hl := hr.toL
  have hleft := MERelL.filter (p := fun n => !seen.contains n) hl
  have hold := MERelL.filter (p := fun n => decide (n < since)) hleft
  have hnew := MERelL.filter (p := fun n => decide (n ≥ since)) hleft
  have hall := hold.append hnew
  have hg' : (!(seen.toArray.isEmpty) && !es'.isEmpty && es'.all (fun e => decide (e.born ≥ last))) = false := by
    have e1 : seen.toArray.isEmpty = seen.isEmpty := by cases seen <;> rfl
    have e2 := isEmpty_rel hr
    have e3 := MERelL.all (p := fun n => decide (n ≥ last)) hl
    rw [e1, e2, ← Array.all_toList, e3]
    simpa using hg
  have hchoose : ∀ (N : Nat), 0 < N → ∃ c w2, (choose (.mapNext N)).run P w = .ok c w2 ∧ c < N ∧ (w2 = w ∨ w2 = w.drew) := by
    intro N hN
    rw [run_choose_drew]
    by_cases hf : (Question.mapNext N).forced = true
    · rw [if_pos hf]; exact ⟨0, w, rfl, hN, .inl rfl⟩
    · rw [if_neg hf]; exact ⟨_, _, rfl, Nat.mod_lt _ hN, .inr rfl⟩
  let left' := es'.filter fun e => !seen.toArray.contains e.born
  let old' := left'.filter (fun e => decide (e.born < since))
  let new' := left'.filter (fun e => decide (e.born ≥ since))
  let cand := (if old'.isEmpty then #[none] else #[]) ++ (old' ++ new').map some
  have hleft' : left'.toList = es'.toList.filter fun e => !seen.contains e.born := by
    show (es'.filter _).toList = _
    rw [Array.toList_filter]
    congr 1; funext e
    simp
  have hold' : old'.toList = (es'.toList.filter fun e => !seen.contains e.born).filter (fun e => decide (e.born < since)) := by
    show (left'.filter _).toList = _
    rw [Array.toList_filter, hleft']
  have hnew' : new'.toList = (es'.toList.filter fun e => !seen.contains e.born).filter (fun e => decide (e.born ≥ since)) := by
    show (left'.filter _).toList = _
    rw [Array.toList_filter, hleft']
  have hemp : old'.isEmpty = ((es.filter fun e => !seen.contains e.born).filter (fun e => decide (e.born < since))).isEmpty := by
    have h1 := hold.1
    have h2 : old'.size = old'.toList.length := by simp
    rw [← hold'] at h1
    generalize (es.filter fun e => !seen.contains e.born).filter (fun e => decide (e.born < since)) = o at h1
    cases o <;> simp_all [Array.isEmpty]
  have hpos : 0 < cand.size := by
    show 0 < ((if old'.isEmpty then #[none] else #[]) ++ (old' ++ new').map some).size
    cases he : old'.isEmpty with
    | true => simp; omega
    | false =>
      have : 0 < old'.size := by
        rcases Nat.eq_zero_or_pos old'.size with h | h
        · simp [Array.isEmpty, h] at he
        · exact h
      simp; omega
  obtain ⟨c, w2, hc1, hc2, hw2⟩ := hchoose cand.size hpos
  have inv2 : Inv G M al hp W w2 := by
    rcases hw2 with rfl | rfl
    · exact inv
    · exact inv.drew
  have hb2 : w2.heap[b]? = some (.mapIter (some bm) since seen.toArray last) := by
    rcases hw2 with rfl | rfl <;> exact hb
  have hcand : cand[c]? = some cand[c] := Array.getElem?_eq_getElem hc2
  have hrun : (Instr.next (.pointer (some ⟨b, 0, none⟩)) false ty).run P w = (match cand[c] with
      | some e => (do
        setObj b (.mapIter (some bm) since (seen.toArray.push e.born) clock)
        pure (.tuple #[.bool true, e.key, e.val]) : Sem Value)
      | none => pure (.tuple #[.bool false])).run P w2 := by
    simp only [Instr.next, Sem.run_bind, getObj, Sem.run, hb, Result.andThen_ok, hbm]
    rw [if_neg (by rw [hg']; simp)]
    simp only [Sem.run_bind]
    show ((choose (.mapNext cand.size)).run P w).andThen _ = _
    rw [hc1]
    simp only [Result.andThen_ok]
    show Sem.run P (match cand[c]? with
      | some (some e) => _
      | some none => _
      | none => _) w2 = _
    rw [hcand]
    cases cand[c] <;> rfl
  have hlist : cand.toList = (if old'.isEmpty then [none] else []) ++ (old'.toList ++ new'.toList).map some := by
    show ((if old'.isEmpty then #[none] else #[]) ++ (old' ++ new').map some).toList = _
    cases old'.isEmpty <;> simp
  have hget : cand.toList[c]? = some cand[c] := by simp
  rw [hlist] at hget
  generalize cand[c] = x at hrun hget
  cases x with
  | none =>
    refine ⟨.tup [.bool false], [], ?_, .tuple #[.bool false], w2, hrun, inv2, tup1 .bool⟩
    cases he : old'.isEmpty with
    | true => rw [← hemp, he]; simp
    | false =>
      rw [he] at hget
      simp only [Bool.false_eq_true, if_false, List.nil_append] at hget
      exact absurd rfl (getSome hget).2
  | some e' =>
    have hmem : ∃ i : Nat, (old'.toList ++ new'.toList)[i]? = some e' := by
      cases he : old'.isEmpty with
      | true =>
        rw [he] at hget
        cases c with
        | zero => simp at hget
        | succ c =>
          simp only [if_true, List.singleton_append, List.getElem?_cons_succ] at hget
          exact ⟨c, (getSome hget).1⟩
      | false =>
        rw [he] at hget
        simp only [Bool.false_eq_true, if_false, List.nil_append] at hget
        exact ⟨c, (getSome hget).1⟩
    obtain ⟨i, hi⟩ := hmem
    rw [hold', hnew'] at hi
    have hlt : i < (((es.filter fun e => !seen.contains e.born).filter (fun e => decide (e.born < since))) ++ ((es.filter fun e => !seen.contains e.born).filter (fun e => decide (e.born ≥ since)))).length := by
      rw [← hall.1]; exact (List.getElem?_eq_some_iff.1 hi).1
    have hrel := hall.2 i _ e' (List.getElem?_eq_getElem hlt) hi
    refine ⟨_, _, List.mem_append_right _ (List.mem_map.2 ⟨_, List.getElem_mem hlt, rfl⟩), .tuple #[.bool true, e'.key, e'.val], w2.putObj b (.mapIter (some bm) since (seen.toArray.push e'.born) clock), ?_, ?_, tup3 .bool hrel.1 hrel.2.1⟩
    · rw [hrun]
      simp [setObj, Sem.run, hb2, World.putObj]
    · refine inv2.turn (old := .mit m since seen last) hk hL rfl rfl rfl rfl rfl (fun q hq => World.putObj_heap_other hq) (World.putObj_heap_same (lt_of_heap hb2)) ?_
      exact ⟨⟨bm, hLm, rfl⟩, rfl, by rw [hrel.2.2]; simp, rfl⟩
set_option maxHeartbeats 1000000 in
theorem aop4_ok (inv : Inv G M al hp W w) {nx : Nat} {s : List AV} {a : Act} (rs : RelS M s a.tmps) {o : Oper} {res : Res} (h : aop4 P G s hp o = some res) :
    ResOk P G M al hp W nx w ((execOp a.eval o).run P w) res := by
  obtain ⟨dst, op, ty, pos, after, guard⟩ := o
  unfold aop4 at h
  cases op <;> simp only at h <;> try (cases h; done)
  case next it str =>
    have hit := ev_rel (P := P) inv rs 0 it
    split at h
    · rename_i key hk
      rw [hk] at hit
      generalize hva : a.eval it = vi at hit
      cases hit with
      | @ptr _ _ _ _ b hL =>
        split at h
        · rename_i q pos' hq
          obtain ⟨ob, hb, hlive⟩ := iter_at inv hL rfl hq
          cases ob <;> simp only [LiveAs] at hlive
          obtain ⟨e1, e2⟩ := hlive
          rw [e1, e2] at hb
          split at h
          · rename_i hlt
            simp only [Option.some.injEq] at h; subst h
            have inv' := inv.turn (w' := w.putObj b (.stringIter q (pos' + (Utf8.decode q pos').2))) (new := .sit q (pos' + (Utf8.decode q pos').2)) hq hL rfl rfl rfl rfl rfl (fun q hq => World.putObj_heap_other hq) (World.putObj_heap_same (lt_of_heap hb)) ⟨rfl, rfl⟩
            exact ⟨.tuple #[.bool true, .int .i64 pos', .int .i32 (Utf8.decode q pos').1], w.putObj b (.stringIter q (pos' + (Utf8.decode q pos').2)), M, by simp [execOp, hva, Instr.next, getObj, setObj, Sem.run, hb, hlt, World.putObj, goInt], M.le_refl, inv'.more fun k hk => .inl hk, tup3 .bool .int .int⟩
          · rename_i hlt
            simp only [Option.some.injEq] at h; subst h
            exact resOk_same inv (v := .tuple #[.bool false]) (by simp [execOp, hva, Instr.next, getObj, Sem.run, hb, hlt]) (tup1 .bool)
        · rename_i hq
          obtain ⟨ob, hb, hlive⟩ := iter_at inv hL rfl hq
          cases ob <;> simp only [LiveAs] at hlive
          subst hlive
          simp only [Option.some.injEq] at h; subst h
          exact resOk_same inv (v := .tuple #[.bool false]) (by simp [execOp, hva, Instr.next, getObj, Sem.run, hb]) (tup1 .bool)
        · rename_i m since seen last hq
          split at h
          · rename_i es clock hm
            split at h
            · cases h
            · rename_i hg
              simp only [Option.some.injEq] at h; subst h
              obtain ⟨v, u, h1, v', w', h2, h3, h4⟩ := next_map (P := P) inv hL hq hm ty hg
              exact ⟨v, u, h1, v', w', M, by simp [execOp, hva, h2], M.le_refl, h3.more fun k hk => .inl hk, h4⟩
          · cases h
        · cases h
    · cases h
  case entry it =>
    have hit := ev_rel (P := P) inv rs 0 it
    split at h
    · rename_i key hk
      rw [hk] at hit
      generalize hva : a.eval it = vi at hit
      cases hit with
      | @ptr _ _ _ _ b hL =>
        split at h
        · rename_i m since seen stepped hq
          split at h
          · rename_i st es clock hst hm
            split at h
            · rename_i hcl
              split at h
              · rename_i e he
                simp only [Option.some.injEq] at h; subst h
                obtain ⟨ob, hb, hlive⟩ := iter_at inv hL rfl hq
                cases ob <;> simp only [LiveAs] at hlive
                obtain ⟨⟨bm, hLm, hs0⟩, hs1, hs2, hs3⟩ := hlive
                rw [hs0, hs1, hs2, hs3] at hb
                obtain ⟨es', hbm, hr⟩ := map_at inv hLm hm
                obtain ⟨e', q1, q2, q3⟩ := MERelL.find (p := fun n => n == st) hr.toL he
                have hback : seen.toArray.back? = some st := by simp [hst]
                have hfind : es'.find? (fun e => e.born == st) = some e' := by rw [← Array.find?_toList]; exact q1
                exact resOk_same inv (v := .tuple #[e'.key, e'.val]) (by simp [execOp, hva, Instr.entry, getObj, Sem.run, hb, hbm, hst, hfind, hcl]) (tup2 q2 q3)
              · cases h
            · cases h
          · cases h
        · cases h
    · cases h

theorem aopD_ok (inv : Inv G M al hp W w) {nx : Nat} (hn : ¬ al nx) {s : List AV} {a : Act} (rs : RelS M s a.tmps) {o : Oper} {res : Res} (h : aopD P G s hp nx o = some res) :
    ResOk P G M al hp W nx w ((execOp a.eval o).run P w) res := by
  unfold aopD at h
  cases h1 : aop1 P G s hp nx o with
  | some r => rw [h1] at h; simp only [Option.some.injEq] at h; subst h; exact aop1_ok inv hn rs h1
  | none =>
    rw [h1] at h
    cases h2 : aop2 P G s hp nx o with
    | some r => rw [h2] at h; simp only [Option.some.injEq] at h; subst h; exact aop2_ok inv hn rs h2
    | none => rw [h2] at h; exact aop3_ok inv hn rs h
theorem aop_ok (inv : Inv G M al hp W w) {nx : Nat} (hn : ¬ al nx) {s : List AV} {a : Act} (rs : RelS M s a.tmps) {o : Oper} {res : Res} (h : aop P G s hp nx o = some res) :
    ResOk P G M al hp W nx w ((execOp a.eval o).run P w) res := by
  unfold aop at h
  cases h1 : aopD P G s hp nx o with
  | some r => rw [h1] at h; simp only [Option.some.injEq] at h; subst h; exact aopD_ok inv hn rs h1
  | none => rw [h1] at h; exact aop4_ok inv rs h

end Go.Proofs.Pv
