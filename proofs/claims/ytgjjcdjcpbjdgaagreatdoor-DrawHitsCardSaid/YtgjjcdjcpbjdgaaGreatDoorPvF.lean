/-
  The abstract machine, part F: more operations of the abstract machine are what the model does: indexes, slices, numbers.
  Conditions: the invariant 'Inv' and related slots.
-/
import Derived.Test.YtgjjcdjcpbjdgaaGreatDoorPvE
import Derived.Laws.StructEq
namespace Go.Proofs.Pv
set_option linter.unusedVariables false
set_option linter.unusedSimpArgs false
open Go
variable {P : Program} {G : Nat → Option (List AV)} {M : Mem} {al : Nat → Prop} {hp : Hp} {W w : World}

theorem Rel.vp_row {I : Imm} {L : Lo} {T : To} {k : Nat} {rows : List AV} {b o : Nat} (vs : Nat → Value)
    (hI : ∀ q, q < rows.length * k → I b (o + q) = some (vs q)) (hk : ∀ r ∈ rows, r.cells.length = k)
    (hR : ∀ j i (hj : j < rows.length) (hi : i < (rows[j]).cells.length), Rel I noL noT ((rows[j]).cells[i]) (vs (j * k + i)))
    (j : Nat) (hj : j < rows.length) : Rel I L T (.vp (rows[j]).cells) (.pointer (some ⟨b, o + j * k, none⟩)) := by
  have hl := hk _ (List.getElem_mem hj)
  refine .vp (fun q => vs (j * k + q)) (fun q hq => ?_) (fun i hi => hR j i hj hi)
  rw [Nat.add_assoc]
  refine hI _ ?_
  rw [hl] at hq
  calc j * k + q < j * k + k := by omega
    _ = (j + 1) * k := by rw [Nat.add_mul]; omega
    _ ≤ rows.length * k := Nat.mul_le_mul_right _ hj

theorem indexAt_ok {t : TypeId} {x i av : AV} {vx vi : Value} (hx : M.rel x vx) (hi : M.rel i vi) (h : aiaddr P t x i = some av) :
    ∃ v, (Instr.indexAt t vx vi).run P w = .ok v w ∧ M.rel av v := by
  unfold aiaddr at h
  split at h
  case h_2 => cases h
  rename_i q i
  cases hi
  split at h
  · rename_i e k rows tk hu
    split at h
    · rename_i n hn
      split at h
      · rename_i hc
        obtain ⟨rfl, h0⟩ := hc
        split at h
        · rename_i r hr
          simp only [Option.some.injEq] at h; subst h
          obtain ⟨hlt, hr'⟩ := List.getElem?_eq_some_iff.1 hr
          subst hr'
          cases hx with
          | @sl _ _ _ c A _ _ b o vs hc hA hI hk hP hR ht =>
            have hA' := hA (by intro e; rw [e] at hlt; simp at hlt)
            subst hA'
            refine ⟨.pointer (some ⟨b, o + i.toNat * n, none⟩), ?_, Rel.vp_row vs hI hk hR _ hlt⟩
            have hlt2 : i < (rows.length : Int) := by omega
            simp [Instr.indexAt, asIntOf, run_und hu, h0, hlt2, run_sizeOf hn, Addr.add_none]
        · cases h
      · cases h
    · cases h
  · rename_i e key off n k hu
    split at h
    · rename_i hc
      obtain ⟨hn, h0, h1⟩ := hc
      simp only [Option.some.injEq] at h; subst h
      cases hx with
      | @msl _ _ _ _ _ _ b c z hL hT hz hc =>
        refine ⟨.pointer (some ⟨b, off + i.toNat * k, none⟩), ?_, .ptr hL⟩
        simp [Instr.indexAt, asIntOf, run_und hu, h0, h1, run_sizeOf hn, Addr.add_none]
    · cases h
  · rename_i n e key off hu
    split at h
    · rename_i k hn
      split at h
      · rename_i hc
        obtain ⟨h0, h1⟩ := hc
        simp only [Option.some.injEq] at h; subst h
        cases hx with
        | @ptr _ _ _ _ b hL =>
          refine ⟨.pointer (some ⟨b, off + i.toNat * k, none⟩), ?_, .ptr hL⟩
          simp [Instr.indexAt, asIntOf, run_und hu, h0, h1, run_sizeOf hn, Addr.add_none, Instr.sureAddr]
      · cases h
    · cases h
  · rename_i n e cs hu
    split at h
    · rename_i k hn
      split at h
      · rename_i hc
        obtain ⟨h0, h1, h2⟩ := hc
        simp only [Option.some.injEq] at h; subst h
        cases hx with
        | @vp _ _ _ b o vs hI hR =>
          refine ⟨.pointer (some ⟨b, o + i.toNat * k, none⟩), ?_, Rel.vp_drop vs hI hR _⟩
          simp [Instr.indexAt, asIntOf, run_und hu, h0, h1, run_sizeOf hn, Addr.add_none, Instr.sureAddr]
      · cases h
    · cases h
  · cases h

theorem index_ok {t : TypeId} {x i av : AV} {vx vi : Value} (hx : M.rel x vx) (hi : M.rel i vi) (h : aindex P t x i = some av) :
    ∃ v, (Instr.index t vx vi).run P w = .ok v w ∧ M.rel av v := by
  unfold aindex at h
  split at h
  case h_2 => cases h
  rename_i q i
  cases hi
  split at h
  · rename_i n e cs hu
    split at h
    · rename_i k hn
      split at h
      · rename_i hc
        obtain ⟨h0, h1⟩ := hc
        cases hx with
        | agg hs hr =>
          obtain ⟨v, h3, h4⟩ := part_ok (P := P) (w := w) hs hr h
          exact ⟨v, by simp [Instr.index, asIntOf, run_und hu, h0, h1, run_sizeOf hn, h3], h4⟩
      · cases h
    · cases h
  · rename_i s hu
    split at h
    · rename_i h0
      split at h
      · rename_i b hb
        simp only [Option.some.injEq] at h; subst h
        cases hx
        refine ⟨.int .u8 b.toNat, ?_, .int⟩
        simp [Instr.index, asIntOf, run_und hu, h0, hb]
      · cases h
    · cases h
  · cases h

/-! ### Numbers, bools, strings -/
theorem arith_ok {op : BinOp} {k : IntKind} {a b : Int} {av : AV} (h : aarith op k a b = some av) (h1 : op ≠ .shl) (h2 : op ≠ .shr) (t : TypeId) :
    ∃ v, (binOp op t (.int k a) (.int k b)).run P w = .ok v w ∧ M.rel av v := by
  cases op <;> simp only [aarith] at h <;> first
    | (cases h; done)
    | (exact absurd rfl h1)
    | (exact absurd rfl h2)
    | (simp only [Option.some.injEq] at h; subst h; exact ⟨.int _ _, by simp [binOp, Op.intArith, Op.intBits]; done, .int⟩)
    | (simp only [Option.some.injEq] at h; subst h; exact ⟨.bool _, by simp [binOp, Op.intCmp]; done, .bool⟩)
    | (split at h
       · cases h
       · rename_i hb; simp only [Option.some.injEq] at h; subst h; exact ⟨.int _ _, by simp [binOp, Op.intDiv, hb]; done, .int⟩)

theorem str_ok {op : BinOp} {a b : ByteArray} {av : AV} (h : astr op a b = some av) (t : TypeId) :
    ∃ v, (binOp op t (.string a) (.string b)).run P w = .ok v w ∧ M.rel av v := by
  cases op <;> simp only [astr] at h <;> first
    | (cases h; done)
    | (simp only [Option.some.injEq] at h; subst h; exact ⟨.bool _, by simp [binOp, Op.stringOp]; done, .bool⟩)
    | (split at h
       · cases h
       · rename_i hb; simp only [Option.some.injEq] at h; subst h; exact ⟨.string _, by simp only [binOp, Op.stringOp, hb, if_false]; rfl, .str⟩)

theorem partA_sz {t : TypeId} {cs : List AV} {off : Nat} {av : AV} (h : partA P t cs off = some av) : ∃ d, P.underlying t = some d := by
  unfold partA at h
  split at h
  · cases h
  · rename_i n hn; exact sz_und hn

def EqOk (P : Program) (w : World) (d D : Nat) : Prop := ∀ {I : Imm} {L : Lo} {T : To} (t : TypeId) (x y : AV) (vx vy : Value) (b : Bool), Rel I L T x vx → Rel I L T y vy → aeq P d t x y = some b →
    (Op.equalIn D t vx vy).run P w = .ok b w

theorem aeqF_ok {d D : Nat} (ih : EqOk P w d D) {I : Imm} {L : Lo} {T : To} (xs ys : List AV) (vx vy : Array Value) (h1 : vx.size = xs.length) (h2 : ∀ i (h : i < xs.length) (h' : i < vx.size), Rel I L T xs[i] vx[i])
    (h3 : vy.size = ys.length) (h4 : ∀ i (h : i < ys.length) (h' : i < vy.size), Rel I L T ys[i] vy[i]) : ∀ (fs : List Field) (b : Bool), aeqF P (aeq P d) fs xs ys = some b → (Op.eqFields D vx vy fs).run P w = .ok b w
  | [], b, h => by simp [aeqF] at h; subst h; simp [Op.eqFields]
  | f :: fs, b, h => by
    unfold aeqF at h
    split at h
    · cases h
    · rename_i hf
      split at h
      · rename_i a1 a2 ha hb
        obtain ⟨v1, g1, g2⟩ := part_ok (P := P) (w := w) h1 h2 ha
        obtain ⟨v2, g3, g4⟩ := part_ok (P := P) (w := w) h3 h4 hb
        split at h
        · rename_i r r' hr hr'
          simp only [Option.some.injEq] at h; subst h
          have e1 := ih f.type a1 a2 v1 v2 r g2 g4 hr
          have e2 := aeqF_ok ih xs ys vx vy h1 h2 h3 h4 fs r' hr'
          simp only [Op.eqFields, hf, ne_eq, not_false_eq_true, if_true, Sem.run_bind, g1, g3, e1, Result.andThen_ok]
          cases r
          · simp
          · simp [e2]
        · cases h
      · cases h

theorem aeq_ok : ∀ (d D : Nat), d ≤ D → EqOk P w d D
  | 0, _, _ => by intro t x y vx vy b _ _ h; simp [aeq] at h
  | d + 1, D, hD => by
    intro t x y vx vy b hx hy h
    obtain ⟨D, rfl⟩ : ∃ D', D = D' + 1 := ⟨D - 1, by omega⟩
    unfold aeq at h
    split at h
    · rename_i hu; cases hx; cases hy; simp only [Option.some.injEq] at h; subst h; simp [Op.equalIn, run_und hu]
    · rename_i hu; cases hx; cases hy
      split at h
      · rename_i hk; subst hk; simp only [Option.some.injEq] at h; subst h; simp [Op.equalIn, run_und hu]
      · cases h
    · rename_i hu; cases hx; cases hy; simp only [Option.some.injEq] at h; subst h; simp [Op.equalIn, run_und hu]
    · rename_i fs xs ys hu
      split at h
      · cases h
      · rename_i hst
        have hf : P.fieldsOf t = fs := by simp [Program.fieldsOf, hu]
        cases hx with
        | agg hs1 hr1 =>
          cases hy with
          | agg hs2 hr2 =>
            rw [run_equalIn_struct w D t _ _ (by rw [hf]; exact hu) (by simpa using hst), hf]
            exact aeqF_ok (aeq_ok d D (by omega)) xs ys _ _ hs1 hr1 hs2 hr2 fs.toList b h
    · cases h

theorem eqGuard_plain {op : BinOp} {t : TypeId} {x y : Operand} {a b : Value} (h : ¬ (a = .nilIface ∧ b = .nilIface)) (hg : ∀ xs ys, a = .agg xs → b = .agg ys → P.eqGuardType P.depth t = false) :
    (eqGuard op t x y a b).run P w = .ok () w := by
  cases op <;> simp [eqGuard] <;> split <;> first
    | exact absurd ⟨rfl, rfl⟩ h
    | (simp [run_program, hg _ _ rfl rfl]; done)
    | simp

theorem eq_nil (d : Nat) {t e : TypeId} (hu : P.underlying t = some (.pointer e)) (A : Option Addr) : (Op.equalIn (d + 1) t (.pointer A) (.pointer none)).run P w = .ok A.isNone w := by
  cases A <;> simp [Op.equalIn, run_und hu]
theorem eql_def (t : TypeId) (x y : Value) (h : ∀ a b, ¬ (x = .string a ∧ y = .string b)) (h2 : ∀ k a k' b, ¬ (x = .int k a ∧ y = .int k' b)) (h3 : ∀ k a k' b, ¬ (x = .float k a ∧ y = .float k' b))
    (h4 : ∀ k a c k' b d, ¬ (x = .complex k a c ∧ y = .complex k' b d)) {b : Bool} (he : (Op.equalIn 10000 t x y).run P w = .ok b w) :
    (binOp .eql t x y).run P w = .ok (.bool b) w ∧ (binOp .neq t x y).run P w = .ok (.bool (!b)) w := by
  constructor
  · cases x <;> cases y <;> first
      | (exfalso; exact h _ _ ⟨rfl, rfl⟩)
      | (exfalso; exact h2 _ _ _ _ ⟨rfl, rfl⟩)
      | (exfalso; exact h3 _ _ _ _ ⟨rfl, rfl⟩)
      | (exfalso; exact h4 _ _ _ _ _ _ ⟨rfl, rfl⟩)
      | (simp only [binOp, Op.equal, Op.maxDepth, Sem.run_bind, he, Result.andThen_ok, Sem.run_pure]; done)
  · cases x <;> cases y <;> first
      | (exfalso; exact h _ _ ⟨rfl, rfl⟩)
      | (exfalso; exact h2 _ _ _ _ ⟨rfl, rfl⟩)
      | (exfalso; exact h3 _ _ _ _ ⟨rfl, rfl⟩)
      | (exfalso; exact h4 _ _ _ _ _ _ ⟨rfl, rfl⟩)
      | (simp only [binOp, Op.equal, Op.maxDepth, Sem.run_bind, he, Result.andThen_ok, Sem.run_pure]; done)

theorem binOp_ok {op : BinOp} {t : TypeId} {ox oy : Operand} {x y av : AV} {vx vy : Value} (hx : M.rel x vx) (hy : M.rel y vy) (h : abin P op t x y = some av) :
    ∃ v, (do eqGuard op t ox oy vx vy; binOp op t vx vy : Sem Value).run P w = .ok v w ∧ M.rel av v := by
  unfold abin at h
  split at h
  · rename_i k a k' b
    cases hx; cases hy
    have hg : (eqGuard op t ox oy (.int k a) (.int k' b)).run P w = .ok () w := eqGuard_plain (by simp) (by simp)
    simp only [Sem.run_bind, hg, Result.andThen_ok]
    split at h
    · split at h
      · cases h
      · rename_i hb; simp only [Option.some.injEq] at h; subst h
        exact ⟨_, by simp [binOp, Op.shift, hb], .int⟩
    · split at h
      · cases h
      · rename_i hb; simp only [Option.some.injEq] at h; subst h
        exact ⟨_, by simp [binOp, Op.shift, hb], .int⟩
    · rename_i h1 h2
      split at h
      · rename_i hk; subst hk; exact arith_ok h h1 h2 t
      · cases h
  · rename_i a b
    cases hx; cases hy
    have hg : (eqGuard op t ox oy (.string a) (.string b)).run P w = .ok () w := eqGuard_plain (by simp) (by simp)
    simp only [Sem.run_bind, hg, Result.andThen_ok]
    exact str_ok h t
  · rename_i a b
    cases hx; cases hy
    have hg : (eqGuard op t ox oy (.bool a) (.bool b)).run P w = .ok () w := eqGuard_plain (by simp) (by simp)
    simp only [Sem.run_bind, hg, Result.andThen_ok]
    split at h
    · rename_i hu; simp only [Option.some.injEq] at h; subst h
      exact ⟨_, (eql_def t _ _ (by simp) (by simp) (by simp) (by simp) (run_equalIn_bool w 9999 t a b hu)).1, .bool⟩
    · rename_i hu; simp only [Option.some.injEq] at h; subst h
      exact ⟨_, (eql_def t _ _ (by simp) (by simp) (by simp) (by simp) (run_equalIn_bool w 9999 t a b hu)).2, .bool⟩
    · cases h
  · rename_i xs ys
    cases hx with
    | agg hs1 hr1 =>
      cases hy with
      | agg hs2 hr2 =>
        split at h
        · split at h
          · cases h
          · rename_i he
            cases hq : aeq P 9 t (.agg xs) (.agg ys) with
            | none => simp [hq] at h
            | some b =>
              simp only [hq, Option.map_some, Option.some.injEq] at h; subst h
              have := aeq_ok (w := w) 9 10000 (by omega) t _ _ _ _ b (Rel.agg hs1 hr1) (Rel.agg hs2 hr2) hq
              refine ⟨.bool b, ?_, .bool⟩
              rw [Sem.run_bind, eqGuard_plain (by simp) (fun _ _ _ _ => by simpa using he), Result.andThen_ok, run_eql_struct, this]; rfl
        · split at h
          · cases h
          · rename_i he
            cases hq : aeq P 9 t (.agg xs) (.agg ys) with
            | none => simp [hq] at h
            | some b =>
              simp only [hq, Option.map_some, Option.some.injEq] at h; subst h
              have := aeq_ok (w := w) 9 10000 (by omega) t _ _ _ _ b (Rel.agg hs1 hr1) (Rel.agg hs2 hr2) hq
              refine ⟨.bool (!b), ?_, .bool⟩
              rw [Sem.run_bind, eqGuard_plain (by simp) (fun _ _ _ _ => by simpa using he), Result.andThen_ok, run_neq_struct, this]; rfl
        · cases h
  · cases hy
    split at h
    all_goals first
      | (cases h; done)
      | (rename_i hu
         cases hx
         simp only [Option.some.injEq] at h; subst h
         first
           | exact ⟨.bool _, by rw [Sem.run_bind, eqGuard_plain (by simp) (by simp), Result.andThen_ok]; exact (eql_def t _ _ (by simp) (by simp) (by simp) (by simp) (eq_nil 9999 hu _)).1, .bool⟩
           | exact ⟨.bool _, by rw [Sem.run_bind, eqGuard_plain (by simp) (by simp), Result.andThen_ok]; exact (eql_def t _ _ (by simp) (by simp) (by simp) (by simp) (eq_nil 9999 hu _)).2, .bool⟩)
  · cases h

theorem unOp_ok {op : UnOp} {x av : AV} {vx : Value} (hx : M.rel x vx) (h : aun op x = some av) : ∃ v, (Op.unary op vx).run P w = .ok v w ∧ M.rel av v := by
  unfold aun at h
  split at h
  · cases hx; simp only [Option.some.injEq] at h; subst h; exact ⟨.int _ _, by simp [Op.unary, Op.intArith]; done, .int⟩
  · cases hx; simp only [Option.some.injEq] at h; subst h; exact ⟨.bool _, by simp [Op.unary]; done, .bool⟩
  · cases hx; simp only [Option.some.injEq] at h; subst h; exact ⟨.int _ _, by simp [Op.unary, Op.intBits]; done, .int⟩
  · cases h

end Go.Proofs.Pv
