/-
  The abstract machine, part A: values without memory, what relates them to the model's values, and the state of the abstract heap.
  Conditions: none; definitions and lemmas alone.
-/
import Derived.RangeFuncLeaves
import Derived.Laws.Cells
import Derived.Laws.World
import Derived.Laws.Sem
import Derived.OrdersIn
namespace Go.Proofs.Pv
set_option linter.unusedVariables false
set_option linter.unusedSimpArgs false
open Go

/-- Whose is the room behind a slice: nobody's that is known; there is none; token t's; there is none, and what is made of it by append may change. -/
inductive Tk where
  | none | full | tok (t : Nat) | mut
  deriving DecidableEq, Repr

inductive AV where
  | undef
  | int (k : IntKind) (n : Int)
  | bool (b : Bool)
  | str (s : ByteArray)
  | sl (k : Nat) (rows : List AV) (t : Tk)
  | msl (key off n k : Nat)
  | vp (cells : List AV)
  | ptr (key off : Nat)
  | nilp
  | fn (f : FuncId) (first captured : List AV)
  | yld (key : Nat)
  | nilf
  | map (key : Nat)
  | nilm
  | agg (cells : List AV)
  | tup (vs : List AV)
  | nili
  | ifc (t : TypeId) (v : AV)
  deriving Inhabited

def AV.cells : AV → List AV
  | .agg cs => cs
  | x => [x]

/-- One cell's value, known. -/
def AV.one : AV → Bool
  | .undef | .agg _ | .tup _ => false
  | _ => true

mutual
/-- One cell's value that leads to no block that may change. -/
def AV.pure : AV → Bool
  | .int _ _ | .bool _ | .str _ | .nilp | .nilf | .nilm | .nili | .vp _ => true
  | .sl _ _ (.tok _) => false
  | .sl _ _ _ => true
  | .fn _ first cap => AV.pureL first && AV.pureL cap
  | .ifc _ v => v.pure
  | _ => false
def AV.pureL : List AV → Bool
  | [] => true
  | x :: xs => x.pure && AV.pureL xs
end
theorem AV.pureL_iff : ∀ l : List AV, AV.pureL l = true ↔ ∀ x ∈ l, x.pure = true
  | [] => by simp [AV.pureL]
  | x :: xs => by simp [AV.pureL, AV.pureL_iff xs]

theorem AV.one_of_pure {x : AV} (h : x.pure = true) : x.one = true := by
  cases x <;> first | rfl | simp [AV.pure] at h

/-- Room is forgotten. -/
def AV.strip0 : AV → AV
  | .sl k r _ => .sl k r .none
  | x => x
def AV.strip : AV → AV
  | .agg cs => .agg (cs.map AV.strip0)
  | x => x.strip0
def AV.pureV : AV → Bool
  | .agg cs => cs.all AV.pure
  | x => x.pure

def AV.stripR : AV → AV
  | .tup vs => .tup (vs.map AV.strip)
  | x => x.strip
def AV.pureR : AV → Bool
  | .tup vs => vs.all AV.pureV
  | x => x.pureV

abbrev Imm := Nat → Nat → Option Value
abbrev Lo := Nat → Option Nat
abbrev To := Nat → Option (Nat × Nat × Nat)
def noL : Lo := fun _ => none
def noT : To := fun _ => none

def TkOk (T : To) (t : Tk) (A : Option Addr) (b o n c k : Nat) : Prop :=
  match t with
  | .none => True
  | .full => c = n
  | .tok t => o = 0 ∧ A = some ⟨b, 0, none⟩ ∧ T t = some (b, n * k, c * k)
  | .mut => c = n

inductive Rel (I : Imm) : Lo → To → AV → Value → Prop
  | undef {L T v} : Rel I L T .undef v
  | int {L T k n} : Rel I L T (.int k n) (.int k n)
  | bool {L T b} : Rel I L T (.bool b) (.bool b)
  | str {L T s} : Rel I L T (.str s) (.string s)
  | sl {L T} {k c : Nat} {A : Option Addr} {rows : List AV} {t : Tk} {b o : Nat} (vs : Nat → Value)
      (hc : rows.length ≤ c) (hA : rows ≠ [] → A = some ⟨b, o, none⟩)
      (hI : ∀ q, q < rows.length * k → I b (o + q) = some (vs q))
      (hk : ∀ r ∈ rows, r.cells.length = k) (hP : ∀ r ∈ rows, ∀ x ∈ r.cells, x.pure = true)
      (hR : ∀ j i (hj : j < rows.length) (hi : i < (rows[j]).cells.length), Rel I noL noT ((rows[j]).cells[i]) (vs (j * k + i)))
      (ht : TkOk T t A b o rows.length c k) : Rel I L T (.sl k rows t) (.slice A rows.length c)
  | msl {L T} {key off n k b c z : Nat} (hL : L key = some b) (hT : T key = some (b, 0, z)) (hz : off + c * k ≤ z) (hc : n ≤ c) : Rel I L T (.msl key off n k) (.slice (some ⟨b, off, none⟩) n c)
  | vp {L T} {cells : List AV} {b o : Nat} (vs : Nat → Value) (hI : ∀ q, q < cells.length → I b (o + q) = some (vs q))
      (hR : ∀ i (hi : i < cells.length), Rel I noL noT cells[i] (vs i)) : Rel I L T (.vp cells) (.pointer (some ⟨b, o, none⟩))
  | ptr {L T} {key off b : Nat} (hL : L key = some b) : Rel I L T (.ptr key off) (.pointer (some ⟨b, off, none⟩))
  | nilp {L T} : Rel I L T .nilp (.pointer none)
  | fn {L T f} {first cap : List AV} {fs cs : Array Value} (hf : fs.size = first.length) (hc : cs.size = cap.length)
      (h1 : ∀ i (h : i < first.length) (h' : i < fs.size), Rel I L T first[i] fs[i])
      (h2 : ∀ i (h : i < cap.length) (h' : i < cs.size), Rel I L T cap[i] cs[i]) : Rel I L T (.fn f first cap) (.func (.func f) fs cs)
  | yld {L T} {key l : Nat} (hL : L key = some l) : Rel I L T (.yld key) (.func (.yield l) #[] #[])
  | nilf {L T} : Rel I L T .nilf .nilFunc
  | map {L T} {key b : Nat} (hL : L key = some b) : Rel I L T (.map key) (.map (some b))
  | nilm {L T} : Rel I L T .nilm (.map none)
  | agg {L T} {cells : List AV} {cs : Array Value} (hs : cs.size = cells.length)
      (h : ∀ i (h : i < cells.length) (h' : i < cs.size), Rel I L T cells[i] cs[i]) : Rel I L T (.agg cells) (.agg cs)
  | tup {L T} {cells : List AV} {cs : Array Value} (hs : cs.size = cells.length)
      (h : ∀ i (h : i < cells.length) (h' : i < cs.size), Rel I L T cells[i] cs[i]) : Rel I L T (.tup cells) (.tuple cs)
  | nili {L T} : Rel I L T .nili .nilIface
  | ifc {L T t a v} (h : Rel I L T a v) : Rel I L T (.ifc t a) (.iface t v)

structure Mem where
  I : Imm
  L : Lo
  T : To
  F : Nat → Option Obj

structure Mem.le (M M' : Mem) : Prop where
  I : ∀ b o v, M.I b o = some v → M'.I b o = some v
  L : ∀ k b, M.L k = some b → M'.L k = some b
  T : ∀ k x, M.T k = some x → M'.T k = some x
  F : ∀ b x, M.F b = some x → M'.F b = some x
  IF : ∀ b o, M.F b ≠ none → M'.I b o = M.I b o

theorem Mem.le_refl (M : Mem) : M.le M := ⟨fun _ _ _ h => h, fun _ _ h => h, fun _ _ h => h, fun _ _ h => h, fun _ _ _ => rfl⟩
theorem Mem.le_trans {A B C : Mem} (h : A.le B) (k : B.le C) : A.le C :=
  ⟨fun b o v x => k.I b o v (h.I b o v x), fun b o x => k.L b o (h.L b o x), fun b o x => k.T b o (h.T b o x), fun b o x => k.F b o (h.F b o x), fun b o hf => by
    have hf' : B.F b ≠ none := by
      cases e : A.F b with
      | none => exact absurd e hf
      | some x => rw [h.F b x e]; simp
    rw [k.IF b o hf', h.IF b o hf]⟩

theorem TkOk.mono {T T' : To} (hT : ∀ k x, T k = some x → T' k = some x) {t A b o n c k} (h : TkOk T t A b o n c k) : TkOk T' t A b o n c k := by
  cases t <;> simp only [TkOk] at h ⊢
  · exact h
  · exact ⟨h.1, h.2.1, hT _ _ h.2.2⟩
  · exact h

theorem Rel.mono0 {I I' : Imm} (hI : ∀ b o v, I b o = some v → I' b o = some v) {L : Lo} {T : To} {a : AV} {v : Value} (h : Rel I L T a v) :
    ∀ {L' : Lo} {T' : To}, (∀ k b, L k = some b → L' k = some b) → (∀ k x, T k = some x → T' k = some x) → Rel I' L' T' a v := by
  induction h with
  | undef => intros; exact .undef
  | int => intros; exact .int
  | bool => intros; exact .bool
  | str => intros; exact .str
  | sl vs hc hA hI' hk hP hR ht ih => intro L' T' _ hT; exact .sl vs hc hA (fun q hq => hI _ _ _ (hI' q hq)) hk hP (fun j i hj hi => ih j i hj hi (fun _ _ h => h) (fun _ _ h => h)) (ht.mono hT)
  | msl hL hT hz hc => intro L' T' hL' hT'; exact .msl (hL' _ _ hL) (hT' _ _ hT) hz hc
  | vp vs hI' hR ih => intro L' T' _ _; exact .vp vs (fun q hq => hI _ _ _ (hI' q hq)) (fun i hi => ih i hi (fun _ _ h => h) (fun _ _ h => h))
  | ptr hL => intro L' T' hL' _; exact .ptr (hL' _ _ hL)
  | nilp => intros; exact .nilp
  | fn hf hc _ _ ih1 ih2 => intro L' T' hL' hT'; exact .fn hf hc (fun i h h' => ih1 i h h' hL' hT') (fun i h h' => ih2 i h h' hL' hT')
  | yld hL => intro L' T' hL' _; exact .yld (hL' _ _ hL)
  | nilf => intros; exact .nilf
  | map hL => intro L' T' hL' _; exact .map (hL' _ _ hL)
  | nilm => intros; exact .nilm
  | agg hs _ ih => intro L' T' hL' hT'; exact .agg hs (fun i h h' => ih i h h' hL' hT')
  | tup hs _ ih => intro L' T' hL' hT'; exact .tup hs (fun i h h' => ih i h h' hL' hT')
  | nili => intros; exact .nili
  | ifc _ ih => intro L' T' hL' hT'; exact .ifc (ih hL' hT')

def Mem.rel (M : Mem) (a : AV) (v : Value) : Prop := Rel M.I M.L M.T a v
theorem Mem.rel_mono {M M' : Mem} (h : M.le M') {a : AV} {v : Value} (r : M.rel a v) : M'.rel a v := Rel.mono0 h.I r h.L h.T
theorem Rel.of_pure {I : Imm} {L : Lo} {T : To} {a : AV} {v : Value} (h : Rel I noL noT a v) : Rel I L T a v :=
  Rel.mono0 (fun _ _ _ h => h) h (fun _ _ h => by cases h) (fun _ _ h => by cases h)

/-- What is pure leads nowhere that may change. -/
theorem Rel.pure {I : Imm} {L : Lo} {T : To} {a : AV} {v : Value} (h : Rel I L T a v) : a.pure = true → Rel I noL noT a v := by
  induction h with
  | undef => intro p; simp [AV.pure] at p
  | int => intro; exact .int
  | bool => intro; exact .bool
  | str => intro; exact .str
  | @sl L T k c A rows t b o vs hc hA hI' hk hP hR ht ih =>
    intro p
    refine .sl vs hc hA hI' hk hP hR ?_
    cases t <;> simp_all [AV.pure, TkOk]
  | msl hL hT hz hc => intro p; simp [AV.pure] at p
  | vp vs hI' hR ih => intro; exact .vp vs hI' hR
  | ptr hL => intro p; simp [AV.pure] at p
  | nilp => intros; exact .nilp
  | @fn L T f first cap fs cs hf hc _ _ ih1 ih2 =>
    intro p
    simp only [AV.pure, Bool.and_eq_true, AV.pureL_iff] at p
    exact .fn hf hc (fun i h h' => ih1 i h h' (p.1 _ (List.getElem_mem h))) (fun i h h' => ih2 i h h' (p.2 _ (List.getElem_mem h)))
  | yld hL => intro p; simp [AV.pure] at p
  | nilf => intros; exact .nilf
  | map hL => intro p; simp [AV.pure] at p
  | nilm => intros; exact .nilm
  | agg hs _ ih => intro p; simp [AV.pure] at p
  | tup hs _ ih => intro p; simp [AV.pure] at p
  | nili => intros; exact .nili
  | ifc _ ih => intro p; exact .ifc (ih (by simpa [AV.pure] using p))

theorem Rel.strip0 {I : Imm} {L : Lo} {T : To} {a : AV} {v : Value} (h : Rel I L T a v) : Rel I L T a.strip0 v := by
  cases h with
  | sl vs hc hA hI' hk hP hR ht => exact .sl vs hc hA hI' hk hP hR trivial
  | undef => exact .undef
  | int => exact .int
  | bool => exact .bool
  | str => exact .str
  | msl h1 h2 h3 h4 => exact .msl h1 h2 h3 h4
  | vp a b c => exact .vp a b c
  | ptr h => exact .ptr h
  | nilp => exact .nilp
  | fn a b c d => exact .fn a b c d
  | yld h => exact .yld h
  | nilf => exact .nilf
  | map h => exact .map h
  | nilm => exact .nilm
  | agg a b => exact .agg a b
  | tup a b => exact .tup a b
  | nili => exact .nili
  | ifc h => exact .ifc h

theorem Rel.strip {I : Imm} {L : Lo} {T : To} {a : AV} {v : Value} (h : Rel I L T a v) : Rel I L T a.strip v := by
  by_cases hg : ∃ cs, a = .agg cs
  · obtain ⟨cs, rfl⟩ := hg
    cases h with
    | agg hs hr => exact .agg (by simpa using hs) (fun i h h' => by simpa using (hr i (by simpa using h) h').strip0)
  · have : a.strip = a.strip0 := by cases a <;> first | rfl | exact absurd ⟨_, rfl⟩ hg
    rw [this]; exact h.strip0

/-- What is known of a value wherever it stands: what leads to a block that may change is told as unknown. -/
def AV.plain0 (x : AV) : AV := if x.strip0.pure then x.strip0 else .undef
def AV.plain : AV → AV
  | .agg cs => .agg (cs.map AV.plain0)
  | x => x.plain0
theorem Rel.plain0 {I : Imm} {L : Lo} {T : To} {a : AV} {v : Value} (h : Rel I L T a v) : Rel I noL noT a.plain0 v := by
  unfold AV.plain0
  split
  · rename_i hp; exact h.strip0.pure hp
  · exact .undef
theorem Rel.plain {I : Imm} {L : Lo} {T : To} {a : AV} {v : Value} (h : Rel I L T a v) : Rel I noL noT a.plain v := by
  by_cases hg : ∃ cs, a = .agg cs
  · obtain ⟨cs, rfl⟩ := hg
    cases h with
    | agg hs hr => exact .agg (by simpa using hs) (fun i h h' => by simpa using (hr i (by simpa using h) h').plain0)
  · have : a.plain = a.plain0 := by cases a <;> first | rfl | exact absurd ⟨_, rfl⟩ hg
    rw [this]; exact h.plain0

/-- The cells of a value, one by one. -/
theorem Rel.cells {I : Imm} {L : Lo} {T : To} {a : AV} {v : Value} (h : Rel I L T a v) (hu : a ≠ .undef) :
    v.cells.size = a.cells.length ∧ ∀ i (hi : i < a.cells.length) (hi' : i < v.cells.size), Rel I L T a.cells[i] v.cells[i] := by
  cases h with
  | undef => exact absurd rfl hu
  | agg hs hr => exact ⟨hs, hr⟩
  | int => exact ⟨rfl, fun i hi hi' => by simp [AV.cells] at hi; subst hi; exact .int⟩
  | bool => exact ⟨rfl, fun i hi hi' => by simp [AV.cells] at hi; subst hi; exact .bool⟩
  | str => exact ⟨rfl, fun i hi hi' => by simp [AV.cells] at hi; subst hi; exact .str⟩
  | sl a b c d e f g h => exact ⟨rfl, fun i hi hi' => by simp [AV.cells] at hi; subst hi; exact .sl a b c d e f g h⟩
  | msl a b c d => exact ⟨rfl, fun i hi hi' => by simp [AV.cells] at hi; subst hi; exact .msl a b c d⟩
  | vp a b c => exact ⟨rfl, fun i hi hi' => by simp [AV.cells] at hi; subst hi; exact .vp a b c⟩
  | ptr a => exact ⟨rfl, fun i hi hi' => by simp [AV.cells] at hi; subst hi; exact .ptr a⟩
  | nilp => exact ⟨rfl, fun i hi hi' => by simp [AV.cells] at hi; subst hi; exact .nilp⟩
  | fn a b c d => exact ⟨rfl, fun i hi hi' => by simp [AV.cells] at hi; subst hi; exact .fn a b c d⟩
  | yld a => exact ⟨rfl, fun i hi hi' => by simp [AV.cells] at hi; subst hi; exact .yld a⟩
  | nilf => exact ⟨rfl, fun i hi hi' => by simp [AV.cells] at hi; subst hi; exact .nilf⟩
  | map a => exact ⟨rfl, fun i hi hi' => by simp [AV.cells] at hi; subst hi; exact .map a⟩
  | nilm => exact ⟨rfl, fun i hi hi' => by simp [AV.cells] at hi; subst hi; exact .nilm⟩
  | tup a b => exact ⟨rfl, fun i hi hi' => by simp [AV.cells] at hi; subst hi; exact .tup a b⟩
  | nili => exact ⟨rfl, fun i hi hi' => by simp [AV.cells] at hi; subst hi; exact .nili⟩
  | ifc a => exact ⟨rfl, fun i hi hi' => by simp [AV.cells] at hi; subst hi; exact .ifc a⟩

/-- A block of the abstract heap. -/
structure ME where
  key : AV
  val : AV
  born : Nat
inductive Blk where
  | cells (cs : List AV)
  | tok
  | map (es : List ME) (clock : Nat)
  | sit (s : ByteArray) (pos : Nat)
  | mit (m : Nat) (since : Nat) (seen : List Nat) (stepped : Nat)
  | nmit
  | loop (st : LoopState) (pend : Option Code) (s : List AV) (params : Array Tmp) (assign body : Code) (defers : Nat)
  | dfd (open_ : Bool)
  deriving Inhabited

abbrev Hp := Nat → Option Blk

def Blk.isTok : Blk → Bool
  | .tok => true
  | _ => false

def Mem.blockOf (M : Mem) (key : Nat) (blk : Blk) : Option Nat := if blk.isTok then (M.T key).map (·.1) else M.L key

/-- What the block of a key looks like in the model's world. -/
def LiveAs (M : Mem) (key : Nat) : Blk → Obj → Prop
  | .cells cs, .cells c _ fr => fr = (0, 0) ∧ cs.length ≤ c.size ∧ (∀ i (h : i < cs.length) (h' : i < c.size), M.rel cs[i] c[i]) ∧ ∃ b z, M.T key = some (b, 0, z) ∧ z ≤ c.size
  | .tok, .cells c _ fr => fr = (0, 0) ∧ ∃ b e z, M.T key = some (b, e, z) ∧ e ≤ z ∧ z ≤ c.size ∧ ∀ o, e ≤ o → M.I b o = none
  | .map es clock, .map es' clock' => clock' = clock ∧ es'.size = es.length ∧ ∀ i (h : i < es.length) (h' : i < es'.size), M.rel es[i].key es'[i].key ∧ M.rel es[i].val es'[i].val ∧ es'[i].born = es[i].born
  | .sit s p, .stringIter s' p' => s' = s ∧ p' = p
  | .mit m since seen st, .mapIter m' since' seen' st' => (∃ b, M.L m = some b ∧ m' = some b) ∧ since' = since ∧ seen' = seen.toArray ∧ st' = st
  | .nmit, .mapIter m' _ _ _ => m' = none
  | .loop st pend s ps assign body d, .loop r => r.state = st ∧ r.pending = pend ∧ r.params = ps ∧ r.assign = assign ∧ r.body = body ∧ M.L d = some r.defers ∧
      r.tmps.size = s.length ∧ ∀ i (h : i < s.length) (h' : i < r.tmps.size), M.rel s[i] r.tmps[i]
  | .dfd op, .deferred c => c = if op then some [] else none
  | _, _ => False

structure Inv (G : Nat → Option (List AV)) (M : Mem) (al : Nat → Prop) (hp : Hp) (W w : World) : Prop where
  imm : ∀ b o v, M.I b o = some v → w.cell? ⟨b, o, none⟩ = some v
  far : ∀ b ob, M.F b = some ob → w.heap[b]? = some ob
  os : w.os = W.os
  tape : w.tape = W.tape
  out : w.output = W.output
  fresh : ∀ key, ¬ al key → M.L key = none ∧ M.T key = none
  live : ∀ key blk, hp key = some blk → ∃ b ob, M.blockOf key blk = some b ∧ w.heap[b]? = some ob ∧ LiveAs M key blk ob ∧ M.F b = none ∧ (blk.isTok = false → ∀ o, M.I b o = none)
  inj : ∀ k1 k2 b1 b2 b, hp k1 = some b1 → hp k2 = some b2 → M.blockOf k1 b1 = some b → M.blockOf k2 b2 = some b → k1 = k2
  glob : ∀ g cells, G g = some cells → Rel M.I noL noT (.vp cells) (.pointer (some ⟨g, 0, none⟩))
  has : ∀ key, al key → hp key ≠ none → True

end Go.Proofs.Pv
