/-
  The abstract machine, part X: data that a claim's reading tells (numbers, bools, strings, structs, arrays, slices of them) as abstract values.
  Conditions: the types are made of these alone; the reading stands.
-/
import Derived.Test.YtgjjcdjcpbjdgaaGreatDoorPvQ
import Derived.Deep.Slices
import Derived.OpenShut
namespace Go.Proofs.Pv
set_option linter.unusedVariables false
set_option linter.unusedSimpArgs false
open Go Go.ChangeShapes Go.WideShapes
variable {P : Program} {H : Type} {enc : TypeId × Value → H} {w : World} {spare : Nat → Bool} {held : Bool}

def pre (P : Program) (ts : List TypeId) (i : Nat) : Nat := ((ts.take i).map P.cellsOf).sum
def layOk (P : Program) (fs : Array Field) (n : Nat) : Bool :=
  ((List.range fs.size).all fun i => match fs[i]? with
    | some f => Nat.beq f.offset (pre P (fs.toList.map (·.type)) i)
    | none => false) && Nat.beq n (pre P (fs.toList.map (·.type)) fs.size)
/-- A type made of numbers, bools, strings, structs, arrays, slices. -/
def plainT (P : Program) : Nat → TypeId → Bool
  | 0, _ => false
  | d + 1, t => match P.underlying t with
    | some .bool | some (.int _) | some .string => Nat.beq (P.cellsOf t) 1
    | some (.slice e) => plainT P d e && Nat.blt 0 (P.cellsOf e) && Nat.beq (P.cellsOf t) 1
    | some (.struct fs) => (fs.toList.all fun f => plainT P d f.type) && layOk P fs (P.cellsOf t)
    | some (.array n e) => plainT P d e && Nat.beq (P.cellsOf t) (n * P.cellsOf e)
    | _ => false
def mkRow (P : Program) (e : TypeId) (cs : List AV) : AV := if ag P e then .agg cs else cs.headD .undef
def avTs (av : TypeId → DataW H → List AV) : List TypeId → List (DataW H) → List AV
  | t :: ts, y :: ys => av t y ++ avTs av ts ys
  | _, _ => []
/-- The cells of a datum. -/
def avD (P : Program) : Nat → TypeId → DataW H → List AV
  | 0, _, _ => []
  | d + 1, t, x => match P.underlying t, x with
    | some .bool, .lit (.bool b) => [.bool b]
    | some (.int k), .lit (.int _ n) => [.int k n]
    | some .string, .lit (.string l) => [.str ⟨l.toArray⟩]
    | some (.slice e), .slice elems _ => [.sl (P.cellsOf e) (elems.map fun y => mkRow P e (avD P d e y)) .none]
    | some (.slice e), _ => [.sl (P.cellsOf e) [] .none]
    | some (.struct fs), .agg parts => avTs (avD P d) (fs.toList.map (·.type)) parts
    | some (.array n e), .agg parts => avTs (avD P d) (List.replicate n e) parts
    | _, _ => []
def okTs (P : Program) (ok : TypeId → List AV → Prop) : List TypeId → List AV → Prop
  | [], as => as = []
  | t :: ts, as => ok t (as.take (P.cellsOf t)) ∧ okTs P ok ts (as.drop (P.cellsOf t))
/-- What cells of a type look like. -/
def okV (P : Program) : Nat → TypeId → List AV → Prop
  | 0, _, _ => False
  | d + 1, t, as => match P.underlying t with
    | some .bool => ∃ b, as = [.bool b]
    | some (.int k) => ∃ n, as = [.int k n] ∧ (Lit.int k n).wf = true
    | some .string => ∃ s : ByteArray, as = [.str s] ∧ s.size ≤ maxLen
    | some (.slice e) => ∃ rows, as = [.sl (P.cellsOf e) rows .none] ∧ rows.length ≤ maxLen ∧ ∀ r ∈ rows, ∃ cs, r = mkRow P e cs ∧ okV P d e cs
    | some (.struct fs) => okTs P (okV P d) (fs.toList.map (·.type)) as
    | some (.array n e) => okTs P (okV P d) (List.replicate n e) as
    | _ => False

theorem okTs_pure {ok : TypeId → List AV → Prop} (h : ∀ t as, ok t as → ∀ a ∈ as, a.pure = true) : ∀ (ts : List TypeId) (as : List AV), okTs P ok ts as → ∀ a ∈ as, a.pure = true
  | [], as, hk, a, ha => by simp only [okTs] at hk; subst hk; cases ha
  | t :: ts, as, hk, a, ha => by
    simp only [okTs] at hk
    rw [← List.take_append_drop (P.cellsOf t) as] at ha
    rcases List.mem_append.1 ha with ha | ha
    · exact h t _ hk.1 a ha
    · exact okTs_pure h ts _ hk.2 a ha
theorem okV_pure : ∀ (d : Nat) (t : TypeId) (as : List AV), okV P d t as → ∀ a ∈ as, a.pure = true
  | 0, _, _, h => h.elim
  | d + 1, t, as, h => by
    unfold okV at h
    split at h
    · obtain ⟨b, rfl⟩ := h; intro a ha; simp at ha; subst ha; rfl
    · obtain ⟨n, rfl, _⟩ := h; intro a ha; simp at ha; subst ha; rfl
    · obtain ⟨s, rfl, _⟩ := h; intro a ha; simp at ha; subst ha; rfl
    · obtain ⟨rows, rfl, _⟩ := h; intro a ha; simp at ha; subst ha; rfl
    · exact okTs_pure (okV_pure d) _ _ h
    · exact okTs_pure (okV_pure d) _ _ h
    · exact h.elim

theorem mkRow_cells {d : Nat} {e : TypeId} {cs : List AV} (h : okV P d e cs) : (mkRow P e cs).cells = cs := by
  cases d with
  | zero => exact h.elim
  | succ d =>
    unfold mkRow ag
    unfold okV at h
    split at h <;> rename_i hu
    · obtain ⟨b, rfl⟩ := h; simp only [hu]; rfl
    · obtain ⟨n, rfl, _⟩ := h; simp only [hu]; rfl
    · obtain ⟨s, rfl, _⟩ := h; simp only [hu]; rfl
    · obtain ⟨rows, rfl, _⟩ := h; simp only [hu]; rfl
    · simp only [hu]; rfl
    · simp only [hu]; rfl
    · exact h.elim

theorem trodTs {R : AV → Value → Prop} {av : TypeId → DataW H → List AV} {ok : TypeId → List AV → Prop} {tr : TypeId → List Value → Option (DataW H × List MemPlace)} : ∀ (ts : List TypeId) (xs : List (DataW H × List MemPlace)) (cs : List Value),
    (∀ t ∈ ts, ∀ cs x, tr t cs = some x → RelL R (av t x.1) cs ∧ ok t (av t x.1)) → xs.length = ts.length → cs.length = pre P ts ts.length → (∀ i t, ts[i]? = some t → tr t ((cs.drop (pre P ts i)).take (P.cellsOf t)) = xs[i]?) →
    RelL R (avTs av ts (xs.map (·.1))) cs ∧ okTs P ok ts (avTs av ts (xs.map (·.1)))
  | [], [], cs, _, _, hl, _ => by
    have : cs = [] := List.eq_nil_of_length_eq_zero (by simpa [pre] using hl)
    subst this
    exact ⟨⟨rfl, fun i a v h => by simp [avTs] at h⟩, rfl⟩
  | [], _ :: _, _, _, hx, _, _ => by simp at hx
  | _ :: _, [], _, _, hx, _, _ => by simp at hx
  | t :: ts, x :: xs, cs, ih, hx, hl, hf => by
    have hpre : ∀ i, pre P (t :: ts) (i + 1) = P.cellsOf t + pre P ts i := fun i => by simp [pre]
    have hl' : cs.length = P.cellsOf t + pre P ts ts.length := by rw [hl]; exact hpre _
    have h0 := hf 0 t rfl
    simp only [pre, List.take_zero, List.map_nil, List.sum_nil, List.drop_zero, List.getElem?_cons_zero] at h0
    obtain ⟨g1, g2⟩ := ih t (by simp) _ x h0
    obtain ⟨k1, k2⟩ := trodTs ts xs (cs.drop (P.cellsOf t)) (fun t ht => ih t (by simp [ht])) (by simpa using hx) (by simp; omega) (fun i u hu => by
      have := hf (i + 1) u (by simpa using hu)
      rw [hpre, ← List.drop_drop] at this
      simpa using this)
    have hlen : (av t x.1).length = P.cellsOf t := by rw [g1.1]; simp; omega
    simp only [List.map_cons, avTs, okTs]
    refine ⟨?_, ?_, ?_⟩
    · have := g1.append k1
      rwa [List.take_append_drop] at this
    · rw [← hlen, List.take_left]; exact g2
    · rw [← hlen, List.drop_left]; exact k2

/-- The cells as a world tells them. -/
def imm (w : World) : Imm := fun b o => w.cell? ⟨b, o, none⟩

theorem trod_rel : ∀ (d : Nat) (t : TypeId) (fuel : Nat) (cs : List Value) (x : DataW H × List MemPlace), plainT P d t = true → DataW.trod enc P w 0 spare held fuel t cs = some x →
    RelL (Rel (imm w) noL noT) (avD P d t x.1) cs ∧ okV P d t (avD P d t x.1)
  | 0, _, _, _, _, hp, _ => by simp [plainT] at hp
  | d + 1, t, fuel, cs, x, hp, h => by
    have ih := trod_rel d
    unfold plainT at hp
    have one : ∀ {a : AV} {v : Value}, Rel (imm w) noL noT a v → RelL (Rel (imm w) noL noT) [a] [v] := fun {a v} hr => ⟨rfl, fun i a' v' h1 h2 => by
      cases i with
      | zero => simp at h1 h2; subst h1; subst h2; exact hr
      | succ i => simp at h1⟩
    split at hp
    · rename_i hu
      obtain ⟨b, rfl, rfl⟩ := DataW.trod_bool hu h
      simp only [avD, okV, hu]
      exact ⟨one .bool, _, rfl⟩
    · rename_i k hu
      obtain ⟨n, rfl, rfl, hwf⟩ := DataW.trod_int hu h
      simp only [avD, okV, hu]
      exact ⟨one .int, _, rfl, hwf⟩
    · rename_i hu
      obtain ⟨s, rfl, rfl, hs⟩ := DataW.trod_string hu h
      simp only [avD, okV, hu]
      have : (⟨s.data.toList.toArray⟩ : ByteArray) = s := by simp
      rw [this]
      exact ⟨one .str, _, rfl, hs⟩
    · rename_i e hu
      simp only [Bool.and_eq_true] at hp
      obtain ⟨⟨hpe, hk⟩, _⟩ := hp
      have hk0 : 0 < P.cellsOf e := by
        have : 1 ≤ P.cellsOf e := by simpa [Nat.blt] using hk
        omega
      rcases Go.Deep.open_slice hu h with ⟨rfl, rfl⟩ | ⟨a, len, cap, m, n, D, Pl, rfl, _, hle, hmax, hm, rfl, hel⟩
      · simp only [avD, okV, hu]
        exact ⟨one (.sl (b := 0) (o := 0) (c := 0) (fun _ => undef) (Nat.le_refl _) (by simp) (fun q hq => by simp at hq) (by simp) (by simp) (fun j i hj => by simp at hj) trivial), [], rfl, by simp, by simp⟩
      · simp only [avD, okV, hu, List.map_map]
        have hlm : ∀ i, i < len → i < m := fun i hi => by rw [hm]; split <;> omega
        have hspot0 : 0 < len → a.spot = none := by
          intro h0
          obtain ⟨cs', h1, _⟩ := hel 0 (hlm 0 h0)
          obtain ⟨_, hlen, hcell⟩ := World.cells?_some h1
          have hv := hcell 0 hk0
          have hlt : 0 < cs'.length := by omega
          rw [List.getElem?_eq_getElem hlt] at hv
          simp only [Nat.zero_mul, Addr.add, if_true] at hv
          unfold World.cell? at hv
          split at hv
          · split at hv
            · cases hv
            · rename_i hs; simpa using hs
          · cases hv
        have hall : ∀ i, i < len → RelL (Rel (imm w) noL noT) (avD P d e (D i)) ((List.range (P.cellsOf e)).map fun j => (w.cell? ⟨a.block, a.off + (i * P.cellsOf e + j), none⟩).getD undef) ∧ okV P d e (avD P d e (D i)) ∧
            (∀ j, j < P.cellsOf e → ∃ v, w.cell? ⟨a.block, a.off + (i * P.cellsOf e + j), none⟩ = some v) := by
          intro i hi
          obtain ⟨cs', h1, h2⟩ := hel i (hlm i hi)
          obtain ⟨g1, g2⟩ := ih e n cs' _ hpe h2
          obtain ⟨_, hlen, hcell⟩ := World.cells?_some h1
          have hspot := hspot0 (by omega)
          have hat : ∀ j, (a.add (i * P.cellsOf e)).add j = ⟨a.block, a.off + (i * P.cellsOf e + j), none⟩ := by
            intro j
            obtain ⟨b, o, sp⟩ := a
            simp only at hspot; subst hspot
            rw [Addr.add_none, Addr.add_none, Nat.add_assoc]
          have hcs : cs' = (List.range (P.cellsOf e)).map fun j => (w.cell? ⟨a.block, a.off + (i * P.cellsOf e + j), none⟩).getD undef := by
            apply List.ext_getElem?
            intro j
            by_cases hj : j < P.cellsOf e
            · have := hcell j hj
              rw [hat] at this
              simp [hj, this, List.getElem?_eq_getElem (show j < cs'.length by omega)]
            · simp [hj, List.getElem?_eq_none (show cs'.length ≤ j by omega)]
          refine ⟨by rw [← hcs]; exact g1, g2, fun j hj => ?_⟩
          have := hcell j hj
          rw [hat] at this
          exact ⟨_, this.trans (List.getElem?_eq_getElem (show j < cs'.length by omega))⟩
        have hrl : ((List.range len).map ((fun y => mkRow P e (avD P d e y)) ∘ D)).length = len := by simp
        have hrow : ∀ r ∈ (List.range len).map ((fun y => mkRow P e (avD P d e y)) ∘ D), ∃ i, i < len ∧ r = mkRow P e (avD P d e (D i)) := by
          intro r hr
          obtain ⟨i, hi, rfl⟩ := List.mem_map.1 hr
          exact ⟨i, List.mem_range.1 hi, rfl⟩
        refine ⟨one ?_, _, rfl, by rw [hrl]; omega, fun r hr => ?_⟩
        · have key : Rel (imm w) noL noT (.sl (P.cellsOf e) ((List.range len).map ((fun y => mkRow P e (avD P d e y)) ∘ D)) .none) (.slice (some a) ((List.range len).map ((fun y => mkRow P e (avD P d e y)) ∘ D)).length cap) := by
            refine .sl (b := a.block) (o := a.off) (fun q => (w.cell? ⟨a.block, a.off + q, none⟩).getD undef) (by rw [hrl]; exact hle) (fun hne => ?_) (fun q hq => ?_) (fun r hr => ?_) (fun r hr => ?_) (fun j i hj hi => ?_) trivial
            · have h0 : 0 < len := by
                rcases Nat.eq_zero_or_pos len with h0 | h0
                · subst h0; exact absurd rfl hne
                · exact h0
              have := hspot0 h0
              obtain ⟨b, o, sp⟩ := a
              simp only at this; subst this; rfl
            · rw [hrl] at hq
              have hq1 : q / P.cellsOf e < len := Nat.div_lt_of_lt_mul (by rw [Nat.mul_comm]; exact hq)
              obtain ⟨v, hv⟩ := (hall _ hq1).2.2 (q % P.cellsOf e) (Nat.mod_lt _ hk0)
              rw [show q / P.cellsOf e * P.cellsOf e + q % P.cellsOf e = q by rw [Nat.mul_comm]; exact Nat.div_add_mod q _] at hv
              simp only [imm, hv, Option.getD_some]
            · obtain ⟨i, hi, rfl⟩ := hrow r hr
              rw [mkRow_cells (hall i hi).2.1, (hall i hi).1.1]; simp
            · obtain ⟨i, hi, rfl⟩ := hrow r hr
              rw [mkRow_cells (hall i hi).2.1]
              exact okV_pure d e _ (hall i hi).2.1
            · have hj' : j < len := by rwa [hrl] at hj
              have e1 : ((List.range len).map ((fun y => mkRow P e (avD P d e y)) ∘ D))[j] = mkRow P e (avD P d e (D j)) := by simp
              simp only [e1, mkRow_cells (hall j hj').2.1] at hi ⊢
              have hi2 : i < P.cellsOf e := by have := (hall j hj').1.1; simp at this; omega
              have := (hall j hj').1.get i hi (by simpa using hi2)
              simpa using this
          rw [hrl] at key
          exact key
        · obtain ⟨i, hi, rfl⟩ := hrow r hr
          exact ⟨_, rfl, (hall i hi).2.1⟩
    · rename_i fs hu
      simp only [Bool.and_eq_true, List.all_eq_true] at hp
      obtain ⟨hpf, hlay⟩ := hp
      obtain ⟨xs, n, _, rfl, hl, hxl, hf⟩ := DataW.trod_struct hu h
      simp only [avD, okV, hu]
      simp only [layOk, Bool.and_eq_true, List.all_eq_true, List.mem_range] at hlay
      refine trodTs (fs.toList.map (·.type)) xs cs (tr := DataW.trod enc P w 0 spare held n) (fun t ht cs x hx => ?_) (by simpa using hxl) ?_ (fun i t ht => ?_)
      · obtain ⟨f, hf1, rfl⟩ := List.mem_map.1 ht
        exact ih f.type n cs x (hpf f hf1) hx
      · rw [hl, Nat.eq_of_beq_eq_true hlay.2]; simp
      · rw [List.getElem?_map] at ht
        cases hfi : fs.toList[i]? with
        | none => rw [hfi] at ht; cases ht
        | some f =>
          rw [hfi] at ht
          simp only [Option.map_some, Option.some.injEq] at ht
          subst ht
          have hfi' : fs[i]? = some f := by simpa using hfi
          have hi : i < fs.size := (Array.getElem?_eq_some_iff.1 hfi').1
          have := hlay.1 i hi
          rw [hfi'] at this
          rw [← Nat.eq_of_beq_eq_true this]
          exact hf i f hfi'
    · rename_i n' e hu
      simp only [Bool.and_eq_true] at hp
      obtain ⟨hpe, hsz⟩ := hp
      obtain ⟨xs, n, _, rfl, hl, hxl, hf⟩ := DataW.trod_array hu h
      simp only [avD, okV, hu]
      have hpre : ∀ i, i ≤ n' → pre P (List.replicate n' e) i = i * P.cellsOf e := fun i hi => by simp [pre, Nat.min_eq_left hi, List.take_replicate]
      refine trodTs (List.replicate n' e) xs cs (tr := DataW.trod enc P w 0 spare held n) (fun t ht cs x hx => ?_) (by simpa using hxl) ?_ (fun i t ht => ?_)
      · rw [List.eq_of_mem_replicate ht] at hx ⊢
        exact ih e n cs x hpe hx
      · rw [hl, Nat.eq_of_beq_eq_true hsz]; simp [hpre n' (Nat.le_refl _)]
      · obtain ⟨hi, ht⟩ := List.getElem?_eq_some_iff.1 ht
        simp at hi ht
        subst ht
        rw [hpre i (Nat.le_of_lt hi)]
        exact hf i hi
    · cases hp

end Go.Proofs.Pv
