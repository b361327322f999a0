/-
  Plain laws of lists, for the open proofs: the first one of some things, all of some things.
  A score's things as data, and as abstract values.
  Names given anew, by lists; what own slices are told as.
  An edit as data, and as an abstract value.
  Conditions: none but those that each statement names.
-/
import Derived.Test.YtiikpmhjckdpgaaGreatDoorPvBA
import Derived.Test.YtiikpmhjckdpgaaGreatDoorPvBF
namespace Go.Proofs.Pv
set_option linter.unusedSimpArgs false
set_option linter.unusedVariables false
def firstI {α : Type} (p : α → Bool) (l : List α) : Int := match l.findIdx? p with
 | some i => i
 | none => -1
theorem firstI_hit {α : Type} {p : α → Bool} {l : List α} {i : Nat} (hi : i < l.length) (hp : p l[i] = true) (hprev : ∀ j (h : j < l.length), j < i → p l[j] = false) : firstI p l = i := by
 have : l.findIdx? p = some i := by
  rw [List.findIdx?_eq_some_iff_getElem]
  exact ⟨hi, hp, fun j hj => by simpa using hprev j (by omega) hj⟩
 simp [firstI, this]
theorem firstI_none {α : Type} {p : α → Bool} {l : List α} (hprev : ∀ j (h : j < l.length), p l[j] = false) : firstI p l = -1 := by
 have : l.findIdx? p = none := by
  rw [List.findIdx?_eq_none_iff]
  intro x hx
  obtain ⟨j, hj, rfl⟩ := List.mem_iff_getElem.1 hx
  exact hprev j hj
 simp [firstI, this]
theorem firstI_ge {α : Type} (p : α → Bool) (l : List α) : decide (firstI p l ≥ 0) = l.any p := by
 unfold firstI
 cases h : l.findIdx? p with
 | none =>
  rw [List.findIdx?_eq_none_iff] at h
  have : l.any p = false := by rw [List.any_eq_false]; intro x hx; simp [h x hx]
  rw [this]; rfl
 | some i =>
  rw [List.findIdx?_eq_some_iff_getElem] at h
  obtain ⟨h1, h2, _⟩ := h
  have : l.any p = true := List.any_eq_true.2 ⟨_, List.getElem_mem h1, h2⟩
  rw [this]; simp
theorem prev0 {q : Nat → Prop} : ∀ j, j < 0 → q j := fun j h => absurd h (Nat.not_lt_zero _)
theorem prevN {q : Nat → Prop} {i : Nat} (h : ∀ j, j < i → q j) (hi : q i) : ∀ j, j < i + 1 → q j := by
 intro j hj
 rcases Nat.lt_succ_iff_lt_or_eq.1 hj with h' | rfl
 ·exact h j h'
 ·exact hi
def allN (n : Nat) (p : Nat → Bool) : Bool := (List.range n).all p
theorem allN_false {n : Nat} {p : Nat → Bool} {i : Nat} (hi : i < n) (h : p i = false) : allN n p = false := by
 unfold allN
 rw [List.all_eq_false]
 exact ⟨i, List.mem_range.2 hi, by simp [h]⟩
theorem allN_true {n : Nat} {p : Nat → Bool} (h : ∀ i, i < n → p i = true) : allN n p = true := by
 unfold allN
 rw [List.all_eq_true]
 intro i hi
 exact h i (List.mem_range.1 hi)
theorem all_false_at {α : Type} {p : α → Bool} {l : List α} {i : Nat} (hi : i < l.length) (h : p l[i] = false) : l.all p = false := by
 rw [List.all_eq_false]; exact ⟨_, List.getElem_mem hi, by simp [h]⟩
theorem all_true_of {α : Type} {p : α → Bool} {l : List α} (h : ∀ j (hj : j < l.length), p l[j] = true) : l.all p = true := by
 rw [List.all_eq_true]
 intro x hx
 obtain ⟨j, hj, rfl⟩ := List.mem_iff_getElem.1 hx
 exact h j hj
end Go.Proofs.Pv
namespace Go.Proofs.Pv
set_option linter.unusedSimpArgs false
set_option linter.unusedVariables false
open Go
structure Va where (base dots num den : Int)
def Va.cells (v : Va) : List AV := [.int .i64 v.base, .int .i64 v.dots, .int .i64 v.num, .int .i64 v.den]
def Va.av (v : Va) : AV := .agg [.int .i64 v.base, .int .i64 v.dots, .int .i64 v.num, .int .i64 v.den]
structure Pi where (step alter octave : Int)
def Pi.av (p : Pi) : AV := .agg [.int .i64 p.step, .int .i64 p.alter, .int .i64 p.octave]
structure Ra where (num den : Int)
def Ra.av (a : Ra) : AV := .agg [.int .i64 a.num, .int .i64 a.den]
structure Ev where
 kind : Int
 pitches : List Pi
 ties : List Bool
 value : Va
 marks : List Int
 word : ByteArray
def Ev.cells (e : Ev) : List AV := [.int .i64 e.kind, .sl 3 (e.pitches.map Pi.av) .none, .sl 1 (e.ties.map AV.bool) .none, .int .i64 e.value.base, .int .i64 e.value.dots, .int .i64 e.value.num, .int .i64 e.value.den, .sl 1 (e.marks.map (AV.int .i64)) .none, .str e.word]
def Ev.av (e : Ev) : AV := .agg [.int .i64 e.kind, .sl 3 (e.pitches.map Pi.av) .none, .sl 1 (e.ties.map AV.bool) .none, .int .i64 e.value.base, .int .i64 e.value.dots, .int .i64 e.value.num, .int .i64 e.value.den, .sl 1 (e.marks.map (AV.int .i64)) .none, .str e.word]
structure Vo where (l : List Ev)
def Vo.av (v : Vo) : AV := .agg [.sl 9 (v.l.map Ev.av) .none]
structure Te where (at_ : Ra) (micros : Int) (ramp : Bool)
def Te.av (t : Te) : AV := .agg [.int .i64 t.at_.num, .int .i64 t.at_.den, .int .i64 t.micros, .bool t.ramp]
structure Dy where (at_ : Ra) (level : Int) (hair : Bool)
def Dy.av (t : Dy) : AV := .agg [.int .i64 t.at_.num, .int .i64 t.at_.den, .int .i64 t.level, .bool t.hair]
structure Me where (num den : Int) (groups : List Int)
def Me.av (m : Me) : AV := .agg [.int .i64 m.num, .int .i64 m.den, .sl 1 (m.groups.map (AV.int .i64)) .none]
structure Ke where (fifths : Int) (minor : Bool)
def Ke.av (k : Ke) : AV := .agg [.int .i64 k.fifths, .bool k.minor]
structure Tu where (begin_ : Bool) (times : Int) (endings : List Int) (sign coda tocoda fine : Bool) (jump : Int)
structure Ba where (meter : Me) (key : Ke) (turn : Tu) (tempos : List Te)
def Ba.av (b : Ba) : AV := .agg [.int .i64 b.meter.num, .int .i64 b.meter.den, .sl 1 (b.meter.groups.map (AV.int .i64)) .none, .int .i64 b.key.fifths, .bool b.key.minor,
 .bool b.turn.begin_, .int .i64 b.turn.times, .sl 1 (b.turn.endings.map (AV.int .i64)) .none, .bool b.turn.sign, .bool b.turn.coda, .bool b.turn.tocoda, .bool b.turn.fine, .int .i64 b.turn.jump, .sl 4 (b.tempos.map Te.av) .none]
def cellAV (c : List Vo) : AV := .sl 1 (c.map Vo.av) .none
def dynsAV (c : List Dy) : AV := .sl 4 (c.map Dy.av) .none
structure Pa where (name : ByteArray) (clef channel : Int) (cells : List (List Vo)) (dyns : List (List Dy))
def Pa.av (p : Pa) : AV := .agg [.str p.name, .int .i64 p.clef, .int .i64 p.channel, .sl 1 (p.cells.map cellAV) .none, .sl 1 (p.dyns.map dynsAV) .none]
structure Sc where (title : ByteArray) (bars : List Ba) (parts : List Pa)
def Sc.av (s : Sc) : AV := .agg [.str s.title, .sl 14 (s.bars.map Ba.av) .none, .sl 5 (s.parts.map Pa.av) .none]
end Go.Proofs.Pv
namespace Go.Proofs.Pv
set_option linter.unusedSimpArgs false
set_option linter.unusedVariables false
open Go
theorem OZ_both {F : Fence} {P : Program} {G : Nat → Option (List AV)} {W : World} {rng : Bool} {d : Nat} {gds : List (Option Tmp)} {K : Fr → St → Prop} {rest : List SOp} {dd : Option Tmp} {fr : Fr} {st : St} {a b : AV × List (Nat × Option Blk)}
  (h1 : saops P G (OZ F P G W rng d) gds K rest (fr.put dd a.1) (st.app a.2)) (h2 : saops P G (OZ F P G W rng d) gds K rest (fr.put dd b.1) (st.app b.2)) : sstep P G (OZ F P G W rng d) gds K rest dd fr st (some true) (some (.branch [a, b])) := by
 have : (OZ F P G W rng d).both ([a, b].map fun x => saops P G (OZ F P G W rng d) gds K rest (fr.put dd x.1) (st.app x.2)) := by
  have hx : ∀ x ∈ ([a, b].map fun x => saops P G (OZ F P G W rng d) gds K rest (fr.put dd x.1) (st.app x.2)), x := by
   intro x hx
   simp only [List.map_cons, List.map_nil, List.mem_cons, List.not_mem_nil, or_false] at hx
   rcases hx with rfl | rfl
   ·exact h1
   ·exact h2
  cases d with
  | zero => cases rng <;> exact hx
  | succ d => exact hx
 exact this
section
variable {P : Program} {G : Nat → Option (List AV)} {s : List AV} {g : Hp} {nx : Nat} {d : Option Tmp} {op : BinOp} {t e ty c : TypeId} {x y : Operand} {pos : String} {af : Array Edge} {gd : Option (Nat × Bool)} {k : Nat} {r : AV} {rows : List AV} {tk : Tk}
theorem aop2_bin : aop2 P G s g nx ⟨d, .binOp op t x y c, ty, pos, af, gd⟩ = none := rfl
theorem aop3_bin : aop3 P G s nx ⟨d, .binOp op t x y c, ty, pos, af, gd⟩ = anil P op t (ev P G s t x) y := rfl
def isSlO (o : Option TypeDesc) (a : Option Res) : Option Res := match o with
 | some (.slice _) => a
 | _ => none
theorem isSlO_s {a : Option Res} : isSlO (some (.slice e)) a = a := rfl
theorem anil_c : anil P .eql t (.sl k (r :: rows) tk) (.const (.slice none 0 0)) = isSlO (P.underlying t) (some (.val (.bool false) [])) := by
 delta anil isSlO; cases P.underlying t with
 | none => rfl
 | some dd => cases dd <;> rfl
theorem anil_n : anil P .eql t (.sl k [] tk) (.const (.slice none 0 0)) = none := by
 delta anil; cases P.underlying t with
 | none => rfl
 | some dd => cases dd <;> rfl
theorem anil_m {key o n : Nat} : anil P .eql t (.msl key o n k) (.const (.slice none 0 0)) = isSlO (P.underlying t) (some (.val (.bool false) [])) := by
 delta anil isSlO; cases P.underlying t with
 | none => rfl
 | some dd => cases dd <;> rfl
theorem aop4_bin : aop4 P G s g ⟨d, .binOp .eql t x (.const (.slice none 0 0)) c, ty, pos, af, gd⟩ = isSlO (P.underlying t) (if emptySl (ev P G s t x) = true then some (.branch [(.bool true, []), (.bool false, [])]) else none) := by
 delta isSlO; simp only [aop4]; cases P.underlying t with
 | none => rfl
 | some dd => cases dd <;> simp [isNilC]
theorem emptySl_nil : emptySl (.sl k [] tk) = true := rfl
end
theorem HRen.nil {f : Nat → Option Nat} {h : List (Nat × Blk)} : HRen f h [] := fun k' b' hk => by simp [hget] at hk
theorem HRen.cons {f : Nat → Option Nat} {h t : List (Nat × Blk)} {k : Nat} {cs cs' : List AV} (K : Nat) (hk : hget h K = some (.cells cs)) (hf : f K = some k) (hc : cs.map (AV.ren f) = cs') (ht : HRen f h t) : HRen f h ((k, .cells cs') :: t) := by
 intro k' b' h'
 simp only [hget] at h'
 split at h'
 ·rename_i e
  simp only [Option.some.injEq] at h'
  subst e; subst h'
  exact ⟨K, .cells cs, hf, hk, by simp only [Blk.ren, hc]⟩
 ·exact ht k' b' h'
def gK (n : Nat) (ρ : List (Nat × Nat)) : Nat → Option Nat := fun k => if k < n then some k else invP ρ k
theorem RenOk.of_fit {n n1 : Nat} {ρ : List (Nat × Nat)} {marks : List Nat} (h : fitP n n1 ρ = true) (hs : (ρ.all fun p => decide (n ≤ p.1)) = true) (hm : (marks.all fun k => decide (k < n)) = true) : RenOk n n1 (renK n ρ) (gK n ρ) marks := by
 obtain ⟨g0, g1, g2, g3⟩ := fitP_mem h
 simp only [List.all_eq_true, decide_eq_true_eq] at hs hm
 refine ⟨fun k k' hk => ?_, fun k hk => ?_, fun k' hk' => ?_, hm⟩
 ·rcases renK_mem hk with hp | ⟨rfl, hlt⟩
  ·have := (g1 _ hp).1
   simp only at this
   simp only [gK]
   rw [if_neg (by omega), invP_of g3 hp]
  ·simp only [gK, if_pos hlt]
 ·have : ∀ ρ : List (Nat × Nat), (∀ p ∈ ρ, n ≤ p.1) → renK n ρ k = some k := by
   intro ρ
   induction ρ with
   | nil => intro _; simp only [renK, if_pos hk]
   | cons p r ih =>
    intro hp
    have := hp p (by simp)
    simp only [renK]
    rw [if_neg (by omega)]
    exact ih fun q hq => hp q (by simp [hq])
  exact this ρ fun p hp => hs p hp
 ·simp only [gK]
  rw [if_neg (by omega)]
  cases hi : invP ρ k' with
  | none => rfl
  | some a => exact absurd (g1 _ (invP_mem hi)).2 hk'
theorem OwnK.of {v u : AV} {h1 : List (Nat × List AV)} {m : Nat} {su : St} (ρ : List (Nat × Nat)) (h : fitP 0 m ρ = true) (hr : HRen (renK 0 ρ) su.h (hC h1)) (hu : u.ren (renK 0 ρ) = v) : OwnK v h1 m u su := by
 have ok := RenOk.of_fit (marks := []) h (by simp) rfl
 exact ⟨_, _, ok.fg, ok.top, hr, hu⟩
def ownA (k s : Nat) : Nat → AV
 | 0 => .sl s [] .mut
 | n + 1 => .msl k 0 (n + 1) s
def ownH (k : Nat) (cs : List AV) : Nat → List (Nat × List AV)
 | 0 => []
 | _ + 1 => [(k, cs)]
theorem renL_same {α : Type} {f : Nat → Option Nat} {c : α → List AV} (h : ∀ x, (c x).map (AV.ren f) = c x) : ∀ l : List α, (l.flatMap c).map (AV.ren f) = l.flatMap c
 | [] => rfl
 | x :: l => by simp only [List.flatMap_cons, List.map_append, h x, renL_same h l]
theorem evRen {f : Nat → Option Nat} (l : List Ev) : (l.flatMap Ev.cells).map (AV.ren f) = l.flatMap Ev.cells := renL_same (fun _ => rfl) l
theorem flat_take_succ {α : Type} {c : α → List AV} {l : List α} {i : Nat} (h : i < l.length) : (l.take (i + 1)).flatMap c = (l.take i).flatMap c ++ c l[i] := by
 rw [List.take_succ_eq_append_getElem h, List.flatMap_append]; simp
theorem own_end {k s n nx : Nat} {cs : List AV} (hc : ∀ f, cs.map (AV.ren f) = cs) : OwnK (ownA 0 s n) (ownH 0 cs n) 1 (ownA k s n) ⟨hC (ownH k cs n), nx⟩ := by
 refine OwnK.of [(k, 0)] rfl ?_ ?_
 ·cases n with
  | zero => exact HRen.nil
  | succ n => exact HRen.cons k (by simp [hC, ownH, hget]) (by simp [renK]) (hc _) HRen.nil
 ·cases n with
  | zero => rfl
  | succ n => simp [ownA, AV.ren, renK]
theorem flat_length {α : Type} {c : α → List AV} {k : Nat} (h : ∀ x, (c x).length = k) : ∀ l : List α, (l.flatMap c).length = l.length * k
 | [] => by simp
 | x :: l => by simp only [List.flatMap_cons, List.length_append, h x, flat_length h l, List.length_cons, Nat.add_mul]; omega
theorem now_own {hp : Hp} {d key n k : Nat} {cs cs' : List AV} (hk : hp key = some (.cells cs)) (h0 : 0 < k) (hc : cs.map (AV.now hp d) = cs') (hl : n * k ≤ cs.length) (hpu : cs'.all AV.pure = true) : AV.now hp (d + 1) (.msl key 0 n k) = .sl k (chunks (!(Nat.beq k 1)) k n cs') .none := by
 simp only [AV.now, hk, List.drop_zero, hc]
 rw [if_pos ⟨h0, by omega, hpu⟩]
theorem nowFlat {hp : Hp} {d : Nat} {α : Type} {c : α → List AV} (h : ∀ x, (c x).map (AV.now hp d) = c x) : ∀ l : List α, (l.flatMap c).map (AV.now hp d) = l.flatMap c
 | [] => rfl
 | x :: l => by simp only [List.flatMap_cons, List.map_append, h x, nowFlat h l]
theorem evNow {hp : Hp} {d : Nat} (x : Ev) : x.cells.map (AV.now hp d) = x.cells := by cases d <;> rfl
theorem pureFlat {α : Type} {c : α → List AV} (h : ∀ x, (c x).all AV.pure = true) : ∀ l : List α, (l.flatMap c).all AV.pure = true
 | [] => rfl
 | x :: l => by simp only [List.flatMap_cons, List.all_append, h x, pureFlat h l, Bool.and_self]
theorem chunksFlat {α : Type} {c : α → List AV} {k : Nat} (h : ∀ x, (c x).length = k) : ∀ l : List α, chunks true k l.length (l.flatMap c) = l.map fun x => .agg (c x)
 | [] => rfl
 | x :: l => by
  have hx := h x
  simp only [List.length_cons, chunks, List.flatMap_cons, List.map_cons, if_true]
  rw [List.take_append_of_le_length (by omega), List.take_of_length_le (by omega), ← hx, List.drop_left, hx, chunksFlat h l]
theorem strip0_msl {a b c d : Nat} : AV.strip0 (.msl a b c d) = .msl a b c d := rfl
theorem pure_msl {a b c d : Nat} : AV.pure (.msl a b c d) = false := rfl
theorem nowS_own {sty : Nat → Bool} {hp : Hp} {d key n k : Nat} {cs cs' : List AV} (hk : hp key = some (.cells cs)) (h0 : 0 < k) (hc : cs.map (AV.nowS sty hp d) = cs') (hl : n * k ≤ cs.length) (hpu : cs'.all AV.pure = true) : AV.nowS sty hp (d + 1) (.msl key 0 n k) = .sl k (chunks (!(Nat.beq k 1) || sty key) k n cs') .none := by
 simp only [AV.nowS, hk, List.drop_zero, hc]
 rw [if_pos ⟨h0, by omega, hpu⟩]
theorem nowSFlat {sty : Nat → Bool} {hp : Hp} {d : Nat} {α : Type} {c : α → List AV} (h : ∀ x, (c x).map (AV.nowS sty hp d) = c x) : ∀ l : List α, (l.flatMap c).map (AV.nowS sty hp d) = l.flatMap c
 | [] => rfl
 | x :: l => by simp only [List.flatMap_cons, List.map_append, h x, nowSFlat h l]
theorem evNowS {sty : Nat → Bool} {hp : Hp} {d : Nat} (x : Ev) : x.cells.map (AV.nowS sty hp d) = x.cells := by cases d <;> rfl
theorem evsNowS {sty : Nat → Bool} {hp : Hp} {d key n : Nat} (l : List Ev) (hn : n = l.length) (hk : hp key = some (.cells (l.flatMap Ev.cells))) : AV.nowS sty hp (d + 1) (.msl key 0 n 9) = .sl 9 (l.map Ev.av) .none := by
 subst hn
 refine (nowS_own hk (by decide) (nowSFlat evNowS l) (by rw [flat_length (k := 9) (fun _ => rfl)]; omega) (pureFlat (fun _ => rfl) l)).trans ?_
 rw [show (!(Nat.beq 9 1) || sty key) = true from rfl, chunksFlat (c := Ev.cells) (k := 9) (fun _ => rfl) l]
 rfl
theorem chunksOne {α : Type} {c : α → AV} : ∀ l : List α, chunks false 1 l.length (l.map c) = l.map c
 | [] => rfl
 | x :: l => by
  simp only [List.length_cons, chunks, List.map_cons, Bool.false_eq_true, if_false, List.headD_cons, List.drop_succ_cons, List.drop_zero]
  rw [chunksOne l]
theorem strip_msl {a b c d : Nat} : AV.strip (.msl a b c d) = .msl a b c d := rfl
theorem pureV_msl {a b c d : Nat} : AV.pureV (.msl a b c d) = false := rfl
theorem aappM_mcap {P : Program} {g : Hp} {nx : Nat} {t : TypeId} {a b c d e : Nat} {x : AV} : aappM P g nx t (.mcap a b c d e) x = none := by
 unfold aappM
 cases elt P t with
 | none => rfl
 | some el =>
  simp only
  cases sz P el <;> cases byt P el <;> try rfl
  simp only
  rename_i n _
  cases xcells g n x with
  | none => rfl
  | some y => simp
end Go.Proofs.Pv
namespace Go.Proofs.Pv
set_option linter.unusedSimpArgs false
set_option linter.unusedVariables false
open Go
structure EOp where
 kind : Int
 part : Int
 bar : Int
 voice : Int
 at_ : Int
 count : Int
 events : List Ev
 bars : List Ba
 cells : List (List (List Vo))
 dyns : List (List (List Dy))
 steps : Int
 halves : Int
 text : ByteArray
def cellsAV (c : List (List Vo)) : AV := .sl 1 (c.map cellAV) .none
def dynssAV (c : List (List Dy)) : AV := .sl 1 (c.map dynsAV) .none
def EOp.cells13 (o : EOp) : List AV := [.int .i64 o.kind, .int .i64 o.part, .int .i64 o.bar, .int .i64 o.voice, .int .i64 o.at_, .int .i64 o.count, .sl 9 (o.events.map Ev.av) .none, .sl 14 (o.bars.map Ba.av) .none, .sl 1 (o.cells.map cellsAV) .none, .sl 1 (o.dyns.map dynssAV) .none, .int .i64 o.steps, .int .i64 o.halves, .str o.text]
def EOp.av (o : EOp) : AV := .agg [.int .i64 o.kind, .int .i64 o.part, .int .i64 o.bar, .int .i64 o.voice, .int .i64 o.at_, .int .i64 o.count, .sl 9 (o.events.map Ev.av) .none, .sl 14 (o.bars.map Ba.av) .none, .sl 1 (o.cells.map cellsAV) .none, .sl 1 (o.dyns.map dynssAV) .none, .int .i64 o.steps, .int .i64 o.halves, .str o.text]
end Go.Proofs.Pv
