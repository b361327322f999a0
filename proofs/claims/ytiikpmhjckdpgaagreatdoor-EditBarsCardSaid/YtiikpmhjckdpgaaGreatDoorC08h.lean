/-
  Layer 8's check of a score: voices checked.
  Conditions: the lists are not longer than a machine's memory.
-/
import Derived.Test.YtiikpmhjckdpgaaGreatDoorC08g
namespace Go.Proofs.Pv
open Go Go.Proofs
set_option linter.unusedSimpArgs false
set_option linter.unusedVariables false
set_option maxRecDepth 10000
set_option maxHeartbeats 4000000
theorem check1_ok (e : Ev) (hs : e.small) : PC Tryz.prog gl 146 [e.av] (fun v => v = .bool (!e.right)) := by
 (refine PC.introY 1 mix (fn := Tryz.f146) Tryz.func146 rfl (names 146 _ Tryz.func146) fun F hF hro W => ?_; simp -implicitDefEqProofs only [Tryz.ntmps146, Tryz.results146, entL, Nat.reduceAdd, Nat.reduceSub])
 repeat' (first
  | simp -implicitDefEqProofs (disch := first | assumption | omega) only [runsY, lstY, facts, if_pos, Nat.reduceAdd, Ev.av, *]
  | ((with_reducible refine OY_at 68 ?_); refine PC.useY hF (eventRight_ok e hs) (rfl) fun v hv => ?_; subst hv))
def firstN (n : Nat) (p : Nat → Bool) : Option Nat := (List.range n).find? p
def Vo.tieBad (v : Vo) (k : Nat) : Bool := !(leadsB (v.l.getD k zeroEv) (v.l.getD (k + 1) zeroEv) true)
def Vo.checkR (v : Vo) : Int × Int :=
 if v.l.length > 64 then (64, 70)
 else if firstI (fun e => !e.right) v.l ≥ 0 then (firstI (fun e => !e.right) v.l, 60)
 else match firstN (v.l.length - 1) v.tieBad with
  | some k => (k, 71)
  | none => (0, 0)
def Vo.small (v : Vo) : Prop := v.l.length ≤ 1000000 ∧ ∀ e ∈ v.l, e.small
def entsOf : Nat → List Pi → List ME
 | _, [] => []
 | n, p :: ps => ⟨p.av, .bool true, n⟩ :: entsOf (n + 1) ps
theorem entsOf_len : ∀ (ps : List Pi) (n : Nat), (entsOf n ps).length = ps.length
 | [], _ => rfl
 | _ :: ps, n => by simp [entsOf, entsOf_len ps]
theorem entsOf_at : ∀ (ps : List Pi) (n j : Nat), (entsOf n ps)[j]? = (ps[j]?).map fun p => ⟨p.av, .bool true, n + j⟩
 | [], _, _ => by simp [entsOf]
 | p :: ps, n, 0 => by simp [entsOf]
 | p :: ps, n, j + 1 => by simp only [entsOf, List.getElem?_cons_succ, entsOf_at ps]; congr; funext p; congr 1; omega
theorem entsOf_snoc : ∀ (ps : List Pi) (n : Nat) (p : Pi), entsOf n (ps ++ [p]) = entsOf n ps ++ [⟨p.av, .bool true, n + ps.length⟩]
 | [], n, p => by simp [entsOf]
 | q :: ps, n, p => by simp only [List.cons_append, entsOf, entsOf_snoc ps, List.length_cons]; congr 4; omega
theorem same_eq {a b : Pi} (h : a.same b = true) : a = b := by
 simp only [Pi.same, Bool.and_eq_true, beq_iff_eq] at h
 obtain ⟨a1, a2, a3⟩ := a
 obtain ⟨b1, b2, b3⟩ := b
 simp at h
 obtain ⟨rfl, rfl, rfl⟩ := h
 rfl
theorem aeq_pi (a b : Pi) : aeq Tryz.prog 9 72 a.av b.av = some (a.same b) := by
 rw [Pi.av, Pi.av, aeq72]; simp [Pi.same]
theorem akc_pi (a : Pi) : akc Tryz.prog 9 72 (.agg [.int .i64 a.step, .int .i64 a.alter, .int .i64 a.octave]) = true := by kernel_rfl
theorem litEq_pi (a : Pi) : AV.litEq (.agg [.int .i64 a.step, .int .i64 a.alter, .int .i64 a.octave]) (.agg [.int .i64 a.step, .int .i64 a.alter, .int .i64 a.octave]) = true := by simp [AV.litEq, beqL, beq1]
theorem afind_ents (x : Pi) : ∀ (ps : List Pi) (n i : Nat), afind Tryz.prog 72 (.agg [.int .i64 x.step, .int .i64 x.alter, .int .i64 x.octave]) (entsOf n ps) i = some ((ps.findIdx? fun y => x.same y).map (· + i))
 | [], _, _ => rfl
 | p :: ps, n, i => by
  simp only [entsOf, afind]
  have e := aeq_pi x p
  rw [Pi.av] at e
  rw [e]
  cases h : x.same p with
  | true => simp [List.findIdx?_cons, h]
  | false =>
   simp only [afind_ents x ps, List.findIdx?_cons, h, Bool.false_eq_true, if_false, Option.map_map]
   congr 2
   funext k
   simp; omega
theorem entsOf_ren (f : Nat → Option Nat) : ∀ (ps : List Pi) (n : Nat), (entsOf n ps).map (ME.ren f) = entsOf n ps
 | [], _ => rfl
 | p :: ps, n => by
  simp only [entsOf, List.map_cons, entsOf_ren f ps]
  rfl
def insP (ps : List Pi) (p : Pi) : List Pi := if ps.any (fun y => p.same y) = true then ps else ps ++ [p]
def tiedS (e : Ev) : Nat → List Pi
 | 0 => []
 | i + 1 => if e.ties.getD i false = true then insP (tiedS e i) (e.pitches.getD i ⟨0, 0, 0⟩) else tiedS e i
theorem tiedS_len (e : Ev) : ∀ i, (tiedS e i).length ≤ i
 | 0 => by simp [tiedS]
 | i + 1 => by
  have := tiedS_len e i
  simp only [tiedS, insP]
  split
  ·split
   ·omega
   ·simp; omega
  ·omega
theorem set_same {ps : List Pi} {x : Pi} {j : Nat} (h : ps.findIdx? (fun y => x.same y) = some j) : ∃ (hj : j < ps.length), ps[j] = x ∧ (entsOf 0 ps).set j ⟨.agg [.int .i64 x.step, .int .i64 x.alter, .int .i64 x.octave], .bool true, j⟩ = entsOf 0 ps := by
 rw [List.findIdx?_eq_some_iff_getElem] at h
 obtain ⟨h1, h2, _⟩ := h
 have e := same_eq h2
 refine ⟨h1, e.symm, ?_⟩
 apply List.ext_getElem?
 intro k
 rw [List.getElem?_set]
 split
 ·rename_i hk
  subst hk
  rw [entsOf_at, List.getElem?_eq_getElem h1, ← e, if_pos (by rw [entsOf_len]; exact h1), Nat.zero_add]
  rfl
 ·rfl
theorem any_findIdx {ps : List Pi} {x : Pi} : (ps.any fun y => x.same y) = (ps.findIdx? fun y => x.same y).isSome := by
 cases h : ps.findIdx? (fun y => x.same y) with
 | none => rw [List.findIdx?_eq_none_iff] at h; simp only [Option.isSome_none]; rw [List.any_eq_false]; intro y hy; simp [h y hy]
 | some j => rw [List.findIdx?_eq_some_iff_getElem] at h; obtain ⟨h1, h2, _⟩ := h; simp only [Option.isSome_some]; exact List.any_eq_true.2 ⟨_, List.getElem_mem h1, h2⟩
def leftE (T : List Pi) (seen : List Nat) : List ME := (entsOf 0 T).filter fun e => !seen.contains e.born
theorem entsOf_mem {T : List Pi} {e : ME} (h : e ∈ entsOf 0 T) : ∃ (b : Nat) (hb : b < T.length), e = ⟨T[b].av, .bool true, b⟩ := by
 obtain ⟨b, hb, rfl⟩ := List.mem_iff_getElem.1 h
 rw [entsOf_len] at hb
 have := entsOf_at T 0 b
 rw [List.getElem?_eq_getElem (by rw [entsOf_len]; exact hb), List.getElem?_eq_getElem hb] at this
 simp only [Option.map_some, Option.some.injEq, Nat.zero_add] at this
 exact ⟨b, hb, this⟩
theorem entsOf_in {T : List Pi} {b : Nat} (hb : b < T.length) : (⟨T[b].av, .bool true, b⟩ : ME) ∈ entsOf 0 T := by
 have := entsOf_at T 0 b
 rw [List.getElem?_eq_getElem hb] at this
 simp only [Option.map_some, Nat.zero_add] at this
 exact List.mem_of_getElem? this
theorem leftE_mem {T : List Pi} {seen : List Nat} {e : ME} (h : e ∈ leftE T seen) : ∃ (b : Nat) (hb : b < T.length), e = ⟨T[b].av, .bool true, b⟩ ∧ b ∉ seen := by
 unfold leftE at h
 rw [List.mem_filter] at h
 obtain ⟨b, hb, rfl⟩ := entsOf_mem h.1
 exact ⟨b, hb, rfl, by simpa using h.2⟩
theorem leftE_empty {T : List Pi} {seen : List Nat} (h : (leftE T seen).isEmpty = true) {b : Nat} (hb : b < T.length) : b ∈ seen := by
 have h' : leftE T seen = [] := List.isEmpty_iff.1 h
 unfold leftE at h'
 rw [List.filter_eq_nil_iff] at h'
 have := h' _ (entsOf_in hb)
 simpa using this
theorem next_ents {P : Program} {G : Nat → Option (List AV)} {s : List AV} {g : Hp} {dst : Option Tmp} {ty : TypeId} {pos : String} {af : Array Edge} {gd : Option (Nat × Bool)} {t k m : Nat} {seen : List Nat} {T : List Pi}
  (hs : s.getD t .ud = .ptr k 0) (hk : g k = some (.mit m T.length seen T.length)) (hm : g m = some (.map (entsOf 0 T) T.length)) :
  aop4 P G s g ⟨dst, .next (.tmp t) false, ty, pos, af, gd⟩ = some (.branch ((if (leftE T seen).isEmpty then [(.tup [.bool false], [])] else []) ++ (leftE T seen).map fun e => (.tup [.bool true, e.key, e.val], [(k, some (.mit m T.length (seen ++ [e.born]) T.length))]))) := by
 simp only [aop4, ev, hs, hk, hm]
 have h1 : (!seen.isEmpty && !(entsOf 0 T).isEmpty && (entsOf 0 T).all fun e => decide (e.born ≥ T.length)) = false := by
  cases T with
  | nil => simp [entsOf]
  | cons p ps => simp [entsOf]
 have h2 : ((entsOf 0 T).filter fun e => !seen.contains e.born).filter (fun e => decide (e.born < T.length)) = leftE T seen := by
  rw [leftE, List.filter_eq_self]
  intro e he
  obtain ⟨b, hb, rfl⟩ := entsOf_mem (List.mem_filter.1 he).1
  simpa using hb
 have h3 : ((entsOf 0 T).filter fun e => !seen.contains e.born).filter (fun e => decide (e.born ≥ T.length)) = [] := by
  rw [List.filter_eq_nil_iff]
  intro e he
  obtain ⟨b, hb, rfl⟩ := entsOf_mem (List.mem_filter.1 he).1
  simpa using hb
 rw [h1, h2, h3]
 simp
theorem entry_ents {P : Program} {G : Nat → Option (List AV)} {s : List AV} {g : Hp} {dst : Option Tmp} {ty : TypeId} {pos : String} {af : Array Edge} {gd : Option (Nat × Bool)} {t k m : Nat} {seen : List Nat} {T : List Pi} {b : Nat} (hb : b < T.length)
  (hs : s.getD t .ud = .ptr k 0) (hk : g k = some (.mit m T.length (seen ++ [b]) T.length)) (hm : g m = some (.map (entsOf 0 T) T.length)) :
  aop4 P G s g ⟨dst, .entry (.tmp t), ty, pos, af, gd⟩ = some (.val (.tup [T[b].av, .bool true]) []) := by
 have h1 : (entsOf 0 T).find? (fun e => e.born == b) = some ⟨T[b].av, .bool true, b⟩ := by
  cases h : (entsOf 0 T).find? (fun e => e.born == b) with
  | none =>
   rw [List.find?_eq_none] at h
   have := h _ (entsOf_in hb)
   simp at this
  | some e =>
   have h2 := List.mem_of_find?_eq_some h
   have h3 := List.find?_some h
   obtain ⟨c, hc, rfl⟩ := entsOf_mem h2
   have : c = b := by simpa using h3
   subst this; rfl
 simp only [aop4, ev, hs, hk, hm, List.getLast?_append, List.getLast?_singleton, Option.some_or, if_true, h1]
theorem OY_both {F : Fence} {P : Program} {G : Nat → Option (List AV)} {W : World} {rng : Bool} {d : Nat} {gds : List (Option Tmp)} {K : Fr → St → Prop} {rest : List SOp} {dd : Option Tmp} {fr : Fr} {st : St} {l : List (AV × List (Nat × Option Blk))}
  (h : ∀ x ∈ l, saops P G (OY F P G W rng d) gds K rest (fr.put dd x.1) (st.app x.2)) : sstep P G (OY F P G W rng d) gds K rest dd fr st (some true) (some (.branch l)) := by
 have : (OY F P G W rng d).both (l.map fun x => saops P G (OY F P G W rng d) gds K rest (fr.put dd x.1) (st.app x.2)) := by
  have key : ∀ X ∈ (l.map fun x => saops P G (OY F P G W rng d) gds K rest (fr.put dd x.1) (st.app x.2)), X := by
   intro X hX
   obtain ⟨x, hx, rfl⟩ := List.mem_map.1 hX
   exact h x hx
  cases d with
  | zero => cases rng <;> exact key
  | succ d => exact key
 exact this
theorem tied_all (e f : Ev) : ∀ i, allN i (leadAt e f true) = (tiedS e i).all fun p => f.pitches.any fun y => p.same y
 | 0 => rfl
 | i + 1 => by
  have ih := tied_all e f i
  have h1 : allN (i + 1) (leadAt e f true) = (allN i (leadAt e f true) && leadAt e f true i) := by simp [allN, List.range_succ]
  rw [h1, ih]
  simp only [tiedS, leadAt, Bool.true_and]
  cases ht : e.ties.getD i false with
  | false => simp
  | true =>
   simp only [Bool.not_true, Bool.false_or, if_true, insP]
   split
   ·rename_i h
    obtain ⟨y, hy, hs⟩ := List.any_eq_true.1 h
    have e1 := same_eq hs
    cases h2 : (tiedS e i).all fun p => f.pitches.any fun y => p.same y with
    | false => rfl
    | true =>
     have := List.all_eq_true.1 h2 y hy
     rw [← e1] at this
     rw [this]; rfl
   ·simp
theorem firstN_hit {n : Nat} {p : Nat → Bool} {i : Nat} (hi : i < n) (hp : p i = true) (hprev : ∀ j, j < i → p j = false) : firstN n p = some i := by
 unfold firstN
 rw [List.find?_eq_some_iff_getElem]
 exact ⟨hp, i, by simpa using hi, by simp, fun j hj => by simp [hprev j hj]⟩
theorem firstN_none {n : Nat} {p : Nat → Bool} (hprev : ∀ j, j < n → p j = false) : firstN n p = none := by
 unfold firstN
 rw [List.find?_eq_none]
 intro x hx
 simp [hprev x (List.mem_range.1 hx)]
theorem nodup_len : ∀ (n : Nat) (l : List Nat), l.Nodup → (∀ b ∈ l, b < n) → l.length ≤ n
 | 0, l, _, h => by
  cases l with
  | nil => simp
  | cons a l => exact absurd (h a (by simp)) (by omega)
 | n + 1, l, hd, h => by
  by_cases hn : n ∈ l
  ·have h1 := nodup_len n (l.erase n) (hd.erase n) (fun b hb => by
    have hb' := (List.Nodup.mem_erase_iff hd).1 hb
    have := h b hb'.2
    omega)
   rw [List.length_erase_of_mem hn] at h1
   omega
  ·have h1 := nodup_len n l hd (fun b hb => by
    have := h b hb
    have : b ≠ n := fun e => hn (e ▸ hb)
    omega)
   omega
theorem voiceCheck_ok (v : Vo) (hs : v.small) : PC Tryz.prog gl 116 [v.av] (fun w => w = .tup [.int .i64 v.checkR.1, .int .i64 v.checkR.2]) := by
  (refine PC.introY 3 mix (fn := Tryz.f116) Tryz.func116 rfl (names 116 _ Tryz.func116) fun F hF hro W => ?_; simp -implicitDefEqProofs only [Tryz.ntmps116, Tryz.results116, entL, Nat.reduceAdd, Nat.reduceSub])
  repeat' (first
    | simp -implicitDefEqProofs (disch := first | assumption | omega) only [runsY, lstY, facts, if_pos, Nat.reduceAdd, Vo.av, *]
    | ((with_reducible refine condK_dec (fun _ => ?_) (fun _ => ?_)) <;> try omega)
    | ((with_reducible refine OY_at 145 ?_); refine PC.useY hF (indexFuncEv_ok v.l _ [] (fun e => !e.right) hs.1 rfl rfl (fun _ => rfl) (fun a ha => check1_ok a (hs.2 a ha))) (rfl) fun v hv => ?_; subst hv))
  · have h : v.l.length > 64 := by omega
    simp [Vo.checkR, h]
  · rename_i h1 h2
    have h : ¬ v.l.length > 64 := by omega
    simp [Vo.checkR, h, h2]
  have h65 : v.l.length ≤ 64 := by omega
  refine OY_for (mkM 47 [1, 5]) [] 200 v.l.length (fun i (_ : Unit) => ⟨[.ud, .ptr 0 0, .ud, .ud, .ud, .int .i64 (i : Nat), .ud, .ud, .ud, .ud, .ud, .ud, .ud, .ud, .ud, .ud, .ud, .ud, .ud, .ud, .ud, .ud, .ud, .ud, .ud, .ud, .ud, .ud, .ud, .ud, .ud, .ud, .ud, .ud, .ud, .ud, .ud, .ud, .ud, .ud, .ud, .ud, .ud, .ud, .ud, .ud, .ud], []⟩) (fun _ _ => ⟨[(0, .cells [.sl 9 (v.l.map Ev.av) .none])], 200⟩) (fun i _ => ∀ j, j < i → v.tieBad j = false) () prev0 rfl rfl ?_
  rintro i ⟨⟩ hi hQ
  repeat' (first
    | simp -implicitDefEqProofs (disch := first | assumption | omega) only [runsY, lstY, facts, if_pos, Nat.reduceAdd, wrap_in, List.getElem?_eq_getElem, Ev.av, *]
    | ((with_reducible refine condK_dec (fun _ => ?_) (fun _ => ?_)) <;> try omega))
  · rename_i hlt
    have hlt' : i < v.l.length := by omega
    have hsm := hs.2 v.l[i] (List.getElem_mem hlt')
    have hnx : i + 1 < v.l.length := by omega
    have hsn := hs.2 v.l[i + 1] (List.getElem_mem hnx)
    have hbad : v.tieBad i = !(leadsB v.l[i] v.l[i + 1] true) := by rw [Vo.tieBad, getD_at hlt', getD_at hnx]
    generalize he : v.l[i] = e at hsm hbad ⊢
    generalize hf : v.l[i + 1] = f at hsn hbad
    obtain ⟨hp1, hp2, hp3⟩ := hsm
    (refine OY_inline hF hro mix names 2 (fn := Tryz.f147) Tryz.func147 rfl ?_; simp -implicitDefEqProofs only [Tryz.ntmps147, Tryz.results147, entL, Nat.reduceAdd, Nat.reduceSub])
    repeat' (simp -implicitDefEqProofs (disch := first | assumption | omega) only [runsY, lstY, facts, if_pos, Nat.reduceAdd, Nat.reduceLeDiff, aop2, *])
    refine OY_for (mkM 31 [1, 3, 8, 9, 10]) [] 300 e.pitches.length (fun j (_ : Unit) => ⟨[.ud, .ptr 211 0, .ud, .map 213, .ud, .ud, .ud, .ud, .sl 3 (e.pitches.map Pi.av) .none, .int .i64 (e.pitches.length : Nat), .int .i64 (j : Nat), .ud, .ud, .ud, .ud, .ud, .ud, .ud, .ud, .ud, .ud, .ud, .ud, .ud, .ud, .ud, .ud, .ud, .ud, .ud, .ud], []⟩) (fun j _ => ⟨[(213, .map (entsOf 0 (tiedS e j)) (tiedS e j).length), (211, .cells e.cells), (0, .cells [.sl 9 (v.l.map Ev.av) .none])], 300⟩) (fun j _ => (tiedS e j).length ≤ j) () (tiedS_len e 0) rfl rfl ?_
    rintro j ⟨⟩ hj -
    by_cases hjl : j < e.pitches.length
    · have hg : e.pitches.getD j ⟨0, 0, 0⟩ = e.pitches[j] := getD_at hjl
      have hany := any_findIdx (ps := tiedS e j) (x := e.pitches[j])
      by_cases ht : j < e.ties.length
      · have hg2 : e.ties.getD j false = e.ties[j] := getD_at ht
        cases hfi : (tiedS e j).findIdx? (fun y => e.pitches[j].same y) with
        | none =>
          have hT : e.ties[j] = true → tiedS e (j + 1) = tiedS e j ++ [e.pitches[j]] := fun h => by simp only [tiedS, hg2, h, if_true, insP, hg, hany, hfi, Option.isSome_none, Bool.false_eq_true, if_false]
          have hF : e.ties[j] = false → tiedS e (j + 1) = tiedS e j := fun h => by simp only [tiedS, hg2, h, Bool.false_eq_true, if_false]
          repeat' (first
    | simp -implicitDefEqProofs (disch := first | assumption | omega) only [runsY, lstY, facts, if_pos, Nat.reduceAdd, Nat.reduceLeDiff, wrap_in, aop2, Ev.cells, List.getElem?_eq_getElem, Pi.av, akc_pi, afind_ents, Option.map_none, *]
    | ((with_reducible refine condK_dec (fun _ => ?_) (fun _ => ?_)) <;> try omega)
    | ((with_reducible refine condK_split (fun _ => ?_) (fun _ => ?_)) <;> try omega)
    | ((with_reducible refine sstep_dec (fun _ => ?_) (fun _ => ?_)) <;> try omega))
          · rename_i h1 h2 h3
            refine OY_next () hjl (tiedS_len e (j + 1)) ?_ rfl
            have hx : entsOf 0 (tiedS e j) ++ [⟨.agg [.int .i64 e.pitches[j].step, .int .i64 e.pitches[j].alter, .int .i64 e.pitches[j].octave], .bool true, (tiedS e j).length⟩] = entsOf 0 (tiedS e (j + 1)) := by rw [hT h3, entsOf_snoc, Nat.zero_add]; rfl
            have hl : (tiedS e j).length + 1 = (tiedS e (j + 1)).length := by rw [hT h3, List.length_append]; rfl
            rw [hx, hl]
            refine (show _ = some (St.mk ((213, Blk.map (List.map (ME.ren (renK 219 [])) _) _) :: _) 300) from rfl).trans ?_
            rw [entsOf_ren]; rfl
          · rename_i h1 h2 h3
            refine OY_next () hjl (tiedS_len e (j + 1)) ?_ rfl
            simp only [hF h3]
            refine (show _ = some (St.mk ((213, Blk.map (List.map (ME.ren (renK 219 [])) _) _) :: _) 300) from rfl).trans ?_
            rw [entsOf_ren]; rfl
        | some q =>
          obtain ⟨hq1, hq2, hq3⟩ := set_same hfi
          have hq4 := entsOf_at (tiedS e j) 0 q
          rw [List.getElem?_eq_getElem hq1, hq2] at hq4
          have hT : tiedS e (j + 1) = tiedS e j := by simp only [tiedS, insP, hg, hany, hfi, Option.isSome_some, if_true, ite_self]
          repeat' (first
    | simp -implicitDefEqProofs (disch := first | assumption | omega) only [runsY, lstY, facts, if_pos, Nat.reduceAdd, Nat.reduceLeDiff, wrap_in, aop2, Ev.cells, List.getElem?_eq_getElem, Pi.av, akc_pi, afind_ents, litEq_pi, *]
    | ((with_reducible refine condK_dec (fun _ => ?_) (fun _ => ?_)) <;> try omega)
    | ((with_reducible refine condK_split (fun _ => ?_) (fun _ => ?_)) <;> try omega)
    | ((with_reducible refine sstep_dec (fun _ => ?_) (fun _ => ?_)) <;> try omega))
          all_goals
            refine OY_next () hjl (tiedS_len e (j + 1)) ?_ rfl
            simp only [hT]
            refine (show _ = some (St.mk ((213, Blk.map (List.map (ME.ren (renK 219 [])) _) _) :: _) 300) from rfl).trans ?_
            rw [entsOf_ren]; rfl
      · have hg2 : e.ties.getD j false = false := by simp [List.getElem?_eq_none (Nat.le_of_not_lt ht)]
        have hT : tiedS e (j + 1) = tiedS e j := by simp only [tiedS, hg2, Bool.false_eq_true, if_false]
        repeat' (first
    | simp -implicitDefEqProofs (disch := first | assumption | omega) only [runsY, lstY, facts, if_pos, Nat.reduceAdd, Nat.reduceLeDiff, wrap_in, aop2, Ev.cells, List.getElem?_eq_getElem, Pi.av, *]
    | ((with_reducible refine condK_dec (fun _ => ?_) (fun _ => ?_)) <;> try omega)
    | ((with_reducible refine sstep_dec (fun _ => ?_) (fun _ => ?_)) <;> try omega))
        refine OY_next () hjl (tiedS_len e (j + 1)) ?_ rfl
        simp only [hT]
        refine (show _ = some (St.mk ((213, Blk.map (List.map (ME.ren (renK 219 [])) _) _) :: _) 300) from rfl).trans ?_
        rw [entsOf_ren]; rfl
    · have hje : j = e.pitches.length := by omega
      subst hje
      repeat' (first
    | simp -implicitDefEqProofs (disch := first | assumption | omega) only [runsY, lstY, facts, Nat.reduceAdd, aop2, Ev.cells, *]
    | ((with_reducible refine condK_dec (fun _ => ?_) (fun _ => ?_)) <;> try omega))
      have hall := tied_all e f e.pitches.length
      generalize hTT : tiedS e e.pitches.length = T at hall ⊢
      have hle : leadsB e f true = T.all fun p => f.pitches.any fun y => p.same y := hall
      rw [hle] at hbad
      obtain ⟨hf1, hf2, hf3⟩ := hsn
      refine OY_for (mkM 47 [1, 5, 31]) [] 400 T.length (fun _ (_ : List Nat) => ⟨[.ud, .ptr 0 0, .ud, .ud, .ud, .int .i64 (i : Nat), .ud, .ud, .ud, .ud, .ud, .ud, .ud, .ud, .ud, .ud, .ud, .ud, .ud, .ud, .ud, .ud, .ud, .ud, .ud, .ud, .ud, .ud, .ud, .ud, .ud, .ptr 303 0, .ud, .ud, .ud, .ud, .ud, .ud, .ud, .ud, .ud, .ud, .ud, .ud, .ud, .ud, .ud], []⟩) (fun _ seen => ⟨[(303, .mit 213 T.length seen T.length), (213, .map (entsOf 0 T) T.length), (211, .cells e.cells), (0, .cells [.sl 9 (v.l.map Ev.av) .none])], 400⟩)
        (fun n seen => seen.length = n ∧ seen.Nodup ∧ ∀ b ∈ seen, ∃ h : b < T.length, (f.pitches.any fun y => T[b].same y) = true) [] ⟨rfl, List.nodup_nil, fun b hb => by cases hb⟩ ?_ rfl ?_
      · refine (show _ = some (St.mk (_ :: (213, Blk.map (List.map (ME.ren (renK 304 [])) _) _) :: _) 400) from rfl).trans ?_
        rw [entsOf_ren]; rfl
      rintro n seen hn ⟨hl, hnd, hin⟩
      repeat' (first
    | simp -implicitDefEqProofs (disch := first | assumption | omega) only [runsY, lstY, aop2, aop3, *]
    | with_reducible refine sstep_stop ?_)
      unfold Stuck
      rw [next_ents (T := T) (seen := seen) (k := 303) (m := 213) rfl rfl rfl]
      refine OY_both fun x hx => ?_
      rcases List.mem_append.1 hx with hx | hx
      · split at hx
        · rename_i hemp
          obtain rfl := List.mem_singleton.1 hx
          have hgood : (T.all fun p => f.pitches.any fun y => p.same y) = true := by
            rw [List.all_eq_true]
            intro p hp
            obtain ⟨b, hb, rfl⟩ := List.mem_iff_getElem.1 hp
            exact (hin b (leftE_empty hemp hb)).2
          repeat' (simp -implicitDefEqProofs (disch := first | assumption | omega) only [runsY, lstY, Nat.reduceAdd, wrap_in, *])
          exact OY_next () (by omega) (prevN hQ (by rw [hbad, hgood]; rfl)) rfl rfl
        · cases hx
      · obtain ⟨en, hen, rfl⟩ := List.mem_map.1 hx
        obtain ⟨b, hb, rfl, hbs⟩ := leftE_mem hen
        repeat' (first
    | simp -implicitDefEqProofs (disch := first | assumption | omega) only [runsY, lstY, Nat.reduceAdd, aop2, aop3, *]
    | with_reducible refine sstep_stop ?_)
        unfold Stuck
        rw [entry_ents (k := 303) (m := 213) hb rfl rfl rfl]
        repeat' (first
    | simp -implicitDefEqProofs (disch := first | assumption | omega) only [runsY, lstY, facts, if_pos, Nat.reduceAdd, Nat.reduceLT, Nat.reduceLeDiff, wrap_in, Pi.av, List.getElem?_eq_getElem, toNat_succ, Ev.av, hf, *]
    | ((with_reducible refine sr_at 79 ?_); refine srstep_call (containsPi_ok f.pitches T[b] hf1) (rfl) ?_)
    | ((with_reducible refine condK_nsplit (fun _ => ?_) (fun _ => ?_)) <;> try omega)
    | ((with_reducible refine OY_drawn ?_); refine OY_draw' _ rfl (by decide +kernel) ?_))
        · rename_i hq
          have hnd' : (seen ++ [b]).Nodup := by
            rw [List.nodup_append]
            exact ⟨hnd, by simp, fun u hu w hw => by simp at hw; subst hw; intro h; subst h; exact hbs hu⟩
          have hlt2 : ∀ x ∈ seen ++ [b], x < T.length := by
            intro x hx
            rcases List.mem_append.1 hx with hx | hx
            · exact (hin x hx).1
            · simp at hx; subst hx; exact hb
          have hlen := nodup_len _ _ hnd' hlt2
          rw [List.length_append, List.length_singleton] at hlen
          refine OY_next (seen ++ [b]) (by omega) ⟨by rw [List.length_append, List.length_singleton, hl], hnd', ?_⟩ ?_ rfl
          · intro x hx
            rcases List.mem_append.1 hx with hx | hx
            · exact hin x hx
            · simp at hx; subst hx; exact ⟨hb, hq⟩
          · refine (show _ = some (St.mk (_ :: (213, Blk.map (List.map (ME.ren (renK 304 [])) _) _) :: _) 400) from rfl).trans ?_
            rw [entsOf_ren]; rfl
        · rename_i hq
          have hwrong : (T.all fun p => f.pitches.any fun y => p.same y) = false := all_false_at hb hq
          rw [hwrong] at hbad
          have h1 : ¬ v.l.length > 64 := by omega
          have h2 : ¬ firstI (fun e => !e.right) v.l ≥ 0 := by assumption
          have h3 := firstN_hit (n := v.l.length - 1) (p := v.tieBad) (i := i) (by omega) hbad hQ
          simp only [Vo.checkR, if_neg h1, if_neg h2, h3]
  · rename_i hlt
    have h1 : ¬ v.l.length > 64 := by omega
    have h2 : ¬ firstI (fun e => !e.right) v.l ≥ 0 := by assumption
    have h3 := firstN_none (n := v.l.length - 1) (p := v.tieBad) (fun j hj => hQ j (by omega))
    simp only [Vo.checkR, if_neg h1, if_neg h2, h3]
end Go.Proofs.Pv
