/-
  The abstract machine, part U: append that makes a slice that may change, or goes on with one.
  Conditions: the invariant 'Inv' and related slots.
-/
import Derived.Test.YtgjjcdjcpbjdgaaGreatDoorPvI
namespace Go.Proofs.Pv
set_option linter.unusedVariables false
set_option linter.unusedSimpArgs false
open Go
variable {P : Program} {G : Nat → Option (List AV)} {M : Mem} {al : Nat → Prop} {hp : Hp} {W w : World}

theorem CellsAt.list {L : Lo} {T : To} {I : Imm} {b o : Nat} {cs : List AV} (h : CellsAt L T I w b o cs) :
    ∃ vs : List Value, RelL (Rel I L T) cs vs ∧ ∀ j u, vs[j]? = some u → w.cell? ((⟨b, o, none⟩ : Addr).add j) = some u := by
  refine ⟨(List.range cs.length).map fun i => (w.cell? ⟨b, o + i, none⟩).getD undef, ⟨by simp, fun i a v h1 h2 => ?_⟩, fun j u hj => ?_⟩
  · obtain ⟨hi, rfl⟩ := List.getElem?_eq_some_iff.1 h1
    obtain ⟨v', e1, e2⟩ := h i hi
    simp [hi, e1] at h2
    rw [← h2]; exact e2
  · obtain ⟨hj', hu⟩ := List.getElem?_eq_some_iff.1 hj
    have hj2 : j < cs.length := by simpa using hj'
    obtain ⟨v', e1, e2⟩ := h j hj2
    rw [Addr.add_none, e1]
    simp [e1] at hu
    rw [hu]

theorem xcells_ok (inv : Inv G M al hp W w) {n : Nat} {x : AV} {vx : Value} {ys : List AV} {m : Nat} (hx : M.rel x vx) (h : xcells hp n x = some (ys, m)) :
    ∃ A c news, vx = .slice A m c ∧ RelL M.rel ys news ∧ news.length = m * n ∧ (0 < m → ∃ a, A = some a ∧ ∀ j u, news[j]? = some u → w.cell? (a.add j) = some u) := by
  unfold xcells at h
  split at h
  · rename_i k rows tk
    split at h
    · rename_i hk
      simp only [Option.some.injEq, Prod.mk.injEq] at h
      obtain ⟨rfl, rfl⟩ := h
      subst hk
      obtain ⟨A, c, cs, rfl, hc, hr, hkr, hPr, hlc, hb, _, _⟩ := Rel.sl_cells inv hx
      refine ⟨A, c, cs, rfl, RelL.mono (fun a v hv => hv.of_pure) hr, hlc, fun h0 => ?_⟩
      obtain ⟨b, o, hA, _, h3⟩ := hb (List.length_pos_iff.1 h0)
      exact ⟨_, hA, h3⟩
    · cases h
  · rename_i key off m' k
    split at h
    · rename_i cs hk
      split at h
      · rename_i hc
        obtain ⟨rfl, hle⟩ := hc
        simp only [Option.some.injEq, Prod.mk.injEq] at h
        obtain ⟨rfl, rfl⟩ := h
        cases hx with
        | msl hL hT hz hcap =>
          obtain ⟨b, hb, hcell⟩ := cellsAt_live inv hk
          rw [hL] at hb; cases hb
          obtain ⟨vs, h1, h2⟩ := ((hcell.drop off).take (m' * k)).list
          rw [Nat.zero_add] at h2
          refine ⟨_, _, vs, rfl, h1, ?_, fun _ => ⟨_, rfl, h2⟩⟩
          rw [← h1.1]
          simp; omega
      · cases h
    · cases h
  · cases h

/-- A new block, of whose cells the first are known. -/
theorem allocM (inv : Inv G M al hp W w) {nx : Nat} (hn : ¬ al nx) {cells : List AV} {cs : List Value} {c : Array Value} (e : TypeId) (hr : RelL M.rel cells cs) (hc : c.toList.take cs.length = cs) (hl : cs.length ≤ c.size) :
    M.le (M.addL nx w.heap.size c.size) ∧ Inv G (M.addL nx w.heap.size c.size) (alAdd al nx) (hpSet hp nx (some (.cells cells))) W (w.alloc (.cells c e)) := by
  have hle : M.le (M.addL nx w.heap.size c.size) := Mem.le_addL (inv.fresh nx hn)
  refine inv.alloc hn (z := c.size) (.cells cells) (.cells c e) rfl ⟨rfl, by rw [hr.1]; exact hl, fun i g1 g2 => ?_, w.heap.size, c.size, by simp [Mem.addL], Nat.le_refl _⟩
  have hi : i < cs.length := by rw [← hr.1]; exact g1
  have : c[i] = cs[i] := by
    have h1 : (c.toList.take cs.length)[i]? = cs[i]? := by rw [hc]
    rw [List.getElem?_take, if_pos hi, List.getElem?_eq_getElem hi] at h1
    simpa [g2] using h1
  rw [this]
  exact M.rel_mono hle (hr.get i g1 hi)

/-- A block goes on under another key. -/
theorem Inv.rename (inv : Inv G M al hp W w) {nx key b z : Nat} {cells : List AV} (hn : ¬ al nx) (hk : hp key = some (.cells cells)) (hL : M.L key = some b) (hT : M.T key = some (b, 0, z)) :
    M.le (M.addL nx b z) ∧ Inv G (M.addL nx b z) (alAdd al nx) (hpSet (hpSet hp key none) nx (some (.cells cells))) W w := by
  have hfr := inv.fresh nx hn
  have hle : M.le (M.addL nx b z) := Mem.le_addL hfr
  obtain ⟨b0, ob0, q1, q2, q3, q4, q5⟩ := inv.live key _ hk
  have hb0 : b0 = b := by simpa [Mem.blockOf, Blk.isTok, hL] using q1.symm
  subst hb0
  refine ⟨hle, ?_⟩
  constructor
  · exact inv.imm
  · exact inv.far
  · exact inv.os
  · exact inv.tape
  · exact inv.out
  · intro q hq
    have h1 : ¬ al q := fun h => hq (.inl h)
    have h2 : q ≠ nx := fun h => hq (.inr h)
    have := inv.fresh q h1
    simp [Mem.addL, h2, this]
  · intro q bk h
    by_cases e : q = nx
    · subst e
      simp only [hpSet, if_true, Option.some.injEq] at h
      subst h
      refine ⟨b0, ob0, by simp [Mem.blockOf, Blk.isTok, Mem.addL], q2, ?_, q4, fun _ => q5 rfl⟩
      cases ob0 <;> simp only [LiveAs] at q3 ⊢
      obtain ⟨r1, r2, r3, b', z', r4, r5⟩ := q3
      rw [hT] at r4; cases r4
      exact ⟨r1, r2, fun i h1 h2 => M.rel_mono hle (r3 i h1 h2), b0, z, by simp [Mem.addL], r5⟩
    · by_cases e2 : q = key
      · subst e2; simp [hpSet, e] at h
      · simp only [hpSet, e, e2, if_false] at h
        obtain ⟨b', x, h1, h2, h3, h4, h5⟩ := inv.live q bk h
        exact ⟨b', x, Mem.blockOf_mono hle h1, h2, h3.grow hle (fun htk b' e' z' hT o ho => by
          cases bk <;> simp [Blk.isTok] at htk
          cases x <;> simp only [LiveAs] at h3
          obtain ⟨_, b1, e1, z1, g1, _, _, g4⟩ := h3
          rw [hT] at g1; cases g1; exact g4 o ho), h4, h5⟩
  · intro k1 k2 b1 b2 q g1 g2 g3 g4
    have old : ∀ k bk, hpSet (hpSet hp key none) nx (some (.cells cells)) k = some bk → (M.addL nx b0 z).blockOf k bk = some q →
        (k = nx ∧ q = b0) ∨ (k ≠ nx ∧ k ≠ key ∧ hp k = some bk ∧ M.blockOf k bk = some q) := by
      intro k bk hb hbo
      by_cases ek : k = nx
      · subst ek
        simp only [hpSet, if_true, Option.some.injEq] at hb
        subst hb
        left; exact ⟨rfl, by simpa [Mem.blockOf, Blk.isTok, Mem.addL] using hbo.symm⟩
      · right
        have eq : k ≠ key := fun e => by subst e; simp [hpSet, ek] at hb
        simp only [hpSet, ek, eq, if_false] at hb
        obtain ⟨b', ob, r1, _⟩ := inv.live k bk hb
        have r1' := Mem.blockOf_mono hle r1
        rw [hbo] at r1'; cases r1'
        exact ⟨ek, eq, hb, r1⟩
    rcases old k1 b1 g1 g3 with ⟨r1, r2⟩ | ⟨r1, r2, r3, r4⟩ <;> rcases old k2 b2 g2 g4 with ⟨t1, t2⟩ | ⟨t1, t2, t3, t4⟩
    · rw [r1, t1]
    · subst r2; exact absurd (inv.inj k2 key b2 _ q t3 hk t4 q1) t2
    · subst t2; exact absurd (inv.inj k1 key b1 _ q r3 hk r4 q1) r2
    · exact inv.inj k1 k2 b1 b2 q r3 t3 r4 t4
  · exact inv.glob
  · intros; trivial

/-- A block with room takes new cells, and goes on under another key. -/
theorem roomM (inv : Inv G M al hp W w) {nx key b z q l : Nat} {cells ys : List AV} {news : List Value} {cur : Array Value} {el : TypeId} (hn : ¬ al nx) (hk : hp key = some (.cells cells)) (hL : M.L key = some b) (hT : M.T key = some (b, 0, z))
    (hg : w.heap[b]? = some (.cells cur el (0, 0))) (hq : cells.length = q) (hlen : news.length = l) (hfit : q + l ≤ cur.size) (hz : z ≤ cur.size) (h1 : ∀ (i : Nat) (h : i < cells.length) (h' : i < cur.size), M.rel cells[i] cur[i]) (hy : RelL M.rel ys news) :
    M.le (M.addL nx b z) ∧ Inv G (M.addL nx b z) (alAdd al nx) (updH hp [(key, none), (nx, some (.cells (cells ++ ys)))]) W (w.setRow b (cur.toList.take q ++ news ++ cur.toList.drop (q + news.length)).toArray) := by
  subst hq; subst hlen
  have hnew := setRow_heap w b cur (cur.toList.take cells.length ++ news ++ cur.toList.drop (cells.length + news.length)).toArray el (0, 0) hg
  have hoth := fun q hq => setRow_other w b q (cur.toList.take cells.length ++ news ++ cur.toList.drop (cells.length + news.length)).toArray hq
  have hsz : (cur.toList.take cells.length ++ news ++ cur.toList.drop (cells.length + news.length)).toArray.size = cur.size := by simp; omega
  have hl : (cur.toList.take cells.length).length = cells.length := by simp; omega
  have inv1 := inv.turn (w' := w.setRow b (cur.toList.take cells.length ++ news ++ cur.toList.drop (cells.length + news.length)).toArray) (old := .cells cells) (new := .cells (cells ++ ys))
    (ob := .cells (cur.toList.take cells.length ++ news ++ cur.toList.drop (cells.length + news.length)).toArray el (0, 0)) hk hL rfl rfl rfl rfl rfl hoth hnew
    ⟨rfl, by rw [hsz, List.length_append, hy.1]; exact hfit, fun j g1 g2 => by
      by_cases hj : j < cells.length
      · have hjc : j < cur.size := by omega
        have e0 : (cur.toList.take cells.length ++ news ++ cur.toList.drop (cells.length + news.length))[j]? = some cur[j] := by
          rw [List.append_assoc, List.getElem?_append_left (by omega), List.getElem?_take, if_pos hj]
          simp [hjc]
        have e1 : (cur.toList.take cells.length ++ news ++ cur.toList.drop (cells.length + news.length)).toArray[j] = cur[j] := (List.getElem?_eq_some_iff.1 e0).2
        rw [e1, List.getElem_append_left hj]
        exact h1 j hj hjc
      · have hj2 : j - cells.length < ys.length := by simp at g1; omega
        have hj3 : j - cells.length < news.length := by rw [← hy.1]; exact hj2
        have e0 : (cur.toList.take cells.length ++ news ++ cur.toList.drop (cells.length + news.length))[j]? = some news[j - cells.length] := by
          rw [List.append_assoc, List.getElem?_append_right (by omega), List.getElem?_append_left (by omega), hl, List.getElem?_eq_getElem hj3]
        have e1 : (cur.toList.take cells.length ++ news ++ cur.toList.drop (cells.length + news.length)).toArray[j] = news[j - cells.length] := (List.getElem?_eq_some_iff.1 e0).2
        rw [e1, List.getElem_append_right (by omega)]
        exact hy.get _ hj2 hj3, b, z, hT, by rw [hsz]; exact hz⟩
  obtain ⟨m1, m2⟩ := inv1.rename (cells := cells ++ ys) hn (by simp [hpSet]) hL hT
  refine ⟨m1, m2.less fun q bk hq => ?_⟩
  simp only [updH, hpSet] at hq ⊢
  by_cases e1 : q = nx
  · simp only [e1, if_true] at hq ⊢; exact hq
  · by_cases e2 : q = key
    · subst e2; simp [e1] at hq
    · simp only [e1, e2, if_false] at hq ⊢; exact hq

/-- Cells are written into a block. -/
theorem putCells_ok (inv : Inv G M al hp W w) {key b off : Nat} {cs ys : List AV} {news : List Value} (hL : M.L key = some b) (hk : hp key = some (.cells cs)) (hle : off + ys.length ≤ cs.length) (hone : ys.all AV.one = true) (hy : RelL M.rel ys news) :
    ∃ w', (storeCells ⟨b, off, none⟩ news).run P w = .ok () w' ∧ Inv G M al (hpSet hp key (some (.cells (splice cs off ys)))) W w' := by
  obtain ⟨b', ob, g1, g2, g3, g4, g5⟩ := inv.live _ _ hk
  have hb : b' = b := by simpa [Mem.blockOf, Blk.isTok, hL] using g1.symm
  subst hb
  cases ob <;> simp only [LiveAs] at g3
  rename_i c e fr
  obtain ⟨rfl, hs, hr, bz, zz, hTz, hzz⟩ := g3
  have hnl : news.length = ys.length := hy.1.symm
  have hone' : ∀ u ∈ news, u.oneCell' = true := by
    intro u hu
    obtain ⟨j, hj, rfl⟩ := List.mem_iff_getElem.1 hu
    have hja : j < ys.length := by rw [hy.1]; exact hj
    exact Rel.oneCell (hy.get j hja hj) (List.all_eq_true.1 hone _ (List.getElem_mem hja))
  have hst := run_storeCells_at P b' off e news 0 c w g2 (by omega) hone'
  simp only [Nat.add_zero] at hst
  have hrel : RelL (Rel M.I M.L M.T) (splice cs off ys) ((c.toList.take cs.length).take off ++ news ++ (c.toList.take cs.length).drop (off + news.length)) :=
    splice_rel (RelL.of_get (by simp; omega) (fun i h h' => by have := hr i h (by omega); rw [List.getElem_take]; rwa [← Array.getElem_toList] at this)) hy
  refine ⟨w.setRow b' (c.toList.take off ++ news ++ c.toList.drop (off + news.length)).toArray, hst, ?_⟩
  refine inv.turn (old := .cells cs) (new := .cells (splice cs off ys)) hk hL rfl rfl rfl rfl rfl (fun k hk' => setRow_other w b' k _ hk') (setRow_heap w b' c _ e (0, 0) g2) ?_
  have hlen : (splice cs off ys).length = cs.length := by simp [splice]; omega
  refine ⟨rfl, by rw [hlen]; simp; omega, fun i h1' h2' => ?_, bz, zz, hTz, by simp; omega⟩
  show Rel M.I M.L M.T _ _
  have hi : i < cs.length := by omega
  have := hrel.get i h1' (by rw [← hrel.1]; exact h1')
  refine Eq.mp (congrArg _ ?_) this
  simp only [List.getElem_toArray]
  apply Option.some.inj
  rw [← List.getElem?_eq_getElem, ← List.getElem?_eq_getElem]
  simp only [List.getElem?_append, List.length_append, List.length_take, List.getElem?_take, List.getElem?_drop, Array.length_toList]
  have e1 : min off (min cs.length c.size) = off := by omega
  have e2 : min off c.size = off := by omega
  rw [e1, e2]
  split
  · split <;> rfl
  · rw [if_pos (by omega)]

theorem acopy_ok (inv : Inv G M al hp W w) {t t1 ty : TypeId} {d x av : AV} {vd vx : Value} {u : List (Nat × Option Blk)} (hd : M.rel d vd) (hx : M.rel x vx) (h : acopy P hp t d x = some (av, u)) :
    ∃ v w', (Builtin.copy_ #[t, t1] ty #[vd, vx]).run P w = .ok v w' ∧ Inv G M al (updH hp u) W w' ∧ M.rel av v := by
  unfold acopy at h
  split at h
  case h_2 => cases h
  rename_i e key off m k he
  have ht := elt_und he
  split at h
  case h_2 => cases h
  rename_i n hsz
  obtain ⟨i, hi, hsi⟩ := sz_info hsz
  split at h
  case h_2 => cases h
  rename_i cs ys l hk hxc
  split at h
  case isFalse => cases h
  rename_i hc
  obtain ⟨rfl, hle, h0l, hone⟩ := hc
  simp only [Option.some.injEq, Prod.mk.injEq] at h
  obtain ⟨rfl, rfl⟩ := h
  obtain ⟨A', c', news, rfl, hy, hln, hA'⟩ := xcells_ok inv hx hxc
  obtain ⟨a, rfl, hnews⟩ := hA' h0l
  cases hd with
  | @msl _ _ _ _ _ _ b cap z hL hT hzb hcap =>
  have hmin : min l m * k ≤ news.length := by rw [hln]; exact Nat.mul_le_mul_right _ (Nat.min_le_left _ _)
  have hmin2 : min l m * k ≤ m * k := Nat.mul_le_mul_right _ (Nat.min_le_right _ _)
  have hyt : RelL M.rel (ys.take (min l m * k)) (news.take (min l m * k)) := by
    refine ⟨by simp [hy.1], fun i a v h1 h2 => ?_⟩
    rw [List.getElem?_take] at h1 h2
    split at h1
    · rename_i hlt; rw [if_pos hlt] at h2; exact hy.2 i a v h1 h2
    · cases h1
  have honet : (ys.take (min l m * k)).all AV.one = true := by
    rw [List.all_eq_true] at hone ⊢
    exact fun x hx => hone x (List.mem_of_mem_take hx)
  obtain ⟨w', h1, h2⟩ := putCells_ok (P := P) inv (off := off) hL hk (by rw [List.length_take]; omega) honet hyt
  have hload : (loadCells a (min l m * k)).run P w = .ok (news.take (min l m * k)).toArray w := by
    have := run_loadCells_list (P := P) w a (news.take (min l m * k)) (fun j v hj => by
      rw [List.getElem?_take] at hj
      split at hj
      · exact hnews j v hj
      · cases hj)
    rwa [List.length_take, Nat.min_eq_left hmin] at this
  refine ⟨.int .i64 (min l m : Nat), w', ?_, h2, .int⟩
  have hso : (sizeOf e).run P w = .ok k w := run_sizeOf hsz
  simp [Builtin.copy_, run_und ht, Builtin.lenOf, hso, Builtin.firstCells, hload, h1, goInt]

theorem aappM_ok (inv : Inv G M al hp W w) {nx : Nat} (hn : ¬ al nx) {t ty : TypeId} {s x av : AV} {vs vx : Value} {u : List (Nat × Option Blk)} (hs : M.rel s vs) (hx : M.rel x vx)
    (h : aappM P hp nx t s x = some (av, u)) : ∃ v w' M', (Builtin.append_ #[t, t] ty #[vs, vx]).run P w = .ok v w' ∧ M.le M' ∧ Inv G M' (alAdd al nx) (updH hp u) W w' ∧ M'.rel av v := by
  unfold aappM at h
  split at h
  · cases h
  rename_i e he
  have ht := elt_und he
  split at h
  case h_2 => cases h
  rename_i n by_ hsz hby
  obtain ⟨i, hi, hsi⟩ := sz_info hsz
  have hbi : i.bytes = by_ := by simpa [byt, hi] using hby
  split at h
  · cases h
  rename_i ys m hxc
  obtain ⟨A', c', news, rfl, hy, hln, hA'⟩ := xcells_ok inv hx hxc
  split at h
  case isFalse => cases h
  rename_i hcond
  obtain ⟨h0m, h0, hb0, hzl, hone⟩ := hcond
  obtain ⟨a, rfl, hnews⟩ := hA' h0m
  cases hz : zro P e with
  | none => simp [hz] at hzl
  | some z =>
  obtain ⟨i', zv, hi', hzz, hrz⟩ := zro_ok hz
  rw [hi] at hi'; cases hi'
  have hzs : zv.cells.size = n := by
    have := (hrz (I := M.I) (L := M.L) (T := M.T)).1
    simp only [hz, Option.map_some, Option.some.injEq] at hzl
    rw [← hzl, this]; simp
  have hone' : ∀ u ∈ news, u.oneCell' = true := by
    intro u hu
    obtain ⟨j, hj, rfl⟩ := List.mem_iff_getElem.1 hu
    have hja : j < ys.length := by rw [hy.1]; exact hj
    exact Rel.oneCell (hy.get j hja hj) (List.all_eq_true.1 hone _ (List.getElem_mem hja))
  have hbig : ∀ r, (r + m) * by_ ≤ 140737488355328 → ((r + m : Nat) : Int) ≤ 9223372036854775807 ∧ (r + m) * i.bytes ≤ 140737488355328 := by
    intro r hr
    have := Nat.le_mul_of_pos_right (r + m) hb0
    exact ⟨by omega, by rw [hbi]; exact hr⟩
  have grow : ∀ (A : Option Addr) (r c : Nat) (cells : List AV) (cs : List Value), RelL M.rel cells cs → cs.length = r * n → (∀ ad, A = some ad → ∀ j v, cs[j]? = some v → w.cell? (ad.add j) = some v) → (A = none → r = 0 ∧ c = 0) → c < r + m → (r + m) * by_ ≤ 140737488355328 →
      ∃ v w' M', (Builtin.append_ #[t, t] ty #[.slice A r c, .slice (some a) m c']).run P w = .ok v w' ∧ M.le M' ∧ Inv G M' (alAdd al nx) (hpSet hp nx (some (.cells (cells ++ ys)))) W w' ∧ M'.rel (.msl nx 0 (r + m) n) v := by
    intro A r c cells cs hr hlc holds hnone hlt hbytes
    obtain ⟨h63, hby1⟩ := hbig r hbytes
    have hrel : RelL M.rel (cells ++ ys) (cs ++ news) := hr.append hy
    have hcells : ∀ cap, r + m ≤ cap → ((cs.toArray ++ news.toArray ++ Builtin.zeroCells zv.cells (cap - (r + m))).toList.take (cs ++ news).length = cs ++ news) ∧
        (cs.toArray ++ news.toArray ++ Builtin.zeroCells zv.cells (cap - (r + m))).size = cap * n := by
      intro cap hcap
      constructor
      · simp only [Array.toList_append]
        rw [List.take_append_of_le_length (by simp)]
        exact List.take_of_length_le (by simp)
      · simp only [Array.size_append, List.size_toArray, size_zeroCells', hzs, hlc, hln, ← Nat.add_mul]
        congr 1; omega
    have hfin : ∀ cap, r + m ≤ cap → M.le (M.addL nx w.heap.size (cap * n)) ∧ Inv G (M.addL nx w.heap.size (cap * n)) (alAdd al nx) (hpSet hp nx (some (.cells (cells ++ ys)))) W
        (w.drew.alloc (.cells (cs.toArray ++ news.toArray ++ Builtin.zeroCells zv.cells (cap - (r + m))) e)) ∧
        (M.addL nx w.heap.size (cap * n)).rel (.msl nx 0 (r + m) n) (.slice (some ⟨w.heap.size, 0, none⟩) (r + m) cap) := by
      intro cap hcap
      obtain ⟨q1, q2⟩ := hcells cap hcap
      obtain ⟨m1, m2⟩ := allocM inv.drew hn e hrel q1 (by
        rw [q2, List.length_append, hlc, hln, ← Nat.add_mul]; exact Nat.mul_le_mul_right _ hcap)
      rw [q2] at m1 m2
      exact ⟨m1, m2, .msl (b := w.heap.size) (z := cap * n) (by simp [Mem.addL]) (by simp [Mem.addL]) (by omega) hcap⟩
    cases A with
    | none =>
      obtain ⟨hr0, hc0⟩ := hnone rfl
      subst hr0; subst hc0
      have hcs : cs = [] := List.eq_nil_of_length_eq_zero (by simpa using hlc)
      subst hcs
      have hrun := run_append_nil (P := P) w t ty e i zv ht hi hzz a m c' news (by rw [hln, hsi]) hnews h0m (by simpa using h63) (by simp only [Nat.zero_add] at hby1; omega)
      obtain ⟨m1, m2, m3⟩ := hfin (grownCap w m 0 e) (by simpa using grownCap_ge w m 0 e)
      refine ⟨_, _, _, hrun, m1, ?_, by simpa using m3⟩
      simpa using m2
    | some ad =>
      have hrun := run_append_grow (P := P) w t ty e i zv ht hi hzz ad r c cs (by rw [hlc, hsi]) (holds ad rfl) a m c' news (by rw [hln, hsi]) hnews hlt h63 (growslice_fits hlt hby1)
      obtain ⟨m1, m2, m3⟩ := hfin (grownCap w (r + m) c e) (grownCap_ge w (r + m) c e)
      exact ⟨_, _, _, hrun, m1, m2, m3⟩
  split at h
  · rename_i k rows tk
    split at h
    case isFalse => cases h
    rename_i hc
    obtain ⟨rfl, htk, hbytes⟩ := hc
    simp only [Option.some.injEq, Prod.mk.injEq] at h
    obtain ⟨rfl, rfl⟩ := h
    obtain ⟨A, c, cs, rfl, hc, hr, hkr, hPr, hlc, hb, hfull, _⟩ := Rel.sl_cells inv hs
    have hcf : c = rows.length := by
      rcases htk with h | h
      · exact hfull (.inr h)
      · exact hfull (.inl h.1)
    obtain ⟨v, w', M', m1, m2, m3, m4⟩ := grow A rows.length c _ cs (RelL.mono (fun a v hv => hv.of_pure) hr) hlc (by
        intro ad hA j v hj
        have hne : rows ≠ [] := by
          intro e; subst e
          simp at hlc; subst hlc; simp at hj
        obtain ⟨b2, o2, hA2, _, h3⟩ := hb hne
        rw [hA] at hA2; cases hA2
        exact h3 j v hj) (fun hA => by
        have : rows = [] := by
          rcases Decidable.em (rows = []) with h | h
          · exact h
          · obtain ⟨b2, o2, h2, _⟩ := hb h; rw [hA] at h2; cases h2
        exact ⟨by rw [this]; rfl, by rw [hcf, this]; rfl⟩) (by omega) hbytes
    exact ⟨v, w', M', m1, m2, m3, m4⟩
  · rename_i key off r k
    split at h
    case h_2 => cases h
    rename_i cells hk
    split at h
    case isFalse => cases h
    rename_i hc
    obtain ⟨rfl, rfl, hcl, hbytes⟩ := hc
    simp only [Option.some.injEq, Prod.mk.injEq] at h
    obtain ⟨rfl, rfl⟩ := h
    cases hs with
    | @msl _ _ _ _ _ _ b c z hL hT hzb hcap =>
    obtain ⟨b', hb', hcell⟩ := cellsAt_live inv hk
    rw [hL] at hb'; cases hb'
    by_cases hroom : r + m ≤ c
    · obtain ⟨b0, ob0, g1, g2, g3, g4, g5⟩ := inv.live key _ hk
      have hb0' : b0 = b := by simpa [Mem.blockOf, Blk.isTok, hL] using g1.symm
      subst hb0'
      cases ob0 <;> simp only [LiveAs] at g3
      rename_i cur el fr
      obtain ⟨rfl, k1, k2, b1, z1, k3, k4⟩ := g3
      rw [hT] at k3; cases k3
      have hcn : r * k + m * k ≤ c * k := by rw [← Nat.add_mul]; exact Nat.mul_le_mul_right _ hroom
      have hfit : r * i.size + news.length ≤ cur.size := by rw [hsi, hln]; omega
      have hrun := run_append_room' (P := P) (w := w) (ty := ty) ht hi b0 r c cur g2 a m c' news (by rw [hln, hsi]) hnews hone' hroom hfit
      rw [hsi] at hrun
      obtain ⟨m1, m2⟩ := roomM inv hn hk hL hT g2 hcl hln (by rw [hsi, hln] at hfit; exact hfit) k4 k2 hy
      exact ⟨_, _, _, hrun, m1, m2, .msl (b := b0) (z := z) (by simp [Mem.addL]) (by simp [Mem.addL]) (by omega) hroom⟩
    · obtain ⟨cs, q1, q2⟩ := hcell.list
      obtain ⟨v, w', M', m1, m2, m3, m4⟩ := grow (some ⟨b, 0, none⟩) r c cells cs q1 (by rw [← q1.1]; exact hcl) (by
        intro ad hA j v hj
        simp only [Option.some.injEq] at hA
        subst hA
        exact q2 j v hj) (fun hA => by cases hA) (by omega) hbytes
      refine ⟨v, w', M', m1, m2, m3.less fun q bk hq => ?_, m4⟩
      simp only [updH, hpSet] at hq ⊢
      by_cases e1 : q = nx
      · simp only [e1, if_true] at hq ⊢; exact hq
      · by_cases e2 : q = key
        · subst e2; simp [e1] at hq
        · simp only [e1, e2, if_false] at hq ⊢; exact hq
  · cases h

end Go.Proofs.Pv
