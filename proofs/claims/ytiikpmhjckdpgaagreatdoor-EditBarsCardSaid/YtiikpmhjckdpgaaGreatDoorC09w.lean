/-
  A score and an edit as a claim's reading tells them.
  EditElse: the law answers true for all scores and edits.
  Conditions: none but those that each statement names.
-/
import Derived.Test.YtiikpmhjckdpgaaGreatDoorC09s
import Derived.Test.YtiikpmhjckdpgaaGreatDoorPvV
namespace Go.Proofs.Pv
open Go Go.Proofs
set_option linter.unusedSimpArgs false
set_option linter.unusedVariables false
set_option maxRecDepth 100000
set_option maxHeartbeats 4000000
def Ba.cells14 (b : Ba) : List AV := [.int .i64 b.meter.num, .int .i64 b.meter.den, .sl 1 (b.meter.groups.map (AV.int .i64)) .none, .int .i64 b.key.fifths, .bool b.key.minor,
 .bool b.turn.begin_, .int .i64 b.turn.times, .sl 1 (b.turn.endings.map (AV.int .i64)) .none, .bool b.turn.sign, .bool b.turn.coda, .bool b.turn.tocoda, .bool b.turn.fine, .int .i64 b.turn.jump, .sl 4 (b.tempos.map Te.av) .none]
def Tu.cells8 (t : Tu) : List AV := [.bool t.begin_, .int .i64 t.times, .sl 1 (t.endings.map (AV.int .i64)) .none, .bool t.sign, .bool t.coda, .bool t.tocoda, .bool t.fine, .int .i64 t.jump]
theorem okTs_cons {P : Program} {ok : TypeId → List AV → Prop} {t : TypeId} {ts : List TypeId} {xs : List AV} (h : okTs P ok (t :: ts) xs) : ∃ a b, xs = a ++ b ∧ ok t a ∧ okTs P ok ts b :=
 ⟨_, _, (List.take_append_drop _ _).symm, h.1, h.2⟩
theorem okTs_nil {P : Program} {ok : TypeId → List AV → Prop} {xs : List AV} (h : okTs P ok [] xs) : xs = [] := h
theorem okV_sliceG {P : Program} {d : Nat} {t e : TypeId} {cs : List AV} (hu : P.underlying t = some (.slice e)) (h : okV P (d + 1) t cs) : ∃ rows, cs = [.sl (P.cellsOf e) rows .none] ∧ rows.length ≤ maxLen ∧ ∀ r ∈ rows, ∃ cs, r = mkRow P e cs ∧ okV P d e cs := by
 rw [okV, hu] at h; exact h
theorem okV_structG {P : Program} {d : Nat} {t : TypeId} {fs : Array Field} {cs : List AV} (hu : P.underlying t = some (.struct fs)) (h : okV P (d + 1) t cs) : okTs P (okV P d) (fs.toList.map (·.type)) cs := by
 rw [okV, hu] at h; exact h
theorem okV_int {d : Nat} {cs : List AV} (h : okV Tryz.prog (d + 1) 3 cs) : ∃ n, cs = [.int .i64 n] ∧ I64 n := by
 simp only [okV, Tryz.underlying3] at h
 obtain ⟨n, rfl, hw⟩ := h
 refine ⟨n, rfl, ?_⟩
 have e1 : IntKind.i64.min = -9223372036854775808 := rfl
 have e2 : IntKind.i64.max = 9223372036854775807 := rfl
 simp only [Lit.wf, Bool.and_eq_true, decide_eq_true_eq, e1, e2] at hw
 unfold I64
 omega
theorem okV_bool {d : Nat} {cs : List AV} (h : okV Tryz.prog (d + 1) 4 cs) : ∃ b, cs = [.bool b] := by
 simpa only [okV, Tryz.underlying4] using h
theorem okV_str {d : Nat} {cs : List AV} (h : okV Tryz.prog (d + 1) 9 cs) : ∃ s, cs = [.str s] := by
 simp only [okV, Tryz.underlying9] at h
 obtain ⟨s, rfl, hw⟩ := h
 exact ⟨s, rfl⟩
theorem rows_of {α : Type} {f : α → AV} {Q : α → Prop} : ∀ (rows : List AV), (∀ r ∈ rows, ∃ a, r = f a ∧ Q a) → ∃ l : List α, rows = l.map f ∧ ∀ a ∈ l, Q a
 | [], _ => ⟨[], rfl, fun a h => by cases h⟩
 | r :: rows, h => by
  obtain ⟨a, e1, q1⟩ := h r (by simp)
  obtain ⟨l, f1, q2⟩ := rows_of rows fun x hx => h x (by simp [hx])
  refine ⟨a :: l, by rw [e1, f1]; rfl, fun x hx => ?_⟩
  rcases List.mem_cons.1 hx with rfl | hx
  ·exact q1
  ·exact q2 x hx
theorem okV_int1 {d : Nat} {cs : List AV} (h : okV Tryz.prog (d + 1) 3 cs) : ∃ n : Int, cs = [.int .i64 n] ∧ True := by obtain ⟨n, e, _⟩ := okV_int h; exact ⟨n, e, trivial⟩
theorem okV_bool1 {d : Nat} {cs : List AV} (h : okV Tryz.prog (d + 1) 4 cs) : ∃ n : Bool, cs = [.bool n] ∧ True := by obtain ⟨n, e⟩ := okV_bool h; exact ⟨n, e, trivial⟩
theorem okV_ints {d : Nat} {cs : List AV} (h : okV Tryz.prog (d + 2) 50 cs) : ∃ l : List Int, cs = [.sl 1 (l.map (AV.int .i64)) .none] ∧ ∀ a ∈ l, True := by
 obtain ⟨rows, rfl, _, hr⟩ := okV_sliceG Tryz.underlying50 h
 obtain ⟨l, rfl, hq⟩ := rows_of (f := (AV.int .i64)) (Q := fun a : Int => True) rows fun r hr' => by
  obtain ⟨c, rfl, hk⟩ := hr r hr'
  obtain ⟨a, e1, q1⟩ := okV_int1 hk
  exact ⟨a, by rw [e1]; simp only [mkRow, ag3, Bool.false_eq_true, if_false]; rfl, q1⟩
 exact ⟨l, by rw [show Tryz.prog.cellsOf 3 = 1 from by kernel_rfl], hq⟩
theorem okV_bools {d : Nat} {cs : List AV} (h : okV Tryz.prog (d + 2) 49 cs) : ∃ l : List Bool, cs = [.sl 1 (l.map AV.bool) .none] ∧ ∀ a ∈ l, True := by
 obtain ⟨rows, rfl, _, hr⟩ := okV_sliceG Tryz.underlying49 h
 obtain ⟨l, rfl, hq⟩ := rows_of (f := AV.bool) (Q := fun a : Bool => True) rows fun r hr' => by
  obtain ⟨c, rfl, hk⟩ := hr r hr'
  obtain ⟨a, e1, q1⟩ := okV_bool1 hk
  exact ⟨a, by rw [e1]; simp only [mkRow, ag4, Bool.false_eq_true, if_false]; rfl, q1⟩
 exact ⟨l, by rw [show Tryz.prog.cellsOf 4 = 1 from by kernel_rfl], hq⟩
theorem okV_va {d : Nat} {cs : List AV} (h : okV Tryz.prog (d + 2) 47 cs) : ∃ a : Va, cs = a.cells ∧ True := by
 have t0 : okTs Tryz.prog (okV Tryz.prog (d + 1)) [3, 3, 3, 3] cs := okV_structG Tryz.underlying47 h
 obtain ⟨_, _, rfl, g0, t1⟩ := okTs_cons t0
 obtain ⟨a, rfl, ia⟩ := okV_int g0
 obtain ⟨_, _, rfl, g1, t2⟩ := okTs_cons t1
 obtain ⟨b, rfl, ib⟩ := okV_int g1
 obtain ⟨_, _, rfl, g2, t3⟩ := okTs_cons t2
 obtain ⟨c, rfl, ic⟩ := okV_int g2
 obtain ⟨_, _, rfl, g3, t4⟩ := okTs_cons t3
 obtain ⟨e, rfl, ie⟩ := okV_int g3
 obtain rfl := okTs_nil t4
 exact ⟨⟨a, b, c, e⟩, rfl, trivial⟩
theorem okV_pi {d : Nat} {cs : List AV} (h : okV Tryz.prog (d + 2) 72 cs) : ∃ a : Pi, cs = [.int .i64 a.step, .int .i64 a.alter, .int .i64 a.octave] ∧ True := by
 have t0 : okTs Tryz.prog (okV Tryz.prog (d + 1)) [3, 3, 3] cs := okV_structG Tryz.underlying72 h
 obtain ⟨_, _, rfl, g0, t1⟩ := okTs_cons t0
 obtain ⟨a, rfl, ia⟩ := okV_int g0
 obtain ⟨_, _, rfl, g1, t2⟩ := okTs_cons t1
 obtain ⟨b, rfl, ib⟩ := okV_int g1
 obtain ⟨_, _, rfl, g2, t3⟩ := okTs_cons t2
 obtain ⟨c, rfl, ic⟩ := okV_int g2
 obtain rfl := okTs_nil t3
 exact ⟨⟨a, b, c⟩, rfl, trivial⟩
theorem okV_pis {d : Nat} {cs : List AV} (h : okV Tryz.prog (d + 3) 48 cs) : ∃ l : List Pi, cs = [.sl 3 (l.map Pi.av) .none] ∧ ∀ a ∈ l, True := by
 obtain ⟨rows, rfl, _, hr⟩ := okV_sliceG Tryz.underlying48 h
 obtain ⟨l, rfl, hq⟩ := rows_of (f := Pi.av) (Q := fun a : Pi => True) rows fun r hr' => by
  obtain ⟨c, rfl, hk⟩ := hr r hr'
  obtain ⟨a, e1, q1⟩ := okV_pi hk
  exact ⟨a, by rw [e1]; simp only [mkRow, ag72, if_true]; rfl, q1⟩
 exact ⟨l, by rw [show Tryz.prog.cellsOf 72 = 3 from by kernel_rfl], hq⟩
theorem okV_ev {d : Nat} {cs : List AV} (h : okV Tryz.prog (d + 4) 52 cs) : ∃ a : Ev, cs = a.cells ∧ True := by
 have t0 : okTs Tryz.prog (okV Tryz.prog (d + 3)) [3, 48, 49, 47, 50, 9] cs := okV_structG Tryz.underlying52 h
 obtain ⟨_, _, rfl, g0, t1⟩ := okTs_cons t0
 obtain ⟨k, rfl, ik⟩ := okV_int g0
 obtain ⟨_, _, rfl, g1, t2⟩ := okTs_cons t1
 obtain ⟨p, rfl, qp⟩ := okV_pis g1
 obtain ⟨_, _, rfl, g2, t3⟩ := okTs_cons t2
 obtain ⟨t, rfl, qt⟩ := okV_bools g2
 obtain ⟨_, _, rfl, g3, t4⟩ := okTs_cons t3
 obtain ⟨v, rfl, qv⟩ := okV_va g3
 obtain ⟨_, _, rfl, g4, t5⟩ := okTs_cons t4
 obtain ⟨m, rfl, qm⟩ := okV_ints g4
 obtain ⟨_, _, rfl, g5, t6⟩ := okTs_cons t5
 obtain ⟨w, rfl⟩ := okV_str g5
 obtain rfl := okTs_nil t6
 exact ⟨⟨k, p, t, v, m, w⟩, rfl, trivial⟩
theorem okV_evs {d : Nat} {cs : List AV} (h : okV Tryz.prog (d + 5) 28 cs) : ∃ l : List Ev, cs = [.sl 9 (l.map Ev.av) .none] ∧ ∀ a ∈ l, True := by
 obtain ⟨rows, rfl, _, hr⟩ := okV_sliceG Tryz.underlying28 h
 obtain ⟨l, rfl, hq⟩ := rows_of (f := Ev.av) (Q := fun a : Ev => True) rows fun r hr' => by
  obtain ⟨c, rfl, hk⟩ := hr r hr'
  obtain ⟨a, e1, q1⟩ := okV_ev hk
  exact ⟨a, by rw [e1]; simp only [mkRow, ag52, if_true]; rfl, q1⟩
 exact ⟨l, by rw [show Tryz.prog.cellsOf 52 = 9 from by kernel_rfl], hq⟩
theorem okV_vo {d : Nat} {cs : List AV} (h : okV Tryz.prog (d + 6) 74 cs) : ∃ a : Vo, cs = [.sl 9 (a.l.map Ev.av) .none] ∧ True := by
 have t0 : okTs Tryz.prog (okV Tryz.prog (d + 5)) [28] cs := okV_structG Tryz.underlying74 h
 obtain ⟨_, _, rfl, g0, t1⟩ := okTs_cons t0
 obtain ⟨l, rfl, ql⟩ := okV_evs g0
 obtain rfl := okTs_nil t1
 exact ⟨⟨l⟩, rfl, trivial⟩
theorem okV_vos {d : Nat} {cs : List AV} (h : okV Tryz.prog (d + 7) 75 cs) : ∃ l : List Vo, cs = [.sl 1 (l.map Vo.av) .none] ∧ ∀ a ∈ l, True := by
 obtain ⟨rows, rfl, _, hr⟩ := okV_sliceG Tryz.underlying75 h
 obtain ⟨l, rfl, hq⟩ := rows_of (f := Vo.av) (Q := fun a : Vo => True) rows fun r hr' => by
  obtain ⟨c, rfl, hk⟩ := hr r hr'
  obtain ⟨a, e1, q1⟩ := okV_vo hk
  exact ⟨a, by rw [e1]; simp only [mkRow, ag74, if_true]; rfl, q1⟩
 exact ⟨l, by rw [show Tryz.prog.cellsOf 74 = 1 from by kernel_rfl], hq⟩
theorem okV_ce {d : Nat} {cs : List AV} (h : okV Tryz.prog (d + 7) 75 cs) : ∃ l : List Vo, cs = [cellAV l] ∧ True := by obtain ⟨l, e, _⟩ := okV_vos h; exact ⟨l, e, trivial⟩
theorem okV_ces {d : Nat} {cs : List AV} (h : okV Tryz.prog (d + 8) 41 cs) : ∃ l : List (List Vo), cs = [.sl 1 (l.map cellAV) .none] ∧ ∀ a ∈ l, True := by
 obtain ⟨rows, rfl, _, hr⟩ := okV_sliceG Tryz.underlying41 h
 obtain ⟨l, rfl, hq⟩ := rows_of (f := cellAV) (Q := fun a : (List Vo) => True) rows fun r hr' => by
  obtain ⟨c, rfl, hk⟩ := hr r hr'
  obtain ⟨a, e1, q1⟩ := okV_ce hk
  exact ⟨a, by rw [e1]; simp only [mkRow, ag75, Bool.false_eq_true, if_false]; rfl, q1⟩
 exact ⟨l, by rw [show Tryz.prog.cellsOf 75 = 1 from by kernel_rfl], hq⟩
theorem okV_ces1 {d : Nat} {cs : List AV} (h : okV Tryz.prog (d + 8) 41 cs) : ∃ l : List (List Vo), cs = [cellsAV l] ∧ True := by obtain ⟨l, e, _⟩ := okV_ces h; exact ⟨l, e, trivial⟩
theorem okV_cess {d : Nat} {cs : List AV} (h : okV Tryz.prog (d + 9) 29 cs) : ∃ l : List (List (List Vo)), cs = [.sl 1 (l.map cellsAV) .none] ∧ ∀ a ∈ l, True := by
 obtain ⟨rows, rfl, _, hr⟩ := okV_sliceG Tryz.underlying29 h
 obtain ⟨l, rfl, hq⟩ := rows_of (f := cellsAV) (Q := fun a : (List (List Vo)) => True) rows fun r hr' => by
  obtain ⟨c, rfl, hk⟩ := hr r hr'
  obtain ⟨a, e1, q1⟩ := okV_ces1 hk
  exact ⟨a, by rw [e1]; simp only [mkRow, ag41, Bool.false_eq_true, if_false]; rfl, q1⟩
 exact ⟨l, by rw [show Tryz.prog.cellsOf 41 = 1 from by kernel_rfl], hq⟩
theorem okV_ra {d : Nat} {cs : List AV} (h : okV Tryz.prog (d + 2) 107 cs) : ∃ a : Ra, cs = [.int .i64 a.num, .int .i64 a.den] ∧ a.fits := by
 have t0 : okTs Tryz.prog (okV Tryz.prog (d + 1)) [3, 3] cs := okV_structG Tryz.underlying107 h
 obtain ⟨_, _, rfl, g0, t1⟩ := okTs_cons t0
 obtain ⟨a, rfl, ia⟩ := okV_int g0
 obtain ⟨_, _, rfl, g1, t2⟩ := okTs_cons t1
 obtain ⟨b, rfl, ib⟩ := okV_int g1
 obtain rfl := okTs_nil t2
 exact ⟨⟨a, b⟩, rfl, ⟨ia, ib⟩⟩
theorem okV_te {d : Nat} {cs : List AV} (h : okV Tryz.prog (d + 3) 137 cs) : ∃ a : Te, cs = [.int .i64 a.at_.num, .int .i64 a.at_.den, .int .i64 a.micros, .bool a.ramp] ∧ a.at_.fits := by
 have t0 : okTs Tryz.prog (okV Tryz.prog (d + 2)) [107, 3, 4] cs := okV_structG Tryz.underlying137 h
 obtain ⟨_, _, rfl, g0, t1⟩ := okTs_cons t0
 obtain ⟨r, rfl, qr⟩ := okV_ra g0
 obtain ⟨_, _, rfl, g1, t2⟩ := okTs_cons t1
 obtain ⟨m, rfl, im⟩ := okV_int g1
 obtain ⟨_, _, rfl, g2, t3⟩ := okTs_cons t2
 obtain ⟨b, rfl⟩ := okV_bool g2
 obtain rfl := okTs_nil t3
 exact ⟨⟨r, m, b⟩, rfl, qr⟩
theorem okV_tes {d : Nat} {cs : List AV} (h : okV Tryz.prog (d + 4) 82 cs) : ∃ l : List Te, cs = [.sl 4 (l.map Te.av) .none] ∧ ∀ a ∈ l, a.at_.fits := by
 obtain ⟨rows, rfl, _, hr⟩ := okV_sliceG Tryz.underlying82 h
 obtain ⟨l, rfl, hq⟩ := rows_of (f := Te.av) (Q := fun a : Te => a.at_.fits) rows fun r hr' => by
  obtain ⟨c, rfl, hk⟩ := hr r hr'
  obtain ⟨a, e1, q1⟩ := okV_te hk
  exact ⟨a, by rw [e1]; simp only [mkRow, ag137, if_true]; rfl, q1⟩
 exact ⟨l, by rw [show Tryz.prog.cellsOf 137 = 4 from by kernel_rfl], hq⟩
theorem okV_dy {d : Nat} {cs : List AV} (h : okV Tryz.prog (d + 3) 109 cs) : ∃ a : Dy, cs = [.int .i64 a.at_.num, .int .i64 a.at_.den, .int .i64 a.level, .bool a.hair] ∧ a.at_.fits := by
 have t0 : okTs Tryz.prog (okV Tryz.prog (d + 2)) [107, 3, 4] cs := okV_structG Tryz.underlying109 h
 obtain ⟨_, _, rfl, g0, t1⟩ := okTs_cons t0
 obtain ⟨r, rfl, qr⟩ := okV_ra g0
 obtain ⟨_, _, rfl, g1, t2⟩ := okTs_cons t1
 obtain ⟨m, rfl, im⟩ := okV_int g1
 obtain ⟨_, _, rfl, g2, t3⟩ := okTs_cons t2
 obtain ⟨b, rfl⟩ := okV_bool g2
 obtain rfl := okTs_nil t3
 exact ⟨⟨r, m, b⟩, rfl, qr⟩
theorem okV_dys {d : Nat} {cs : List AV} (h : okV Tryz.prog (d + 4) 88 cs) : ∃ l : List Dy, cs = [.sl 4 (l.map Dy.av) .none] ∧ ∀ a ∈ l, a.at_.fits := by
 obtain ⟨rows, rfl, _, hr⟩ := okV_sliceG Tryz.underlying88 h
 obtain ⟨l, rfl, hq⟩ := rows_of (f := Dy.av) (Q := fun a : Dy => a.at_.fits) rows fun r hr' => by
  obtain ⟨c, rfl, hk⟩ := hr r hr'
  obtain ⟨a, e1, q1⟩ := okV_dy hk
  exact ⟨a, by rw [e1]; simp only [mkRow, ag109, if_true]; rfl, q1⟩
 exact ⟨l, by rw [show Tryz.prog.cellsOf 109 = 4 from by kernel_rfl], hq⟩
theorem okV_ds {d : Nat} {cs : List AV} (h : okV Tryz.prog (d + 4) 88 cs) : ∃ l : List Dy, cs = [dynsAV l] ∧ ∀ t ∈ l, t.at_.fits := okV_dys h
theorem okV_dss {d : Nat} {cs : List AV} (h : okV Tryz.prog (d + 5) 42 cs) : ∃ l : List (List Dy), cs = [.sl 1 (l.map dynsAV) .none] ∧ ∀ a ∈ l, (∀ t ∈ a, t.at_.fits) := by
 obtain ⟨rows, rfl, _, hr⟩ := okV_sliceG Tryz.underlying42 h
 obtain ⟨l, rfl, hq⟩ := rows_of (f := dynsAV) (Q := fun a : (List Dy) => (∀ t ∈ a, t.at_.fits)) rows fun r hr' => by
  obtain ⟨c, rfl, hk⟩ := hr r hr'
  obtain ⟨a, e1, q1⟩ := okV_ds hk
  exact ⟨a, by rw [e1]; simp only [mkRow, ag88, Bool.false_eq_true, if_false]; rfl, q1⟩
 exact ⟨l, by rw [show Tryz.prog.cellsOf 88 = 1 from by kernel_rfl], hq⟩
theorem okV_me {d : Nat} {cs : List AV} (h : okV Tryz.prog (d + 3) 77 cs) : ∃ a : Me, cs = [.int .i64 a.num, .int .i64 a.den, .sl 1 (a.groups.map (AV.int .i64)) .none] ∧ (I64 a.num ∧ I64 a.den) := by
 have t0 : okTs Tryz.prog (okV Tryz.prog (d + 2)) [3, 3, 50] cs := okV_structG Tryz.underlying77 h
 obtain ⟨_, _, rfl, g0, t1⟩ := okTs_cons t0
 obtain ⟨a, rfl, ia⟩ := okV_int g0
 obtain ⟨_, _, rfl, g1, t2⟩ := okTs_cons t1
 obtain ⟨b, rfl, ib⟩ := okV_int g1
 obtain ⟨_, _, rfl, g2, t3⟩ := okTs_cons t2
 obtain ⟨g, rfl, qg⟩ := okV_ints g2
 obtain rfl := okTs_nil t3
 exact ⟨⟨a, b, g⟩, rfl, ⟨ia, ib⟩⟩
theorem okV_ke {d : Nat} {cs : List AV} (h : okV Tryz.prog (d + 2) 79 cs) : ∃ a : Ke, cs = [.int .i64 a.fifths, .bool a.minor] ∧ True := by
 have t0 : okTs Tryz.prog (okV Tryz.prog (d + 1)) [3, 4] cs := okV_structG Tryz.underlying79 h
 obtain ⟨_, _, rfl, g0, t1⟩ := okTs_cons t0
 obtain ⟨a, rfl, ia⟩ := okV_int g0
 obtain ⟨_, _, rfl, g1, t2⟩ := okTs_cons t1
 obtain ⟨b, rfl⟩ := okV_bool g1
 obtain rfl := okTs_nil t2
 exact ⟨⟨a, b⟩, rfl, trivial⟩
theorem okV_tu {d : Nat} {cs : List AV} (h : okV Tryz.prog (d + 3) 81 cs) : ∃ a : Tu, cs = a.cells8 ∧ True := by
 have t0 : okTs Tryz.prog (okV Tryz.prog (d + 2)) [4, 3, 50, 4, 4, 4, 4, 3] cs := okV_structG Tryz.underlying81 h
 obtain ⟨_, _, rfl, g0, t1⟩ := okTs_cons t0
 obtain ⟨b, rfl⟩ := okV_bool g0
 obtain ⟨_, _, rfl, g1, t2⟩ := okTs_cons t1
 obtain ⟨t, rfl, it⟩ := okV_int g1
 obtain ⟨_, _, rfl, g2, t3⟩ := okTs_cons t2
 obtain ⟨e, rfl, qe⟩ := okV_ints g2
 obtain ⟨_, _, rfl, g3, t4⟩ := okTs_cons t3
 obtain ⟨s, rfl⟩ := okV_bool g3
 obtain ⟨_, _, rfl, g4, t5⟩ := okTs_cons t4
 obtain ⟨c, rfl⟩ := okV_bool g4
 obtain ⟨_, _, rfl, g5, t6⟩ := okTs_cons t5
 obtain ⟨o, rfl⟩ := okV_bool g5
 obtain ⟨_, _, rfl, g6, t7⟩ := okTs_cons t6
 obtain ⟨f, rfl⟩ := okV_bool g6
 obtain ⟨_, _, rfl, g7, t8⟩ := okTs_cons t7
 obtain ⟨j, rfl, ij⟩ := okV_int g7
 obtain rfl := okTs_nil t8
 exact ⟨⟨b, t, e, s, c, o, f, j⟩, rfl, trivial⟩
def Ba.typed (b : Ba) : Prop := I64 b.meter.num ∧ I64 b.meter.den ∧ ∀ t ∈ b.tempos, t.at_.fits
theorem okV_ba {d : Nat} {cs : List AV} (h : okV Tryz.prog (d + 5) 84 cs) : ∃ a : Ba, cs = a.cells14 ∧ a.typed := by
 have t0 : okTs Tryz.prog (okV Tryz.prog (d + 4)) [77, 79, 81, 82] cs := okV_structG Tryz.underlying84 h
 obtain ⟨_, _, rfl, g0, t1⟩ := okTs_cons t0
 obtain ⟨m, rfl, qm⟩ := okV_me g0
 obtain ⟨_, _, rfl, g1, t2⟩ := okTs_cons t1
 obtain ⟨k, rfl, qk⟩ := okV_ke g1
 obtain ⟨_, _, rfl, g2, t3⟩ := okTs_cons t2
 obtain ⟨t, rfl, qt⟩ := okV_tu g2
 obtain ⟨_, _, rfl, g3, t4⟩ := okTs_cons t3
 obtain ⟨e, rfl, qe⟩ := okV_tes g3
 obtain rfl := okTs_nil t4
 exact ⟨⟨m, k, t, e⟩, rfl, ⟨qm.1, qm.2, qe⟩⟩
theorem okV_bas {d : Nat} {cs : List AV} (h : okV Tryz.prog (d + 6) 22 cs) : ∃ l : List Ba, cs = [.sl 14 (l.map Ba.av) .none] ∧ ∀ a ∈ l, a.typed := by
 obtain ⟨rows, rfl, _, hr⟩ := okV_sliceG Tryz.underlying22 h
 obtain ⟨l, rfl, hq⟩ := rows_of (f := Ba.av) (Q := fun a : Ba => a.typed) rows fun r hr' => by
  obtain ⟨c, rfl, hk⟩ := hr r hr'
  obtain ⟨a, e1, q1⟩ := okV_ba hk
  exact ⟨a, by rw [e1]; simp only [mkRow, ag84, if_true]; rfl, q1⟩
 exact ⟨l, by rw [show Tryz.prog.cellsOf 84 = 14 from by kernel_rfl], hq⟩
def Pa.typed (p : Pa) : Prop := ∀ d ∈ p.dyns, ∀ t ∈ d, t.at_.fits
theorem okV_pa {d : Nat} {cs : List AV} (h : okV Tryz.prog (d + 9) 44 cs) : ∃ a : Pa, cs = a.cells5 ∧ a.typed := by
 have t0 : okTs Tryz.prog (okV Tryz.prog (d + 8)) [9, 3, 3, 41, 42] cs := okV_structG Tryz.underlying44 h
 obtain ⟨_, _, rfl, g0, t1⟩ := okTs_cons t0
 obtain ⟨n, rfl⟩ := okV_str g0
 obtain ⟨_, _, rfl, g1, t2⟩ := okTs_cons t1
 obtain ⟨c, rfl, ic⟩ := okV_int g1
 obtain ⟨_, _, rfl, g2, t3⟩ := okTs_cons t2
 obtain ⟨x, rfl, ix⟩ := okV_int g2
 obtain ⟨_, _, rfl, g3, t4⟩ := okTs_cons t3
 obtain ⟨e, rfl, qe⟩ := okV_ces g3
 obtain ⟨_, _, rfl, g4, t5⟩ := okTs_cons t4
 obtain ⟨y, rfl, qy⟩ := okV_dss g4
 obtain rfl := okTs_nil t5
 exact ⟨⟨n, c, x, e, y⟩, rfl, qy⟩
theorem okV_pas {d : Nat} {cs : List AV} (h : okV Tryz.prog (d + 10) 23 cs) : ∃ l : List Pa, cs = [.sl 5 (l.map Pa.av) .none] ∧ ∀ a ∈ l, a.typed := by
 obtain ⟨rows, rfl, _, hr⟩ := okV_sliceG Tryz.underlying23 h
 obtain ⟨l, rfl, hq⟩ := rows_of (f := Pa.av) (Q := fun a : Pa => a.typed) rows fun r hr' => by
  obtain ⟨c, rfl, hk⟩ := hr r hr'
  obtain ⟨a, e1, q1⟩ := okV_pa hk
  exact ⟨a, by rw [e1]; simp only [mkRow, ag44, if_true]; rfl, q1⟩
 exact ⟨l, by rw [show Tryz.prog.cellsOf 44 = 5 from by kernel_rfl], hq⟩
structure Sc.typed (s : Sc) : Prop where
 bars : ∀ b ∈ s.bars, b.typed
 parts : ∀ p ∈ s.parts, p.typed
theorem okV_sc {d : Nat} {cs : List AV} (h : okV Tryz.prog (d + 11) 25 cs) : ∃ a : Sc, cs = [.str a.title, .sl 14 (a.bars.map Ba.av) .none, .sl 5 (a.parts.map Pa.av) .none] ∧ a.typed := by
 have t0 : okTs Tryz.prog (okV Tryz.prog (d + 10)) [9, 22, 23] cs := okV_structG Tryz.underlying25 h
 obtain ⟨_, _, rfl, g0, t1⟩ := okTs_cons t0
 obtain ⟨t, rfl⟩ := okV_str g0
 obtain ⟨_, _, rfl, g1, t2⟩ := okTs_cons t1
 obtain ⟨b, rfl, qb⟩ := okV_bas g1
 obtain ⟨_, _, rfl, g2, t3⟩ := okTs_cons t2
 obtain ⟨p, rfl, qp⟩ := okV_pas g2
 obtain rfl := okTs_nil t3
 exact ⟨⟨t, b, p⟩, rfl, ⟨qb, qp⟩⟩
theorem okV_pl {d : Nat} {cs : List AV} (h : okV Tryz.prog (d + 2) 27 cs) : ∃ a : (Int × Int × Int × Int), cs = [.int .i64 a.1, .int .i64 a.2.1, .int .i64 a.2.2.1, .int .i64 a.2.2.2] ∧ (I64 a.1 ∧ I64 a.2.1 ∧ I64 a.2.2.1 ∧ I64 a.2.2.2) := by
 have t0 : okTs Tryz.prog (okV Tryz.prog (d + 1)) [3, 3, 3, 3] cs := okV_structG Tryz.underlying27 h
 obtain ⟨_, _, rfl, g0, t1⟩ := okTs_cons t0
 obtain ⟨a, rfl, ia⟩ := okV_int g0
 obtain ⟨_, _, rfl, g1, t2⟩ := okTs_cons t1
 obtain ⟨b, rfl, ib⟩ := okV_int g1
 obtain ⟨_, _, rfl, g2, t3⟩ := okTs_cons t2
 obtain ⟨c, rfl, ic⟩ := okV_int g2
 obtain ⟨_, _, rfl, g3, t4⟩ := okTs_cons t3
 obtain ⟨e, rfl, ie⟩ := okV_int g3
 obtain rfl := okTs_nil t4
 exact ⟨(a, b, c, e), rfl, ⟨ia, ib, ic, ie⟩⟩
theorem okV_iv {d : Nat} {cs : List AV} (h : okV Tryz.prog (d + 2) 32 cs) : ∃ a : (Int × Int), cs = [.int .i64 a.1, .int .i64 a.2] ∧ True := by
 have t0 : okTs Tryz.prog (okV Tryz.prog (d + 1)) [3, 3] cs := okV_structG Tryz.underlying32 h
 obtain ⟨_, _, rfl, g0, t1⟩ := okTs_cons t0
 obtain ⟨a, rfl, ia⟩ := okV_int g0
 obtain ⟨_, _, rfl, g1, t2⟩ := okTs_cons t1
 obtain ⟨b, rfl, ib⟩ := okV_int g1
 obtain rfl := okTs_nil t2
 exact ⟨(a, b), rfl, trivial⟩
structure EOp.typed (o : EOp) : Prop where
 at_ : I64 o.at_
 count : I64 o.count
theorem scores_of {d : Nat} {cs : List AV} (h : okV Tryz.prog (d + 11) 25 cs) : ∃ s : Sc, AV.agg cs = s.av ∧ s.typed := by
 obtain ⟨s, rfl, q⟩ := okV_sc h
 exact ⟨s, rfl, q⟩
end Go.Proofs.Pv
namespace Go.Proofs.Pv
open Go Go.Proofs
set_option linter.unusedSimpArgs false
set_option linter.unusedVariables false
set_option maxRecDepth 100000
set_option maxHeartbeats 4000000
theorem fewL_len {α : Type} {n : Nat} {p : α → Bool} {l : List α} (h : fewL n p l = true) : l.length ≤ n ∧ ∀ x ∈ l, p x = true := by
 simp only [fewL, Bool.and_eq_true, decide_eq_true_eq, List.all_eq_true] at h
 exact ⟨by omega, h.2⟩
theorem fewEv_small {e : Ev} (h : e.fewB = true) : e.small := by
 simp only [Ev.fewB, Bool.and_eq_true, decide_eq_true_eq] at h
 exact ⟨by omega, by omega, by omega⟩
theorem fewEvs_small {l : List Ev} (h : fewEvs l = true) : l.length ≤ 12 ∧ ∀ e ∈ l, e.small := by
 obtain ⟨h1, h2⟩ := fewL_len h
 exact ⟨h1, fun e he => fewEv_small (h2 e he)⟩
structure FewS (s : Sc) : Prop where
 small : s.small
 ends : ∀ b ∈ s.bars, b.turn.endings.length ≤ 1000000
 evs : ∀ p ∈ s.parts, ∀ c ∈ p.cells, ∀ v ∈ c, v.l.length ≤ 12
theorem few_small {s : Sc} (ht : s.typed) (h : s.fewB = true) : FewS s := by
 simp only [Sc.fewB, Bool.and_eq_true, Bool.not_eq_true', decide_eq_false_iff_not, List.all_eq_true] at h
 obtain ⟨⟨h1, h2, h3, h4⟩, h5⟩ := h
 obtain ⟨b1, b2⟩ := fewL_len h4
 have hb : ∀ b ∈ s.bars, b.meter.groups.length ≤ 12 ∧ b.turn.endings.length ≤ 12 ∧ b.tempos.length ≤ 12 := by
  intro b hb
  have := b2 b hb
  simp only [Ba.fewB, Bool.not_eq_true', Bool.or_eq_false_iff, decide_eq_false_iff_not] at this
  omega
 have hp : ∀ p ∈ s.parts, (∀ c ∈ p.cells, c.length ≤ 4 ∧ ∀ v ∈ c, v.l.length ≤ 12 ∧ ∀ e ∈ v.l, e.small) ∧ ∀ d ∈ p.dyns, d.length ≤ 12 := by
  intro p hp
  have := h5 p hp
  simp only [Pa.fewB, Bool.and_eq_true] at this
  obtain ⟨_, q1, q2⟩ := this
  obtain ⟨_, q3⟩ := fewL_len q1
  obtain ⟨_, q4⟩ := fewL_len q2
  refine ⟨fun c hc => ?_, fun d hd => ?_⟩
  ·have := q3 c hc
   simp only [fewCe, Bool.and_eq_true, Bool.not_eq_true', decide_eq_false_iff_not, List.all_eq_true] at this
   exact ⟨by omega, fun v hv => fewEvs_small (this.2 v hv)⟩
  ·have := q4 d hd
   simp only [fewDy, Bool.not_eq_true', decide_eq_false_iff_not] at this
   omega
 refine ⟨⟨fun b hb' => ?_, fun p hp' => ⟨fun c hc => ?_, fun d hd => ?_⟩, by omega, by omega⟩, fun b hb' => by have := hb b hb'; omega, fun p hp' c hc v hv => (((hp p hp').1 c hc).2 v hv).1⟩
 ·have h := hb b hb'
  have t := ht.bars b hb'
  exact ⟨by omega, t.1, t.2.1, by omega, t.2.2⟩
 ·have h := (hp p hp').1 c hc
  exact ⟨by omega, fun v hv => ⟨by have := (h.2 v hv).1; omega, (h.2 v hv).2⟩⟩
 ·have h := (hp p hp').2 d hd
  exact ⟨by omega, ht.parts p hp' d hd⟩
theorem nat_of {x : Int} {n : Nat} (h : 0 ≤ x ∧ x < (n : Nat)) : ∃ k : Nat, x = (k : Nat) ∧ k < n := ⟨x.toNat, by omega, by omega⟩
end Go.Proofs.Pv
