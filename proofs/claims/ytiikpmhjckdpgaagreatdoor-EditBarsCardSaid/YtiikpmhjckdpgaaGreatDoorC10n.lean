/-
  Layer 9's edits: a score of one to four parts whose bars, and whose parts' lists, are open, as it stands.
  Conditions: short lists, none of them empty where it is copied.
-/
import Derived.Test.YtiikpmhjckdpgaaGreatDoorC10c
import Derived.Test.YtiikpmhjckdpgaaGreatDoorC09k
namespace Go.Proofs.Pv
open Go Go.Proofs
set_option linter.unusedSimpArgs false
set_option linter.unusedVariables false
set_option maxRecDepth 100000
theorem ceNowB {sty : Nat → Bool} {hp : Hp} {d key : Nat} (l : List (List Vo)) (hs : sty key = false) (hk : hp key = some (.cells (l.flatMap ceC1))) : AV.nowS sty hp (d + 1) (.msl key 0 l.length 1) = .sl 1 (l.map cellAV) .none := by
 refine (nowS_own hk (by decide) (nowSFlat (c := ceC1) (fun x => by cases d <;> rfl) l) (by rw [flCe]; omega) (pureFlat (fun _ => rfl) l)).trans ?_
 rw [hs, show (l.flatMap ceC1) = l.map cellAV from flatOne (c := cellAV) l, Bool.or_false, show (!(Nat.beq 1 1)) = false from rfl, chunksOne (c := cellAV) l]
theorem dyNowB {sty : Nat → Bool} {hp : Hp} {d key : Nat} (l : List (List Dy)) (hs : sty key = false) (hk : hp key = some (.cells (l.flatMap dyC))) : AV.nowS sty hp (d + 1) (.msl key 0 l.length 1) = .sl 1 (l.map dynsAV) .none := by
 refine (nowS_own hk (by decide) (nowSFlat (c := dyC) (fun x => by cases d <;> rfl) l) (by rw [flDy]; omega) (pureFlat (fun _ => rfl) l)).trans ?_
 rw [hs, show (l.flatMap dyC) = l.map dynsAV from flatOne (c := dynsAV) l, Bool.or_false, show (!(Nat.beq 1 1)) = false from rfl, chunksOne (c := dynsAV) l]
theorem baNowB {sty : Nat → Bool} {hp : Hp} {d key : Nat} (l : List Ba) (hk : hp key = some (.cells (l.flatMap Ba.cells))) : AV.nowS sty hp (d + 1) (.msl key 0 l.length 14) = .sl 14 (l.map Ba.av) .none := by
 refine (nowS_own hk (by decide) (nowSFlat (c := Ba.cells) (fun x => by cases d <;> rfl) l) (by rw [flBa]; omega) (pureFlat (fun _ => rfl) l)).trans ?_
 have := chunksFlat (c := Ba.cells) (k := 14) (fun _ => rfl) l
 rw [show (!(Nat.beq 14 1) || sty key) = true from rfl, this]
 rfl
theorem plainNow {sty : Nat → Bool} {hp : Hp} {d : Nat} : (∀ a, AV.nowS sty hp d (.str a) = .str a) ∧ (∀ k a, AV.nowS sty hp d (.int k a) = .int k a) := by cases d <;> exact ⟨fun _ => rfl, fun _ _ => rfl⟩
theorem nowSc1 {sty : Nat → Bool} {hp : Hp} {d kb kp kc0 kd0 : Nat} (t : ByteArray) (bs : List Ba) (q0 : Pa) (hs : ∀ k, sty k = false) (hb : hp kb = some (.cells (bs.flatMap Ba.cells))) (hq : hp kp = some (.cells [.str q0.name, .int .i64 q0.clef, .int .i64 q0.channel, .msl kc0 0 q0.cells.length 1, .msl kd0 0 q0.dyns.length 1])) (hc0 : hp kc0 = some (.cells (q0.cells.flatMap ceC1))) (hd0 : hp kd0 = some (.cells (q0.dyns.flatMap dyC))) :
  AV.nowS sty hp (d + 4) (.agg [.str t, .msl kb 0 bs.length 14, .msl kp 0 1 5]) = (Sc.mk t bs [q0]).av := by
 have h1 : AV.nowS sty hp (d + 3) (.msl kp 0 1 5) = .sl 5 [q0.av] .none := by
  refine (nowS_own (cs' := [.str q0.name, .int .i64 q0.clef, .int .i64 q0.channel, .sl 1 (q0.cells.map cellAV) .none, .sl 1 (q0.dyns.map dynsAV) .none]) hq (by decide) ?_ (by simp) rfl).trans rfl
  simp only [List.map_cons, List.map_nil, plainNow.1, plainNow.2, ceNowB q0.cells (hs _) hc0, dyNowB q0.dyns (hs _) hd0]
 show AV.agg [AV.nowS sty hp (d + 3) (.str t), AV.nowS sty hp (d + 3) (.msl kb 0 bs.length 14), AV.nowS sty hp (d + 3) (.msl kp 0 1 5)] = _
 rw [h1, baNowB bs hb]
 rfl
theorem copiedL1 (t : ByteArray) (bs : List Ba) (hbl : bs.length ≤ 1000000) (hbs : ∀ b ∈ bs, b.short) (hnb : 0 < bs.length) (p0 : Pa) (h0 : p0.shortB) (ha0 : 0 < p0.cells.length) (hb0 : 0 < p0.dyns.length) :
  Own Tryz.prog gl 16 [(Sc.mk t bs [p0]).av] (.agg [.str t, .msl 1 0 bs.length 14, .msl 0 0 1 5]) [(0, [.str p0.name, .int .i64 p0.clef, .int .i64 p0.channel, .msl 2 0 p0.cells.length 1, .msl 3 0 p0.dyns.length 1]), (1, bs.flatMap Ba.cells), (2, p0.cells.flatMap ceC1), (3, p0.dyns.flatMap dyC)] 10 := by
 obtain ⟨nb, enb⟩ : ∃ a, bs.length = a + 1 := ⟨bs.length - 1, by omega⟩
 obtain ⟨a0, ea0⟩ : ∃ a, p0.cells.length = a + 1 := ⟨p0.cells.length - 1, by omega⟩
 obtain ⟨b0, eb0⟩ : ∃ a, p0.dyns.length = a + 1 := ⟨p0.dyns.length - 1, by omega⟩
 have := copiedB1 t bs hbl hbs nb enb p0 h0 a0 b0 ea0 eb0
 rw [← enb] at this
 rw [← ea0, ← eb0] at this
 exact this
theorem nowSc2 {sty : Nat → Bool} {hp : Hp} {d kb kp kc0 kd0 kc1 kd1 : Nat} (t : ByteArray) (bs : List Ba) (q0 q1 : Pa) (hs : ∀ k, sty k = false) (hb : hp kb = some (.cells (bs.flatMap Ba.cells))) (hq : hp kp = some (.cells [.str q0.name, .int .i64 q0.clef, .int .i64 q0.channel, .msl kc0 0 q0.cells.length 1, .msl kd0 0 q0.dyns.length 1, .str q1.name, .int .i64 q1.clef, .int .i64 q1.channel, .msl kc1 0 q1.cells.length 1, .msl kd1 0 q1.dyns.length 1])) (hc0 : hp kc0 = some (.cells (q0.cells.flatMap ceC1))) (hd0 : hp kd0 = some (.cells (q0.dyns.flatMap dyC))) (hc1 : hp kc1 = some (.cells (q1.cells.flatMap ceC1))) (hd1 : hp kd1 = some (.cells (q1.dyns.flatMap dyC))) :
  AV.nowS sty hp (d + 4) (.agg [.str t, .msl kb 0 bs.length 14, .msl kp 0 2 5]) = (Sc.mk t bs [q0, q1]).av := by
 have h1 : AV.nowS sty hp (d + 3) (.msl kp 0 2 5) = .sl 5 [q0.av, q1.av] .none := by
  refine (nowS_own (cs' := [.str q0.name, .int .i64 q0.clef, .int .i64 q0.channel, .sl 1 (q0.cells.map cellAV) .none, .sl 1 (q0.dyns.map dynsAV) .none, .str q1.name, .int .i64 q1.clef, .int .i64 q1.channel, .sl 1 (q1.cells.map cellAV) .none, .sl 1 (q1.dyns.map dynsAV) .none]) hq (by decide) ?_ (by simp) rfl).trans rfl
  simp only [List.map_cons, List.map_nil, plainNow.1, plainNow.2, ceNowB q0.cells (hs _) hc0, dyNowB q0.dyns (hs _) hd0, ceNowB q1.cells (hs _) hc1, dyNowB q1.dyns (hs _) hd1]
 show AV.agg [AV.nowS sty hp (d + 3) (.str t), AV.nowS sty hp (d + 3) (.msl kb 0 bs.length 14), AV.nowS sty hp (d + 3) (.msl kp 0 2 5)] = _
 rw [h1, baNowB bs hb]
 rfl
theorem copiedL2 (t : ByteArray) (bs : List Ba) (hbl : bs.length ≤ 1000000) (hbs : ∀ b ∈ bs, b.short) (hnb : 0 < bs.length) (p0 p1 : Pa) (h0 : p0.shortB) (ha0 : 0 < p0.cells.length) (hb0 : 0 < p0.dyns.length) (h1 : p1.shortB) (ha1 : 0 < p1.cells.length) (hb1 : 0 < p1.dyns.length) :
  Own Tryz.prog gl 16 [(Sc.mk t bs [p0, p1]).av] (.agg [.str t, .msl 1 0 bs.length 14, .msl 0 0 2 5]) [(0, [.str p0.name, .int .i64 p0.clef, .int .i64 p0.channel, .msl 2 0 p0.cells.length 1, .msl 3 0 p0.dyns.length 1, .str p1.name, .int .i64 p1.clef, .int .i64 p1.channel, .msl 4 0 p1.cells.length 1, .msl 5 0 p1.dyns.length 1]), (1, bs.flatMap Ba.cells), (2, p0.cells.flatMap ceC1), (3, p0.dyns.flatMap dyC), (4, p1.cells.flatMap ceC1), (5, p1.dyns.flatMap dyC)] 10 := by
 obtain ⟨nb, enb⟩ : ∃ a, bs.length = a + 1 := ⟨bs.length - 1, by omega⟩
 obtain ⟨a0, ea0⟩ : ∃ a, p0.cells.length = a + 1 := ⟨p0.cells.length - 1, by omega⟩
 obtain ⟨b0, eb0⟩ : ∃ a, p0.dyns.length = a + 1 := ⟨p0.dyns.length - 1, by omega⟩
 obtain ⟨a1, ea1⟩ : ∃ a, p1.cells.length = a + 1 := ⟨p1.cells.length - 1, by omega⟩
 obtain ⟨b1, eb1⟩ : ∃ a, p1.dyns.length = a + 1 := ⟨p1.dyns.length - 1, by omega⟩
 have := copiedB2 t bs hbl hbs nb enb p0 p1 h0 a0 b0 ea0 eb0 h1 a1 b1 ea1 eb1
 rw [← enb] at this
 rw [← ea0, ← eb0] at this
 rw [← ea1, ← eb1] at this
 exact this
theorem nowSc3 {sty : Nat → Bool} {hp : Hp} {d kb kp kc0 kd0 kc1 kd1 kc2 kd2 : Nat} (t : ByteArray) (bs : List Ba) (q0 q1 q2 : Pa) (hs : ∀ k, sty k = false) (hb : hp kb = some (.cells (bs.flatMap Ba.cells))) (hq : hp kp = some (.cells [.str q0.name, .int .i64 q0.clef, .int .i64 q0.channel, .msl kc0 0 q0.cells.length 1, .msl kd0 0 q0.dyns.length 1, .str q1.name, .int .i64 q1.clef, .int .i64 q1.channel, .msl kc1 0 q1.cells.length 1, .msl kd1 0 q1.dyns.length 1, .str q2.name, .int .i64 q2.clef, .int .i64 q2.channel, .msl kc2 0 q2.cells.length 1, .msl kd2 0 q2.dyns.length 1])) (hc0 : hp kc0 = some (.cells (q0.cells.flatMap ceC1))) (hd0 : hp kd0 = some (.cells (q0.dyns.flatMap dyC))) (hc1 : hp kc1 = some (.cells (q1.cells.flatMap ceC1))) (hd1 : hp kd1 = some (.cells (q1.dyns.flatMap dyC))) (hc2 : hp kc2 = some (.cells (q2.cells.flatMap ceC1))) (hd2 : hp kd2 = some (.cells (q2.dyns.flatMap dyC))) :
  AV.nowS sty hp (d + 4) (.agg [.str t, .msl kb 0 bs.length 14, .msl kp 0 3 5]) = (Sc.mk t bs [q0, q1, q2]).av := by
 have h1 : AV.nowS sty hp (d + 3) (.msl kp 0 3 5) = .sl 5 [q0.av, q1.av, q2.av] .none := by
  refine (nowS_own (cs' := [.str q0.name, .int .i64 q0.clef, .int .i64 q0.channel, .sl 1 (q0.cells.map cellAV) .none, .sl 1 (q0.dyns.map dynsAV) .none, .str q1.name, .int .i64 q1.clef, .int .i64 q1.channel, .sl 1 (q1.cells.map cellAV) .none, .sl 1 (q1.dyns.map dynsAV) .none, .str q2.name, .int .i64 q2.clef, .int .i64 q2.channel, .sl 1 (q2.cells.map cellAV) .none, .sl 1 (q2.dyns.map dynsAV) .none]) hq (by decide) ?_ (by simp) rfl).trans rfl
  simp only [List.map_cons, List.map_nil, plainNow.1, plainNow.2, ceNowB q0.cells (hs _) hc0, dyNowB q0.dyns (hs _) hd0, ceNowB q1.cells (hs _) hc1, dyNowB q1.dyns (hs _) hd1, ceNowB q2.cells (hs _) hc2, dyNowB q2.dyns (hs _) hd2]
 show AV.agg [AV.nowS sty hp (d + 3) (.str t), AV.nowS sty hp (d + 3) (.msl kb 0 bs.length 14), AV.nowS sty hp (d + 3) (.msl kp 0 3 5)] = _
 rw [h1, baNowB bs hb]
 rfl
theorem copiedL3 (t : ByteArray) (bs : List Ba) (hbl : bs.length ≤ 1000000) (hbs : ∀ b ∈ bs, b.short) (hnb : 0 < bs.length) (p0 p1 p2 : Pa) (h0 : p0.shortB) (ha0 : 0 < p0.cells.length) (hb0 : 0 < p0.dyns.length) (h1 : p1.shortB) (ha1 : 0 < p1.cells.length) (hb1 : 0 < p1.dyns.length) (h2 : p2.shortB) (ha2 : 0 < p2.cells.length) (hb2 : 0 < p2.dyns.length) :
  Own Tryz.prog gl 16 [(Sc.mk t bs [p0, p1, p2]).av] (.agg [.str t, .msl 1 0 bs.length 14, .msl 0 0 3 5]) [(0, [.str p0.name, .int .i64 p0.clef, .int .i64 p0.channel, .msl 2 0 p0.cells.length 1, .msl 3 0 p0.dyns.length 1, .str p1.name, .int .i64 p1.clef, .int .i64 p1.channel, .msl 4 0 p1.cells.length 1, .msl 5 0 p1.dyns.length 1, .str p2.name, .int .i64 p2.clef, .int .i64 p2.channel, .msl 6 0 p2.cells.length 1, .msl 7 0 p2.dyns.length 1]), (1, bs.flatMap Ba.cells), (2, p0.cells.flatMap ceC1), (3, p0.dyns.flatMap dyC), (4, p1.cells.flatMap ceC1), (5, p1.dyns.flatMap dyC), (6, p2.cells.flatMap ceC1), (7, p2.dyns.flatMap dyC)] 10 := by
 obtain ⟨nb, enb⟩ : ∃ a, bs.length = a + 1 := ⟨bs.length - 1, by omega⟩
 obtain ⟨a0, ea0⟩ : ∃ a, p0.cells.length = a + 1 := ⟨p0.cells.length - 1, by omega⟩
 obtain ⟨b0, eb0⟩ : ∃ a, p0.dyns.length = a + 1 := ⟨p0.dyns.length - 1, by omega⟩
 obtain ⟨a1, ea1⟩ : ∃ a, p1.cells.length = a + 1 := ⟨p1.cells.length - 1, by omega⟩
 obtain ⟨b1, eb1⟩ : ∃ a, p1.dyns.length = a + 1 := ⟨p1.dyns.length - 1, by omega⟩
 obtain ⟨a2, ea2⟩ : ∃ a, p2.cells.length = a + 1 := ⟨p2.cells.length - 1, by omega⟩
 obtain ⟨b2, eb2⟩ : ∃ a, p2.dyns.length = a + 1 := ⟨p2.dyns.length - 1, by omega⟩
 have := copiedB3 t bs hbl hbs nb enb p0 p1 p2 h0 a0 b0 ea0 eb0 h1 a1 b1 ea1 eb1 h2 a2 b2 ea2 eb2
 rw [← enb] at this
 rw [← ea0, ← eb0] at this
 rw [← ea1, ← eb1] at this
 rw [← ea2, ← eb2] at this
 exact this
theorem nowSc4 {sty : Nat → Bool} {hp : Hp} {d kb kp kc0 kd0 kc1 kd1 kc2 kd2 kc3 kd3 : Nat} (t : ByteArray) (bs : List Ba) (q0 q1 q2 q3 : Pa) (hs : ∀ k, sty k = false) (hb : hp kb = some (.cells (bs.flatMap Ba.cells))) (hq : hp kp = some (.cells [.str q0.name, .int .i64 q0.clef, .int .i64 q0.channel, .msl kc0 0 q0.cells.length 1, .msl kd0 0 q0.dyns.length 1, .str q1.name, .int .i64 q1.clef, .int .i64 q1.channel, .msl kc1 0 q1.cells.length 1, .msl kd1 0 q1.dyns.length 1, .str q2.name, .int .i64 q2.clef, .int .i64 q2.channel, .msl kc2 0 q2.cells.length 1, .msl kd2 0 q2.dyns.length 1, .str q3.name, .int .i64 q3.clef, .int .i64 q3.channel, .msl kc3 0 q3.cells.length 1, .msl kd3 0 q3.dyns.length 1])) (hc0 : hp kc0 = some (.cells (q0.cells.flatMap ceC1))) (hd0 : hp kd0 = some (.cells (q0.dyns.flatMap dyC))) (hc1 : hp kc1 = some (.cells (q1.cells.flatMap ceC1))) (hd1 : hp kd1 = some (.cells (q1.dyns.flatMap dyC))) (hc2 : hp kc2 = some (.cells (q2.cells.flatMap ceC1))) (hd2 : hp kd2 = some (.cells (q2.dyns.flatMap dyC))) (hc3 : hp kc3 = some (.cells (q3.cells.flatMap ceC1))) (hd3 : hp kd3 = some (.cells (q3.dyns.flatMap dyC))) :
  AV.nowS sty hp (d + 4) (.agg [.str t, .msl kb 0 bs.length 14, .msl kp 0 4 5]) = (Sc.mk t bs [q0, q1, q2, q3]).av := by
 have h1 : AV.nowS sty hp (d + 3) (.msl kp 0 4 5) = .sl 5 [q0.av, q1.av, q2.av, q3.av] .none := by
  refine (nowS_own (cs' := [.str q0.name, .int .i64 q0.clef, .int .i64 q0.channel, .sl 1 (q0.cells.map cellAV) .none, .sl 1 (q0.dyns.map dynsAV) .none, .str q1.name, .int .i64 q1.clef, .int .i64 q1.channel, .sl 1 (q1.cells.map cellAV) .none, .sl 1 (q1.dyns.map dynsAV) .none, .str q2.name, .int .i64 q2.clef, .int .i64 q2.channel, .sl 1 (q2.cells.map cellAV) .none, .sl 1 (q2.dyns.map dynsAV) .none, .str q3.name, .int .i64 q3.clef, .int .i64 q3.channel, .sl 1 (q3.cells.map cellAV) .none, .sl 1 (q3.dyns.map dynsAV) .none]) hq (by decide) ?_ (by simp) rfl).trans rfl
  simp only [List.map_cons, List.map_nil, plainNow.1, plainNow.2, ceNowB q0.cells (hs _) hc0, dyNowB q0.dyns (hs _) hd0, ceNowB q1.cells (hs _) hc1, dyNowB q1.dyns (hs _) hd1, ceNowB q2.cells (hs _) hc2, dyNowB q2.dyns (hs _) hd2, ceNowB q3.cells (hs _) hc3, dyNowB q3.dyns (hs _) hd3]
 show AV.agg [AV.nowS sty hp (d + 3) (.str t), AV.nowS sty hp (d + 3) (.msl kb 0 bs.length 14), AV.nowS sty hp (d + 3) (.msl kp 0 4 5)] = _
 rw [h1, baNowB bs hb]
 rfl
theorem copiedL4 (t : ByteArray) (bs : List Ba) (hbl : bs.length ≤ 1000000) (hbs : ∀ b ∈ bs, b.short) (hnb : 0 < bs.length) (p0 p1 p2 p3 : Pa) (h0 : p0.shortB) (ha0 : 0 < p0.cells.length) (hb0 : 0 < p0.dyns.length) (h1 : p1.shortB) (ha1 : 0 < p1.cells.length) (hb1 : 0 < p1.dyns.length) (h2 : p2.shortB) (ha2 : 0 < p2.cells.length) (hb2 : 0 < p2.dyns.length) (h3 : p3.shortB) (ha3 : 0 < p3.cells.length) (hb3 : 0 < p3.dyns.length) :
  Own Tryz.prog gl 16 [(Sc.mk t bs [p0, p1, p2, p3]).av] (.agg [.str t, .msl 1 0 bs.length 14, .msl 0 0 4 5]) [(0, [.str p0.name, .int .i64 p0.clef, .int .i64 p0.channel, .msl 2 0 p0.cells.length 1, .msl 3 0 p0.dyns.length 1, .str p1.name, .int .i64 p1.clef, .int .i64 p1.channel, .msl 4 0 p1.cells.length 1, .msl 5 0 p1.dyns.length 1, .str p2.name, .int .i64 p2.clef, .int .i64 p2.channel, .msl 6 0 p2.cells.length 1, .msl 7 0 p2.dyns.length 1, .str p3.name, .int .i64 p3.clef, .int .i64 p3.channel, .msl 8 0 p3.cells.length 1, .msl 9 0 p3.dyns.length 1]), (1, bs.flatMap Ba.cells), (2, p0.cells.flatMap ceC1), (3, p0.dyns.flatMap dyC), (4, p1.cells.flatMap ceC1), (5, p1.dyns.flatMap dyC), (6, p2.cells.flatMap ceC1), (7, p2.dyns.flatMap dyC), (8, p3.cells.flatMap ceC1), (9, p3.dyns.flatMap dyC)] 10 := by
 obtain ⟨nb, enb⟩ : ∃ a, bs.length = a + 1 := ⟨bs.length - 1, by omega⟩
 obtain ⟨a0, ea0⟩ : ∃ a, p0.cells.length = a + 1 := ⟨p0.cells.length - 1, by omega⟩
 obtain ⟨b0, eb0⟩ : ∃ a, p0.dyns.length = a + 1 := ⟨p0.dyns.length - 1, by omega⟩
 obtain ⟨a1, ea1⟩ : ∃ a, p1.cells.length = a + 1 := ⟨p1.cells.length - 1, by omega⟩
 obtain ⟨b1, eb1⟩ : ∃ a, p1.dyns.length = a + 1 := ⟨p1.dyns.length - 1, by omega⟩
 obtain ⟨a2, ea2⟩ : ∃ a, p2.cells.length = a + 1 := ⟨p2.cells.length - 1, by omega⟩
 obtain ⟨b2, eb2⟩ : ∃ a, p2.dyns.length = a + 1 := ⟨p2.dyns.length - 1, by omega⟩
 obtain ⟨a3, ea3⟩ : ∃ a, p3.cells.length = a + 1 := ⟨p3.cells.length - 1, by omega⟩
 obtain ⟨b3, eb3⟩ : ∃ a, p3.dyns.length = a + 1 := ⟨p3.dyns.length - 1, by omega⟩
 have := copiedB4 t bs hbl hbs nb enb p0 p1 p2 p3 h0 a0 b0 ea0 eb0 h1 a1 b1 ea1 eb1 h2 a2 b2 ea2 eb2 h3 a3 b3 ea3 eb3
 rw [← enb] at this
 rw [← ea0, ← eb0] at this
 rw [← ea1, ← eb1] at this
 rw [← ea2, ← eb2] at this
 rw [← ea3, ← eb3] at this
 exact this
end Go.Proofs.Pv
