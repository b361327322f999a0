/-
  Chapter 9's laws: the closed part, awake, by running; its edits of events by their contract.
  Conditions: the program's variables hold what its text lays into them.
-/
import Derived.Test.YtiikpmhjckdpgaaGreatDoorC09w
import Derived.Test.YtiikpmhjckdpgaaGreatDoorC10j
import Derived.Test.YtiikpmhjckdpgaaGreatDoorPvBF
namespace Go.Proofs.Pv
open Go Go.Proofs
set_option linter.unusedSimpArgs false
set_option linter.unusedVariables false
set_option maxRecDepth 100000
set_option maxHeartbeats 8000000
def evBackO (o : EOp) (j0 b0 v0 a n : Nat) (vo : Vo) : EOp := ⟨1, j0, b0, v0, a, o.events.length, (vo.l.drop a).take n, [], [], [], 0, 0, ⟨#[]⟩⟩
theorem apply_pc (s : Sc) (o : EOp) (hk : o.kind = 1) (hs : s.small) (hg : s.good) (hchk : s.checkR.2 = 0) (j0 b0 v0 a n : Nat) (hj : j0 < s.parts.length) (hbb : b0 < s.bars.length) (hb0 : b0 < (s.parts.getD j0 pa0).cells.length) (hv0 : v0 < ((s.parts.getD j0 pa0).cells.getD b0 []).length)
  (hp : o.part = (j0 : Nat)) (hq : o.bar = (b0 : Nat)) (hv : o.voice = (v0 : Nat)) (ha : o.at_ = (a : Nat)) (hn : o.count = (n : Nat))
  (vo : Vo) (hvo : ((s.parts.getD j0 pa0).cells.getD b0 []).getD v0 ⟨[]⟩ = vo) (han : a + n ≤ vo.l.length) (hll : vo.l.length ≤ 1000000) (hol : o.events.length ≤ 1000000) (hos : ∀ e ∈ o.events, e.short) (hsum : vo.l.length + o.events.length + 1 ≤ 1000000)
  (hal : a < vo.l.length) (m : Nat) (hm : Box (o.events.length = m + 1)) (hn1 : Box (n = o.events.length ∧ a + n = vo.l.length)) (hts : (putVo s j0 b0 v0 (repl vo.l a n o.events)).small) (htc : (putVo s j0 b0 v0 (repl vo.l a n o.events)).checkR.2 = 0) :
  PC Tryz.prog gl 7 [s.av, o.av] (fun v => v = .tup [(putVo s j0 b0 v0 (repl vo.l a n o.events)).av, (evBackO o j0 b0 v0 a n vo).av, .int .i64 0]) := by
 refine PC.of_ownT (sty := fun k => k == 2) (apply1_own s o hk hs hg hchk j0 b0 v0 a n hj hbb hb0 hv0 hp hq hv ha hn vo hvo han hll hol hos hsum hal m hm hn1 hts htc) 5 ?_
 have := scNow_put (sty := fun k => k == 2) (hp := hget (hC [(0, rowsAt (paC 1 s.parts j0) s.parts.length), (1, rowsAt (ceC 2 (s.parts.getD j0 pa0).cells b0) (s.parts.getD j0 pa0).cells.length), (2, rowsAt (voC 3 (((s.parts.getD j0 pa0).cells.getD b0 []).set v0 ⟨repl vo.l a n o.events⟩) v0) ((s.parts.getD j0 pa0).cells.getD b0 []).length), (3, (repl vo.l a n o.events).flatMap Ev.cells)])) (d := 0) (kp := 0) (qc := 1) (qv := 2) (qe := 3) (q := 0) (l := repl vo.l a n o.events) hj hb0 hv0 rfl rfl rfl rfl (by rw [putV_rows hv0]; rfl) rfl
 simp only [List.map_cons, List.map_nil]
 rw [this]
 rfl
def evN : Ev := ⟨1, [⟨0, 0, 4⟩], [false], ⟨2, 0, 0, 0⟩, [], ⟨#[]⟩⟩
def evR : Ev := ⟨0, [], [], ⟨2, 0, 0, 0⟩, [], ⟨#[]⟩⟩
def bar1 : Ba := ⟨⟨1, 4, []⟩, ⟨0, false⟩, ⟨false, 0, [], false, false, false, false, 0⟩, []⟩
def oneS (t : ByteArray) (e : Ev) : Sc := ⟨t, [bar1], [⟨⟨#[]⟩, 0, 0, [[⟨[e]⟩]], [[]]⟩]⟩
def opE (e : Ev) : EOp := ⟨1, 0, 0, 0, 0, 1, [e], [], [], [], 0, 0, ⟨#[]⟩⟩
theorem oneS_typed (t : ByteArray) (e : Ev) : (oneS t e).typed := by
 refine ⟨fun b hb => ?_, fun p hp d hd x hx => ?_⟩
 ·simp only [oneS, List.mem_singleton] at hb
  subst hb
  exact ⟨by unfold I64; decide, by unfold I64; decide, fun t ht => by simp [bar1] at ht⟩
 ·simp only [oneS, List.mem_singleton] at hp
  subst hp
  simp only [List.mem_singleton] at hd
  subst hd
  cases hx
theorem one_apply (t : ByteArray) (e f : Ev) (h1 : (oneS t e).fewB = true) (h2 : (oneS t f).fewB = true) (c1 : (oneS t e).checkR.2 = 0) (c2 : (oneS t f).checkR.2 = 0) (hf : f.short) :
  PC Tryz.prog gl 7 [(oneS t e).av, (opE f).av] (fun v => v = .tup [(oneS t f).av, (opE e).av, .int .i64 0]) := by
 have f1 := few_small (oneS_typed t e) h1
 have f2 := few_small (oneS_typed t f) h2
 have r1 := right_of c1
 exact apply_pc (oneS t e) (opE f) rfl f1.small (good_of r1 f1.small f1.ends) c1 0 0 0 0 1 (show 0 < 1 by decide) (show 0 < 1 by decide) (show 0 < 1 by decide) (show 0 < 1 by decide) rfl rfl rfl rfl rfl ⟨[e]⟩ rfl (show 0 + 1 ≤ 1 by decide) (show 1 ≤ 1000000 by decide) (show 1 ≤ 1000000 by decide) (fun x hx => by simp only [opE, List.mem_singleton] at hx; subst hx; exact hf) (show 1 + 1 + 1 ≤ 1000000 by decide) (show 0 < 1 by decide) 0 ⟨rfl⟩ ⟨rfl, rfl⟩ f2.small c2
theorem one_copied (t : ByteArray) (e : Ev) (h1 : (oneS t e).fewB = true) (c1 : (oneS t e).checkR.2 = 0) : PC Tryz.prog gl 16 [(oneS t e).av] (fun v => v = (oneS t e).av) := by
 have f1 := few_small (oneS_typed t e) h1
 exact copied_ok _ (good_of (right_of c1) f1.small f1.ends)
def txtA : ByteArray := ⟨#[97]⟩
def txt0 : ByteArray := ⟨#[]⟩
theorem fewN0 : (oneS txt0 evN).fewB = true := by kernel_rfl
theorem fewR0 : (oneS txt0 evR).fewB = true := by kernel_rfl
theorem fewNA : (oneS txtA evN).fewB = true := by kernel_rfl
theorem fewRA : (oneS txtA evR).fewB = true := by kernel_rfl
theorem chkN0 : (oneS txt0 evN).checkR.2 = 0 := by kernel_rfl
theorem chkR0 : (oneS txt0 evR).checkR.2 = 0 := by kernel_rfl
theorem chkNA : (oneS txtA evN).checkR.2 = 0 := by kernel_rfl
theorem chkRA : (oneS txtA evR).checkR.2 = 0 := by kernel_rfl
theorem shortN : evN.short := ⟨by decide, by decide, by decide⟩
theorem shortR : evR.short := ⟨by decide, by decide, by decide⟩
def oTit : EOp := ⟨9, 0, 0, 0, 0, 0, [], [], [], [], 0, 0, txtA⟩
def oTitB : EOp := ⟨9, 0, 0, 0, 0, 0, [], [], [], [], 0, 0, txt0⟩
def oZero : EOp := ⟨0, 0, 0, 0, 0, 0, [], [], [], [], 0, 0, txt0⟩
theorem one_check (t : ByteArray) (e : Ev) (h1 : (oneS t e).fewB = true) (c1 : (oneS t e).checkR = ((0, 0, 0, 0), 0)) : PC Tryz.prog gl 15 [(oneS t e).av] (fun v => v = .tup [plcAV (0, 0, 0, 0), .int .i64 0]) := by
 have := check_ok (oneS t e) (few_small (oneS_typed t e) h1).small
 rwa [c1] at this
theorem ckN0 : (oneS txt0 evN).checkR = ((0, 0, 0, 0), 0) := by kernel_rfl
theorem ckNA : (oneS txtA evN).checkR = ((0, 0, 0, 0), 0) := by kernel_rfl
def eAp1 : FuncId × List AV × AV := (7, [(oneS txt0 evN).av, (opE evR).av], .tup [(oneS txt0 evR).av, (opE evN).av, .int .i64 0])
def eAp2 : FuncId × List AV × AV := (7, [(oneS txt0 evR).av, (opE evN).av], .tup [(oneS txt0 evN).av, (opE evR).av, .int .i64 0])
def eAp3 : FuncId × List AV × AV := (7, [(oneS txtA evN).av, (opE evR).av], .tup [(oneS txtA evR).av, (opE evN).av, .int .i64 0])
def eCo1 : FuncId × List AV × AV := (16, [(oneS txt0 evN).av], (oneS txt0 evN).av)
def eCk1 : FuncId × List AV × AV := (15, [(oneS txt0 evN).av], .tup [plcAV (0, 0, 0, 0), .int .i64 0])
def eCk3 : FuncId × List AV × AV := (15, [(oneS txtA evN).av], .tup [plcAV (0, 0, 0, 0), .int .i64 0])
def eSa1 : FuncId × List AV × AV := (10, [(oneS txt0 evN).av, (oneS txt0 evN).av], .bool true)
def eSa2 : FuncId × List AV × AV := (10, [(oneS txt0 evR).av, (oneS txt0 evN).av], .bool false)
def eOne : FuncId × List AV × AV := (8, [], (oneS txt0 evN).av)
def eTit : FuncId × List AV × AV := (7, [(oneS txt0 evN).av, oTit.av], .tup [(oneS txtA evN).av, oTitB.av, .int .i64 0])
def eZero : FuncId × List AV × AV := (7, [(oneS txt0 evN).av, oZero.av], errR 90)
def eRun : FuncId × List AV × AV := (9, [(oneS txt0 evN).av, .sl 13 [oTit.av, (opE evR).av] .none], .tup [(oneS txtA evR).av, .sl 13 [(opE evN).av, oTitB.av] .none, .int .i64 2, .int .i64 0])
def cf9 : Cfg := { cps := fun _ => false, fz := fun f => Nat.beq f 9 }
theorem ap1_ok : PC Tryz.prog gl eAp1.1 eAp1.2.1 (fun v => v = eAp1.2.2) := one_apply _ _ _ fewN0 fewR0 chkN0 chkR0 shortR
theorem ap2_ok : PC Tryz.prog gl eAp2.1 eAp2.2.1 (fun v => v = eAp2.2.2) := one_apply _ _ _ fewR0 fewN0 chkR0 chkN0 shortN
theorem ap3_ok : PC Tryz.prog gl eAp3.1 eAp3.2.1 (fun v => v = eAp3.2.2) := one_apply _ _ _ fewNA fewRA chkNA chkRA shortR
theorem co1_ok : PC Tryz.prog gl eCo1.1 eCo1.2.1 (fun v => v = eCo1.2.2) := one_copied _ _ fewN0 chkN0
theorem ck1_ok : PC Tryz.prog gl eCk1.1 eCk1.2.1 (fun v => v = eCk1.2.2) := one_check _ _ fewN0 ckN0
theorem ck3_ok : PC Tryz.prog gl eCk3.1 eCk3.2.1 (fun v => v = eCk3.2.2) := one_check _ _ fewNA ckNA
theorem sa1_ok : PC Tryz.prog gl eSa1.1 eSa1.2.1 (fun v => v = eSa1.2.2) := PC.of_runB (cf := cf9) (tab := []) tab_nil mix names (n := 1000) (by kernel_rfl)
theorem one9_ok : PC Tryz.prog gl eOne.1 eOne.2.1 (fun v => v = eOne.2.2) := PC.of_runB (cf := cf9) (tab := []) tab_nil mix names (n := 1000) (by kernel_rfl)
theorem sa2_ok : PC Tryz.prog gl eSa2.1 eSa2.2.1 (fun v => v = eSa2.2.2) := PC.of_runB (cf := cf9) (tab := []) tab_nil mix names (n := 1000) (by kernel_rfl)
theorem tit_ok : PC Tryz.prog gl eTit.1 eTit.2.1 (fun v => v = eTit.2.2) := PC.of_runB (cf := cf9) (tab := [eCo1, eCk1, eCk3]) (tab_cons co1_ok (tab_cons ck1_ok (tab_cons ck3_ok tab_nil))) mix names (n := 1000) (by kernel_rfl)
theorem zero_ok : PC Tryz.prog gl eZero.1 eZero.2.1 (fun v => v = eZero.2.2) := PC.of_runB (cf := cf9) (tab := [eCo1, eCk1]) (tab_cons co1_ok (tab_cons ck1_ok tab_nil)) mix names (n := 1000) (by kernel_rfl)
theorem run9_ok : PC Tryz.prog gl eRun.1 eRun.2.1 (fun v => v = eRun.2.2) := PC.of_runB (cf := cf9) (tab := [eCo1, eCk1, eTit, eAp3]) (tab_cons co1_ok (tab_cons ck1_ok (tab_cons tit_ok (tab_cons ap3_ok tab_nil)))) mix names (n := 1000) (by kernel_rfl)
theorem awake9_ok : PC Tryz.prog gl 4 [] (fun v => v = .bool true) := PC.of_runB (cf := cf9) (tab := [eOne, eAp1, eAp2, eZero, eRun, eSa1, eSa2]) (tab_cons one9_ok (tab_cons ap1_ok (tab_cons ap2_ok (tab_cons zero_ok (tab_cons run9_ok (tab_cons sa1_ok (tab_cons sa2_ok tab_nil))))))) mix names (n := 1000) (by kernel_rfl)
end Go.Proofs.Pv
