/-
  Chapter 9's laws: from a law's contract on the abstract machine to the given statement, its row and its card.
  Conditions: the variables hold what the program's text lays.
-/
import Derived.Test.YtoaofjhadfihjaaGreatDoorPvV
import Derived.Test.YtoaofjhadfihjaaGreatDoorK08
import Derived.Test.YtoaofjhadfihjaaGreatDoorRows
import Derived.Test.YtoaofjhadfihjaaGreatDoorTie
import Derived.Test.YtoaofjhadfihjaaGreatDoorCards
import Derived.WalkKit
import Derived.ProofKit
import Derived.OpenShut
import Derived.ChangeOld
import Derived.Below
import Derived.Lay
import Derived.LaidOnce
import Derived.MakeChecks
import Derived.SevenTiedAt
set_option linter.unusedVariables false
set_option linter.unusedSimpArgs false
set_option maxRecDepth 100000
set_option maxHeartbeats 16000000
namespace Go.Proofs.Pv
open Go Go.Proofs Go.ChangeShapes Go.WideShapes Go.ChangeAt Go.RowKit
open Go.Proofs.YtoaofjhadfihjaaGreatDoor
def laid:List (String×DataW Unit):=[("unicode/utf8.acceptRanges",Rows.laid_unicode_utf8_acceptRanges),("partita/pitch.halfTones",Rows.laid_partita_pitch_halfTones),("partita/value.dotted",Rows.laid_partita_value_dotted),("unicode/utf8.first",Rows.laid_unicode_utf8_first)]
theorem own:ownKnob Tryz.prog.godebug=Option.none:=by kernel_rfl
theorem laidOut:laidOutB Tryz.prog=true:=by kernel_rfl
theorem g1n:Tryz.prog.globalNamed "unicode/utf8.acceptRanges" =some 1:=by kernel_rfl
theorem g1t:(Tryz.prog.globals[1]?).map (·.type)=some 226:=by kernel_rfl
theorem g2n:Tryz.prog.globalNamed "partita/pitch.halfTones" =some 2:=by kernel_rfl
theorem g2t:(Tryz.prog.globals[2]?).map (·.type)=some 229:=by kernel_rfl
theorem g3n:Tryz.prog.globalNamed "partita/value.dotted" =some 3:=by kernel_rfl
theorem g3t:(Tryz.prog.globals[3]?).map (·.type)=some 237:=by kernel_rfl
theorem g0n:Tryz.prog.globalNamed "unicode/utf8.first" =some 0:=by kernel_rfl
theorem g0t:(Tryz.prog.globals[0]?).map (·.type)=some 223:=by kernel_rfl
theorem Wi {H:Type} {enc:TypeId×Value->H} {spare:Nat->Bool} {held:Bool} {W:World} {g t d fuel:Nat} {n:String} {cs:Array Value} {x:DataW H} {p:List MemPlace} {cells:List AV} (hg:Tryz.prog.globalNamed n=some g) (hv:W.var? Tryz.prog n=some cs)
  (h:DataW.trod enc Tryz.prog W 0 spare held fuel t cs.toList=some (x,p)) (hp:Bq Tryz.prog d t=true) (hc:sZ Tryz.prog d t x=cells):aQ (imm W) jZ noT (.vp cells) (.pointer (some ⟨g,0,Option.none⟩)):=by
 rw[<-hc]
 refine aRm (x:=(x,p)) hp h fun i v hi=>?_
 rw[World.var?_cell hg hv i]
 simpa using hi
theorem of_laid {W:World} (h:laidMetH Tryz.prog laid W): ∀g cells,gl g=some cells->aQ (imm W) jZ noT (.vp cells) (.pointer (some ⟨g,0,Option.none⟩)):=by
 rw[MakeChecks.laidMetH_plain _ _ _ (by kernel_rfl)] at h
 obtain⟨ps,⟨a1,t1,c1,f1,p1,q1,hg1,ht1,hv1,hd1,⟨a2,t2,c2,f2,p2,q2,hg2,ht2,hv2,hd2,⟨a3,t3,c3,f3,p3,q3,hg3,ht3,hv3,hd3,⟨a0,t0,c0,f0,p0,q0,hg0,ht0,hv0,hd0,_,_⟩,_⟩,_⟩,_⟩,_⟩:=h
 obtain rfl:=Option.some.inj (g1n.symm.trans hg1)
 obtain rfl:=Option.some.inj (g2n.symm.trans hg2)
 obtain rfl:=Option.some.inj (g3n.symm.trans hg3)
 obtain rfl:=Option.some.inj (g0n.symm.trans hg0)
 obtain rfl:=Option.some.inj (g1t.symm.trans ht1)
 obtain rfl:=Option.some.inj (g2t.symm.trans ht2)
 obtain rfl:=Option.some.inj (g3t.symm.trans ht3)
 obtain rfl:=Option.some.inj (g0t.symm.trans ht0)
 intro g cells hc
 match g,hc with
 |0,hc=>exact Wi (d:=4) g0n hv0 hd0 (by kernel_rfl) ((show sZ Tryz.prog 4 223 Rows.laid_unicode_utf8_first=_ by kernel_rfl).trans (Option.some.inj hc))
 |1,hc=>exact Wi (d:=4) g1n hv1 hd1 (by kernel_rfl) ((show sZ Tryz.prog 4 226 Rows.laid_unicode_utf8_acceptRanges=_ by kernel_rfl).trans (Option.some.inj hc))
 |2,hc=>exact Wi (d:=4) g2n hv2 hd2 (by kernel_rfl) ((show sZ Tryz.prog 4 229 Rows.laid_partita_pitch_halfTones=_ by kernel_rfl).trans (Option.some.inj hc))
 |3,hc=>exact Wi (d:=4) g3n hv3 hd3 (by kernel_rfl) ((show sZ Tryz.prog 4 237 Rows.laid_partita_value_dotted=_ by kernel_rfl).trans (Option.some.inj hc))
 | n+4,hc=>
  have hc':(if Nat.beq (n+4) 1000022||Nat.beq (n+4) 1000023||Nat.beq (n+4) 1000028||Nat.beq (n+4) 1000029||Nat.beq (n+4) 1000030||Nat.beq (n+4) 1000052||Nat.beq (n+4) 1000056||Nat.beq (n+4) 1000057||Nat.beq (n+4) 1000085 then some [] else Option.none)=some cells:=hc
  split at hc'
  ·cases hc'
   exact .vp (fun _=>undef) (fun q hq=>by simp at hq) (fun i hi=>by simp at hi)
  ·cases hc'
theorem aDc {P:Program} {w:World} {r:Reach} {base:Nat} {t:TypeId} {v:Value} {fs:Array Field} (ht:P.underlying t=some (.struct fs)) (h:Value.okWide P w r base t v): ∃cs,v= .agg cs:=by
 simp only[Value.okWide,ht] at h
 obtain⟨cs,h1,_⟩:=h
 exact⟨cs,h1⟩
theorem aFz {I:jY} {ds:List AV} {cs:Array Value} (h:bP (aQ I jZ noT) ds cs.toList):bP (aQ I jZ noT) [.agg ds] [.agg cs]:=by
 refine⟨rfl,fun i a v h1 h2=>?_⟩
 cases i with
 |zero=>
  simp at h1 h2
  subst h1;subst h2
  refine .agg (by have:=h.1;simp at this;exact this.symm) fun j g1 g2=>?_
  have:=h.get j g1 (by simpa using g2)
  simpa using this
 |succ i=>simp at h1
end Go.Proofs.Pv
