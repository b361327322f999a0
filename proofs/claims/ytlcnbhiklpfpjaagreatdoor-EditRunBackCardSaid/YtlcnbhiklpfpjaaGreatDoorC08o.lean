/-
  Layer 8's check of a score: words: bytes taken as a number, signs that may not be.
-/
import Derived.Test.YtlcnbhiklpfpjaaGreatDoorC08a
set_option linter.unusedVariables false
set_option linter.unusedSimpArgs false
set_option maxRecDepth 100000
set_option maxHeartbeats 16000000
namespace Go.Proofs.Pv
open Go Go.Proofs
theorem aMb (r:Int):PC Tryz.prog gl 134 [.int .i32 r] (fun v=>v= .bool (decide (r<32)||decide (r=127))):=by
 (refine PC.introY 1 mix (fn:=Tryz.f134) Tryz.func134 rfl (names 134 _ Tryz.func134) fun F hF hro W=>?_;simp only[Tryz.ntmps134,Tryz.results134,aJ,Nat.reduceAdd,Nat.reduceSub])
 repeat' (first
  |simp -implicitDefEqProofs (disch:=first|assumption|omega) only[aA,aC,Nat.reduceAdd, *]
  |((with_reducible refine iH (fun _=>?_) (fun _=>?_))<;>try omega))
 rename_i h
 by_cases h2:r=127<;>simp [h2]
theorem byte_at {w:ByteArray} {k:Nat} (h:k<w.size): ∃b,w[k]?=some b:=⟨w[k],getElem?_pos w k h⟩
def bt (w:ByteArray) (k:Nat):UInt8:=(w[k]?).getD 0
def Iz (a b:Int):Int:=IntKind.u64.wrap ((BitVec.ofInt IntKind.u64.bits a|||BitVec.ofInt IntKind.u64.bits b).toNat:Nat)
def shU (b:UInt8) (k:Nat):Int:=IntKind.u64.wrap (IntKind.u64.wrap (b.toNat:Nat)*2 ^ min k IntKind.u64.bits)
def xK (w:ByteArray):Int:=Iz (Iz (Iz (Iz (Iz (Iz (Iz (IntKind.u64.wrap ((bt w 0).toNat:Nat)) (shU (bt w 1) 8)) (shU (bt w 2) 16)) (shU (bt w 3) 24)) (shU (bt w 4) 32)) (shU (bt w 5) 40)) (shU (bt w 6) 48)) (shU (bt w 7) 56)
theorem aBd (w:ByteArray) (h:8<=w.size):PC Tryz.prog gl 156 [.str w] (fun v=>v= .int .u64 (xK w)):=by
 (refine PC.introY 1 mix (fn:=Tryz.f156) Tryz.func156 rfl (names 156 _ Tryz.func156) fun F hF hro W=>?_;simp only[Tryz.ntmps156,Tryz.results156,aJ,Nat.reduceAdd,Nat.reduceSub])
 obtain⟨b0,h0⟩:=byte_at (show 0<w.size by omega)
 obtain⟨b1,h1⟩:=byte_at (show 1<w.size by omega)
 obtain⟨b2,h2⟩:=byte_at (show 2<w.size by omega)
 obtain⟨b3,h3⟩:=byte_at (show 3<w.size by omega)
 obtain⟨b4,h4⟩:=byte_at (show 4<w.size by omega)
 obtain⟨b5,h5⟩:=byte_at (show 5<w.size by omega)
 obtain⟨b6,h6⟩:=byte_at (show 6<w.size by omega)
 obtain⟨b7,h7⟩:=byte_at (show 7<w.size by omega)
 repeat' (first
  |simp -implicitDefEqProofs (disch:=first|assumption|omega) only[aA,aC,facts,Nat.reduceAdd,Int.reduceLT,Int.reduceLE,Int.reduceToNat, *]
  |((with_reducible refine fQ ?_);refine gZ _ rfl (by decide+kernel) ?_))
 simp only[xK,bt,h0,h1,h2,h3,h4,h5,h6,h7,Option.getD_some]
 rfl
end Go.Proofs.Pv
