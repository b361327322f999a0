/-
  Ground of the open proofs over scores and edits: what the program's variables hold, and that the program follows mixed orders.
  Conditions: none.
-/
import Derived.Test.YtlcnbhiklpfpjaaGreatDoorPvQ
import GoSem.PinnedTables
import Derived.Test.YtlcnbhiklpfpjaaGreatDoorProg
set_option linter.unusedVariables false
set_option linter.unusedSimpArgs false
set_option maxRecDepth 100000
set_option maxHeartbeats 16000000
namespace Go.Proofs.Pv
open Go Go.Proofs
def gi (n:Int):AV:= .int .i64 n
def gu (n:Int):AV:= .int .u8 n
def Lt:List AV:=Go.Pinned.utf8FirstZ.map fun(n:Nat)=>gu (n:Int)
def gl:Nat->Option (List AV)
 |0=>some Lt
 |3=>some [gi 1,gi 1,gi 3,gi 2,gi 7,gi 4]
 |1=>some ([gu 128,gu 191,gu 160,gu 191,gu 128,gu 159,gu 144,gu 191,gu 128,gu 143]++List.replicate 22 (gu 0))
 |2=>some [gi 0,gi 2,gi 4,gi 5,gi 7,gi 9,gi 11]
 |n=>if Nat.beq n 1000022||Nat.beq n 1000023||Nat.beq n 1000026||Nat.beq n 1000042||Nat.beq n 1000045||Nat.beq n 1000046||Nat.beq n 1000055||Nat.beq n 1000056||Nat.beq n 1000087 then some [] else none
theorem mix:Tryz.prog.follows .mixedOrders=true:=by kernel_rfl
theorem names: ∀(f:Nat) (fn:Func),Tryz.prog.funcs[f]?=some fn->fn.name≠ "runtime.NumGoroutine" :=aKx (by kernel_rfl)
end Go.Proofs.Pv
