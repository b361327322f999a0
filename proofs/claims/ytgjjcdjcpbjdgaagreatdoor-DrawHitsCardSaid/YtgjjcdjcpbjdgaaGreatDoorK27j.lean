/-
  Chapter 27's law: closed runs: eAwake.
  Conditions: the program's variables hold what its text lays into them.
-/
import Derived.Test.YtgjjcdjcpbjdgaaGreatDoorK27a
import Derived.Test.YtgjjcdjcpbjdgaaGreatDoorK27h
import Derived.Test.YtgjjcdjcpbjdgaaGreatDoorK27i
namespace Go.Proofs.Pv
set_option linter.unusedVariables false
set_option linter.unusedSimpArgs false
open Go Go.Proofs
set_option maxRecDepth 100000
theorem eAwake_ok : PC Tryz.prog gl eAwake.1 eAwake.2.1 (fun v => v = eAwake.2.2) := PC.of_runB (cf := cf) (tab := [eFour, eDraw, eDraw99, eHit1, eHit2]) ((tab_cons eFour_ok (tab_cons eDraw_ok (tab_cons eDraw99_ok (tab_cons eHit1_ok (tab_cons eHit2_ok tab_nil)))))) mix names (n := 1000) (by kernel_rfl)
end Go.Proofs.Pv
