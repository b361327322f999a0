/-
  Chapter 27's law: closed runs: ePlan, eDraw99, eHit1, eHit2.
  Conditions: the program's variables hold what its text lays into them.
-/
import Derived.Test.YtgjjcdjcpbjdgaaGreatDoorK27a
import Derived.Test.YtgjjcdjcpbjdgaaGreatDoorK27c
import Derived.Test.YtgjjcdjcpbjdgaaGreatDoorK27d
import Derived.Test.YtgjjcdjcpbjdgaaGreatDoorK27e
namespace Go.Proofs.Pv
set_option linter.unusedVariables false
set_option linter.unusedSimpArgs false
open Go Go.Proofs
set_option maxRecDepth 100000
theorem ePlan_ok : PC Tryz.prog gl ePlan.1 ePlan.2.1 (fun v => v = ePlan.2.2) := PC.of_runB (cf := cf) (tab := [eCols, eWid, eSys]) ((tab_cons eCols_ok (tab_cons eWid_ok (tab_cons eSys_ok tab_nil)))) mix names (n := 1000) (by kernel_rfl)
theorem eDraw99_ok : PC Tryz.prog gl eDraw99.1 eDraw99.2.1 (fun v => v = eDraw99.2.2) := PC.of_runB (cf := cf) (tab := [eCheck]) ((tab_cons eCheck_ok tab_nil)) mix names (n := 1000) (by kernel_rfl)
theorem eHit1_ok : PC Tryz.prog gl eHit1.1 eHit1.2.1 (fun v => v = eHit1.2.2) := PC.of_runB (cf := cf) (tab := []) (tab_nil) mix names (n := 1000) (by kernel_rfl)
theorem eHit2_ok : PC Tryz.prog gl eHit2.1 eHit2.2.1 (fun v => v = eHit2.2.2) := PC.of_runB (cf := cf) (tab := []) (tab_nil) mix names (n := 1000) (by kernel_rfl)
end Go.Proofs.Pv
