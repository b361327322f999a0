/-
  Chapter 27's law: closed runs: eDraw.
  Conditions: the program's variables hold what its text lays into them.
-/
import Derived.Test.YtgjjcdjcpbjdgaaGreatDoorK27a
import Derived.Test.YtgjjcdjcpbjdgaaGreatDoorK27c
import Derived.Test.YtgjjcdjcpbjdgaaGreatDoorK27d
import Derived.Test.YtgjjcdjcpbjdgaaGreatDoorK27g
import Derived.Test.YtgjjcdjcpbjdgaaGreatDoorK27h
namespace Go.Proofs.Pv
set_option linter.unusedVariables false
set_option linter.unusedSimpArgs false
open Go Go.Proofs
set_option maxRecDepth 100000
theorem eDraw_ok : PC Tryz.prog gl eDraw.1 eDraw.2.1 (fun v => v = eDraw.2.2) := PC.of_runB (cf := cf) (tab := [ePlan, eCheck, eStarts, eHeads, eSpr, eBeam, eStem]) ((tab_cons ePlan_ok (tab_cons eCheck_ok (tab_cons eStarts_ok (tab_cons eHeads_ok (tab_cons eSpr_ok (tab_cons eBeam_ok (tab_cons eStem_ok tab_nil)))))))) mix names (n := 1000) (by kernel_rfl)
end Go.Proofs.Pv
