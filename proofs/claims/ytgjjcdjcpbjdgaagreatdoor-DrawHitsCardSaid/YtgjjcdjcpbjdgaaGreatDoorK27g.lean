/-
  Chapter 27's law: closed runs: eBeam.
  Conditions: the program's variables hold what its text lays into them.
-/
import Derived.Test.YtgjjcdjcpbjdgaaGreatDoorK27b
import Derived.Test.YtgjjcdjcpbjdgaaGreatDoorK27c
namespace Go.Proofs.Pv
set_option linter.unusedVariables false
set_option linter.unusedSimpArgs false
open Go Go.Proofs
set_option maxRecDepth 100000
theorem eBeam_ok : PC Tryz.prog gl eBeam.1 eBeam.2.1 (fun v => v = eBeam.2.2) := PC.of_runB (cf := cf) (tab := [eStarts, eCmp11, eCmp10, eCmp9, eCmp8, eCmp7, eCmp6, eCmp5, eCmp4, eCmp3, eCmp2, eCmp1, eCmp0]) ((tab_cons eStarts_ok (tab_cons eCmp11_ok (tab_cons eCmp10_ok (tab_cons eCmp9_ok (tab_cons eCmp8_ok (tab_cons eCmp7_ok (tab_cons eCmp6_ok (tab_cons eCmp5_ok (tab_cons eCmp4_ok (tab_cons eCmp3_ok (tab_cons eCmp2_ok (tab_cons eCmp1_ok (tab_cons eCmp0_ok tab_nil)))))))))))))) mix names (n := 1000) (by kernel_rfl)
end Go.Proofs.Pv
