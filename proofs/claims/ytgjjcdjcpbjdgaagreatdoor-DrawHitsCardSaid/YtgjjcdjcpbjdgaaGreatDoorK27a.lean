/-
  Chapter 27's law: closed runs: eFour, eCheck.
  Conditions: the program's variables hold what its text lays into them.
-/
import Derived.Test.YtgjjcdjcpbjdgaaGreatDoorK27base
namespace Go.Proofs.Pv
set_option linter.unusedVariables false
set_option linter.unusedSimpArgs false
open Go Go.Proofs
set_option maxRecDepth 100000
theorem eFour_ok : PC Tryz.prog gl eFour.1 eFour.2.1 (fun v => v = eFour.2.2) := PC.of_runB (cf := cf) (tab := []) (tab_nil) mix names (n := 1000) (by kernel_rfl)
theorem eCheck_ok : PC Tryz.prog gl eCheck.1 eCheck.2.1 (fun v => v = eCheck.2.2) := PC.of_runB (cf := cf) (tab := []) (tab_nil) mix names (n := 1000) (by kernel_rfl)
end Go.Proofs.Pv
