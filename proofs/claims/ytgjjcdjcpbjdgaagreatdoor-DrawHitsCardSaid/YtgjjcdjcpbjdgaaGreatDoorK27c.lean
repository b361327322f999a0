/-
  Chapter 27's law: closed runs: eStarts, eSys, eStem.
  Conditions: the program's variables hold what its text lays into them.
-/
import Derived.Test.YtgjjcdjcpbjdgaaGreatDoorK27base
namespace Go.Proofs.Pv
set_option linter.unusedVariables false
set_option linter.unusedSimpArgs false
open Go Go.Proofs
set_option maxRecDepth 100000
theorem eStarts_ok : PC Tryz.prog gl eStarts.1 eStarts.2.1 (fun v => v = eStarts.2.2) := PC.of_runB (cf := cf) (tab := []) (tab_nil) mix names (n := 1000) (by kernel_rfl)
theorem eSys_ok : PC Tryz.prog gl eSys.1 eSys.2.1 (fun v => v = eSys.2.2) := PC.of_runB (cf := cf) (tab := []) (tab_nil) mix names (n := 1000) (by kernel_rfl)
theorem eStem_ok : PC Tryz.prog gl eStem.1 eStem.2.1 (fun v => v = eStem.2.2) := PC.of_runB (cf := cf) (tab := []) (tab_nil) mix names (n := 1000) (by kernel_rfl)
end Go.Proofs.Pv
