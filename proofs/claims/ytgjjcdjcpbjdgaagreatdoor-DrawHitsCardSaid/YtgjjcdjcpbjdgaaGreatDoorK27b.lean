/-
  Chapter 27's law: closed runs: eCmp0, eCmp1, eCmp2, eCmp3, eCmp4, eCmp5, eCmp6, eCmp7, eCmp8, eCmp9, eCmp10, eCmp11.
  Conditions: the program's variables hold what its text lays into them.
-/
import Derived.Test.YtgjjcdjcpbjdgaaGreatDoorK27base
namespace Go.Proofs.Pv
set_option linter.unusedVariables false
set_option linter.unusedSimpArgs false
open Go Go.Proofs
set_option maxRecDepth 100000
theorem eCmp0_ok : PC Tryz.prog gl eCmp0.1 eCmp0.2.1 (fun v => v = eCmp0.2.2) := PC.of_runB (cf := cf) (tab := []) (tab_nil) mix names (n := 1000) (by kernel_rfl)
theorem eCmp1_ok : PC Tryz.prog gl eCmp1.1 eCmp1.2.1 (fun v => v = eCmp1.2.2) := PC.of_runB (cf := cf) (tab := []) (tab_nil) mix names (n := 1000) (by kernel_rfl)
theorem eCmp2_ok : PC Tryz.prog gl eCmp2.1 eCmp2.2.1 (fun v => v = eCmp2.2.2) := PC.of_runB (cf := cf) (tab := []) (tab_nil) mix names (n := 1000) (by kernel_rfl)
theorem eCmp3_ok : PC Tryz.prog gl eCmp3.1 eCmp3.2.1 (fun v => v = eCmp3.2.2) := PC.of_runB (cf := cf) (tab := []) (tab_nil) mix names (n := 1000) (by kernel_rfl)
theorem eCmp4_ok : PC Tryz.prog gl eCmp4.1 eCmp4.2.1 (fun v => v = eCmp4.2.2) := PC.of_runB (cf := cf) (tab := []) (tab_nil) mix names (n := 1000) (by kernel_rfl)
theorem eCmp5_ok : PC Tryz.prog gl eCmp5.1 eCmp5.2.1 (fun v => v = eCmp5.2.2) := PC.of_runB (cf := cf) (tab := []) (tab_nil) mix names (n := 1000) (by kernel_rfl)
theorem eCmp6_ok : PC Tryz.prog gl eCmp6.1 eCmp6.2.1 (fun v => v = eCmp6.2.2) := PC.of_runB (cf := cf) (tab := []) (tab_nil) mix names (n := 1000) (by kernel_rfl)
theorem eCmp7_ok : PC Tryz.prog gl eCmp7.1 eCmp7.2.1 (fun v => v = eCmp7.2.2) := PC.of_runB (cf := cf) (tab := []) (tab_nil) mix names (n := 1000) (by kernel_rfl)
theorem eCmp8_ok : PC Tryz.prog gl eCmp8.1 eCmp8.2.1 (fun v => v = eCmp8.2.2) := PC.of_runB (cf := cf) (tab := []) (tab_nil) mix names (n := 1000) (by kernel_rfl)
theorem eCmp9_ok : PC Tryz.prog gl eCmp9.1 eCmp9.2.1 (fun v => v = eCmp9.2.2) := PC.of_runB (cf := cf) (tab := []) (tab_nil) mix names (n := 1000) (by kernel_rfl)
theorem eCmp10_ok : PC Tryz.prog gl eCmp10.1 eCmp10.2.1 (fun v => v = eCmp10.2.2) := PC.of_runB (cf := cf) (tab := []) (tab_nil) mix names (n := 1000) (by kernel_rfl)
theorem eCmp11_ok : PC Tryz.prog gl eCmp11.1 eCmp11.2.1 (fun v => v = eCmp11.2.2) := PC.of_runB (cf := cf) (tab := []) (tab_nil) mix names (n := 1000) (by kernel_rfl)
end Go.Proofs.Pv
