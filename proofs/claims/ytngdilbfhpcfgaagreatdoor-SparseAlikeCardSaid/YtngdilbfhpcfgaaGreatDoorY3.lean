/- Rounds. -/
import Derived.Test.YtngdilbfhpcfgaaGreatDoorYB
set_option linter.unusedSimpArgs false
set_option linter.unusedVariables false
namespace Go.Proofs.YtngdilbfhpcfgaaGreatDoor
set_option maxRecDepth 1000000
open Go Go.Proofs.Ev
theorem roundB0 : endsAs .norm (ev cfg3 200000 (.code bodyB (atB 0 20020))) (tmB 1) hB 22020 nt3 = true := by kernel_rfl
theorem roundB1 : endsAs .norm (ev cfg3 200000 (.code bodyB (atB 1 22020))) (tmB 2) hB 24020 nt3 = true := by kernel_rfl
theorem roundB2 : endsAs .norm (ev cfg3 200000 (.code bodyB (atB 2 24020))) (tmB 3) hB 26020 nt3 = true := by kernel_rfl
theorem roundB3 : endsAs .norm (ev cfg3 200000 (.code bodyB (atB 3 26020))) (tmB 4) hB 28020 nt3 = true := by kernel_rfl
theorem roundB4 : endsAs .norm (ev cfg3 200000 (.code bodyB (atB 4 28020))) (tmB 5) hB 30020 nt3 = true := by kernel_rfl
theorem roundB5 : endsAs .norm (ev cfg3 200000 (.code bodyB (atB 5 30020))) (tmB 6) hB 32020 nt3 = true := by kernel_rfl
theorem roundB6 : endsAs .norm (ev cfg3 200000 (.code bodyB (atB 6 32020))) (tmB 7) hB 34020 nt3 = true := by kernel_rfl
theorem roundB7 : endsAs .norm (ev cfg3 200000 (.code bodyB (atB 7 34020))) (tmB 8) hB 36020 nt3 = true := by kernel_rfl
theorem roundB8 : endsAs .norm (ev cfg3 200000 (.code bodyB (atB 8 36020))) (tmB 9) hB 38020 nt3 = true := by kernel_rfl
theorem roundB9 : endsAs .norm (ev cfg3 200000 (.code bodyB (atB 9 38020))) (tmB 10) hB 40020 nt3 = true := by kernel_rfl
theorem roundB10 : endsAs .norm (ev cfg3 200000 (.code bodyB (atB 10 40020))) (tmB 11) hB 42020 nt3 = true := by kernel_rfl
theorem roundB11 : endsAs .norm (ev cfg3 200000 (.code bodyB (atB 11 42020))) (tmB 12) hB 44020 nt3 = true := by kernel_rfl
end Go.Proofs.YtngdilbfhpcfgaaGreatDoor
