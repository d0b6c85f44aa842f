/- Rounds. -/
import Derived.Test.YtpilkjmemeiccaaGreatDoorYB
set_option linter.unusedSimpArgs false
set_option linter.unusedVariables false
namespace Go.Proofs.YtpilkjmemeiccaaGreatDoor
set_option maxRecDepth 1000000
open Go Go.Proofs.Ev
theorem roundA6 : endsAs .norm (ev cfg2 200000 (.code bodyA (atA 6 12002))) (tmA 7) hA 14002 nt4 = true := by kernel_rfl
theorem roundB3 : endsAs .norm (ev cfg2 200000 (.code bodyB (atB 3 36000))) (tmB 4) hB 38000 nt4 = true := by kernel_rfl
theorem roundB11 : endsAs .norm (ev cfg2 200000 (.code bodyB (atB 11 52000))) (tmB 12) hB 54000 nt4 = true := by kernel_rfl
end Go.Proofs.YtpilkjmemeiccaaGreatDoor
