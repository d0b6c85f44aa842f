/- Rounds. -/
import Derived.Test.YtpilkjmemeiccaaGreatDoorYB
set_option linter.unusedSimpArgs false
set_option linter.unusedVariables false
namespace Go.Proofs.YtpilkjmemeiccaaGreatDoor
set_option maxRecDepth 1000000
open Go Go.Proofs.Ev
theorem roundA2 : endsAs .norm (ev cfg2 200000 (.code bodyA (atA 2 4002))) (tmA 3) hA 6002 nt4 = true := by kernel_rfl
theorem roundA10 : endsAs .norm (ev cfg2 200000 (.code bodyA (atA 10 20002))) (tmA 11) hA 22002 nt4 = true := by kernel_rfl
theorem roundB7 : endsAs .norm (ev cfg2 200000 (.code bodyB (atB 7 44000))) (tmB 8) hB 46000 nt4 = true := by kernel_rfl
theorem roundB15 : endsAs .norm (ev cfg2 200000 (.code bodyB (atB 15 60000))) (tmB 16) hB 62000 nt4 = true := by kernel_rfl
end Go.Proofs.YtpilkjmemeiccaaGreatDoor
