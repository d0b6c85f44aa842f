/- Rounds. -/
import Derived.Test.YtpilkjmemeiccaaGreatDoorYB
set_option linter.unusedSimpArgs false
set_option linter.unusedVariables false
namespace Go.Proofs.YtpilkjmemeiccaaGreatDoor
set_option maxRecDepth 1000000
open Go Go.Proofs.Ev
theorem roundA1 : endsAs .norm (ev cfg2 200000 (.code bodyA (atA 1 2002))) (tmA 2) hA 4002 nt4 = true := by kernel_rfl
theorem roundA9 : endsAs .norm (ev cfg2 200000 (.code bodyA (atA 9 18002))) (tmA 10) hA 20002 nt4 = true := by kernel_rfl
theorem roundB6 : endsAs .norm (ev cfg2 200000 (.code bodyB (atB 6 42000))) (tmB 7) hB 44000 nt4 = true := by kernel_rfl
theorem roundB14 : endsAs .norm (ev cfg2 200000 (.code bodyB (atB 14 58000))) (tmB 15) hB 60000 nt4 = true := by kernel_rfl
end Go.Proofs.YtpilkjmemeiccaaGreatDoor
