/- Rounds. -/
import Derived.Test.YtpilkjmemeiccaaGreatDoorYB
set_option linter.unusedSimpArgs false
set_option linter.unusedVariables false
namespace Go.Proofs.YtpilkjmemeiccaaGreatDoor
set_option maxRecDepth 1000000
open Go Go.Proofs.Ev
theorem roundA7 : endsAs .norm (ev cfg2 200000 (.code bodyA (atA 7 14002))) (tmA 8) hA 16002 nt4 = true := by kernel_rfl
theorem roundB4 : endsAs .norm (ev cfg2 200000 (.code bodyB (atB 4 38000))) (tmB 5) hB 40000 nt4 = true := by kernel_rfl
theorem roundB12 : endsAs .norm (ev cfg2 200000 (.code bodyB (atB 12 54000))) (tmB 13) hB 56000 nt4 = true := by kernel_rfl
end Go.Proofs.YtpilkjmemeiccaaGreatDoor
