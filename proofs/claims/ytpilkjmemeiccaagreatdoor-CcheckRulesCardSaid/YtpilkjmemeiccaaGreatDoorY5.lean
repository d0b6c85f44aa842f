/- Rounds. -/
import Derived.Test.YtpilkjmemeiccaaGreatDoorYB
set_option linter.unusedSimpArgs false
set_option linter.unusedVariables false
namespace Go.Proofs.YtpilkjmemeiccaaGreatDoor
set_option maxRecDepth 1000000
open Go Go.Proofs.Ev
theorem roundA5 : endsAs .norm (ev cfg2 200000 (.code bodyA (atA 5 10002))) (tmA 6) hA 12002 nt4 = true := by kernel_rfl
theorem roundB2 : endsAs .norm (ev cfg2 200000 (.code bodyB (atB 2 34000))) (tmB 3) hB 36000 nt4 = true := by kernel_rfl
theorem roundB10 : endsAs .norm (ev cfg2 200000 (.code bodyB (atB 10 50000))) (tmB 11) hB 52000 nt4 = true := by kernel_rfl
end Go.Proofs.YtpilkjmemeiccaaGreatDoor
