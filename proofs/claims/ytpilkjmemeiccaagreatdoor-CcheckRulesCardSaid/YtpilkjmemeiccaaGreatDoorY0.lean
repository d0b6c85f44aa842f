/- Rounds. -/
import Derived.Test.YtpilkjmemeiccaaGreatDoorYB
set_option linter.unusedSimpArgs false
set_option linter.unusedVariables false
namespace Go.Proofs.YtpilkjmemeiccaaGreatDoor
set_option maxRecDepth 1000000
open Go Go.Proofs.Ev
theorem roundA0 : endsAs .norm (ev cfg2 200000 (.code bodyA (atA 0 2))) (tmA 1) hA 2002 nt4 = true := by kernel_rfl
theorem roundA8 : endsAs .norm (ev cfg2 200000 (.code bodyA (atA 8 16002))) (tmA 9) hA 18002 nt4 = true := by kernel_rfl
theorem roundB5 : endsAs .norm (ev cfg2 200000 (.code bodyB (atB 5 40000))) (tmB 6) hB 42000 nt4 = true := by kernel_rfl
theorem roundB13 : endsAs .norm (ev cfg2 200000 (.code bodyB (atB 13 56000))) (tmB 14) hB 58000 nt4 = true := by kernel_rfl
end Go.Proofs.YtpilkjmemeiccaaGreatDoor
