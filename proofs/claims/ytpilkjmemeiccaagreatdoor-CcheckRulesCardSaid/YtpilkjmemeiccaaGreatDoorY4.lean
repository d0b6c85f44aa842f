/- Rounds. -/
import Derived.Test.YtpilkjmemeiccaaGreatDoorYB
set_option linter.unusedSimpArgs false
set_option linter.unusedVariables false
namespace Go.Proofs.YtpilkjmemeiccaaGreatDoor
set_option maxRecDepth 1000000
open Go Go.Proofs.Ev
theorem roundA4 : endsAs .norm (ev cfg2 200000 (.code bodyA (atA 4 8002))) (tmA 5) hA 10002 nt4 = true := by kernel_rfl
theorem roundB1 : endsAs .norm (ev cfg2 200000 (.code bodyB (atB 1 32000))) (tmB 2) hB 34000 nt4 = true := by kernel_rfl
theorem roundB9 : endsAs .norm (ev cfg2 200000 (.code bodyB (atB 9 48000))) (tmB 10) hB 50000 nt4 = true := by kernel_rfl
theorem roundB17 : endsAs .norm (ev cfg2 200000 (.code bodyB (atB 17 64000))) (tmB 18) hB 66000 nt4 = true := by kernel_rfl
end Go.Proofs.YtpilkjmemeiccaaGreatDoor
