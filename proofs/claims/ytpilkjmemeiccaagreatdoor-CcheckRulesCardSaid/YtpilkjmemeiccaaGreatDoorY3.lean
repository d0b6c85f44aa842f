/- Rounds. -/
import Derived.Test.YtpilkjmemeiccaaGreatDoorYB
set_option linter.unusedSimpArgs false
set_option linter.unusedVariables false
namespace Go.Proofs.YtpilkjmemeiccaaGreatDoor
set_option maxRecDepth 1000000
open Go Go.Proofs.Ev
theorem roundA3 : endsAs .norm (ev cfg2 200000 (.code bodyA (atA 3 6002))) (tmA 4) hA 8002 nt4 = true := by kernel_rfl
theorem roundB0 : endsAs .norm (ev cfg2 200000 (.code bodyB (atB 0 30000))) (tmB 1) hB 32000 nt4 = true := by kernel_rfl
theorem roundB8 : endsAs .norm (ev cfg2 200000 (.code bodyB (atB 8 46000))) (tmB 9) hB 48000 nt4 = true := by kernel_rfl
theorem roundB16 : endsAs .norm (ev cfg2 200000 (.code bodyB (atB 16 62000))) (tmB 17) hB 64000 nt4 = true := by kernel_rfl
end Go.Proofs.YtpilkjmemeiccaaGreatDoor
