/- Rounds. -/
import Derived.Test.YtngdilbfhpcfgaaGreatDoorYB
set_option linter.unusedSimpArgs false
set_option linter.unusedVariables false
namespace Go.Proofs.YtngdilbfhpcfgaaGreatDoor
set_option maxRecDepth 1000000
open Go Go.Proofs.Ev
theorem roundA0 : endsAs .norm (ev cfg3 200000 (.code bodyA (atA 0 10))) (tmA 1) hA 2010 nt3 = true := by kernel_rfl
theorem roundA1 : endsAs .norm (ev cfg3 200000 (.code bodyA (atA 1 2010))) (tmA 2) hA 4010 nt3 = true := by kernel_rfl
theorem roundA2 : endsAs .norm (ev cfg3 200000 (.code bodyA (atA 2 4010))) (tmA 3) hA 6010 nt3 = true := by kernel_rfl
end Go.Proofs.YtngdilbfhpcfgaaGreatDoor
