/- Rounds. -/
import Derived.Test.YtngdilbfhpcfgaaGreatDoorYB
set_option linter.unusedSimpArgs false
set_option linter.unusedVariables false
namespace Go.Proofs.YtngdilbfhpcfgaaGreatDoor
set_option maxRecDepth 1000000
open Go Go.Proofs.Ev
theorem roundA3 : endsAs .norm (ev cfg3 200000 (.code bodyA (atA 3 6010))) (tmA 4) hA 8010 nt3 = true := by kernel_rfl
theorem roundA4 : endsAs .norm (ev cfg3 200000 (.code bodyA (atA 4 8010))) (tmA 5) hA 10010 nt3 = true := by kernel_rfl
theorem roundA5 : endsAs .norm (ev cfg3 200000 (.code bodyA (atA 5 10010))) (tmA 6) hA 12010 nt3 = true := by kernel_rfl
end Go.Proofs.YtngdilbfhpcfgaaGreatDoor
