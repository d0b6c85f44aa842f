/- Rounds. -/
import Derived.Test.YtngdilbfhpcfgaaGreatDoorYB
set_option linter.unusedSimpArgs false
set_option linter.unusedVariables false
namespace Go.Proofs.YtngdilbfhpcfgaaGreatDoor
set_option maxRecDepth 1000000
open Go Go.Proofs.Ev
theorem roundA6 : endsAs .norm (ev cfg3 200000 (.code bodyA (atA 6 12010))) (tmA 7) hA 14010 nt3 = true := by kernel_rfl
theorem roundA7 : endsAs .norm (ev cfg3 200000 (.code bodyA (atA 7 14010))) (tmA 8) hA 16010 nt3 = true := by kernel_rfl
theorem roundA8 : endsAs .norm (ev cfg3 200000 (.code bodyA (atA 8 16010))) (tmA 9) hA 18010 nt3 = true := by kernel_rfl
theorem roundA9 : endsAs .norm (ev cfg3 200000 (.code bodyA (atA 9 18010))) (tmA 10) hA 20010 nt3 = true := by kernel_rfl
end Go.Proofs.YtngdilbfhpcfgaaGreatDoor
