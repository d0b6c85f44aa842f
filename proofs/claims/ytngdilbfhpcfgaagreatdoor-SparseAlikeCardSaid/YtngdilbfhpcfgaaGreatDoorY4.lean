/- wakes of law 23, run in pieces. -/
import Derived.Test.YtngdilbfhpcfgaaGreatDoorYB
set_option linter.unusedSimpArgs false
set_option linter.unusedVariables false
namespace Go.Proofs.YtngdilbfhpcfgaaGreatDoor
set_option maxRecDepth 1000000
open Go Go.Proofs.Ev
theorem wk0 : endsAs .norm (ev cfg3 1000 (.code (lft b7) ⟨setArgs [], .e, 0, nt7, []⟩)) [] [] 0 nt7 = true := by kernel_rfl
theorem wk1 : endsAs .norm (ev cfg3 300000 (.code (lft (rgt b7)) (stOf [] [] 0 nt7))) v1T v1H 570 nt7 = true := by kernel_rfl
theorem wk2 : endsAs .norm (ev cfg3 300000 (.code (lft (rgt (rgt b7))) (stOf v1T v1H 570 nt7))) v2T v2H 1347 nt7 = true := by kernel_rfl
end Go.Proofs.YtngdilbfhpcfgaaGreatDoor
