/- wakes of law 23, run in pieces. -/
import Derived.Test.YtngdilbfhpcfgaaGreatDoorYB
set_option linter.unusedSimpArgs false
set_option linter.unusedVariables false
namespace Go.Proofs.YtngdilbfhpcfgaaGreatDoor
set_option maxRecDepth 1000000
open Go Go.Proofs.Ev
theorem wk3 : endsAs .norm (ev cfg3 300000 (.code (lft (rgt (rgt (rgt b7)))) (stOf v2T v2H 1347 nt7))) v3T v3H 1891 nt7 = true := by kernel_rfl
theorem wk4 : endsAs .ret (ev cfg3 300000 (.code (rgt (rgt (rgt (rgt b7)))) (stOf v3T v3H 1891 nt7))) [(0, .b true)] [] 2014 nt7 = true := by kernel_rfl
end Go.Proofs.YtngdilbfhpcfgaaGreatDoor
