/- wakes, run in pieces. -/
import Derived.Test.YtpilkjmemeiccaaGreatDoorXM
set_option linter.unusedSimpArgs false
set_option linter.unusedVariables false
namespace Go.Proofs.YtpilkjmemeiccaaGreatDoor
set_option maxRecDepth 1000000
open Go Go.Proofs.Ev
theorem wake0 : endsAs .norm (ev cfg 1000 (.code (lft b7) ⟨setArgs [], .e, 0, nt7, []⟩)) [] [] 0 nt7 = true := by kernel_rfl
theorem wake1 : endsAs .norm (ev cfg 200000 (.code (lft (rgt b7)) (stOf [] [] 0 nt7))) q1T q1H 539 nt7 = true := by kernel_rfl
theorem wake2 : endsAs .norm (ev cfg 200000 (.code (lft (rgt (rgt b7))) (stOf q1T q1H 539 nt7))) q2T q2H 1296 nt7 = true := by kernel_rfl
theorem wake3 : endsAs .norm (ev cfg 200000 (.code (lft (rgt (rgt (rgt b7)))) (stOf q2T q2H 1296 nt7))) q3T q3H 1835 nt7 = true := by kernel_rfl
theorem wake4 : endsAs .ret (ev cfg 200000 (.code (rgt (rgt (rgt (rgt b7)))) (stOf q3T q3H 1835 nt7))) [(0, .b true)] [] 1985 nt7 = true := by kernel_rfl
end Go.Proofs.YtpilkjmemeiccaaGreatDoor
