/- wakes of law 21, run in pieces. -/
import Derived.Test.YtpilkjmemeiccaaGreatDoorYB
set_option linter.unusedSimpArgs false
set_option linter.unusedVariables false
namespace Go.Proofs.YtpilkjmemeiccaaGreatDoor
set_option maxRecDepth 1000000
open Go Go.Proofs.Ev
theorem awake0 : endsAs .norm (ev cfg2 1000 (.code (lft b9) ⟨setArgs [], .e, 0, nt9, []⟩)) [] [] 0 nt9 = true := by kernel_rfl
theorem awake1 : endsAs .norm (ev cfg2 200000 (.code (lft (rgt b9)) (stOf [] [] 0 nt9))) w1T w1H 760 nt9 = true := by kernel_rfl
theorem awake2 : endsAs .ret (ev cfg2 200000 (.code (rgt (rgt b9)) (stOf w1T w1H 760 nt9))) [(0, .b true)] [] 1265 nt9 = true := by kernel_rfl
end Go.Proofs.YtpilkjmemeiccaaGreatDoor
