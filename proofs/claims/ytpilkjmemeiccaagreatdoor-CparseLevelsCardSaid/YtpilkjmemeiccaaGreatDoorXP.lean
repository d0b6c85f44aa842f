/- Rounds 7 to 10. -/
import Derived.Test.YtpilkjmemeiccaaGreatDoorXM
set_option linter.unusedSimpArgs false
set_option linter.unusedVariables false
namespace Go.Proofs.YtpilkjmemeiccaaGreatDoor
set_option maxRecDepth 1000000
open Go Go.Proofs.Ev
theorem round7 : endsAs .norm (ev cfg 200000 (.code body3 (atRound 7 3251))) [(1, .l 0 0 1 28), (2, .i .i64 (Nat.add (Nat.mul 2 8) off))] textsH 3661 nt3 = true := by kernel_rfl
theorem round8 : endsAs .norm (ev cfg 200000 (.code body3 (atRound 8 3661))) [(1, .l 0 0 1 28), (2, .i .i64 (Nat.add (Nat.mul 2 9) off))] textsH 4043 nt3 = true := by kernel_rfl
theorem round9 : endsAs .norm (ev cfg 200000 (.code body3 (atRound 9 4043))) [(1, .l 0 0 1 28), (2, .i .i64 (Nat.add (Nat.mul 2 10) off))] textsH 4369 nt3 = true := by kernel_rfl
theorem round10 : endsAs .norm (ev cfg 200000 (.code body3 (atRound 10 4369))) [(1, .l 0 0 1 28), (2, .i .i64 (Nat.add (Nat.mul 2 11) off))] textsH 4743 nt3 = true := by kernel_rfl
end Go.Proofs.YtpilkjmemeiccaaGreatDoor
