/- Rounds 11 to 13. -/
import Derived.Test.YtpilkjmemeiccaaGreatDoorXM
set_option linter.unusedSimpArgs false
set_option linter.unusedVariables false
namespace Go.Proofs.YtpilkjmemeiccaaGreatDoor
set_option maxRecDepth 1000000
open Go Go.Proofs.Ev
theorem round11 : endsAs .norm (ev cfg 200000 (.code body3 (atRound 11 4743))) [(1, .l 0 0 1 28), (2, .i .i64 (Nat.add (Nat.mul 2 12) off))] textsH 5233 nt3 = true := by kernel_rfl
theorem round12 : endsAs .norm (ev cfg 200000 (.code body3 (atRound 12 5233))) [(1, .l 0 0 1 28), (2, .i .i64 (Nat.add (Nat.mul 2 13) off))] textsH 5873 nt3 = true := by kernel_rfl
theorem round13 : endsAs .norm (ev cfg 200000 (.code body3 (atRound 13 5873))) [(1, .l 0 0 1 28), (2, .i .i64 (Nat.add (Nat.mul 2 14) off))] textsH 6341 nt3 = true := by kernel_rfl
end Go.Proofs.YtpilkjmemeiccaaGreatDoor
