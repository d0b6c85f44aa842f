/- Rounds 0 to 3. -/
import Derived.Test.YtpilkjmemeiccaaGreatDoorXM
set_option linter.unusedSimpArgs false
set_option linter.unusedVariables false
namespace Go.Proofs.YtpilkjmemeiccaaGreatDoor
set_option maxRecDepth 1000000
open Go Go.Proofs.Ev
theorem round0 : endsAs .norm (ev cfg 200000 (.code body3 (atRound 0 1))) [(1, .l 0 0 1 28), (2, .i .i64 (Nat.add (Nat.mul 2 1) off))] textsH 385 nt3 = true := by kernel_rfl
theorem round1 : endsAs .norm (ev cfg 200000 (.code body3 (atRound 1 385))) [(1, .l 0 0 1 28), (2, .i .i64 (Nat.add (Nat.mul 2 2) off))] textsH 775 nt3 = true := by kernel_rfl
theorem round2 : endsAs .norm (ev cfg 200000 (.code body3 (atRound 2 775))) [(1, .l 0 0 1 28), (2, .i .i64 (Nat.add (Nat.mul 2 3) off))] textsH 1111 nt3 = true := by kernel_rfl
theorem round3 : endsAs .norm (ev cfg 200000 (.code body3 (atRound 3 1111))) [(1, .l 0 0 1 28), (2, .i .i64 (Nat.add (Nat.mul 2 4) off))] textsH 1643 nt3 = true := by kernel_rfl
end Go.Proofs.YtpilkjmemeiccaaGreatDoor
