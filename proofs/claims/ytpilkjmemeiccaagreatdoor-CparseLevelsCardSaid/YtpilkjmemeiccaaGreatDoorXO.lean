/- Rounds 4 to 6. -/
import Derived.Test.YtpilkjmemeiccaaGreatDoorXM
set_option linter.unusedSimpArgs false
set_option linter.unusedVariables false
namespace Go.Proofs.YtpilkjmemeiccaaGreatDoor
set_option maxRecDepth 1000000
open Go Go.Proofs.Ev
theorem round4 : endsAs .norm (ev cfg 200000 (.code body3 (atRound 4 1643))) [(1, .l 0 0 1 28), (2, .i .i64 (Nat.add (Nat.mul 2 5) off))] textsH 2351 nt3 = true := by kernel_rfl
theorem round5 : endsAs .norm (ev cfg 200000 (.code body3 (atRound 5 2351))) [(1, .l 0 0 1 28), (2, .i .i64 (Nat.add (Nat.mul 2 6) off))] textsH 2757 nt3 = true := by kernel_rfl
theorem round6 : endsAs .norm (ev cfg 200000 (.code body3 (atRound 6 2757))) [(1, .l 0 0 1 28), (2, .i .i64 (Nat.add (Nat.mul 2 7) off))] textsH 3251 nt3 = true := by kernel_rfl
end Go.Proofs.YtpilkjmemeiccaaGreatDoor
