/- Closed facts of the closing, apart from it: the kernel wants its memory for each. -/
import Derived.Test.YtefhfadjajcmkaaGreatDoorRows
import Derived.Test.YtefhfadjajcmkaaGreatDoorChecked
import Derived.Shelf.Vars
import Derived.JoinedCond
import Derived.WalkKit
namespace Go.Proofs.YtefhfadjajcmkaaGreatDoor
open Go Go.RowKit
set_option maxRecDepth 100000
theorem mappingRound_place : (Rows.mappingRoundUptoRow.inPlace == Tryz.prog.inPlace 8) = true := by kernel_rfl
theorem mappingRound_follow : (Rows.mappingRoundUptoRow.unfollowed == Tryz.prog.unfollowed 8) = true := by kernel_rfl
theorem mappingRound_recur : (Rows.mappingRoundUptoRow.recurses == Tryz.prog.recurses 8) = true := by kernel_rfl
theorem mappingRound_names : (Rows.mappingRoundUptoRow.named == Tryz.prog.varsNamed 8) = true := by kernel_rfl
theorem mappingRound_lays : laidOutB Tryz.prog = true := by kernel_rfl
theorem mappingRound_enters : Tryz.prog.mayEnter = true := by kernel_rfl
end Go.Proofs.YtefhfadjajcmkaaGreatDoor
