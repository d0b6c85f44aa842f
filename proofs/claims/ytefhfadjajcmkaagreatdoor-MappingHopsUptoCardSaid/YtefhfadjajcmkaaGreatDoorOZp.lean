/- Closed facts of the closing, apart from it: the kernel wants its memory for each. -/
import Derived.Test.YtefhfadjajcmkaaGreatDoorRows
import Derived.Test.YtefhfadjajcmkaaGreatDoorChecked
import Derived.Shelf.Vars
import Derived.JoinedCond
import Derived.WalkKit
namespace Go.Proofs.YtefhfadjajcmkaaGreatDoor
open Go Go.RowKit
set_option maxRecDepth 100000
theorem mappingHops_place : (Rows.mappingHopsUptoRow.inPlace == Tryz.prog.inPlace 9) = true := by kernel_rfl
theorem mappingHops_follow : (Rows.mappingHopsUptoRow.unfollowed == Tryz.prog.unfollowed 9) = true := by kernel_rfl
theorem mappingHops_recur : (Rows.mappingHopsUptoRow.recurses == Tryz.prog.recurses 9) = true := by kernel_rfl
theorem mappingHops_names : (Rows.mappingHopsUptoRow.named == Tryz.prog.varsNamed 9) = true := by kernel_rfl
theorem mappingHops_lays : laidOutB Tryz.prog = true := by kernel_rfl
theorem mappingHops_enters : Tryz.prog.mayEnter = true := by kernel_rfl
end Go.Proofs.YtefhfadjajcmkaaGreatDoor
