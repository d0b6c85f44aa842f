/- Closed facts of the closing, apart from it: the kernel wants its memory for each. -/
import Derived.Test.YtefhfadjajcmkaaGreatDoorRows
import Derived.Test.YtefhfadjajcmkaaGreatDoorChecked
import Derived.Shelf.Vars
import Derived.JoinedCond
import Derived.WalkKit
namespace Go.Proofs.YtefhfadjajcmkaaGreatDoor
open Go Go.RowKit
set_option maxRecDepth 100000
theorem mappingGraph_place : (Rows.mappingGraphUptoRow.inPlace == Tryz.prog.inPlace 5) = true := by kernel_rfl
theorem mappingGraph_follow : (Rows.mappingGraphUptoRow.unfollowed == Tryz.prog.unfollowed 5) = true := by kernel_rfl
theorem mappingGraph_recur : (Rows.mappingGraphUptoRow.recurses == Tryz.prog.recurses 5) = true := by kernel_rfl
theorem mappingGraph_names : (Rows.mappingGraphUptoRow.named == Tryz.prog.varsNamed 5) = true := by kernel_rfl
theorem mappingGraph_lays : laidOutB Tryz.prog = true := by kernel_rfl
theorem mappingGraph_enters : Tryz.prog.mayEnter = true := by kernel_rfl
end Go.Proofs.YtefhfadjajcmkaaGreatDoor
