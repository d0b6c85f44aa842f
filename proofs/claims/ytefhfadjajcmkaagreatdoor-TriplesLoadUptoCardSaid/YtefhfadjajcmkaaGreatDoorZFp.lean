/- Closed facts of the closing, apart from it: the kernel wants its memory for each. -/
import Derived.Test.YtefhfadjajcmkaaGreatDoorRows
import Derived.Test.YtefhfadjajcmkaaGreatDoorChecked
import Derived.Shelf.Vars
import Derived.JoinedCond
import Derived.WalkKit
namespace Go.Proofs.YtefhfadjajcmkaaGreatDoor
open Go Go.RowKit
set_option maxRecDepth 100000
theorem triplesLoad_place : (Rows.triplesLoadUptoRow.inPlace == Tryz.prog.inPlace 3) = true := by kernel_rfl
theorem triplesLoad_follow : (Rows.triplesLoadUptoRow.unfollowed == Tryz.prog.unfollowed 3) = true := by kernel_rfl
theorem triplesLoad_recur : (Rows.triplesLoadUptoRow.recurses == Tryz.prog.recurses 3) = true := by kernel_rfl
theorem triplesLoad_names : (Rows.triplesLoadUptoRow.named == Tryz.prog.varsNamed 3) = true := by kernel_rfl
theorem triplesLoad_lays : laidOutB Tryz.prog = true := by kernel_rfl
theorem triplesLoad_enters : Tryz.prog.mayEnter = true := by kernel_rfl
end Go.Proofs.YtefhfadjajcmkaaGreatDoor
