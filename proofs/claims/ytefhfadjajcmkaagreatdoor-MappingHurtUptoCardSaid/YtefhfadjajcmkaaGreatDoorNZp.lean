/- Closed facts of the closing, apart from it: the kernel wants its memory for each. -/
import Derived.Test.YtefhfadjajcmkaaGreatDoorRows
import Derived.Test.YtefhfadjajcmkaaGreatDoorChecked
import Derived.Shelf.Vars
import Derived.JoinedCond
import Derived.WalkKit
namespace Go.Proofs.YtefhfadjajcmkaaGreatDoor
open Go Go.RowKit
set_option maxRecDepth 100000
theorem mappingHurt_place : (Rows.mappingHurtUptoRow.inPlace == Tryz.prog.inPlace 7) = true := by kernel_rfl
theorem mappingHurt_follow : (Rows.mappingHurtUptoRow.unfollowed == Tryz.prog.unfollowed 7) = true := by kernel_rfl
theorem mappingHurt_recur : (Rows.mappingHurtUptoRow.recurses == Tryz.prog.recurses 7) = true := by kernel_rfl
theorem mappingHurt_names : (Rows.mappingHurtUptoRow.named == Tryz.prog.varsNamed 7) = true := by kernel_rfl
theorem mappingHurt_lays : laidOutB Tryz.prog = true := by kernel_rfl
theorem mappingHurt_enters : Tryz.prog.mayEnter = true := by kernel_rfl
end Go.Proofs.YtefhfadjajcmkaaGreatDoor
