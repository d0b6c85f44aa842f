/- Closed facts of the closing, apart from it: the kernel wants its memory for each. -/
import Derived.Test.YtefhfadjajcmkaaGreatDoorRows
import Derived.Test.YtefhfadjajcmkaaGreatDoorChecked
import Derived.Shelf.Vars
import Derived.JoinedCond
import Derived.WalkKit
namespace Go.Proofs.YtefhfadjajcmkaaGreatDoor
open Go Go.RowKit
set_option maxRecDepth 100000
theorem triplesFit_place : (Rows.triplesFitUptoRow.inPlace == Tryz.prog.inPlace 4) = true := by kernel_rfl
theorem triplesFit_follow : (Rows.triplesFitUptoRow.unfollowed == Tryz.prog.unfollowed 4) = true := by kernel_rfl
theorem triplesFit_recur : (Rows.triplesFitUptoRow.recurses == Tryz.prog.recurses 4) = true := by kernel_rfl
theorem triplesFit_names : (Rows.triplesFitUptoRow.named == Tryz.prog.varsNamed 4) = true := by kernel_rfl
theorem triplesFit_lays : laidOutB Tryz.prog = true := by kernel_rfl
theorem triplesFit_enters : Tryz.prog.mayEnter = true := by kernel_rfl
end Go.Proofs.YtefhfadjajcmkaaGreatDoor
