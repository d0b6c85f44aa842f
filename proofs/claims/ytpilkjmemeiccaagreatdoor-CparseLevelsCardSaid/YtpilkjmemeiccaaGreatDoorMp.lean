/- Closed facts of the closing, apart from it: the kernel wants its memory for each. -/
import Derived.Test.YtpilkjmemeiccaaGreatDoorRows
import Derived.Test.YtpilkjmemeiccaaGreatDoorChecked
import Derived.Shelf.Vars
import Derived.JoinedCond
import Derived.WalkKit
namespace Go.Proofs.YtpilkjmemeiccaaGreatDoor
open Go Go.RowKit
set_option maxRecDepth 100000
theorem cparseLevels_place : (Rows.cparseLevelsRow.inPlace == Tryz.prog.inPlace 3) = true := by kernel_rfl
theorem cparseLevels_follow : (Rows.cparseLevelsRow.unfollowed == Tryz.prog.unfollowed 3) = true := by kernel_rfl
theorem cparseLevels_recur : (Rows.cparseLevelsRow.recurses == Tryz.prog.recurses 3) = true := by kernel_rfl
theorem cparseLevels_names : (Rows.cparseLevelsRow.named == Tryz.prog.varsNamed 3) = true := by kernel_rfl
theorem cparseLevels_lays : laidOutB Tryz.prog = true := by kernel_rfl
theorem cparseLevels_enters : Tryz.prog.mayEnter = true := by kernel_rfl
end Go.Proofs.YtpilkjmemeiccaaGreatDoor
