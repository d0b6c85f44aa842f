/- Closed facts of the closing, apart from it: the kernel wants its memory for each. -/
import Derived.Test.YtngdilbfhpcfgaaGreatDoorRows
import Derived.Test.YtngdilbfhpcfgaaGreatDoorChecked
import Derived.Shelf.Vars
import Derived.JoinedCond
import Derived.WalkKit
namespace Go.Proofs.YtngdilbfhpcfgaaGreatDoor
open Go Go.RowKit
set_option maxRecDepth 100000
theorem sparseAlike_place : (Rows.sparseAlikeRow.inPlace == Tryz.prog.inPlace 3) = true := by kernel_rfl
theorem sparseAlike_follow : (Rows.sparseAlikeRow.unfollowed == Tryz.prog.unfollowed 3) = true := by kernel_rfl
theorem sparseAlike_recur : (Rows.sparseAlikeRow.recurses == Tryz.prog.recurses 3) = true := by kernel_rfl
theorem sparseAlike_names : (Rows.sparseAlikeRow.named == Tryz.prog.varsNamed 3) = true := by kernel_rfl
theorem sparseAlike_lays : laidOutB Tryz.prog = true := by kernel_rfl
theorem sparseAlike_enters : Tryz.prog.mayEnter = true := by kernel_rfl
end Go.Proofs.YtngdilbfhpcfgaaGreatDoor
