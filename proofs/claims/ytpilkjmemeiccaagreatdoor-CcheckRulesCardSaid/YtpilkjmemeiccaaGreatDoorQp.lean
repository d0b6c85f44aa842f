/- Closed facts of the closing, apart from it: the kernel wants its memory for each. -/
import Derived.Test.YtpilkjmemeiccaaGreatDoorRows
import Derived.Test.YtpilkjmemeiccaaGreatDoorChecked
import Derived.Shelf.Vars
import Derived.JoinedCond
import Derived.WalkKit
namespace Go.Proofs.YtpilkjmemeiccaaGreatDoor
open Go Go.RowKit
set_option maxRecDepth 100000
theorem ccheckRules_place : (Rows.ccheckRulesRow.inPlace == Tryz.prog.inPlace 4) = true := by kernel_rfl
theorem ccheckRules_follow : (Rows.ccheckRulesRow.unfollowed == Tryz.prog.unfollowed 4) = true := by kernel_rfl
theorem ccheckRules_recur : (Rows.ccheckRulesRow.recurses == Tryz.prog.recurses 4) = true := by kernel_rfl
theorem ccheckRules_names : (Rows.ccheckRulesRow.named == Tryz.prog.varsNamed 4) = true := by kernel_rfl
theorem ccheckRules_lays : laidOutB Tryz.prog = true := by kernel_rfl
theorem ccheckRules_enters : Tryz.prog.mayEnter = true := by kernel_rfl
end Go.Proofs.YtpilkjmemeiccaaGreatDoor
