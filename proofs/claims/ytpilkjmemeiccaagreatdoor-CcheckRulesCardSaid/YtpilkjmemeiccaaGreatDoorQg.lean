/- A closed fact of the closing, apart from it: the kernel wants its memory alone. -/
import Derived.Test.YtpilkjmemeiccaaGreatDoorRows
import Derived.Test.YtpilkjmemeiccaaGreatDoorChecked
import Derived.Shelf.Vars
import Derived.JoinedCond
import Derived.WalkKit
import Derived.Test.YtpilkjmemeiccaaGreatDoorCards
import Derived.SevenTiedAt
namespace Go.Proofs.YtpilkjmemeiccaaGreatDoor
open Go Go.RowKit
set_option maxRecDepth 100000
theorem ccheckRules_goes : false = Rows.ccheckRulesRow.goesBy Tryz.prog := by kernel_rfl
end Go.Proofs.YtpilkjmemeiccaaGreatDoor
