/- A closed fact of the closing, apart from it: the kernel wants its memory alone. -/
import Derived.Test.YtefhfadjajcmkaaGreatDoorRows
import Derived.Test.YtefhfadjajcmkaaGreatDoorChecked
import Derived.Shelf.Vars
import Derived.JoinedCond
import Derived.WalkKit
import Derived.Test.YtefhfadjajcmkaaGreatDoorCards
import Derived.SevenTiedAt
namespace Go.Proofs.YtefhfadjajcmkaaGreatDoor
open Go Go.RowKit
set_option maxRecDepth 100000
theorem mappingGraph_goes : false = Rows.mappingGraphUptoRow.goesBy Tryz.prog := by kernel_rfl
end Go.Proofs.YtefhfadjajcmkaaGreatDoor
