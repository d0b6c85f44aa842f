/- A closed fact of the closing, apart from it: the kernel wants its memory alone. -/
import Derived.Test.YtngdilbfhpcfgaaGreatDoorRows
import Derived.Test.YtngdilbfhpcfgaaGreatDoorChecked
import Derived.Shelf.Vars
import Derived.JoinedCond
import Derived.WalkKit
import Derived.Test.YtngdilbfhpcfgaaGreatDoorCards
import Derived.SevenTiedAt
namespace Go.Proofs.YtngdilbfhpcfgaaGreatDoor
open Go Go.RowKit
set_option maxRecDepth 100000
theorem sparseAlike_goes : false = Rows.sparseAlikeRow.goesBy Tryz.prog := by kernel_rfl
end Go.Proofs.YtngdilbfhpcfgaaGreatDoor
