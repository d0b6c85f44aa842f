/-
  DERIVED. GIVEN WITH THE SEED: THE CARDS: each row of YtdhnmgndekncpaaDoorRows.lean that lists a variable, with what it lists TIED to the program's text (the seventh form; the later family's looks); each row that meets fmt, with fmt's text TOLD by the authors' own Lean function (tested against real Go, not proved from fmt's source: count such statements apart). THE CARD IS WHAT COUNTS. Prove the row's statement (the work); the ties are given (YtdhnmgndekncpaaDoorTie.lean); close each card by the builder's one call (the guide's Derived/Test/ToyasCard.lean, 'card_holds'). Laid BY PROGRAM, IN A SANDBOX (cutbox-door.mjs). By AI agents, Wed Nov 11 2026. No macro, syntax, notation, axiom, sorry.
-/
import Derived.Test.YtdhnmgndekncpaaDoorRows
import GoSem.ClaimSeven
namespace Go.Proofs.YtdhnmgndekncpaaDoor
namespace Rows

/-- THE TIED CARD OF 'diptychlaw4.DictNumbers'. -/
def dictNumbersCard : Claim7 := { stood := { row := dictNumbersRow, standIns := [], harness := (true, "7db711b63d630703e0d9f10b6afa09025ea95db4e6e4a820746a6ef2b5b72e45"), looks := true }, kinds := [], alts := [], laidByText := true, laidKinds := [.data, .pinned], laidTests := true, laidLooks := .later }
def DictNumbersCardSaid : Prop := Claim7.holds Tryd.pinned (.plain (OpenSpec.ofChange dictNumbersSpec)) dictNumbersCard

/-- THE TIED CARD OF 'diptychlaw4.DictKeys'. -/
def dictKeysCard : Claim7 := { stood := { row := dictKeysRow, standIns := [], harness := (true, "7db711b63d630703e0d9f10b6afa09025ea95db4e6e4a820746a6ef2b5b72e45"), looks := true }, kinds := [], alts := [], laidByText := true, laidKinds := [.data, .pinned], laidTests := true, laidLooks := .later }
def DictKeysCardSaid : Prop := Claim7.holds Tryd.pinned (.plain (OpenSpec.ofChange dictKeysSpec)) dictKeysCard

/-- THE TIED CARD OF 'diptychlaw4.DictColumns'. -/
def dictColumnsCard : Claim7 := { stood := { row := dictColumnsRow, standIns := [], harness := (true, "7db711b63d630703e0d9f10b6afa09025ea95db4e6e4a820746a6ef2b5b72e45"), looks := true }, kinds := [], alts := [], laidByText := true, laidKinds := [.data, .pinned], laidTests := true, laidLooks := .later }
def DictColumnsCardSaid : Prop := Claim7.holds Tryd.pinned (.plain (OpenSpec.ofChange dictColumnsSpec)) dictColumnsCard

/-- THE TIED CARD OF 'diptychlaw4.DictTakes'. -/
def dictTakesCard : Claim7 := { stood := { row := dictTakesRow, standIns := [], harness := (true, "7db711b63d630703e0d9f10b6afa09025ea95db4e6e4a820746a6ef2b5b72e45"), looks := true }, kinds := [], alts := [], laidByText := true, laidKinds := [.data, .pinned], laidTests := true, laidLooks := .later }
def DictTakesCardSaid : Prop := Claim7.holds Tryd.pinned (.plain (OpenSpec.ofChange dictTakesSpec)) dictTakesCard

/-- THE TIED CARD OF 'diptychlaw4.DictValues'. -/
def dictValuesCard : Claim7 := { stood := { row := dictValuesRow, standIns := [], harness := (true, "7db711b63d630703e0d9f10b6afa09025ea95db4e6e4a820746a6ef2b5b72e45"), looks := true }, kinds := [], alts := [], laidByText := true, laidKinds := [.data, .pinned], laidTests := true, laidLooks := .later }
def DictValuesCardSaid : Prop := Claim7.holds Tryd.pinned (.plain (OpenSpec.ofChange dictValuesSpec)) dictValuesCard

/-- THE SECOND FORM's CARD OF 'diptychlaw4.DictNumbers'. -/
def dictNumbersUptoCard : Claim7 := { stood := { row := dictNumbersUptoRow, standIns := [], harness := (true, "7db711b63d630703e0d9f10b6afa09025ea95db4e6e4a820746a6ef2b5b72e45"), looks := true }, kinds := [], alts := [], laidByText := true, laidKinds := [.data, .pinned], laidTests := true, laidLooks := .later }
def DictNumbersUptoCardSaid : Prop := Claim7.holds Tryd.pinned (.plain (OpenSpec.upto dictNumbersSpec)) dictNumbersUptoCard

/-- THE SECOND FORM's CARD OF 'diptychlaw4.DictKeys'. -/
def dictKeysUptoCard : Claim7 := { stood := { row := dictKeysUptoRow, standIns := [], harness := (true, "7db711b63d630703e0d9f10b6afa09025ea95db4e6e4a820746a6ef2b5b72e45"), looks := true }, kinds := [], alts := [], laidByText := true, laidKinds := [.data, .pinned], laidTests := true, laidLooks := .later }
def DictKeysUptoCardSaid : Prop := Claim7.holds Tryd.pinned (.plain (OpenSpec.upto dictKeysSpec)) dictKeysUptoCard

/-- THE SECOND FORM's CARD OF 'diptychlaw4.DictColumns'. -/
def dictColumnsUptoCard : Claim7 := { stood := { row := dictColumnsUptoRow, standIns := [], harness := (true, "7db711b63d630703e0d9f10b6afa09025ea95db4e6e4a820746a6ef2b5b72e45"), looks := true }, kinds := [], alts := [], laidByText := true, laidKinds := [.data, .pinned], laidTests := true, laidLooks := .later }
def DictColumnsUptoCardSaid : Prop := Claim7.holds Tryd.pinned (.plain (OpenSpec.upto dictColumnsSpec)) dictColumnsUptoCard

/-- THE SECOND FORM's CARD OF 'diptychlaw4.DictTakes'. -/
def dictTakesUptoCard : Claim7 := { stood := { row := dictTakesUptoRow, standIns := [], harness := (true, "7db711b63d630703e0d9f10b6afa09025ea95db4e6e4a820746a6ef2b5b72e45"), looks := true }, kinds := [], alts := [], laidByText := true, laidKinds := [.data, .pinned], laidTests := true, laidLooks := .later }
def DictTakesUptoCardSaid : Prop := Claim7.holds Tryd.pinned (.plain (OpenSpec.upto dictTakesSpec)) dictTakesUptoCard

/-- THE SECOND FORM's CARD OF 'diptychlaw4.DictValues'. -/
def dictValuesUptoCard : Claim7 := { stood := { row := dictValuesUptoRow, standIns := [], harness := (true, "7db711b63d630703e0d9f10b6afa09025ea95db4e6e4a820746a6ef2b5b72e45"), looks := true }, kinds := [], alts := [], laidByText := true, laidKinds := [.data, .pinned], laidTests := true, laidLooks := .later }
def DictValuesUptoCardSaid : Prop := Claim7.holds Tryd.pinned (.plain (OpenSpec.upto dictValuesSpec)) dictValuesUptoCard
end Rows
end Go.Proofs.YtdhnmgndekncpaaDoor
