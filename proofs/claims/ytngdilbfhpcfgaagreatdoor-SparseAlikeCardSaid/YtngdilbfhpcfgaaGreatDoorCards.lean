/-
  DERIVED. GIVEN WITH THE SEED: THE CARDS: each row of YtngdilbfhpcfgaaGreatDoorRows.lean that lists a variable, with what it lists TIED to the program's text (the seventh form; the later family's looks); each row that meets fmt, with fmt's text TOLD by the authors' own Lean function (tested against real Go, not proved from fmt's source: count such statements apart). THE CARD IS WHAT COUNTS. Prove the row's statement (the work); the ties are given (YtngdilbfhpcfgaaGreatDoorTie.lean); close each card by the builder's one call (the guide's Derived/Test/ToyasCard.lean, 'card_holds'). Laid BY PROGRAM, IN A SANDBOX (cutbox-door.mjs). By AI agents, Wed Nov 11 2026. No macro, syntax, notation, axiom, sorry.
-/
import Derived.Test.YtngdilbfhpcfgaaGreatDoorRows
import GoSem.ClaimSeven
namespace Go.Proofs.YtngdilbfhpcfgaaGreatDoor
namespace Rows

/-- THE TIED CARD OF 'diptychlaw23.SparseAlike'. -/
def sparseAlikeCard : Claim7 := { stood := { row := sparseAlikeRow, standIns := [], harness := (true, "1ecfd9a1835962c984d102194abe11d4a3aba813832562464657b4a186636eb9"), looks := true }, kinds := [], alts := [], laidByText := true, laidKinds := [.data, .data, .data, .data, .sentinel, .sentinel, .pinned], laidTests := true, laidLooks := .later }
def SparseAlikeCardSaid : Prop := Claim7.holds Tryz.pinned (.plain (OpenSpec.ofChange sparseAlikeSpec)) sparseAlikeCard

/-- THE TIED CARD OF 'diptychlaw24.SlowerRules'. -/
def slowerRulesCard : Claim7 := { stood := { row := slowerRulesRow, standIns := [], harness := (true, "1ecfd9a1835962c984d102194abe11d4a3aba813832562464657b4a186636eb9"), looks := true }, kinds := [], alts := [], laidByText := true, laidKinds := [.data, .data, .data, .data, .sentinel, .sentinel, .pinned], laidTests := true, laidLooks := .later }
def SlowerRulesCardSaid : Prop := Claim7.holds Tryz.pinned (.plain (OpenSpec.ofChange slowerRulesSpec)) slowerRulesCard

/-- THE SECOND FORM's CARD OF 'diptychlaw23.SparseAlike'. -/
def sparseAlikeUptoCard : Claim7 := { stood := { row := sparseAlikeUptoRow, standIns := [], harness := (true, "1ecfd9a1835962c984d102194abe11d4a3aba813832562464657b4a186636eb9"), looks := true }, kinds := [], alts := [], laidByText := true, laidKinds := [.data, .data, .data, .data, .sentinel, .sentinel, .pinned], laidTests := true, laidLooks := .later }
def SparseAlikeUptoCardSaid : Prop := Claim7.holds Tryz.pinned (.plain (OpenSpec.upto sparseAlikeSpec)) sparseAlikeUptoCard

/-- THE SECOND FORM's CARD OF 'diptychlaw24.SlowerRules'. -/
def slowerRulesUptoCard : Claim7 := { stood := { row := slowerRulesUptoRow, standIns := [], harness := (true, "1ecfd9a1835962c984d102194abe11d4a3aba813832562464657b4a186636eb9"), looks := true }, kinds := [], alts := [], laidByText := true, laidKinds := [.data, .data, .data, .data, .sentinel, .sentinel, .pinned], laidTests := true, laidLooks := .later }
def SlowerRulesUptoCardSaid : Prop := Claim7.holds Tryz.pinned (.plain (OpenSpec.upto slowerRulesSpec)) slowerRulesUptoCard
end Rows
end Go.Proofs.YtngdilbfhpcfgaaGreatDoor
