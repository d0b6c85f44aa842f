/-
  DERIVED. GIVEN WITH THE SEED: THE CARDS: each row of YtefhfadjajcmkaaGreatDoorRows.lean that lists a variable, with what it lists TIED to the program's text (the seventh form; the later family's looks); each row that meets fmt, with fmt's text TOLD by the authors' own Lean function (tested against real Go, not proved from fmt's source: count such statements apart). THE CARD IS WHAT COUNTS. Prove the row's statement (the work); the ties are given (YtefhfadjajcmkaaGreatDoorTie.lean); close each card by the builder's one call (the guide's Derived/Test/ToyasCard.lean, 'card_holds'). Laid BY PROGRAM, IN A SANDBOX (cutbox-door.mjs). By AI agents, Wed Nov 11 2026. No macro, syntax, notation, axiom, sorry.
-/
import Derived.Test.YtefhfadjajcmkaaGreatDoorRows
import GoSem.ClaimSeven
namespace Go.Proofs.YtefhfadjajcmkaaGreatDoor
namespace Rows

/-- THE TIED CARD OF 'diptychlaw5.TriplesLoad'. -/
def triplesLoadCard : Claim7 := { stood := { row := triplesLoadRow, standIns := [], harness := (true, "038439effd2da46f680621910fc2e4baaf42998af3743437b2d4598e9cbef6c1"), looks := true }, kinds := [], alts := [], laidByText := true, laidKinds := [.data, .data, .data, .data, .sentinel, .sentinel, .pinned], laidTests := true, laidLooks := .later }
def TriplesLoadCardSaid : Prop := Claim7.holds Tryz.pinned (.plain (OpenSpec.ofChange triplesLoadSpec)) triplesLoadCard

/-- THE TIED CARD OF 'diptychlaw5.TriplesFit'. -/
def triplesFitCard : Claim7 := { stood := { row := triplesFitRow, standIns := [], harness := (true, "038439effd2da46f680621910fc2e4baaf42998af3743437b2d4598e9cbef6c1"), looks := true }, kinds := [], alts := [], laidByText := true, laidKinds := [.data, .data, .data, .data, .sentinel, .sentinel, .pinned], laidTests := true, laidLooks := .later }
def TriplesFitCardSaid : Prop := Claim7.holds Tryz.pinned (.plain (OpenSpec.ofChange triplesFitSpec)) triplesFitCard

/-- THE TIED CARD OF 'diptychlaw7.MappingGraph'. -/
def mappingGraphCard : Claim7 := { stood := { row := mappingGraphRow, standIns := [], harness := (true, "038439effd2da46f680621910fc2e4baaf42998af3743437b2d4598e9cbef6c1"), looks := true }, kinds := [], alts := [], laidByText := true, laidKinds := [.data, .data, .data, .data, .sentinel, .sentinel, .pinned], laidTests := true, laidLooks := .later }
def MappingGraphCardSaid : Prop := Claim7.holds Tryz.pinned (.plain (OpenSpec.ofChange mappingGraphSpec)) mappingGraphCard

/-- THE TIED CARD OF 'diptychlaw7.MappingTriples'. -/
def mappingTriplesCard : Claim7 := { stood := { row := mappingTriplesRow, standIns := [], harness := (true, "038439effd2da46f680621910fc2e4baaf42998af3743437b2d4598e9cbef6c1"), looks := true }, kinds := [], alts := [], laidByText := true, laidKinds := [.data, .data, .data, .data, .sentinel, .sentinel, .pinned], laidTests := true, laidLooks := .later }
def MappingTriplesCardSaid : Prop := Claim7.holds Tryz.pinned (.plain (OpenSpec.ofChange mappingTriplesSpec)) mappingTriplesCard

/-- THE TIED CARD OF 'diptychlaw7.MappingHurt'. -/
def mappingHurtCard : Claim7 := { stood := { row := mappingHurtRow, standIns := [], harness := (true, "038439effd2da46f680621910fc2e4baaf42998af3743437b2d4598e9cbef6c1"), looks := true }, kinds := [], alts := [], laidByText := true, laidKinds := [.data, .data, .data, .data, .sentinel, .sentinel, .pinned], laidTests := true, laidLooks := .later }
def MappingHurtCardSaid : Prop := Claim7.holds Tryz.pinned (.plain (OpenSpec.ofChange mappingHurtSpec)) mappingHurtCard

/-- THE TIED CARD OF 'diptychlaw7.MappingRound'. -/
def mappingRoundCard : Claim7 := { stood := { row := mappingRoundRow, standIns := [], harness := (true, "038439effd2da46f680621910fc2e4baaf42998af3743437b2d4598e9cbef6c1"), looks := true }, kinds := [], alts := [], laidByText := true, laidKinds := [.data, .data, .data, .data, .sentinel, .sentinel, .pinned], laidTests := true, laidLooks := .later }
def MappingRoundCardSaid : Prop := Claim7.holds Tryz.pinned (.plain (OpenSpec.ofChange mappingRoundSpec)) mappingRoundCard

/-- THE TIED CARD OF 'diptychlaw7.MappingHops'. -/
def mappingHopsCard : Claim7 := { stood := { row := mappingHopsRow, standIns := [], harness := (true, "038439effd2da46f680621910fc2e4baaf42998af3743437b2d4598e9cbef6c1"), looks := true }, kinds := [], alts := [], laidByText := true, laidKinds := [.data, .data, .data, .data, .sentinel, .sentinel, .pinned], laidTests := true, laidLooks := .later }
def MappingHopsCardSaid : Prop := Claim7.holds Tryz.pinned (.plain (OpenSpec.ofChange mappingHopsSpec)) mappingHopsCard

/-- THE SECOND FORM's CARD OF 'diptychlaw5.TriplesLoad'. -/
def triplesLoadUptoCard : Claim7 := { stood := { row := triplesLoadUptoRow, standIns := [], harness := (true, "038439effd2da46f680621910fc2e4baaf42998af3743437b2d4598e9cbef6c1"), looks := true }, kinds := [], alts := [], laidByText := true, laidKinds := [.data, .data, .data, .data, .sentinel, .sentinel, .pinned], laidTests := true, laidLooks := .later }
def TriplesLoadUptoCardSaid : Prop := Claim7.holds Tryz.pinned (.plain (OpenSpec.upto triplesLoadSpec)) triplesLoadUptoCard

/-- THE SECOND FORM's CARD OF 'diptychlaw5.TriplesFit'. -/
def triplesFitUptoCard : Claim7 := { stood := { row := triplesFitUptoRow, standIns := [], harness := (true, "038439effd2da46f680621910fc2e4baaf42998af3743437b2d4598e9cbef6c1"), looks := true }, kinds := [], alts := [], laidByText := true, laidKinds := [.data, .data, .data, .data, .sentinel, .sentinel, .pinned], laidTests := true, laidLooks := .later }
def TriplesFitUptoCardSaid : Prop := Claim7.holds Tryz.pinned (.plain (OpenSpec.upto triplesFitSpec)) triplesFitUptoCard

/-- THE SECOND FORM's CARD OF 'diptychlaw7.MappingGraph'. -/
def mappingGraphUptoCard : Claim7 := { stood := { row := mappingGraphUptoRow, standIns := [], harness := (true, "038439effd2da46f680621910fc2e4baaf42998af3743437b2d4598e9cbef6c1"), looks := true }, kinds := [], alts := [], laidByText := true, laidKinds := [.data, .data, .data, .data, .sentinel, .sentinel, .pinned], laidTests := true, laidLooks := .later }
def MappingGraphUptoCardSaid : Prop := Claim7.holds Tryz.pinned (.plain (OpenSpec.upto mappingGraphSpec)) mappingGraphUptoCard

/-- THE SECOND FORM's CARD OF 'diptychlaw7.MappingTriples'. -/
def mappingTriplesUptoCard : Claim7 := { stood := { row := mappingTriplesUptoRow, standIns := [], harness := (true, "038439effd2da46f680621910fc2e4baaf42998af3743437b2d4598e9cbef6c1"), looks := true }, kinds := [], alts := [], laidByText := true, laidKinds := [.data, .data, .data, .data, .sentinel, .sentinel, .pinned], laidTests := true, laidLooks := .later }
def MappingTriplesUptoCardSaid : Prop := Claim7.holds Tryz.pinned (.plain (OpenSpec.upto mappingTriplesSpec)) mappingTriplesUptoCard

/-- THE SECOND FORM's CARD OF 'diptychlaw7.MappingHurt'. -/
def mappingHurtUptoCard : Claim7 := { stood := { row := mappingHurtUptoRow, standIns := [], harness := (true, "038439effd2da46f680621910fc2e4baaf42998af3743437b2d4598e9cbef6c1"), looks := true }, kinds := [], alts := [], laidByText := true, laidKinds := [.data, .data, .data, .data, .sentinel, .sentinel, .pinned], laidTests := true, laidLooks := .later }
def MappingHurtUptoCardSaid : Prop := Claim7.holds Tryz.pinned (.plain (OpenSpec.upto mappingHurtSpec)) mappingHurtUptoCard

/-- THE SECOND FORM's CARD OF 'diptychlaw7.MappingRound'. -/
def mappingRoundUptoCard : Claim7 := { stood := { row := mappingRoundUptoRow, standIns := [], harness := (true, "038439effd2da46f680621910fc2e4baaf42998af3743437b2d4598e9cbef6c1"), looks := true }, kinds := [], alts := [], laidByText := true, laidKinds := [.data, .data, .data, .data, .sentinel, .sentinel, .pinned], laidTests := true, laidLooks := .later }
def MappingRoundUptoCardSaid : Prop := Claim7.holds Tryz.pinned (.plain (OpenSpec.upto mappingRoundSpec)) mappingRoundUptoCard

/-- THE SECOND FORM's CARD OF 'diptychlaw7.MappingHops'. -/
def mappingHopsUptoCard : Claim7 := { stood := { row := mappingHopsUptoRow, standIns := [], harness := (true, "038439effd2da46f680621910fc2e4baaf42998af3743437b2d4598e9cbef6c1"), looks := true }, kinds := [], alts := [], laidByText := true, laidKinds := [.data, .data, .data, .data, .sentinel, .sentinel, .pinned], laidTests := true, laidLooks := .later }
def MappingHopsUptoCardSaid : Prop := Claim7.holds Tryz.pinned (.plain (OpenSpec.upto mappingHopsSpec)) mappingHopsUptoCard
end Rows
end Go.Proofs.YtefhfadjajcmkaaGreatDoor
