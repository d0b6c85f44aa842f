/-
  DERIVED. GIVEN WITH THE SEED: THE CARDS: each row of YtijciakkfpjjbaaGreatDoorRows.lean that lists a variable, with what it lists TIED to the program's text (the seventh form; the later family's looks); each row that meets fmt, with fmt's text TOLD by the authors' own Lean function (tested against real Go, not proved from fmt's source: count such statements apart). THE CARD IS WHAT COUNTS. Prove the row's statement (the work); the ties are given (YtijciakkfpjjbaaGreatDoorTie.lean); close each card by the builder's one call (the guide's Derived/Test/ToyasCard.lean, 'card_holds'). Laid BY PROGRAM, IN A SANDBOX (cutbox-door.mjs). By AI agents, Wed Nov 11 2026. No macro, syntax, notation, axiom, sorry.
-/
import Derived.Test.YtijciakkfpjjbaaGreatDoorRows
import GoSem.ClaimSeven
namespace Go.Proofs.YtijciakkfpjjbaaGreatDoor
namespace Rows

/-- THE TIED CARD OF 'diptychlaw5.TriplesWalk'. -/
def triplesWalkCard : Claim7 := { stood := { row := triplesWalkRow, standIns := [], harness := (true, "eca9deb802d0684154f877b749cf2510212acf53f0679ebee5865dde5f5c2ca7"), looks := true }, kinds := [], alts := [], laidByText := true, laidKinds := [.data, .data, .data, .data, .sentinel, .sentinel, .pinned], laidTests := true, laidLooks := .later }
def TriplesWalkCardSaid : Prop := Claim7.holds Tryz.pinned (.plain (OpenSpec.ofChange triplesWalkSpec)) triplesWalkCard

/-- THE TIED CARD OF 'diptychlaw5.TriplesCursors'. -/
def triplesCursorsCard : Claim7 := { stood := { row := triplesCursorsRow, standIns := [], harness := (true, "eca9deb802d0684154f877b749cf2510212acf53f0679ebee5865dde5f5c2ca7"), looks := true }, kinds := [], alts := [], laidByText := true, laidKinds := [.data, .data, .data, .data, .sentinel, .sentinel, .pinned], laidTests := true, laidLooks := .later }
def TriplesCursorsCardSaid : Prop := Claim7.holds Tryz.pinned (.plain (OpenSpec.ofChange triplesCursorsSpec)) triplesCursorsCard

/-- THE TIED CARD OF 'diptychlaw5.TriplesSeeks'. -/
def triplesSeeksCard : Claim7 := { stood := { row := triplesSeeksRow, standIns := [], harness := (true, "eca9deb802d0684154f877b749cf2510212acf53f0679ebee5865dde5f5c2ca7"), looks := true }, kinds := [], alts := [], laidByText := true, laidKinds := [.data, .data, .data, .data, .sentinel, .sentinel, .pinned], laidTests := true, laidLooks := .later }
def TriplesSeeksCardSaid : Prop := Claim7.holds Tryz.pinned (.plain (OpenSpec.ofChange triplesSeeksSpec)) triplesSeeksCard

/-- THE TIED CARD OF 'diptychlaw5.TriplesLoad'. -/
def triplesLoadCard : Claim7 := { stood := { row := triplesLoadRow, standIns := [], harness := (true, "eca9deb802d0684154f877b749cf2510212acf53f0679ebee5865dde5f5c2ca7"), looks := true }, kinds := [], alts := [], laidByText := true, laidKinds := [.data, .data, .data, .data, .sentinel, .sentinel, .pinned], laidTests := true, laidLooks := .later }
def TriplesLoadCardSaid : Prop := Claim7.holds Tryz.pinned (.plain (OpenSpec.ofChange triplesLoadSpec)) triplesLoadCard

/-- THE TIED CARD OF 'diptychlaw5.TriplesFit'. -/
def triplesFitCard : Claim7 := { stood := { row := triplesFitRow, standIns := [], harness := (true, "eca9deb802d0684154f877b749cf2510212acf53f0679ebee5865dde5f5c2ca7"), looks := true }, kinds := [], alts := [], laidByText := true, laidKinds := [.data, .data, .data, .data, .sentinel, .sentinel, .pinned], laidTests := true, laidLooks := .later }
def TriplesFitCardSaid : Prop := Claim7.holds Tryz.pinned (.plain (OpenSpec.ofChange triplesFitSpec)) triplesFitCard

/-- THE SECOND FORM's CARD OF 'diptychlaw5.TriplesWalk'. -/
def triplesWalkUptoCard : Claim7 := { stood := { row := triplesWalkUptoRow, standIns := [], harness := (true, "eca9deb802d0684154f877b749cf2510212acf53f0679ebee5865dde5f5c2ca7"), looks := true }, kinds := [], alts := [], laidByText := true, laidKinds := [.data, .data, .data, .data, .sentinel, .sentinel, .pinned], laidTests := true, laidLooks := .later }
def TriplesWalkUptoCardSaid : Prop := Claim7.holds Tryz.pinned (.plain (OpenSpec.upto triplesWalkSpec)) triplesWalkUptoCard

/-- THE SECOND FORM's CARD OF 'diptychlaw5.TriplesCursors'. -/
def triplesCursorsUptoCard : Claim7 := { stood := { row := triplesCursorsUptoRow, standIns := [], harness := (true, "eca9deb802d0684154f877b749cf2510212acf53f0679ebee5865dde5f5c2ca7"), looks := true }, kinds := [], alts := [], laidByText := true, laidKinds := [.data, .data, .data, .data, .sentinel, .sentinel, .pinned], laidTests := true, laidLooks := .later }
def TriplesCursorsUptoCardSaid : Prop := Claim7.holds Tryz.pinned (.plain (OpenSpec.upto triplesCursorsSpec)) triplesCursorsUptoCard

/-- THE SECOND FORM's CARD OF 'diptychlaw5.TriplesSeeks'. -/
def triplesSeeksUptoCard : Claim7 := { stood := { row := triplesSeeksUptoRow, standIns := [], harness := (true, "eca9deb802d0684154f877b749cf2510212acf53f0679ebee5865dde5f5c2ca7"), looks := true }, kinds := [], alts := [], laidByText := true, laidKinds := [.data, .data, .data, .data, .sentinel, .sentinel, .pinned], laidTests := true, laidLooks := .later }
def TriplesSeeksUptoCardSaid : Prop := Claim7.holds Tryz.pinned (.plain (OpenSpec.upto triplesSeeksSpec)) triplesSeeksUptoCard

/-- THE SECOND FORM's CARD OF 'diptychlaw5.TriplesLoad'. -/
def triplesLoadUptoCard : Claim7 := { stood := { row := triplesLoadUptoRow, standIns := [], harness := (true, "eca9deb802d0684154f877b749cf2510212acf53f0679ebee5865dde5f5c2ca7"), looks := true }, kinds := [], alts := [], laidByText := true, laidKinds := [.data, .data, .data, .data, .sentinel, .sentinel, .pinned], laidTests := true, laidLooks := .later }
def TriplesLoadUptoCardSaid : Prop := Claim7.holds Tryz.pinned (.plain (OpenSpec.upto triplesLoadSpec)) triplesLoadUptoCard

/-- THE SECOND FORM's CARD OF 'diptychlaw5.TriplesFit'. -/
def triplesFitUptoCard : Claim7 := { stood := { row := triplesFitUptoRow, standIns := [], harness := (true, "eca9deb802d0684154f877b749cf2510212acf53f0679ebee5865dde5f5c2ca7"), looks := true }, kinds := [], alts := [], laidByText := true, laidKinds := [.data, .data, .data, .data, .sentinel, .sentinel, .pinned], laidTests := true, laidLooks := .later }
def TriplesFitUptoCardSaid : Prop := Claim7.holds Tryz.pinned (.plain (OpenSpec.upto triplesFitSpec)) triplesFitUptoCard
end Rows
end Go.Proofs.YtijciakkfpjjbaaGreatDoor
