/-
  DERIVED. GIVEN WITH THE SEED: THE CARDS: each row of YtpilkjmemeiccaaGreatDoorRows.lean that lists a variable, with what it lists TIED to the program's text (the seventh form; the later family's looks); each row that meets fmt, with fmt's text TOLD by the authors' own Lean function (tested against real Go, not proved from fmt's source: count such statements apart). THE CARD IS WHAT COUNTS. Prove the row's statement (the work); the ties are given (YtpilkjmemeiccaaGreatDoorTie.lean); close each card by the builder's one call (the guide's Derived/Test/ToyasCard.lean, 'card_holds'). Laid BY PROGRAM, IN A SANDBOX (cutbox-door.mjs). By AI agents, Wed Nov 11 2026. No macro, syntax, notation, axiom, sorry.
-/
import Derived.Test.YtpilkjmemeiccaaGreatDoorRows
import GoSem.ClaimSeven
namespace Go.Proofs.YtpilkjmemeiccaaGreatDoor
namespace Rows

/-- THE TIED CARD OF 'diptychlaw20.CparseLevels'. -/
def cparseLevelsCard : Claim7 := { stood := { row := cparseLevelsRow, standIns := [], harness := (true, "90b131d15ce87ebf27566950f0ca86cf825106b564f76c6e0b59bc94faf9c5d1"), looks := true }, kinds := [], alts := [], laidByText := true, laidKinds := [.data, .data, .data, .data, .sentinel, .sentinel, .pinned, .pinned], laidTests := true, laidLooks := .later }
def CparseLevelsCardSaid : Prop := Claim7.holds Tryz.pinned (.plain (OpenSpec.ofChange cparseLevelsSpec)) cparseLevelsCard

/-- THE TIED CARD OF 'diptychlaw21.CcheckRules'. -/
def ccheckRulesCard : Claim7 := { stood := { row := ccheckRulesRow, standIns := [], harness := (true, "90b131d15ce87ebf27566950f0ca86cf825106b564f76c6e0b59bc94faf9c5d1"), looks := true }, kinds := [], alts := [], laidByText := true, laidKinds := [.data, .data, .data, .data, .sentinel, .sentinel, .pinned, .pinned], laidTests := true, laidLooks := .later }
def CcheckRulesCardSaid : Prop := Claim7.holds Tryz.pinned (.plain (OpenSpec.ofChange ccheckRulesSpec)) ccheckRulesCard

/-- THE SECOND FORM's CARD OF 'diptychlaw20.CparseLevels'. -/
def cparseLevelsUptoCard : Claim7 := { stood := { row := cparseLevelsUptoRow, standIns := [], harness := (true, "90b131d15ce87ebf27566950f0ca86cf825106b564f76c6e0b59bc94faf9c5d1"), looks := true }, kinds := [], alts := [], laidByText := true, laidKinds := [.data, .data, .data, .data, .sentinel, .sentinel, .pinned, .pinned], laidTests := true, laidLooks := .later }
def CparseLevelsUptoCardSaid : Prop := Claim7.holds Tryz.pinned (.plain (OpenSpec.upto cparseLevelsSpec)) cparseLevelsUptoCard

/-- THE SECOND FORM's CARD OF 'diptychlaw21.CcheckRules'. -/
def ccheckRulesUptoCard : Claim7 := { stood := { row := ccheckRulesUptoRow, standIns := [], harness := (true, "90b131d15ce87ebf27566950f0ca86cf825106b564f76c6e0b59bc94faf9c5d1"), looks := true }, kinds := [], alts := [], laidByText := true, laidKinds := [.data, .data, .data, .data, .sentinel, .sentinel, .pinned, .pinned], laidTests := true, laidLooks := .later }
def CcheckRulesUptoCardSaid : Prop := Claim7.holds Tryz.pinned (.plain (OpenSpec.upto ccheckRulesSpec)) ccheckRulesUptoCard
end Rows
end Go.Proofs.YtpilkjmemeiccaaGreatDoor
