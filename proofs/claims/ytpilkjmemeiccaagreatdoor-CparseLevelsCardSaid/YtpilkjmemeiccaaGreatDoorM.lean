/- CparseLevels answers true: each of its pairs of texts, the second with the parentheses that the first leaves out, is parsed as the same query, and a comparison behind a comparison is refused; no condition. -/
import Derived.Test.YtpilkjmemeiccaaGreatDoorMl
import Derived.Test.YtpilkjmemeiccaaGreatDoorMp
import Derived.Test.YtpilkjmemeiccaaGreatDoorMg
import Derived.Test.YtpilkjmemeiccaaGreatDoorCards
import Derived.Test.YtpilkjmemeiccaaGreatDoorTie
import Derived.ProofKit
import Derived.OpenShut
import Derived.ChangeSame
import Derived.Lib.SmallJoins
import Derived.Carry
import Derived.Lay
import Derived.LaidOnce
import Derived.SevenTiedAt
import Derived.Deep.DeepHandedRow
import Derived.Shelf.Vars
import Derived.Stop.LaidErr
import Derived.Lib.LaidTab
set_option linter.unusedSimpArgs false
set_option linter.unusedVariables false
namespace Go.Proofs.YtpilkjmemeiccaaGreatDoor
open Go Go.ChangeShapes Go.WideShapes Go.ChangeAt Go.RowKit Go.Joins

theorem cparseLevels_holds : Rows.CparseLevelsSaid :=
  OpenClaim.holds_of_wide 3 Tryz.f3 rfl rfl rfl rfl rfl rfl rfl ⟨rfl, rfl, rfl, rfl, rfl⟩ rfl rfl rfl rfl rfl (by kernel_rfl) Tryz.func3 (by
      show joinedFacts Tryz.prog 3 Tryz.f3 _ Rows.cparseLevelsRow = true
      unfold joinedFacts
      simp only [cparseLevels_place, cparseLevels_follow, cparseLevels_recur, cparseLevels_names, cparseLevels_lays, cparseLevels_enters, Bool.and_true]
      kernel_rfl)
    (of_decide_eq_true (by kernel_rfl)) (by unfold Func.isWrapper; first | (rw [if_pos (by decide +kernel)]; kernel_rfl) | (rw [if_neg (by decide +kernel)]; exact ⟨rfl, rfl⟩))
    (fun os started H enc _ => cparseLevels_lifted os started H enc)

theorem cparseLevels_card : Rows.CparseLevelsCardSaid :=
  Claim7.holds_tied_plain_at .later [] [.data, .data, .data, .data, .sentinel, .sentinel, .pinned, .pinned] true (true, "90b131d15ce87ebf27566950f0ca86cf825106b564f76c6e0b59bc94faf9c5d1") true cparseLevels_holds (fun _ h => by cases h) (by kernel_rfl) (fun _ h => by cases h) cparseLevels_row_tie rfl ⟨rfl, rfl⟩ (by kernel_rfl) rfl
    (fun f fn hf hfn => by
      obtain rfl : f = 3 := Option.some.inj ((show Tryz.prog.funcNamed "diptych/diptychlaw20.CparseLevels" = some 3 by kernel_rfl).symm.trans hf) |>.symm
      obtain rfl : fn = Tryz.f3 := (Option.some.inj (Tryz.func3.symm.trans hfn)).symm
      exact ⟨by kernel_rfl, fun j t ht => by
        rw [Tryz.params3] at ht
        have hm : t ∈ ([] : List TypeId) := by simpa using Array.mem_of_getElem? ht
        cases hm⟩)
    cparseLevels_goes
end Go.Proofs.YtpilkjmemeiccaaGreatDoor
