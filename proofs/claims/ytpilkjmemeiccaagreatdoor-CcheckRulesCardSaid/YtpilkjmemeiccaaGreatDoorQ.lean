/- CcheckRules answers true: each query of its first list keeps the rules of scope, each of its second list is barred; no condition. -/
import Derived.Test.YtpilkjmemeiccaaGreatDoorQl
import Derived.Test.YtpilkjmemeiccaaGreatDoorQp
import Derived.Test.YtpilkjmemeiccaaGreatDoorQg
import Derived.Test.YtpilkjmemeiccaaGreatDoorCards
import Derived.Test.YtpilkjmemeiccaaGreatDoorTie
import Derived.ProofKit
import Derived.OpenShut
import Derived.ChangeSame
import Derived.Lib.SmallJoins
import Derived.Carry
import Derived.Lay
import Derived.LaidOnce
import Derived.SevenTiedAt
import Derived.Deep.DeepHandedRow
import Derived.Shelf.Vars
import Derived.Stop.LaidErr
import Derived.Lib.LaidTab
set_option linter.unusedSimpArgs false
set_option linter.unusedVariables false
namespace Go.Proofs.YtpilkjmemeiccaaGreatDoor
open Go Go.ChangeShapes Go.WideShapes Go.ChangeAt Go.RowKit Go.Joins

theorem ccheckRules_holds : Rows.CcheckRulesSaid :=
  OpenClaim.holds_of_wide 4 Tryz.f4 rfl rfl rfl rfl rfl rfl rfl ⟨rfl, rfl, rfl, rfl, rfl⟩ rfl rfl rfl rfl rfl (by kernel_rfl) Tryz.func4 (by
      show joinedFacts Tryz.prog 4 Tryz.f4 _ Rows.ccheckRulesRow = true
      unfold joinedFacts
      simp only [ccheckRules_place, ccheckRules_follow, ccheckRules_recur, ccheckRules_names, ccheckRules_lays, ccheckRules_enters, Bool.and_true]
      kernel_rfl)
    (of_decide_eq_true (by kernel_rfl)) (by unfold Func.isWrapper; first | (rw [if_pos (by decide +kernel)]; kernel_rfl) | (rw [if_neg (by decide +kernel)]; exact ⟨rfl, rfl⟩))
    (fun os started H enc _ => ccheckRules_lifted os started H enc)

theorem ccheckRules_card : Rows.CcheckRulesCardSaid :=
  Claim7.holds_tied_plain_at .later [] [.data, .data, .data, .data, .sentinel, .sentinel, .pinned, .pinned] true (true, "90b131d15ce87ebf27566950f0ca86cf825106b564f76c6e0b59bc94faf9c5d1") true ccheckRules_holds (fun _ h => by cases h) (by kernel_rfl) (fun _ h => by cases h) ccheckRules_row_tie rfl ⟨rfl, rfl⟩ (by kernel_rfl) rfl
    (fun f fn hf hfn => by
      obtain rfl : f = 4 := Option.some.inj ((show Tryz.prog.funcNamed "diptych/diptychlaw21.CcheckRules" = some 4 by kernel_rfl).symm.trans hf) |>.symm
      obtain rfl : fn = Tryz.f4 := (Option.some.inj (Tryz.func4.symm.trans hfn)).symm
      exact ⟨by kernel_rfl, fun j t ht => by
        rw [Tryz.params4] at ht
        have hm : t ∈ ([] : List TypeId) := by simpa using Array.mem_of_getElem? ht
        cases hm⟩)
    ccheckRules_goes
end Go.Proofs.YtpilkjmemeiccaaGreatDoor
