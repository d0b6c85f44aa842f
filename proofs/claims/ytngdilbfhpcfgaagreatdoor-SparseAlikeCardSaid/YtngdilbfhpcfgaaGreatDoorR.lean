/- SparseAlike answers true: each of its pairs of texts is parsed as the same query, and each text of its second list is refused; no condition. -/
import Derived.Test.YtngdilbfhpcfgaaGreatDoorRl
import Derived.Test.YtngdilbfhpcfgaaGreatDoorRp
import Derived.Test.YtngdilbfhpcfgaaGreatDoorRg
import Derived.Test.YtngdilbfhpcfgaaGreatDoorCards
import Derived.Test.YtngdilbfhpcfgaaGreatDoorTie
import Derived.ProofKit
import Derived.OpenShut
import Derived.ChangeSame
import Derived.Lib.SmallJoins
import Derived.Carry
import Derived.Lay
import Derived.LaidOnce
import Derived.SevenTiedAt
import Derived.Deep.DeepHandedRow
import Derived.Shelf.Vars
import Derived.Stop.LaidErr
import Derived.Lib.LaidTab
set_option linter.unusedSimpArgs false
set_option linter.unusedVariables false
namespace Go.Proofs.YtngdilbfhpcfgaaGreatDoor
open Go Go.ChangeShapes Go.WideShapes Go.ChangeAt Go.RowKit Go.Joins

theorem sparseAlike_holds : Rows.SparseAlikeSaid :=
  OpenClaim.holds_of_wide 3 Tryz.f3 rfl rfl rfl rfl rfl rfl rfl ⟨rfl, rfl, rfl, rfl, rfl⟩ rfl rfl rfl rfl rfl (by kernel_rfl) Tryz.func3 (by
      show joinedFacts Tryz.prog 3 Tryz.f3 _ Rows.sparseAlikeRow = true
      unfold joinedFacts
      simp only [sparseAlike_place, sparseAlike_follow, sparseAlike_recur, sparseAlike_names, sparseAlike_lays, sparseAlike_enters, Bool.and_true]
      kernel_rfl)
    (of_decide_eq_true (by kernel_rfl)) (by unfold Func.isWrapper; first | (rw [if_pos (by decide +kernel)]; kernel_rfl) | (rw [if_neg (by decide +kernel)]; exact ⟨rfl, rfl⟩))
    (fun os started H enc _ => sparseAlike_lifted os started H enc)

theorem sparseAlike_card : Rows.SparseAlikeCardSaid :=
  Claim7.holds_tied_plain_at .later [] [.data, .data, .data, .data, .sentinel, .sentinel, .pinned] true (true, "1ecfd9a1835962c984d102194abe11d4a3aba813832562464657b4a186636eb9") true sparseAlike_holds (fun _ h => by cases h) (by kernel_rfl) (fun _ h => by cases h) sparseAlike_row_tie rfl ⟨rfl, rfl⟩ (by kernel_rfl) rfl
    (fun f fn hf hfn => by
      obtain rfl : f = 3 := Option.some.inj ((show Tryz.prog.funcNamed "diptych/diptychlaw23.SparseAlike" = some 3 by kernel_rfl).symm.trans hf) |>.symm
      obtain rfl : fn = Tryz.f3 := (Option.some.inj (Tryz.func3.symm.trans hfn)).symm
      exact ⟨by kernel_rfl, fun j t ht => by
        rw [Tryz.params3] at ht
        have hm : t ∈ ([] : List TypeId) := by simpa using Array.mem_of_getElem? ht
        cases hm⟩)
    sparseAlike_goes
end Go.Proofs.YtngdilbfhpcfgaaGreatDoor
