/- TriplesFit answers true where what it reads is of bulk at most 1048576: of a pattern just those of all triples that have its values, and the same value where it has the same name; a pattern of names alone fits all; no other condition. -/
import Derived.Test.YtefhfadjajcmkaaGreatDoorQO
import Derived.Test.YtefhfadjajcmkaaGreatDoorZCp
import Derived.Test.YtefhfadjajcmkaaGreatDoorZCg
import Derived.Test.YtefhfadjajcmkaaGreatDoorCards
import Derived.Test.YtefhfadjajcmkaaGreatDoorTie
import Derived.ProofKit
import Derived.OpenShut
import Derived.ChangeSame
import Derived.Lib.SmallJoins
import Derived.Carry
import Derived.Lay
import Derived.LaidOnce
import Derived.SevenTiedAt
import Derived.Deep.DeepHandedRow
import Derived.Shelf.Vars
import Derived.Stop.LaidErr
import Derived.Lib.LaidTab
set_option linter.unusedVariables false
set_option linter.unusedSimpArgs false
namespace Go.Proofs.YtefhfadjajcmkaaGreatDoor
open Go Go.ChangeShapes Go.WideShapes Go.ChangeAt Go.RowKit Go.Joins
open Go.Lib (hid cell_of_heap)
theorem triplesFit_holds:Rows.TriplesFitUptoSaid:=
 OpenClaim.holds_of_cond 4 Tryz.f4 rfl rfl rfl rfl rfl rfl rfl ⟨rfl,rfl,rfl,rfl,rfl⟩ rfl rfl rfl rfl rfl (by kernel_rfl) Tryz.func4 (by
     show joinedFacts Tryz.prog 4 Tryz.f4 _ Rows.triplesFitUptoRow=true
     unfold joinedFacts
     simp only[triplesFit_place,triplesFit_follow,triplesFit_recur,triplesFit_names,triplesFit_lays,triplesFit_enters,Bool.and_true]
     kernel_rfl)
  (of_decide_eq_true (by kernel_rfl)) (by unfold Func.isWrapper;first | (rw[if_pos (by decide +kernel)];kernel_rfl) | (rw[if_neg (by decide +kernel)];exact⟨rfl,rfl⟩))
  (λos started H enc _ F=>by rw[OpenClaim.pre_eq_preRow];exact triplesFit_lifted os started H enc F)
theorem triplesFit_card:Rows.TriplesFitUptoCardSaid:=
 Claim7.holds_tied_plain_at .later [] _ _ _ _ triplesFit_holds (λ_ h=>by cases h) (by kernel_rfl) (λ_ h=>by cases h) triplesFitUpto_row_tie rfl ⟨rfl,rfl⟩ (by kernel_rfl) rfl
  (λf fn hf hfn=>by
   obtain rfl : f = 4 := Option.some.inj ((show Tryz.prog.funcNamed "diptych/diptychlaw5.TriplesFit" = some 4 by kernel_rfl).symm.trans hf) |>.symm
   obtain rfl:fn=Tryz.f4:=(Option.some.inj (Tryz.func4.symm.trans hfn)).symm
   exact⟨by kernel_rfl,λj t ht=>by
    rw[Tryz.params4]at ht
    have hm:t∈[26]:=by simpa using Array.mem_of_getElem? ht
    have hall:([26].all λu=>!Tryz.prog.wantsStandIn u)=true:=by kernel_rfl
    exact (show Tryz.prog.wantsStandIn t=false by simpa using List.all_eq_true.1 hall t hm)⟩)
  triplesFit_goes
end Go.Proofs.YtefhfadjajcmkaaGreatDoor
