/- TriplesLoad answers true where what it reads is of bulk at most 1048576: any triples, which may be or not: the store, each once, in their order; what fits any patterns; what is handed in, or told, is written over; no other condition. -/
import Derived.Test.YtefhfadjajcmkaaGreatDoorKP
import Derived.Test.YtefhfadjajcmkaaGreatDoorZFp
import Derived.Test.YtefhfadjajcmkaaGreatDoorZFg
import Derived.Test.YtefhfadjajcmkaaGreatDoorCards
import Derived.Test.YtefhfadjajcmkaaGreatDoorTie
import Derived.ProofKit
import Derived.OpenShut
import Derived.ChangeSame
import Derived.Lib.SmallJoins
import Derived.Carry
import Derived.Lay
import Derived.LaidOnce
import Derived.SevenTiedAt
import Derived.Deep.DeepHandedRow
import Derived.Shelf.Vars
import Derived.Stop.LaidErr
import Derived.Lib.LaidTab
set_option linter.unusedVariables false
set_option linter.unusedSimpArgs false
namespace Go.Proofs.YtefhfadjajcmkaaGreatDoor
open Go Go.ChangeShapes Go.WideShapes Go.ChangeAt Go.RowKit Go.Joins
open Go.Lib (hid cell_of_heap)
theorem triplesLoad_holds:Rows.TriplesLoadUptoSaid:=
 OpenClaim.holds_of_cond 3 Tryz.f3 rfl rfl rfl rfl rfl rfl rfl ⟨rfl,rfl,rfl,rfl,rfl⟩ rfl rfl rfl rfl rfl (by kernel_rfl) Tryz.func3 (by
     show joinedFacts Tryz.prog 3 Tryz.f3 _ Rows.triplesLoadUptoRow=true
     unfold joinedFacts
     simp only[triplesLoad_place,triplesLoad_follow,triplesLoad_recur,triplesLoad_names,triplesLoad_lays,triplesLoad_enters,Bool.and_true]
     kernel_rfl)
  (of_decide_eq_true (by kernel_rfl)) (by unfold Func.isWrapper;first | (rw[if_pos (by decide +kernel)];kernel_rfl) | (rw[if_neg (by decide +kernel)];exact⟨rfl,rfl⟩))
  (λos started H enc _ F=>by rw[OpenClaim.pre_eq_preRow];exact triplesLoad_lifted os started H enc F)
theorem triplesLoad_card:Rows.TriplesLoadUptoCardSaid:=
 Claim7.holds_tied_plain_at .later [] _ _ _ _ triplesLoad_holds (λ_ h=>by cases h) (by kernel_rfl) (λ_ h=>by cases h) triplesLoadUpto_row_tie rfl ⟨rfl,rfl⟩ (by kernel_rfl) rfl
  (λf fn hf hfn=>by
   obtain rfl : f = 3 := Option.some.inj ((show Tryz.prog.funcNamed "diptych/diptychlaw5.TriplesLoad" = some 3 by kernel_rfl).symm.trans hf) |>.symm
   obtain rfl:fn=Tryz.f3:=(Option.some.inj (Tryz.func3.symm.trans hfn)).symm
   exact⟨by kernel_rfl,λj t ht=>by
    rw[Tryz.params3]at ht
    have hm:t∈[26]:=by simpa using Array.mem_of_getElem? ht
    have hall:([26].all λu=>!Tryz.prog.wantsStandIn u)=true:=by kernel_rfl
    exact (show Tryz.prog.wantsStandIn t=false by simpa using List.all_eq_true.1 hall t hm)⟩)
  triplesLoad_goes
end Go.Proofs.YtefhfadjajcmkaaGreatDoor
