/- MappingHurt answers true where what it reads is of bulk at most 1048576: any triples' graph: with a node more, a label, a property or an edge's type that is another one, it is none of the same triples' image any more; no other condition. -/
import Derived.Test.YtefhfadjajcmkaaGreatDoorHQ
import Derived.Test.YtefhfadjajcmkaaGreatDoorNZp
import Derived.Test.YtefhfadjajcmkaaGreatDoorNZg
set_option linter.unusedVariables false
set_option linter.unusedSimpArgs false
namespace Go.Proofs.YtefhfadjajcmkaaGreatDoor
open Go Go.ChangeShapes Go.WideShapes Go.ChangeAt Go.RowKit Go.Joins
open Go.Lib (cell_of_heap)
theorem mappingHurt_holds:Rows.MappingHurtUptoSaid:=
 OpenClaim.holds_of_cond 7 Tryz.f7 rfl rfl rfl rfl rfl rfl rfl ⟨rfl,rfl,rfl,rfl,rfl⟩ rfl rfl rfl rfl rfl (by kernel_rfl) Tryz.func7 (by show joinedFacts Tryz.prog 7 Tryz.f7 _ Rows.mappingHurtUptoRow=true;unfold joinedFacts;simp only[mappingHurt_place,mappingHurt_follow,mappingHurt_recur,mappingHurt_names,mappingHurt_lays,mappingHurt_enters,Bool.and_true];kernel_rfl)
  (of_decide_eq_true (by kernel_rfl)) (by unfold Func.isWrapper;first | (rw[if_pos (by decide +kernel)];kernel_rfl) | (rw[if_neg (by decide +kernel)];exact⟨rfl,rfl⟩))
  (λos a H enc _ F=>by rw[OpenClaim.pre_eq_preRow];exact mappingHurt_lifted os a H enc F)
theorem mappingHurt_card:Rows.MappingHurtUptoCardSaid:=
 Claim7.holds_tied_plain_at .later [] _ _ _ _ mappingHurt_holds (λ_ h=>by cases h) (by kernel_rfl) (λ_ h=>by cases h) mappingHurtUpto_row_tie rfl ⟨rfl,rfl⟩ (by kernel_rfl) rfl
  (λf fn hf hfn=>by
   obtain rfl : f = 7 := Option.some.inj ((show Tryz.prog.funcNamed "diptych/diptychlaw7.MappingHurt" = some 7 by kernel_rfl).symm.trans hf) |>.symm
   obtain rfl:fn=Tryz.f7:=(Option.some.inj (Tryz.func7.symm.trans hfn)).symm
   exact⟨by kernel_rfl,λj t ht=>by
    rw[Tryz.params7]at ht
    have hm:t∈[66]:=by simpa using Array.mem_of_getElem? ht
    have hall:([66].all λu=>!Tryz.prog.wantsStandIn u)=true:=by kernel_rfl
    exact (show Tryz.prog.wantsStandIn t=false by simpa using List.all_eq_true.1 hall t hm)⟩)
  mappingHurt_goes
end Go.Proofs.YtefhfadjajcmkaaGreatDoor
