/- MappingHops answers true where what it reads is of bulk at most 1048576: the triples that have a value as S, and a type, are the edges of that type that leave its node; as O, those that come to it; no other condition. -/
import Derived.Test.YtefhfadjajcmkaaGreatDoorJP
import Derived.Test.YtefhfadjajcmkaaGreatDoorOZp
import Derived.Test.YtefhfadjajcmkaaGreatDoorOZg
set_option linter.unusedVariables false
set_option linter.unusedSimpArgs false
namespace Go.Proofs.YtefhfadjajcmkaaGreatDoor
open Go Go.ChangeShapes Go.WideShapes Go.ChangeAt Go.RowKit Go.Joins
open Go.Lib (cell_of_heap)
theorem mappingHops_holds:Rows.MappingHopsUptoSaid:=
 OpenClaim.holds_of_cond 9 Tryz.f9 rfl rfl rfl rfl rfl rfl rfl ⟨rfl,rfl,rfl,rfl,rfl⟩ rfl rfl rfl rfl rfl (by kernel_rfl) Tryz.func9 (by show joinedFacts Tryz.prog 9 Tryz.f9 _ Rows.mappingHopsUptoRow=true;unfold joinedFacts;simp only[mappingHops_place,mappingHops_follow,mappingHops_recur,mappingHops_names,mappingHops_lays,mappingHops_enters,Bool.and_true];kernel_rfl)
  (of_decide_eq_true (by kernel_rfl)) (by unfold Func.isWrapper;first | (rw[if_pos (by decide +kernel)];kernel_rfl) | (rw[if_neg (by decide +kernel)];exact⟨rfl,rfl⟩))
  (λos a H enc _ F=>by rw[OpenClaim.pre_eq_preRow];exact mappingHops_lifted os a H enc F)
theorem mappingHops_card:Rows.MappingHopsUptoCardSaid:=
 Claim7.holds_tied_plain_at .later [] _ _ _ _ mappingHops_holds (λ_ h=>by cases h) (by kernel_rfl) (λ_ h=>by cases h) mappingHopsUpto_row_tie rfl ⟨rfl,rfl⟩ (by kernel_rfl) rfl
  (λf fn hf hfn=>by
   obtain rfl : f = 9 := Option.some.inj ((show Tryz.prog.funcNamed "diptych/diptychlaw7.MappingHops" = some 9 by kernel_rfl).symm.trans hf) |>.symm
   obtain rfl:fn=Tryz.f9:=(Option.some.inj (Tryz.func9.symm.trans hfn)).symm
   exact⟨by kernel_rfl,λj t ht=>by
    rw[Tryz.params9]at ht
    have hm:t∈[22]:=by simpa using Array.mem_of_getElem? ht
    have hall:([22].all λu=>!Tryz.prog.wantsStandIn u)=true:=by kernel_rfl
    exact (show Tryz.prog.wantsStandIn t=false by simpa using List.all_eq_true.1 hall t hm)⟩)
  mappingHops_goes
end Go.Proofs.YtefhfadjajcmkaaGreatDoor
