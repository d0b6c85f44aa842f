/- MappingGraph answers true where what it reads is of bulk at most 1048576: any triples: the graph, or the refusal, is the document's; what is handed in stays; no other condition. -/
import Derived.Test.YtefhfadjajcmkaaGreatDoorOB
import Derived.Test.YtefhfadjajcmkaaGreatDoorMZp
import Derived.Test.YtefhfadjajcmkaaGreatDoorMZg
set_option linter.unusedVariables false
set_option linter.unusedSimpArgs false
namespace Go.Proofs.YtefhfadjajcmkaaGreatDoor
open _root_.Go.Proofs.Tryz
open Go.Act renaming put→VK
open _root_.Go.Proofs.Tryz renaming prog→QW
open Go.Lib renaming cell_of_heap→QX
open Go Go.ChangeShapes Go.WideShapes Go.ChangeAt Go.RowKit Go.Joins
open Go.Lib (cell_of_heap)
theorem mappingGraph_holds:Rows.MappingGraphUptoSaid:=
 OpenClaim.holds_of_cond 5 Tryz.f5 rfl rfl rfl rfl rfl rfl rfl ⟨rfl,rfl,rfl,rfl,rfl⟩ rfl rfl rfl rfl rfl (by kernel_rfl) func5 (by show joinedFacts QW 5 Tryz.f5 _ Rows.mappingGraphUptoRow=true;unfold joinedFacts;simp only[mappingGraph_place,mappingGraph_follow,mappingGraph_recur,mappingGraph_names,mappingGraph_lays,mappingGraph_enters,Bool.and_true];kernel_rfl)
  (of_decide_eq_true (by kernel_rfl)) (by unfold Func.isWrapper;first | (rw[iP_ (by decide +kernel)];kernel_rfl) | (rw[iN_ (by decide +kernel)];exact⟨rfl,rfl⟩))
  (λos a H enc _ F=>by rw[OpenClaim.pre_eq_preRow];exact mappingGraph_lifted os a H enc F)
theorem mappingGraph_card:Rows.MappingGraphUptoCardSaid:=
 Claim7.holds_tied_plain_at .later [] _ _ _ _ mappingGraph_holds (λ_ h=>by cases h) (by kernel_rfl) (λ_ h=>by cases h) mappingGraphUpto_row_tie rfl ⟨rfl,rfl⟩ (by kernel_rfl) rfl
  (λf fn hf hfn=>by
   obtain rfl : f = 5 := Option.some.inj ((show Tryz.prog.funcNamed "diptych/diptychlaw7.MappingGraph" = some 5 by kernel_rfl).symm.trans hf) |>.symm
   obtain rfl:fn=Tryz.f5:=(Option.some.inj (func5.symm.trans hfn)).symm
   exact⟨by kernel_rfl,λj t ht=>by
    rw[params5]at ht
    have hm:t∈[22]:=by simpa using Array.mem_of_getElem? ht
    have hall:([22].all λu=>!Tryz.prog.wantsStandIn u)=true:=by kernel_rfl
    exact (show Tryz.prog.wantsStandIn t=false by simpa using List.all_eq_true.1 hall t hm)⟩)
  mappingGraph_goes
end Go.Proofs.YtefhfadjajcmkaaGreatDoor
