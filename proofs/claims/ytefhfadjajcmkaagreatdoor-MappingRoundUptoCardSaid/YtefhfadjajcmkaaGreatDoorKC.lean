/- MappingRound answers true where what it reads is of bulk at most 1048576: triples, mapped to a graph and back, are the same, each once, in their order; the graph may be; there is a node for each value, an edge for each triple, A6_ the nodes of its parts; no other condition. -/
import Derived.Test.YtefhfadjajcmkaaGreatDoorKB
import Derived.Test.YtefhfadjajcmkaaGreatDoorPZp
import Derived.Test.YtefhfadjajcmkaaGreatDoorPZg
set_option linter.unusedVariables false
set_option linter.unusedSimpArgs false
namespace Go.Proofs.YtefhfadjajcmkaaGreatDoor
open _root_.Go.Proofs.Tryz renaming prog→QW
open Go.Lib renaming cell_of_heap→QX
open Go Go.ChangeShapes Go.WideShapes Go.ChangeAt Go.RowKit Go.Joins
open Go.Lib (cell_of_heap)
theorem mappingRound_holds:Rows.MappingRoundUptoSaid:=
 OpenClaim.holds_of_cond 8 Tryz.f8 rfl rfl rfl rfl rfl rfl rfl ⟨rfl,rfl,rfl,rfl,rfl⟩ rfl rfl rfl rfl rfl (by kernel_rfl) Tryz.func8 (by show joinedFacts QW 8 Tryz.f8 _ Rows.mappingRoundUptoRow=true;unfold joinedFacts;simp only[mappingRound_place,mappingRound_follow,mappingRound_recur,mappingRound_names,mappingRound_lays,mappingRound_enters,Bool.and_true];kernel_rfl)
  (of_decide_eq_true (by kernel_rfl)) (by unfold Func.isWrapper;first | (rw[if_pos (by decide +kernel)];kernel_rfl) | (rw[if_neg (by decide +kernel)];exact⟨rfl,rfl⟩))
  (λos a H enc _ F=>by rw[OpenClaim.pre_eq_preRow];exact mappingRound_lifted os a H enc F)
theorem mappingRound_card:Rows.MappingRoundUptoCardSaid:=
 Claim7.holds_tied_plain_at .later [] _ _ _ _ mappingRound_holds (λ_ h=>by cases h) (by kernel_rfl) (λ_ h=>by cases h) mappingRoundUpto_row_tie rfl ⟨rfl,rfl⟩ (by kernel_rfl) rfl
  (λf fn hf hfn=>by
   obtain rfl : f = 8 := Option.some.inj ((show Tryz.prog.funcNamed "diptych/diptychlaw7.MappingRound" = some 8 by kernel_rfl).symm.trans hf) |>.symm
   obtain rfl:fn=Tryz.f8:=(Option.some.inj (Tryz.func8.symm.trans hfn)).symm
   exact⟨by kernel_rfl,λj t ht=>by
    rw[Tryz.params8]at ht
    have hm:t∈[22]:=by simpa using Array.mem_of_getElem? ht
    have hall:([22].all λu=>!Tryz.prog.wantsStandIn u)=true:=by kernel_rfl
    exact (show Tryz.prog.wantsStandIn t=false by simpa using List.all_eq_true.1 hall t hm)⟩)
  mappingRound_goes
end Go.Proofs.YtefhfadjajcmkaaGreatDoor
