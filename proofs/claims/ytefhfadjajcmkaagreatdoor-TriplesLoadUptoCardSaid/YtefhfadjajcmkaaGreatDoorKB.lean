/- slices.SortFunc on a row of one's own: the same elements, sorted. -/
import Derived.Test.YtefhfadjajcmkaaGreatDoorK8
import Derived.Shelf.SlSortCmp.NoneTotal
set_option linter.unusedVariables false
set_option linter.unusedSimpArgs false
set_option maxRecDepth 100000
set_option maxHeartbeats 8000000
namespace Go.Proofs.YtefhfadjajcmkaaGreatDoor
open Go Go.RowKit Go.Shelf Go.Lib Go.Sort Go.Proofs
open Go.Lib (hid cell_of_heap)
theorem sorted_turn {I:Type} [Inhabited I] {enc:I→List Value} {k:Nat} {w:World} {g n:Nat} {d:Array I} {os:Array Obj}:Turn (λb=>b=g) w (sortWorldK enc k w g 0 n d os):=by
 refine⟨rfl,rfl,rfl,by unfold sortWorldK;rw[Go.Sort.size_grow,size_putRowK];show w.heap.size≤w.heap.size+_;omega,λi hi hne=>?_⟩
 unfold sortWorldK
 rw[Go.Sort.heap_grow_old _ _ (by rw[size_putRowK];exact hi)]
 unfold putRowK
 have:g≠i:=λe=>hne e.symm
 simp[putRow,mapBlock,Sort.ahead,Array.getElem?_modify,this]
section
variable {P:Program} {ρ : Ren} {α I:Type} [Inhabited I] {R:Lies α} {w:World} {F:Nat→Prop} {l:List α} {s:Value} {sz:Nat}
end
end Go.Proofs.YtefhfadjajcmkaaGreatDoor
