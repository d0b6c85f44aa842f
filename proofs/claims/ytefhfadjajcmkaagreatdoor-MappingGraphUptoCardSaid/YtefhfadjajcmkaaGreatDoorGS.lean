/- The shelf at this seat, laid by the kit's tool; its fields by tactics. -/
import Derived.Shelf.SlSortCmp.WholeK
import Derived.Shelf.SlSortCmp.Whole1
import Derived.Shelf.SlSorted.Search
import Derived.Test.YtefhfadjajcmkaaGreatDoorProg
namespace Go.Proofs
open Go.Shelf
theorem be_GS {P : Go.Program} {i : Nat} {B f : Go.Func} (h : P.funcs[i]? = some f) (hn : (f.name == "runtime.NumGoroutine") = false := by decide) (he : f = { B with name := f.name } := by kernel_rfl) : Bears P i B := ⟨f.name, hn, h.trans (congrArg some he)⟩
def Tryz.sortP_ren : Go.Shelf.Ren := ⟨λ| 6=>49|15=>113|14=>112|28=>170|29=>171|20=>162|21=>163|22=>164|23=>165|24=>166|25=>167|26=>168|27=>169|46=>243|47=>244|48=>245|49=>246|50=>247|57=>287|n=>n,λ| 22=>93|24=>99|25=>106|3=>3|39=>177|0=>0|53=>223|55=>225|4=>4|46=>217|45=>216|50=>162|5=>5|9=>9|66=>268|70=>272|76=>310|77=>311|n=>n,λ| n=>n⟩
theorem Tryz.sortP : Go.Proofs.SlLaysF0.n6 Tryz.prog Tryz.sortP_ren := by
 constructor
 case f6=>exact be_GS Tryz.func49
 case f14=>exact be_GS Tryz.func112
 case f20=>exact be_GS Tryz.func162
 case f21=>exact be_GS Tryz.func163
 case f22=>exact be_GS Tryz.func164
 case f23=>exact be_GS Tryz.func165
 case f24=>exact be_GS Tryz.func166
 case f25=>exact be_GS Tryz.func167
 case f26=>exact be_GS Tryz.func168
 case f27=>exact be_GS Tryz.func169
 case f46=>exact be_GS Tryz.func243
 case f49=>exact be_GS Tryz.func246
 case f50=>exact be_GS Tryz.func247
 case f57=>exact be_GS Tryz.func287
 all_goals first | kernel_rfl | (intros;kernel_rfl)
def Tryz.sortI_ren : Go.Shelf.Ren := ⟨λ| 6=>54|15=>113|14=>115|28=>170|29=>171|20=>172|21=>173|22=>174|23=>175|24=>176|25=>177|26=>178|27=>179|46=>248|47=>244|48=>245|49=>249|50=>250|57=>288|n=>n,λ| 22=>94|24=>3|25=>110|3=>3|39=>177|0=>0|53=>223|55=>225|4=>4|46=>217|45=>216|50=>162|5=>5|9=>9|66=>268|70=>272|76=>310|77=>311|n=>n,λ| n=>n⟩
theorem Tryz.sortI : Go.Proofs.SlLaysF.n6 Tryz.prog Tryz.sortI_ren := by
 constructor
 case f6=>exact be_GS Tryz.func54
 case f14=>exact be_GS Tryz.func115
 case f20=>exact be_GS Tryz.func172
 case f21=>exact be_GS Tryz.func173
 case f22=>exact be_GS Tryz.func174
 case f23=>exact be_GS Tryz.func175
 case f24=>exact be_GS Tryz.func176
 case f25=>exact be_GS Tryz.func177
 case f26=>exact be_GS Tryz.func178
 case f27=>exact be_GS Tryz.func179
 case f46=>exact be_GS Tryz.func248
 case f49=>exact be_GS Tryz.func249
 case f50=>exact be_GS Tryz.func250
 case f57=>exact be_GS Tryz.func288
 all_goals first | kernel_rfl | (intros;kernel_rfl)
def Tryz.searchL_ren : Go.Shelf.Ren := ⟨λ| 16=>120|n=>n,λ| 3=>3|35=>183|4=>4|38=>177|n=>n,λ| n=>n⟩
theorem Tryz.searchL : Go.Proofs.SlLaysO.n16 Tryz.prog Tryz.searchL_ren := by constructor <;> first | kernel_rfl | (constructor <;> first | kernel_rfl | (intros;kernel_rfl)) | (intros;kernel_rfl)
end Go.Proofs
