/- The shelf at this seat, laid by the kit's tool; its fields by tactics. -/
import Derived.Shelf.Small.Strs
import Derived.Shelf.SlSortCmp.WholeK
import Derived.Test.YtefhfadjajcmkaaGreatDoorProg
namespace Go.Proofs
open Go.Shelf
theorem be_GZ {P : Go.Program} {i : Nat} {B f : Go.Func} (h : P.funcs[i]? = some f) (hn : (f.name == "runtime.NumGoroutine") = false := by decide) (he : f = { B with name := f.name } := by kernel_rfl) : Bears P i B := ⟨f.name, hn, h.trans (congrArg some he)⟩
def Tryz.lays106_ren : Go.Shelf.Ren := ⟨λ| 106=>225|213=>280|265=>317|n=>n,λ| 9=>9|3=>3|n=>n,λ| n=>n⟩
theorem Tryz.lays106 : Go.Proofs.Lays.n106 Tryz.prog Tryz.lays106_ren := by constructor <;> first | kernel_rfl | (constructor <;> first | kernel_rfl | (intros;kernel_rfl)) | (intros;kernel_rfl)
def Tryz.lays190_ren : Go.Shelf.Ren := ⟨λ| 190=>153|125=>113|258=>221|128=>170|129=>171|302=>269|303=>270|304=>271|305=>272|306=>273|307=>274|308=>275|309=>276|310=>277|333=>306|329=>244|330=>245|334=>307|335=>308|336=>214|344=>330|n=>n,λ| 31=>67|9=>9|3=>3|46=>177|0=>0|51=>223|53=>225|4=>4|183=>217|182=>216|131=>162|5=>5|218=>268|222=>272|228=>310|229=>311|n=>n,λ| n=>n⟩
theorem Tryz.lays190 : Go.Proofs.Lays.n190 Tryz.prog Tryz.lays190_ren := by constructor <;> first | kernel_rfl | (constructor <;> first | kernel_rfl | (intros;kernel_rfl)) | (intros;kernel_rfl)
def Tryz.gsortP_ren : Go.Shelf.Ren := ⟨λ| 6=>223|15=>113|14=>279|28=>170|29=>171|20=>309|21=>310|22=>311|23=>312|24=>313|25=>314|26=>315|27=>316|46=>331|47=>244|48=>245|49=>332|50=>333|57=>352|n=>n,λ| 22=>70|24=>69|25=>257|3=>3|39=>177|0=>0|53=>223|55=>225|4=>4|46=>217|45=>216|50=>162|5=>5|9=>9|66=>268|70=>272|76=>310|77=>311|n=>n,λ| n=>n⟩
theorem Tryz.gsortP : Go.Proofs.SlLaysF0.n6 Tryz.prog Tryz.gsortP_ren := by
 constructor
 case f6=>exact be_GZ Tryz.func223
 case f14=>exact be_GZ Tryz.func279
 case f20=>exact be_GZ Tryz.func309
 case f21=>exact be_GZ Tryz.func310
 case f22=>exact be_GZ Tryz.func311
 case f23=>exact be_GZ Tryz.func312
 case f24=>exact be_GZ Tryz.func313
 case f25=>exact be_GZ Tryz.func314
 case f26=>exact be_GZ Tryz.func315
 case f27=>exact be_GZ Tryz.func316
 case f46=>exact be_GZ Tryz.func331
 case f49=>exact be_GZ Tryz.func332
 case f50=>exact be_GZ Tryz.func333
 case f57=>exact be_GZ Tryz.func352
 all_goals first | kernel_rfl | (intros;kernel_rfl)
def Tryz.sortN_ren : Go.Shelf.Ren := ⟨λ| 6=>94|15=>113|14=>155|28=>170|29=>171|20=>226|21=>227|22=>228|23=>229|24=>230|25=>231|26=>232|27=>233|46=>281|47=>244|48=>245|49=>282|50=>283|57=>318|n=>n,λ| 22=>51|24=>72|25=>156|3=>3|39=>177|0=>0|53=>223|55=>225|4=>4|46=>217|45=>216|50=>162|5=>5|9=>9|66=>268|70=>272|76=>310|77=>311|n=>n,λ| n=>n⟩
theorem Tryz.sortN : Go.Proofs.SlLaysF0.n6 Tryz.prog Tryz.sortN_ren := by
 constructor
 case f6=>exact be_GZ Tryz.func94
 case f14=>exact be_GZ Tryz.func155
 case f20=>exact be_GZ Tryz.func226
 case f21=>exact be_GZ Tryz.func227
 case f22=>exact be_GZ Tryz.func228
 case f23=>exact be_GZ Tryz.func229
 case f24=>exact be_GZ Tryz.func230
 case f25=>exact be_GZ Tryz.func231
 case f26=>exact be_GZ Tryz.func232
 case f27=>exact be_GZ Tryz.func233
 case f46=>exact be_GZ Tryz.func281
 case f49=>exact be_GZ Tryz.func282
 case f50=>exact be_GZ Tryz.func283
 case f57=>exact be_GZ Tryz.func318
 all_goals first | kernel_rfl | (intros;kernel_rfl)
def Tryz.sortE_ren : Go.Shelf.Ren := ⟨λ| 6=>97|15=>113|14=>156|28=>170|29=>171|20=>234|21=>235|22=>236|23=>237|24=>238|25=>239|26=>240|27=>241|46=>284|47=>244|48=>245|49=>285|50=>286|57=>319|n=>n,λ| 22=>52|24=>74|25=>158|3=>3|39=>177|0=>0|53=>223|55=>225|4=>4|46=>217|45=>216|50=>162|5=>5|9=>9|66=>268|70=>272|76=>310|77=>311|n=>n,λ| n=>n⟩
theorem Tryz.sortE : Go.Proofs.SlLaysF0.n6 Tryz.prog Tryz.sortE_ren := by
 constructor
 case f6=>exact be_GZ Tryz.func97
 case f14=>exact be_GZ Tryz.func156
 case f20=>exact be_GZ Tryz.func234
 case f21=>exact be_GZ Tryz.func235
 case f22=>exact be_GZ Tryz.func236
 case f23=>exact be_GZ Tryz.func237
 case f24=>exact be_GZ Tryz.func238
 case f25=>exact be_GZ Tryz.func239
 case f26=>exact be_GZ Tryz.func240
 case f27=>exact be_GZ Tryz.func241
 case f46=>exact be_GZ Tryz.func284
 case f49=>exact be_GZ Tryz.func285
 case f50=>exact be_GZ Tryz.func286
 case f57=>exact be_GZ Tryz.func319
 all_goals first | kernel_rfl | (intros;kernel_rfl)
end Go.Proofs
