/- The shelf at this seat, laid by the kit's tool; its fields by tactics. -/
import Derived.Shelf.SlSortCmp.WholeK
import Derived.Test.YtefhfadjajcmkaaGreatDoorProg
namespace Go.Proofs
open Go.Shelf
theorem be_GV {P : Go.Program} {i : Nat} {B f : Go.Func} (h : P.funcs[i]? = some f) (hn : (f.name == "runtime.NumGoroutine") = false := by decide) (he : f = { B with name := f.name } := by kernel_rfl) : Bears P i B := ⟨f.name, hn, h.trans (congrArg some he)⟩
def Tryz.sortV_ren : Go.Shelf.Ren := ⟨λ| 6=>66|15=>113|14=>125|28=>170|29=>171|20=>203|21=>204|22=>205|23=>206|24=>207|25=>208|26=>209|27=>210|46=>261|47=>244|48=>245|49=>262|50=>263|57=>300|n=>n,λ| 22=>37|24=>39|25=>120|3=>3|39=>177|0=>0|53=>223|55=>225|4=>4|46=>217|45=>216|50=>162|5=>5|9=>9|66=>268|70=>272|76=>310|77=>311|n=>n,λ| n=>n⟩
theorem Tryz.sortV : Go.Proofs.SlLaysF0.n6 Tryz.prog Tryz.sortV_ren := by
 constructor
 case f6=>exact be_GV Tryz.func66
 case f14=>exact be_GV Tryz.func125
 case f20=>exact be_GV Tryz.func203
 case f21=>exact be_GV Tryz.func204
 case f22=>exact be_GV Tryz.func205
 case f23=>exact be_GV Tryz.func206
 case f24=>exact be_GV Tryz.func207
 case f25=>exact be_GV Tryz.func208
 case f26=>exact be_GV Tryz.func209
 case f27=>exact be_GV Tryz.func210
 case f46=>exact be_GV Tryz.func261
 case f49=>exact be_GV Tryz.func262
 case f50=>exact be_GV Tryz.func263
 case f57=>exact be_GV Tryz.func300
 all_goals first | kernel_rfl | (intros;kernel_rfl)
end Go.Proofs
