/- The shelf at this seat, laid by the kit's tool; its fields by tactics. -/
import Derived.Shelf.Strconv.Itoa4
import Derived.Shelf.Pu.ParseUintPublic10
import Derived.Shelf.Small.Wraps
import Derived.Test.YtefhfadjajcmkaaGreatDoorProg
namespace Go.Proofs
open Go.Shelf
def Tryz.laysM173_ren : Go.Shelf.Ren := ⟨λ| 173=>305|246=>329|283=>348|284=>349|285=>350|286=>351|129=>171|317=>367|318=>368|319=>369|320=>370|337=>384|338=>385|n=>n,λ| 2=>2|3=>3|9=>9|4=>4|171=>368|0=>0|53=>225|37=>197|5=>5|173=>370|212=>384|51=>223|20=>20|213=>385|46=>177|232=>405|233=>406|n=>n,λ| 17=>1|18=>6|19=>7|n=>n⟩
theorem Tryz.laysM173 : Go.Proofs.LaysM.n173 Tryz.prog Tryz.laysM173_ren := by constructor <;> first | kernel_rfl | (constructor <;> first | kernel_rfl | (intros;kernel_rfl)) | (intros;kernel_rfl)
def Tryz.laysPu14_ren : Go.Shelf.Ren := ⟨λ| 14=>347|16=>365|17=>366|19=>378|20=>379|21=>380|22=>381|23=>382|24=>383|25=>388|27=>390|26=>389|28=>391|29=>329|30=>348|31=>349|32=>350|33=>351|35=>171|34=>367|36=>368|37=>369|38=>370|39=>384|40=>385|n=>n,λ| 9=>9|3=>3|22=>225|24=>361|25=>365|4=>4|34=>391|5=>5|36=>177|37=>197|0=>0|39=>393|21=>21|44=>403|47=>382|50=>409|48=>407|2=>2|52=>368|55=>370|59=>384|60=>223|20=>20|61=>385|65=>405|66=>406|67=>364|n=>n,λ| 0=>4|1=>5|2=>1|3=>6|4=>7|n=>n⟩
theorem Tryz.laysPu14 : Go.Proofs.LaysPu.n14 Tryz.prog Tryz.laysPu14_ren := by constructor <;> first | kernel_rfl | (constructor <;> first | kernel_rfl | (intros;kernel_rfl)) | (intros;kernel_rfl)
def Tryz.lays122_ren : Go.Shelf.Ren := ⟨λ| 122=>126|215=>211|n=>n,λ| 3=>3|4=>4|n=>n,λ| n=>n⟩
theorem Tryz.lays122 : Go.Proofs.Lays.n122 Tryz.prog Tryz.lays122_ren := by constructor <;> first | kernel_rfl | (constructor <;> first | kernel_rfl | (intros;kernel_rfl)) | (intros;kernel_rfl)
end Go.Proofs
