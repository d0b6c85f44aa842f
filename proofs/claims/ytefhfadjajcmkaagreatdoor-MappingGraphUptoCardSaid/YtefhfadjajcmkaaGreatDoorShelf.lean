/- The shelf at this seat, laid by the kit's tool; its fields by tactics. -/
import Derived.Shelf.Strings.Cut
import Derived.Shelf.Strings.Prefix
import Derived.Shelf.Strings.Repeat
import Derived.Shelf.Strings.SlTrimAscii
import Derived.Test.YtefhfadjajcmkaaGreatDoorProg
namespace Go.Proofs
open Go.Shelf
def Tryz.lays160_ren : Go.Shelf.Ren := ⟨λ| 160=>324|232=>336|231=>335|227=>337|234=>339|233=>338|236=>341|235=>340|228=>357|271=>360|151=>359|197=>358|120=>375|152=>374|260=>373|137=>386|119=>387|224=>355|225=>354|217=>353|266=>371|n=>n,λ| 9=>9|4=>4|3=>3|5=>5|117=>350|116=>349|0=>0|124=>353|21=>21|105=>375|46=>177|119=>396|139=>399|138=>398|n=>n,λ| 3=>2|4=>3|n=>n⟩
theorem Tryz.lays160 : Go.Proofs.Lays.n160 Tryz.prog Tryz.lays160_ren := by constructor <;> first | kernel_rfl | (constructor <;> first | kernel_rfl | (intros;kernel_rfl)) | (intros;kernel_rfl)
def Tryz.lays162_ren : Go.Shelf.Ren := ⟨λ| 162=>326|232=>336|227=>337|234=>339|236=>341|228=>357|271=>360|151=>359|120=>375|197=>358|152=>374|260=>373|137=>386|119=>387|224=>355|225=>354|217=>353|266=>371|n=>n,λ| 9=>9|4=>4|3=>3|5=>5|117=>350|116=>349|0=>0|124=>353|21=>21|105=>375|46=>177|119=>396|139=>399|138=>398|n=>n,λ| 3=>2|4=>3|n=>n⟩
theorem Tryz.lays162 : Go.Proofs.Lays.n162 Tryz.prog Tryz.lays162_ren := by constructor <;> first | kernel_rfl | (constructor <;> first | kernel_rfl | (intros;kernel_rfl)) | (intros;kernel_rfl)
def Tryz.lays161_ren : Go.Shelf.Ren := ⟨λ| 161=>327|231=>335|227=>337|233=>338|235=>340|228=>357|197=>358|151=>359|260=>373|152=>374|137=>386|119=>387|224=>355|225=>354|217=>353|266=>371|n=>n,λ| 9=>9|4=>4|3=>3|5=>5|117=>350|116=>349|0=>0|124=>353|105=>375|21=>21|119=>396|46=>177|139=>399|138=>398|n=>n,λ| 3=>2|4=>3|n=>n⟩
theorem Tryz.lays161 : Go.Proofs.Lays.n161 Tryz.prog Tryz.lays161_ren := by constructor <;> first | kernel_rfl | (constructor <;> first | kernel_rfl | (intros;kernel_rfl)) | (intros;kernel_rfl)
def Tryz.lays145_ren : Go.Shelf.Ren := ⟨λ| 145=>295|220=>323|219=>334|217=>353|225=>354|224=>355|267=>356|266=>371|314=>372|n=>n,λ| 9=>9|4=>4|59=>319|3=>3|5=>5|46=>177|146=>378|51=>223|n=>n,λ| 1=>0|n=>n⟩
theorem Tryz.lays145 : Go.Proofs.Lays.n145 Tryz.prog Tryz.lays145_ren := by constructor <;> first | kernel_rfl | (constructor <;> first | kernel_rfl | (intros;kernel_rfl)) | (intros;kernel_rfl)
def Tryz.lays99_ren : Go.Shelf.Ren := ⟨λ| 99=>294|206=>322|n=>n,λ| 9=>9|4=>4|3=>3|n=>n,λ| n=>n⟩
theorem Tryz.lays99 : Go.Proofs.Lays.n99 Tryz.prog Tryz.lays99_ren := by constructor <;> first | kernel_rfl | (constructor <;> first | kernel_rfl | (intros;kernel_rfl)) | (intros;kernel_rfl)
def Tryz.lays105_ren : Go.Shelf.Ren := ⟨λ| 105=>325|212=>342|99=>294|165=>343|166=>344|170=>345|169=>346|263=>361|264=>362|206=>322|240=>363|241=>364|276=>376|277=>377|n=>n,λ| 9=>9|3=>3|4=>4|20=>20|0=>0|46=>177|109=>354|5=>5|72=>358|76=>362|51=>223|146=>378|53=>225|148=>380|70=>356|37=>197|75=>361|127=>382|164=>388|80=>364|n=>n,λ| n=>n⟩
theorem Tryz.lays105 : Go.Proofs.Lays.n105 Tryz.prog Tryz.lays105_ren := by constructor <;> first | kernel_rfl | (constructor <;> first | kernel_rfl | (intros;kernel_rfl)) | (intros;kernel_rfl)
end Go.Proofs
