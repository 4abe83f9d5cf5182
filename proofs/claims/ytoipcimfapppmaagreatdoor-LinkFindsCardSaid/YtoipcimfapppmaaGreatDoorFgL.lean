/-
  Contracts of library functions of the seat, from the kit's shelf.
-/
import Derived.Test.YtoipcimfapppmaaGreatDoorProg
import Derived.Test.YtoipcimfapppmaaGreatDoorFwT
import Derived.Test.YtoipcimfapppmaaGreatDoorZd
open Option renaming some->zw,none->zz
open Bool renaming true->zj,false->zv
namespace Go.Fg.YtoipcimfapppmaaGreatDoor
open Go.Fw Go.Proofs Go.Fw.YtoipcimfapppmaaGreatDoor
set_option linter.unusedVariables false
def Tryz.lays189_ren:Go.Shelf.Ren:=⟨λ| 189=>52|125=>84|257=>83|128=>114|129=>115|294=>105|295=>106|296=>107|297=>108|298=>109|299=>110|216=>111|300=>112|301=>113|328=>129|329=>130|330=>131|331=>132|332=>133|215=>134|343=>149|n=>n,λ| 28=>31|3=>3|46=>126|0=>0|51=>173|53=>87|4=>4|183=>166|182=>165|131=>59|5=>5|9=>9|218=>189|222=>193|228=>207|229=>208|n=>n,λ| n=>n⟩
theorem Tryz.lays189:Go.Proofs.Lays.n189 Tryz.prog Tryz.lays189_ren:={
  mixed:=by kernel_rfl
  f125:=Tryz.func84.trans (W2 zw (by kernel_rfl))
  f128:=Tryz.func114.trans (W2 zw (by kernel_rfl))
  f129:=Tryz.func115.trans (W2 zw (by kernel_rfl))
  f189:=Tryz.func52.trans (W2 zw (by kernel_rfl))
  f215:=Tryz.func134.trans (W2 zw (by kernel_rfl))
  f216:=Tryz.func111.trans (W2 zw (by kernel_rfl))
  f257:=Tryz.func83.trans (W2 zw (by kernel_rfl))
  f294:=Tryz.func105.trans (W2 zw (by kernel_rfl))
  f295:=Tryz.func106.trans (W2 zw (by kernel_rfl))
  f296:=Tryz.func107.trans (W2 zw (by kernel_rfl))
  f297:=Tryz.func108.trans (W2 zw (by kernel_rfl))
  f298:=Tryz.func109.trans (W2 zw (by kernel_rfl))
  f299:=Tryz.func110.trans (W2 zw (by kernel_rfl))
  f300:=Tryz.func112.trans (W2 zw (by kernel_rfl))
  f301:=Tryz.func113.trans (W2 zw (by kernel_rfl))
  f328:=Tryz.func129.trans (W2 zw (by kernel_rfl))
  f329:=Tryz.func130.trans (W2 zw (by kernel_rfl))
  f330:=Tryz.func131.trans (W2 zw (by kernel_rfl))
  f331:=Tryz.func132.trans (W2 zw (by kernel_rfl))
  f332:=Tryz.func133.trans (W2 zw (by kernel_rfl))
  f343:=Tryz.func149.trans (W2 zw (by kernel_rfl))
  t0:=Tryz.underlying0
  a0:=Tryz.isAgg0
  z0:=Tryz.sizeOf0
  v0:=Tryz.zeroValue0
  t3:=Tryz.underlying3
  a3:=Tryz.isAgg3
  z3:=Tryz.sizeOf3
  v3:=Tryz.zeroValue3
  t4:=Tryz.underlying4
  a4:=Tryz.isAgg4
  z4:=Tryz.sizeOf4
  v4:=Tryz.zeroValue4
  t5:=Tryz.underlying5
  a5:=Tryz.isAgg5
  z5:=Tryz.sizeOf5
  v5:=Tryz.zeroValue5
  t9:=Tryz.underlying9
  a9:=Tryz.isAgg9
  z9:=Tryz.sizeOf9
  v9:=Tryz.zeroValue9
  t28:=Tryz.underlying31
  a28:=Tryz.isAgg31
  z28:=Tryz.sizeOf31
  v28:=Tryz.zeroValue31
  t46:=Tryz.underlying126
  a46:=Tryz.isAgg126
  z46:=Tryz.sizeOf126
  v46:=Tryz.zeroValue126
  t51:=Tryz.underlying173
  a51:=Tryz.isAgg173
  z51:=Tryz.sizeOf173
  v51:=Tryz.zeroValue173
  t53:=Tryz.underlying87
  a53:=Tryz.isAgg87
  z53:=Tryz.sizeOf87
  v53:=Tryz.zeroValue87
  t131:=Tryz.underlying59
  a131:=Tryz.isAgg59
  z131:=Tryz.sizeOf59
  v131:=Tryz.zeroValue59
  t182:=Tryz.underlying165
  a182:=Tryz.isAgg165
  z182:=Tryz.sizeOf165
  v182:=Tryz.zeroValue165
  t183:=Tryz.underlying166
  a183:=Tryz.isAgg166
  z183:=Tryz.sizeOf166
  v183:=Tryz.zeroValue166
  t218:=Tryz.underlying189
  a218:=Tryz.isAgg189
  z218:=Tryz.sizeOf189
  v218:=Tryz.zeroValue189
  t222:=Tryz.underlying193
  a222:=Tryz.isAgg193
  z222:=Tryz.sizeOf193
  v222:=Tryz.zeroValue193
  t228:=Tryz.underlying207
  a228:=Tryz.isAgg207
  z228:=Tryz.sizeOf207
  v228:=Tryz.zeroValue207
  t229:=Tryz.underlying208
  a229:=Tryz.isAgg208
  z229:=Tryz.sizeOf208
  v229:=Tryz.zeroValue208 }
theorem afZ[RE]:aA Tryz.prog 52 aad:=acX (enters_of Tryz.func52 rfl rfl) (λb off c d w g h j=>Any.slices_Sort_int Tryz.lays189 b off c d w g h j) (λa c w=>Any.slices_Sort_int_none Tryz.lays189 a c w)
end Go.Fg.YtoipcimfapppmaaGreatDoor

