/-
  Contracts of library functions of the seat, from the kit's shelf.
-/
import Derived.Test.YtfakmncecjicbaaGreatProg
import Derived.Test.YtfakmncecjicbaaGreatFwT
import Derived.Test.YtfakmncecjicbaaGreatZd
namespace Go.Fg.YtfakmncecjicbaaGreat
open Go.Fw Go.Proofs Go.Fw.YtfakmncecjicbaaGreat
set_option linter.unusedVariables false
def Tryz.lays189_ren:Go.Shelf.Ren:=⟨λ| 189=>33|125=>46|257=>45|128=>66|129=>67|294=>57|295=>58|296=>59|297=>60|298=>61|299=>62|216=>63|300=>64|301=>65|328=>78|329=>79|330=>80|331=>81|332=>82|215=>83|343=>96|n=>n,λ| 28=>35|3=>3|46=>89|0=>0|51=>115|53=>117|4=>4|183=>108|182=>107|131=>112|5=>5|9=>9|218=>135|222=>139|228=>155|229=>156|n=>n,λ| n=>n⟩
theorem Tryz.lays189:Go.Proofs.Lays.n189 Tryz.prog Tryz.lays189_ren:={
  mixed:=by kernel_rfl
  f125:=Tryz.func46.trans (ZS some (by kernel_rfl))
  f128:=Tryz.func66.trans (ZS some (by kernel_rfl))
  f129:=Tryz.func67.trans (ZS some (by kernel_rfl))
  f189:=Tryz.func33.trans (ZS some (by kernel_rfl))
  f215:=Tryz.func83.trans (ZS some (by kernel_rfl))
  f216:=Tryz.func63.trans (ZS some (by kernel_rfl))
  f257:=Tryz.func45.trans (ZS some (by kernel_rfl))
  f294:=Tryz.func57.trans (ZS some (by kernel_rfl))
  f295:=Tryz.func58.trans (ZS some (by kernel_rfl))
  f296:=Tryz.func59.trans (ZS some (by kernel_rfl))
  f297:=Tryz.func60.trans (ZS some (by kernel_rfl))
  f298:=Tryz.func61.trans (ZS some (by kernel_rfl))
  f299:=Tryz.func62.trans (ZS some (by kernel_rfl))
  f300:=Tryz.func64.trans (ZS some (by kernel_rfl))
  f301:=Tryz.func65.trans (ZS some (by kernel_rfl))
  f328:=Tryz.func78.trans (ZS some (by kernel_rfl))
  f329:=Tryz.func79.trans (ZS some (by kernel_rfl))
  f330:=Tryz.func80.trans (ZS some (by kernel_rfl))
  f331:=Tryz.func81.trans (ZS some (by kernel_rfl))
  f332:=Tryz.func82.trans (ZS some (by kernel_rfl))
  f343:=Tryz.func96.trans (ZS some (by kernel_rfl))
  t0:=Tryz.underlying0
  a0:=Tryz.isAgg0
  z0:=Tryz.sizeOf0
  v0:=Tryz.zeroValue0
  t3:=Tryz.underlying3
  a3:=Tryz.isAgg3
  z3:=Tryz.sizeOf3
  v3:=Tryz.zeroValue3
  t4:=Tryz.underlying4
  a4:=Tryz.isAgg4
  z4:=Tryz.sizeOf4
  v4:=Tryz.zeroValue4
  t5:=Tryz.underlying5
  a5:=Tryz.isAgg5
  z5:=Tryz.sizeOf5
  v5:=Tryz.zeroValue5
  t9:=Tryz.underlying9
  a9:=Tryz.isAgg9
  z9:=Tryz.sizeOf9
  v9:=Tryz.zeroValue9
  t28:=Tryz.underlying35
  a28:=Tryz.isAgg35
  z28:=Tryz.sizeOf35
  v28:=Tryz.zeroValue35
  t46:=Tryz.underlying89
  a46:=Tryz.isAgg89
  z46:=Tryz.sizeOf89
  v46:=Tryz.zeroValue89
  t51:=Tryz.underlying115
  a51:=Tryz.isAgg115
  z51:=Tryz.sizeOf115
  v51:=Tryz.zeroValue115
  t53:=Tryz.underlying117
  a53:=Tryz.isAgg117
  z53:=Tryz.sizeOf117
  v53:=Tryz.zeroValue117
  t131:=Tryz.underlying112
  a131:=Tryz.isAgg112
  z131:=Tryz.sizeOf112
  v131:=Tryz.zeroValue112
  t182:=Tryz.underlying107
  a182:=Tryz.isAgg107
  z182:=Tryz.sizeOf107
  v182:=Tryz.zeroValue107
  t183:=Tryz.underlying108
  a183:=Tryz.isAgg108
  z183:=Tryz.sizeOf108
  v183:=Tryz.zeroValue108
  t218:=Tryz.underlying135
  a218:=Tryz.isAgg135
  z218:=Tryz.sizeOf135
  v218:=Tryz.zeroValue135
  t222:=Tryz.underlying139
  a222:=Tryz.isAgg139
  z222:=Tryz.sizeOf139
  v222:=Tryz.zeroValue139
  t228:=Tryz.underlying155
  a228:=Tryz.isAgg155
  z228:=Tryz.sizeOf155
  v228:=Tryz.zeroValue155
  t229:=Tryz.underlying156
  a229:=Tryz.isAgg156
  z229:=Tryz.sizeOf156
  v229:=Tryz.zeroValue156 }
theorem ab9[RE]:au Tryz.prog 33 Xt:=Zu (enters_of Tryz.func33 rfl rfl) (λb off c zs w h1 h2 h3=>Any.slices_Sort_int Tryz.lays189 b off c zs w h1 h2 h3) (λa c w=>Any.slices_Sort_int_none Tryz.lays189 a c w)
end Go.Fg.YtfakmncecjicbaaGreat

