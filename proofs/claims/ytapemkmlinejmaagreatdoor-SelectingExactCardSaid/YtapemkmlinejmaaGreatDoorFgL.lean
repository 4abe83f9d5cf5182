/-
  Contracts of library functions of the seat, from the kit's shelf.
-/
import Derived.Test.YtapemkmlinejmaaGreatDoorProg
import Derived.Test.YtapemkmlinejmaaGreatDoorFwT
import Derived.Test.YtapemkmlinejmaaGreatDoorZd
namespace Go.Fg.YtapemkmlinejmaaGreatDoor
open Go.Fw Go.Proofs Go.Fw.YtapemkmlinejmaaGreatDoor
set_option linter.unusedVariables false
def Tryz.lays189_ren:Go.Shelf.Ren:=⟨fun | 189=>34 | 125=>44 | 257=>43 | 128=>66 | 129=>67 | 294=>57 | 295=>58 | 296=>59 | 297=>60 | 298=>61 | 299=>62 | 216=>63 | 300=>64 | 301=>65 | 328=>87 | 329=>88 | 330=>89 | 331=>90 | 332=>91 | 215=>92 | 343=>106 | n=>n,fun | 28=>29 | 3=>3 | 46=>89 | 0=>0 | 51=>117 | 53=>119 | 4=>4 | 183=>109 | 182=>108 | 131=>114 | 5=>5 | 9=>9 | 218=>140 | 222=>144 | 228=>164 | 229=>37 | n=>n,fun | n=>n⟩
theorem Tryz.lays189:Go.Proofs.Lays.n189 Tryz.prog Tryz.lays189_ren:={
  mixed:=by kernel_rfl
  f125:=Tryz.func44.trans (congrArg some (by kernel_rfl))
  f128:=Tryz.func66.trans (congrArg some (by kernel_rfl))
  f129:=Tryz.func67.trans (congrArg some (by kernel_rfl))
  f189:=Tryz.func34.trans (congrArg some (by kernel_rfl))
  f215:=Tryz.func92.trans (congrArg some (by kernel_rfl))
  f216:=Tryz.func63.trans (congrArg some (by kernel_rfl))
  f257:=Tryz.func43.trans (congrArg some (by kernel_rfl))
  f294:=Tryz.func57.trans (congrArg some (by kernel_rfl))
  f295:=Tryz.func58.trans (congrArg some (by kernel_rfl))
  f296:=Tryz.func59.trans (congrArg some (by kernel_rfl))
  f297:=Tryz.func60.trans (congrArg some (by kernel_rfl))
  f298:=Tryz.func61.trans (congrArg some (by kernel_rfl))
  f299:=Tryz.func62.trans (congrArg some (by kernel_rfl))
  f300:=Tryz.func64.trans (congrArg some (by kernel_rfl))
  f301:=Tryz.func65.trans (congrArg some (by kernel_rfl))
  f328:=Tryz.func87.trans (congrArg some (by kernel_rfl))
  f329:=Tryz.func88.trans (congrArg some (by kernel_rfl))
  f330:=Tryz.func89.trans (congrArg some (by kernel_rfl))
  f331:=Tryz.func90.trans (congrArg some (by kernel_rfl))
  f332:=Tryz.func91.trans (congrArg some (by kernel_rfl))
  f343:=Tryz.func106.trans (congrArg some (by kernel_rfl))
  t0:=Tryz.underlying0
  a0:=Tryz.isAgg0
  z0:=Tryz.sizeOf0
  v0:=Tryz.zeroValue0
  t3:=Tryz.underlying3
  a3:=Tryz.isAgg3
  z3:=Tryz.sizeOf3
  v3:=Tryz.zeroValue3
  t4:=Tryz.underlying4
  a4:=Tryz.isAgg4
  z4:=Tryz.sizeOf4
  v4:=Tryz.zeroValue4
  t5:=Tryz.underlying5
  a5:=Tryz.isAgg5
  z5:=Tryz.sizeOf5
  v5:=Tryz.zeroValue5
  t9:=Tryz.underlying9
  a9:=Tryz.isAgg9
  z9:=Tryz.sizeOf9
  v9:=Tryz.zeroValue9
  t28:=Tryz.underlying29
  a28:=Tryz.isAgg29
  z28:=Tryz.sizeOf29
  v28:=Tryz.zeroValue29
  t46:=Tryz.underlying89
  a46:=Tryz.isAgg89
  z46:=Tryz.sizeOf89
  v46:=Tryz.zeroValue89
  t51:=Tryz.underlying117
  a51:=Tryz.isAgg117
  z51:=Tryz.sizeOf117
  v51:=Tryz.zeroValue117
  t53:=Tryz.underlying119
  a53:=Tryz.isAgg119
  z53:=Tryz.sizeOf119
  v53:=Tryz.zeroValue119
  t131:=Tryz.underlying114
  a131:=Tryz.isAgg114
  z131:=Tryz.sizeOf114
  v131:=Tryz.zeroValue114
  t182:=Tryz.underlying108
  a182:=Tryz.isAgg108
  z182:=Tryz.sizeOf108
  v182:=Tryz.zeroValue108
  t183:=Tryz.underlying109
  a183:=Tryz.isAgg109
  z183:=Tryz.sizeOf109
  v183:=Tryz.zeroValue109
  t218:=Tryz.underlying140
  a218:=Tryz.isAgg140
  z218:=Tryz.sizeOf140
  v218:=Tryz.zeroValue140
  t222:=Tryz.underlying144
  a222:=Tryz.isAgg144
  z222:=Tryz.sizeOf144
  v222:=Tryz.zeroValue144
  t228:=Tryz.underlying164
  a228:=Tryz.isAgg164
  z228:=Tryz.sizeOf164
  v228:=Tryz.zeroValue164
  t229:=Tryz.underlying37
  a229:=Tryz.isAgg37
  z229:=Tryz.sizeOf37
  v229:=Tryz.zeroValue37 }
theorem ac9 [RE]:au Tryz.prog 34 XU:=Z_ (enters_of Tryz.func34 rfl rfl) (fun b off c zs w h1 h2 h3=>Any.slices_Sort_int Tryz.lays189 b off c zs w h1 h2 h3) (fun a c w=>Any.slices_Sort_int_none Tryz.lays189 a c w)
end Go.Fg.YtapemkmlinejmaaGreatDoor

