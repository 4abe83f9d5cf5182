/-
  Contracts of library functions of the seat, from the kit's shelf.
-/
import Derived.Test.YtmgfidfcioiedaaProg
import Derived.Test.YtmgfidfcioiedaaFwT
import Derived.Test.YtmgfidfcioiedaaZd
namespace Go.Fg.Ytmgfidfcioiedaa
open Go.Fw Go.Proofs Go.Fw.Ytmgfidfcioiedaa
set_option linter.unusedVariables false
def Try.lays189_ren:Go.Shelf.Ren:=⟨fun | 189=>33 | 125=>45 | 257=>44 | 128=>65 | 129=>66 | 294=>56 | 295=>57 | 296=>58 | 297=>59 | 298=>60 | 299=>61 | 216=>62 | 300=>63 | 301=>64 | 328=>79 | 329=>80 | 330=>81 | 331=>82 | 332=>83 | 215=>84 | 343=>99 | n=>n,fun | 28=>34 | 3=>3 | 46=>99 | 0=>0 | 51=>126 | 53=>128 | 4=>4 | 183=>119 | 182=>118 | 131=>123 | 5=>5 | 9=>9 | 218=>142 | 222=>146 | 228=>161 | 229=>162 | n=>n,fun | n=>n⟩
theorem Try.lays189:Go.Proofs.Lays.n189 Try.prog Try.lays189_ren:={
  mixed:=by kernel_rfl
  f125:=Try.func45.trans (congrArg some (by kernel_rfl))
  f128:=Try.func65.trans (congrArg some (by kernel_rfl))
  f129:=Try.func66.trans (congrArg some (by kernel_rfl))
  f189:=Try.func33.trans (congrArg some (by kernel_rfl))
  f215:=Try.func84.trans (congrArg some (by kernel_rfl))
  f216:=Try.func62.trans (congrArg some (by kernel_rfl))
  f257:=Try.func44.trans (congrArg some (by kernel_rfl))
  f294:=Try.func56.trans (congrArg some (by kernel_rfl))
  f295:=Try.func57.trans (congrArg some (by kernel_rfl))
  f296:=Try.func58.trans (congrArg some (by kernel_rfl))
  f297:=Try.func59.trans (congrArg some (by kernel_rfl))
  f298:=Try.func60.trans (congrArg some (by kernel_rfl))
  f299:=Try.func61.trans (congrArg some (by kernel_rfl))
  f300:=Try.func63.trans (congrArg some (by kernel_rfl))
  f301:=Try.func64.trans (congrArg some (by kernel_rfl))
  f328:=Try.func79.trans (congrArg some (by kernel_rfl))
  f329:=Try.func80.trans (congrArg some (by kernel_rfl))
  f330:=Try.func81.trans (congrArg some (by kernel_rfl))
  f331:=Try.func82.trans (congrArg some (by kernel_rfl))
  f332:=Try.func83.trans (congrArg some (by kernel_rfl))
  f343:=Try.func99.trans (congrArg some (by kernel_rfl))
  t0:=Try.underlying0
  a0:=Try.isAgg0
  z0:=Try.sizeOf0
  v0:=Try.zeroValue0
  t3:=Try.underlying3
  a3:=Try.isAgg3
  z3:=Try.sizeOf3
  v3:=Try.zeroValue3
  t4:=Try.underlying4
  a4:=Try.isAgg4
  z4:=Try.sizeOf4
  v4:=Try.zeroValue4
  t5:=Try.underlying5
  a5:=Try.isAgg5
  z5:=Try.sizeOf5
  v5:=Try.zeroValue5
  t9:=Try.underlying9
  a9:=Try.isAgg9
  z9:=Try.sizeOf9
  v9:=Try.zeroValue9
  t28:=Try.underlying34
  a28:=Try.isAgg34
  z28:=Try.sizeOf34
  v28:=Try.zeroValue34
  t46:=Try.underlying99
  a46:=Try.isAgg99
  z46:=Try.sizeOf99
  v46:=Try.zeroValue99
  t51:=Try.underlying126
  a51:=Try.isAgg126
  z51:=Try.sizeOf126
  v51:=Try.zeroValue126
  t53:=Try.underlying128
  a53:=Try.isAgg128
  z53:=Try.sizeOf128
  v53:=Try.zeroValue128
  t131:=Try.underlying123
  a131:=Try.isAgg123
  z131:=Try.sizeOf123
  v131:=Try.zeroValue123
  t182:=Try.underlying118
  a182:=Try.isAgg118
  z182:=Try.sizeOf118
  v182:=Try.zeroValue118
  t183:=Try.underlying119
  a183:=Try.isAgg119
  z183:=Try.sizeOf119
  v183:=Try.zeroValue119
  t218:=Try.underlying142
  a218:=Try.isAgg142
  z218:=Try.sizeOf142
  v218:=Try.zeroValue142
  t222:=Try.underlying146
  a222:=Try.isAgg146
  z222:=Try.sizeOf146
  v222:=Try.zeroValue146
  t228:=Try.underlying161
  a228:=Try.isAgg161
  z228:=Try.sizeOf161
  v228:=Try.zeroValue161
  t229:=Try.underlying162
  a229:=Try.isAgg162
  z229:=Try.sizeOf162
  v229:=Try.zeroValue162 }
theorem aak [RE]:au Try.prog 33 VF:=XL (enters_of Try.func33 rfl rfl) (fun b off c zs w h1 h2 h3=>Any.slices_Sort_int Try.lays189 b off c zs w h1 h2 h3) (fun a c w=>Any.slices_Sort_int_none Try.lays189 a c w)
end Go.Fg.Ytmgfidfcioiedaa

