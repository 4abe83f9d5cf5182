/-
  Contracts of library functions of the seat, from the kit's shelf.
-/
import Derived.Test.YtdddhnagekhihaaProg
import Derived.Test.YtdddhnagekhihaaFwT
import Derived.Test.YtdddhnagekhihaaZd
namespace Go.Fg.Ytdddhnagekhihaa
open Go.Fw Go.Proofs Go.Fw.Ytdddhnagekhihaa
set_option linter.unusedVariables false
def renDel : Go.Shelf.Ren := ⟨fun | 23 => 26 | n => n, fun | 0 => 0 | 3 => 3 | 4 => 4 | 22 => 26 | n => n, fun | n => n⟩
theorem layDel : Go.Proofs.Lays2.n23 Try.prog renDel := {
  mixed := by kernel_rfl
  f23 := Try.func26.trans (congrArg some (by kernel_rfl))
  t0 := Try.underlying0
  a0 := Try.isAgg0
  z0 := Try.sizeOf0
  v0 := Try.zeroValue0
  t3 := Try.underlying3
  a3 := Try.isAgg3
  z3 := Try.sizeOf3
  v3 := Try.zeroValue3
  t4 := Try.underlying4
  a4 := Try.isAgg4
  z4 := Try.sizeOf4
  v4 := Try.zeroValue4
  t22 := Try.underlying26
  a22 := Try.isAgg26
  z22 := Try.sizeOf26
  v22 := Try.zeroValue26
  i3 := by kernel_rfl }
theorem lsound26 [RE] : TSound Try.prog 26 spDel := sound_del (enters_of Try.func26 rfl rfl) (fun b off n c i j zs w h1 h2 h3 h4 h5 h6 h7 => Any.slices_Delete_int_cells layDel b off n c i j zs w h1 h2 h3 h4 h5 h6 h7) (fun a c w => Any.slices_Delete_int_empty layDel a c w)
def renIns : Go.Shelf.Ren := ⟨fun | 21 => 27 | 27 => 36 | 28 => 37 | 35 => 41 | 39 => 53 | n => n, fun | 0 => 0 | 3 => 3 | 4 => 4 | 22 => 26 | n => n, fun | n => n⟩
theorem layIns : Go.Proofs.Lays2.n21 Try.prog renIns := {
  mixed := by kernel_rfl
  f21 := Try.func27.trans (congrArg some (by kernel_rfl))
  f27 := Try.func36.trans (congrArg some (by kernel_rfl))
  f28 := Try.func37.trans (congrArg some (by kernel_rfl))
  f35 := Try.func41.trans (congrArg some (by kernel_rfl))
  f39 := Try.func53.trans (congrArg some (by kernel_rfl))
  t0 := Try.underlying0
  a0 := Try.isAgg0
  z0 := Try.sizeOf0
  v0 := Try.zeroValue0
  t3 := Try.underlying3
  a3 := Try.isAgg3
  z3 := Try.sizeOf3
  v3 := Try.zeroValue3
  t4 := Try.underlying4
  a4 := Try.isAgg4
  z4 := Try.sizeOf4
  v4 := Try.zeroValue4
  t22 := Try.underlying26
  a22 := Try.isAgg26
  z22 := Try.sizeOf26
  v22 := Try.zeroValue26
  i3 := by kernel_rfl }
theorem lsound27 [RE] : TSound Try.prog 27 spIns := sound_ins layIns (enters_of Try.func27 rfl rfl)
def Try.lays189_ren : Go.Shelf.Ren := ⟨fun | 189 => 32 | 125 => 40 | 257 => 39 | 128 => 51 | 129 => 52 | 294 => 42 | 295 => 43 | 296 => 44 | 297 => 45 | 298 => 46 | 299 => 47 | 216 => 48 | 300 => 49 | 301 => 50 | 328 => 54 | 329 => 55 | 330 => 56 | 331 => 57 | 332 => 58 | 215 => 59 | 343 => 60 | n => n, fun | 28 => 26 | 3 => 3 | 46 => 62 | 0 => 0 | 51 => 72 | 53 => 74 | 4 => 4 | 183 => 65 | 182 => 64 | 131 => 69 | 5 => 5 | 9 => 9 | 218 => 75 | 222 => 79 | 228 => 82 | 229 => 83 | n => n, fun | n => n⟩
theorem Try.lays189 : Go.Proofs.Lays.n189 Try.prog Try.lays189_ren := {
  mixed := by kernel_rfl
  f125 := Try.func40.trans (congrArg some (by kernel_rfl))
  f128 := Try.func51.trans (congrArg some (by kernel_rfl))
  f129 := Try.func52.trans (congrArg some (by kernel_rfl))
  f189 := Try.func32.trans (congrArg some (by kernel_rfl))
  f215 := Try.func59.trans (congrArg some (by kernel_rfl))
  f216 := Try.func48.trans (congrArg some (by kernel_rfl))
  f257 := Try.func39.trans (congrArg some (by kernel_rfl))
  f294 := Try.func42.trans (congrArg some (by kernel_rfl))
  f295 := Try.func43.trans (congrArg some (by kernel_rfl))
  f296 := Try.func44.trans (congrArg some (by kernel_rfl))
  f297 := Try.func45.trans (congrArg some (by kernel_rfl))
  f298 := Try.func46.trans (congrArg some (by kernel_rfl))
  f299 := Try.func47.trans (congrArg some (by kernel_rfl))
  f300 := Try.func49.trans (congrArg some (by kernel_rfl))
  f301 := Try.func50.trans (congrArg some (by kernel_rfl))
  f328 := Try.func54.trans (congrArg some (by kernel_rfl))
  f329 := Try.func55.trans (congrArg some (by kernel_rfl))
  f330 := Try.func56.trans (congrArg some (by kernel_rfl))
  f331 := Try.func57.trans (congrArg some (by kernel_rfl))
  f332 := Try.func58.trans (congrArg some (by kernel_rfl))
  f343 := Try.func60.trans (congrArg some (by kernel_rfl))
  t0 := Try.underlying0
  a0 := Try.isAgg0
  z0 := Try.sizeOf0
  v0 := Try.zeroValue0
  t3 := Try.underlying3
  a3 := Try.isAgg3
  z3 := Try.sizeOf3
  v3 := Try.zeroValue3
  t4 := Try.underlying4
  a4 := Try.isAgg4
  z4 := Try.sizeOf4
  v4 := Try.zeroValue4
  t5 := Try.underlying5
  a5 := Try.isAgg5
  z5 := Try.sizeOf5
  v5 := Try.zeroValue5
  t9 := Try.underlying9
  a9 := Try.isAgg9
  z9 := Try.sizeOf9
  v9 := Try.zeroValue9
  t28 := Try.underlying26
  a28 := Try.isAgg26
  z28 := Try.sizeOf26
  v28 := Try.zeroValue26
  t46 := Try.underlying62
  a46 := Try.isAgg62
  z46 := Try.sizeOf62
  v46 := Try.zeroValue62
  t51 := Try.underlying72
  a51 := Try.isAgg72
  z51 := Try.sizeOf72
  v51 := Try.zeroValue72
  t53 := Try.underlying74
  a53 := Try.isAgg74
  z53 := Try.sizeOf74
  v53 := Try.zeroValue74
  t131 := Try.underlying69
  a131 := Try.isAgg69
  z131 := Try.sizeOf69
  v131 := Try.zeroValue69
  t182 := Try.underlying64
  a182 := Try.isAgg64
  z182 := Try.sizeOf64
  v182 := Try.zeroValue64
  t183 := Try.underlying65
  a183 := Try.isAgg65
  z183 := Try.sizeOf65
  v183 := Try.zeroValue65
  t218 := Try.underlying75
  a218 := Try.isAgg75
  z218 := Try.sizeOf75
  v218 := Try.zeroValue75
  t222 := Try.underlying79
  a222 := Try.isAgg79
  z222 := Try.sizeOf79
  v222 := Try.zeroValue79
  t228 := Try.underlying82
  a228 := Try.isAgg82
  z228 := Try.sizeOf82
  v228 := Try.zeroValue82
  t229 := Try.underlying83
  a229 := Try.isAgg83
  z229 := Try.sizeOf83
  v229 := Try.zeroValue83 }
theorem lsound32 [RE] : TSound Try.prog 32 spSrt := sound_srt (enters_of Try.func32 rfl rfl) (fun b off c zs w h1 h2 h3 => Any.slices_Sort_int Try.lays189 b off c zs w h1 h2 h3) (fun a c w => Any.slices_Sort_int_none Try.lays189 a c w)
def Try.laysNm220_ren : Go.Shelf.Ren := ⟨fun | 20 => 33 | n => n, fun | 22 => 26 | 3 => 3 | 4 => 4 | 0 => 0 | n => n, fun | n => n⟩
theorem Try.laysNm220 : Go.Proofs.Lays2.n20 Try.prog Try.laysNm220_ren := {
  mixed := by kernel_rfl
  f20 := Try.func33.trans (congrArg some (by kernel_rfl))
  t0 := Try.underlying0
  a0 := Try.isAgg0
  z0 := Try.sizeOf0
  v0 := Try.zeroValue0
  t3 := Try.underlying3
  a3 := Try.isAgg3
  z3 := Try.sizeOf3
  v3 := Try.zeroValue3
  t4 := Try.underlying4
  a4 := Try.isAgg4
  z4 := Try.sizeOf4
  v4 := Try.zeroValue4
  t22 := Try.underlying26
  a22 := Try.isAgg26
  z22 := Try.sizeOf26
  v22 := Try.zeroValue26
  i3 := by kernel_rfl }
theorem lsound33 [RE] : TSound Try.prog 33 spCmp := sound_cmp (enters_of Try.func33 rfl rfl) (fun b off m c zs w h1 h2 h3 h4 h5 => Any.slices_Compact_int_cells Try.laysNm220 b off m c zs w h1 h2 h3 h4 h5) (fun a c w => Any.slices_Compact_int_empty Try.laysNm220 a c w)
end Go.Fg.Ytdddhnagekhihaa
