/-
  Contracts of library functions of the seat, from the kit's shelf.
-/
import Derived.Test.YtdioheaklahnnaaProg
import Derived.Test.YtdioheaklahnnaaFwT
import Derived.Test.YtdioheaklahnnaaZd
namespace Go.Fg.Ytdioheaklahnnaa
open Go.Fw Go.Proofs Go.Fw.Ytdioheaklahnnaa
set_option linter.unusedVariables false
def renDel : Go.Shelf.Ren := ⟨fun | 23 => 32 | n => n, fun | 0 => 0 | 3 => 3 | 4 => 4 | 22 => 33 | n => n, fun | n => n⟩
theorem layDel : Go.Proofs.Lays2.n23 Try.prog renDel := {
  mixed := by kernel_rfl
  f23 := Try.func32.trans (congrArg some (by kernel_rfl))
  t0 := Try.underlying0
  a0 := Try.isAgg0
  z0 := Try.sizeOf0
  v0 := Try.zeroValue0
  t3 := Try.underlying3
  a3 := Try.isAgg3
  z3 := Try.sizeOf3
  v3 := Try.zeroValue3
  t4 := Try.underlying4
  a4 := Try.isAgg4
  z4 := Try.sizeOf4
  v4 := Try.zeroValue4
  t22 := Try.underlying33
  a22 := Try.isAgg33
  z22 := Try.sizeOf33
  v22 := Try.zeroValue33
  i3 := by kernel_rfl }
theorem lsound32 [RE] : TSound Try.prog 32 spDel := sound_del (enters_of Try.func32 rfl rfl) (fun b off n c i j zs w h1 h2 h3 h4 h5 h6 h7 => Any.slices_Delete_int_cells layDel b off n c i j zs w h1 h2 h3 h4 h5 h6 h7) (fun a c w => Any.slices_Delete_int_empty layDel a c w)
def renIns : Go.Shelf.Ren := ⟨fun | 21 => 33 | 27 => 34 | 28 => 35 | 35 => 36 | 39 => 37 | n => n, fun | 0 => 0 | 3 => 3 | 4 => 4 | 22 => 33 | n => n, fun | n => n⟩
theorem layIns : Go.Proofs.Lays2.n21 Try.prog renIns := {
  mixed := by kernel_rfl
  f21 := Try.func33.trans (congrArg some (by kernel_rfl))
  f27 := Try.func34.trans (congrArg some (by kernel_rfl))
  f28 := Try.func35.trans (congrArg some (by kernel_rfl))
  f35 := Try.func36.trans (congrArg some (by kernel_rfl))
  f39 := Try.func37.trans (congrArg some (by kernel_rfl))
  t0 := Try.underlying0
  a0 := Try.isAgg0
  z0 := Try.sizeOf0
  v0 := Try.zeroValue0
  t3 := Try.underlying3
  a3 := Try.isAgg3
  z3 := Try.sizeOf3
  v3 := Try.zeroValue3
  t4 := Try.underlying4
  a4 := Try.isAgg4
  z4 := Try.sizeOf4
  v4 := Try.zeroValue4
  t22 := Try.underlying33
  a22 := Try.isAgg33
  z22 := Try.sizeOf33
  v22 := Try.zeroValue33
  i3 := by kernel_rfl }
theorem lsound33 [RE] : TSound Try.prog 33 spIns := sound_ins layIns (enters_of Try.func33 rfl rfl)
end Go.Fg.Ytdioheaklahnnaa
