/-
  The plain proofs: what the functions compute answers as the law says.
-/
import Derived.Test.YtncdiffmecbcmaaFgB
import Derived.Test.YtncdiffmecbcmaaZd
set_option linter.unusedSimpArgs false
set_option linter.unusedVariables false
set_option linter.unusedSectionVars false
namespace Go.Fg.Ytncdiffmecbcmaa
open Go.Fw
theorem at0:JY true 0=some true∧JY false 0=some true:=⟨by kernel_rfl,by kernel_rfl⟩
theorem at1:JY true 1=some true∧JY false 1=some true:=⟨by kernel_rfl,by kernel_rfl⟩
theorem at2:JY true 2=some true∧JY false 2=some true:=⟨by kernel_rfl,by kernel_rfl⟩
theorem at3:JY true 3=some true∧JY false 3=some true:=⟨by kernel_rfl,by kernel_rfl⟩
theorem at4:JY true 4=some true∧JY false 4=some true:=⟨by kernel_rfl,by kernel_rfl⟩
theorem at5:JY true 5=some true∧JY false 5=some true:=⟨by kernel_rfl,by kernel_rfl⟩
theorem at6:JY true 6=some true∧JY false 6=some true:=⟨by kernel_rfl,by kernel_rfl⟩
theorem at7:JY true 7=some true∧JY false 7=some true:=⟨by kernel_rfl,by kernel_rfl⟩
theorem at8:JY true 8=some true∧JY false 8=some true:=⟨by kernel_rfl,by kernel_rfl⟩
theorem Tn (r:Bool) {t:Int} (h:0≤t∧t≤255):f3 r t=some true:=by
 unfold f3
 rw [aad (by omega),Int.tmod_eq_emod_of_nonneg h.1]
 obtain ⟨k,hk⟩ :∃k,t % 9=k:=⟨_,rfl⟩
 rw [hk]
 have:k=0∨k=1∨k=2∨k=3∨k=4∨k=5∨k=6∨k=7∨k=8:=by omega
 cases r<;>rcases this with e | e | e | e | e | e | e | e | e<;>subst e
 ·exact at0.2
 ·exact at1.2
 ·exact at2.2
 ·exact at3.2
 ·exact at4.2
 ·exact at5.2
 ·exact at6.2
 ·exact at7.2
 ·exact at8.2
 ·exact at0.1
 ·exact at1.1
 ·exact at2.1
 ·exact at3.1
 ·exact at4.1
 ·exact at5.1
 ·exact at6.1
 ·exact at7.1
 ·exact at8.1
end Go.Fg.Ytncdiffmecbcmaa

