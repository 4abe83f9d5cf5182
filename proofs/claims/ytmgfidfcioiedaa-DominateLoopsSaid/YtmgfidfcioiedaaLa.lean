/-
  Chapter 11, plain: what is asked of a function.
-/
import Derived.Test.YtmgfidfcioiedaaFgB
import Derived.Test.YtmgfidfcioiedaaZd
import Derived.Test.YtmgfidfcioiedaaGe
namespace Go.Fg.Ytmgfidfcioiedaa
open Go.Fw
set_option linter.unusedVariables false
set_option linter.unusedSimpArgs false
theorem Bh {l:List Int} {a z:Nat} {v:Int} (ha:a<l.length):(l.set a v).getD z 0=if z=a then v else l.getD z 0:=by
 rw [List.getD_eq_getElem?_getD,List.getD_eq_getElem?_getD]
 by_cases h:z=a
 ·subst h;rw [List.getElem?_set_self ha,if_pos rfl];rfl
 ·rw [List.getElem?_set_ne (fun e=>h e.symm),if_neg h]
def Ends (bs:List aH):Prop :=∀b,b<bs.length→((bs.getD b aj).aU≠3→0≤(bs.getD b aj).dQ∧(bs.getD b aj).dQ<bs.length)∧((bs.getD b aj).aU=2→0≤(bs.getD b aj).bC∧(bs.getD b aj).bC<bs.length)
def TJ (bs:List aH):Prop :=∀S:Nat→Prop,S 0→(∀b,b<bs.length→S b→((bs.getD b aj).aU≠3→S (bs.getD b aj).dQ.toNat)∧((bs.getD b aj).aU=2→S (bs.getD b aj).bC.toNat))→∀b,b<bs.length→S b
end Go.Fg.Ytmgfidfcioiedaa

