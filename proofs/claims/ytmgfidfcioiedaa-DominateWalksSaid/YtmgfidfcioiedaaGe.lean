/-
  Chapter 11, plain: loops.
-/
import Derived.Test.YtmgfidfcioiedaaGd
namespace Go.Fg.Ytmgfidfcioiedaa
set_option linter.unusedVariables false
set_option linter.unusedSimpArgs false
inductive Lp (E:Nat→Nat→Prop) (h:Nat):Nat→Prop
 |src {s:Nat}:E s h→Dom E h s→s≠h→Lp E h s
 |pre {u v:Nat}:Lp E h v→E u v→u≠h→Lp E h u
def XQ (E:Nat→Nat→Prop) (h x:Nat):Prop:=(x=h∧∃s,E s h∧Dom E h s)∨Lp E h x
section
variable {n:Nat} {E:Nat→Nat→Prop} {rk:Nat→Nat}
theorem Lp.ne {h x:Nat} (hl:Lp E h x):x≠h:=by
 cases hl with
 |src _ _ h=>exact h
 |pre _ _ h=>exact h
theorem Lp.ex {h x:Nat} (hl:Lp E h x) :∃s,E s h∧Dom E h s:=by
 induction hl with
 |src h1 h2 _=>exact ⟨_,h1,h2⟩
 |pre _ _ _ ih=>exact ih
theorem Lp.dom {h x:Nat} (hl:Lp E h x):Dom E h x:=by
 induction hl with
 |src _ h2 _=>exact h2
 |pre hv he _ ih=>exact A_ ih he fun e=>hv.ne e.symm
theorem XQ.dom {h x:Nat} (hl:XQ E h x):Dom E h x:=by
 rcases hl with ⟨e,_⟩ | hl
 ·subst e;exact aaD x
 ·exact hl.dom
theorem XQ.pred {h b x:Nat} (hl:XQ E h x) (he:E b x) (hne:x≠h):XQ E h b:=by
 rcases hl with ⟨e,_⟩ | hl
 ·exact absurd e hne
 ·by_cases hb:b=h
  ·exact .inl ⟨hb,hl.ex⟩
  ·exact .inr (.pre hl he hb)
end
end Go.Fg.Ytmgfidfcioiedaa

