/-
  Chapter 11, plain: loops.
-/
import Derived.Test.YtmgfidfcioiedaaGd
namespace Go.Fg.Ytmgfidfcioiedaa
set_option linter.unusedVariables false
set_option linter.unusedSimpArgs false
inductive Lp (E:Nat→Nat→Prop) (h:Nat):Nat→Prop
 |src {s:Nat}:E s h→Dom E h s→s≠h→Lp E h s
 |pre {u v:Nat}:Lp E h v→E u v→u≠h→Lp E h u
def NP (E:Nat→Nat→Prop) (h x:Nat):Prop:=(x=h∧∃s,E s h∧Dom E h s)∨Lp E h x
section
variable {n:Nat} {E:Nat→Nat→Prop} {rk:Nat→Nat}
theorem Lp.ne {h x:Nat} (hl:Lp E h x):x≠h:=by
 cases hl with
 |src _ _ h=>exact h
 |pre _ _ h=>exact h
theorem Lp.ex {h x:Nat} (hl:Lp E h x) :∃s,E s h∧Dom E h s:=by
 induction hl with
 |src h1 h2 _=>exact ⟨_,h1,h2⟩
 |pre _ _ _ ih=>exact ih
theorem Lp.dom {h x:Nat} (hl:Lp E h x):Dom E h x:=by
 induction hl with
 |src _ h2 _=>exact h2
 |pre hv he _ ih=>exact IK ih he fun e=>hv.ne e.symm
theorem NP.dom {h x:Nat} (hl:NP E h x):Dom E h x:=by
 rcases hl with ⟨e,_⟩ | hl
 ·subst e;exact aaK x
 ·exact hl.dom
theorem NP.pred {h b x:Nat} (hl:NP E h x) (he:E b x) (hne:x≠h):NP E h b:=by
 rcases hl with ⟨e,_⟩ | hl
 ·exact absurd e hne
 ·by_cases hb:b=h
  ·exact .inl ⟨hb,hl.ex⟩
  ·exact .inr (.pre hl he hb)
theorem aaQ (hG:Gr n E rk) {a b:Nat} (ha:a<n) (hb:b<n) (h1:Dom E a b) (h2:Dom E b a):a=b:=
 hG.inj ha hb (Nat.le_antisymm (Nv hG ha hb h1) (Nv hG hb ha h2))
theorem nest {h g x:Nat} (hG:Gr n E rk) (hc :∀S:Nat→Prop,S 0→(∀u v,S u→E u v→S v)→∀b,b<n→S b) (hh:h<n) (hg:g<n) (hx:x<n) (hne:h≠g) (hd:Dom E h g) (h1:NP E h x) (h2:NP E g x) :∀y,NP E g y→NP E h y:=by
 have hnd:¬ Dom E g h:=fun h=>hne (aaQ hG hh hg hd h)
 have hlx:Lp E h x:=by
  rcases h1 with ⟨e,_⟩ | h1
  ·subst e;exact absurd h2.dom hnd
  ·exact h1
 have hlg:Lp E h g:=by
  refine Classical.byContradiction fun hn => ?_
  have hw:Wk E g h:=Classical.byContradiction hnd
  have key:=hc (fun v=>Lp E h v→Wk E g v) (fun hl => ?_) (fun u v hu he hl => ?_) x hx hlx
  ·exact h2.dom key
  ·refine absurd hl.dom fun hd=>hd (.z fun e=>hl.ne e)
  ·have hvg:v≠g:=fun e=>hn (e▸hl)
   by_cases e:u=h
   ·subst e;exact .s hw he hvg
   ·exact .s (hu (.pre hl he e)) he hvg
 have key :∀y,Lp E g y→Lp E h y:=by
  intro y hy
  induction hy with
  |src s1 s2 s3=>exact .pre hlg s1 fun e=>hnd (e▸s2)
  |pre hv he hu ih=>exact .pre ih he fun e=>hnd (e▸(Lp.pre hv he hu).dom)
 intro y hy
 rcases hy with ⟨e,_⟩ | hy
 ·subst e;exact .inr hlg
 ·exact .inr (key y hy)
end
end Go.Fg.Ytmgfidfcioiedaa

