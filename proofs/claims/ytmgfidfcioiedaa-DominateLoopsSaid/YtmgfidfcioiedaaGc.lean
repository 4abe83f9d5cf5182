/-
  Chapter 11, plain: a list in which blocks stand behind those that they lead to (what a search in depth leaves behind).
-/
import Derived.Test.YtmgfidfcioiedaaGb
namespace Go.Fg.Ytmgfidfcioiedaa
set_option linter.unusedVariables false
set_option linter.unusedSimpArgs false
def Bf (L:List Nat) (v u:Nat):Prop :=∃A B C,L=A++v::(B++u::C)
theorem Bf.app {L:List Nat} {v u:Nat} (h:Bf L v u) (X Y:List Nat):Bf (X++L++Y) v u:=by
 obtain ⟨A,B,C,e⟩:=h
 exact ⟨X++A,B,C++Y,by rw [e];simp⟩
theorem IV {X Y:List Nat} {v u:Nat} (hv:v∈X) (hu:u∈Y):Bf (X++Y) v u:=by
 obtain ⟨A,B,e1⟩:=List.append_of_mem hv
 obtain ⟨C,D,e2⟩:=List.append_of_mem hu
 exact ⟨A,B++C,D,by rw [e1,e2];simp⟩
theorem Bf.left {L:List Nat} {v u:Nat} (h:Bf L v u):v∈L:=by obtain ⟨A,B,C,e⟩:=h;rw [e];simp
theorem Bf.right {L:List Nat} {v u:Nat} (h:Bf L v u):u∈L:=by obtain ⟨A,B,C,e⟩:=h;rw [e];simp
inductive Fc (E:Nat→Nat→Prop) (L:List Nat) (x:Nat):Nat→Prop
 |refl:Fc E L x x
 |step {u v:Nat}:Fc E L x u→E u v→Bf L v u→Fc E L x v
section
variable {E:Nat→Nat→Prop} {L:List Nat}
theorem Fc.app {x y:Nat} (h:Fc E L x y) (X Y:List Nat):Fc E (X++L++Y) x y:=by
 induction h with
 |refl=>exact .refl
 |step _ he hb ih=>exact .step ih he (hb.app X Y)
theorem Fc.head {x u y:Nat} (h:Fc E L u y) (he:E x u) (hb:Bf L u x):Fc E L x y:=by
 induction h with
 |refl=>exact .step .refl he hb
 |step _ he hb ih=>exact .step ih he hb
structure Vis (E:Nat→Nat→Prop) (n b:Nat) (seen seen':List Bool) (L:List Nat):Prop where
 nd:L.Nodup
 new :∀x∈L,x<n∧seen.getD x false=false
 len:seen'.length=seen.length
 mrk :∀x,x<n→(seen'.getD x false=true↔seen.getD x false=true∨x∈L)
 last :∃L0,L=L0++[b]
 reach :∀y∈L,Fc E L b y
 suc :∀y∈L,∀x,E y x→seen.getD x false=true∨(x∈L∧(Bf L x y∨Fc E L x y))
structure Vs (E:Nat→Nat→Prop) (n b:Nat) (seen seen':List Bool) (M:List Nat):Prop where
 nd:M.Nodup
 new :∀x∈M,x<n∧seen.getD x false=false∧x≠b
 len:seen'.length=seen.length
 mrk :∀x,x<n→(seen'.getD x false=true↔seen.getD x false=true∨x=b∨x∈M)
 tree :∀y∈M,∃c,E b c∧c∈M∧Fc E M c y
 suc :∀y∈M,∀x,E y x→seen.getD x false=true∨x=b∨(x∈M∧(Bf M x y∨Fc E M x y))
theorem aaP {n b c:Nat} {seen s1 s2:List Bool} {M L:List Nat} (h:Vs E n b seen s1 M) (hv:Vis E n c s1 s2 L) (he:E b c) (hin :∀{u v},E u v→v<n):Vs E n b seen s2 (M++L):=by
 have hc:c∈L:=by obtain ⟨L0,e⟩:=hv.last;rw [e];simp
 have hdis :∀x∈L,seen.getD x false=false∧x≠b∧x∉M:=fun x hx=>by
  obtain ⟨h1,h2⟩:=hv.new x hx
  have this:¬ (seen.getD x false=true∨x=b∨x∈M):=fun hh=>by have:=(h.mrk x h1).2 hh;rw [h2] at this;cases this
  refine ⟨?_,fun e=>this (.inr (.inl e)),fun e=>this (.inr (.inr e))⟩
  cases hs:seen.getD x false with
  |false=>rfl
  |true=>exact absurd (.inl hs) this
 refine ⟨?_,fun x hx => ?_,by rw [hv.len,h.len],fun x hx => ?_,fun y hy => ?_,fun y hy x hx => ?_⟩
 ·rw [List.nodup_append]
  exact ⟨h.nd,hv.nd,fun a ha b hb e=>(hdis b hb).2.2 (e▸ha)⟩
 ·rcases List.mem_append.1 hx with hx | hx
  ·exact h.new x hx
  ·exact ⟨(hv.new x hx).1,(hdis x hx).1,(hdis x hx).2.1⟩
 ·rw [hv.mrk x hx,h.mrk x hx,List.mem_append]
  constructor
  ·rintro ((h | h | h) | h)
   ·exact .inl h
   ·exact .inr (.inl h)
   ·exact .inr (.inr (.inl h))
   ·exact .inr (.inr (.inr h))
  ·rintro (h | h | h | h)
   ·exact .inl (.inl h)
   ·exact .inl (.inr (.inl h))
   ·exact .inl (.inr (.inr h))
   ·exact .inr h
 ·rcases List.mem_append.1 hy with hy | hy
  ·obtain ⟨d,h1,h2,h3⟩:=h.tree y hy
   exact ⟨d,h1,List.mem_append_left _ h2,by have:=h3.app [] L;simpa using this⟩
  ·exact ⟨c,he,List.mem_append_right _ hc,by have:=(hv.reach y hy).app M [];simpa using this⟩
 ·rcases List.mem_append.1 hy with hy | hy
  ·rcases h.suc y hy x hx with h1 | h1 | ⟨h1,h2⟩
   ·exact .inl h1
   ·exact .inr (.inl h1)
   ·refine .inr (.inr ⟨List.mem_append_left _ h1,?_⟩)
    rcases h2 with h2 | h2
    ·exact .inl (by have:=h2.app [] L;simpa using this)
    ·exact .inr (by have:=h2.app [] L;simpa using this)
  ·rcases hv.suc y hy x hx with h1 | ⟨h1,h2⟩
   ·rcases (h.mrk x (hin hx)).1 h1 with h1 | h1 | h1
    ·exact .inl h1
    ·exact .inr (.inl h1)
    ·exact .inr (.inr ⟨List.mem_append_left _ h1,.inl (IV h1 hy)⟩)
   ·refine .inr (.inr ⟨List.mem_append_right _ h1,?_⟩)
    rcases h2 with h2 | h2
    ·exact .inl (by have:=h2.app M [];simpa using this)
    ·exact .inr (by have:=h2.app M [];simpa using this)
theorem agS {n b:Nat} {seen s1:List Bool} {M:List Nat} (hb:b<n) (hs:seen.getD b false=false) (h:Vs E n b seen s1 M) (hd :∀x,E b x→s1.getD x false=true) (hin :∀{u v},E u v→v<n):Vis E n b seen s1 (M++[b]):=by
 have hr :∀y∈M++[b],Fc E (M++[b]) b y:=fun y hy=>by
  rcases List.mem_append.1 hy with hy | hy
  ·obtain ⟨c,h1,h2,h3⟩:=h.tree y hy
   have h3':Fc E (M++[b]) c y:=by have:=h3.app [] [b];simpa using this
   exact h3'.head h1 (IV h2 (List.mem_singleton.2 rfl))
  ·rw [List.mem_singleton] at hy;subst hy;exact .refl
 refine ⟨?_,fun x hx => ?_,h.len,fun x hx => ?_,⟨M,rfl⟩,hr,fun y hy x hx => ?_⟩
 ·rw [List.nodup_append]
  exact ⟨h.nd,by simp,fun a ha c hc e=>by rw [List.mem_singleton] at hc;subst hc;exact (h.new a ha).2.2 e⟩
 ·rcases List.mem_append.1 hx with hx | hx
  ·exact ⟨(h.new x hx).1,(h.new x hx).2.1⟩
  ·rw [List.mem_singleton] at hx;subst hx;exact ⟨hb,hs⟩
 ·rw [h.mrk x hx,List.mem_append,List.mem_singleton]
  constructor
  ·rintro (h | h | h)
   ·exact .inl h
   ·exact .inr (.inr h)
   ·exact .inr (.inl h)
  ·rintro (h | h | h)
   ·exact .inl h
   ·exact .inr (.inr h)
   ·exact .inr (.inl h)
 ·rcases List.mem_append.1 hy with hy' | hy'
  ·rcases h.suc y hy' x hx with h1 | h1 | ⟨h1,h2⟩
   ·exact .inl h1
   ·subst h1
    exact .inr ⟨List.mem_append_right _ (List.mem_singleton.2 rfl),.inr (hr y hy)⟩
   ·refine .inr ⟨List.mem_append_left _ h1,?_⟩
    rcases h2 with h2 | h2
    ·exact .inl (by have:=h2.app [] [b];simpa using this)
    ·exact .inr (by have:=h2.app [] [b];simpa using this)
  ·rw [List.mem_singleton] at hy';subst hy'
   rcases (h.mrk x (hin hx)).1 (hd x hx) with h1 | h1 | h1
   ·exact .inl h1
   ·subst h1
    exact .inr ⟨hy,.inr .refl⟩
   ·exact .inr ⟨List.mem_append_left _ h1,.inl (IV h1 (List.mem_singleton.2 rfl))⟩
end
end Go.Fg.Ytmgfidfcioiedaa

