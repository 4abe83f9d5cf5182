/-
  Chapter 11, plain: dominators; a table of immediate dominators that is being made by the algorithm of Cooper, Harvey and Kennedy.
-/
import Derived.Test.YtmgfidfcioiedaaZd
namespace Go.Fg.Ytmgfidfcioiedaa
set_option linter.unusedVariables false
set_option linter.unusedSimpArgs false
inductive Wk (E:Nat→Nat→Prop) (a:Nat):Nat→Prop
 |z:(0:Nat)≠a→Wk E a 0
 |s {u v:Nat}:Wk E a u→E u v→v≠a→Wk E a v
def Dom (E:Nat→Nat→Prop) (a b:Nat):Prop:=¬ Wk E a b
structure Gr (n:Nat) (E:Nat→Nat→Prop) (rk:Nat→Nat):Prop where
 pos:0<n
 inn :∀{u v},E u v→u<n∧v<n
 inj :∀{u v},u<n→v<n→rk u=rk v→u=v
 zero:rk 0=0
 pred :∀{v},v<n→v≠0→∃u,E u v∧rk u<rk v
section
variable {n:Nat} {E:Nat→Nat→Prop} {rk:Nat→Nat} {out:List Int}
theorem Wk.ne {a b:Nat} (h:Wk E a b):b≠a:=by
 cases h with
 |z h=>exact h
 |s _ _ h=>exact h
theorem aaK (a:Nat):Dom E a a:=fun h=>h.ne rfl
theorem IK {a b u:Nat} (h:Dom E a b) (hu:E u b) (hne:a≠b):Dom E a u:=fun hw=>h (.s hw hu (fun e=>hne e.symm))
theorem IL (hG:Gr n E rk) {v:Nat} (hv:v<n) (h0:v≠0):0<rk v:=by
 obtain ⟨u,_,h⟩:=hG.pred hv h0
 omega
theorem aaL (hG:Gr n E rk) {a:Nat} (ha:a<n) :∀k b,rk b≤k→b<n→Dom E a b→rk a≤rk b:=by
 intro k
 induction k with
 |zero=>
  intro b hk hb hd
  have h0:b=0:=Classical.byContradiction fun h=>by have:=IL hG hb h;omega
  subst h0
  by_cases e:a=0
  ·rw [e];exact Nat.le_refl _
  ·exact absurd (Wk.z fun h=>e h.symm) hd
 |succ k ih=>
  intro b hk hb hd
  by_cases e:a=b
  ·rw [e];exact Nat.le_refl _
  by_cases h0:b=0
  ·subst h0
   exact absurd (Wk.z fun h=>e h.symm) hd
  ·obtain ⟨u,hu,hr⟩:=hG.pred hb h0
   have:=ih u (by omega) (hG.inn hu).1 (IK hd hu e)
   omega
theorem Nv (hG:Gr n E rk) {a b:Nat} (ha:a<n) (hb:b<n) (hd:Dom E a b):rk a≤rk b:=aaL hG ha _ b (Nat.le_refl _) hb hd
theorem IQ (b:Nat):Dom E 0 b:=fun h=>by
 have :∀v,Wk E 0 v→False:=fun v h=>by
  induction h with
  |z h=>exact h rfl
  |s _ _ _ ih=>exact ih
 exact this b h
def up (out:List Int) (v:Nat):Int:=out.getD v (-1)
inductive iR (out:List Int) (a:Nat):Nat→Prop
 |refl:iR out a a
 |up {b:Nat}:0≤up out b→iR out a (up out b).toNat→iR out a b
def Pr (out:List Int) (v:Nat):Prop:=v=0∨0≤up out v
structure Tb (n:Nat) (E:Nat→Nat→Prop) (rk:Nat→Nat) (out:List Int):Prop where
 len:out.length=n
 zero:up out 0=-1
 val :∀{v},v<n→0≤up out v→(up out v).toNat<n∧rk (up out v).toNat<rk v∧Pr out (up out v).toNat
 low :∀{v},v<n→-1≤up out v
 dom :∀{v},v<n→0≤up out v→∀d,Dom E d v→d≠v→Dom E d (up out v).toNat
theorem iR.trans {a b c:Nat} (h:iR out a b) (h':iR out b c):iR out a c:=by
 induction h' with
 |refl=>exact h
 |up h0 _ ih=>exact .up h0 ih
theorem xu (hT:Tb n E rk out) {a v:Nat} (h:iR out a v):v<n→a<n∧rk a≤rk v∧(Pr out v→Pr out a):=by
 induction h with
 |refl=>exact fun h=>⟨h,Nat.le_refl _,id⟩
 |up h0 _ ih=>
  intro hv
  obtain ⟨h1,h2,h3⟩:=hT.val hv h0
  obtain ⟨i1,i2,i3⟩:=ih h1
  exact ⟨i1,by omega,fun _=>i3 h3⟩
theorem aaM (hT:Tb n E rk out) {a:Nat} (h:iR out a 0):a=0:=by
 cases h with
 |refl=>rfl
 |up h0 _=>rw [hT.zero] at h0;omega
theorem Df (hT:Tb n E rk out) {a c v:Nat} (h:iR out a v):v<n→iR out c v→rk a≤rk c→iR out a c:=by
 induction h with
 |refl=>
  intro hv hc hr
  cases hc with
  |refl=>exact .refl
  |up h0 hc=>
   obtain ⟨h1,h2,h3⟩:=hT.val hv h0
   have:=(xu hT hc h1).2.1
   omega
 |up h0 ha ih=>
  intro hv hc hr
  cases hc with
  |refl=>exact .up h0 ha
  |up _ hc=>exact ih (hT.val hv h0).1 hc hr
theorem kH {b:Nat} {z:Int} (hb:b<out.length) (v:Nat):up (out.set b z) v=if v=b then z else up out v:=by
 unfold up
 rw [List.getD_eq_getElem?_getD,List.getD_eq_getElem?_getD]
 by_cases h:v=b
 ·subst h;rw [List.getElem?_set_self hb,if_pos rfl];rfl
 ·rw [List.getElem?_set_ne (fun e=>h e.symm),if_neg h]
theorem zJ (hT:Tb n E rk out) {b:Nat} {z:Int} (hb:b<n) {a v:Nat} (h:iR out a v):v<n→rk b≤rk a→iR (out.set b z) a v:=by
 induction h with
 |refl=>exact fun _ _=>.refl
 |@up w h0 ha ih=>
  intro hv hr
  obtain ⟨h1,h2,h3⟩:=hT.val hv h0
  have:=(xu hT ha h1).2.1
  have hne:w≠b:=fun e=>by subst e;omega
  have e:up (out.set b z) w=up out w:=by rw [kH (by rw [hT.len];exact hb),if_neg hne]
  exact .up (by rw [e];exact h0) (by rw [e];exact ih h1 hr)
theorem zK (hT:Tb n E rk out) {b:Nat} {z:Int} (hb:b<n) {a v:Nat} (h:iR out a v):v<n→rk v<rk b→iR (out.set b z) a v:=by
 induction h with
 |refl=>exact fun _ _=>.refl
 |@up w h0 ha ih=>
  intro hv hr
  obtain ⟨h1,h2,h3⟩:=hT.val hv h0
  have hne:w≠b:=fun e=>by subst e;omega
  have e:up (out.set b z) w=up out w:=by rw [kH (by rw [hT.len];exact hb),if_neg hne]
  exact .up (by rw [e];exact h0) (by rw [e];exact ih h1 (by omega))
theorem XE (hT:Tb n E rk out) {b:Nat} {z:Int} (hb:b<n) {a v:Nat} (h:iR out a v):iR (out.set b z) a v∨(iR out b v∧0≤up out b∧iR out a (up out b).toNat):=by
 induction h with
 |refl=>exact .inl .refl
 |@up w h0 ha ih=>
  by_cases hne:w=b
  ·subst hne;exact .inr ⟨.refl,h0,ha⟩
  ·have e:up (out.set b z) w=up out w:=by rw [kH (by rw [hT.len];exact hb),if_neg hne]
   rcases ih with ih | ⟨i1,i2,i3⟩
   ·exact .inl (.up (by rw [e];exact h0) (by rw [e];exact ih))
   ·exact .inr ⟨.up h0 i1,i2,i3⟩
theorem Qp (hT:Tb n E rk out) {b:Nat} {z:Nat} (hb:b<n) (hz:0≤up out b→iR out z (up out b).toNat) (hp:0≤up out b) {a v:Nat} (h:iR (out.set b z) a v):iR out a v:=by
 induction h with
 |refl=>exact .refl
 |@up w h0 ha ih=>
  by_cases hne:w=b
  ·subst hne
   have e:up (out.set w z) w=z:=by rw [kH (by rw [hT.len];exact hb),if_pos rfl]
   rw [e] at ih
   exact .up hp (ih.trans (by simpa using hz hp))
  ·have e:up (out.set b z) w=up out w:=by rw [kH (by rw [hT.len];exact hb),if_neg hne]
   rw [e] at h0 ih
   exact .up h0 ih
end
end Go.Fg.Ytmgfidfcioiedaa

