/-
  The plain proofs: what the functions compute answers as the law says.
-/
import Derived.Test.YtmgfidfcioiedaaZd
import Derived.Test.YtmgfidfcioiedaaFgB
set_option linter.unusedSimpArgs false
set_option linter.unusedVariables false
namespace Go.Fg.Ytmgfidfcioiedaa
inductive Wk (E:Nat→Nat→Prop) (a:Nat):Nat→Prop
 |z:(0:Nat)≠a→Wk E a 0
 |s {u v:Nat}:Wk E a u→E u v→v≠a→Wk E a v
def Dom (E:Nat→Nat→Prop) (a b:Nat):Prop:=¬ Wk E a b
structure Gr (n:Nat) (E:Nat→Nat→Prop) (rk:Nat→Nat):Prop where
 pos:0<n
 inn :∀{u v},E u v→u<n∧v<n
 inj :∀{u v},u<n→v<n→rk u=rk v→u=v
 zero:rk 0=0
 pred :∀{v},v<n→v≠0→∃u,E u v∧rk u<rk v
section
variable {n:Nat} {E:Nat→Nat→Prop} {rk:Nat→Nat} {out:List Int}
theorem Wk.ne {a b:Nat} (h:Wk E a b):b≠a:=by
 cases h with
 |z h=>exact h
 |s _ _ h=>exact h
theorem aa2 (a:Nat):Dom E a a:=fun h=>h.ne rfl
theorem Jc {a b u:Nat} (h:Dom E a b) (hu:E u b) (hne:a≠b):Dom E a u:=fun hw=>h (.s hw hu (fun e=>hne e.symm))
theorem Jd (hG:Gr n E rk) {v:Nat} (hv:v<n) (h0:v≠0):0<rk v:=by
 obtain ⟨u,_,h⟩:=hG.pred hv h0
 omega
theorem aa3 (hG:Gr n E rk) {a:Nat} (ha:a<n) :∀k b,rk b≤k→b<n→Dom E a b→rk a≤rk b:=by
 intro k
 induction k with
 |zero=>
  intro b hk hb hd
  have h0:b=0:=Classical.byContradiction fun h=>by have:=Jd hG hb h;omega
  subst h0
  by_cases e:a=0
  ·rw [e];exact Nat.le_refl _
  ·exact absurd (Wk.z fun h=>e h.symm) hd
 |succ k ih=>
  intro b hk hb hd
  by_cases e:a=b
  ·rw [e];exact Nat.le_refl _
  by_cases h0:b=0
  ·subst h0
   exact absurd (Wk.z fun h=>e h.symm) hd
  ·obtain ⟨u,hu,hr⟩:=hG.pred hb h0
   have:=ih u (by omega) (hG.inn hu).1 (Jc hd hu e)
   omega
theorem NS (hG:Gr n E rk) {a b:Nat} (ha:a<n) (hb:b<n) (hd:Dom E a b):rk a≤rk b:=aa3 hG ha _ b (Nat.le_refl _) hb hd
theorem xU (b:Nat):Dom E 0 b:=fun h=>by
 have :∀v,Wk E 0 v→False:=fun v h=>by
  induction h with
  |z h=>exact h rfl
  |s _ _ _ ih=>exact ih
 exact this b h
def up (out:List Int) (v:Nat):Int:=out.getD v (-1)
inductive jl (out:List Int) (a:Nat):Nat→Prop
 |refl:jl out a a
 |up {b:Nat}:0≤up out b→jl out a (up out b).toNat→jl out a b
def Pr (out:List Int) (v:Nat):Prop:=v=0∨0≤up out v
structure Tb (n:Nat) (E:Nat→Nat→Prop) (rk:Nat→Nat) (out:List Int):Prop where
 len:out.length=n
 zero:up out 0=-1
 val :∀{v},v<n→0≤up out v→(up out v).toNat<n∧rk (up out v).toNat<rk v∧Pr out (up out v).toNat
 low :∀{v},v<n→-1≤up out v
 dom :∀{v},v<n→0≤up out v→∀d,Dom E d v→d≠v→Dom E d (up out v).toNat
theorem jl.trans {a b c:Nat} (h:jl out a b) (h':jl out b c):jl out a c:=by
 induction h' with
 |refl=>exact h
 |up h0 _ ih=>exact .up h0 ih
theorem xW (hT:Tb n E rk out) {a v:Nat} (h:jl out a v):v<n→a<n∧rk a≤rk v∧(Pr out v→Pr out a):=by
 induction h with
 |refl=>exact fun h=>⟨h,Nat.le_refl _,id⟩
 |up h0 _ ih=>
  intro hv
  obtain ⟨h1,h2,h3⟩:=hT.val hv h0
  obtain ⟨i1,i2,i3⟩:=ih h1
  exact ⟨i1,by omega,fun _=>i3 h3⟩
theorem aa4 (hT:Tb n E rk out) {a:Nat} (h:jl out a 0):a=0:=by
 cases h with
 |refl=>rfl
 |up h0 _=>rw [hT.zero] at h0;omega
theorem XY (hT:Tb n E rk out) {a c v:Nat} (h:jl out a v):v<n→jl out c v→rk a≤rk c→jl out a c:=by
 induction h with
 |refl=>
  intro hv hc hr
  cases hc with
  |refl=>exact .refl
  |up h0 hc=>
   obtain ⟨h1,h2,h3⟩:=hT.val hv h0
   have:=(xW hT hc h1).2.1
   omega
 |up h0 ha ih=>
  intro hv hc hr
  cases hc with
  |refl=>exact .up h0 ha
  |up _ hc=>exact ih (hT.val hv h0).1 hc hr
theorem kX {b:Nat} {z:Int} (hb:b<out.length) (v:Nat):up (out.set b z) v=if v=b then z else up out v:=by
 unfold up
 rw [List.getD_eq_getElem?_getD,List.getD_eq_getElem?_getD]
 by_cases h:v=b
 ·subst h;rw [List.getElem?_set_self hb,if_pos rfl];rfl
 ·rw [List.getElem?_set_ne (fun e=>h e.symm),if_neg h]
theorem zZ (hT:Tb n E rk out) {b:Nat} {z:Int} (hb:b<n) {a v:Nat} (h:jl out a v):v<n→rk b≤rk a→jl (out.set b z) a v:=by
 induction h with
 |refl=>exact fun _ _=>.refl
 |@up w h0 ha ih=>
  intro hv hr
  obtain ⟨h1,h2,h3⟩:=hT.val hv h0
  have:=(xW hT ha h1).2.1
  have hne:w≠b:=fun e=>by subst e;omega
  have e:up (out.set b z) w=up out w:=by rw [kX (by rw [hT.len];exact hb),if_neg hne]
  exact .up (by rw [e];exact h0) (by rw [e];exact ih h1 hr)
theorem z_ (hT:Tb n E rk out) {b:Nat} {z:Int} (hb:b<n) {a v:Nat} (h:jl out a v):v<n→rk v<rk b→jl (out.set b z) a v:=by
 induction h with
 |refl=>exact fun _ _=>.refl
 |@up w h0 ha ih=>
  intro hv hr
  obtain ⟨h1,h2,h3⟩:=hT.val hv h0
  have hne:w≠b:=fun e=>by subst e;omega
  have e:up (out.set b z) w=up out w:=by rw [kX (by rw [hT.len];exact hb),if_neg hne]
  exact .up (by rw [e];exact h0) (by rw [e];exact ih h1 (by omega))
theorem XZ (hT:Tb n E rk out) {b:Nat} {z:Int} (hb:b<n) {a v:Nat} (h:jl out a v):jl (out.set b z) a v∨(jl out b v∧0≤up out b∧jl out a (up out b).toNat):=by
 induction h with
 |refl=>exact .inl .refl
 |@up w h0 ha ih=>
  by_cases hne:w=b
  ·subst hne;exact .inr ⟨.refl,h0,ha⟩
  ·have e:up (out.set b z) w=up out w:=by rw [kX (by rw [hT.len];exact hb),if_neg hne]
   rcases ih with ih | ⟨i1,i2,i3⟩
   ·exact .inl (.up (by rw [e];exact h0) (by rw [e];exact ih))
   ·exact .inr ⟨.up h0 i1,i2,i3⟩
theorem QF (hT:Tb n E rk out) {b:Nat} {z:Nat} (hb:b<n) (hz:0≤up out b→jl out z (up out b).toNat) (hp:0≤up out b) {a v:Nat} (h:jl (out.set b z) a v):jl out a v:=by
 induction h with
 |refl=>exact .refl
 |@up w h0 ha ih=>
  by_cases hne:w=b
  ·subst hne
   have e:up (out.set w z) w=z:=by rw [kX (by rw [hT.len];exact hb),if_pos rfl]
   rw [e] at ih
   exact .up hp (ih.trans (by simpa using hz hp))
  ·have e:up (out.set b z) w=up out w:=by rw [kX (by rw [hT.len];exact hb),if_neg hne]
   rw [e] at h0 ih
   exact .up h0 ih
end
structure Ps (n:Nat) (E:Nat→Nat→Prop) (rk:Nat→Nat) (out:List Int) (i:Nat):Prop where
 T:Tb n E rk out
 F :∀{v},v<n→0≤up out v→∀y,(∀p,E p v→Pr out p→jl out y p)→jl out y (up out v).toNat
 H :∀{v},v<n→0≤up out v→∀p,E p v→rk p<rk v→rk v<i∨i≤rk (up out v).toNat→jl out (up out v).toNat p
 D :∀{v},v<n→rk v<i→Pr out v
structure Bst (n:Nat) (E:Nat→Nat→Prop) (rk:Nat→Nat) (out:List Int) (b z:Nat):Prop where
 lt:z<n
 pr:Pr out z
 all :∀p,E p b→Pr out p→jl out z p
 top :∀y,(∀p,E p b→Pr out p→jl out y p)→jl out y z
 dom :∀d,(∀p,E p b→Pr out p→Dom E d p)→Dom E d z
section
variable {n:Nat} {E:Nat→Nat→Prop} {rk:Nat→Nat} {out:List Int}
theorem Je {b z:Nat} (hb:b<out.length) {v:Nat} (h:Pr out v):Pr (out.set b z) v:=by
 rcases h with h | h
 ·exact .inl h
 ·refine .inr ?_
  rw [kX hb]
  split
  ·omega
  ·exact h
theorem ahd (hT:Tb n E rk out) {a v:Nat} (h:jl out a v) (ha:Pr out a):Pr out v:=by
 cases h with
 |refl=>exact ha
 |up h0 _=>exact .inr h0
theorem Ue (hT:Tb n E rk out) {b:Nat} {z:Int} (hb:b<n) (hu:¬ Pr out b) {a v:Nat} (h:jl (out.set b z) a v):v<n→Pr out v→jl out a v:=by
 induction h with
 |refl=>exact fun _ _=>.refl
 |@up w h0 ha ih=>
  intro hv hp
  have hne:w≠b:=fun e=>by subst e;exact hu hp
  have e:up (out.set b z) w=up out w:=by rw [kX (by rw [hT.len];exact hb),if_neg hne]
  rw [e] at h0 ih
  obtain ⟨h1,h2,h3⟩:=hT.val hv h0
  exact .up h0 (ih h1 h3)
theorem aem (hG:Gr n E rk) {i b z:Nat} (hP:Ps n E rk out i) (hb:b<n) (h0:b≠0) (hr:rk b=i) (hz:Bst n E rk out b z):rk z<rk b∧Tb n E rk (out.set b z):=by
 have hT:=hP.T
 have hbl:b<out.length:=by rw [hT.len];exact hb
 obtain ⟨u,hu,hur⟩:=hG.pred hb h0
 have hlt:rk z<rk b:=by
  have:=(xW hT (hz.all u hu (hP.D (hG.inn hu).1 (by omega))) (hG.inn hu).1).2.1
  omega
 refine ⟨hlt,⟨by rw [List.length_set];exact hT.len,?_,fun {v} hv hh => ?_,fun {v} hv => ?_,fun {v} hv hh d hd hne => ?_⟩⟩
 ·rw [kX hbl,if_neg (fun e=>h0 e.symm)];exact hT.zero
 ·rw [kX hbl] at hh ⊢
  split
  ·rename_i e
   subst e
   simp only [Int.toNat_natCast]
   exact ⟨hz.lt,hlt,Je hbl hz.pr⟩
  ·rename_i e
   rw [if_neg e] at hh
   obtain ⟨h1,h2,h3⟩:=hT.val hv hh
   exact ⟨h1,h2,Je hbl h3⟩
 ·rw [kX hbl]
  split
  ·omega
  ·exact hT.low hv
 ·rw [kX hbl] at hh ⊢
  split
  ·rename_i e
   subst e
   simp only [Int.toNat_natCast]
   exact hz.dom d fun p hp _=>Jc hd hp hne
  ·rename_i e
   rw [if_neg e] at hh
   exact hT.dom hv hh d hd hne
theorem aen (hG:Gr n E rk) {i b z:Nat} (hP:Ps n E rk out i) (hb:b<n) (h0:b≠0) (hr:rk b=i) (hz:Bst n E rk out b z):Ps n E rk (out.set b z) (i+1):=by
 have hT:=hP.T
 have hbl:b<out.length:=by rw [hT.len];exact hb
 obtain ⟨hlt,hT'⟩:=aem hG hP hb h0 hr hz
 have sub :∀{y v:Nat},v<n→Pr out v→jl (out.set b z) y v→jl out y v:=by
  intro y v hv hp h
  by_cases hb0:0≤up out b
  ·exact QF hT hb (fun _=>hP.F hb hb0 z hz.all) hb0 h
  ·exact Ue hT hb (fun e=>e.elim h0 hb0) h hv hp
 refine ⟨hT',fun {v} hv hh y hy => ?_,fun {v} hv hh p hp hpr hc => ?_,fun {v} hv hvi => ?_⟩
 ·have hy' :∀p,E p v→Pr out p→jl out y p:=fun p hp hpp=>sub (hG.inn hp).1 hpp (hy p hp (Je hbl hpp))
  rw [kX hbl] at hh ⊢
  split
  ·rename_i e
   subst e
   simp only [Int.toNat_natCast]
   exact z_ hT hb (hz.top y hy') hz.lt hlt
  ·rename_i e
   rw [if_neg e] at hh
   obtain ⟨g1,g2,g3⟩:=hT.val hv hh
   have ho:=hP.F hv hh y hy'
   rcases XZ hT hb (z:=z) ho with ho | ⟨o1,o2,o3⟩
   ·exact ho
   ·have hv0:v≠0:=fun e=>by subst e;rw [hT.zero] at hh;omega
    obtain ⟨u,hu,hur⟩:=hG.pred hv hv0
    have hun:=(hG.inn hu).1
    have hrb:=(xW hT o1 g1).2.1
    have hA:=hP.H hv hh u hu hur (.inr (by omega))
    have hbu:jl (out.set b z) b u:=zZ hT hb (o1.trans hA) hun (Nat.le_refl _)
    have hyu:=hy u hu (Je hbl (ahd hT hA g3))
    obtain ⟨q1,q2,_⟩:=hT.val hb o2
    have hyb:jl (out.set b z) y b:=XY hT' hyu hun hbu (by have:=(xW hT o3 q1).2.1;omega)
    exact hyb.trans (zZ hT hb o1 g1 (Nat.le_refl _))
 ·rw [kX hbl] at hh hc ⊢
  by_cases e:v=b
  ·subst e
   rw [if_pos rfl] at hc ⊢
   simp only [Int.toNat_natCast]
   exact z_ hT hb (hz.all p hp (hP.D (hG.inn hp).1 (by omega))) (hG.inn hp).1 hpr
  ·rw [if_neg e] at hh hc ⊢
   rcases hc with hc | hc
   ·have:rk v≠i:=fun h=>e (hG.inj hv hb (by omega))
    exact z_ hT hb (hP.H hv hh p hp hpr (.inl (by omega))) (hG.inn hp).1 (by omega)
   ·exact zZ hT hb (hP.H hv hh p hp hpr (.inr (by omega))) (hG.inn hp).1 (by omega)
 ·by_cases e:rk v<i
  ·exact Je hbl (hP.D hv e)
  ·have:v=b:=hG.inj hv hb (by omega)
   subst this
   exact .inr (by rw [kX hbl,if_pos rfl];omega)
theorem aa5 (hG:Gr n E rk) (hk :∀v,v<n→rk v<n) (hP:Ps n E rk out n):Ps n E rk out 1:=
 ⟨hP.T,hP.F,fun hv hh p hp hpr _=>hP.H hv hh p hp hpr (.inl (hk _ hv)),fun {v} hv hr=>.inl (Classical.byContradiction fun h=>by have:=Jd hG hv h;omega)⟩
theorem aa6 (hG:Gr n E rk) (hl:out.length=n) (hu :∀v,v<n→up out v=-1):Ps n E rk out 1:=by
 refine ⟨⟨hl,hu 0 hG.pos,fun hv h => ?_,fun hv => ?_,fun hv h => ?_⟩,fun hv h => ?_,fun hv h => ?_,fun {v} hv hr=>.inl (Classical.byContradiction fun h=>by have:=Jd hG hv h;omega)⟩
 all_goals rw [hu _ hv] at *
 all_goals omega
def ms (n:Nat) (rk:Nat→Nat) (out:List Int):Nat→Nat
 |0=>0
 |k+1=>ms n rk out k+if up out k<0 then n else rk (up out k).toNat
theorem ahe (hG:Gr n E rk) {i b z:Nat} (hk :∀v,v<n→rk v<n) (hP:Ps n E rk out i) (hb:b<n) (h0:b≠0) (hr:rk b=i) (hz:Bst n E rk out b z) (hne:up out b≠z):ms n rk (out.set b z) n<ms n rk out n:=by
 have hT:=hP.T
 have hbl:b<out.length:=by rw [hT.len];exact hb
 have hs:rk z<if up out b<0 then n else rk (up out b).toNat:=by
  split
  ·exact hk z hz.lt
  ·rename_i hb0
   have hb0:0≤up out b:=by omega
   obtain ⟨q1,_,_⟩:=hT.val hb hb0
   have hle:=(xW hT (hP.F hb hb0 z hz.all) q1).2.1
   refine Nat.lt_of_le_of_ne hle fun e=>hne ?_
   have:=hG.inj hz.lt q1 e
   omega
 have key :∀k,k≤n→ms n rk (out.set b z) k+(if b<k then (if up out b<0 then n else rk (up out b).toNat)-rk z else 0)=ms n rk out k:=by
  intro k
  induction k with
  |zero=>intro _;simp [ms]
  |succ k ih=>
   intro hkn
   have ih:=ih (by omega)
   simp only [ms]
   rw [kX hbl]
   by_cases e:k=b
   ·subst e
    rw [if_neg (Nat.lt_irrefl k)] at ih
    rw [if_pos rfl,if_pos (by omega:k<k+1),if_neg (by omega:¬ ((z:Int)<0)),Int.toNat_natCast]
    omega
   ·rw [if_neg e]
    by_cases e2:b<k
    ·rw [if_pos e2] at ih;rw [if_pos (by omega:b<k+1)];omega
    ·rw [if_neg e2] at ih;rw [if_neg (by omega:¬ b<k+1)];omega
 have:=key n (Nat.le_refl n)
 rw [if_pos hb] at this
 omega
theorem aeo (hG:Gr n E rk) (hP:Ps n E rk out n) (hk :∀v,v<n→rk v<n) (hF :∀v,v<n→v≠0→∀p,E p v→Pr out p→jl out (up out v).toNat p) {a b:Nat} (ha:a<n) (hb:b<n):jl out a b↔Dom E a b:=by
 have hT:=hP.T
 have hp :∀v,v<n→Pr out v:=fun v hv=>hP.D hv (hk v hv)
 constructor
 ·intro h hw
  have key :∀v,Wk E a v→v<n→¬ jl out a v:=by
   intro v hw
   induction hw with
   |z h=>exact fun _ h'=>h (aa4 hT h').symm
   |@s u v hw hu hne ih=>
    intro hv h'
    cases h' with
    |refl=>exact hne rfl
    |up h1 h2=>
     have hv0:v≠0:=fun e=>by subst e;rw [hT.zero] at h1;omega
     exact ih (hG.inn hu).1 (h2.trans (hF v hv hv0 u hu (hp u (hG.inn hu).1)))
  exact key b hw hb h
 ·have key :∀k b,rk b≤k→b<n→Dom E a b→jl out a b:=by
   intro k
   induction k with
   |zero=>
    intro b hr hb hd
    have h0:b=0:=Classical.byContradiction fun h=>by have:=Jd hG hb h;omega
    subst h0
    by_cases e:a=0
    ·rw [e];exact .refl
    ·exact absurd (Wk.z fun h=>e h.symm) hd
   |succ k ih=>
    intro b hr hb hd
    by_cases e:a=b
    ·rw [e];exact .refl
    rcases hp b hb with h0 | h0
    ·subst h0
     exact absurd (Wk.z fun h=>e h.symm) hd
    ·obtain ⟨q1,q2,_⟩:=hT.val hb h0
     exact .up h0 (ih _ (by omega) q1 (hT.dom hb h0 a hd e))
  exact key _ b (Nat.le_refl _) hb
end
def Bf (L:List Nat) (v u:Nat):Prop :=∃A B C,L=A++v::(B++u::C)
theorem Bf.app {L:List Nat} {v u:Nat} (h:Bf L v u) (X Y:List Nat):Bf (X++L++Y) v u:=by
 obtain ⟨A,B,C,e⟩:=h
 exact ⟨X++A,B,C++Y,by rw [e];simp⟩
theorem Jf {X Y:List Nat} {v u:Nat} (hv:v∈X) (hu:u∈Y):Bf (X++Y) v u:=by
 obtain ⟨A,B,e1⟩:=List.append_of_mem hv
 obtain ⟨C,D,e2⟩:=List.append_of_mem hu
 exact ⟨A,B++C,D,by rw [e1,e2];simp⟩
theorem Bf.left {L:List Nat} {v u:Nat} (h:Bf L v u):v∈L:=by obtain ⟨A,B,C,e⟩:=h;rw [e];simp
inductive Fc (E:Nat→Nat→Prop) (L:List Nat) (x:Nat):Nat→Prop
 |refl:Fc E L x x
 |step {u v:Nat}:Fc E L x u→E u v→Bf L v u→Fc E L x v
section
variable {E:Nat→Nat→Prop} {L:List Nat}
theorem Fc.app {x y:Nat} (h:Fc E L x y) (X Y:List Nat):Fc E (X++L++Y) x y:=by
 induction h with
 |refl=>exact .refl
 |step _ he hb ih=>exact .step ih he (hb.app X Y)
theorem Fc.head {x u y:Nat} (h:Fc E L u y) (he:E x u) (hb:Bf L u x):Fc E L x y:=by
 induction h with
 |refl=>exact .step .refl he hb
 |step _ he hb ih=>exact .step ih he hb
structure Vis (E:Nat→Nat→Prop) (n b:Nat) (seen seen':List Bool) (L:List Nat):Prop where
 nd:L.Nodup
 new :∀x∈L,x<n∧seen.getD x false=false
 len:seen'.length=seen.length
 mrk :∀x,x<n→(seen'.getD x false=true↔seen.getD x false=true∨x∈L)
 last :∃L0,L=L0++[b]
 reach :∀y∈L,Fc E L b y
 suc :∀y∈L,∀x,E y x→seen.getD x false=true∨(x∈L∧(Bf L x y∨Fc E L x y))
structure Vs (E:Nat→Nat→Prop) (n b:Nat) (seen seen':List Bool) (M:List Nat):Prop where
 nd:M.Nodup
 new :∀x∈M,x<n∧seen.getD x false=false∧x≠b
 len:seen'.length=seen.length
 mrk :∀x,x<n→(seen'.getD x false=true↔seen.getD x false=true∨x=b∨x∈M)
 tree :∀y∈M,∃c,E b c∧c∈M∧Fc E M c y
 suc :∀y∈M,∀x,E y x→seen.getD x false=true∨x=b∨(x∈M∧(Bf M x y∨Fc E M x y))
theorem aa7 {n b c:Nat} {seen s1 s2:List Bool} {M L:List Nat} (h:Vs E n b seen s1 M) (hv:Vis E n c s1 s2 L) (he:E b c) (hin :∀{u v},E u v→v<n):Vs E n b seen s2 (M++L):=by
 have hc:c∈L:=by obtain ⟨L0,e⟩:=hv.last;rw [e];simp
 have hdis :∀x∈L,seen.getD x false=false∧x≠b∧x∉M:=fun x hx=>by
  obtain ⟨h1,h2⟩:=hv.new x hx
  have this:¬ (seen.getD x false=true∨x=b∨x∈M):=fun hh=>by have:=(h.mrk x h1).2 hh;rw [h2] at this;cases this
  refine ⟨?_,fun e=>this (.inr (.inl e)),fun e=>this (.inr (.inr e))⟩
  cases hs:seen.getD x false with
  |false=>rfl
  |true=>exact absurd (.inl hs) this
 refine ⟨?_,fun x hx => ?_,by rw [hv.len,h.len],fun x hx => ?_,fun y hy => ?_,fun y hy x hx => ?_⟩
 ·rw [List.nodup_append]
  exact ⟨h.nd,hv.nd,fun a ha b hb e=>(hdis b hb).2.2 (e▸ha)⟩
 ·rcases List.mem_append.1 hx with hx | hx
  ·exact h.new x hx
  ·exact ⟨(hv.new x hx).1,(hdis x hx).1,(hdis x hx).2.1⟩
 ·rw [hv.mrk x hx,h.mrk x hx,List.mem_append]
  constructor
  ·rintro ((h | h | h) | h)
   ·exact .inl h
   ·exact .inr (.inl h)
   ·exact .inr (.inr (.inl h))
   ·exact .inr (.inr (.inr h))
  ·rintro (h | h | h | h)
   ·exact .inl (.inl h)
   ·exact .inl (.inr (.inl h))
   ·exact .inl (.inr (.inr h))
   ·exact .inr h
 ·rcases List.mem_append.1 hy with hy | hy
  ·obtain ⟨d,h1,h2,h3⟩:=h.tree y hy
   exact ⟨d,h1,List.mem_append_left _ h2,by have:=h3.app [] L;simpa using this⟩
  ·exact ⟨c,he,List.mem_append_right _ hc,by have:=(hv.reach y hy).app M [];simpa using this⟩
 ·rcases List.mem_append.1 hy with hy | hy
  ·rcases h.suc y hy x hx with h1 | h1 | ⟨h1,h2⟩
   ·exact .inl h1
   ·exact .inr (.inl h1)
   ·refine .inr (.inr ⟨List.mem_append_left _ h1,?_⟩)
    rcases h2 with h2 | h2
    ·exact .inl (by have:=h2.app [] L;simpa using this)
    ·exact .inr (by have:=h2.app [] L;simpa using this)
  ·rcases hv.suc y hy x hx with h1 | ⟨h1,h2⟩
   ·rcases (h.mrk x (hin hx)).1 h1 with h1 | h1 | h1
    ·exact .inl h1
    ·exact .inr (.inl h1)
    ·exact .inr (.inr ⟨List.mem_append_left _ h1,.inl (Jf h1 hy)⟩)
   ·refine .inr (.inr ⟨List.mem_append_right _ h1,?_⟩)
    rcases h2 with h2 | h2
    ·exact .inl (by have:=h2.app M [];simpa using this)
    ·exact .inr (by have:=h2.app M [];simpa using this)
theorem ahf {n b:Nat} {seen s1:List Bool} {M:List Nat} (hb:b<n) (hs:seen.getD b false=false) (h:Vs E n b seen s1 M) (hd :∀x,E b x→s1.getD x false=true) (hin :∀{u v},E u v→v<n):Vis E n b seen s1 (M++[b]):=by
 have hr :∀y∈M++[b],Fc E (M++[b]) b y:=fun y hy=>by
  rcases List.mem_append.1 hy with hy | hy
  ·obtain ⟨c,h1,h2,h3⟩:=h.tree y hy
   have h3':Fc E (M++[b]) c y:=by have:=h3.app [] [b];simpa using this
   exact h3'.head h1 (Jf h2 (List.mem_singleton.2 rfl))
  ·rw [List.mem_singleton] at hy;subst hy;exact .refl
 refine ⟨?_,fun x hx => ?_,h.len,fun x hx => ?_,⟨M,rfl⟩,hr,fun y hy x hx => ?_⟩
 ·rw [List.nodup_append]
  exact ⟨h.nd,by simp,fun a ha c hc e=>by rw [List.mem_singleton] at hc;subst hc;exact (h.new a ha).2.2 e⟩
 ·rcases List.mem_append.1 hx with hx | hx
  ·exact ⟨(h.new x hx).1,(h.new x hx).2.1⟩
  ·rw [List.mem_singleton] at hx;subst hx;exact ⟨hb,hs⟩
 ·rw [h.mrk x hx,List.mem_append,List.mem_singleton]
  constructor
  ·rintro (h | h | h)
   ·exact .inl h
   ·exact .inr (.inr h)
   ·exact .inr (.inl h)
  ·rintro (h | h | h)
   ·exact .inl h
   ·exact .inr (.inr h)
   ·exact .inr (.inl h)
 ·rcases List.mem_append.1 hy with hy' | hy'
  ·rcases h.suc y hy' x hx with h1 | h1 | ⟨h1,h2⟩
   ·exact .inl h1
   ·subst h1
    exact .inr ⟨List.mem_append_right _ (List.mem_singleton.2 rfl),.inr (hr y hy)⟩
   ·refine .inr ⟨List.mem_append_left _ h1,?_⟩
    rcases h2 with h2 | h2
    ·exact .inl (by have:=h2.app [] [b];simpa using this)
    ·exact .inr (by have:=h2.app [] [b];simpa using this)
  ·rw [List.mem_singleton] at hy';subst hy'
   rcases (h.mrk x (hin hx)).1 (hd x hx) with h1 | h1 | h1
   ·exact .inl h1
   ·subst h1
    exact .inr ⟨hy,.inr .refl⟩
   ·exact .inr ⟨List.mem_append_left _ h1,.inl (Jf h1 (List.mem_singleton.2 rfl))⟩
end
theorem Uf {L:List Nat} (hn:L.Nodup) {v u:Nat} (h:Bf L v u):L.reverse.idxOf u<L.reverse.idxOf v:=by
 obtain ⟨A,B,C,e⟩:=h
 subst e
 have hr:(A++v::(B++u::C)).reverse=C.reverse++u::(B.reverse++v::A.reverse):=by simp
 rw [hr]
 simp only [List.nodup_append,List.nodup_cons,List.mem_append,List.mem_cons] at hn
 obtain ⟨_,⟨hv,_,⟨hu,_⟩,hBC⟩,_⟩:=hn
 have h1:u∉C.reverse:=by simpa using hu
 have h2:v∉C.reverse:=by simp;exact fun h=>hv (.inr (.inr h))
 rw [List.idxOf_append,if_neg h1,List.idxOf_append,if_neg h2,List.idxOf_cons_self]
 have hne:u≠v:=fun e=>hv (.inr (.inl e.symm))
 have:(u==v)=false:=by simpa using hne
 rw [List.idxOf_cons,this]
 simp
structure Od (n:Nat) (E:Nat→Nat→Prop) (O:List Nat):Prop where
 nd:O.Nodup
 len:O.length=n
 mem :∀{x},x∈O↔x<n
 gr:Gr n E fun v=>O.idxOf v
 lt :∀v,v<n→O.idxOf v<n
 back :∀{b x},E b x→O.idxOf x≤O.idxOf b→∀S:Nat→Prop,S x→(∀u v,S u→E u v→O.idxOf u<O.idxOf v→S v)→S b
theorem akn {n:Nat} {E:Nat→Nat→Prop} {seen seen':List Bool} {L:List Nat} (h0:0<n) (hin :∀{u v},E u v→u<n∧v<n) (hc :∀S:Nat→Prop,S 0→(∀u v,S u→E u v→S v)→∀b,b<n→S b) (hs :∀x,seen.getD x false=false) (h:Vis E n 0 seen seen' L):Od n E L.reverse:=by
 have hnd:L.reverse.Nodup:=(List.reverse_perm L).nodup_iff.2 h.nd
 have h0L:0∈L:=by obtain ⟨L0,e⟩:=h.last;rw [e];simp
 have ako :∀y∈L,∀x,E y x→x∈L∧(Bf L x y∨Fc E L x y):=fun y hy x hx=>by
  rcases h.suc y hy x hx with h1 | h1
  ·rw [hs x] at h1;cases h1
  ·exact h1
 have hall :∀x,x<n→x∈L:=hc (·∈L) h0L fun u v hu he=>(ako u hu v he).1
 have hmem :∀{x},x∈L.reverse↔x<n:=fun {x}=>⟨fun hx=>(h.new x (List.mem_reverse.1 hx)).1,fun hx=>List.mem_reverse.2 (hall x hx)⟩
 have hlen:L.reverse.length=n:=by
  have:=(List.perm_ext_iff_of_nodup hnd List.nodup_range).2 (fun a=>by rw [hmem,List.mem_range] :∀a,a∈L.reverse↔a∈List.range n)
  rw [this.length_eq,List.length_range]
 have hz:L.reverse.idxOf 0=0:=by
  obtain ⟨L0,e⟩:=h.last
  rw [e];simp
 have hlt :∀v,v<n→L.reverse.idxOf v<n:=fun v hv=>by rw [←hlen];exact List.idxOf_lt_length_of_mem (hmem.2 hv)
 have hfw :∀{x y},Fc E L x y→∀S:Nat→Prop,S x→(∀u v,S u→E u v→L.reverse.idxOf u<L.reverse.idxOf v→S v)→S y:=by
  intro x y hf S sx hS
  induction hf with
  |refl=>exact sx
  |step _ he hb ih=>exact hS _ _ ih he (Uf h.nd hb)
 refine ⟨hnd,hlen,hmem,⟨h0,hin,fun {u v} hu hv e => ?_,hz,fun {v} hv hv0 => ?_⟩,hlt,fun {b x} he hle S sx hS => ?_⟩
 ·have h1:=List.getElem_idxOf (List.idxOf_lt_length_of_mem (hmem.2 hu))
  have h2:=List.getElem_idxOf (List.idxOf_lt_length_of_mem (hmem.2 hv))
  rw [←h1,←h2]
  simp only [e]
 ·have:=h.reach v (hall v hv)
  cases this with
  |refl=>exact absurd rfl hv0
  |step _ he hb=>exact ⟨_,he,Uf h.nd hb⟩
 ·rcases (ako b (hall b (hin he).1) x he).2 with h1 | h1
  ·have:=Uf h.nd h1;omega
  ·exact hfw h1 S sx hS
inductive Lp (E:Nat→Nat→Prop) (h:Nat):Nat→Prop
 |src {s:Nat}:E s h→Dom E h s→s≠h→Lp E h s
 |pre {u v:Nat}:Lp E h v→E u v→u≠h→Lp E h u
def Yj (E:Nat→Nat→Prop) (h x:Nat):Prop:=(x=h∧∃s,E s h∧Dom E h s)∨Lp E h x
section
variable {n:Nat} {E:Nat→Nat→Prop} {rk:Nat→Nat}
theorem Lp.ne {h x:Nat} (hl:Lp E h x):x≠h:=by
 cases hl with
 |src _ _ h=>exact h
 |pre _ _ h=>exact h
theorem Lp.ex {h x:Nat} (hl:Lp E h x) :∃s,E s h∧Dom E h s:=by
 induction hl with
 |src h1 h2 _=>exact ⟨_,h1,h2⟩
 |pre _ _ _ ih=>exact ih
theorem Lp.dom {h x:Nat} (hl:Lp E h x):Dom E h x:=by
 induction hl with
 |src _ h2 _=>exact h2
 |pre hv he _ ih=>exact Jc ih he fun e=>hv.ne e.symm
theorem Yj.dom {h x:Nat} (hl:Yj E h x):Dom E h x:=by
 rcases hl with ⟨e,_⟩ | hl
 ·subst e;exact aa2 x
 ·exact hl.dom
theorem Yj.pred {h b x:Nat} (hl:Yj E h x) (he:E b x) (hne:x≠h):Yj E h b:=by
 rcases hl with ⟨e,_⟩ | hl
 ·exact absurd e hne
 ·by_cases hb:b=h
  ·exact .inl ⟨hb,hl.ex⟩
  ·exact .inr (.pre hl he hb)
end
open Classical in
noncomputable def cn (F:Nat→Nat→Prop) (P:List Nat) (v:Nat):Nat→Nat
 |0=>0
 |k+1=>cn F P v k+if F k v∧k∉P then 1 else 0
section
variable {F:Nat→Nat→Prop} {P:List Nat} {v n:Nat}
theorem afo (k:Nat):cn F P v k≤k:=by
 induction k with
 |zero=>exact Nat.le_refl _
 |succ k ih=>simp only [cn];split<;>omega
theorem yF :∀k,cn F P v k=0↔∀u,u<k→F u v→u∈P:=by
 intro k
 induction k with
 |zero=>simp [cn]
 |succ k ih=>
  simp only [cn]
  constructor
  ·intro h u hu hf
   by_cases e:u=k
   ·subst e
    refine Classical.byContradiction fun hn => ?_
    rw [if_pos ⟨hf,hn⟩] at h;omega
   ·exact ih.1 (by omega) u (by omega) hf
  ·intro h
   rw [ih.2 fun u hu=>h u (by omega),if_neg fun hh=>hh.2 (h k (by omega) hh.1)]
open Classical in
theorem ahg {b:Nat} (hb:b∉P) :∀k,cn F (P++[b]) v k+(if F b v∧b<k then 1 else 0)=cn F P v k:=by
 intro k
 induction k with
 |zero=>rw [if_neg fun h=>absurd h.2 (Nat.not_lt_zero _)];rfl
 |succ k ih=>
  simp only [cn]
  by_cases e:k=b
  ·subst e
   rw [if_neg fun h=>absurd h.2 (Nat.lt_irrefl _)] at ih
   rw [if_neg (fun h:F k v∧k∉P++[k]=>h.2 (by simp))]
   by_cases hf:F k v
   ·rw [if_pos ⟨hf,by omega⟩,if_pos ⟨hf,hb⟩];omega
   ·rw [if_neg fun h=>hf h.1,if_neg fun h=>hf h.1];omega
  ·have h1:(F k v∧k∉P++[b])↔(F k v∧k∉P):=by simp [e]
   have h2:(F b v∧b<k+1)↔(F b v∧b<k):=⟨fun h=>⟨h.1,by omega⟩,fun h=>⟨h.1,by omega⟩⟩
   simp only [h1,h2]
   omega
structure Kh (n:Nat) (F:Nat→Nat→Prop) (left:List Int) (P W:List Nat):Prop where
 ll:left.length=n
 nd:(P++W).Nodup
 inn :∀v∈P++W,v<n
 cnt :∀v,v<n→left.getD v 0=(cn F P v n:Nat)
 zr :∀v∈P++W,cn F P v n=0
 full :∀v,v<n→cn F P v n=0→v∈P++W
 av :∀C:Nat→Prop,¬ C 0→(∀v,C v→∃u,C u∧F u v∧u<n)→∀v∈P++W,¬ C v
structure Kj (n:Nat) (F:Nat→Nat→Prop) (left:List Int) (P W:List Nat) (b:Nat) (T N:List Nat):Prop where
 ll:left.length=n
 cnt :∀v,v<n→left.getD v 0=(cn F P v n:Nat)-if v∈T then (1:Int) else 0
 nnd:N.Nodup
 new :∀v,v∈N↔v∈T∧cn F P v n=1
theorem ahh {left left':List Int} {W:List Nat} {b:Nat} {T N:List Nat} (hK:Kh n F left P (W++[b])) (hT :∀v,v∈T↔F b v) (hin :∀u v,F u v→u<n∧v<n) (hJ:Kj n F left' P W b T N):Kh n F left' (P++[b]) (W++N):=by
 have hnd:=hK.nd
 have hbm:b∈P++(W++[b]):=by simp
 have hbn:=hK.inn b hbm
 have hbP:b∉P:=fun h=>by
  rw [List.nodup_append] at hnd
  exact hnd.2.2 b h b (by simp) rfl
 have hadd:=fun v=>ahg (F:=F) (v:=v) hbP n
 have hle :∀v,cn F (P++[b]) v n≤cn F P v n:=fun v=>by rw [←hadd v];exact Nat.le_add_right _ _
 have hold :∀{v},v∈P++[b]++W→v∈P++(W++[b]):=fun {v} h=>by
  simp only [List.mem_append] at h ⊢;rcases h with (h | h) | h<;>simp [h]
 have akp :∀v∈N,v∉P++(W++[b]):=fun v hv h=>by
  have h1:=((hJ.new v).1 hv).2
  rw [hK.zr v h] at h1;cases h1
 have hmem :∀v,v∈P++[b]++(W++N)↔v∈P++(W++[b])∨v∈N:=fun v=>by
  simp only [List.mem_append,List.mem_singleton]
  constructor
  ·rintro ((h | h) | h | h)
   ·exact .inl (.inl h)
   ·exact .inl (.inr (.inr h))
   ·exact .inl (.inr (.inl h))
   ·exact .inr h
  ·rintro ((h | h | h) | h)
   ·exact .inl (.inl h)
   ·exact .inr (.inl h)
   ·exact .inl (.inr h)
   ·exact .inr (.inr h)
 have hNn :∀v∈N,v<n∧F b v:=fun v hv=>by
  have:=(hT v).1 ((hJ.new v).1 hv).1
  exact ⟨(hin b v this).2,this⟩
 refine ⟨hJ.ll,?_,fun v hv => ?_,fun v hv => ?_,fun v hv => ?_,fun v hv hc => ?_,fun C h0 hC v hv => ?_⟩
 ·have hperm:(P++[b]++(W++N)).Perm ((P++(W++[b]))++N):=by
   simp only [List.append_assoc]
   refine List.Perm.append_left P ?_
   have:=(List.perm_append_comm (l₁:=[b]) (l₂:=W)).append_right N
   simpa using this
  rw [hperm.nodup_iff,List.nodup_append]
  exact ⟨hnd,hJ.nnd,fun a ha c hc e=>akp c hc (e▸ha)⟩
 ·rcases (hmem v).1 hv with h | h
  ·exact hK.inn v h
  ·exact (hNn v h).1
 ·rw [hJ.cnt v hv]
  have:=hadd v
  by_cases hf:F b v
  ·rw [if_pos ((hT v).2 hf)];rw [if_pos ⟨hf,hbn⟩] at this;omega
  ·rw [if_neg fun h=>hf ((hT v).1 h)];rw [if_neg fun h=>hf h.1] at this;omega
 ·rcases (hmem v).1 hv with h | h
  ·have:=hK.zr v h;have:=hle v;omega
  ·obtain ⟨h1,h2⟩:=(hJ.new v).1 h
   have:=hadd v
   rw [if_pos ⟨(hT v).1 h1,hbn⟩] at this;omega
 ·rw [hmem]
  by_cases h0:cn F P v n=0
  ·exact .inl (hK.full v hv h0)
  ·have:=hadd v
   by_cases hf:F b v∧b<n
   ·rw [if_pos hf] at this
    exact .inr ((hJ.new v).2 ⟨(hT v).2 hf.1,by omega⟩)
   ·rw [if_neg hf] at this;omega
 ·rcases (hmem v).1 hv with h | h
  ·exact hK.av C h0 hC v h
  ·intro hCv
   obtain ⟨u,hu,huv,hun⟩:=hC v hCv
   have hup:u∉P++[b]:=fun h'=>hK.av C h0 hC u (hold (List.mem_append_left _ h')) hu
   obtain ⟨h1,h2⟩:=(hJ.new v).1 h
   have:=hadd v
   rw [if_pos ⟨(hT v).1 h1,hbn⟩] at this
   exact hup ((yF n).1 (by omega) u hun huv)
end
theorem ahi {n:Nat} {E F:Nat→Nat→Prop} {O:List Nat} {left:List Int} {P:List Nat} (hO:Od n E O) (hF :∀u v,F u v↔E u v∧¬ Dom E v u) (hK:Kh n F left P []):P.length=n↔¬∃b x,F b x∧O.idxOf x≤O.idxOf b:=by
 have hG:=hO.gr
 have hnd:P.Nodup:=by have:=hK.nd;simpa using this
 have hin :∀v∈P,v<n:=fun v hv=>hK.inn v (by simpa using hv)
 have hlen:P.length=n↔∀v,v<n→v∈P:=by
  constructor
  ·intro h v hv
   refine Classical.byContradiction fun hn => ?_
   have aoc:(v::P).Nodup:=List.nodup_cons.2 ⟨hn,hnd⟩
   have hsub :∀a∈v::P,a∈List.range n:=fun a ha=>by
    rcases List.mem_cons.1 ha with e | ha
    ·rw [e];exact List.mem_range.2 hv
    ·exact List.mem_range.2 (hin a ha)
   have:=List.Nodup.length_le_of_subset aoc hsub
   simp at this;omega
  ·intro h
   have:=(List.perm_ext_iff_of_nodup hnd List.nodup_range).2 (fun a=>⟨fun ha=>List.mem_range.2 (hin a ha),fun ha=>h a (List.mem_range.1 ha)⟩ :∀a,a∈P↔a∈List.range n)
   rw [this.length_eq,List.length_range]
 rw [hlen]
 constructor
 ·rintro h ⟨b,x,hbx,hle⟩
  have hbE:=((hF b x).1 hbx).1
  let C:Nat→Prop:=fun v =>∀S:Nat→Prop,S x→(∀u w,S u→E u w→O.idxOf u<O.idxOf w→S w)→S v
  have hCx:C x:=fun S sx _=>sx
  have hCs :∀u w,C u→E u w→O.idxOf u<O.idxOf w→C w:=fun u w hu he hlt S sx hS=>hS u w (hu S sx hS) he hlt
  have hCb:C b:=fun S sx hS=>hO.back hbE hle S sx hS
  have hfw :∀u w,E u w→O.idxOf u<O.idxOf w→F u w:=fun u w he hlt=>(hF u w).2 ⟨he,fun hd=>by
   have:=NS hG (hG.inn he).2 (hG.inn he).1 hd
   omega⟩
  have hex :∀v,C v→C v∧∃u,C u∧F u v∧u<n:=fun v hv=>hv (fun v=>C v∧∃u,C u∧F u v∧u<n) ⟨hCx,b,hCb,hbx,(hG.inn hbE).1⟩ fun u w hu he hlt=>⟨hCs u w hu.1 he hlt,u,hu.1,hfw u w he hlt,(hG.inn he).1⟩
  have h0:¬ C 0:=fun h0=>by
   obtain ⟨_,u,_,hu,_⟩:=hex 0 h0
   exact ((hF u 0).1 hu).2 (xU u)
  exact hK.av C h0 (fun v hv=>(hex v hv).2) x (by simpa using h x (hG.inn hbE).2) hCx
 ·intro h
  have key :∀k v,v<n→O.idxOf v≤k→v∈P:=by
   intro k
   induction k with
   |zero=>
    intro v hv hk
    have:=hK.full v hv ((yF n).2 fun u hu hf=>absurd ⟨u,v,hf,by omega⟩ h)
    simpa using this
   |succ k ih=>
    intro v hv hk
    have:=hK.full v hv ((yF n).2 fun u hu hf=>ih u hu (by
     have:¬ O.idxOf v≤O.idxOf u:=fun hle=>h ⟨u,v,hf,hle⟩
     omega))
    simpa using this
  exact fun v hv=>key _ v hv (Nat.le_refl _)
open Go.Fw
theorem qy {l:List Int} {a z:Nat} {v:Int} (ha:a<l.length):(l.set a v).getD z 0=if z=a then v else l.getD z 0:=by
 rw [List.getD_eq_getElem?_getD,List.getD_eq_getElem?_getD]
 by_cases h:z=a
 ·subst h;rw [List.getElem?_set_self ha,if_pos rfl];rfl
 ·rw [List.getElem?_set_ne (fun e=>h e.symm),if_neg h]
def Ends (bs:List aJ):Prop :=∀b,b<bs.length→((bs.getD b aj).bf≠3→0≤(bs.getD b aj).dV∧(bs.getD b aj).dV<bs.length)∧((bs.getD b aj).bf=2→0≤(bs.getD b aj).bK∧(bs.getD b aj).bK<bs.length)
def Ug (bs:List aJ):Prop :=∀S:Nat→Prop,S 0→(∀b,b<bs.length→S b→((bs.getD b aj).bf≠3→S (bs.getD b aj).dV.toNat)∧((bs.getD b aj).bf=2→S (bs.getD b aj).bK.toNat))→∀b,b<bs.length→S b
def succs (k t e:Int):List Int:=if k=2∧e≠t then [t,e] else if k=1∨k=2 then [t] else []
theorem Jg (k a t e:Int):f10 k a t e=some (succs k t e):=by
 apply ok_eq
 unfold f10 succs
 refine bn (fun y=>y=decide (k=2∧e≠t)) ?_ fun y hy => ?_
 ·refine bI (fun h=>aA ?_) (fun h=>aA ?_)
  ·have h:k=2:=by simpa using h
   by_cases h2:e=t<;>simp [h,h2]
  ·have h:¬ k=2:=by simpa using h
   simp [h]
 subst hy
 refine bI (fun h=>aA ?_) (fun h => ?_)
 ·rw [if_pos (by simpa using h)]
 ·rw [if_neg (by simpa using h)]
  refine bn (fun y=>y=decide (k=1∨k=2)) ?_ fun y hy => ?_
  ·refine bI (fun h=>aA ?_) (fun h=>aA ?_)
   ·have h:k=1:=by simpa using h
    simp [h]
   ·have h:¬ k=1:=by simpa using h
    simp [h]
  ·subst hy
   refine bI (fun h=>aA ?_) (fun h=>aA ?_)
   ·rw [if_pos (by simpa using h)]
   ·rw [if_neg (by simpa using h)]
def dn (bs:List aJ) (b:Nat):List Int:=succs (bs.getD b aj).bf (bs.getD b aj).dV (bs.getD b aj).bK
def mF (bs:List aJ):Prop:=Ends bs∧∀b,b<bs.length→(bs.getD b aj).bf=1∨(bs.getD b aj).bf=2∨(bs.getD b aj).bf=3
theorem u_ {bs:List aJ} (h:mF bs) {b:Nat} (hb:b<bs.length) :∀x∈dn bs b,0≤x∧x<bs.length:=by
 obtain ⟨h1,h2⟩:=h
 obtain ⟨e1,e2⟩:=h1 b hb
 have hk:=h2 b hb
 intro x hx
 unfold dn succs at hx
 split at hx
 ·rename_i hc
  rcases List.mem_cons.1 hx with rfl | hx
  ·exact e1 (by omega)
  ·rw [List.mem_singleton] at hx;rw [hx];exact e2 hc.1
 ·split at hx
  ·rename_i hc;rw [List.mem_singleton] at hx;rw [hx];exact e1 (by omega)
  ·cases hx
def cntF (l:List Bool):Nat:=l.count false
theorem xX {l:List Bool} {k:Nat} (hk:k<l.length) (hf:l.getD k false=false):cntF (l.set k true)+1=cntF l:=by
 unfold cntF
 rw [getD_at _ hk] at hf
 have hp:0<l.count false:=List.count_pos_iff.2 (hf▸List.getElem_mem hk)
 rw [List.count_set hk,hf];simp;omega
theorem mG {l:List Bool} {a z:Nat} {v:Bool} (ha:a<l.length):(l.set a v).getD z false=if z=a then v else l.getD z false:=by
 rw [List.getD_eq_getElem?_getD,List.getD_eq_getElem?_getD]
 by_cases h:z=a
 ·subst h;rw [List.getElem?_set_self ha,if_pos rfl];rfl
 ·rw [List.getElem?_set_ne (fun e=>h e.symm),if_neg h]
structure Mk (bs:List aJ) (m:List Bool) (st:List Int):Prop where
 len:m.length=bs.length
 zero:m.getD 0 false=true
 stk :∀x∈st,(0≤x∧x<bs.length)∧m.getD x.toNat false=true
 all :∀S:Nat→Prop,S 0→(∀b,b<bs.length→S b→∀x∈dn bs b,S x.toNat)→∀b,b<bs.length→m.getD b false=true→S b
theorem QG {nm:List UInt8} {a b:Int} {bs:List aJ} (hE:mF bs) (h0:0<bs.length) (hl:bs.length≤1000000) :
  Ok (f43 nm a b bs) fun m=>Mk bs m []∧∀b,b<bs.length→m.getD b false=true→∀x∈dn bs b,m.getD x.toNat false=true:=by
 unfold f43
 refine bV (lI.2 (by omega)) ?_
 refine BN (decide_eq_false (by simp only [List.length_replicate,Int.toNat_natCast];omega)) (bV (ak.2 (by simp only [List.length_replicate,Int.toNat_natCast];omega)) ?_)
 refine bn (fun m=>Mk bs m []∧∀b,b<bs.length→m.getD b false=true→∀x∈dn bs b,m.getD x.toNat false=true) ?_ fun y hy=>aA hy
 have hz:(List.replicate ((bs.length:Int)).toNat false).length=bs.length:=by simp
 refine bC (fun s:List Bool×List Int=>Mk bs s.1 s.2∧s.2.length+cntF s.1≤bs.length∧∀b,b<bs.length→s.1.getD b false=true→(b:Int)∈s.2∨∀x∈dn bs b,s.1.getD x.toNat false=true) (fun s=>2*cntF s.1+s.2.length)
  ⟨⟨by simp,by rw [mG (by rw [hz];exact h0)];simp,fun x hx => ?_,fun S s0 _ b hb hm => ?_⟩,?_,fun b hb hm=>.inl ?_⟩ fun s ⟨h1,hsz,h2⟩ => ?_
 ·rw [List.mem_singleton] at hx;subst hx
  refine ⟨by omega,?_⟩
  rw [mG (by rw [hz];exact h0)];simp
 ·simp only at hm
  rw [mG (by rw [hz];exact h0)] at hm
  split at hm
  ·rename_i e;rw [e];exact s0
  ·rw [getD_at _ (by rw [hz];exact hb)] at hm;simp at hm
 ·have hc:=xX (l:=List.replicate ((bs.length:Int)).toNat false) (k:=0) (by rw [hz];exact h0) (by rw [getD_at _ (by rw [hz];exact h0)];simp)
  have:cntF (List.replicate ((bs.length:Int)).toNat false)=bs.length:=by simp [cntF,List.count_replicate]
  simp only [List.length_singleton,Int.toNat_zero]
  omega
 ·simp only at hm
  rw [mG (by rw [hz];exact h0)] at hm
  split at hm
  ·rename_i e;simp [e]
  ·rw [getD_at _ (by rw [hz];exact hb)] at hm;simp at hm
 obtain ⟨m,st⟩:=s
 simp only at h1 h2 hsz
 refine bI (fun hne => ?_) (fun he=>aA ?_)
 rotate_left
 ·have:st=[]:=by simpa using he
  subst this
  exact ⟨h1,fun b hb hm=>(h2 b hb hm).resolve_left (by simp)⟩
 have hpos:0<st.length:=by simpa using hne
 have hw:cZ ((st.length:Int)-1)=((st.length-1:Nat):Int):=by rw [aN (by omega)];omega
 simp only [hw,Int.toNat_natCast]
 refine bV (ak.2 (by omega)) (bV (by simp) ?_)
 have hlast:st.getD (st.length-1) 0∈st:=by rw [getD_at _ (by omega)];exact List.getElem_mem _
 have hst:st=st.take (st.length-1)++[st.getD (st.length-1) 0]:=by
  rw [getD_at _ (by omega),←take_snoc (by omega),show st.length-1+1=st.length from by omega,List.take_length]
 obtain ⟨hx1,hx2⟩:=h1.stk _ hlast
 generalize st.getD (st.length-1) 0=x at hlast hst hx1 hx2 ⊢
 obtain ⟨q,rfl⟩ :∃n:Nat,x=n:=⟨x.toNat,by omega⟩
 rw [Int.toNat_natCast] at hx2
 have hq:q<bs.length:=by omega
 have htl:(st.take (st.length-1)).length=st.length-1:=by simp
 generalize st.take (st.length-1)=st' at hst htl ⊢
 refine bV (ak.2 (by omega)) ?_
 simp only [Int.toNat_natCast]
 refine vX (Jg _ _ _ _) ?_
 have aoe:=u_ hE hq
 have akq:succs (bs.getD q aj).bf (bs.getD q aj).dV (bs.getD q aj).bK=dn bs q:=rfl
 rw [akq]
 refine bn (fun y=>Mk bs y.1 y.2∧2*cntF y.1+y.2.length≤2*cntF m+st'.length∧y.2.length+cntF y.1≤st'.length+cntF m∧(∀b,b<bs.length→m.getD b false=true→y.1.getD b false=true)∧(∀z∈st',z∈y.2)∧
   (∀b,b<bs.length→y.1.getD b false=true→m.getD b false=false→(b:Int)∈y.2)∧∀x∈dn bs q,y.1.getD x.toNat false=true) ?_ fun y ⟨a1,a2,a3,a4,a5,a6,a7⟩=>aA ⟨⟨a1,?_,fun b hb hm => ?_⟩,?_⟩
 ·have hm0:Mk bs m st':=⟨h1.len,h1.zero,fun x hx=>h1.stk x (by rw [hst];exact List.mem_append_left _ hx),h1.all⟩
  refine agp (dn bs q) (fun i s=>(i,s.1,s.2)) (fun s x=>if s.1.getD x.toNat false then s else (s.1.set x.toNat true,s.2++[x]))
   (fun i s=>Mk bs s.1 s.2∧2*cntF s.1+s.2.length≤2*cntF m+st'.length∧s.2.length+cntF s.1≤st'.length+cntF m∧(∀b,b<bs.length→m.getD b false=true→s.1.getD b false=true)∧(∀z∈st',z∈s.2)∧
    (∀b,b<bs.length→s.1.getD b false=true→m.getD b false=false→(b:Int)∈s.2)∧∀j,(hj:j<(dn bs q).length)→j<i→s.1.getD ((dn bs q)[j]).toNat false=true)
   (s0:=(m,st')) rfl ⟨hm0,Nat.le_refl _,Nat.le_refl _,fun _ _ h=>h,fun _ h=>h,fun b _ h h'=>(by rw [h] at h';cases h'),fun j _ h=>by omega⟩ (fun i h s ⟨b1,b2,b3,b4,b5,b6,b7⟩ _ => ?_) (fun s ⟨b1,b2,b3,b4,b5,b6,b7⟩ _ => ?_)
  rotate_left
  ·refine BN (decide_eq_false (by simp only;omega)) (aA ⟨b1,b2,b3,b4,b5,b6,fun x hx => ?_⟩)
   obtain ⟨j,hj,e⟩:=List.getElem_of_mem hx
   rw [←e];exact b7 j hj hj
  obtain ⟨mk,sk⟩:=s
  simp only at b1 b2 b3 b4 b5 b6 b7
  have hs2:(dn bs q).length≤2:=by unfold dn succs;(repeat' split)<;>simp
  have hmem:=List.getElem_mem h
  have hxr:=aoe _ hmem
  have hlen:=b1.len
  refine goT (decide_eq_true (by simp only;omega)) (bV (ak.2 ⟨by simp only;omega,by simp only;omega⟩) ?_)
  have e:(dn bs q).getD i 0=(dn bs q)[i]:=getD_at _ h
  simp only [Int.toNat_natCast,e]
  have hnew :∀(mk':List Bool) (b':Nat),b'<bs.length→mk'.getD b' false=true→True:=fun _ _ _ _=>trivial
  refine bV (ak.2 (by omega)) ?_
  generalize hgx:(dn bs q)[i]=x at hmem hxr ⊢
  have hxl:x.toNat<mk.length:=by omega
  refine bn (fun y=>y=if mk.getD x.toNat false then (mk,sk) else (mk.set x.toNat true,sk++[x])) ?_ fun y hy => ?_
  ·refine bI (fun hc => ?_) (fun hc=>aA ?_)
   ·have hc:mk.getD x.toNat false=false:=by simpa using hc
    refine bV (ak.2 ⟨by omega,by omega⟩) ?_
    refine bV (ak.2 (by omega)) (bV (ak.2 ⟨by omega,by omega⟩) (bV (by unfold b_;simp;omega) (aA ?_)))
    rw [if_neg (by rw [hc];simp)]
   ·have hc:mk.getD x.toNat false=true:=by simpa using hc
    rw [if_pos hc]
  ·subst hy
   refine aA ⟨by rw [aN (x:=(i:Int)+1) (by omega)],?_⟩
   by_cases hc:mk.getD x.toNat false=true
   ·simp only [if_pos hc]
    refine ⟨b1,b2,b3,b4,b5,b6,fun j hj hji => ?_⟩
    by_cases e2:j=i
    ·subst e2;rw [hgx];exact hc
    ·exact b7 j hj (by omega)
   ·simp only [if_neg hc]
    have hcf:mk.getD x.toNat false=false:=by simpa using hc
    have hcnt:=xX hxl hcf
    have hset :∀z,(mk.set x.toNat true).getD z false=if z=x.toNat then true else mk.getD z false:=fun z=>mG hxl
    refine ⟨⟨by simp [hlen],?_,fun z hz => ?_,fun S s0 hcl z hz hm => ?_⟩,by simp;omega,by simp;omega,fun z hz hm => ?_,fun z hz=>List.mem_append_left _ (b5 z hz),fun z hz hm hf => ?_,fun j hj hji => ?_⟩
    ·rw [hset];split
     ·rfl
     ·exact b1.zero
    ·rcases List.mem_append.1 hz with hz | hz
     ·obtain ⟨r1,r2⟩:=b1.stk z hz
      refine ⟨r1,?_⟩
      rw [hset];split
      ·rfl
      ·exact r2
     ·rw [List.mem_singleton] at hz;subst hz
      refine ⟨hxr,?_⟩
      rw [hset,if_pos rfl]
    ·rw [hset] at hm
     split at hm
     ·rename_i e2;rw [e2]
      exact hcl q hq (h1.all S s0 hcl q hq hx2) x hmem
     ·exact b1.all S s0 hcl z hz hm
    ·rw [hset];split
     ·rfl
     ·exact b4 z hz hm
    ·rw [hset] at hm
     split at hm
     ·rename_i e2
      refine List.mem_append_right _ ?_
      rw [List.mem_singleton];omega
     ·exact List.mem_append_left _ (b6 z hz hm hf)
    ·rw [hset]
     by_cases e2:j=i
     ·subst e2;rw [hgx,if_pos rfl]
     ·split
      ·rfl
      ·exact b7 j hj (by omega)
 ·have:st.length=st'.length+1:=by rw [hst];simp
  simp only;omega
 ·simp only at hm ⊢
  cases hmb:m.getD b false with
  |false=>exact .inl (a6 b hb hm hmb)
  |true=>
   by_cases e:b=q
   ·subst e;exact .inr a7
   ·rcases h2 b hb hmb with h | h
    ·rw [hst] at h
     rcases List.mem_append.1 h with h | h
     ·exact .inl (a5 _ h)
     ·rw [List.mem_singleton] at h;omega
    ·refine .inr fun x hx => ?_
     have:=u_ hE hb x hx
     exact a4 x.toNat (by omega) (h x hx)
 ·have:st.length=st'.length+1:=by rw [hst];simp
  simp only;omega
def Good (f:aV):Prop:=f.blocks.length≤1000∧0<f.blocks.length∧mF f.blocks∧Ug f.blocks
def idx (m:List Bool):Nat→List Nat
 |0=>[]
 |i+1=>idx m i++if m.getD i false then [i] else []
def rk (m:List Bool) (i:Nat):Nat:=(idx m i).length
theorem V9 (m:List Bool) (i:Nat):rk m (i+1)=rk m i+if m.getD i false then 1 else 0:=by
 show (idx m i++if m.getD i false then [i] else []).length=(idx m i).length+_
 rw [List.length_append];split<;>rfl
theorem FX {m:List Bool} :∀{n j:Nat},j∈idx m n→j<n∧m.getD j false=true
 |n+1,j,h=>by
  rcases List.mem_append.1 h with h | h
  ·have:=FX h;exact ⟨by omega,this.2⟩
  ·split at h
   ·rename_i e;rw [List.mem_singleton] at h;subst h;exact ⟨by omega,e⟩
   ·cases h
theorem Jh {m:List Bool} :∀{n j:Nat},j<n→m.getD j false=true→(idx m n)[rk m j]?=some j
 |n+1,j,h,hm=>by
  unfold idx
  by_cases e:j=n
  ·subst e
   show (idx m j++if m.getD j false then [j] else [])[(idx m j).length]?=_
   rw [List.getElem?_append_right (Nat.le_refl _),if_pos hm,Nat.sub_self];rfl
  ·have:=Jh (n:=n) (by omega) hm
   rw [List.getElem?_append_left (List.getElem?_eq_some_iff.1 this).1]
   exact this
theorem aa8 (m:List Bool) (i:Nat):rk m i≤i:=by
 induction i with
 |zero=>exact Nat.le_refl _
 |succ i ih=>rw [V9];split<;>omega
def ren (m:List Bool) (t:aJ):aJ:=
 { t with dV:=if t.bf=3 then t.dV else (rk m t.dV.toNat:Int),bK:=if t.bf=2 then (rk m t.bK.toNat:Int) else t.bK }
def vM (m:List Bool) (bs:List aJ):List aJ:=(idx m bs.length).map fun j=>ren m (bs.getD j aj)
theorem BK {bs:List aJ} {b:Nat}:((bs.getD b aj).bf=1∨(bs.getD b aj).bf=2→(bs.getD b aj).dV∈dn bs b)∧((bs.getD b aj).bf=2→(bs.getD b aj).bK∈dn bs b):=by
 unfold dn succs
 constructor
 ·intro h;split
  ·simp
  ·first
   |(rw [if_pos h];simp)
   |simp
 ·intro h;split
  ·simp
  ·rename_i hc
   first
    |rw [if_pos (.inr h)]
    |skip
   have:(bs.getD b aj).bK=(bs.getD b aj).dV:=Decidable.byContradiction fun e=>hc ⟨h,e⟩
   rw [this];exact List.mem_singleton.2 rfl
theorem X0 {bs:List aJ} {m:List Bool} (hE:mF bs) (h0:0<bs.length) (hM:Mk bs m []) (hc :∀b,b<bs.length→m.getD b false=true→∀x∈dn bs b,m.getD x.toNat false=true) :
  0<(vM m bs).length∧(vM m bs).length≤bs.length∧mF (vM m bs)∧Ug (vM m bs):=by
 have hlen:(vM m bs).length=rk m bs.length:=by unfold vM rk;simp
 have hlt :∀j,j<bs.length→m.getD j false=true→rk m j<(vM m bs).length:=by
  intro j hj hm
  have:=(List.getElem?_eq_some_iff.1 (Jh hj hm)).1
  rw [hlen];exact this
 have hget :∀p,p<(vM m bs).length→∃j,j<bs.length∧m.getD j false=true∧rk m j=p∧(vM m bs).getD p aj=ren m (bs.getD j aj):=by
  intro p hp
  have hp':p<(idx m bs.length).length:=by unfold vM at hp;simpa using hp
  have hm:=FX (List.getElem_mem hp')
  refine ⟨(idx m bs.length)[p],hm.1,hm.2,?_,?_⟩
  ·have h1:=Jh hm.1 hm.2
   have key :∀n,∀a b:Nat,(idx m n)[a]?=(idx m n)[b]?→a<(idx m n).length→a=b:=by
    intro n
    induction n with
    |zero=>intro a b _ h;simp [idx] at h
    |succ n ih=>
     intro a b hab ha
     unfold idx at hab ha
     by_cases hn:m.getD n false=true
     ·rw [if_pos hn] at hab ha
      rw [List.length_append] at ha
      by_cases ha2:a<(idx m n).length
      ·rw [List.getElem?_append_left ha2] at hab
       by_cases hb2:b<(idx m n).length
       ·rw [List.getElem?_append_left hb2] at hab
        exact ih a b hab ha2
       ·rw [List.getElem?_append_right (by omega),List.getElem?_eq_getElem ha2] at hab
        have hbb:b-(idx m n).length=0:=by
         have:=(List.getElem?_eq_some_iff.1 hab.symm).1
         simp at this;omega
        rw [hbb] at hab
        have:=FX (List.getElem_mem ha2)
        simp at hab;omega
      ·have haa:a=(idx m n).length:=by simp at ha;omega
       rw [List.getElem?_append_right (by omega),haa,Nat.sub_self] at hab
       by_cases hb2:b<(idx m n).length
       ·rw [List.getElem?_append_left hb2,List.getElem?_eq_getElem hb2] at hab
        have:=FX (List.getElem_mem hb2)
        simp at hab;omega
       ·rw [List.getElem?_append_right (by omega)] at hab
        have:=(List.getElem?_eq_some_iff.1 hab.symm).1
        simp at this;omega
     ·rw [if_neg hn,List.append_nil] at hab ha
      exact ih a b hab ha
   refine (key bs.length p _ ?_ hp').symm
   rw [h1,List.getElem?_eq_getElem hp']
  ·unfold vM
   rw [List.getD_eq_getElem?_getD,List.getElem?_map,List.getElem?_eq_getElem hp'];rfl
 have hz:rk m 0=0:=rfl
 refine ⟨by have:=hlt 0 h0 hM.zero;omega,by rw [hlen];exact aa8 _ _,⟨fun p hp => ?_,fun p hp => ?_⟩,fun S s0 hS p hp => ?_⟩
 ·obtain ⟨j,hj,hm,_,e⟩:=hget p hp
  obtain ⟨e1,e2⟩:=hE.1 j hj
  have hk:=hE.2 j hj
  have hs:=BK (bs:=bs) (b:=j)
  rw [e]
  unfold ren
  simp only
  refine ⟨fun hk3 => ?_,fun hk2 => ?_⟩
  ·rw [if_neg hk3]
   have:=hlt _ (by have:=e1 hk3;omega) (hc j hj hm _ (hs.1 (by omega)))
   omega
  ·rw [if_pos hk2]
   have:=hlt _ (by have:=e2 hk2;omega) (hc j hj hm _ (hs.2 hk2))
   omega
 ·obtain ⟨j,hj,hm,_,e⟩:=hget p hp
  rw [e];exact hE.2 j hj
 ·obtain ⟨j,hj,hm,hr,_⟩:=hget p hp
  have:=hM.all (fun b=>m.getD b false=true∧S (rk m b)) ⟨hM.zero,s0⟩ (fun b hb ⟨hbm,hbS⟩ x hx=>⟨hc b hb hbm x hx,?_⟩) j hj hm
  ·rw [←hr];exact this.2
  ·have hbl:=hlt b hb hbm
   obtain ⟨j',hj',hm',hr',e'⟩:=hget _ hbl
   have hjb:j'=b:=by
    have h1:=Jh hj' hm'
    have h2:=Jh hb hbm
    rw [hr',h2] at h1
    exact (Option.some.inj h1).symm
   subst hjb
   obtain ⟨c1,c2⟩:=hS _ hbl hbS
   rw [e'] at c1 c2
   unfold ren at c1 c2
   simp only at c1 c2
   unfold dn succs at hx
   split at hx
   ·rename_i hk
    rcases List.mem_cons.1 hx with rfl | hx
    ·have:=c1 (by omega)
     rw [if_neg (by omega)] at this;simpa using this
    ·rw [List.mem_singleton] at hx;subst hx
     have:=c2 hk.1
     rw [if_pos hk.1] at this;simpa using this
   ·split at hx
    ·rename_i hk
     rw [List.mem_singleton] at hx;subst hx
     have:=c1 (by omega)
     rw [if_neg (by omega)] at this;simpa using this
    ·cases hx
theorem aa9 (m:List Bool) (i:Nat):idx m (i+1)=idx m i++if m.getD i false then [i] else []:=rfl
theorem Uh {nm:List UInt8} {a b:Int} {bs:List aJ} (hE:mF bs) (h0:0<bs.length) (hl:bs.length≤1000000) :
  Ok (f32 nm a b bs) fun y=>y.1=nm∧y.2.1=a∧y.2.2.1=b∧0<y.2.2.2.length∧y.2.2.2.length≤bs.length∧mF y.2.2.2∧Ug y.2.2.2:=by
 unfold f32
 refine bn _ (QG hE h0 hl) fun m ⟨hM,hc⟩ => ?_
 have hml:=hM.len
 refine bV (lI.2 (by omega)) ?_
 refine bn (fun y=>y.length=bs.length∧∀j,j<bs.length→y.getD j 0=(rk m j:Int)) ?_ fun nums ⟨hn1,hn2⟩ => ?_
 ·refine bC (fun s:Int×Int×List Int =>∃i:Nat,s.2.1=i∧i≤bs.length∧s.1=(rk m i:Int)∧s.2.2.length=bs.length∧∀j,j<i→s.2.2.getD j 0=(rk m j:Int)) (fun s=>bs.length-s.2.1.toNat)
   ⟨0,rfl,by omega,rfl,by simp [hml],fun j h=>by omega⟩ fun s ⟨i,e1,e2,e3,e4,e5⟩ => ?_
  obtain ⟨k,i',l⟩:=s
  simp only at e1 e3 e4 e5
  subst e1;subst e3
  refine bI (fun hi => ?_) (fun hi=>aA ⟨e4,fun j hj=>e5 j ?_⟩)
  rotate_left
  ·simp at hi;omega
  have hi:i<bs.length:=by simp at hi;omega
  have hrk:=aa8 m i
  refine bV (ak.2 ⟨by simp only;omega,by simp only;omega⟩) (bV (ak.2 ⟨by simp only;omega,by simp only;omega⟩) ?_)
  simp only [Int.toNat_natCast]
  refine bn (fun y=>y=(rk m (i+1):Int)) ?_ fun y hy => ?_
  ·rw [V9]
   refine bI (fun hm=>aA ?_) (fun hm=>aA ?_)
   ·rw [if_pos hm,aN (by omega)];simp
   ·rw [if_neg (by rw [hm];simp)];simp
  ·subst hy
   refine aA ⟨⟨i+1,by simp only;rw [aN (x:=(i:Int)+1) (by omega)];simp,by omega,rfl,by simp [e4],fun j hj => ?_⟩,by simp only;rw [aN (x:=(i:Int)+1) (by omega)];omega⟩
   simp only
   rw [qy (by omega)]
   split
   ·rename_i e;rw [e]
   ·exact e5 j (by omega)
 refine bn (fun y=>y=(nm,a,b,vM m bs)) ?_ fun y hy => ?_
 rotate_left
 ·subst hy
  obtain ⟨c1,c2,c3,c4⟩:=X0 hE h0 hM hc
  exact aA ⟨rfl,rfl,rfl,c1,c2,c3,c4⟩
 refine bC (fun s:Int×List UInt8×Int×Int×List aJ =>∃i:Nat,i≤bs.length∧s=((i:Int),nm,a,b,(idx m i).map fun j=>ren m (bs.getD j aj))) (fun s=>bs.length-s.1.toNat)
  ⟨0,by omega,rfl⟩ fun s ⟨i,e2,e⟩ => ?_
 subst e
 refine bI (fun hi => ?_) (fun hi=>aA ?_)
 rotate_left
 ·have:i=bs.length:=by simp at hi;omega
  subst this;rfl
 have hi:i<bs.length:=by simp at hi;omega
 have hrk:=aa8 m i
 refine bn (fun y=>y=(nm,a,b,(idx m (i+1)).map fun j=>ren m (bs.getD j aj))) ?_ fun y hy => ?_
 rotate_left
 ·subst hy
  refine aA ⟨⟨i+1,by omega,?_⟩,by simp only;rw [aN (x:=(i:Int)+1) (by omega)];omega⟩
  simp only;rw [aN (x:=(i:Int)+1) (by omega)];rfl
 refine bV (ak.2 ⟨by simp only;omega,by simp only;omega⟩) ?_
 simp only [Int.toNat_natCast]
 rw [aa9]
 refine bI (fun hm=>aA ?_) (fun hm => ?_)
 ·have hm:m.getD i false=false:=by simpa using hm
  rw [if_neg (by rw [hm];simp),List.append_nil]
 have hm:m.getD i false=true:=by simpa using hm
 rw [if_pos hm]
 obtain ⟨t1,t2⟩:=hE.1 i hi
 refine bV (ak.2 (by omega)) ?_
 have gW:ren m (bs.getD i aj)={ bs.getD i aj with dV:=if (bs.getD i aj).bf=3 then (bs.getD i aj).dV else (rk m (bs.getD i aj).dV.toNat:Int),bK:=if (bs.getD i aj).bf=2 then (rk m (bs.getD i aj).bK.toNat:Int) else (bs.getD i aj).bK }:=rfl
 have hmap:(idx m i++[i]).map (fun j=>ren m (bs.getD j aj))=(idx m i).map (fun j=>ren m (bs.getD j aj))++[ren m (bs.getD i aj)]:=by simp
 have hll:((idx m i).map fun j=>ren m (bs.getD j aj)).length=rk m i:=by unfold rk;simp
 rw [hmap]
 generalize (idx m i).map (fun j=>ren m (bs.getD j aj))=acc at hll ⊢
 rw [gW]
 refine bn (fun y=>y=((bs.getD i aj).instrs,(bs.getD i aj).bf,(bs.getD i aj).oH,(if (bs.getD i aj).bf=3 then (bs.getD i aj).dV else (rk m (bs.getD i aj).dV.toNat:Int)),(bs.getD i aj).bK,(bs.getD i aj).line,(bs.getD i aj).jG,(bs.getD i aj).iU)) ?_ fun y hy => ?_
 ·refine bI (fun hk => ?_) (fun hk=>aA ?_)
  ·have hk:¬ (bs.getD i aj).bf=3:=by simpa using hk
   have:=t1 hk
   refine bV (ak.2 (by omega)) (aA ?_)
   rw [if_neg hk,hn2 _ (by omega)]
  ·have hk:(bs.getD i aj).bf=3:=by simpa using hk
   rw [if_pos hk]
 subst hy
 refine bn (fun y=>y=((bs.getD i aj).instrs,(bs.getD i aj).bf,(bs.getD i aj).oH,(if (bs.getD i aj).bf=3 then (bs.getD i aj).dV else (rk m (bs.getD i aj).dV.toNat:Int)),(if (bs.getD i aj).bf=2 then (rk m (bs.getD i aj).bK.toNat:Int) else (bs.getD i aj).bK),(bs.getD i aj).line,(bs.getD i aj).jG,(bs.getD i aj).iU)) ?_ fun y hy => ?_
 ·refine bI (fun hk => ?_) (fun hk=>aA ?_)
  ·have hk:(bs.getD i aj).bf=2:=by simpa using hk
   have:=t2 hk
   refine bV (ak.2 ⟨by simp only;omega,by simp only;omega⟩) (aA ?_)
   simp only
   rw [if_pos hk,hn2 _ (by omega)]
  ·have hk:¬ (bs.getD i aj).bf=2:=by simpa using hk
   simp only
   rw [if_neg hk]
 subst hy
 refine bV (by unfold b_;simp;omega) (aA rfl)
def Bytes (l:List Int):Prop:=l.length≤9223372036854775807∧∀x∈l,0≤x∧x≤255
theorem bytes_at {l:List Int} (h:Bytes l) {n:Int} (h0:0≤n) (h1:n<l.length):0≤l.getD n.toNat 0∧l.getD n.toNat 0≤255:=by
 rw [getD_at 0 (by omega)]
 exact h.2 _ (List.getElem_mem _)
def QH (n:Int) (l:List Int) (y:Int×(List Int×Int)):Prop:=y.2.1=l∧0≤y.2.2∧0≤y.1∧(1≤n→y.1<n)∧(n≤1→y.1=0)
theorem K_ {rec:Int→List Int→Int→Option (Int×(List Int×Int))} {n:Int} {l:List Int} {i:Int} (hl:Bytes l) (hi:0≤i) (hn:n≤65536)
  (hrec:256<n→∀j,0≤j→Ok (rec 256 l j) (QH 256 l)):Ok (ade rec n l i) (QH n l):=by
 unfold ade
 simp only [FM,TJ,yD,aai,VG,Qp,ak,not_iff]
 have tail:(n≥1)→i<l.length→(0≤i∧i<(l.length:Int))∧(256<n→Ok (rec 256 l (cZ (i+1))) fun y=>¬ n=0∧QH n l (Int.tmod (cZ (cZ (256*cZ (l.getD i.toNat 0))+y.1)) n,y.2.1,y.2.2))∧(¬ 256<n→¬ n=0∧QH n l (Int.tmod (cZ (l.getD i.toNat 0)) n,l,cZ (i+1))):=by
  intro h1 h2
  have hb:=bytes_at hl hi h2
  have hl':=hl.1
  rw [aN (x:=i+1) (by omega),aN (x:=l.getD i.toNat 0) (by omega),aN (x:=256*l.getD i.toNat 0) (by omega)]
  refine ⟨⟨hi,h2⟩,fun h3=>kQ (hrec h3 (i+1) (by omega)) fun y hy => ?_,fun h3=>⟨by omega,?_⟩⟩
  ·obtain ⟨q1,q2,q3,q4,q5⟩:=hy
   have q4:=q4 (by omega)
   rw [aN (by omega)]
   refine ⟨by omega,q1,q2,?_⟩
   have:=tmod_lt (a:=256*l.getD i.toNat 0+y.1) (b:=n) (by omega) (by omega)
   exact ⟨this.1,fun _=>this.2,fun _=>by omega⟩
  ·have:=tmod_lt (a:=l.getD i.toNat 0) (b:=n) hb.1 (by omega)
   refine ⟨rfl,by simp;omega,this.1,fun _=>this.2,fun _ => ?_⟩
   have e:n=1:=by omega
   subst e
   have:=this.2
   have:=this
   simp only
   omega
 refine ⟨fun h=>⟨fun _=>⟨rfl,hi,Int.le_refl _,fun h=>by simp only;omega,fun _=>rfl⟩,fun h0=>by cases h0⟩,fun h=>⟨fun h1=>⟨rfl,hi,Int.le_refl _,fun h=>by simp only;omega,fun _=>rfl⟩,fun h1 => ?_⟩⟩
 exact tail (by omega) (by omega)
theorem La (k:Nat):adf (k+1)=ade (adf k):=rfl
theorem aer {n:Int} {l:List Int} {i:Int} (hl:Bytes l) (hi:0≤i) (hn:n≤65536):Ok (f16 n l i) (QH n l):=by
 have e:f16 n l i=adf (1048574+2) n l i:=rfl
 rw [e,La]
 refine K_ hl hi hn fun _ j hj => ?_
 rw [La]
 exact K_ hl hj (by omega) fun h=>absurd h (by omega)
theorem ahj {l:List Int} {n:Int} (hl:Bytes l) (hn:0≤n):Ok (f7 l n) fun y=>y.2=0∧Bytes y.1:=by
 unfold f7
 simp only [FM,TJ,yD,aai,VG,Qp,BD]
 refine ⟨fun h=>⟨⟨⟨by omega,hn⟩,by omega⟩,trivial,?_⟩,fun h=>⟨trivial,hl⟩⟩
 simp only [Int.toNat_zero,List.drop_zero]
 exact ⟨by have:=hl.1;simp;omega,fun x hx=>hl.2 x (List.mem_of_mem_take hx)⟩
theorem X3 (k:Nat):adi (k+1)=agF (adi k):=rfl
theorem EX :∀(k:Nat) (n:Int),0≤n→n<k→k≤1048576→Ok (adi k n) fun s=>s.length≤k
 |0,n,h0,h1,_=>by omega
 |k+1,n,h0,h1,h2=>by
  rw [X3]
  unfold agF
  refine bI (fun hc => ?_) (fun hc=>aA (by simp))
  have hc:10≤n:=by simpa using hc
  have hd:Int.tdiv n 10=n/10:=Int.tdiv_eq_ediv_of_nonneg h0
  have hw:cZ (Int.tdiv n 10)=n/10:=by rw [hd];exact aN (by omega)
  rw [hw]
  refine bn _ (EX k (n/10) (by omega) (by omega) (by omega)) fun y hy=>bV (nP.2 (by simp;omega)) (aA (by simp;omega))
theorem tX {n:Int} (h0:0≤n) (h1:n<1048576):Ok (f30 n) fun s=>s.length≤1048576:=EX _ n h0 h1 (Nat.le_refl _)
theorem goN {β:Type} {n:Int} {l:List Int} {i:Int} {f:Int×List Int×Int→Option β} {Q:β→Prop} (hb:Bytes l) (hi:0≤i) (hn:n≤65536)
  (k :∀x j,0≤j→0≤x→(1≤n→x<n)→Ok (f (x,l,j)) Q):Ok (Option.bind (f16 n l i) f) Q:=
 bn _ (aer hb hi hn) fun ⟨x,l',j⟩ ⟨(e:l'=l),h1,h2,h3,_⟩=>by subst e;exact k x j h1 h2 h3
theorem instr_ok {gl:List aP} {fs:List aV} {ca ct:Int} {nm:List UInt8} {pa re:Int} {bl:List aJ} {l:List Int} {i:Int} (hb:Bytes l) (hi:0≤i) (hre:re≤65536) (hca:ca≤65536)
  (hfs:0<fs.length∧fs.length≤65536) (hpa :∀f∈fs,f.params≤10):Ok (f31 gl fs ca ct nm pa re bl l i) fun y=>y.2.2.2.2.2.2.1=l∧0≤y.2.2.2.2.2.2.2.1:=by
 unfold f31
 refine goN hb hi (by omega) fun x0 j0 h0 a0 b0=>goN hb h0 (by omega) fun x1 j1 h1 _ _=>goN hb h1 (by omega) fun x2 j2 h2 _ _=>goN hb h2 (by omega) fun x3 j3 h3 _ _ => ?_
 refine bn (fun s=>s.1=l∧0≤s.2.1) ?_ fun s ⟨e1,e2⟩ => ?_
 ·refine bI (fun _=>goN hb h3 (by omega) fun x j hj _ _=>aA ⟨rfl,hj⟩) (fun _=>bn (fun s=>s.1=l∧0≤s.2.1) ?_ fun s hs=>aA hs)
  refine bI (fun _=>goN hb h3 (by omega) fun x j hj _ _=>aA ⟨rfl,hj⟩) (fun _=>bn (fun s=>s.1=l∧0≤s.2.1) ?_ fun s hs=>aA hs)
  refine bI (fun _=>goN hb h3 (by omega) fun x j hj _ _=>aA ⟨rfl,hj⟩) (fun _=>bn (fun _=>True) ?_ fun s _=>bn (fun s=>s.1=l∧0≤s.2.1) ?_ fun s hs=>aA hs)
  ·exact bI (fun _=>aA trivial) fun _=>aA trivial
  refine bI (fun _=>aA ⟨rfl,h3⟩) (fun _=>bn (fun s=>s.1=l∧0≤s.2.1) ?_ fun s hs=>aA hs)
  refine bI (fun _=>goN hb h3 (by omega) fun x j hj hx0 hx=>bn (fun s=>s.1=l∧0≤s.2.1) ?_ fun s hs=>aA hs) (fun _=>bn (fun s=>s.1=l∧0≤s.2.1) ?_ fun s hs=>aA hs)
  ·have hx:=hx (by omega)
   refine bC (fun s:Int×List Int×Int×Int×Int×Int×Int×Int×Int×List Int=>s.2.1=l∧0≤s.2.2.1∧(0≤s.1∧s.1≤10)∧s.2.2.2.2.2.2.2.2.1=x∧s.2.2.2.2.2.2.2.2.2.length≤s.1) (fun s=>(10-s.1).toNat)
    ⟨rfl,hj,by simp,rfl,by simp⟩ fun ⟨q,l',j',s4,s5,s6,s7,s8,s9,ar⟩ ⟨e1,e2,⟨e3,e3'⟩,e4,e5⟩ => ?_
   simp only at e1 e2 e3 e3' e4 e5
   subst e1;subst e4
   refine bV (ak.2 ⟨hx0,hx⟩) ?_
   refine bI (fun hc => ?_) (fun _=>aA ⟨rfl,e2⟩)
   have hp:(fs.getD s9.toNat aC).params≤10:=by rw [getD_at _ (by omega)];exact hpa _ (List.getElem_mem _)
   have hc:q<(fs.getD s9.toNat aC).params:=by simpa using hc
   refine goN hb e2 hre fun y k hk _ _=>bV (by unfold b_;simp;omega) (aA ⟨⟨rfl,hk,?_,rfl,?_⟩,?_⟩)
   all_goals simp only [aN (x:=q+1) (by omega)]
   ·omega
   ·simp;omega
   ·omega
  refine bI (fun _=>goN hb h3 (by omega) fun x j hj hx0 hx=>bn (fun s=>s.1=l∧0≤s.2.1) ?_ fun s hs=>aA hs) (fun _=>aA ⟨rfl,h3⟩)
  have hx:=hx (by omega)
  refine bC (fun s:Int×List Int×Int×Int×Int×Int×Int×Int×Int×List Int=>s.2.1=l∧0≤s.2.2.1∧(0≤s.1∧s.1≤3)∧s.2.2.2.2.2.2.2.2.2.length≤3-s.1) (fun s=>s.1.toNat)
   ⟨rfl,hj,⟨hx0,by simp only;omega⟩,by simp only [List.length_nil];omega⟩ fun ⟨q,l',j',s4,s5,s6,s7,s8,s9,ar⟩ ⟨e1,e2,⟨e3,e3'⟩,e5⟩ => ?_
  simp only at e1 e2 e3 e3' e5
  subst e1
  refine bI (fun hc => ?_) (fun _=>aA ⟨rfl,e2⟩)
  have hc:0<q:=by simpa using hc
  refine goN hb e2 hre fun y k hk _ _=>bV (by unfold b_;simp;omega) (aA ⟨⟨rfl,hk,?_,?_⟩,?_⟩)
  all_goals simp only [aN (x:=q-1) (by omega)]
  ·omega
  ·simp;omega
  ·omega
 obtain ⟨t1,t2,s⟩:=s
 simp only at e1 e2
 subst e1
 refine bn (fun s=>s.2.1=t1∧0≤s.2.2) ?_ fun ⟨s1,s2,s3⟩ ⟨e3,e4⟩ => ?_
 ·refine bI (fun _=>bI (fun _=>goN hb e2 (by omega) fun x j hj _ _=>aA ⟨rfl,hj⟩) fun _=>aA ⟨rfl,e2⟩) fun _=>aA ⟨rfl,e2⟩
 simp only at e3 e4
 subst e3
 exact bI (fun _=>goN hb e4 hca fun x j hj _ _=>aA ⟨rfl,hj⟩) fun _=>aA ⟨rfl,e4⟩
theorem Lc {α:Type} {l:List α} {a z:Nat} {v d:α} (ha:a<l.length):(l.set a v).getD z d=if z=a then v else l.getD z d:=by
 rw [List.getD_eq_getElem?_getD,List.getD_eq_getElem?_getD]
 by_cases h:z=a
 ·subst h;rw [List.getElem?_set_self ha,if_pos rfl];rfl
 ·rw [List.getElem?_set_ne (fun e=>h e.symm),if_neg h]
def HG (N i:Nat) (P:List aJ→Prop) (fs:List aV):Prop:=fs.length=N∧∀k,k<N→(fs.getD k aC).params≤10∧(fs.getD k aC).regs≤4∧(k<i→Good (fs.getD k aC))∧(k=i→P (fs.getD k aC).blocks)∧(i<k→(fs.getD k aC).blocks=[])
theorem HG.put {N i:Nat} {P Q:List aJ→Prop} {fs:List aV} {nm:List UInt8} {pa re:Int} {bl:List aJ} (h:HG N i P fs) (hi:i<N) (hp:pa=(fs.getD i aC).params) (hr:re=(fs.getD i aC).regs) (hq:Q bl):HG N i Q (fs.set i (aV.mk nm pa re bl)):=by
 refine ⟨by simp [h.1],fun k hk => ?_⟩
 rw [Lc (by rw [h.1];exact hi)]
 obtain ⟨a1,a2,a3,a4,a5⟩:=h.2 k hk
 split
 ·rename_i e;subst e
  exact ⟨by simp only [hp];exact a1,by simp only [hr];exact a2,fun e=>absurd e (Nat.lt_irrefl _),fun _=>hq,fun e=>absurd e (Nat.lt_irrefl _)⟩
 ·rename_i e
  exact ⟨a1,a2,a3,fun e'=>absurd e' e,a5⟩
theorem HG.next {N i:Nat} {fs:List aV} (h:HG N i (fun bl=>bl.length≤1000∧0<bl.length∧mF bl∧Ug bl) fs):HG N (i+1) (fun bl=>bl=[]) fs:=
 ⟨h.1,fun k hk=>have ⟨a1,a2,a3,a4,a5⟩:=h.2 k hk;⟨a1,a2,fun e=>(by rcases Nat.lt_or_ge k i with e' | e';exact a3 e';exact a4 (by omega)),fun e=>a5 (by omega),fun e=>a5 (by omega)⟩⟩
theorem set_self {fs:List aV} {i:Nat} (hi:i<fs.length):fs.set i (aV.mk (fs.getD i aC).name (fs.getD i aC).params (fs.getD i aC).regs (fs.getD i aC).blocks)=fs:=by
 have:aV.mk (fs.getD i aC).name (fs.getD i aC).params (fs.getD i aC).regs (fs.getD i aC).blocks=fs[i]:=by rw [getD_at _ hi]
 rw [this,List.set_getElem_self]
def NT (m b:Nat) (bl:List aJ):Prop:=bl.length=m∧∀k,k<b→((bl.getD k aj).bf=1∨(bl.getD k aj).bf=2∨(bl.getD k aj).bf=3)∧(0≤(bl.getD k aj).dV∧(bl.getD k aj).dV<m)∧0≤(bl.getD k aj).bK∧(bl.getD k aj).bK<m
theorem NT.ends {m:Nat} {bl:List aJ} (h:NT m m bl):mF bl:=
 ⟨fun b hb=>have:=(h.2 b (h.1▸hb)).2;h.1▸⟨fun _=>this.1,fun _=>this.2⟩,fun b hb=>(h.2 b (h.1▸hb)).1⟩
theorem aa_ {l:List Int} {i:Int} (hb:Bytes l) (hi:0≤i):Ok (f18 l i) fun y=>y.2.2.2.2.2.length≤1000∧∀f∈y.2.2.2.2.2,Good f:=by
 unfold f18
 refine goN hb hi (by omega) fun x0 j0 h0 a0 b0=>goN hb h0 (by omega) fun x1 j1 h1 a1 b1 => ?_
 have b1:=b1 (by omega)
 obtain ⟨N,hN'⟩ :∃N:Nat,1+x1=N:=⟨(1+x1).toNat,by omega⟩
 simp only [show cZ (1+x1)=N from (aN (by omega)).trans hN']
 refine bn (fun s=>s.1=l∧0≤s.2.1∧HG N 0 (fun bl=>bl=[]) s.2.2.2.2) ?_ fun s ⟨e1,e2,e3⟩ => ?_
 ·refine bC (fun s:Int×List Int×Int×Int×Int×List aV=>s.2.1=l∧0≤s.2.2.1∧(s.2.2.2.2.2.length:Int)=s.1∧s.1≤N∧∀f∈s.2.2.2.2.2,f.params≤10∧f.regs≤4∧f.blocks=[]) (fun s=>(N-s.1).toNat)
   ⟨rfl,h1,rfl,by simp,fun f hf=>by cases hf⟩ fun ⟨q,l',j,z1,z2,fs⟩ ⟨e1,e2,e3,e4,e5⟩ => ?_
  simp only at e1 e2 e3 e4 e5
  subst e1;subst e3
  refine bI (fun hc => ?_) (fun hc=>aA ⟨rfl,e2,?_,fun k hk => ?_⟩)
  ·have hc:(fs.length:Int)<N:=by simpa using hc
   refine bn _ (tX (by omega) (by omega)) fun nm hnm=>bV (nP.2 (by simp;omega)) (goN hb e2 (by omega) fun x2 j2 h2 a2 b2 => ?_)
   have b2:=b2 (by omega)
   have hw:cZ (1+x2)=1+x2:=aN (by omega)
   refine bn (fun s=>s.1=l'∧0≤s.2.1∧s.2.2.2.1≤10∧s.2.2.2.2≤4) ?_ fun ⟨s1,s2,s3,s4,s5⟩ ⟨g1,g2,g3,g4⟩=>bV (by unfold b_;simp;omega) (aA ⟨⟨g1,g2,?_,?_,fun f hf => ?_⟩,?_⟩)
   ·refine bI (fun _ => ?_) (fun _=>aA ⟨rfl,h2,by simp,by simp only [hw];omega⟩)
    have hm:cZ (min (1+x2) 2+1)=min (1+x2) 2+1:=aN (by omega)
    rw [ac0,hw,hm]
    exact goN hb h2 (by omega) fun x3 j3 h3 a3 b3=>aA ⟨rfl,h3,by simp only;omega,by simp only;omega⟩
   all_goals try simp only [aN (x:=(fs.length:Int)+1) (by omega)]
   ·simp
   ·omega
   ·rcases List.mem_append.1 hf with hf | hf
    ·exact e5 f hf
    ·rw [List.mem_singleton] at hf;subst hf;exact ⟨g3,g4,rfl⟩
   ·omega
  ·have hc:¬ (fs.length:Int)<N:=by simpa using hc
   simp only at e4 ⊢;omega
  ·have hc:¬ (fs.length:Int)<N:=by simpa using hc
   have hk':k<fs.length:=by omega
   simp only [getD_at aC hk']
   obtain ⟨r1,r2,r3⟩:=e5 _ (List.getElem_mem hk')
   exact ⟨r1,r2,fun h=>absurd h (Nat.not_lt_zero _),fun _=>r3,fun _=>r3⟩
 obtain ⟨s1,s2,s3,s4,fs0⟩:=s
 simp only at e1 e2 e3
 subst e1
 rw [show cZ ((N:Int)+1)=N+1 from aN (by omega)]
 refine goN hb e2 (by omega) fun ca jc hjc ac bc => ?_
 have bc:=bc (by omega)
 refine bn (fun s=>s.2.2.length≤1000∧∀f∈s.2.2,Good f) ?_ fun s hs=>aA hs
 refine bC (fun s:Int×List Int×Int×List aV =>∃i:Nat,s.1=i∧i≤N∧s.2.1=s1∧0≤s.2.2.1∧HG N i (fun bl=>bl=[]) s.2.2.2) (fun s=>(N-s.1).toNat)
  ⟨0,rfl,by omega,rfl,hjc,e3⟩ fun ⟨q,l',j,fs⟩ ⟨i,g1,g2,g3,g4,g5⟩ => ?_
 simp only at g1 g3 g4 g5
 subst g1;subst g3
 refine bI (fun hc => ?_) (fun hc=>aA ⟨by simp only;have:=g5.1;omega,fun f hf => ?_⟩)
 rotate_left
 ·have hc:¬ (i:Int)<N:=by simpa using hc
  obtain ⟨k,hk,e⟩:=List.getElem_of_mem hf
  have hk2:k<N:=by have:=g5.1;simp only at hk;omega
  have:=(g5.2 k hk2).2.2.1 (by omega)
  rw [getD_at _ hk,e] at this
  exact this
 have hi:i<N:=by simp at hc;omega
 refine bV (ak.2 ⟨by simp only;omega,by have:=g5.1;simp only;omega⟩) (goN hb g4 (by omega) fun x2 j2 h2 a2 b2 => ?_)
 have b2:=b2 (by omega)
 obtain ⟨M,hM⟩ :∃M:Nat,1+x2=M:=⟨(1+x2).toNat,by omega⟩
 simp only [Int.toNat_natCast,show cZ (1+x2)=M from (aN (by omega)).trans hM]
 refine bn (fun s=>s.1=l'∧0≤s.2.1∧HG N i (fun bl=>bl.length=M) s.2.2) ?_ fun ⟨s1,s2,s3⟩ ⟨k1,k2,k3⟩ => ?_
 ·refine bC (fun s:Int×List Int×Int×List aV=>s.2.1=l'∧0≤s.2.2.1∧(0≤s.1∧s.1≤M)∧HG N i (fun bl=>(bl.length:Int)=M-s.1) s.2.2.2) (fun s=>s.1.toNat)
   ⟨rfl,h2,⟨by simp,by simp⟩,g5.1,fun k hk=>have ⟨z1,z2,z3,z4,z5⟩:=g5.2 k hk;⟨z1,z2,z3,fun e=>(by rw [z4 e];simp),z5⟩⟩ fun ⟨c,l2,j,fs⟩ ⟨r1,r2,r3,r4⟩ => ?_
  simp only at r1 r2 r3 r4
  subst r1
  have hfl:i<fs.length:=by rw [r4.1];exact hi
  obtain ⟨y1,y2,y3,y4,y5⟩:=r4.2 i hi
  have y4:=y4 rfl
  refine bI (fun hp => ?_) (fun hp=>aA ⟨rfl,r2,?_⟩)
  rotate_left
  ·have hp:¬ 0<c:=by simpa using hp
   have:c=0:=by omega
   subst this
   exact ⟨r4.1,fun k hk=>have ⟨z1,z2,z3,z4,z5⟩:=r4.2 k hk;⟨z1,z2,z3,fun e=>(by have:=z4 e;simp only;omega),z5⟩⟩
  have hp:0<c:=by simpa using hp
  refine goN hb r2 (by omega) fun x3 j3 h3 a3 b3=>goN hb h3 (by omega) fun x4 j4 h4 a4 b4 => ?_
  have b4:=b4 (by omega)
  refine bn (fun s=>s.1=l2∧0≤s.2.1∧s.2.2.1=fs) ?_ fun s ⟨k1,k2,k3⟩ => ?_
  ·refine bC (fun s:Int×List Int×Int×List aV×Int×Int×Int×Int×Int×Int×Int×List fZ=>s.2.1=l2∧0≤s.2.2.1∧s.2.2.2.1=fs∧(0≤s.1∧s.1≤4)∧(s.2.2.2.2.2.2.2.2.2.2.2.length:Int)≤4-s.1) (fun s=>s.1.toNat)
    ⟨rfl,h4,rfl,⟨a4,by simp only;omega⟩,by simp only [List.length_nil];omega⟩ fun ⟨c',l3,j3,fs',v1,v2,v3,v4,v5,v6,v7,is⟩ ⟨u1,u2,u3,u4,u5⟩ => ?_
   simp only at u1 u2 u3 u4 u5
   subst u1;subst u3
   refine bI (fun hp' => ?_) (fun _=>aA ⟨rfl,u2,rfl⟩)
   have hp':0<c':=by simpa using hp'
   simp only [set_self hfl]
   refine bn _ (instr_ok hb u2 (by omega) (by omega) ⟨by omega,by have:=r4.1;omega⟩ fun f hf => ?_) fun y ⟨y1,y2⟩=>bV (by unfold b_;simp;omega) (aA ⟨⟨y1,y2,rfl,?_,?_⟩,?_⟩)
   ·obtain ⟨k,hk,e⟩:=List.getElem_of_mem hf
    have:=(r4.2 k (by rw [←r4.1];exact hk)).1
    rw [getD_at _ hk,e] at this
    exact this
   all_goals simp only [aN (x:=c'-1) (by omega)]
   ·omega
   ·simp;omega
   ·omega
  obtain ⟨s1,s2,s3,s⟩:=s
  simp only at k1 k2 k3
  subst k1;subst k3
  refine bV (by simp [-List.getD_eq_getElem?_getD];omega) (bV (by simp) (aA ⟨⟨rfl,k2,?_,r4.put hi rfl rfl ?_⟩,?_⟩))
  all_goals simp only [aN (x:=c-1) (by omega)]
  ·omega
  ·simp [-List.getD_eq_getElem?_getD];omega
  ·omega
 simp only at k1 k2 k3
 subst k1
 refine bn (fun s=>s.1=s1∧0≤s.2.1∧HG N i (NT M M) s.2.2) ?_ fun ⟨t1,t2,t3⟩ ⟨k4,k5,k6⟩ => ?_
 ·refine bC (fun s:Int×List Int×Int×List aV =>∃b:Nat,s.1=b∧b≤M∧s.2.1=s1∧0≤s.2.2.1∧HG N i (NT M b) s.2.2.2) (fun s=>(M-s.1).toNat)
   ⟨0,rfl,by omega,rfl,k2,k3.1,fun k hk=>have ⟨z1,z2,z3,z4,z5⟩:=k3.2 k hk;⟨z1,z2,z3,fun e=>⟨z4 e,fun _ h=>absurd h (Nat.not_lt_zero _)⟩,z5⟩⟩ fun ⟨c,l2,j,fs⟩ ⟨b,r0,r1,r2,r3,r4⟩ => ?_
  simp only at r0 r2 r3 r4
  subst r0;subst r2
  have hfl:i<fs.length:=by rw [r4.1];exact hi
  obtain ⟨y1,y2,y3,y4,y5⟩:=r4.2 i hi
  have y4:=y4 rfl
  simp only [List.length_replicate,y4.1]
  refine bI (fun hp => ?_) (fun hp=>aA ⟨rfl,r3,?_⟩)
  rotate_left
  ·have hp:¬ (b:Int)<M:=by simpa using hp
   have:b=M:=by omega
   subst this
   exact r4
  have hp:b<M:=by simp at hp;omega
  refine goN hb r3 (by omega) fun x3 j3 h3 a3 b3=>bV (ak.2 ⟨a3,by have:=b3 (by omega);simp;omega⟩) (goN hb h3 (by omega) fun x4 j4 h4 a4 b4=>goN hb h4 (by omega) fun x5 j5 h5 a5 b5=>goN hb h5 (by omega) fun x6 j6 h6 a6 b6=>bV (ak.2 ⟨by omega,by omega⟩) (aA ⟨⟨b+1,?_,by omega,rfl,h6,?_⟩,?_⟩))
  ·simp only [aN (x:=(b:Int)+1) (by omega)];simp
  ·refine r4.put hi rfl rfl ⟨by rw [List.length_set];exact y4.1,fun k hk => ?_⟩
   simp only [Int.toNat_natCast]
   rw [Lc (by rw [y4.1];exact hp)]
   split
   ·refine ⟨?_,⟨a5,b5 (by omega)⟩,a6,b6 (by omega)⟩
    have:=b3 (by omega)
    have:x3=0∨x3=1∨x3=2∨x3=3:=by omega
    rcases this with e | e | e | e<;>subst e<;>simp
   ·exact y4.2 k (by omega)
  ·simp only [aN (x:=(b:Int)+1) (by omega)];omega
 simp only at k4 k5 k6
 subst k4
 obtain ⟨y1,y2,y3,y4,y5⟩:=k6.2 i hi
 have y4:=y4 rfl
 refine bn _ (Uh (bs:=(t3.getD i aC).blocks) y4.ends (by have:=y4.1;omega) (by have:=y4.1;omega)) fun ⟨c1,c2,c3,c4⟩ ⟨p1,p2,p3,p4,p5,p6,p7⟩=>bV (by simp) (aA ⟨⟨i+1,?_,by omega,rfl,k5,HG.next (k6.put hi p2 p3 ⟨Nat.le_trans p5 (by have:=y4.1;omega),p4,p6,p7⟩)⟩,?_⟩)
 ·show cZ ((i:Int)+1)=_
  rw [aN (by omega)];rfl
 ·show ((N:Int)-cZ ((i:Int)+1)).toNat<((N:Int)-i).toNat
  rw [aN (by omega)];omega
theorem ahk {A α:Type} {a b:A} {x:Option α} {Q:α→Prop}:Ok (vS a b x) Q↔a=b∧Ok x Q:=by
 unfold vS
 split
 ·rename_i e;exact ⟨fun h=>⟨e,h⟩,fun h=>h.2⟩
 ·rename_i e;exact ⟨fun ⟨_,h,_⟩=>(by cases h),fun h=>absurd h.1 e⟩
theorem goK {A α:Type} {a b:A} {x:Option α} {Q:α→Prop} (e:a=b) (h:Ok x Q):Ok (vS a b x) Q:=ahk.2 ⟨e,h⟩
def WE (m:Nat):Nat→bG→Prop
 |0,_=>False
 |n+1,x=>x.args.length≤m∧(x.kind=7∨x.kind=8→2≤x.args.length)∧(x.kind=10→1≤x.args.length)∧∀y∈x.args,WE m n y
theorem WE.up {m:Nat} :∀{n k:Nat} {x:bG},WE m n x→n≤k→WE m k x
 |0,_,_,h,_=>h.elim
 |n+1,0,_,_,h=>by omega
 |n+1,k+1,x,h,hk=>⟨h.1,h.2.1,h.2.2.1,fun y hy=>(h.2.2.2 y hy).up (by omega)⟩
theorem we0 {m n:Nat} {k o v i:Int} {nm:List UInt8} (h1:k≠7) (h2:k≠8) (h3:k≠10):WE m (n+1) (bG.mk k o v i nm []):=
 ⟨Nat.zero_le _,fun h=>absurd h (by simp [h1,h2]),fun h=>absurd h h3,fun y hy=>by cases hy⟩
theorem we1 {m n:Nat} {k o v i:Int} {nm:List UInt8} {x:bG} (h1:k≠7) (h2:k≠8) (hx:WE m n x) (hm:3≤m):WE m (n+1) (bG.mk k o v i nm [x]):=
 ⟨by simp;omega,fun h=>absurd h (by simp [h1,h2]),fun h=>by simp,fun y hy=>by rw [List.mem_singleton] at hy;subst hy;exact hx⟩
theorem we2 {m n:Nat} {k o v i:Int} {nm:List UInt8} {x z:bG} (hx:WE m n x) (hz:WE m n z) (hm:3≤m):WE m (n+1) (bG.mk k o v i nm [x,z]):=
 ⟨by simp;omega,fun h=>by simp,fun h=>by simp,fun y hy=>by
  rcases List.mem_cons.1 hy with e | e
  ·subst e;exact hx
  ·rw [List.mem_singleton] at e;subst e;exact hz⟩
structure Env (l:List Int) (g:List aP) (fs:List ay) (lo:List (List UInt8)):Prop where
 b:Bytes l
 g:g.length≤100
 f0:0<fs.length
 f1:fs.length≤100
 fp :∀f∈fs,f.params.length≤2
 lo:lo.length≤100
section
variable {l:List Int} {g:List aP} {fs:List ay} {lo:List (List UInt8)}
theorem aeu {a:Bool} {b i:Int} (h:Env l g fs lo) (hi:0≤i):Ok (adF a b l i g fs lo) fun y =>∃nm t j,0≤j∧y=(nm,t,b,l,j,g,fs,lo):=by
 unfold adF
 refine bn (fun y =>∃nm t j,0≤j∧y=(nm,t,b,l,j,g,fs,lo)) ?_ fun y ⟨nm,t,j,hj,e⟩=>by subst e;exact bV (by simp) (bV (by simp) (bV (by simp) (aA ⟨nm,t,j,hj,rfl⟩)))
 have hg:=h.g
 refine bn (fun s=>s.length≤100) ?_ fun s hs => ?_
 ·refine bC (fun s:Int×List (List UInt8)=>0≤s.1∧s.1≤g.length∧s.2.length≤s.1) (fun s=>(g.length-s.1).toNat) ⟨by simp,by simp,by simp⟩ fun ⟨q,s⟩ ⟨e1,e2,e3⟩ => ?_
  simp only at e1 e2 e3
  refine bI (fun hc => ?_) (fun hc=>aA (by simp only [aah];omega))
  have hc:q<g.length:=by simpa using hc
  refine bV (ak.2 ⟨e1,hc⟩) (bn (fun s'=>s'.length≤s.length+1) ?_ fun s' hs'=>aA ⟨⟨?_,?_,?_⟩,?_⟩)
  ·exact bI (fun _=>bV (ak.2 ⟨e1,hc⟩) (bV (by unfold b_;simp;omega) (aA (by simp)))) fun _=>aA (by simp)
  all_goals simp only [aN (x:=q+1) (by omega)];omega
 refine bI (fun _=>aA ⟨_,_,_,hi,rfl⟩) fun hc=>goN h.b hi (by omega) fun x j hj h0 h1=>bV (ak.2 ⟨h0,h1 ?_⟩) (aA ⟨_,_,_,hj,rfl⟩)
 simp at hc;cases s with
 |nil=>exact absurd rfl hc
 |cons a s=>simp;omega
theorem goP {β:Type} {a:Bool} {b i:Int} {f:List UInt8×Bool×Int×List Int×Int×List aP×List ay×List (List UInt8)→Option β} {Q:β→Prop} (h:Env l g fs lo) (hi:0≤i)
  (k :∀nm t j,0≤j→Ok (f (nm,t,b,l,j,g,fs,lo)) Q):Ok (Option.bind (f96 a b l i g fs lo) f) Q:=by
 refine bn (fun y =>∃nm t j,0≤j∧y=(nm,t,b,l,j,g,fs,lo)) ?_ fun y ⟨nm,t,j,hj,e⟩=>by subst e;exact k nm t j hj
 exact bn _ (aeu h hi) fun y ⟨nm,t,j,hj,e⟩=>by subst e;exact goK rfl (goK rfl (goK rfl (aA ⟨nm,t,j,hj,rfl⟩)))
theorem aev {b i:Int} (h:Env l g fs lo) (hi:0≤i):Ok (VT b l i g fs lo) fun y =>∃k v nm j,0≤j∧(k=12∨k=13∨k=1)∧y=(k,0,v,0,nm,b,l,j,g,fs,lo):=by
 unfold VT
 refine bn (fun y =>∃k v nm j,0≤j∧(k=12∨k=13∨k=1)∧y=(k,0,v,0,nm,b,l,j,g,fs,lo)) ?_ fun y ⟨k,v,nm,j,hj,hk,e⟩=>by subst e;exact bV (by simp) (bV (by simp) (bV (by simp) (aA ⟨k,v,nm,j,hj,hk,rfl⟩)))
 refine goN h.b hi (by omega) fun x0 j0 h0 _ _=>bI (fun _=>aA ⟨12,_,_,_,h0,by simp,rfl⟩) fun _=>qX (fun y =>∃j,0≤j∧y=(b,l,j)) ?_ fun y ⟨j,hj,e⟩ => ?_
 ·refine bI (fun _=>goP h h0 fun nm t j hj=>bI (fun _=>aA ⟨13,_,_,_,hj,by simp,rfl⟩) fun _=>aA ⟨_,hj,rfl⟩) fun _=>bn (fun _=>True) ?_ fun s _=>qX (fun _=>True) ?_ fun _ _=>aA ⟨_,h0,rfl⟩
  ·exact bI (fun _=>aA trivial) fun _=>aA trivial
  ·refine bI (fun _=>bI (fun _=>goN h.b h0 (by have:=h.lo;omega) fun x j hj a1 a2 => ?_) fun _=>aA trivial) fun _=>aA trivial
   rename_i hc
   have hc:0<lo.length:=by simpa using hc
   exact bV (ak.2 ⟨a1,a2 (by omega)⟩) (aA ⟨13,_,_,_,hj,by simp,rfl⟩)
 subst e
 refine goN h.b hj (by omega) fun x1 j1 h1 _ _=>goN h.b h1 (by omega) fun x2 j2 h2 _ _=>bn (fun y =>∃v j,0≤j∧y=(v,l,j)) ?_ fun y ⟨v,j,hj,e⟩=>by subst e;exact aA ⟨1,_,_,_,hj,by simp,rfl⟩
 exact bI (fun _=>goN h.b h2 (by omega) fun x3 j3 h3 a3 b3=>bV (ak.2 ⟨a3,by have:=b3 (by omega);simp;omega⟩) (aA ⟨_,_,h3,rfl⟩)) fun _=>aA ⟨_,_,h2,rfl⟩
theorem goL {β:Type} {b i:Int} {f:Int×Int×Int×Int×List UInt8×Int×List Int×Int×List aP×List ay×List (List UInt8)→Option β} {Q:β→Prop} (h:Env l g fs lo) (hi:0≤i)
  (k :∀q v nm j,0≤j→(q=12∨q=13∨q=1)→Ok (f (q,0,v,0,nm,b,l,j,g,fs,lo)) Q):Ok (Option.bind (f101 b l i g fs lo) f) Q:=by
 refine bn (fun y =>∃k v nm j,0≤j∧(k=12∨k=13∨k=1)∧y=(k,0,v,0,nm,b,l,j,g,fs,lo)) ?_ fun y ⟨q,v,nm,j,hj,hk,e⟩=>by subst e;exact k q v nm j hj hk
 exact bn _ (aev h hi) fun y ⟨q,v,nm,j,hj,hk,e⟩=>by subst e;exact goK rfl (goK rfl (goK rfl (aA ⟨q,v,nm,j,hj,hk,rfl⟩)))
def PE (n:Nat) (b:Int) (l:List Int) (g:List aP) (fs:List ay) (lo:List (List UInt8)) (y:Int×Int×Int×Int×List UInt8×List bG×Int×List Int×Int×List aP×List ay×List (List UInt8)):Prop:=
 ∃x j,y=(x.kind,x.op,x.value,x.line,x.name,x.args,b,l,j,g,fs,lo)∧0≤j∧WE 3 n x
def PC (n:Nat) (b:Int) (l:List Int) (g:List aP) (fs:List ay) (lo:List (List UInt8)) (y:Int×Int×Int×Int×List UInt8×Int×List Int×Int×List aP×List ay×List (List UInt8)×List bG):Prop:=
 ∃x j,y=(x.kind,x.op,x.value,x.line,x.name,b,l,j,g,fs,lo,x.args)∧0≤j∧WE 3 n x
theorem abb {n:Nat} {p b i:Int} {r} (h:Ok r (PE n b l g fs lo)):Ok (k95 p b l i g fs lo r) (PE n b l g fs lo):=
 bn _ h fun y ⟨x,j,e,h⟩=>by subst e;exact goK rfl (goK rfl (goK rfl (aA ⟨x,j,rfl,h⟩)))
theorem abd {n:Nat} {p b i:Int} {r} (h:Ok r (PC n b l g fs lo)):Ok (k98 p b l i g fs lo r) (PC n b l g fs lo):=
 bn _ h fun y ⟨x,j,e,h⟩=>by subst e;exact goK rfl (goK rfl (goK rfl (aA ⟨x,j,rfl,h⟩)))
theorem Yk {β:Type} {rec:T95} {d n:Nat} (h :∀b i,0≤i→Ok (rec d b l i g fs lo) (PE n b l g fs lo)) {q b i:Int} {f} {Q:β→Prop} (hq:q=d) (hi:0≤i)
  (k :∀k o v i nm ar j,0≤j→WE 3 n (bG.mk k o v i nm ar)→Ok (f (k,o,v,i,nm,ar,b,l,j,g,fs,lo)) Q):Ok (Option.bind (rec q b l i g fs lo) f) Q:=by
 subst hq
 exact bn _ (h b i hi) fun y ⟨⟨a1,a2,a3,a4,a5,a6⟩,j,e,h1,h2⟩=>by subst e;exact k _ _ _ _ _ _ j h1 h2
theorem aks {β:Type} {rec:T98} {d n:Nat} (h :∀b i,0≤i→Ok (rec d b l i g fs lo) (PC n b l g fs lo)) {q b i:Int} {f} {Q:β→Prop} (hq:q=d) (hi:0≤i)
  (k :∀k o v i nm ar j,0≤j→WE 3 n (bG.mk k o v i nm ar)→Ok (f (k,o,v,i,nm,b,l,j,g,fs,lo,ar)) Q):Ok (Option.bind (rec q b l i g fs lo) f) Q:=by
 subst hq
 exact bn _ (h b i hi) fun y ⟨⟨a1,a2,a3,a4,a5,a6⟩,j,e,h1,h2⟩=>by subst e;exact k _ _ _ _ _ _ j h1 h2
theorem Ld {rec:T95} {rec':T98} {d:Nat} (h:Env l g fs lo) (hd:d≤100) (hr :∀b i,0≤i→Ok (rec d b l i g fs lo) (PE (d+1) b l g fs lo)) {b i:Int} (hi:0≤i) :
  Ok (adZ rec rec' (d+1:Nat) b l i g fs lo) (PC (d+2) b l g fs lo):=by
 have hw:cZ (((d+1:Nat):Int)-1)=d:=by rw [aN (by omega)];omega
 have hf0:=h.f0;have hf1:=h.f1
 unfold adZ
 refine bn (PC (d+2) b l g fs lo) ?_ fun y ⟨x,j,e,h⟩=>by subst e;exact bV (by simp) (bV (by simp) (bV (by simp) (aA ⟨x,j,rfl,h⟩)))
 refine goN h.b hi (by omega) fun x0 j0 h0 a0 b0=>bV (ak.2 ⟨a0,b0 (by omega)⟩) (goN h.b h0 (by omega) fun x1 j1 h1 a1 b1 => ?_)
 have b0:=b0 (by omega)
 refine bn (fun y =>∃t j,0≤j∧y=(t,l,j)) ?_ fun y ⟨t,j2,h2,e⟩ => ?_
 ·exact bI (fun _=>goN h.b h1 (by omega) fun x j hj _ _=>aA ⟨_,_,hj,rfl⟩) fun _=>aA ⟨_,_,h1,rfl⟩
 subst e
 refine bn (fun y =>∃(q:Int) (j:Int),0≤j∧q≤2∧y=(q,l,j)) ?_ fun y ⟨q,j3,h3,hq2,e⟩ => ?_
 ·refine bI (fun _=>goN h.b h2 (by omega) fun x j hj _ c=>aA ⟨x,_,hj,by have:=c (by omega);omega,rfl⟩) fun _=>aA ⟨_,_,h2,?_,rfl⟩
  show ((fs.getD x0.toNat gK).params.length:Int)≤2
  rw [getD_at _ (by omega)]
  have:=h.fp _ (List.getElem_mem (l:=fs) (n:=x0.toNat) (by omega));omega
 subst e
 refine bn (fun y =>∃j ar,0≤j∧ar.length≤2∧(∀x∈ar,WE 3 (d+1) x)∧y=(b,l,j,ar)) ?_ fun y ⟨j4,ar,h4,l1,l2,e⟩ => ?_
 ·refine bC (fun s:Int×Int×List Int×Int×List bG =>∃j,0≤j∧0≤s.1∧(s.1≤q∨s.1=0)∧(s.2.2.2.2.length:Int)=s.1∧(∀x∈s.2.2.2.2,WE 3 (d+1) x)∧s=(s.1,b,l,j,s.2.2.2.2)) (fun s=>(q-s.1).toNat)
   ⟨j3,h3,by simp,.inr rfl,by simp,fun x hx=>(by cases hx),rfl⟩ fun ⟨c,b',l',j',ar⟩ ⟨j,hj,e1,e2,e3,e4,e⟩ => ?_
  simp only at e1 e2 e3 e4
  injection e with _ e;injection e with f1 e;injection e with f2 e;injection e with f3 e
  subst f1;subst f2;subst f3
  refine bI (fun hc => ?_) (fun _=>aA ⟨j',ar,hj,by omega,e4,rfl⟩)
  have hc:c<q:=by simpa using hc
  refine Yk hr hw hj fun _ _ _ _ _ _ j hj hx=>bV (by unfold b_;simp;omega) (aA ⟨⟨j,hj,?_,?_,?_,fun z hz => ?_,rfl⟩,?_⟩)
  all_goals try simp only [aN (x:=c+1) (by omega)]
  ·omega
  ·exact .inl (by omega)
  ·simp;omega
  ·rcases List.mem_append.1 hz with hz | hz
   ·exact e4 z hz
   ·rw [List.mem_singleton] at hz;subst hz;exact hx
  ·omega
 subst e
 refine bI (fun _=>aA ⟨bG.mk 9 0 0 0 _ ar,j4,rfl,h4,⟨by simp only;omega,fun h=>absurd h (by simp),fun h=>absurd h (by simp),l2⟩⟩) fun _=>goN h.b h4 (by omega) fun x5 j5 h5 _ _ => ?_
 refine bn (fun y =>∃x j,0≤j∧WE 3 (d+1) x∧y=(b,l,j,x.kind,x.op,x.value,x.line,x.name,x.args)) ?_ fun y ⟨⟨x1,x2,x3,x4,x5,x6⟩,j6,h6,hx,e⟩ => ?_
 ·refine bI (fun _=>Yk hr hw h5 fun _ _ _ _ _ _ j hj hx=>aA ⟨bG.mk _ _ _ _ _ _,j,hj,hx,rfl⟩) fun _=>aA ⟨bG.mk 11 0 0 0 _ oO,j5,h5,we0 (by simp) (by simp) (by simp),rfl⟩
 subst e
 refine bI (fun _=>aA ⟨bG.mk 9 0 0 0 x5 ar,j6,rfl,h6,⟨by simp only;omega,fun h=>absurd h (by simp),fun h=>absurd h (by simp),l2⟩⟩) fun _=>bV (by unfold b_;simp;omega) (aA ⟨bG.mk 10 0 0 0 dN ([bG.mk x1 x2 x3 x4 x5 x6]++ar),j6,rfl,h6,⟨by simp;omega,fun h=>absurd h (by simp),fun h=>by simp,fun z hz => ?_⟩⟩)
 rcases List.mem_append.1 hz with hz | hz
 ·rw [List.mem_singleton] at hz;subst hz;exact hx
 ·exact l2 z hz
theorem X4 {rec:T95} {rec':T98} {d:Nat} (h:Env l g fs lo) (hd:d≤100) (hr :∀b i,0≤i→Ok (rec d b l i g fs lo) (PE (d+1) b l g fs lo))
  (hc :∀b i,0≤i→Ok (rec' (d+1:Nat) b l i g fs lo) (PC (d+2) b l g fs lo)) {b i:Int} (hi:0≤i) :
  Ok (XW rec rec' (d+1:Nat) b l i g fs lo) (PE (d+2) b l g fs lo):=by
 have hw:cZ (((d+1:Nat):Int)-1)=d:=by rw [aN (by omega)];omega
 unfold XW
 refine bn (PE (d+2) b l g fs lo) ?_ fun y ⟨x,j,e,h⟩=>by subst e;exact bV (by simp) (bV (by simp) (bV (by simp) (aA ⟨x,j,rfl,h⟩)))
 refine bn (fun y =>∃t j,0≤j∧y=(t,l,j)) ?_ fun y ⟨t,j2,h2,e⟩ => ?_
 ·exact bI (fun _=>aA ⟨_,_,hi,rfl⟩) fun _=>goN h.b hi (by omega) fun x j hj _ _=>aA ⟨_,_,hj,rfl⟩
 subst e
 refine bI (fun _=>goL h h2 fun q v nm j hj hq=>aA ⟨bG.mk q 0 v 0 nm [],j,rfl,hj,we0 (by omega) (by omega) (by omega)⟩) fun _=>goN h.b h2 (by omega) fun x3 j3 h3 _ _ => ?_
 refine bI (fun _=>goN h.b h3 (by omega) fun x4 j4 h4 _ _=>Yk hr hw h4 fun _ _ _ _ _ _ j hj hx=>vX rfl (aA ⟨bG.mk 5 _ 0 0 dN [_],j,rfl,hj,we1 (by simp) (by simp) hx (by omega)⟩)) fun _ => ?_
 refine bI (fun _=>Yk hr hw h3 fun _ _ _ _ _ _ j hj hx=>Yk hr hw hj fun _ _ _ _ _ _ j hj hz=>vX rfl (aA ⟨bG.mk 7 _ 0 0 dN [_,_],j,rfl,hj,we2 hx hz (by omega)⟩)) fun _ => ?_
 refine bI (fun _=>Yk hr hw h3 fun _ _ _ _ _ _ j hj hx=>Yk hr hw hj fun _ _ _ _ _ _ j hj hz=>vX rfl (aA ⟨bG.mk 8 _ 0 0 dN [_,_],j,rfl,hj,we2 hx hz (by omega)⟩)) fun _ => ?_
 refine bn (fun _=>True) ?_ fun s _ => ?_
 ·exact bI (fun _=>aA trivial) fun _=>aA trivial
 refine bI (fun _=>aks hc rfl h3 fun _ _ _ _ _ _ j hj hx=>aA ⟨bG.mk _ _ _ _ _ _,j,rfl,hj,hx⟩) fun _=>qX (fun y =>∃j,0≤j∧y=(b,l,j)) ?_ fun y ⟨j,hj,e⟩ => ?_
 ·exact bI (fun _=>goP h h3 fun nm t j hj=>bI (fun _=>Yk hr hw hj fun _ _ _ _ _ _ j hj hx=>aA ⟨bG.mk 4 0 0 0 nm [_],j,rfl,hj,we1 (by simp) (by simp) hx (by omega)⟩) fun _=>aA ⟨_,hj,rfl⟩) fun _=>aA ⟨_,h3,rfl⟩
 subst e
 exact goN h.b hj (by omega) fun x5 j5 h5 _ _=>Yk hr hw h5 fun _ _ _ _ _ _ j hj hx=>Yk hr hw hj fun _ _ _ _ _ _ j hj hz=>vX rfl (aA ⟨bG.mk 6 _ 0 0 dN [_,_],j,rfl,hj,we2 hx hz (by omega)⟩)
theorem X5 {rec:T95} {rec':T98} (h:Env l g fs lo) {b i:Int} (hi:0≤i):Ok (XW rec rec' (0:Nat) b l i g fs lo) (PE 1 b l g fs lo):=by
 unfold XW
 refine bn (PE 1 b l g fs lo) ?_ fun y ⟨x,j,e,h⟩=>by subst e;exact bV (by simp) (bV (by simp) (bV (by simp) (aA ⟨x,j,rfl,h⟩)))
 refine bn (fun y=>y=(true,l,i)) ?_ fun y e => ?_
 ·exact goT (decide_eq_true (by simp)) (aA rfl)
 subst e
 exact goT rfl (goL h hi fun q v nm j hj hq=>aA ⟨bG.mk q 0 v 0 nm [],j,rfl,hj,we0 (by omega) (by omega) (by omega)⟩)
theorem QI (n:Nat):(sD (n+1)).1=XW (ad4 n) (ad5 n):=rfl
theorem QJ (n:Nat):(sD (n+1)).2=adZ (ad4 n) (ad5 n):=rfl
theorem xY (h:Env l g fs lo) :∀d:Nat,d≤100→∀n,2*d+1≤n→(∀b i,0≤i→Ok (ad4 n d b l i g fs lo) (PE (d+1) b l g fs lo))∧∀e,e+1=d→∀b i,0≤i→Ok (ad5 n d b l i g fs lo) (PC (d+1) b l g fs lo)
 |_,_,0,hn=>by omega
 |0,_,n+1,hn=>⟨fun b i hi=>abb (by rw [QI];exact X5 h hi),fun e he=>by omega⟩
 |d+1,hd,n+1,hn=>by
  have ih:=xY h d (by omega) n (by omega)
  obtain ⟨m,rfl⟩ :∃m,n=m+1:=⟨n-1,by omega⟩
  have ih':=xY h d (by omega) m (by omega)
  refine ⟨fun b i hi=>abb (by rw [QI];exact X4 h (by omega) ih.1 (fun b i hi=>abd (by rw [QJ];exact Ld h (by omega) ih'.1 hi)) hi),fun e he b i hi=>abd (by rw [QJ];exact Ld h (by omega) ih.1 hi)⟩
end
def WS (m h:Nat):Nat→d_→Prop
 |0,_=>False
 |n+1,x=>x.exprs.length≤2∧(x.kind=5→1≤x.exprs.length)∧(∀y∈x.exprs,WE m h y)∧(x.then'.length≤10∧x.else'.length≤10)∧(∀y∈x.then',WS m h n y)∧∀y∈x.else',WS m h n y
theorem NU {α:Type} {P:α→Prop} {x:α} (h:P x) :∀y∈[x],P y:=fun y hy=>by rw [List.mem_singleton] at hy;subst hy;exact h
theorem aew {α:Type} {P:α→Prop} {x z:α} (h:P x) (h':P z) :∀y∈[x,z],P y:=fun y hy=>by
 rcases List.mem_cons.1 hy with e | e
 ·subst e;exact h
 ·exact NU h' y e
theorem RQ {n:Nat} {k i:Int} {nm:List UInt8} {x:bG} {th el:List d_} (hx:WE 3 3 x) (h1:th.length≤10) (h2:el.length≤10) (h3 :∀y∈th,WS 3 3 n y) (h4 :∀y∈el,WS 3 3 n y):WS 3 3 (n+1) (d_.mk k i nm [x] th el):=
 ⟨by simp,fun _=>by simp,NU hx,⟨h1,h2⟩,h3,h4⟩
theorem J5 {n:Nat} {k i:Int} {nm:List UInt8} {x:bG} (hx:WE 3 3 x):WS 3 3 (n+1) (d_.mk k i nm [x] [] []):=RQ hx (by simp) (by simp) (fun y h=>by cases h) (fun y h=>by cases h)
structure Ui (k:Int) (l:List Int) (g:List aP) (fs:List ay):Prop where
 b:Bytes l
 g:g.length≤100
 f0:0<fs.length
 f1:fs.length≤100
 fp :∀f∈fs,f.params.length≤2
 k:k≤100
section
variable {kk:Int} {l:List Int} {g:List aP} {fs:List ay}
theorem Ui.env (h:Ui kk l g fs) {lo:List (List UInt8)} (hl:(lo.length:Int)≤kk):Env l g fs lo:=⟨h.b,h.g,h.f0,h.f1,h.fp,by have:=h.k;omega⟩
def PS (n:Nat) (kk:Int) (l:List Int) (g:List aP) (fs:List ay) (y:Int×Int×List UInt8×Int×List Int×Int×List aP×List ay×List bG×List d_×List d_×List (List UInt8)):Prop:=
 ∃k i nm es th el b j lo,y=(k,i,nm,b,l,j,g,fs,es,th,el,lo)∧0≤j∧(0≤b∧lo.length+b≤kk)∧WS 3 3 n (d_.mk k i nm es th el)
def PL (n:Nat) (kk:Int) (l:List Int) (g:List aP) (fs:List ay) (y:Int×Int×List UInt8×Int×List Int×Int×List aP×List ay×List bG×List d_×List (List UInt8)):Prop:=
 ∃k i nm es th b j lo,y=(k,i,nm,b,l,j,g,fs,es,th,lo)∧0≤j∧(0≤b∧lo.length+b≤kk)∧WS 3 3 n (d_.mk k i nm es th [])
def PB (n:Nat) (m kk:Int) (l:List Int) (g:List aP) (fs:List ay) (y:Int×List Int×Int×List aP×List ay×List d_×List (List UInt8)):Prop:=
 ∃ss b j lo,y=(b,l,j,g,fs,ss,lo)∧0≤j∧(0≤b∧lo.length+b≤kk)∧(ss.length≤10∧ss.length≤m)∧∀s∈ss,WS 3 3 n s
theorem ahl {n:Nat} {p m m' b i:Int} {lo r} (h:Ok r (PB n m kk l g fs)):Ok (k55 p m' b l i g fs lo r) (PB n m kk l g fs):=
 bn _ h fun y ⟨ss,b,j,lo,e,h⟩=>by subst e;exact goK rfl (goK rfl (aA ⟨ss,b,j,lo,rfl,h⟩))
theorem ahm {n:Nat} {p b i:Int} {lo r} (h:Ok r (PS n kk l g fs)):Ok (k78 p b l i g fs lo r) (PS n kk l g fs):=
 bn _ h fun y ⟨k,i,nm,es,th,el,b,j,lo,e,h⟩=>by subst e;exact goK rfl (goK rfl (aA ⟨k,i,nm,es,th,el,b,j,lo,rfl,h⟩))
theorem ahn {n:Nat} {p b i:Int} {lo r} (h:Ok r (PL n kk l g fs)):Ok (k97 p b l i g fs lo r) (PL n kk l g fs):=
 bn _ h fun y ⟨k,i,nm,es,th,b,j,lo,e,h⟩=>by subst e;exact goK rfl (goK rfl (aA ⟨k,i,nm,es,th,b,j,lo,rfl,h⟩))
theorem aex {β:Type} {rec:T55} {d n:Nat} (h :∀m b i lo,m≤4→0≤b→lo.length+b≤kk→0≤i→Ok (rec d m b l i g fs lo) (PB n (max m 0) kk l g fs)) {q m b i:Int} {lo f} {Q:β→Prop} (hq:q=d) (hm:m≤4) (hb:0≤b) (hl:lo.length+b≤kk) (hi:0≤i)
  (k :∀ss b' j lo',0≤j→0≤b'→lo'.length+b'≤kk→ss.length≤4→(∀s∈ss,WS 3 3 n s)→Ok (f (b',l,j,g,fs,ss,lo')) Q):Ok (Option.bind (rec q m b l i g fs lo) f) Q:=by
 subst hq
 exact bn _ (h m b i lo hm hb hl hi) fun y ⟨ss,b,j,lo,e,h1,h2,h3,h4⟩=>by subst e;exact k ss b j lo h1 h2.1 h2.2 (by omega) h4
theorem QK {β:Type} {lo:List (List UInt8)} (h:Env l g fs lo) {b i:Int} {f} {Q:β→Prop} (hi:0≤i)
  (k :∀k o v i nm ar j,0≤j→WE 3 3 (bG.mk k o v i nm ar)→Ok (f (k,o,v,i,nm,ar,b,l,j,g,fs,lo)) Q):Ok (Option.bind (f95 2 b l i g fs lo) f) Q:=
 Yk (rec:=f95) (d:=2) (fun b i hi=>(xY h 2 (by omega) 1048576 (by omega)).1 b i hi) rfl hi k
theorem aof {β:Type} {lo:List (List UInt8)} (h:Env l g fs lo) {b i:Int} {f} {Q:β→Prop} (hi:0≤i)
  (k :∀k o v i nm ar j,0≤j→WE 3 3 (bG.mk k o v i nm ar)→Ok (f (k,o,v,i,nm,ar,b,l,j,g,fs,lo)) Q):Ok (Option.bind (f95 1 b l i g fs lo) f) Q:=
 Yk (rec:=f95) (d:=1) (fun b i hi=>(xY h 1 (by omega) 1048576 (by omega)).1 b i hi) rfl hi fun k' o v i nm ar j hj hx=>k k' o v i nm ar j hj (hx.up (by omega))
theorem aog {β:Type} {lo:List (List UInt8)} (h:Env l g fs lo) {b i:Int} {f} {Q:β→Prop} (hi:0≤i)
  (k :∀k o v i nm ar j,0≤j→WE 3 3 (bG.mk k o v i nm ar)→Ok (f (k,o,v,i,nm,b,l,j,g,fs,lo,ar)) Q):Ok (Option.bind (f98 2 b l i g fs lo) f) Q:=
 aks (rec:=f98) (d:=2) (fun b i hi=>(xY h 2 (by omega) 1048576 (by omega)).2 1 rfl b i hi) rfl hi k
theorem abe {b i:Int} {lo:List (List UInt8)} (hl:lo.length≤100):Ok (f93 b l i g fs lo) fun y =>∃nm t,y=(nm,t,b,l,i,g,fs,lo):=by
 refine bn (fun y =>∃nm t,y=(nm,t,b,l,i,g,fs,lo)) ?_ fun y ⟨nm,t,e⟩=>by subst e;exact goK rfl (goK rfl (goK rfl (aA ⟨nm,t,rfl⟩)))
 unfold ag6
 refine bn (fun y =>∃nm t,y=(nm,t,b,l,i,g,fs,lo)) ?_ fun y ⟨nm,t,e⟩=>by subst e;exact bV (by simp) (bV (by simp) (bV (by simp) (aA ⟨nm,t,rfl⟩)))
 refine vX (y:=[[97],[98],[99],[100],[101],[102],[105],[107]]) rfl ?_
 refine qX (fun _=>True) ?_ fun _ _=>aA ⟨_,_,rfl⟩
 refine bC (fun s:Int=>0≤s∧s≤8) (fun s=>(8-s).toNat) ⟨by simp,by simp⟩ fun s ⟨h1,h2⟩ => ?_
 refine bI (fun hc => ?_) fun _=>aA trivial
 have hc:s<8:=by simpa using hc
 refine bn (fun _=>True) ?_ fun y _ => ?_
 ·refine bC (fun t:Bool×Int=>0≤t.2∧t.2≤lo.length) (fun t=>(lo.length-t.2).toNat) ⟨by simp,by simp⟩ fun ⟨u,t⟩ ⟨h1,h2⟩ => ?_
  simp only at h1 h2
  refine bI (fun hc' => ?_) fun _=>aA trivial
  have hc':t<lo.length:=by simpa using hc'
  refine bn (fun _=>True) ?_ fun y _=>aA ⟨?_,?_⟩
  ·exact bI (fun _=>aA trivial) fun _=>bV (ak.2 ⟨h1,hc'⟩) (bV (ak.2 ⟨by assumption,by simpa using hc⟩) (aA trivial))
  all_goals simp only [aN (x:=t+1) (by omega)];omega
 ·refine bI (fun _=>bV (ak.2 ⟨h1,by simpa using hc⟩) (aA ⟨_,_,rfl⟩)) fun _=>aA ⟨?_,?_⟩
  all_goals simp only [aN (x:=s+1) (by omega)];omega
theorem Uj {rec:T55} {rec':T78} {tY:T97} {d:Int} {n:Nat} (h:Ui kk l g fs) (hr :∀b i lo,0≤b→lo.length+b+1≤kk→0≤i→Ok (rec' d b l i g fs lo) (PS n kk l g fs))
  {m b i:Int} {lo} (hm:m≤4) (hb:0≤b) (hl:lo.length+b≤kk) (hi:0≤i):Ok (ad7 rec rec' tY d m b l i g fs lo) (PB n (max m 0) kk l g fs):=by
 unfold ad7
 refine bn (PB n (max m 0) kk l g fs) ?_ fun y ⟨ss,b,j,lo,e,h⟩=>by subst e;exact bV (by simp) (bV (by simp) (aA ⟨ss,b,j,lo,rfl,h⟩))
 refine bn (fun y =>∃b j ss lo,y=(b,l,j,ss,lo)∧0≤j∧(0≤b∧lo.length+b≤kk)∧((ss.length:Int)≤max m 0)∧∀s∈ss,WS 3 3 n s) ?_ fun y ⟨b,j,ss,lo,e,h1,h2,h3,h4⟩=>by subst e;exact aA ⟨ss,b,j,lo,rfl,h1,h2,⟨by omega,h3⟩,h4⟩
 refine bC (fun s:Int×Int×List Int×Int×List d_×List (List UInt8) =>∃q b j ss lo,s=(q,b,l,j,ss,lo)∧0≤j∧(0≤b∧lo.length+b≤kk)∧(ss.length:Int)=q∧q≤max m 0∧∀s∈ss,WS 3 3 n s) (fun s=>(max m 0-s.1).toNat)
  ⟨0,b,i,[],lo,rfl,hi,⟨hb,hl⟩,rfl,by omega,fun s h=>by cases h⟩ fun s ⟨q,b,j,ss,lo,e,h1,⟨h2,h3⟩,h4,h5,h6⟩ => ?_
 subst e
 refine bn (fun t=>t=true→q<m∧0<b) ?_ fun t ht=>bI (fun e => ?_) fun _=>aA ⟨b,j,ss,lo,rfl,h1,⟨h2,h3⟩,by omega,h6⟩
 ·exact bI (fun h=>aA fun h'=>⟨by simpa using h,by simpa using h'⟩) fun _=>aA fun h=>by cases h
 obtain ⟨t1,t2⟩:=ht e
 rw [show cZ (b-1)=b-1 from aN (by have:=h.k;omega)]
 refine bn _ (hr (b-1) j lo (by omega) (by omega) h1) fun y ⟨k,i',nm,es,th,el,b',j',lo',e,c1,c2,c3⟩ => ?_
 subst e
 have hk:=h.k
 refine bV (by unfold b_;simp;omega) (aA ⟨⟨_,b',j',_,lo',rfl,c1,c2,?_,?_,fun s hs => ?_⟩,?_⟩)
 all_goals try simp only [aN (x:=q+1) (by omega)]
 ·simp;omega
 ·omega
 ·rcases List.mem_append.1 hs with hs | hs
  ·exact h6 s hs
  ·rw [List.mem_singleton] at hs;subst hs;exact c3
 ·omega
theorem X6 {rec:T55} {rec':T78} {tY:T97} {d n:Nat} (h:Ui kk l g fs) (hd:d≤100) (hr :∀m b i lo,m≤4→0≤b→lo.length+b≤kk→0≤i→Ok (rec d m b l i g fs lo) (PB (n+1) (max m 0) kk l g fs))
  {b i:Int} {lo} (hb:0≤b) (hl:lo.length+b≤kk) (hi:0≤i):Ok (ad9 rec rec' tY (d+1:Nat) b l i g fs lo) (PL (n+2) kk l g fs):=by
 have hw:cZ (((d+1:Nat):Int)-1)=d:=by rw [aN (by omega)];omega
 have hE:=h.env (lo:=lo) (by omega)
 have hlo:=hE.lo
 unfold ad9
 refine bn (PL (n+2) kk l g fs) ?_ fun y ⟨k,i,nm,es,th,b,j,lo,e,h⟩=>by subst e;exact bV (by simp) (bV (by simp) (aA ⟨k,i,nm,es,th,b,j,lo,rfl,h⟩))
 refine goP hE hi fun nm t j0 h0=>bn (fun y =>∃u j,0≤j∧(u=true→0<lo.length)∧y=(u,l,j)) ?_ fun y ⟨u,j,hj,hu,e⟩ => ?_
 ·refine bI (fun hc=>goN h.b h0 (by omega) fun x j hj _ _=>aA ⟨_,_,hj,fun _=>by simpa using hc,rfl⟩) fun _=>aA ⟨_,_,h0,fun h=>(by cases h),rfl⟩
 subst e
 refine bn (fun y =>∃nm t j,0≤j∧y=(nm,t,l,j)) ?_ fun y ⟨nm,t,j,hj,e⟩ => ?_
 ·exact bI (fun hc=>goN h.b hj (by omega) fun x j hj a1 a2=>bV (ak.2 ⟨a1,a2 (by have:=hu hc;omega)⟩) (aA ⟨_,_,_,hj,rfl⟩)) fun _=>aA ⟨_,_,_,hj,rfl⟩
 subst e
 refine bn (fun y =>∃t j,0≤j∧y=(t,l,j)) ?_ fun y ⟨t,j,hj,e⟩ => ?_
 ·exact bI (fun _=>aA ⟨_,_,hj,rfl⟩) fun _=>goN h.b hj (by omega) fun x j hj _ _=>aA ⟨_,_,hj,rfl⟩
 subst e
 refine bI (fun _=>QK hE hj fun _ _ _ _ _ _ j hj hx=>vX rfl (goN h.b hj (by omega) fun x j hj a1 a2=>aex hr hw ?_ hb hl hj fun ss b' j lo' c1 c2 c3 c4 c5=>aA ⟨5,_,_,[_],ss,b',j,lo',rfl,c1,⟨c2,c3⟩,RQ hx (by omega) (by simp) c5 fun y h=>by cases h⟩)) fun _ => ?_
 ·have a2:=a2 (by omega)
  show cZ (1+x)≤4
  rw [aN (by omega)];omega
 refine goN h.b hj (by omega) fun x j hj _ _=>vX rfl (vX rfl (goN h.b hj (by omega) fun x2 j2 h2 _ b2=>aex hr hw (by have:=b2 (by omega);omega) hb hl h2 fun ss b' j lo' c1 c2 c3 c4 c5=>vX rfl (vX rfl (bV (by unfold b_;simp;omega) (aA ⟨5,_,_,[_],ss++[_],b',j,lo',rfl,c1,⟨c2,c3⟩,RQ (we2 (we0 (by simp) (by simp) (by simp)) (we0 (by simp) (by simp) (by simp)) (by omega)) (by simp;omega) (by simp) (fun y hy => ?_) fun y h=>by cases h⟩)))))
 rcases List.mem_append.1 hy with hy | hy
 ·exact c5 y hy
 ·rw [List.mem_singleton] at hy;subst hy
  exact J5 (we2 (we0 (by simp) (by simp) (by simp)) (we0 (by simp) (by simp) (by simp)) (by omega))
end
section
variable {kk:Int} {l:List Int} {g:List aP} {fs:List ay}
theorem X7 {rec:T55} {rec':T78} {tY:T97} {d:Nat} (h:Ui kk l g fs) (hd:d≤100) (hr :∀e:Nat,e+1=d→∀m b i lo,m≤4→0≤b→lo.length+b≤kk→0≤i→Ok (rec e m b l i g fs lo) (PB (e+1) (max m 0) kk l g fs))
  (hp:0<d→∀b i lo,0≤b→lo.length+b≤kk→0≤i→Ok (tY d b l i g fs lo) (PL (d+1) kk l g fs))
  {b i:Int} {lo} (hb:0≤b) (hl:lo.length+b+1≤kk) (hi:0≤i):Ok (ad8 rec rec' tY d b l i g fs lo) (PS (d+1) kk l g fs):=by
 have hE:=h.env (lo:=lo) (by omega)
 have hlo:=hE.lo
 unfold ad8
 refine bn (PS (d+1) kk l g fs) ?_ fun y ⟨k,i,nm,es,th,el,b,j,lo,e,h⟩=>by subst e;exact bV (by simp) (bV (by simp) (aA ⟨k,i,nm,es,th,el,b,j,lo,rfl,h⟩))
 refine goN h.b hi (by omega) fun x0 j0 h0 _ _=>bn (fun _=>True) ?_ fun s3 _ => ?_
 ·exact bI (fun _=>aA trivial) fun _=>aA trivial
 refine qX (fun y =>∃j,0≤j∧y=(b,l,j)) ?_ fun y ⟨j,hj,e⟩ => ?_
 rotate_left
 ·subst e
  exact QK hE hj fun _ _ _ _ _ _ j hj hx=>vX rfl (aA ⟨7,_,_,[_],[],[],b,j,lo,rfl,hj,⟨hb,by omega⟩,J5 hx⟩)
 refine bI (fun _=>bn _ (abe hlo) fun y ⟨nm,t,e⟩ => ?_) fun _=>qX (fun y =>∃j,0≤j∧y=(b,l,j)) ?_ fun y ⟨j,hj,e⟩=>(by subst e;exact aA ⟨j,hj,rfl⟩)
 ·subst e
  refine bI (fun _=>QK hE h0 fun _ _ _ _ _ _ j hj hx=>vX rfl (bV (by unfold b_;simp;omega) (aA ⟨1,_,_,[_],[],[],b,j,lo++[nm],rfl,hj,⟨hb,by simp;omega⟩,J5 hx⟩))) fun _=>aA ⟨_,h0,rfl⟩
 refine bI (fun _=>bI (fun hc=>goN h.b h0 (by omega) fun x j hj a1 a2=>bV (ak.2 ⟨a1,a2 (by have:0<lo.length:=(by simpa using hc);omega)⟩) (QK hE hj fun _ _ _ _ _ _ j hj hx=>vX rfl (aA ⟨2,_,_,[_],[],[],b,j,lo,rfl,hj,⟨hb,by omega⟩,J5 hx⟩))) fun _=>aA ⟨_,h0,rfl⟩) fun _=>qX (fun y =>∃j,0≤j∧y=(b,l,j)) ?_ fun y ⟨j,hj,e⟩=>(by subst e;exact aA ⟨j,hj,rfl⟩)
 refine bI (fun _=>goP hE h0 fun nm t j hj=>bI (fun _=>QK hE hj fun _ _ _ _ _ _ j hj hx=>vX rfl (aA ⟨2,_,_,[_],[],[],b,j,lo,rfl,hj,⟨hb,by omega⟩,J5 hx⟩)) fun _=>aA ⟨_,hj,rfl⟩) fun _=>qX (fun y =>∃j,0≤j∧y=(b,l,j)) ?_ fun y ⟨j,hj,e⟩=>(by subst e;exact aA ⟨j,hj,rfl⟩)
 refine bI (fun _=>goP hE h0 fun nm t j hj=>bI (fun _=>aof hE hj fun _ _ _ _ _ _ j hj hx=>QK hE hj fun _ _ _ _ _ _ j hj hz=>aA ⟨3,_,_,[_,_],[],[],b,j,lo,rfl,hj,⟨hb,by omega⟩,⟨by simp,fun h=>absurd h (by simp),aew hx hz,⟨by simp,by simp⟩,fun y h=>(by cases h),fun y h=>by cases h⟩⟩) fun _=>aA ⟨_,hj,rfl⟩) fun _=>bn (fun _=>True) ?_ fun s3 _=>qX (fun _=>True) ?_ fun _ _=>aA ⟨_,h0,rfl⟩
 ·exact bI (fun _=>aA trivial) fun _=>aA trivial
 refine bI (fun _=>bI (fun hc => ?_) fun _=>aA trivial) fun _=>qX (fun _=>True) ?_ fun _ _=>aA trivial
 ·obtain ⟨e,rfl⟩ :∃e,d=e+1:=⟨d-1,by have:0<d:=(by simpa using hc);omega⟩
  have hw:cZ (((e+1:Nat):Int)-1)=e:=by rw [aN (by omega)];omega
  have hr:=hr e rfl
  have hone :∀x:Int,0≤x→(1≤(2:Int)→x<2)→cZ (1+x)≤4:=fun x h1 h2=>by have:=h2 (by omega);rw [aN (by omega)];omega
  refine QK hE h0 fun _ _ _ _ _ _ j hj hx=>vX rfl (goN h.b hj (by omega) fun x1 j1 h1 a1 b1=>aex hr hw (hone _ a1 b1) hb (show (lo.length:Int)+b≤kk by omega) h1 fun ss b' j lo' c1 c2 c3 c4 c5=>goN h.b c1 (by omega) fun x2 j2 h2 a2 b2 => ?_)
  refine bn (fun y =>∃b j lo el,y=(b,l,j,4,0,dN,lo,el)∧0≤j∧(0≤b∧lo.length+b≤kk)∧el.length≤4∧∀s∈el,WS 3 3 (e+1) s) ?_ fun y ⟨b,j,lo,el,e',d1,d2,d3,d4⟩=>by
   subst e';exact aA ⟨4,_,_,[_],ss,el,b,j,lo,rfl,d1,d2,RQ hx (by omega) (by omega) c5 d4⟩
  exact bI (fun _=>goN h.b h2 (by omega) fun x3 j3 h3 a3 b3=>aex hr hw (hone _ a3 b3) c2 c3 h3 fun ss b' j lo' c1 c2 c3 c4 c5=>aA ⟨b',j,lo',ss,rfl,c1,⟨c2,c3⟩,c4,c5⟩) fun _=>aA ⟨b',j2,lo',[],rfl,h2,⟨c2,c3⟩,by simp,fun s h=>by cases h⟩
 refine bI (fun _=>bI (fun hc=>bn _ (hp (by simpa using hc) b j0 lo hb (by omega) h0) fun y ⟨k,i,nm,es,th,b,j,lo,e,h1,h2,h3⟩=>by subst e;exact aA ⟨k,i,nm,es,th,[],b,j,lo,rfl,h1,h2,h3⟩) fun _=>aA trivial) fun _=>bI (fun _ => ?_) fun _=>aA trivial
 exact goN h.b h0 (by omega) fun x j hj _ _=>bI (fun _=>QK hE hj fun _ _ _ _ _ _ j hj hx=>vX rfl (aA ⟨6,_,_,[_],[],[],b,j,lo,rfl,hj,⟨hb,by omega⟩,J5 hx⟩)) fun _=>aog hE hj fun _ _ _ _ _ _ j hj hx=>vX rfl (aA ⟨8,_,_,[_],[],[],b,j,lo,rfl,hj,⟨hb,by omega⟩,J5 hx⟩)
theorem abf (n:Nat):(jR (n+1)).1=ad7 (aaY n) (ad_ n) (aea n):=rfl
theorem abg (n:Nat):(jR (n+1)).2.1=ad8 (aaY n) (ad_ n) (aea n):=rfl
theorem abh (n:Nat):(jR (n+1)).2.2=ad9 (aaY n) (ad_ n) (aea n):=rfl
theorem QL (h:Ui kk l g fs) :∀n:Nat,(∀d:Nat,d≤100→3*d+2≤n→∀m b i lo,m≤4→0≤b→lo.length+b≤kk→0≤i→Ok (aaY n d m b l i g fs lo) (PB (d+1) (max m 0) kk l g fs))∧
  (∀d:Nat,d≤100→3*d+1≤n→∀b i lo,0≤b→lo.length+b+1≤kk→0≤i→Ok (ad_ n d b l i g fs lo) (PS (d+1) kk l g fs))∧
  (∀d:Nat,d≤100→0<d→3*d≤n→∀b i lo,0≤b→lo.length+b≤kk→0≤i→Ok (aea n d b l i g fs lo) (PL (d+1) kk l g fs))
 |0=>⟨fun d _ h=>by omega,fun d _ h=>by omega,fun d _ h h'=>by omega⟩
 |n+1=>by
  obtain ⟨i1,i2,i3⟩:=QL h n
  refine ⟨fun d h1 h2 m b i lo h3 h4 h5 h6=>ahl (by rw [abf];exact Uj h (i2 d h1 (by omega)) h3 h4 h5 h6),
   fun d h1 h2 b i lo h3 h4 h5=>ahm (by rw [abg];exact X7 h h1 (fun e he=>i1 e (by omega) (by omega)) (fun hd=>i3 d h1 hd (by omega)) h3 h4 h5),fun d h1 h2 h3 b i lo h4 h5 h6 => ?_⟩
  obtain ⟨e,rfl⟩ :∃e,d=e+1:=⟨d-1,by omega⟩
  exact ahn (by rw [abh];exact X6 h (by omega) (i1 e (by omega) (by omega)) h4 h5 h6)
end
structure Src (m h:Nat) (g:List aP) (fs:List ay):Prop where
 g:g.length≤100
 f:fs.length≤100
 ps :∀f∈fs,f.params.length≤2
 ws :∀f∈fs,f.body.length≤10∧∀s∈f.body,WS m h 3 s
theorem FY {A R α:Type} {body:A→Option (A ⊕ R)} {Q:R→Prop} {a:A} (ct:A→Int) (ls:A→List α) (I:A→Prop) (m:Nat) (h0:I a) (hm:(ls a).length+ct a≤m) (hc:m≤1000)
  (h :∀a,I a→(ls a).length≤m→0<ct a→(ls a).length+ct a≤m→Ok (body a) (JJ (fun a'=>I a'∧ct a'=ct a-1∧(ls a').length=(ls a).length+1) Q))
  (he :∀a,I a→(ls a).length≤m→¬ 0<ct a→Ok (body a) (JJ (fun _=>False) Q)) (hl:(ls a).length≤m):Ok (aZ body a) Q:=by
 refine bC (fun a=>I a∧(ls a).length≤m∧(0<ct a→(ls a).length+ct a≤m)) (fun a=>(ct a).toNat) ⟨h0,hl,fun _=>hm⟩ fun a ⟨h1,h2,h3⟩ => ?_
 by_cases hp:0<ct a
 ·refine kQ (h a h1 h2 hp (h3 hp)) fun y hy => ?_
  cases y with
  |inl a'=>obtain ⟨g1,g2,g3⟩:=hy;exact ⟨⟨g1,by have:=h3 hp;omega,fun _=>by have:=h3 hp;omega⟩,by omega⟩
  |inr r=>exact hy
 ·refine kQ (he a h1 h2 hp) fun y hy => ?_
  cases y with
  |inl a'=>exact hy.elim
  |inr r=>exact hy
theorem X8 {l:List Int} {i:Int} (hb:Bytes l) (hi:0≤i):Ok (f42 l i) fun y=>y.1=l∧0≤y.2.1∧Src 3 3 y.2.2.1 y.2.2.2:=by
 unfold f42
 refine vX rfl (goN hb hi (by omega) fun x1 j1 h1 a1 b1=>bn (fun y=>y.2.length≤2) ?_ fun ⟨z,g0⟩ hg0 => ?_)
 ·have b1:=b1 (by omega)
  refine FY (fun s:Int×Int×List aP=>s.1) (fun s=>s.2.2) (fun _=>True) 2 trivial (by simp only [List.length_nil];omega) (by omega) (fun ⟨q,z,gs⟩ _ e1 e2 e3 => ?_) (fun ⟨q,z,gs⟩ _ e1 e2=>BN (decide_eq_false e2) (aA e1)) (by simp)
  simp only at e1 e2 e3
  refine goT (decide_eq_true e2) (bn _ (tX (by omega) (by simp only;omega)) fun nm hnm=>bV (nP.2 (by simp;omega)) (bV (by unfold b_;simp;omega) (aA ⟨trivial,aN (by omega),by simp⟩)))
 simp only at hg0
 refine goN hb h1 (by omega) fun x2 j2 h2 a2 b2=>bn (fun y=>y.1=l∧0≤y.2.1∧y.2.2.2.length≤4) ?_ fun ⟨l',j3,z',gs⟩ ⟨e1,e2,e3⟩ => ?_
 ·have b2:=b2 (by omega)
  refine FY (fun s:Int×List Int×Int×Int×List aP=>s.1) (fun s=>s.2.2.2.2) (fun s=>s.2.1=l∧0≤s.2.2.1) 4 ⟨rfl,h2⟩ (by simp only;omega) (by omega) (fun ⟨q,l',j,z,gs⟩ ⟨c1,c2⟩ e1 e2 e3 => ?_) (fun ⟨q,l',j,z,gs⟩ ⟨c1,c2⟩ e1 e2=>BN (decide_eq_false e2) (aA ⟨c1,c2,e1⟩)) (by simp only;omega)
  simp only at e1 e2 e3 c1 c2
  subst c1
  refine goT (decide_eq_true e2) (bn _ (tX (by omega) (by simp only;omega)) fun nm hnm=>bV (nP.2 (by simp;omega)) (goN hb c2 (by omega) fun x j hj _ _=>bV (by unfold b_;simp;omega) (aA ⟨⟨rfl,hj⟩,aN (by omega),by simp⟩)))
 simp only at e1 e2 e3
 subst e1
 refine goN hb e2 (by omega) fun x4 j4 h4 a4 b4=>bn (fun y=>y.1=l'∧0≤y.2.1∧(0<y.2.2.2.length∧y.2.2.2.length≤4)∧∀f∈y.2.2.2,f.params.length≤2∧f.body=[]) ?_ fun ⟨l2,j5,z2,fs⟩ ⟨e1,e2,e4,e5⟩ => ?_
 ·have b4:=b4 (by omega)
  refine FY (fun s:Int×List Int×Int×Int×List ay=>s.1) (fun s=>s.2.2.2.2) (fun s=>s.2.1=l'∧0≤s.2.2.1∧0<s.2.2.2.2.length∧∀f∈s.2.2.2.2,f.params.length≤2∧f.body=[]) 4 ⟨rfl,h4,by simp,NU ⟨by simp,rfl⟩⟩ (by simp only [List.length_singleton];omega) (by omega)
   (fun ⟨q,l',j,z,fs⟩ ⟨c1,c2,c3,c4⟩ e1 e2 e3 => ?_) (fun ⟨q,l',j,z,gs⟩ ⟨c1,c2,c3,c4⟩ e1 e2=>BN (decide_eq_false e2) (aA ⟨c1,c2,⟨c3,e1⟩,c4⟩)) (by simp)
  simp only at e1 e2 e3 c1 c2 c3 c4
  subst c1
  refine goT (decide_eq_true e2) (bn _ (tX (by omega) (by simp only;omega)) fun nm hnm=>bV (nP.2 (by simp;omega)) (goN hb c2 (by omega) fun x j hj a5 b5=>bn (fun y=>y.2.2.length≤2) ?_ fun y hy=>bV (by unfold b_;simp;omega) (aA ⟨⟨rfl,hj,by simp,fun f hf => ?_⟩,aN (by omega),by simp⟩)))
  ·have b5:=b5 (by omega)
   refine FY (fun s:Int×List UInt8×Int×List (List UInt8)=>s.1) (fun s=>s.2.2.2) (fun _=>True) 2 trivial (by simp only [List.length_nil];omega) (by omega) (fun ⟨q,z,z',gs⟩ _ e1 e2 e3 => ?_) (fun ⟨q,z,z',gs⟩ _ e1 e2=>BN (decide_eq_false e2) (aA e1)) (by simp)
   simp only at e1 e2 e3
   refine goT (decide_eq_true e2) (bn _ (tX (by omega) (by simp only;omega)) fun nm hnm=>bV (nP.2 (by simp;omega)) (bV (by unfold b_;simp;omega) (aA ⟨trivial,aN (by omega),by simp⟩)))
  ·rcases List.mem_append.1 hf with hf | hf
   ·exact c4 f hf
   ·rw [List.mem_singleton] at hf;subst hf;exact ⟨hy,rfl⟩
 simp only at e1 e2 e3 e4 e5
 subst e1
 refine bn (fun y=>y.1=l2∧0≤y.2.1∧Src 3 3 y.2.2.2.1 y.2.2.2.2.1) ?_ fun y hy=>aA hy
 refine bC (fun s:Int×List Int×Int×Int×List aP×List ay×List (List UInt8)=>s.2.1=l2∧0≤s.2.2.1∧s.2.2.2.2.1=gs∧s.2.2.2.2.2.1.length=fs.length∧(0≤s.1∧s.1≤fs.length)∧∀f∈s.2.2.2.2.2.1,f.params.length≤2∧f.body.length≤10∧∀s∈f.body,WS 3 3 3 s) (fun s=>(fs.length-s.1).toNat)
  ⟨rfl,e2,rfl,rfl,⟨by simp,by simp⟩,fun f hf=>⟨(e5 f hf).1,by rw [(e5 f hf).2];exact ⟨by simp,fun s h=>by cases h⟩⟩⟩ fun ⟨q,l3,j,z,gs',fs',lo⟩ ⟨c1,c2,c3,c4,c5,c6⟩ => ?_
 simp only at c1 c2 c3 c4 c5 c6
 subst c1;subst c3
 refine bI (fun hc => ?_) fun _=>aA ⟨rfl,c2,⟨by simp only;omega,by simp only;omega,fun f hf=>(c6 f hf).1,fun f hf=>(c6 f hf).2⟩⟩
 have hc:q<fs'.length:=by simpa using hc
 have hq:q.toNat<fs'.length:=by omega
 have hf:=c6 _ (List.getElem_mem hq)
 rw [←getD_at gK hq] at hf
 generalize hfd:fs'.getD q.toNat gK=fd at hf
 have hES:Ui 20 l3 gs' fs':=⟨hb,by omega,by omega,by omega,fun f hf=>(c6 f hf).1,by omega⟩
 refine bV (ak.2 ⟨c5.1,hc⟩) (bV ?_ (goN hb c2 (by omega) fun x6 j6 h6 a6 b6 => ?_))
 ·show (true&&decide _)=true;simp [hfd];omega
 simp only [hfd]
 have b6:=b6 (by omega)
 rw [show cZ (1+x6)=1+x6 from aN (by omega)]
 refine bn _ ((QL hES 1048576).1 2 (by omega) (by omega) (1+x6) 7 j6 (jV++fd.params) (by omega) (by omega) (by simp;omega) h6) fun y ⟨ss,b,j,lo,e,d1,d2,d3,d4⟩ => ?_
 subst e
 refine bV (ak.2 ⟨c5.1,hc⟩) (aA ⟨⟨rfl,d1,rfl,?_,?_,fun f h => ?_⟩,?_⟩)
 ·simp only [List.length_set];exact c4
 ·simp only [aN (x:=q+1) (by omega)];omega
 ·rcases List.mem_or_eq_of_mem_set h with h | h
  ·exact c6 f h
  ·subst h;exact ⟨hf.1,d3.1,d4⟩
 ·simp only [aN (x:=q+1) (by omega)];omega
theorem nZ {R:Type} {body:Int→Option (Int ⊕ R)} {Q:R→Prop} (n:Nat) (hn:n≤4000000000) (h :∀i:Int,0≤i→i<n→Ok (body i) (JJ (fun j=>j=cZ (i+1)) Q)) (he:Ok (body n) (JJ (fun _=>False) Q)):Ok (aZ body 0) Q:=by
 refine bC (fun i:Int=>0≤i∧i≤n) (fun i=>(n-i).toNat) ⟨by simp,by omega⟩ fun i ⟨h1,h2⟩ => ?_
 by_cases hi:i<n
 ·refine kQ (h i h1 hi) fun y hy => ?_
  cases y with
  |inl j=>have e:j=cZ (i+1):=hy;rw [aN (by omega)] at e;exact ⟨⟨by omega,by omega⟩,by omega⟩
  |inr r=>exact hy
 ·have e:i=n:=by omega
  subst e
  refine kQ he fun y hy => ?_
  cases y with
  |inl j=>exact hy.elim
  |inr r=>exact hy
section
variable {g:List aP} {fs:List ay} {lo:List (List UInt8)}
theorem vg {nm:List UInt8} (hg:g.length≤1000000):Ok (f49 g fs nm) fun y=>-1≤y∧y<g.length:=by
 unfold f49
 refine qX (fun _=>True) (nZ g.length (by omega) (fun i h0 h1=>goT (decide_eq_true h1) (bV (ak.2 ⟨h0,h1⟩) (bI (fun _=>aA ⟨by omega,h1⟩) fun _=>aA rfl))) (BN (decide_eq_false (by omega)) (aA trivial))) fun _ _=>aA ⟨by omega,by omega⟩
theorem FZ {nm:List UInt8} (hg:fs.length≤1000000):Ok (f50 g fs nm) fun y=>-1≤y∧y<fs.length:=by
 unfold f50
 refine qX (fun _=>True) (nZ fs.length (by omega) (fun i h0 h1=>goT (decide_eq_true h1) (bV (ak.2 ⟨h0,h1⟩) (bI (fun _=>aA ⟨by omega,h1⟩) fun _=>aA rfl))) (BN (decide_eq_false (by omega)) (aA trivial))) fun _ _=>aA ⟨by omega,by omega⟩
theorem abj {nm:List UInt8} (hg:lo.length≤1000000):Ok (f52 lo nm) fun _=>True:=by
 unfold f52
 refine qX (fun _=>True) (nZ lo.length (by omega) (fun i h0 h1=>goT (decide_eq_true h1) (bV (ak.2 ⟨h0,h1⟩) (bI (fun _=>aA trivial) fun _=>aA rfl))) (BN (decide_eq_false (by omega)) (aA trivial))) fun _ _=>aA trivial
structure Sc (g:List aP) (fs:List ay) (lo:List (List UInt8)):Prop where
 g:g.length≤1000000
 f:fs.length≤1000000
 lo:lo.length≤1000000
theorem QM {nm:List UInt8} (hg:g.length≤1000000) (hf:fs.length≤1000000):Ok (f53 g fs nm) fun y=>y=4→Ok (f50 g fs nm) fun i=>0≤i∧i<fs.length:=by
 unfold f53
 refine bn _ (vg hg) fun c ⟨h1,h2⟩=>bI (fun h=>bV (ak.2 ⟨by simpa using h,h2⟩) (bI (fun _=>aA fun h=>absurd h (by simp)) fun _=>aA fun h=>absurd h (by simp))) fun _ => ?_
 obtain ⟨c,hc,h3,h4⟩:=FZ (g:=g) (nm:=nm) hf
 exact vX hc (bI (fun h=>aA fun _=>⟨c,hc,by simpa using h,h4⟩) fun _=>aA fun h=>absurd h (by simp))
theorem aey {nm:List UInt8} (h:Sc g fs lo) {a b:Int}:Ok (f77 nm g fs a b lo) fun y =>∃k,y=(k,g,fs,a,b,lo)∧(k=4→Ok (f50 g fs nm) fun i=>0≤i∧i<fs.length):=by
 refine bn (fun y =>∃k,y=(k,g,fs,a,b,lo)∧(k=4→Ok (f50 g fs nm) fun i=>0≤i∧i<fs.length)) ?_ fun y ⟨k,e,h⟩=>by subst e;exact goK rfl (aA ⟨k,rfl,h⟩)
 unfold agT
 refine bn (fun y =>∃k,y=(k,g,fs,a,b,lo)∧(k=4→Ok (f50 g fs nm) fun i=>0≤i∧i<fs.length)) ?_ fun y ⟨k,e,h⟩=>by subst e;exact bV (by simp) (aA ⟨k,rfl,h⟩)
 exact bn _ (abj h.lo) fun _ _=>bI (fun _=>aA ⟨1,rfl,fun h=>absurd h (by simp)⟩) fun _=>bn _ (QM h.g h.f) fun c hc=>aA ⟨c,rfl,hc⟩
theorem aez {p q a b:Int}:Ok (f75 p q g fs a b lo) fun y =>∃a b,y=(g,fs,a,b,lo):=by
 refine bn (fun y =>∃a b,y=(g,fs,a,b,lo)) ?_ fun y ⟨a,b,e⟩=>by subst e;exact goK rfl (aA ⟨a,b,rfl⟩)
 unfold agS
 refine bn (fun y =>∃a b,y=(g,fs,a,b,lo)) ?_ fun y ⟨a,b,e⟩=>by subst e;exact bV (by simp) (aA ⟨a,b,rfl⟩)
 exact bn (fun y =>∃a b,y=(g,fs,a,b)) (bI (fun _=>aA ⟨_,_,rfl⟩) fun _=>aA ⟨_,_,rfl⟩) fun y ⟨a,b,e⟩=>by subst e;exact aA ⟨_,_,rfl⟩
theorem qA {β:Type} {p q a b:Int} {f:List aP×List ay×Int×Int×List (List UInt8)→Option β} {Q:β→Prop} (k :∀a b,Ok (f (g,fs,a,b,lo)) Q):Ok (Option.bind (f75 p q g fs a b lo) f) Q:=
 bn _ aez fun y ⟨a,b,e⟩=>by subst e;exact k a b
theorem NV {β:Type} {nm:List UInt8} (h:Sc g fs lo) {a b:Int} {f} {Q:β→Prop} (k :∀q,(q=4→Ok (f50 g fs nm) fun i=>0≤i∧i<fs.length)→Ok (f (q,g,fs,a,b,lo)) Q):Ok (Option.bind (f77 nm g fs a b lo) f) Q:=
 bn _ (aey h) fun y ⟨q,e,h⟩=>by subst e;exact k q h
theorem aeA (h:Sc g fs lo) {k o v i:Int} {nm:List UInt8} {ar:List bG} {p q a b:Int}:Ok (f90 k o v i nm ar p q g fs a b lo) fun y =>∃a b,y=(g,fs,a,b,lo):=by
 refine bn (fun y =>∃a b,y=(g,fs,a,b,lo)) ?_ fun y ⟨a,b,e⟩=>by subst e;exact goK rfl (aA ⟨a,b,rfl⟩)
 unfold agX
 refine bn (fun y =>∃a b,y=(g,fs,a,b,lo)) ?_ fun y ⟨a,b,e⟩=>by subst e;exact bV (by simp) (aA ⟨a,b,rfl⟩)
 refine NV h fun q _=>bn (fun y =>∃a b,y=(g,fs,a,b)) ?_ fun y ⟨a,b,e⟩=>by subst e;exact aA ⟨_,_,rfl⟩
 refine bI (fun _=>qA fun _ _=>aA ⟨_,_,rfl⟩) fun _=>bn (fun _=>True) ?_ fun _ _=>bn (fun y =>∃a b,y=(g,fs,a,b)) ?_ fun y ⟨a,b,e⟩=>by subst e;exact aA ⟨_,_,rfl⟩
 ·exact bI (fun _=>aA trivial) fun _=>aA trivial
 ·exact bI (fun _=>qA fun _ _=>aA ⟨_,_,rfl⟩) fun _=>aA ⟨_,_,rfl⟩
theorem Uk {β:Type} (h:Sc g fs lo) {k o v i:Int} {nm:List UInt8} {ar:List bG} {p q a b:Int} {f} {Q:β→Prop} (k' :∀a b,Ok (f (g,fs,a,b,lo)) Q):Ok (Option.bind (f90 k o v i nm ar p q g fs a b lo) f) Q:=
 bn _ (aeA h) fun y ⟨a,b,e⟩=>by subst e;exact k' a b
theorem abk (h:Sc g fs lo) {i a b:Int} {nm:List UInt8}:Ok (f91 nm i g fs a b lo) fun y =>∃k,(k=2∨k=3)∧y=(k,0,0,i,nm,g,fs,a,b,lo):=by
 refine bn (fun y =>∃k,(k=2∨k=3)∧y=(k,0,0,i,nm,g,fs,a,b,lo)) ?_ fun y ⟨k,hk,e⟩=>by subst e;exact goK rfl (aA ⟨k,hk,rfl⟩)
 unfold agY
 refine bn (fun y =>∃k,(k=2∨k=3)∧y=(k,0,0,i,nm,g,fs,a,b,lo)) ?_ fun y ⟨k,hk,e⟩=>by subst e;exact bV (by simp) (aA ⟨k,hk,rfl⟩)
 exact NV h fun q _=>bn (fun k=>k=2∨k=3) (bI (fun _=>aA (by simp)) fun _=>aA (by simp)) fun k hk=>aA ⟨k,hk,rfl⟩
theorem V_ {β:Type} (h:Sc g fs lo) {i a b:Int} {nm:List UInt8} {f} {Q:β→Prop} (k' :∀k,(k=2∨k=3)→Ok (f (k,0,0,i,nm,g,fs,a,b,lo)) Q):Ok (Option.bind (f91 nm i g fs a b lo) f) Q:=
 bn _ (abk h) fun y ⟨k,hk,e⟩=>by subst e;exact k' k hk
def PX (n:Nat) (g:List aP) (fs:List ay) (lo:List (List UInt8)) (y:Int×Int×Int×Int×List UInt8×List aP×List ay×Int×Int×List (List UInt8)×List bG):Prop:=
 ∃k o v i nm a b ar,y=(k,o,v,i,nm,g,fs,a,b,lo,ar)∧WE 4 n (bG.mk k o v i nm ar)
def PXs (n m:Nat) (g:List aP) (fs:List ay) (lo:List (List UInt8)) (y:List aP×List ay×Int×Int×List (List UInt8)×List bG):Prop:=
 ∃a b ar,y=(g,fs,a,b,lo,ar)∧ar.length=m∧∀x∈ar,WE 4 n x
theorem Ul {rec:T76} {rec':T92} {n:Nat} {ls:List bG} (hl:ls.length≤10) (hr :∀x∈ls,∀a b,Ok (rec x.kind x.op x.value x.line x.name x.args g fs a b lo) (PX n g fs lo)) {a b:Int} :
  Ok (adC rec rec' ls g fs a b lo) (PXs n ls.length g fs lo):=by
 unfold adC
 refine bn (PXs n ls.length g fs lo) ?_ fun y ⟨a,b,ar,e,h⟩=>by subst e;exact bV (by simp) (aA ⟨a,b,ar,rfl,h⟩)
 refine bn (fun y =>∃a b ar,y=(g,fs,a,b,ar)∧ar.length=ls.length∧∀x∈ar,WE 4 n x) ?_ fun y ⟨a,b,ar,e,h⟩=>by subst e;exact aA ⟨a,b,ar,rfl,h⟩
 refine bC (fun s:Int×List aP×List ay×Int×Int×List bG =>∃q a b ar,s=(q,g,fs,a,b,ar)∧(ar.length:Int)=q∧ar.length≤ls.length∧∀x∈ar,WE 4 n x) (fun s=>(ls.length-s.1).toNat) ⟨0,a,b,[],rfl,rfl,by simp,fun x h=>by cases h⟩ fun s ⟨q,a,b,ar,e,h1,h2,h3⟩ => ?_
 subst e;subst h1
 refine bI (fun hc => ?_) fun hc=>aA ⟨a,b,ar,rfl,?_,h3⟩
 ·have hc:ar.length<ls.length:=by simp at hc;omega
  refine bV (ak.2 ⟨by simp only;omega,by simp only;omega⟩) (bn _ (hr _ (by rw [getD_at _ (by simpa using hc)];exact List.getElem_mem _) a b) fun y ⟨k,o,v,i,nm,a,b,ar',e,hx⟩ => ?_)
  subst e
  refine bV (by unfold b_;simp;omega) (aA ⟨⟨_,a,b,_,rfl,?_,?_,fun x hx' => ?_⟩,?_⟩)
  all_goals try simp only [aN (x:=(ar.length:Int)+1) (by omega)]
  ·simp
  ·simp;omega
  ·rcases List.mem_append.1 hx' with h | h
   ·exact h3 x h
   ·rw [List.mem_singleton] at h;subst h;exact hx
  ·omega
 ·have hc:¬ (ar.length:Int)<ls.length:=by simpa using hc
  omega
theorem abl {rec:T76} {rec':T92} {n:Nat} (h:Sc g fs lo) {k o v i a b:Int} {nm:List UInt8} {ar:List bG} (hx:WE 3 (n+1) (bG.mk k o v i nm ar)) (hr :∀a b,Ok (rec' ar g fs a b lo) (PXs (n+1) ar.length g fs lo)) :
  Ok (adB rec rec' k o v i nm ar g fs a b lo) (PX (n+2) g fs lo):=by
 obtain ⟨w1,w2,w3,w4⟩:=hx
 unfold adB
 refine bn (PX (n+2) g fs lo) ?_ fun y ⟨k,o,v,i,nm,a,b,ar,e,h⟩=>by subst e;exact bV (by simp) (aA ⟨k,o,v,i,nm,a,b,ar,rfl,h⟩)
 refine bI (fun _=>Uk h fun a b=>V_ h fun k hk=>aA ⟨k,0,0,i,nm,a,b,[],rfl,we0 (by omega) (by omega) (by omega)⟩) fun _ => ?_
 have fin :∀y:List aP×List ay×Int×Int,(∃a b,y=(g,fs,a,b))→Ok (Option.bind (rec' ar y.1 y.2.1 y.2.2.1 y.2.2.2 lo) fun c40=>some (k,o,v,i,nm,c40.1,c40.2.1,c40.2.2.1,c40.2.2.2.1,lo,c40.2.2.2.2.2)) (PX (n+2) g fs lo):=fun y ⟨a,b,e⟩=>by
  subst e
  refine bn _ (hr a b) fun y ⟨a,b,ar',e,h1,h2⟩ => ?_
  subst e
  exact aA ⟨k,o,v,i,nm,a,b,ar',rfl,⟨by simp only at w1 ⊢;omega,fun h=>by have:=w2 h;simp only at this ⊢;omega,fun h=>by have:=w3 h;simp only at this ⊢;omega,h2⟩⟩
 refine qX (fun y =>∃a b,y=(g,fs,a,b)) ?_ fin
 refine bI (fun _=>Uk h fun a b=>aA ⟨_,_,rfl⟩) fun _=>qX (fun y =>∃a b,y=(g,fs,a,b)) ?_ fun y ⟨a,b,e⟩=>by subst e;exact aA ⟨_,_,rfl⟩
 refine bI (fun _=>Uk h fun a b=>aA ⟨_,_,rfl⟩) fun _=>qX (fun y =>∃a b,y=(g,fs,a,b)) ?_ fun y ⟨a,b,e⟩=>by subst e;exact aA ⟨_,_,rfl⟩
 refine bI (fun _=>NV h fun q hq=>qX (fun y =>∃a b,y=(g,fs,a,b)) ?_ fun y ⟨a,b,e⟩=>by subst e;exact aA ⟨_,_,rfl⟩) fun _=>bn (fun y =>∃a b,y=(g,fs,a,b)) ?_ fun y ⟨a,b,e⟩=>by subst e;exact aA ⟨_,_,rfl⟩
 ·refine bI (fun _=>qA fun a b=>aA ⟨_,_,rfl⟩) fun _=>qX (fun y =>∃a b,y=(g,fs,a,b)) ?_ fun y ⟨a,b,e⟩=>by subst e;exact aA ⟨_,_,rfl⟩
  refine bI (fun _=>qA fun a b=>aA ⟨_,_,rfl⟩) fun _=>bI (fun h4=>bn _ (hq (by simpa using h4)) fun c hc=>bV (ak.2 hc) (bn (fun y =>∃a b,y=(g,fs,a,b)) ?_ fun y ⟨a,b,e⟩=>by subst e;exact aA ⟨_,_,rfl⟩)) fun _=>bn (fun y =>∃a b,y=(g,fs,a,b)) ?_ fun y ⟨a,b,e⟩ => ?_
  ·exact bI (fun _=>qA fun a b=>aA ⟨_,_,rfl⟩) fun _=>aA ⟨_,_,rfl⟩
  ·exact bI (fun _=>qA fun a b=>aA ⟨_,_,rfl⟩) fun _=>aA ⟨_,_,rfl⟩
  ·subst e
   refine V_ h fun k hk=>bn _ (hr a b) fun y ⟨a,b,ar',e,h1,h2⟩ => ?_
   subst e
   refine bV (by unfold b_;simp at w1 ⊢;omega) (aA ⟨10,0,0,i,dN,a,b,_,rfl,⟨by simp at w1 ⊢;omega,fun h=>absurd h (by simp),fun h=>by simp,fun z hz => ?_⟩⟩)
   rcases List.mem_append.1 hz with hz | hz
   ·rw [List.mem_singleton] at hz;subst hz;exact we0 (by omega) (by omega) (by omega)
   ·exact h2 z hz
 ·refine bI (fun _=>bn (fun y =>∃a b,y=(g,fs,a,b)) ?_ fun y ⟨a,b,e⟩=>by subst e;exact aA ⟨_,_,rfl⟩) fun _=>aA ⟨_,_,rfl⟩
  exact bI (fun _=>qA fun a b=>aA ⟨_,_,rfl⟩) fun _=>aA ⟨_,_,rfl⟩
theorem abm (n:Nat):(su (n+1)).1=adB (adD n) (ajP n):=rfl
theorem abn (n:Nat):(su (n+1)).2=adC (adD n) (ajP n):=rfl
theorem Le (h:Sc g fs lo) :∀n:Nat,∀k,2*n≤k→∀x,WE 3 n x→∀a b,Ok (adD k x.kind x.op x.value x.line x.name x.args g fs a b lo) (PX (n+1) g fs lo)
 |0,_,_=>fun _ h=>h.elim
 |n+1,0,hk=>by omega
 |n+1,1,hk=>by omega
 |n+1,k+2,hk=>fun x hx a b=>by
  have ih:=Le h n k (by omega)
  obtain ⟨x1,x2,x3,x4,x5,x6⟩:=x
  refine bn (PX (n+2) g fs lo) ?_ fun y ⟨k,o,v,i,nm,a,b,ar,e,h⟩=>by subst e;exact goK rfl (aA ⟨k,o,v,i,nm,a,b,ar,rfl,h⟩)
  rw [abm]
  refine abl h hx fun a b => ?_
  refine bn (PXs (n+1) x6.length g fs lo) ?_ fun y ⟨a,b,ar,e,h⟩=>by subst e;exact goK rfl (aA ⟨a,b,ar,rfl,h⟩)
  rw [abn]
  exact Ul (Nat.le_trans hx.1 (by omega)) fun z hz a b=>ih z (hx.2.2.2 z hz) a b
theorem Lh {m:Nat} (hm:m≤10) :∀n k:Nat,n≤k→∀x,WE m n x→Ok (agR k x.kind x.op x.value x.line x.name x.args) fun _=>True
 |0,_,_,_,h=>h.elim
 |n+1,0,hk,_,_=>by omega
 |n+1,k+1,hk,x,h=>by
  have ih:=Lh hm n k (by omega)
  show Ok (agQ (agR k) x.kind x.op x.value x.line x.name x.args) _
  unfold agQ
  refine bn (fun _=>True) ?_ fun _ _=>aA trivial
  have hl:=h.1
  refine bC (fun s:Int×Int=>0≤s.2∧s.2≤x.args.length) (fun s=>(x.args.length-s.2).toNat) ⟨by simp,by simp⟩ fun ⟨z,q⟩ ⟨h1,h2⟩=>bI (fun hc => ?_) fun _=>aA trivial
  have hc:q<x.args.length:=by simpa using hc
  simp only at h1 h2
  refine bV (ak.2 ⟨h1,hc⟩) (bn _ (ih _ (h.2.2.2 _ (by rw [getD_at _ (by simp only;omega)];exact List.getElem_mem _))) fun _ _=>aA ⟨⟨?_,?_⟩,?_⟩)
  all_goals simp only [aN (x:=q+1) (by omega)];omega
end
def V:Nat→Nat
 |0=>0
 |n+1=>1+20*V n
theorem kK {α:Type} {l:List α} {q:Int} (d:α) (h0:0≤q) (h1:q<l.length):l.getD q.toNat d∈l:=by
 rw [getD_at _ (by omega)];exact List.getElem_mem _
theorem NW {q m:Nat} (V:Nat) (h:q<m):(q+1)*V=q*V+V∧q*V+V≤m*V:=by
 have e:(q+1)*V=q*V+V:=Nat.succ_mul q V
 exact ⟨e,e▸Nat.mul_le_mul_right V h⟩
theorem F5 {m h:Nat} :∀n k:Nat,n+1≤k→∀ss:List d_,ss.length≤10→(∀s∈ss,WS m h n s)→∀l,l.length+10*V n≤1000000→Ok (agJ k ss l) fun y=>y.length≤l.length+ss.length*V n
 |_,0,hk,_,_,_,_,_=>by omega
 |n,k+1,hk,ss,hs,hw,l,hl=>by
  show Ok (agI (agJ k) ss l) _
  unfold agI
  refine bn (fun y=>y.length≤l.length+ss.length*V n) ?_ fun y hy=>aA hy
  refine bC (fun s:Int×List (List UInt8) =>∃q:Nat,s.1=q∧q≤ss.length∧s.2.length≤l.length+q*V n) (fun s=>(ss.length-s.1).toNat) ⟨0,rfl,by omega,by simp⟩ fun ⟨q,acc⟩ ⟨q',e1,e2,e3⟩ => ?_
  simp only at e1 e3
  subst e1
  refine bI (fun hc => ?_) fun hc=>aA ?_
  rotate_left
  ·have hc:¬ (q':Int)<ss.length:=by simpa using hc
   have:q'=ss.length:=by omega
   subst this;exact e3
  have hc:(q':Int)<ss.length:=by simpa using hc
  have hin:=ak.2 (show 0≤(q':Int)∧(q':Int)<ss.length from ⟨by omega,hc⟩)
  have hx:=hw _ (kK jW (by omega) hc)
  simp only [Int.toNat_natCast] at hx
  generalize hxe:ss.getD q' jW=x at hx
  cases n with
  |zero=>exact hx.elim
  |succ n=>
   have hm:=NW (V (n+1)) (show q'<10 by omega)
   have hV:V (n+1)=1+20*V n:=rfl
   have ht:x.then'.length*V n≤10*V n:=Nat.mul_le_mul_right _ hx.2.2.2.1.1
   have hel:x.else'.length*V n≤10*V n:=Nat.mul_le_mul_right _ hx.2.2.2.1.2
   refine bV hin (bn (fun y=>y.length≤acc.length+1) ?_ fun y hy=>bV hin (bn (fun z=>z.length≤y.length+10*V n) ?_ fun z hz=>bV hin (bn (fun w=>w.length≤z.length+10*V n) ?_ fun w hw=>aA ⟨⟨q'+1,?_,by omega,?_⟩,?_⟩)))
   ·exact bI (fun _=>bV hin (bV (by unfold b_;simp;omega) (aA (by simp)))) fun _=>aA (by simp)
   ·simp only [Int.toNat_natCast,hxe]
    exact kQ (F5 n k (by omega) _ hx.2.2.2.1.1 hx.2.2.2.2.1 _ (by omega)) fun z hz=>by omega
   ·simp only [Int.toNat_natCast,hxe]
    exact kQ (F5 n k (by omega) _ hx.2.2.2.1.2 hx.2.2.2.2.2 _ (by omega)) fun z hz=>by omega
   ·show cZ ((q':Int)+1)=_
    rw [aN (by omega)];rfl
   ·show w.length≤_
    omega
   ·show ((ss.length:Int)-cZ ((q':Int)+1)).toNat<((ss.length:Int)-q').toNat
    rw [aN (by omega)];omega
theorem NY {m h:Nat} :∀n k:Nat,n+1≤k→∀ss:List d_,ss.length≤10→(∀s∈ss,WS m h n s)→Ok (agL k ss) fun _=>True
 |_,0,hk,_,_,_=>by omega
 |n,k+1,hk,ss,hs,hw=>by
  show Ok (agK (agL k) ss) _
  unfold agK
  refine bn (fun _=>True) ?_ fun _ _=>aA trivial
  refine bC (fun s:Int×Int=>0≤s.2∧s.2≤ss.length) (fun s=>(ss.length-s.2).toNat) ⟨by simp,by simp⟩ fun ⟨z,q⟩ ⟨h1,h2⟩=>bI (fun hc => ?_) fun _=>aA trivial
  have hc:q<ss.length:=by simpa using hc
  simp only at h1 h2
  have hx:=hw _ (kK jW h1 hc)
  cases n with
  |zero=>exact hx.elim
  |succ n=>
   refine bV (ak.2 ⟨h1,hc⟩) (bn _ (NY n k (by omega) _ hx.2.2.2.1.1 hx.2.2.2.2.1) fun _ _=>bV (ak.2 ⟨h1,hc⟩) (bn _ (NY n k (by omega) _ hx.2.2.2.1.2 hx.2.2.2.2.2) fun _ _=>aA ⟨⟨?_,?_⟩,?_⟩))
   all_goals simp only [aN (x:=q+1) (by omega)];omega
section
variable {g:List aP} {fs:List ay}
def PR (n m:Nat) (g:List aP) (fs:List ay) (lo:List (List UInt8)) (y:List aP×List ay×Int×Int×List d_×List (List UInt8)):Prop:=
 ∃a b ss lo',y=(g,fs,a,b,ss,lo')∧ss.length=m∧(∀s∈ss,WS 4 4 n s)∧lo'.length≤lo.length+m*V n
theorem DF (hg:g.length≤1000000) (hf:fs.length≤1000000) :∀n k:Nat,n+1≤k→∀ss:List d_,ss.length≤10→(∀s∈ss,WS 3 3 n s)→∀a b lo,lo.length+10*V n≤1000000→Ok (ag5 k ss g fs a b lo) (PR n ss.length g fs lo)
 |_,0,hk,_,_,_,_,_,_,_=>by omega
 |n,k+1,hk,ss,hs,hw,a,b,lo,hl=>by
  show Ok (ag4 (ag5 k) ss g fs a b lo) _
  unfold ag4
  refine bn (PR n ss.length g fs lo) ?_ fun y ⟨a,b,ss,lo,e,h⟩=>by subst e;exact aA ⟨a,b,ss,lo,rfl,h⟩
  refine bC (fun s:Int×List aP×List ay×Int×Int×List d_×List (List UInt8) =>∃q:Nat,∃a b rs lo',s=((q:Int),g,fs,a,b,rs,lo')∧q≤ss.length∧rs.length=q∧(∀s∈rs,WS 4 4 n s)∧lo'.length≤lo.length+q*V n) (fun s=>(ss.length-s.1).toNat)
   ⟨0,a,b,[],lo,rfl,by omega,rfl,fun s h=>(by cases h),by simp⟩ fun s ⟨q,a,b,rs,lo',e,e1,e2,e3,e4⟩ => ?_
  subst e
  refine bI (fun hc => ?_) fun hc=>aA ?_
  rotate_left
  ·have hc:¬ (q:Int)<ss.length:=by simpa using hc
   have:q=ss.length:=by omega
   subst this;exact ⟨a,b,rs,lo',rfl,e2,e3,e4⟩
  have hc:(q:Int)<ss.length:=by simpa using hc
  have hin:=ak.2 (show 0≤(q:Int)∧(q:Int)<ss.length from ⟨by omega,hc⟩)
  have hx:=hw _ (kK jW (by omega) hc)
  obtain ⟨x,hxe⟩ :∃x,ss.getD (q:Int).toNat jW=x:=⟨_,rfl⟩
  rw [hxe] at hx
  simp only [hxe]
  cases n with
  |zero=>exact hx.elim
  |succ n=>
   have hm:=NW (V (n+1)) (show q<10 by omega)
   have hV:V (n+1)=1+20*V n:=rfl
   have ht:x.then'.length*V n≤10*V n:=Nat.mul_le_mul_right _ hx.2.2.2.1.1
   have hel:x.else'.length*V n≤10*V n:=Nat.mul_le_mul_right _ hx.2.2.2.1.2
   obtain ⟨x1,x2,x3,⟨x4,x5⟩,x6,x7⟩:=hx
   have hSc:Sc g fs lo':=⟨hg,hf,by omega⟩
   refine bV hin (bn (fun y =>∃a b ar,y=(g,fs,a,b,ar)∧ar.length=x.exprs.length∧∀z∈ar,WE 4 4 z) ?_ fun y ⟨a,b,ar,e,f1,f2⟩ => ?_)
   ·refine bC (fun s:Int×List aP×List ay×Int×Int×List bG =>∃a b ar,s=((ar.length:Int),g,fs,a,b,ar)∧ar.length≤x.exprs.length∧∀z∈ar,WE 4 4 z) (fun s=>(x.exprs.length-s.1).toNat) ⟨a,b,[],rfl,by simp,fun z h=>by cases h⟩ fun s ⟨a,b,ar,e,f1,f2⟩ => ?_
    subst e
    refine bI (fun hc => ?_) fun hc=>aA ⟨a,b,ar,rfl,?_,f2⟩
    rotate_left
    ·have hc:¬ (ar.length:Int)<x.exprs.length:=by simpa using hc
     omega
    have hc:(ar.length:Int)<x.exprs.length:=by simpa using hc
    have hin:=ak.2 (show 0≤(ar.length:Int)∧(ar.length:Int)<x.exprs.length from ⟨by omega,hc⟩)
    have hz:=x3 _ (kK iy (by omega) hc)
    refine bV hin (bn _ (Lh (by omega) 3 1048576 (by omega) _ hz) fun _ _=>bn (fun y =>∃a b,y=(g,fs,a,b)) ?_ fun y ⟨a,b,e⟩ => ?_)
    ·exact bI (fun _=>bV hin (qA fun _ _=>aA ⟨_,_,rfl⟩)) fun _=>aA ⟨_,_,rfl⟩
    subst e
    refine bV hin (bn _ (Le hSc 3 1048576 (by omega) _ hz a b) fun y ⟨k,o,v,i,nm,a,b,ar',e,hr⟩ => ?_)
    subst e
    refine bV (by unfold b_;simp;omega) (aA ⟨⟨a,b,ar++[bG.mk k o v i nm ar'],?_,by simp;omega,fun z h => ?_⟩,?_⟩)
    ·simp only [aN (x:=(ar.length:Int)+1) (by omega)];simp
    ·rcases List.mem_append.1 h with h | h
     ·exact f2 z h
     ·rw [List.mem_singleton] at h;subst h;exact hr
    ·simp only [aN (x:=(ar.length:Int)+1) (by omega)];omega
   subst e
   refine NV hSc fun w _=>bn (fun y =>∃a b lo2,y=(g,fs,a,b,lo2)∧lo2.length≤lo'.length+1) ?_ fun y ⟨a,b,lo2,e,f3⟩ => ?_
   ·refine bI (fun _=>bn (fun y =>∃a b,y=(g,fs,a,b)) ?_ fun y ⟨a,b,e⟩=>by subst e;exact bV (by unfold b_;simp;omega) (aA ⟨_,_,_,rfl,by simp⟩)) fun _=>bn (fun _=>True) ?_ fun u _=>bn (fun y =>∃a b,y=(g,fs,a,b)) ?_ fun y ⟨a,b,e⟩=>by subst e;exact aA ⟨_,_,_,rfl,by simp⟩
    ·exact bI (fun _=>qA fun _ _=>aA ⟨_,_,rfl⟩) fun _=>aA ⟨_,_,rfl⟩
    ·exact bI (fun _=>aA trivial) fun _=>aA trivial
    ·refine bI (fun _=>bn (fun y =>∃a b,y=(g,fs,a,b)) ?_ fun y ⟨a,b,e⟩=>by subst e;exact aA ⟨_,_,rfl⟩) fun _=>aA ⟨_,_,rfl⟩
     refine bI (fun _=>qA fun _ _=>aA ⟨_,_,rfl⟩) fun _=>bn (fun _=>True) ?_ fun u _=>bn (fun y =>∃a b,y=(g,fs,a,b)) ?_ fun y ⟨a,b,e⟩=>by subst e;exact aA ⟨_,_,rfl⟩
     ·exact bI (fun _=>bI (fun _=>bI (fun _=>aA trivial) fun _=>bI (fun _=>aA trivial) fun _=>aA trivial) fun _=>bI (fun _=>aA trivial) fun _=>aA trivial) fun _=>bI (fun _=>aA trivial) fun _=>aA trivial
     ·exact bI (fun _=>qA fun _ _=>aA ⟨_,_,rfl⟩) fun _=>aA ⟨_,_,rfl⟩
   subst e
   refine bn _ (DF hg hf n k (by omega) _ x4 x6 a b lo2 (by omega)) fun y ⟨a,b,s1,lo3,e,c1,c2,c3⟩ => ?_
   subst e
   refine bn _ (DF hg hf n k (by omega) _ x5 x7 a b lo3 (by omega)) fun y ⟨a,b,s2,lo4,e,d1,d2,d3⟩ => ?_
   subst e
   refine bV (by unfold b_;simp;omega) (aA ⟨⟨q+1,a,b,rs++[d_.mk x.kind x.line x.name ar s1 s2],lo4,?_,by omega,?_,fun s h => ?_,by omega⟩,?_⟩)
   ·show (cZ ((q:Int)+1),_)=_
    rw [aN (by omega)];rfl
   ·simp;exact e2
   ·rcases List.mem_append.1 h with h | h
    ·exact e3 s h
    ·rw [List.mem_singleton] at h;subst h
     exact ⟨by simp only;omega,fun h=>by have:=x2 h;simp only;omega,f2,⟨by simp only;omega,by simp only;omega⟩,c2,d2⟩
   ·show ((ss.length:Int)-cZ ((q:Int)+1)).toNat<((ss.length:Int)-q).toNat
    rw [aN (by omega)];omega
end
theorem vk {m h:Nat}:Src m h [] []:=⟨by simp,by simp,fun f h=>(by cases h),fun f h=>by cases h⟩
theorem Um {g:List aP} {fs:List ay} (h:Src 3 3 g fs):Ok (f41 g fs) fun y=>Src 4 4 y.2.2.1 y.2.2.2:=by
 have hg:=h.g;have hf:=h.f
 unfold f41
 refine bn (fun _=>True) ?_ fun s5 _=>bI (fun _=>aA vk) fun _ => ?_
 ·exact bI (fun _=>aA trivial) fun _=>aA trivial
 refine bn (fun _=>True) ?_ fun s5 _=>bI (fun _=>aA vk) fun _ => ?_
 ·refine bI (fun _=>aA trivial) fun hc => ?_
  have hin:inB (0:Int) fs.length=true:=ak.2 ⟨by omega,by simp at hc;cases fs with
   |nil=>exact absurd rfl hc
   |cons a l=>simp⟩
  exact bV hin (bI (fun _=>aA trivial) fun _=>bV hin (aA trivial))
 refine qX (fun _=>True) (nZ g.length (by omega) (fun i h0 h1=>goT (decide_eq_true h1) (bV (ak.2 ⟨h0,h1⟩) (bn _ (vg (by omega)) fun _ _=>bI (fun _=>aA vk) fun _=>aA rfl))) (BN (decide_eq_false (by omega)) (aA trivial))) fun _ _ => ?_
 refine qX (fun _=>True) (nZ fs.length (by omega) (fun i h0 h1=>goT (decide_eq_true h1) (bn (fun _=>True) ?_ fun s _=>bI (fun _=>bV (ak.2 ⟨h0,h1⟩) (aA vk)) fun _=>aA rfl)) (BN (decide_eq_false (by omega)) (aA trivial))) fun _ _ => ?_
 ·exact bV (ak.2 ⟨h0,h1⟩) (bn _ (vg (by omega)) fun _ _=>bI (fun _=>aA trivial) fun _=>bV (ak.2 ⟨h0,h1⟩) (bn _ (FZ (by omega)) fun _ _=>aA trivial))
 refine bV (by unfold b_;simp;omega) (qX (fun rs=>rs.length≤100∧(∀f∈rs,f.params.length≤2)∧∀f∈rs,f.body.length≤10∧∀s∈f.body,WS 4 4 3 s) ?_ fun rs ⟨r1,r2,r3⟩=>aA ⟨by simpa using hg,r1,r2,r3⟩)
 refine bC (fun s:Int×List ay=>(0≤s.1∧s.1≤fs.length)∧(s.2.length:Int)=s.1∧(∀f∈s.2,f.params.length≤2)∧∀f∈s.2,f.body.length≤10∧∀s∈f.body,WS 4 4 3 s) (fun s=>(fs.length-s.1).toNat) ⟨⟨by simp,by simp⟩,rfl,fun f h=>(by cases h),fun f h=>by cases h⟩ fun ⟨q,rs⟩ ⟨⟨e1,e2⟩,e3,e4,e5⟩ => ?_
 simp only at e1 e2 e3 e4 e5
 refine bI (fun hc => ?_) fun _=>aA ⟨by simp only;omega,e4,e5⟩
 have hc:q<fs.length:=by simpa using hc
 have hx:=kK gK e1 hc
 have hp:=h.ps _ hx
 obtain ⟨hb,hw⟩:=h.ws _ hx
 obtain ⟨f,hfe⟩ :∃f,fs.getD q.toNat gK=f:=⟨_,rfl⟩
 rw [hfe] at hx hp hb hw
 simp only [hfe]
 have hcap:(true&&decide ((List.length jV+f.params.length)*16≤140737488355328))=true:=by simp;omega
 refine bV (ak.2 ⟨e1,hc⟩) (bn (fun _=>True) ?_ fun _ _=>bI (fun _=>aA vk) fun _=>qX (fun _=>True) (nZ f.params.length (by omega) (fun i h0 h1=>goT (decide_eq_true h1) (bn (fun _=>True) ?_ fun s _=>bI (fun _=>aA vk) fun _=>aA rfl)) (BN (decide_eq_false (by omega)) (aA trivial))) fun _ _ => ?_)
 ·refine bI (fun _=>aA trivial) fun _=>bn (fun _=>True) ?_ fun _ _=>bI (fun _=>aA trivial) fun _=>bn _ (NY 3 1048576 (by omega) _ hb hw) fun _ _=>aA trivial
  unfold f35
  exact bV hcap (bn _ (F5 3 1048576 (by omega) _ hb hw _ (by simp [V];omega)) fun _ _=>aA trivial)
 ·exact bV (BD.2 ⟨⟨by omega,h0⟩,by omega⟩) (bV (ak.2 ⟨h0,h1⟩) (bn _ (abj (by simp;omega)) fun _ _=>bI (fun _=>aA trivial) fun _=>bV (ak.2 ⟨h0,h1⟩) (bn _ (QM (by omega) (by omega)) fun _ _=>aA trivial)))
 ·refine bV hcap (bn _ (DF (by omega) (by omega) 3 1048576 (by omega) _ hb hw 0 0 _ (by simp [V];omega)) fun y ⟨a,b,ss,lo',e,c1,c2,c3⟩ => ?_)
  subst e
  refine bI (fun _=>aA vk) fun _=>bV hcap (bV (by unfold b_;simp;omega) (aA ⟨⟨?_,?_,fun f hf => ?_,fun f hf => ?_⟩,?_⟩))
  ·simp only [aN (x:=q+1) (by omega)];omega
  ·simp only [aN (x:=q+1) (by omega)];simp;omega
  ·rcases List.mem_append.1 hf with h | h
   ·exact e4 f h
   ·rw [List.mem_singleton] at h;subst h;simpa using hp
  ·rcases List.mem_append.1 hf with h | h
   ·exact e5 f h
   ·rw [List.mem_singleton] at h;subst h;exact ⟨by simp only;omega,c2⟩
  ·simp only [aN (x:=q+1) (by omega)];omega
structure Bd (k:Nat) (at':Int) (bl:List aJ):Prop where
 at0:0≤at'
 Rf:at'<bl.length
 len:bl.length≤k
 ins :∀b∈bl,b.instrs.length≤k∧∀i∈b.instrs,i.args.length≤10
theorem Bd.up {k k':Nat} {a:Int} {bl:List aJ} (h:Bd k a bl) (hk:k≤k'):Bd k' a bl:=⟨h.at0,h.Rf,Nat.le_trans h.len hk,fun b hb=>⟨Nat.le_trans (h.ins b hb).1 hk,(h.ins b hb).2⟩⟩
section
variable {g:List aP} {fs:List ay} {lo:List (List UInt8)} {nu:Int}
theorem nD {β:Type} {k:Nat} {a a' re ln:Int} {bl:List aJ} {f} {Q:β→Prop} (h:Bd k a bl) (hk:k≤1000000000) (c :∀iI,iI.length=bl.length+1→Bd (k+1) bl.length iI→Ok (f ((bl.length:Int),g,fs,lo,nu,re,(bl.length:Int),iI)) Q) :
  Ok (Option.bind (f36 ln g fs lo nu re a' bl) f) Q:=by
 have hl:=h.len
 refine bn (fun y =>∃iI,y=((bl.length:Int),g,fs,lo,nu,re,(bl.length:Int),iI)∧iI.length=bl.length+1∧Bd (k+1) bl.length iI) (bV (by unfold b_;simp;omega) (aA ⟨bl++[_],rfl,by simp,⟨by omega,by simp;omega,by simp;omega,fun b hb => ?_⟩⟩)) fun y ⟨iI,e,h1,h2⟩=>by subst e;exact c iI h1 h2
 rcases List.mem_append.1 hb with hb | hb
 ·exact ⟨Nat.le_succ_of_le (h.ins b hb).1,(h.ins b hb).2⟩
 ·rw [List.mem_singleton] at hb;subst hb;exact ⟨Nat.zero_le _,fun i h=>by cases h⟩
theorem EY {β:Type} {k:Nat} {a re p0 p1 p2 p3 p4 p5:Int} {ar:List Int} {bl:List aJ} {f} {Q:β→Prop} (h:Bd k a bl) (hk:k≤1000000000) (ha:ar.length≤10) (c :∀iI,iI.length=bl.length→Bd (k+1) a iI→Ok (f (g,fs,lo,nu,re,a,iI)) Q) :
  Ok (Option.bind (f38 p0 p1 p2 p3 p4 p5 ar g fs lo nu re a bl) f) Q:=by
 have hl:=h.len
 have hin:=ak.2 ⟨h.at0,h.Rf⟩
 have hx:=h.ins _ (kK aj h.at0 h.Rf)
 refine bn (fun y =>∃iI,y=(g,fs,lo,nu,re,a,iI)∧iI.length=bl.length∧Bd (k+1) a iI) ?_ fun y ⟨iI,e,h1,h2⟩=>by subst e;exact c iI h1 h2
 unfold f38
 refine bn (fun y =>∃iI,y=(g,fs,lo,nu,re,a,iI)∧iI.length=bl.length∧Bd (k+1) a iI) ?_ fun y ⟨iI,e,h1,h2⟩=>by subst e;exact bV (by simp [h1]) (aA ⟨iI,rfl,h1,h2⟩)
 refine bV hin (bV ?_ (bV hin (bV (by simp) (aA ⟨_,rfl,by simp,⟨h.at0,by rw [List.length_set];exact h.Rf,by rw [List.length_set];omega,fun b hb => ?_⟩⟩))))
 ·show (true&&decide _)=true
  simp only [Bool.true_and,decide_eq_true_eq,List.length_singleton];omega
 ·rcases List.mem_or_eq_of_mem_set hb with hb | hb
  ·exact ⟨Nat.le_succ_of_le (h.ins b hb).1,(h.ins b hb).2⟩
  ·subst hb
   refine ⟨by rw [List.length_append,List.length_singleton];omega,fun i hi => ?_⟩
   rcases List.mem_append.1 hi with hi | hi
   ·exact hx.2 i hi
   ·rw [List.mem_singleton] at hi;subst hi;exact ha
theorem qB {β:Type} {k:Nat} {a re p0 p1 p2 p3 p4:Int} {bl:List aJ} {f} {Q:β→Prop} (h:Bd k a bl) (h0:0≤p0) (h1:p0<bl.length) (c :∀iI,iI.length=bl.length→Bd k a iI→Ok (f (g,fs,lo,nu,re,a,iI)) Q) :
  Ok (Option.bind (f39 p0 p1 p2 p3 p4 g fs lo nu re a bl) f) Q:=by
 have hx:=h.ins _ (kK aj h0 h1)
 refine bn (fun y =>∃iI,y=(g,fs,lo,nu,re,a,iI)∧iI.length=bl.length∧Bd k a iI) ?_ fun y ⟨iI,e,h1,h2⟩=>by subst e;exact c iI h1 h2
 unfold f39
 refine bn (fun y =>∃iI,y=(g,fs,lo,nu,re,a,iI)∧iI.length=bl.length∧Bd k a iI) ?_ fun y ⟨iI,e,h1,h2⟩=>by subst e;exact bV (by simp [h1]) (aA ⟨iI,rfl,h1,h2⟩)
 refine bV (ak.2 ⟨h0,h1⟩) (aA ⟨_,rfl,by simp,⟨h.at0,by rw [List.length_set];exact h.Rf,by rw [List.length_set];exact h.len,fun b hb => ?_⟩⟩)
 rcases List.mem_or_eq_of_mem_set hb with hb | hb
 ·exact h.ins b hb
 ·subst hb;exact hx
theorem Wh {β:Type} {nm:List UInt8} {re a:Int} {bl:List aJ} {f} {Q:β→Prop} (hl:lo.length≤1000000) (c :∀q,Ok (f (q,g,fs,lo,nu,re,a,bl)) Q):Ok (Option.bind (f69 nm g fs lo nu re a bl) f) Q:=by
 refine bn (fun y =>∃q,y=(q,g,fs,lo,nu,re,a,bl)) ?_ fun y ⟨q,e⟩=>by subst e;exact c q
 refine bn (fun y =>∃q,y=(q,g,fs,lo,nu,re,a,bl)) ?_ fun y ⟨q,e⟩=>by subst e;exact goK rfl (aA ⟨q,rfl⟩)
 unfold agO
 refine bn (fun y =>∃q,y=(q,g,fs,lo,nu,re,a,bl)) ?_ fun y ⟨q,e⟩=>by subst e;exact bV (by simp) (aA ⟨q,rfl⟩)
 exact qX (fun _=>True) (nZ lo.length (by omega) (fun i h0 h1=>goT (decide_eq_true h1) (bV (ak.2 ⟨h0,h1⟩) (bI (fun _=>aA ⟨_,rfl⟩) fun _=>aA rfl))) (BN (decide_eq_false (by omega)) (aA trivial))) fun _ _=>aA ⟨_,rfl⟩
def PV (k m:Nat) (g:List aP) (fs:List ay) (lo:List (List UInt8)) (nu:Int) (y:List aP×List ay×List (List UInt8)×Int×Int×Int×List aJ):Prop:=
 ∃re a bl,y=(g,fs,lo,nu,re,a,bl)∧m≤bl.length∧Bd k a bl
def CX:Nat→Nat
 |0=>0
 |n+1=>4*CX n+6
theorem goV {β:Type} {rec:Yh} {c:Nat} {x:bG} {t a re:Int} {k:Nat} {bl:List aJ} {f} {Q:β→Prop} (hr :∀t re a bl k,Bd k a bl→k+c≤1000000000→Ok (rec x.kind x.op x.value x.line x.name x.args t g fs lo nu re a bl) (PV (k+c) bl.length g fs lo nu))
  (h:Bd k a bl) (hk:k+c≤1000000000) (q :∀re' a' iI,bl.length≤iI.length→Bd (k+c) a' iI→Ok (f (g,fs,lo,nu,re',a',iI)) Q):Ok (Option.bind (rec x.kind x.op x.value x.line x.name x.args t g fs lo nu re a bl) f) Q:=
 bn _ (hr t re a bl k h hk) fun y ⟨re',a',iI,e,h1,h2⟩=>by subst e;exact q re' a' iI h1 h2
theorem X9 {rec:Yh} {rec':T85} {tY:T86} {n:Nat} {p0 p1 p2 p3 t re a:Int} {p4:List UInt8} {ar:List bG} (har:2≤ar.length∧ar.length≤4)
  (hr :∀x∈ar,∀t re a bl k,Bd k a bl→k+CX n≤1000000000→Ok (rec x.kind x.op x.value x.line x.name x.args t g fs lo nu re a bl) (PV (k+CX n) bl.length g fs lo nu))
  {bl:List aJ} {k:Nat} (h:Bd k a bl) (hk:k+CX (n+1)≤1000000000):Ok (adu rec rec' tY p0 p1 p2 p3 p4 ar t g fs lo nu re a bl) (PV (k+CX (n+1)) bl.length g fs lo nu):=by
 have hc:CX (n+1)=4*CX n+6:=rfl
 have m0:ar.getD (Int.toNat 0) iy∈ar:=kK iy (by omega) (by omega)
 have m1:ar.getD (Int.toNat 1) iy∈ar:=kK iy (by omega) (by omega)
 unfold adu
 refine bV (ak.2 ⟨by omega,by omega⟩) (goV (hr _ m0) h (by omega) fun re1 a1 b1 l1 h1=>nD h1 (by omega) fun b2 l2 h2=>bV (ak.2 ⟨by omega,by omega⟩) (goV (hr _ m1) h2 (by omega) fun re3 a3 b3 l3 h3=>nD h3 (by omega) fun b4 l4 h4=>EY h4 (by omega) (by simp) fun b5 l5 h5=>nD h5 (by omega) fun b6 l6 h6=>EY h6 (by omega) (by simp) fun b7 l7 h7=>nD h7 (by omega) fun b8 l8 h8 => ?_))
 simp only at l1 l2 l3 l4 l5 l6 l7 l8
 refine qB h8 h3.at0 (by have:=h3.Rf;simp only;omega) fun b9 l9 h9=>bn (fun y =>∃iI,y=(g,fs,lo,nu,re3,(b7.length:Int),iI)∧iI.length=b9.length∧Bd (k+CX n+1+CX n+1+1+1+1+1) b7.length iI) ?_ fun y ⟨b10,e,l10,h10⟩ => ?_
 ·exact bI (fun _=>qB h9 h1.at0 (by have:=h1.Rf;simp only at l9 ⊢;omega) fun b l h=>aA ⟨b,rfl,l,h⟩) fun _=>qB h9 h1.at0 (by have:=h1.Rf;simp only at l9 ⊢;omega) fun b l h=>aA ⟨b,rfl,l,h⟩
 subst e
 simp only at l9
 exact qB h10 (by simp only;omega) (by simp only;omega) fun b11 l11 h11=>qB h11 (by simp only;omega) (by simp only at l11 ⊢;omega) fun b12 l12 h12=>aA ⟨_,_,b12,rfl,by simp only at l11 l12;omega,h12.up (by omega)⟩
theorem QN {rec:Yh} {rec':T85} {tY:T86} {n:Nat} {t re a:Int} {ar:List bG} (har:ar.length≤4)
  (hr :∀x∈ar,∀t re a bl k,Bd k a bl→k+CX n≤1000000000→Ok (rec x.kind x.op x.value x.line x.name x.args t g fs lo nu re a bl) (PV (k+CX n) bl.length g fs lo nu))
  {bl:List aJ} {k:Nat} (h:Bd k a bl) (hk:k+4*CX n≤1000000000):Ok (adv rec rec' tY ar t g fs lo nu re a bl) fun y =>∃re a rs iI,y=(g,fs,lo,nu,re,a,rs,iI)∧rs.length=ar.length∧bl.length≤iI.length∧Bd (k+4*CX n) a iI:=by
 unfold adv
 refine bn (fun y =>∃re a rs iI,y=(g,fs,lo,nu,re,a,rs,iI)∧rs.length=ar.length∧bl.length≤iI.length∧Bd (k+4*CX n) a iI) ?_ fun y ⟨re,a,rs,iI,e,h⟩=>by subst e;exact aA ⟨re,a,rs,iI,rfl,h⟩
 refine bC (fun s:Int×List aP×List ay×List (List UInt8)×Int×Int×Int×List Int×List aJ =>∃q:Nat,∃re a rs iI,s=((q:Int),g,fs,lo,nu,re,a,rs,iI)∧rs.length=q∧q≤ar.length∧bl.length≤iI.length∧Bd (k+q*CX n) a iI) (fun s=>(ar.length-s.1).toNat)
  ⟨0,re,a,[],bl,rfl,rfl,by omega,Nat.le_refl _,h.up (by omega)⟩ fun s ⟨q,re,a,rs,iI,e,h1,h2,h3,h4⟩ => ?_
 subst e
 refine bI (fun hc => ?_) fun hc=>aA ⟨re,a,rs,iI,rfl,?_,h3,h4.up (Nat.add_le_add_left (Nat.mul_le_mul_right _ (by omega)) _)⟩
 rotate_left
 ·have hc:¬ (q:Int)<ar.length:=by simpa using hc
  omega
 have hc:(q:Int)<ar.length:=by simpa using hc
 have hm:=NW (CX n) (show q<4 by omega)
 refine bV (ak.2 ⟨by simp only;omega,hc⟩) (goV (hr _ (kK iy (by omega) hc)) h4 (by omega) fun re' a' bl2 l2 h5=>bV (by unfold b_;simp;omega) (aA ⟨⟨q+1,re',a',rs++[cZ (t+q)],bl2,?_,?_,by omega,by simp only at l2;omega,?_⟩,?_⟩))
 ·show (cZ ((q:Int)+1),_)=_
  rw [aN (by omega)];rfl
 ·simp [h1]
 ·exact h5.up (by omega)
 ·show ((ar.length:Int)-cZ ((q:Int)+1)).toNat<((ar.length:Int)-q).toNat
  rw [aN (by omega)];omega
theorem sF {k m:Nat} {x:Option (List aP×List ay×List (List UInt8)×Int×Int×Int×List aJ)} (h:Ok x (PV k m g fs lo nu)):Ok (Option.bind x fun s=>some (s.1,s.2.1,s.2.2.1,s.2.2.2.1,s.2.2.2.2.1,s.2.2.2.2.2.1,s.2.2.2.2.2.2)) (PV k m g fs lo nu):=
 bn _ h fun y ⟨re,a,bl,e,h⟩=>by subst e;exact aA ⟨re,a,bl,rfl,h⟩
theorem Un {rec:Yh} {rec':T85} {tY:T86} {n:Nat} (hS:Sc g fs lo) {x:bG} (hx:WE 4 (n+1) x) {t re a:Int} {bl:List aJ} {k:Nat} (h:Bd k a bl) (hk:k+CX (n+1)≤1000000000)
  (hl:2≤x.args.length→∀re,Ok (rec' x.kind x.op x.value x.line x.name x.args t g fs lo nu re a bl) (PV (k+CX (n+1)) bl.length g fs lo nu))
  (hv :∀re,Ok (tY x.args t g fs lo nu re a bl) fun y =>∃re a rs iI,y=(g,fs,lo,nu,re,a,rs,iI)∧rs.length=x.args.length∧bl.length≤iI.length∧Bd (k+4*CX n) a iI) :
  Ok (adt rec rec' tY x.kind x.op x.value x.line x.name x.args t g fs lo nu re a bl) (PV (k+CX (n+1)) bl.length g fs lo nu):=by
 have hc:CX (n+1)=4*CX n+6:=rfl
 obtain ⟨w1,w2,w3,w4⟩:=hx
 unfold adt
 refine bn (fun s=>s=true→x.kind=7∨x.kind=8) ?_ fun s hs=>bI (fun e=>sF (hl (w2 (hs e)) _)) fun _=>bn _ (hv _) fun y ⟨re,a,rs,iI,e,l1,l2,h'⟩ => ?_
 ·exact bI (fun e=>aA fun _=>.inl (by simpa using e)) fun _=>aA fun e=>.inr (by simpa using e)
 subst e
 have put :∀{p0 p1 p2 p3 p4 p5:Int} {ar:List Int},ar.length≤10→Ok (f38 p0 p1 p2 p3 p4 p5 ar g fs lo nu re a iI) (PV (k+CX (n+1)) bl.length g fs lo nu):=fun {p0 p1 p2 p3 p4 p5 ar} har=>by
  have:=EY (g:=g) (fs:=fs) (lo:=lo) (nu:=nu) (re:=re) (p0:=p0) (p1:=p1) (p2:=p2) (p3:=p3) (p4:=p4) (p5:=p5) (ar:=ar) (f:=some) (Q:=PV (k+CX (n+1)) bl.length g fs lo nu) h' (by omega) har fun b l h=>aA ⟨re,a,b,rfl,by omega,h.up (by omega)⟩
  rwa [show∀z:Option (List aP×List ay×List (List UInt8)×Int×Int×Int×List aJ),Option.bind z some=z from fun z=>by cases z<;>rfl] at this
 refine sF (bI (fun _=>sF (put (by simp))) fun _=>sF (bI (fun _=>Wh hS.lo fun q=>sF (put (by simp))) fun _=>sF (bI (fun _=>bn _ (vg hS.g) fun _ _=>sF (put (by simp))) fun _=>sF (bI (fun _=>bn _ (vg hS.g) fun _ _=>sF (put (by simp))) fun _=>
  sF (bI (fun _=>sF (put (by simp))) fun _=>sF (bI (fun _=>sF (put (by simp))) fun _=>sF (bI (fun _=>bn _ (FZ hS.f) fun _ _=>sF (put (by simp only;omega))) fun _=>sF (bI (fun e => ?_) fun _=>sF (bI (fun _=>bn _ (FZ hS.f) fun _ _=>sF (put (by simp))) fun _=>sF (bI (fun _=>sF (put (by simp))) fun _=>aA ⟨re,a,iI,rfl,l2,h'.up (by omega)⟩))))))))))
 have:=w3 (by simpa using e)
 exact bV (BD.2 ⟨⟨by omega,by simp only;omega⟩,by simp only;omega⟩) (sF (put (by simp;omega)))
theorem abo (n:Nat):(jf (n+1)).1=adt (aaC n) (agU n) (agV n):=rfl
theorem abp (n:Nat):(jf (n+1)).2.1=adu (aaC n) (agU n) (agV n):=rfl
theorem abq (n:Nat):(jf (n+1)).2.2=adv (aaC n) (agU n) (agV n):=rfl
theorem Wi (hS:Sc g fs lo) :∀n k:Nat,2*n≤k→∀x,WE 4 n x→∀t re a bl q,Bd q a bl→q+CX n≤1000000000→Ok (aaC k x.kind x.op x.value x.line x.name x.args t g fs lo nu re a bl) (PV (q+CX n) bl.length g fs lo nu)
 |0,_,_=>fun _ h=>h.elim
 |n+1,0,hk=>by omega
 |n+1,1,hk=>by omega
 |n+1,k+2,hk=>fun x hx t re a bl q hb hq=>by
  have ih:=Wi hS n k (by omega)
  have hc:CX (n+1)=4*CX n+6:=rfl
  show Ok ((jf (k+2)).1 x.kind x.op x.value x.line x.name x.args t g fs lo nu re a bl) _
  rw [abo]
  refine Un hS hx hb hq (fun h2 re => ?_) fun re => ?_
  ·show Ok ((jf (k+1)).2.1 x.kind x.op x.value x.line x.name x.args t g fs lo nu re a bl) _
   rw [abp]
   exact X9 ⟨h2,hx.1⟩ (fun z hz=>ih z (hx.2.2.2 z hz)) hb hq
  ·show Ok ((jf (k+1)).2.2 x.args t g fs lo nu re a bl) _
   rw [abq]
   exact QN hx.1 (fun z hz=>ih z (hx.2.2.2 z hz)) hb (by omega)
end
def CS:Nat→Nat
 |0=>0
 |n+1=>20*CS n+1030
section
variable {g:List aP} {fs:List ay} {lo:List (List UInt8)} {nu:Int}
def PW (k m:Nat) (g:List aP) (fs:List ay) (lo:List (List UInt8)) (nu:Int) (y:Bool×List aP×List ay×List (List UInt8)×Int×Int×Int×List aJ):Prop:=
 ∃t re a bl,y=(t,g,fs,lo,nu,re,a,bl)∧m≤bl.length∧Bd k a bl
theorem aku {β:Type} {x:bG} {t a re:Int} {k:Nat} {bl:List aJ} {f} {Q:β→Prop} (hS:Sc g fs lo) (hx:WE 4 4 x) (h:Bd k a bl) (hk:k+510≤1000000000) (q :∀re' a' iI,bl.length≤iI.length→Bd (k+510) a' iI→Ok (f (g,fs,lo,nu,re',a',iI)) Q) :
  Ok (Option.bind (f68 x.kind x.op x.value x.line x.name x.args t g fs lo nu re a bl) f) Q:=
 goV (rec:=f68) (c:=510) (fun t re a bl k h hk=>Wi hS 4 1048576 (by omega) x hx t re a bl k h hk) h hk q
theorem aho {β:Type} {rec:Yi} {c:Nat} {ss:List d_} {a re:Int} {k:Nat} {bl:List aJ} {f} {Q:β→Prop} (hr :∀re a bl k,Bd k a bl→k+c≤1000000000→Ok (rec ss g fs lo nu re a bl) (PW (k+c) bl.length g fs lo nu))
  (h:Bd k a bl) (hk:k+c≤1000000000) (q :∀t re' a' iI,bl.length≤iI.length→Bd (k+c) a' iI→Ok (f (t,g,fs,lo,nu,re',a',iI)) Q):Ok (Option.bind (rec ss g fs lo nu re a bl) f) Q:=
 bn _ (hr re a bl k h hk) fun y ⟨t,re',a',iI,e,h1,h2⟩=>by subst e;exact q t re' a' iI h1 h2
theorem Uo {rec:Yi} {rec':T47} {QO:T67} {QS:T70} {c:Nat} {p0 p1 t re a:Int} {nm:List UInt8} {es:List bG} {th el:List d_} (hS:Sc g fs lo) (he:1≤es.length) (hw :∀x∈es,WE 4 4 x)
  (hr :∀re a bl k,Bd k a bl→k+c≤1000000000→Ok (rec th g fs lo nu re a bl) (PW (k+c) bl.length g fs lo nu)) {bl:List aJ} {k:Nat} (h:Bd k a bl) (hk:k+c+520≤1000000000) :
  Ok (adN rec rec' QO QS p0 p1 nm es th el t g fs lo nu re a bl) (PV (k+c+520) bl.length g fs lo nu):=by
 have m0:es.getD (Int.toNat 0) iy∈es:=kK iy (by omega) (by omega)
 have ha:=h.Rf;have ha0:=h.at0
 unfold adN
 refine nD h (by omega) fun b1 l1 h1=>qB h1 ha0 (by simp only;omega) fun b2 l2 h2=>bV (ak.2 ⟨by omega,by omega⟩) (aku hS (hw _ m0) h2 (by omega) fun re3 a3 b3 l3 h3=>nD h3 (by omega) fun b4 l4 h4=>aho hr h4 (by omega) fun u re5 a5 b5 l5 h5 => ?_)
 have e1:=h3.at0;have e2:=h3.Rf
 simp only at l2 l3 l4 l5
 refine bn (fun y =>∃iI,y=(g,fs,lo,nu,re5,a5,iI)∧iI.length=b5.length∧Bd (k+1+510+1+c) a5 iI) ?_ fun y ⟨b6,e,l6,h6⟩ => ?_
 ·exact bI (fun _=>qB h5 h5.at0 h5.Rf fun b l h=>aA ⟨b,rfl,l,h⟩) fun _=>aA ⟨b5,rfl,rfl,h5⟩
 subst e
 exact nD h6 (by omega) fun b7 l7 h7=>qB h7 e1 (by simp only at l7 ⊢;omega) fun b8 l8 h8=>aA ⟨_,_,b8,rfl,by simp only at l7 l8;omega,h8.up (by omega)⟩
theorem QT {rec:Yi} {rec':T47} {QO:T67} {QS:T70} {c:Nat} {p0 p1 t re a:Int} {nm:List UInt8} {es:List bG} {th el:List d_}
  (hr :∀re a bl k,Bd k a bl→k+c≤1000000000→Ok (rec th g fs lo nu re a bl) (PW (k+c) bl.length g fs lo nu)) (hr' :∀re a bl k,Bd k a bl→k+c≤1000000000→Ok (rec el g fs lo nu re a bl) (PW (k+c) bl.length g fs lo nu))
  {bl:List aJ} {k:Nat} (h:Bd k a bl) (hk:k+c+c+3≤1000000000):Ok (adO rec rec' QO QS p0 p1 nm es th el t g fs lo nu re a bl) (PW (k+c+c+3) bl.length g fs lo nu):=by
 have ha:=h.Rf;have ha0:=h.at0
 unfold adO
 refine nD h (by omega) fun b1 l1 h1=>aho hr h1 (by omega) fun u re2 a2 b2 l2 h2 => ?_
 have e1:=h2.at0;have e2:=h2.Rf
 simp only at l1 l2
 refine bI (fun _=>nD h2 (by omega) fun b3 l3 h3=>qB h3 ha0 (by simp only at l3 ⊢;omega) fun b4 l4 h4 => ?_) fun _=>nD h2 (by omega) fun b3 l3 h3=>qB h3 ha0 (by simp only at l3 ⊢;omega) fun b4 l4 h4=>aho hr' h4 (by omega) fun u' re5 a5 b5 l5 h5 => ?_
 ·simp only at l3 l4
  refine bn (PV (k+c+c+3) bl.length g fs lo nu) ?_ fun y ⟨re,a,b,e,l,h⟩=>by subst e;exact aA ⟨true,re,a,b,rfl,l,h⟩
  exact bI (fun _=>qB h4 e1 (by simp only;omega) fun b l h=>aA ⟨_,_,b,rfl,by simp only at l;omega,h.up (by omega)⟩) fun _=>aA ⟨_,_,b4,rfl,by omega,h4.up (by omega)⟩
 ·have e3:=h5.at0;have e4:=h5.Rf
  simp only at l3 l4 l5
  refine bn (fun _=>True) ?_ fun s _=>bI (fun _=>aA ⟨false,_,_,b5,rfl,by omega,h5.up (by omega)⟩) fun _=>nD h5 (by omega) fun b6 l6 h6 => ?_
  ·exact bI (fun _=>aA trivial) fun _=>aA trivial
  simp only at l6
  refine bn (fun y =>∃iI,y=(g,fs,lo,nu,re5,(b5.length:Int),iI)∧iI.length=b6.length∧Bd (k+1+c+1+c+1) b5.length iI) ?_ fun y ⟨b7,e,l7,h7⟩ => ?_
  ·exact bI (fun _=>qB h6 e1 (by simp only;omega) fun b l h=>aA ⟨b,rfl,l,h⟩) fun _=>aA ⟨b6,rfl,rfl,h6⟩
  subst e
  refine bn (PV (k+c+c+3) bl.length g fs lo nu) ?_ fun y ⟨re,a,b,e,l,h⟩=>by subst e;exact aA ⟨true,re,a,b,rfl,l,h⟩
  exact bI (fun _=>qB h7 e3 (by simp only;omega) fun b l h=>aA ⟨_,_,b,rfl,by simp only at l;omega,h.up (by omega)⟩) fun _=>aA ⟨_,_,b7,rfl,by omega,h7.up (by omega)⟩
theorem Ur {rec:Yi} {rec':T47} {QO:T67} {QS:T70} {c:Nat} {x:d_} {re a:Int} (hS:Sc g fs lo) (he:x.exprs.length≤2) (hw :∀z∈x.exprs,WE 4 4 z) {bl:List aJ} {k:Nat} (h:Bd k a bl) (hk:k+c+1030≤1000000000)
  (h5:x.kind=5→∀t,Ok (QO x.kind x.line x.name x.exprs x.then' x.else' t g fs lo nu re a bl) (PV (k+c+1030) bl.length g fs lo nu))
  (h4 :∀t re a b,bl.length≤b.length→Bd (k+1020) a b→Ok (QS x.kind x.line x.name x.exprs x.then' x.else' t g fs lo nu re a b) (PW (k+c+1030) bl.length g fs lo nu)) :
  Ok (adM rec rec' QO QS x.kind x.line x.name x.exprs x.then' x.else' g fs lo nu re a bl) (PW (k+c+1030) bl.length g fs lo nu):=by
 unfold adM
 refine bI (fun e=>bn _ (h5 (by simpa using e) _) fun y ⟨re,a,b,e,l,h⟩=>by subst e;exact aA ⟨true,re,a,b,rfl,l,h⟩) fun _=>bn (PV (k+1020) bl.length g fs lo nu) ?_ fun y ⟨re,a,b,e,l,h⟩ => ?_
 ·refine bC (fun s:Int×List aP×List ay×List (List UInt8)×Int×Int×Int×List aJ =>∃q:Nat,∃re a b,s=((q:Int),g,fs,lo,nu,re,a,b)∧q≤x.exprs.length∧bl.length≤b.length∧Bd (k+q*510) a b) (fun s=>(x.exprs.length-s.1).toNat)
   ⟨0,re,a,bl,rfl,by omega,Nat.le_refl _,h.up (by omega)⟩ fun s ⟨q,re,a,b,e,h1,h2,h3⟩ => ?_
  subst e
  refine bI (fun hc => ?_) fun _=>aA ⟨re,a,b,rfl,h2,h3.up (by omega)⟩
  have hc:(q:Int)<x.exprs.length:=by simpa using hc
  refine bV (ak.2 ⟨by simp only;omega,hc⟩) (aku hS (hw _ (kK iy (by omega) hc)) h3 (by omega) fun re' a' b' l' h'=>aA ⟨⟨q+1,re',a',b',?_,by omega,by simp only at l';omega,h'.up (by omega)⟩,?_⟩)
  ·show (cZ ((q:Int)+1),_)=_
   rw [aN (by omega)];rfl
  ·show ((x.exprs.length:Int)-cZ ((q:Int)+1)).toNat<((x.exprs.length:Int)-q).toNat
   rw [aN (by omega)];omega
 subst e
 have hq:=fun (re:Int) (b':List aJ) (l':b'.length=b.length) (h':Bd (k+1020+1) a b')=>show PV (k+c+1030) bl.length g fs lo nu (g,fs,lo,nu,re,a,b') from ⟨re,a,b',rfl,by omega,h'.up (by omega)⟩
 have hk':k+1020≤1000000000:=by omega
 refine bn (fun _=>True) ?_ fun _ _=>qX (PV (k+c+1030) bl.length g fs lo nu) ?_ fun y ⟨re,a,b,e,l,h⟩=>by subst e;exact aA ⟨true,re,a,b,rfl,l,h⟩
 ·exact bI (fun _=>aA trivial) fun _=>aA trivial
 refine bI (fun _=>Wh hS.lo fun q=>bn (PV (k+c+1030) bl.length g fs lo nu) ?_ fun y ⟨re,a,b,e,l,h⟩=>by subst e;exact aA ⟨re,a,b,rfl,l,h⟩) fun _=>qX (PV (k+c+1030) bl.length g fs lo nu) ?_ fun y ⟨re,a,b,e,l,h⟩=>by subst e;exact aA ⟨re,a,b,rfl,l,h⟩
 ·exact bI (fun _=>EY h hk' (by simp) fun b' l' h'=>aA (hq _ b' l' h')) fun _=>bn _ (vg hS.g) fun _ _=>EY h hk' (by simp) fun b' l' h'=>aA (hq _ b' l' h')
 refine bI (fun _=>bn _ (vg hS.g) fun _ _=>EY h hk' (by simp) fun b' l' h'=>aA (hq _ b' l' h')) fun _ => ?_
 refine bI (fun _=>qB h h.at0 h.Rf fun b' l' h'=>aA ⟨false,_,_,b',rfl,by simp only at l';omega,h'.up (by omega)⟩) fun _=>qX (PV (k+c+1030) bl.length g fs lo nu) ?_ fun y ⟨re,a,b,e,l,h⟩=>by subst e;exact aA ⟨re,a,b,rfl,l,h⟩
 exact bI (fun _=>EY h hk' (by simp) fun b' l' h'=>aA (hq _ b' l' h')) fun _=>bI (fun _=>bn _ (h4 _ re a b l h) fun y ⟨t,re,a,b,e,l,h⟩=>by subst e;exact aA ⟨t,re,a,b,rfl,l,h⟩) fun _=>aA ⟨re,a,b,rfl,l,h.up (by omega)⟩
theorem EZ {rec:Yi} {rec':T47} {QO:T67} {QS:T70} {c:Nat} {ss:List d_} (hs:ss.length≤10)
  (hr :∀x∈ss,∀re a bl k,Bd k a bl→k+c≤1000000000→Ok (rec' x.kind x.line x.name x.exprs x.then' x.else' g fs lo nu re a bl) (PW (k+c) bl.length g fs lo nu)) {re a:Int} {bl:List aJ} {k:Nat} (h:Bd k a bl) (hk:k+10*c≤1000000000) :
  Ok (adL rec rec' QO QS ss g fs lo nu re a bl) (PW (k+10*c) bl.length g fs lo nu):=by
 unfold adL
 refine qX (PV (k+10*c) bl.length g fs lo nu) ?_ fun y ⟨re,a,b,e,l,h⟩=>by subst e;exact aA ⟨true,re,a,b,rfl,l,h⟩
 refine bC (fun s:Int×List aP×List ay×List (List UInt8)×Int×Int×Int×List aJ =>∃q:Nat,∃re a b,s=((q:Int),g,fs,lo,nu,re,a,b)∧q≤ss.length∧bl.length≤b.length∧Bd (k+q*c) a b) (fun s=>(ss.length-s.1).toNat)
  ⟨0,re,a,bl,rfl,by omega,Nat.le_refl _,h.up (by omega)⟩ fun s ⟨q,re,a,b,e,h1,h2,h3⟩ => ?_
 subst e
 refine bI (fun hc => ?_) fun _=>aA ⟨re,a,b,rfl,h2,h3.up (Nat.add_le_add_left (Nat.mul_le_mul_right _ (by omega)) _)⟩
 have hc:(q:Int)<ss.length:=by simpa using hc
 have hm:=NW c (show q<10 by omega)
 refine bV (ak.2 ⟨by simp only;omega,hc⟩) (bn _ (hr _ (kK jW (by omega) hc) re a b _ h3 (by omega)) fun y ⟨t,re',a',b',e,l',h'⟩ => ?_)
 subst e
 refine bI (fun _=>aA ⟨false,re',a',b',rfl,by omega,h'.up (by omega)⟩) fun _=>aA ⟨⟨q+1,re',a',b',?_,by omega,by omega,h'.up (by omega)⟩,?_⟩
 ·show (cZ ((q:Int)+1),_)=_
  rw [aN (by omega)];rfl
 ·show ((ss.length:Int)-cZ ((q:Int)+1)).toNat<((ss.length:Int)-q).toNat
  rw [aN (by omega)];omega
theorem QU (n:Nat):(fG (n+1)).1=adL (XU n) (adP n) (adQ n) (adR n):=rfl
theorem abr (n:Nat):(fG (n+1)).2.1=adM (XU n) (adP n) (adQ n) (adR n):=rfl
theorem abt (n:Nat):(fG (n+1)).2.2.1=adN (XU n) (adP n) (adQ n) (adR n):=rfl
theorem abu (n:Nat):(fG (n+1)).2.2.2=adO (XU n) (adP n) (adQ n) (adR n):=rfl
theorem Wj (hS:Sc g fs lo) :∀n k:Nat,3*n+1≤k→∀ss:List d_,ss.length≤10→(∀s∈ss,WS 4 4 n s)→∀re a bl q,Bd q a bl→q+10*CS n≤1000000000→Ok (XU k ss g fs lo nu re a bl) (PW (q+10*CS n) bl.length g fs lo nu)
 |_,0,hk=>by omega
 |0,k+1,hk=>fun ss hs hw re a bl q hb hq=>by
  show Ok ((fG (k+1)).1 ss g fs lo nu re a bl) _
  rw [QU]
  exact EZ hs (fun x hx=>(hw x hx).elim) hb hq
 |n+1,1,hk=>by omega
 |n+1,2,hk=>by omega
 |n+1,k+3,hk=>fun ss hs hw re a bl q hb hq=>by
  have ih:=Wj hS n k (by omega)
  have hc:CS (n+1)=20*CS n+1030:=rfl
  show Ok ((fG (k+3)).1 ss g fs lo nu re a bl) _
  rw [QU]
  refine EZ hs (fun x hx re a bl q hb hq => ?_) hb hq
  obtain ⟨x1,x2,x3,⟨x4,x5⟩,x6,x7⟩:=hw x hx
  show Ok ((fG (k+2)).2.1 x.kind x.line x.name x.exprs x.then' x.else' g fs lo nu re a bl) _
  rw [abr,hc,←Nat.add_assoc]
  refine Ur hS x1 x3 hb (by omega) (fun h5 t => ?_) fun t re a b hl hb' => ?_
  ·show Ok ((fG (k+1)).2.2.1 x.kind x.line x.name x.exprs x.then' x.else' t g fs lo nu re a bl) _
   rw [abt]
   exact kQ (Uo hS (x2 h5) x3 (c:=10*CS n) (fun re a bl q hb hq=>ih _ x4 x6 re a bl q hb hq) hb (by omega)) fun y ⟨re,a,b,e,l,h⟩=>⟨re,a,b,e,l,h.up (by omega)⟩
  ·show Ok ((fG (k+1)).2.2.2 x.kind x.line x.name x.exprs x.then' x.else' t g fs lo nu re a b) _
   rw [abu]
   exact kQ (QT (c:=10*CS n) (fun re a bl q hb hq=>ih _ x4 x6 re a bl q hb hq) (fun re a bl q hb hq=>ih _ x5 x7 re a bl q hb hq) hb' (by omega)) fun y ⟨t,re,a,b,e,l,h⟩=>⟨t,re,a,b,e,by omega,h.up (by omega)⟩
end
section
variable {g:List aP} {fs:List aV}
theorem aeB {k o d a b v:Int} {ar:List Int} (h:ar.length≤10):Ok (f87 k o d a b v ar) fun y=>y.length≤11:=by
 unfold f87
 refine bn (fun _=>True) ?_ fun s _=>bI (fun _=>aA (by simp)) fun _=>bn (fun _=>True) ?_ fun s _=>bI (fun _=>aA (by simp)) fun _=>bI (fun _=>bV (by unfold b_;simp;omega) (aA (by simp;omega))) fun _=>bI (fun _=>bV (by unfold b_;simp;omega) (aA (by simp;omega))) fun _=>aA (by simp)
 all_goals repeat' first | exact aA trivial | refine bI (fun _ => ?_) (fun _ => ?_) | refine bn (fun _=>True) ?_ (fun _ _ => ?_)
theorem ahp {k o d a b v:Int} {ar:List Int}:Ok (f88 k o d a b v ar) fun _=>True:=by
 unfold f88
 repeat' first | exact aA trivial | refine bI (fun _ => ?_) (fun _ => ?_) | refine bn (fun _=>True) ?_ (fun _ _ => ?_)
theorem Lj {a b v:Int} {p:Bool}:Ok (f89 g fs a b v p) fun _=>True:=by
 unfold f89
 refine bn (fun _=>True) (bI (fun h0=>bI (fun h1=>bV (ak.2 ⟨by simpa using h0,by simpa using h1⟩) (aA trivial)) fun _=>aA trivial) fun _=>aA trivial) fun _ _=>aA trivial
theorem abv {n:Nat} {v:Int} {x:Option Bool} (h:x=(bif decide (v<0) then some true else some (decide ((n:Int)≤v)))):Ok x fun s=>s=false→0≤v∧v<n:=by
 subst h
 refine bI (fun _=>aA fun e=>by cases e) fun h=>aA fun e => ?_
 simp only [decide_eq_false_iff_not] at h e
 omega
theorem instrC_ok {a b:Int} {nm:List UInt8} {pa re:Int} {bl:List aJ} {k o d x y v:Int} {ar:List Int} (h:ar.length≤10):Ok (f72 g fs a b nm pa re bl k o d x y v ar) fun _=>True:=by
 unfold f72
 refine bn (fun _=>True) ?_ fun rD _=>bI (fun _=>aA trivial) fun _=>bn _ (aeB h) fun c39 h39=>bn _ ahp fun c40 _=>bn (fun y=>y.length≤12) ?_ fun s43 h43 => ?_
 ·repeat' first | exact aA trivial | refine bI (fun _ => ?_) (fun _ => ?_) | refine bn (fun _=>True) ?_ (fun _ _ => ?_)
 ·exact bI (fun _=>bV (by unfold b_;simp;omega) (aA (by simp;omega))) fun _=>aA (by omega)
 refine qX (fun _=>True) (nZ s43.length (by omega) (fun i h0 h1=>goT (decide_eq_true h1) (bn (fun _=>True) (bV (ak.2 ⟨h0,h1⟩) (bI (fun _=>aA trivial) fun _=>bV (ak.2 ⟨h0,h1⟩) (aA trivial))) fun _ _=>bI (fun _=>aA trivial) fun _=>aA rfl)) (BN (decide_eq_false (by omega)) (aA trivial))) fun _ _ => ?_
 refine bn (fun _=>True) (bI (fun _=>aA trivial) fun _=>aA trivial) fun s57 _=>qX (fun _=>True) ?_ fun _ _=>aA trivial
 refine bI (fun _=>bn _ Lj fun _ _=>bI (fun _=>aA trivial) fun _=>aA trivial) fun _=>bn (fun _=>True) (bI (fun _=>aA trivial) fun _=>aA trivial) fun s62 _=>qX (fun _=>True) ?_ fun _ _=>aA trivial
 refine bI (fun _=>bn _ Lj fun _ _=>bI (fun _=>aA trivial) fun _=>aA trivial) fun _=>qX (fun _=>True) ?_ fun _ _=>aA trivial
 refine bI (fun _=>bn _ (abv (n:=fs.length) (v:=v) rfl) fun s70 h70=>bI (fun _=>aA trivial) fun hs=>bV (ak.2 (h70 hs)) (bI (fun _=>aA trivial) fun _=>aA trivial)) fun _=>qX (fun _=>True) ?_ fun _ _=>aA trivial
 refine bI (fun _=>bI (fun _=>aA trivial) fun _=>aA trivial) fun _=>qX (fun _=>True) ?_ fun _ _=>aA trivial
 refine bI (fun _=>bn (fun _=>True) (bI (fun _=>aA trivial) fun _=>aA trivial) fun _ _=>bI (fun _=>aA trivial) fun _=>aA trivial) fun _=>qX (fun _=>True) ?_ fun _ _=>aA trivial
 exact bI (fun _=>bn (fun _=>True) (bI (fun _=>aA trivial) fun _=>aA trivial) fun _ _=>bI (fun _=>aA trivial) fun _=>aA trivial) fun _=>aA trivial
theorem aeC {nm:List UInt8} {pa re:Int} {bl:List aJ} {k a t e:Int}:Ok (f73 nm pa re bl k a t e) fun y=>y=0→(k=1∨k=2∨k=3)∧∀x∈succs k t e,0≤x∧x<bl.length:=by
 unfold f73
 refine bn (fun s=>s=false→k=1∨k=2∨k=3) (bI (fun _=>aA fun e=>by cases e) fun h=>aA fun e => ?_) fun s3 h3=>bI (fun _=>aA fun e=>by cases e) fun hs=>bn (fun _=>True) ?_ fun s10 _=>bI (fun _=>aA fun e=>by cases e) fun _=>vX (Jg k a t e) ?_
 ·simp only [decide_eq_false_iff_not] at h e;omega
 ·exact bI (fun _=>bI (fun _=>aA trivial) fun _=>aA trivial) fun _=>aA trivial
 have h3:=h3 hs
 have hl:(succs k t e).length≤2:=by
  unfold succs;split
  ·simp
  ·split<;>simp
 generalize succs k t e=l at hl
 refine qX (fun _ =>∀x∈l,0≤x∧x<bl.length) ?_ fun _ h=>aA fun _=>⟨h3,h⟩
 refine bC (fun i:Int=>(0≤i∧i≤l.length)∧∀x∈l.take i.toNat,0≤x∧x<bl.length) (fun i=>(l.length-i).toNat) ⟨⟨by simp,by omega⟩,by simp⟩ fun i ⟨⟨h0,h1⟩,h2⟩ => ?_
 refine bI (fun hi => ?_) (fun hi=>aA ?_)
 rotate_left
 ·have:i.toNat=l.length:=by simp at hi;omega
  rw [this,List.take_length] at h2
  exact h2
 have hi:i<l.length:=by simpa using hi
 have hin:=ak.2 ⟨h0,hi⟩
 refine bn (fun s=>s=false→0≤l.getD i.toNat 0∧l.getD i.toNat 0<bl.length) ?_ fun s hs=>bI (fun _=>aA fun e=>by cases e) fun e=>aA ?_
 ·refine bV hin (bI (fun _=>aA fun e=>by cases e) fun h=>bV hin (aA fun e => ?_))
  simp only [decide_eq_false_iff_not] at h e;omega
 ·have hs:=hs e
  refine ⟨⟨⟨?_,?_⟩,?_⟩,?_⟩
  all_goals rw [aN (by omega)]
  ·omega
  ·omega
  ·intro x hx
   rw [show (i+1).toNat=i.toNat+1 by omega,take_snoc (by omega)] at hx
   rcases List.mem_append.1 hx with hx | hx
   ·exact h2 x hx
   ·rw [List.mem_singleton] at hx
    rw [getD_at _ (by omega:i.toNat<l.length)] at hs
    rw [hx];exact hs
  ·omega
theorem X_ {nm:List UInt8} {pa re:Int} {bl:List aJ} (h:bl.length≤1000000):Ok (f71 nm pa re bl) fun _=>True:=by
 unfold f71
 refine bn (fun _=>True) ?_ fun _ _=>aA trivial
 refine bC (fun s:Int×Int=>0≤s.2∧s.2≤bl.length) (fun s=>(bl.length-s.2).toNat) ⟨by simp,by simp⟩ fun ⟨n,i⟩ ⟨h0,h1⟩ => ?_
 simp only at h0 h1
 refine bI (fun hi => ?_) (fun hi=>aA trivial)
 have hi:i<bl.length:=by simpa using hi
 refine bV (ak.2 ⟨h0,hi⟩) (aA ⟨⟨?_,?_⟩,?_⟩)
 all_goals simp only;rw [aN (by omega)];omega
theorem QV {a b:Int} {nm:List UInt8} {pa re:Int} {bl:List aJ} {k:Nat} (hk:k≤1000000000) (h :∀b∈bl,b.instrs.length≤k∧∀i∈b.instrs,i.args.length≤10):Ok (f48 g fs a b nm pa re bl) fun y=>y=0→bl.length≤1000∧0<bl.length∧mF bl∧Ug bl:=by
 unfold f48
 refine bn (fun s=>s=false→0<bl.length∧bl.length≤256) (bI (fun _=>aA fun e=>by cases e) fun h0=>bI (fun _=>aA fun e=>by cases e) fun h1 => ?_) fun s8 h8=>bI (fun _=>aA fun e=>by cases e) fun hs => ?_
 ·simp only [decide_eq_false_iff_not] at h0 h1
  exact bn _ (X_ (by omega)) fun _ _=>aA fun _=>⟨by omega,by omega⟩
 obtain ⟨l0,l1⟩:=h8 hs
 refine bn (fun _=>True) ?_ fun s16 _=>bI (fun _=>aA fun e=>by cases e) fun _ => ?_
 ·repeat' first | exact aA trivial | refine bI (fun _ => ?_) (fun _ => ?_)
 refine qX (fun _=>mF bl) ?_ fun _ hE => ?_
 ·refine bC (fun i:Int=>(0≤i∧i≤bl.length)∧∀b:Nat,(b:Int)<i→((bl.getD b aj).bf=1∨(bl.getD b aj).bf=2∨(bl.getD b aj).bf=3)∧∀x∈dn bl b,0≤x∧x<bl.length) (fun i=>(bl.length-i).toNat) ⟨⟨by simp,by omega⟩,fun b hb=>by omega⟩ fun i ⟨⟨h0,h1⟩,h2⟩ => ?_
  refine bI (fun hi => ?_) (fun hi=>aA ?_)
  rotate_left
  ·have hi:i=bl.length:=by simp at hi;omega
   subst hi
   refine ⟨fun b hb=>⟨fun hn => ?_,fun hn => ?_⟩,fun b hb=>(h2 b (by omega)).1⟩
   ·have:=h2 b (by omega)
    exact this.2 _ (BK.1 (by omega))
   ·exact (h2 b (by omega)).2 _ (BK.2 hn)
  have hi:i<bl.length:=by simpa using hi
  have hin:=ak.2 ⟨h0,hi⟩
  obtain ⟨hb1,hb2⟩:=h _ (kK aj h0 hi)
  refine qX (fun _=>True) ?_ fun _ _=>bV hin (bn _ aeC fun c31 h31=>bI (fun hc=>aA fun e => ?_) fun hc=>aA ?_)
  ·refine nZ _ (by omega) (fun j j0 j1=>bV hin (goT (decide_eq_true j1) (bV hin (bV (ak.2 ⟨j0,j1⟩) (bn _ (instrC_ok (hb2 _ (kK (fZ.mk 0 0 0 0 0 0 eInt) j0 j1))) fun Q8 _=>bI (fun hc=>aA fun e => ?_) fun _=>aA rfl))))) (bV hin (BN (decide_eq_false (by omega)) (aA trivial)))
   rw [e] at hc;simp at hc
  ·rw [e] at hc;simp at hc
  ·have h31:=h31 (by simpa using hc)
   have hw:cZ (i+1)=i+1:=aN (by omega)
   refine ⟨⟨⟨by omega,by omega⟩,fun b hb => ?_⟩,by omega⟩
   by_cases e:(b:Int)<i
   ·exact h2 b e
   ·have e:i.toNat=b:=by omega
    rw [e] at h31
    exact h31
 refine bn _ (QG hE l0 (by omega)) fun m ⟨hM,_⟩ => ?_
 have hml:=hM.len
 refine qX (fun _ =>∀b,b<bl.length→m.getD b false=true) ?_ fun _ hm=>aA fun _=>⟨by omega,l0,hE,fun S s0 hS b hb=>hM.all S s0 (fun b hb sb x hx => ?_) b hb (hm b hb)⟩
 ·refine bC (fun i:Int=>(0≤i∧i≤m.length)∧∀b:Nat,(b:Int)<i→m.getD b false=true) (fun i=>(m.length-i).toNat) ⟨⟨by simp,by omega⟩,fun b hb=>by omega⟩ fun i ⟨⟨h0,h1⟩,h2⟩ => ?_
  refine bI (fun hi => ?_) (fun hi=>aA ?_)
  rotate_left
  ·have hi:i=m.length:=by simp at hi;omega
   exact fun b hb=>h2 b (by omega)
  have hi:i<m.length:=by simpa using hi
  refine bV (ak.2 ⟨h0,hi⟩) (bI (fun _=>aA fun e=>by cases e) fun hc=>aA ?_)
  have hw:cZ (i+1)=i+1:=aN (by omega)
  refine ⟨⟨⟨by omega,by omega⟩,fun b hb => ?_⟩,by omega⟩
  by_cases e:(b:Int)<i
  ·exact h2 b e
  ·have e:i.toNat=b:=by omega
   rw [e] at hc;simpa using hc
 ·obtain ⟨q1,q2⟩:=hS b hb sb
  have h3:=hE.2 b hb
  unfold dn succs at hx
  split at hx
  ·rename_i h
   rcases List.mem_cons.1 hx with hx | hx
   ·rw [hx];exact q1 (by omega)
   ·rw [List.mem_singleton] at hx;rw [hx];exact q2 h.1
  ·split at hx
   ·rw [List.mem_singleton] at hx;rw [hx];exact q1 (by omega)
   ·cases hx
theorem abw {a b:Int} {k:Nat} (hk:k≤1000000000) (hg:g.length≤1000000) (h :∀f∈fs,∀b∈f.blocks,b.instrs.length≤k∧∀i∈b.instrs,i.args.length≤10):Ok (f40 g fs a b) fun y=>y=0→fs.length≤1000∧∀f∈fs,Good f:=by
 unfold f40
 refine bn (fun s=>s=false→0<fs.length∧fs.length≤64) (bI (fun _=>aA fun e=>by cases e) fun h0=>bI (fun _=>aA fun e=>by cases e) fun h1 => ?_) fun s12 h12=>bI (fun _=>aA fun e=>by cases e) fun hs => ?_
 ·simp only [decide_eq_false_iff_not] at h0 h1
  have hl:0<fs.length∧fs.length≤64:=⟨by omega,by omega⟩
  exact bI (fun _=>aA fun e=>by cases e) fun _=>bI (fun _=>aA fun e=>by cases e) fun _=>aA fun _=>hl
 obtain ⟨l0,l1⟩:=h12 hs
 refine qX (fun _=>True) (nZ g.length (by omega) (fun i h0 h1=>goT (decide_eq_true h1) (bn (fun _=>True) (bV (ak.2 ⟨h0,h1⟩) (bI (fun _=>aA trivial) fun _=>bV (ak.2 ⟨h0,h1⟩) (aA trivial))) fun _ _=>bI (fun _=>aA fun e=>by cases e) fun _=>aA rfl)) (BN (decide_eq_false (by omega)) (aA trivial))) fun _ _ => ?_
 refine bn (fun _=>True) (bI (fun _=>aA trivial) fun _=>aA trivial) fun Dz _=>bI (fun _=>aA fun e=>by cases e) fun _=>bV (ak.2 ⟨by omega,by omega⟩) (bI (fun _=>aA fun e=>by cases e) fun _ => ?_)
 refine qX (fun _ =>∀f∈fs,Good f) ?_ fun _ h=>aA fun _=>⟨by omega,h⟩
 refine bC (fun i:Int=>(0≤i∧i≤fs.length)∧∀f∈fs.take i.toNat,Good f) (fun i=>(fs.length-i).toNat) ⟨⟨by simp,by omega⟩,by simp⟩ fun i ⟨⟨h0,h1⟩,h2⟩ => ?_
 refine bI (fun hi => ?_) (fun hi=>aA ?_)
 rotate_left
 ·have:i.toNat=fs.length:=by simp at hi;omega
  rw [this,List.take_length] at h2
  exact h2
 have hi:i<fs.length:=by simpa using hi
 have hm:=kK aC h0 hi
 refine bV (ak.2 ⟨h0,hi⟩) (bn _ (QV hk (h _ hm)) fun DC h35=>bI (fun hc=>aA fun e => ?_) fun hc=>aA ?_)
 ·rw [e] at hc;simp at hc
 have h35:=h35 (by simpa using hc)
 have hw:cZ (i+1)=i+1:=aN (by omega)
 refine ⟨⟨⟨by omega,by omega⟩,fun f hf => ?_⟩,by omega⟩
 rw [hw,show (i+1).toNat=i.toNat+1 by omega,take_snoc (by omega)] at hf
 rcases List.mem_append.1 hf with hf | hf
 ·exact h2 f hf
 ·rw [List.mem_singleton,←getD_at aC (by omega:i.toNat<fs.length)] at hf
  rw [hf];exact h35
end
def ahq (k:Nat) (bl:List aJ):Prop :=∀b∈bl,b.instrs.length≤k∧∀i∈b.instrs,i.args.length≤10
theorem cs3:CS 3=433630:=rfl
theorem v3:V 3=421:=rfl
theorem abx {g:List aP} {fs:List ay} (h:Src 4 4 g fs):Ok (f28 g fs) fun y=>y.2.2.2.2.length≤1000∧∀f∈y.2.2.2.2,Good f:=by
 have hg:=h.g;have hf:=h.f
 unfold f28
 refine bV (by unfold b_;simp;omega) ?_
 refine bn (fun s=>s.2.2.length≤100∧∀f∈s.2.2,ahq 5000000 f.blocks) ?_ fun yE ⟨h1,h2⟩=>bn _ (abw (by omega) (by simp;omega) h2) fun Jm h22=>bI (fun _=>aA ⟨by simp,by simp⟩) fun hc=>aA (h22 (by simpa using hc))
 refine bC (fun s:Int×Int×Int×List aV=>(0≤s.1∧s.1≤fs.length)∧(s.2.2.2.length:Int)=s.1∧∀f∈s.2.2.2,ahq 5000000 f.blocks) (fun s=>(fs.length-s.1).toNat) ⟨⟨by simp,by simp⟩,rfl,by simp⟩ fun ⟨i,x,z,rs⟩ ⟨⟨h0,h1⟩,h2,h3⟩ => ?_
 simp only at h0 h1 h2 h3
 refine bI (fun hi => ?_) (fun hi=>aA ⟨by simp only;omega,h3⟩)
 have hi:i<fs.length:=by simpa using hi
 have hx:=kK gK h0 hi
 have hp:=h.ps _ hx
 obtain ⟨hb,hw⟩:=h.ws _ hx
 refine bV (ak.2 ⟨h0,hi⟩) ?_
 obtain ⟨f,hfe⟩ :∃f,fs.getD i.toNat gK=f:=⟨_,rfl⟩
 simp only [hfe] at hp hb hw ⊢
 refine bn (fun y =>∃lo,y=(g,fs,lo,i,(0:Int),(0:Int),([]:List aJ))∧lo.length≤1000000) ?_ fun s7 ⟨lo,e,hlo⟩ => ?_
 ·refine bn (fun lo=>lo.length≤1000000) ?_ fun lo hlo=>aA ⟨lo,rfl,hlo⟩
  unfold f35
  refine bV (by simp;omega) (bn (fun lo=>lo.length≤1000000) ?_ fun lo hlo=>aA hlo)
  refine kQ (F5 3 1048576 (by omega) f.body hb hw _ (by rw [v3];simp;omega)) fun y hy => ?_
  rw [v3] at hy
  simp at hy;omega
 subst e
 have hS:Sc g fs lo:=⟨by omega,by omega,hlo⟩
 refine bn (fun y =>∃b:aJ,y=((0:Int),g,fs,lo,i,(lo.length:Int),(0:Int),[b])∧b.instrs=[]) (bV (by unfold b_;simp) (aA ⟨_,rfl,rfl⟩)) fun c9 ⟨b,e,hbi⟩ => ?_
 subst e
 have hB:Bd 1 0 [b]:=⟨by omega,by simp,by simp,fun b' hb'=>by rw [List.mem_singleton] at hb';subst hb';rw [hbi];simp⟩
 refine bn _ (Wj hS 3 1048576 (by omega) f.body hb hw _ _ _ _ hB (by rw [cs3];omega)) fun c10 ⟨t,re,a,bl,e,hl,hB⟩ => ?_
 subst e
 rw [cs3] at hB
 simp only
 refine bn (fun y=>ahq 5000000 y.2.2.2.2.2.2) ?_ fun s16 h16=>bV (by unfold b_;simp;omega) (aA ⟨⟨⟨?_,?_⟩,?_,?_⟩,?_⟩)
 ·refine bI (fun _=>EY hB (by omega) (by simp) fun iI e' hB'=>qB hB' hB'.at0 hB'.Rf fun bl2 e2 hB2=>aA (hB2.up (by omega)).ins) fun _=>aA (hB.up (by omega)).ins
 all_goals simp only
 all_goals try rw [aN (by omega)]
 ·omega
 ·omega
 ·simp;omega
 ·intro f' hf'
  rcases List.mem_append.1 hf' with hf' | hf'
  ·exact h3 f' hf'
  ·rw [List.mem_singleton] at hf';subst hf';exact h16
 ·omega
theorem aeD {l:List Int} {i:Int} (hb:Bytes l) (hi:0≤i):Ok (f8 l i) fun y=>y.1.length≤1000∧∀f∈y.1,Good f:=by
 unfold f8
 refine goN hb hi (by omega) fun c j hj _ _=>bI (fun _=>bn (fun y=>y.2.2.2.2.2.length≤1000∧∀f∈y.2.2.2.2.2,Good f) ?_ fun y hy=>aA hy) fun _=>bn _ (aa_ hb hj) fun y hy=>aA hy
 unfold f17
 refine bn (fun y=>Src 4 4 y.2.2.1 y.2.2.2) ?_ fun y hy=>bn _ (abx hy) fun z hz=>aA hz
 unfold f29
 exact bn _ (X8 hb hj) fun y ⟨_,_,hy⟩=>bn _ (Um hy) fun z hz=>aA hz
theorem BL (k a t e:Int):f25 k a t e=some (succs k t e):=by
 apply ok_eq
 unfold f25
 refine bn (fun s=>s=decide (k=1∨(k=2∧t=e))) ?_ fun s hs => ?_
 ·refine bI (fun h=>aA ?_) fun h=>bn (fun s=>s=decide (k=2∧t=e)) ?_ fun s hs=>aA ?_
  ·simp at h;simp [h]
  ·refine bI (fun h2=>aA ?_) fun h2=>aA ?_
   ·simp at h2;simp [h2]
   ·simp at h2;simp [h2]
  ·simp at h;simp [hs,h]
 ·subst hs
  refine bI (fun h=>aA ?_) fun h=>bI (fun h2=>aA ?_) fun h2=>aA ?_
  ·simp only [decide_eq_true_eq] at h
   unfold succs
   rw [if_neg (fun hh=>by rcases h with h | h;omega;exact hh.2 h.2.symm),if_pos (by rcases h with h | h;exact .inl h;exact .inr h.1)]
  ·simp only [decide_eq_true_eq,decide_eq_false_iff_not] at h h2
   unfold succs
   rw [if_pos ⟨h2,fun hh=>h (.inr ⟨h2,hh.symm⟩)⟩]
  ·simp only [decide_eq_false_iff_not] at h h2
   unfold succs
   rw [if_neg (fun hh=>h2 hh.1),if_neg (fun hh=>hh.elim (fun e=>h (.inl e)) h2)]
def Ed (bs:List aJ) (u v:Nat):Prop:=u<bs.length∧(v:Int)∈dn bs u
theorem Ji {bs:List aJ} (hE:mF bs) {u v:Nat} (h:Ed bs u v):u<bs.length∧v<bs.length:=⟨h.1,by have:=u_ hE h.1 _ h.2;omega⟩
theorem aeE {bs:List aJ} (hE:mF bs) (hC:Ug bs) (S:Nat→Prop) (h0:S 0) (hs :∀u v,S u→Ed bs u v→S v) :∀b,b<bs.length→S b:=by
 refine hC S h0 fun b hb sb => ?_
 have hk:=hE.2 b hb
 have hto :∀x:Int,x∈dn bs b→S x.toNat:=fun x hx=>by
  have hr:=u_ hE hb x hx
  exact hs b _ sb ⟨hb,by rw [show ((x.toNat:Nat):Int)=x by omega];exact hx⟩
 exact ⟨fun hn=>hto _ (BK.1 (by omega)),fun hn=>hto _ (BK.2 hn)⟩
theorem Ya (k:Nat):adH (k+1)=ag1 (adH k):=rfl
theorem aby {nm:List UInt8} {pa re:Int} {bs:List aJ} (hE:mF bs) (hl:bs.length≤1000) :∀(k b:Nat) (seen:List Bool) (out:List Int),b<bs.length→seen.length=bs.length→seen.getD b false=false→cntF seen≤k→out.length+cntF seen≤bs.length→
  Ok (adH k b nm pa re bs seen out) fun y =>∃s' L,y=(s',nm,pa,re,bs,out++L.map Int.ofNat)∧Vis (Ed bs) bs.length b seen s' L∧L.length+cntF s'≤cntF seen:=by
 intro k
 induction k with
 |zero=>
  intro b seen out hb hsl hs hk _
  have:=xX (hsl▸hb) hs
  omega
 |succ k ih=>
  intro b seen out hb hsl hs hk ho
  have hc1:=xX (hsl▸hb:b<seen.length) hs
  rw [Ya]
  unfold ag1
  refine bn (fun y =>∃s' L,y=(s',nm,pa,re,bs,out++L.map Int.ofNat)∧Vis (Ed bs) bs.length b seen s' L∧L.length+cntF s'≤cntF seen) ?_ fun y ⟨s',L,e,h1,h2⟩=>by subst e;exact bV (decide_eq_true h1.len.symm) (aA ⟨s',L,rfl,h1,h2⟩)
  refine bV (ak.2 ⟨by omega,by omega⟩) (bV (ak.2 ⟨by omega,by omega⟩) ?_)
  simp only [Int.toNat_natCast]
  refine vX (BL _ _ _ _) ?_
  have hsd:succs (bs.getD b aj).bf (bs.getD b aj).dV (bs.getD b aj).bK=dn bs b:=rfl
  rw [hsd]
  have hin:=u_ hE hb
  have hl2:(dn bs b).length≤2:=by unfold dn succs;(repeat' split)<;>simp
  refine bn (fun y =>∃s' M,y=(s',nm,pa,re,bs,out++M.map Int.ofNat)∧Vs (Ed bs) bs.length b seen s' M∧(∀x∈dn bs b,s'.getD x.toNat false=true)∧M.length+cntF s'+1≤cntF seen) ?_ fun y ⟨s',M,e,h1,h2,h3⟩ => ?_
  rotate_left
  ·subst e
   refine bV (by unfold b_;simp;omega) (aA ⟨s',M++[b],by simp,ahf hb hs h1 (fun x hx=>by have:=h2 _ hx.2;rwa [Int.toNat_natCast] at this) fun he=>(Ji hE he).2,by simp;omega⟩)
  have hset :∀z,(seen.set b true).getD z false=if z=b then true else seen.getD z false:=fun z=>mG (hsl▸hb)
  refine bC (fun s:Int×List Bool×List UInt8×Int×Int×List aJ×List Int =>∃(i:Nat) (s':List Bool) (M:List Nat),s=((i:Int),s',nm,pa,re,bs,out++M.map Int.ofNat)∧i≤(dn bs b).length∧Vs (Ed bs) bs.length b seen s' M∧(∀j,(hj:j<(dn bs b).length)→j<i→s'.getD ((dn bs b)[j]).toNat false=true)∧M.length+cntF s'+1≤cntF seen)
   (fun s=>(dn bs b).length-s.1.toNat) ⟨0,seen.set b true,[],by simp,by omega,⟨by simp,by simp,by simp,fun x hx => ?_,by simp,by simp⟩,fun j _ h=>by omega,by simp;omega⟩ fun s ⟨i,s',M,e,h1,h2,h3,h4⟩ => ?_
  ·rw [hset]
   by_cases e:x=b
   ·simp [e]
   ·simp [e]
  subst e
  refine bI (fun hi => ?_) (fun hi=>aA ⟨s',M,rfl,h2,fun x hx => ?_,h4⟩)
  rotate_left
  ·obtain ⟨j,hj,e⟩:=List.getElem_of_mem hx
   rw [←e];exact h3 j hj (by simp at hi;omega)
  have hi:i<(dn bs b).length:=by simpa using hi
  have aoi:s'.length=bs.length:=by rw [h2.len,hsl]
  refine bV (ak.2 ⟨by omega,by omega⟩) ?_
  have e:(dn bs b).getD i 0=(dn bs b)[i]:=getD_at _ hi
  have hmem:=List.getElem_mem hi
  have hr:=hin _ hmem
  simp only [Int.toNat_natCast,e]
  obtain ⟨c,hc⟩ :∃c:Nat,(dn bs b)[i]=c:=⟨((dn bs b)[i]).toNat,by omega⟩
  have he:Ed bs b c:=⟨hb,hc▸hmem⟩
  rw [hc] at hr ⊢
  have hcn:c<bs.length:=by omega
  refine bV (ak.2 ⟨by omega,by omega⟩) ?_
  simp only [Int.toNat_natCast]
  refine bn (fun y =>∃s2 M2,y=(s2,nm,pa,re,bs,out++M2.map Int.ofNat)∧Vs (Ed bs) bs.length b seen s2 M2∧(∀x,x<bs.length→s'.getD x false=true→s2.getD x false=true)∧s2.getD c false=true∧M2.length+cntF s2+1≤cntF seen) ?_ fun y ⟨s2,M2,e2,q1,q2,q3,q4⟩ => ?_
  rotate_left
  ·subst e2
   have hw:cZ ((i:Int)+1)=((i+1:Nat):Int):=by rw [aN (by omega)];omega
   rw [hw]
   refine aA ⟨⟨i+1,s2,M2,rfl,by omega,q1,fun j hj hji => ?_,q4⟩,by simp only [Int.toNat_natCast];omega⟩
   by_cases ej:j=i
   ·subst ej;rw [hc,Int.toNat_natCast];exact q3
   ·have hjr:=hin _ (List.getElem_mem hj)
    exact q2 _ (by omega) (h3 j hj (by omega))
  refine bI (fun hn => ?_) (fun hn=>aA ⟨s',M,rfl,h2,fun x _ h=>h,by simpa using hn,h4⟩)
  have hn:s'.getD c false=false:=by simpa using hn
  refine bn _ (ih c s' (out++M.map Int.ofNat) hcn aoi hn (by omega) (by simp;omega)) fun y ⟨s2,L,e2,q1,q2⟩ => ?_
  subst e2
  have hcL:c∈L:=by obtain ⟨L0,e⟩:=q1.last;rw [e];simp
  exact aA ⟨s2,M++L,by simp,aa7 h2 q1 he fun h=>(Ji hE h).2,fun x hx h=>(q1.mrk x hx).2 (.inl h),(q1.mrk c hcn).2 (.inr hcL),by simp;omega⟩
theorem DI {l:List (List Int)} {a z:Nat} {v:List Int} (ha:a<l.length):(l.set a v).getD z []=if z=a then v else l.getD z []:=by
 rw [List.getD_eq_getElem?_getD,List.getD_eq_getElem?_getD]
 by_cases h:z=a
 ·subst h;rw [List.getElem?_set_self ha,if_pos rfl];rfl
 ·rw [List.getElem?_set_ne (fun e=>h e.symm),if_neg h]
def PrU (bs:List aJ) (i j:Nat) (P:List (List Int)):Prop:=
 P.length=bs.length∧∀v,v<bs.length→(∀p,p∈P.getD v []↔(∃u:Nat,p=u∧u<i∧(v:Int)∈dn bs u)∨(p=i∧(v:Int)∈(dn bs i).take j))∧(P.getD v []).length≤2*i+j
theorem QW {nm:List UInt8} {pa re:Int} {bs:List aJ} (hE:mF bs) (hl:bs.length≤1000):Ok (f19 nm pa re bs) fun P=>P.length=bs.length∧∀v,v<bs.length→(∀p:Int,p∈P.getD v []↔∃u:Nat,p=u∧Ed bs u v)∧(P.getD v []).length≤2000:=by
 unfold f19
 refine bV (lI.2 (by omega)) ?_
 simp only [Int.toNat_natCast]
 refine bn (fun P=>PrU bs bs.length 0 P) ?_ fun P ⟨h1,h2⟩=>aA ⟨h1,fun v hv=>⟨fun p => ?_,by have:=(h2 v hv).2;omega⟩⟩
 rotate_left
 ·rw [(h2 v hv).1 p]
  simp only [List.take_zero,List.not_mem_nil,and_false,or_false]
  exact ⟨fun ⟨u,e,h,h'⟩=>⟨u,e,h,h'⟩,fun ⟨u,e,h⟩=>⟨u,e,h.1,h.2⟩⟩
 refine bC (fun s:Int×List (List Int) =>∃i:Nat,s.1=i∧i≤bs.length∧PrU bs i 0 s.2) (fun s=>bs.length-s.1.toNat) ⟨0,rfl,by omega,by simp,fun v hv=>⟨fun p => ?_,?_⟩⟩ fun ⟨i',P⟩ ⟨i,e,hi,hP⟩ => ?_
 ·simp only
  rw [getD_at _ (by simpa using hv)]
  simp
 ·simp only
  rw [getD_at _ (by simpa using hv)]
  simp
 simp only at e hP
 subst e
 refine bI (fun hc => ?_) (fun hc=>aA ?_)
 rotate_left
 ·have:i=bs.length:=by simp at hc;omega
  subst this
  exact hP
 have hi:i<bs.length:=by simpa using hc
 refine bV (ak.2 ⟨by simp only;omega,by simp only;omega⟩) ?_
 simp only [Int.toNat_natCast]
 refine vX (BL _ _ _ _) ?_
 have hsd:succs (bs.getD i aj).bf (bs.getD i aj).dV (bs.getD i aj).bK=dn bs i:=rfl
 rw [hsd]
 have hin:=u_ hE hi
 have hl2:(dn bs i).length≤2:=by unfold dn succs;(repeat' split)<;>simp
 refine bn (fun P=>PrU bs i (dn bs i).length P) ?_ fun P' ⟨g1,g2⟩ => ?_
 rotate_left
 ·have hw:cZ ((i:Int)+1)=((i+1:Nat):Int):=by rw [aN (by omega)];omega
  simp only [hw]
  refine aA ⟨⟨i+1,rfl,by omega,g1,fun v hv=>⟨fun p => ?_,by have:=(g2 v hv).2;simp only;omega⟩⟩,by simp only [Int.toNat_natCast];omega⟩
  simp only
  rw [(g2 v hv).1 p]
  simp only [List.take_length,List.take_zero,List.not_mem_nil,and_false,or_false]
  constructor
  ·rintro (⟨u,e,h,h'⟩ | ⟨e,h⟩)
   ·exact ⟨u,e,by omega,h'⟩
   ·exact ⟨i,e,by omega,h⟩
  ·rintro ⟨u,e,h,h'⟩
   by_cases eu:u=i
   ·subst eu;exact .inr ⟨e,h'⟩
   ·exact .inl ⟨u,e,by omega,h'⟩
 refine bC (fun s:Int×List (List Int) =>∃j:Nat,s.1=j∧j≤(dn bs i).length∧PrU bs i j s.2) (fun s=>(dn bs i).length-s.1.toNat) ⟨0,rfl,by omega,hP⟩ fun ⟨j',P'⟩ ⟨j,e,hj,g1,g2⟩ => ?_
 simp only at e g1 g2
 subst e
 refine bI (fun hc => ?_) (fun hc=>aA ?_)
 rotate_left
 ·have:j=(dn bs i).length:=by simp at hc;omega
  subst this
  exact ⟨g1,g2⟩
 have hj:j<(dn bs i).length:=by simpa using hc
 refine bV (ak.2 ⟨by simp only;omega,by simp only;omega⟩) ?_
 have e:(dn bs i).getD j 0=(dn bs i)[j]:=getD_at _ hj
 have hr:=hin _ (List.getElem_mem hj)
 simp only [Int.toNat_natCast,e]
 obtain ⟨c,hc⟩ :∃c:Nat,(dn bs i)[j]=c:=⟨((dn bs i)[j]).toNat,by omega⟩
 rw [hc] at hr ⊢
 have hcn:c<bs.length:=by omega
 have hcl:c<P'.length:=by omega
 have hlen:=(g2 c hcn).2
 refine bV (ak.2 ⟨by omega,by omega⟩) ?_
 simp only [Int.toNat_natCast]
 have hlen':(P'.getD c eInt).length≤2*i+j:=hlen
 refine bV (by simp only [Bool.true_and,decide_eq_true_eq,List.length_singleton];omega) (bV (ak.2 ⟨by omega,by omega⟩) (bV (by simp) ?_))
 have hw:cZ ((j:Int)+1)=((j+1:Nat):Int):=by rw [aN (by omega)];omega
 rw [hw]
 refine aA ⟨⟨j+1,rfl,by omega,by simp only [List.length_set];exact g1,fun v hv=>⟨fun p => ?_,?_⟩⟩,by simp only [Int.toNat_natCast];omega⟩
 ·simp only
  rw [DI hcl,take_snoc hj,hc]
  simp only [List.mem_append,List.mem_singleton]
  by_cases ev:v=c
  ·subst ev
   rw [if_pos rfl,List.mem_append,(g2 v hv).1 p,List.mem_singleton]
   constructor
   ·rintro ((h | ⟨h,h'⟩) | h)
    ·exact .inl h
    ·exact .inr ⟨h,.inl h'⟩
    ·exact .inr ⟨h,.inr rfl⟩
   ·rintro (h | ⟨h,h' | h'⟩)
    ·exact .inl (.inl h)
    ·exact .inl (.inr ⟨h,h'⟩)
    ·exact .inr h
  ·rw [if_neg ev,(g2 v hv).1 p]
   constructor
   ·rintro (h | ⟨h,h'⟩)
    ·exact .inl h
    ·exact .inr ⟨h,.inl h'⟩
   ·rintro (h | ⟨h,h' | h'⟩)
    ·exact .inl h
    ·exact .inr ⟨h,h'⟩
    ·exact absurd (by omega) ev
 ·simp only
  rw [DI hcl]
  split
  ·rw [List.length_append,List.length_singleton];omega
  ·have:=(g2 v hv).2;omega
def Rk (n:Nat) (rk:Nat→Nat) (R:List Int):Prop:=R.length=n∧∀v,v<n→R.getD v 0=rk v
theorem Ll {out:List Int} {v:Nat} (h:v<out.length):out.getD v 0=up out v:=by
 unfold up;rw [getD_at _ h,getD_at _ h]
theorem DJ {out:List Int} {y a:Nat} (h:jl out y a) (hne:y≠a):jl out y (up out a).toNat:=by
 cases h with
 |refl=>exact absurd rfl hne
 |up _ h=>exact h
theorem aeF {n:Nat} {E:Nat→Nat→Prop} {rk:Nat→Nat} {R out:List Int} (hG:Gr n E rk) (hT:Tb n E rk out) (hR:Rk n rk R) {a b:Nat} (ha:a<n) (hb:b<n) (pa:Pr out a) (pb:Pr out b) :
  Ok (f20 a b R out) fun y =>∃c:Nat,y=((c:Int),R,out)∧c<n∧Pr out c∧jl out c a∧jl out c b∧(∀y,jl out y a→jl out y b→jl out y c)∧∀d,Dom E d a→Dom E d b→Dom E d c:=by
 refine bn (fun y =>∃c:Nat,y=((c:Int),R,out)∧c<n∧Pr out c∧jl out c a∧jl out c b∧(∀y,jl out y a→jl out y b→jl out y c)∧∀d,Dom E d a→Dom E d b→Dom E d c) ?_ fun y ⟨c,e,h⟩=>by subst e;exact goK rfl (goK rfl (aA ⟨c,rfl,h⟩))
 unfold agD
 refine bn (fun y =>∃c:Nat,y=((c:Int),R,out)∧c<n∧Pr out c∧jl out c a∧jl out c b∧(∀y,jl out y a→jl out y b→jl out y c)∧∀d,Dom E d a→Dom E d b→Dom E d c) ?_ fun y ⟨c,e,h⟩=>by subst e;exact bV (by simp) (bV (by simp) (aA ⟨c,rfl,h⟩))
 refine bn (fun y =>∃c:Nat,y=(c:Int)∧c<n∧Pr out c∧jl out c a∧jl out c b∧(∀y,jl out y a→jl out y b→jl out y c)∧∀d,Dom E d a→Dom E d b→Dom E d c) ?_ fun y ⟨c,e,h⟩=>aA ⟨c,by rw [e],h⟩
 refine bC (fun s:Int×Int =>∃a' b':Nat,s=((a':Int),(b':Int))∧a'<n∧b'<n∧Pr out a'∧Pr out b'∧jl out a' a∧jl out b' b∧(∀y,jl out y a→jl out y b→jl out y a'∧jl out y b')∧∀d,Dom E d a→Dom E d b→Dom E d a'∧Dom E d b')
  (fun s=>rk s.1.toNat+rk s.2.toNat) ⟨a,b,rfl,ha,hb,pa,pb,.refl,.refl,fun y h1 h2=>⟨h1,h2⟩,fun d h1 h2=>⟨h1,h2⟩⟩ fun s ⟨a',b',e,h1,h2,h3,h4,h5,h6,h7,h8⟩ => ?_
 subst e
 refine bI (fun hne => ?_) (fun heq=>aA ?_)
 rotate_left
 ·have:a'=b':=by simp at heq;omega
  subst this
  exact ⟨a',rfl,h1,h3,h5,h6,fun y g1 g2=>(h7 y g1 g2).1,fun d g1 g2=>(h8 d g1 g2).1⟩
 have hne:a'≠b':=by simp at hne;omega
 obtain ⟨r1,r2⟩:=hR
 have hol:=hT.len
 refine bV (ak.2 ⟨by simp only;omega,by simp only;omega⟩) (bV (ak.2 ⟨by simp only;omega,by simp only;omega⟩) ?_)
 simp only [Int.toNat_natCast,r2 _ h1,r2 _ h2,Ll (show a'<out.length by omega),Ll (show b'<out.length by omega)]
 refine bn (fun s:Int×Int =>∃a2 b2:Nat,s=((a2:Int),(b2:Int))∧(a2<n∧b2<n∧Pr out a2∧Pr out b2∧jl out a2 a∧jl out b2 b∧(∀y,jl out y a→jl out y b→jl out y a2∧jl out y b2)∧∀d,Dom E d a→Dom E d b→Dom E d a2∧Dom E d b2)∧rk a2+rk b2<rk a'+rk b') ?_ fun s ⟨a2,b2,e,q1,q2⟩=>by subst e;exact aA ⟨⟨a2,b2,rfl,q1⟩,by simpa using q2⟩
 refine bI (fun hlt => ?_) (fun hge => ?_)
 ·have hlt:rk b'<rk a':=by simpa using hlt
  have h0:a'≠0:=fun e=>by rw [e,hG.zero] at hlt;omega
  have hu:0≤up out a':=h3.resolve_left h0
  obtain ⟨v1,v2,v3⟩:=hT.val h1 hu
  refine bV (ak.2 ⟨by omega,by omega⟩) (aA ⟨(up out a').toNat,b',by rw [Int.toNat_of_nonneg hu],⟨v1,h2,v3,h4,jl.trans (.up hu .refl) h5,h6,fun y g1 g2 => ?_,fun d g1 g2 => ?_⟩,by omega⟩)
  ·obtain ⟨q1,q2⟩:=h7 y g1 g2
   exact ⟨DJ q1 fun e=>by subst e;have:=(xW hT q2 h2).2.1;omega,q2⟩
  ·obtain ⟨q1,q2⟩:=h8 d g1 g2
   exact ⟨hT.dom h1 hu d q1 fun e=>by subst e;have:=NS hG h1 h2 q2;omega,q2⟩
 ·have hge:rk a'≤rk b':=by simpa using hge
  have hlt:rk a'<rk b':=Nat.lt_of_le_of_ne hge fun e=>hne (hG.inj h1 h2 e)
  have h0:b'≠0:=fun e=>by rw [e,hG.zero] at hlt;omega
  have hu:0≤up out b':=h4.resolve_left h0
  obtain ⟨v1,v2,v3⟩:=hT.val h2 hu
  refine bV (ak.2 ⟨by omega,by omega⟩) (aA ⟨a',(up out b').toNat,by rw [Int.toNat_of_nonneg hu],⟨h1,v1,h3,v3,h5,jl.trans (.up hu .refl) h6,fun y g1 g2 => ?_,fun d g1 g2 => ?_⟩,by omega⟩)
  ·obtain ⟨q1,q2⟩:=h7 y g1 g2
   exact ⟨q1,DJ q2 fun e=>by subst e;have:=(xW hT q1 h1).2.1;omega⟩
  ·obtain ⟨q1,q2⟩:=h8 d g1 g2
   exact ⟨q1,hT.dom h2 hu d q2 fun e=>by subst e;have:=NS hG h2 h1 q1;omega⟩
theorem Us {l:List Int} (hl:l.length≤1000000):f26 l=some l.reverse:=by
 apply ok_eq
 unfold f26
 refine bn (fun y=>y=l.reverse) ?_ fun y e=>by subst e;exact bV (by simp) (aA rfl)
 refine bn (fun y=>y=l.reverse) ?_ fun y e=>aA e
 refine bC (fun s:Int×Int×List Int =>∃i:Nat,s.1=i∧s.2.1=(l.length:Int)-1-i∧s.2.2.length=l.length∧i≤l.length∧∀k,k<l.length→s.2.2.getD k 0=if k<i∨l.length-1-k<i then l.getD (l.length-1-k) 0 else l.getD k 0)
  (fun s=>l.length-s.1.toNat) ⟨0,rfl,by simp only;rw [aN (by omega)];omega,rfl,by omega,fun k hk=>by rw [if_neg (by omega)]⟩ fun ⟨i',j,m⟩ ⟨i,e1,e2,e3,e4,e5⟩ => ?_
 simp only at e1 e2 e3 e5
 subst e1;subst e2
 refine bI (fun hc => ?_) (fun hc=>aA ?_)
 rotate_left
 ·have hc:¬ ((i:Int)<(l.length:Int)-1-i):=by simpa using hc
  show m=l.reverse
  refine List.ext_getElem (by simp [e3]) fun k h1 h2 => ?_
  have hk:k<l.length:=by omega
  have:=e5 k hk
  rw [getD_at _ h1] at this
  rw [this,List.getElem_reverse]
  split
  ·rw [getD_at _ (by omega)]
  ·rename_i hh
   have:l.length-1-k=k:=by omega
   simp only [this]
   rw [getD_at _ hk]
 have hc:(i:Int)<(l.length:Int)-1-i:=by simpa using hc
 obtain ⟨j,hj⟩ :∃j:Nat,(l.length:Int)-1-i=j:=⟨((l.length:Int)-1-i).toNat,by omega⟩
 rw [hj]
 have hjl:j<m.length:=by omega
 have hil:i<m.length:=by omega
 refine bV (ak.2 ⟨by simp only;omega,by simp only;omega⟩) (bV (ak.2 ⟨by simp only;omega,by simp only;omega⟩) (bV (ak.2 ⟨by simp only;omega,by simp only;omega⟩) (bV (ak.2 ⟨by simp only;omega,by simp only [List.length_set];omega⟩) ?_)))
 simp only [Int.toNat_natCast]
 have hw:cZ ((i:Int)+1)=((i+1:Nat):Int):=by rw [aN (by omega)];omega
 have hw2:cZ ((j:Int)-1)=(l.length:Int)-1-((i+1:Nat):Int):=by rw [aN (by omega)];omega
 rw [hw,hw2]
 refine aA ⟨⟨i+1,rfl,rfl,by simp [e3],by omega,fun k hk => ?_⟩,by simp only [Int.toNat_natCast];omega⟩
 have hji:=e5 j (by omega)
 have hii:=e5 i (by omega)
 rw [if_neg (by omega)] at hji hii
 rw [qy (by simp only [List.length_set];exact hjl),qy hil]
 by_cases k1:k=j
 ·rw [if_pos k1,hii,if_pos (by omega)]
  congr 1;omega
 ·rw [if_neg k1]
  by_cases k2:k=i
  ·rw [if_pos k2,hji,if_pos (by omega)]
   congr 1;omega
  ·rw [if_neg k2,e5 k hk]
   by_cases k3:k<i∨l.length-1-k<i
   ·rw [if_pos k3,if_pos (by omega)]
   ·rw [if_neg k3,if_neg (by omega)]
theorem abz {nm:List UInt8} {pa re:Int} {bs:List aJ} (hl:bs.length≤1000) (h0:0<bs.length) (hE:mF bs) (hC:Ug bs) :∃O:List Nat,f14 nm pa re bs=some (O.map Int.ofNat)∧Od bs.length (Ed bs) O:=by
 have h:Ok (f14 nm pa re bs) fun y =>∃O:List Nat,y=O.map Int.ofNat∧Od bs.length (Ed bs) O:=by
  unfold f14
  refine bV (lI.2 (by omega)) (vX rfl ?_)
  simp only [Int.toNat_natCast]
  have hs :∀x,(List.replicate bs.length false).getD x false=false:=fun x=>by
   rw [List.getD_eq_getElem?_getD,List.getElem?_replicate];split<;>rfl
  have hcn:cntF (List.replicate bs.length false)=bs.length:=by simp [cntF,List.count_replicate]
  refine bn _ (aby (nm:=nm) (pa:=pa) (re:=re) hE hl 1048576 0 _ eInt h0 (by simp) (hs 0) (by omega) (by simp;omega)) fun y ⟨s',L,e,hv,hsz⟩ => ?_
  subst e
  have hll:L.length≤1000:=by omega
  simp only
  refine vX (Us (by simp;omega)) (aA ⟨L.reverse,by simp,akn h0 (fun he=>Ji hE he) (aeE hE hC) hs hv⟩)
 obtain ⟨y,hy,O,e,h⟩:=h
 exact ⟨O,by rw [hy,e],h⟩
theorem afp {n:Nat} {E:Nat→Nat→Prop} {O:List Nat} (h:Od n E O) {i:Nat} (hi:i<n) :∃b:Nat,(O.map Int.ofNat).getD i 0=b∧b<n∧O.idxOf b=i:=by
 have hil:i<O.length:=by rw [h.len];exact hi
 refine ⟨O[i],?_,h.mem.1 (List.getElem_mem hil),h.nd.idxOf_getElem i hil⟩
 rw [getD_at _ (by simpa using hil)];simp
def Bp (n:Nat) (E:Nat→Nat→Prop) (out:List Int) (l:List Int) (z:Int):Prop:=
 (z=-1∧∀u:Nat,(u:Int)∈l→¬ Pr out u)∨∃c:Nat,z=c∧c<n∧Pr out c∧(∀u:Nat,(u:Int)∈l→Pr out u→jl out c u)∧(∀y,(∀u:Nat,(u:Int)∈l→Pr out u→jl out y u)→jl out y c)∧∀d,(∀u:Nat,(u:Int)∈l→Pr out u→Dom E d u)→Dom E d c
def Fx (n:Nat) (E:Nat→Nat→Prop) (rk:Nat→Nat) (out:List Int) (i:Nat):Prop :=∀v,v<n→v≠0→rk v<i→∀p,E p v→Pr out p→jl out (up out v).toNat p
section
variable {n:Nat} {E:Nat→Nat→Prop} {rk:Nat→Nat} {R out:List Int}
theorem aeG (hG:Gr n E rk) (hT:Tb n E rk out) (hR:Rk n rk R) {l:List Int} {z:Int} {u:Nat} (hu:u<n) (pu:Pr out u) (h:Bp n E out l z):Ok (bif decide (z<0) then some (u:Int) else Option.bind (f20 z u R out) fun c=>some c.1) fun y=>Bp n E out (l++[(u:Int)]) y:=by
 refine bI (fun hz=>aA ?_) fun hz => ?_
 ·have hz:z<0:=by simpa using hz
  rcases h with ⟨_,h⟩ | ⟨c,e,_⟩
  ·refine .inr ⟨u,rfl,hu,pu,fun w hw pw => ?_,fun y hy=>hy u (by simp) pu,fun d hd=>hd u (by simp) pu⟩
   rcases List.mem_append.1 hw with hw | hw
   ·exact absurd pw (h w hw)
   ·rw [List.mem_singleton] at hw
    have:w=u:=by omega
    subst this;exact .refl
  ·omega
 ·have hz:¬ z<0:=by simpa using hz
  rcases h with ⟨e,_⟩ | ⟨c,e,hc,pc,h1,h2,h3⟩
  ·omega
  subst e
  refine bn _ (aeF hG hT hR hc hu pc pu) fun y ⟨d,e,q1,q2,q3,q4,q5,q6⟩ => ?_
  subst e
  refine aA (.inr ⟨d,rfl,q1,q2,fun w hw pw => ?_,fun y hy=>q5 y (h2 y fun w hw pw=>hy w (List.mem_append_left _ hw) pw) (hy u (by simp) pu),fun x hx=>q6 x (h3 x fun w hw pw=>hx w (List.mem_append_left _ hw) pw) (hx u (by simp) pu)⟩)
  rcases List.mem_append.1 hw with hw | hw
  ·exact q3.trans (h1 w hw pw)
  ·rw [List.mem_singleton] at hw
   have:w=u:=by omega
   subst this;exact q4
theorem aeH (hG:Gr n E rk) {i b:Nat} (hP:Ps n E rk out i) (hb:b<n) (h0:b≠0) (hr:rk b=i) {l:List Int} (hl :∀p:Int,p∈l↔∃u:Nat,p=u∧E u b) {z:Int} (h:Bp n E out l z) :∃c:Nat,z=c∧Bst n E rk out b c:=by
 rcases h with ⟨_,h⟩ | ⟨c,e,q1,q2,q3,q4,q5⟩
 ·obtain ⟨u,hu,hur⟩:=hG.pred hb h0
  exact absurd (hP.D (hG.inn hu).1 (by omega)) (h u ((hl _).2 ⟨u,rfl,hu⟩))
 ·exact ⟨c,e,q1,q2,fun p hp pp=>q3 p ((hl _).2 ⟨p,rfl,hp⟩) pp,fun y hy=>q4 y fun u hu pu=>by obtain ⟨w,e,hw⟩:=(hl _).1 hu;exact hy u (by rw [show u=w by omega];exact hw) pu,fun d hd=>q5 d fun u hu pu=>by obtain ⟨w,e,hw⟩:=(hl _).1 hu;exact hd u (by rw [show u=w by omega];exact hw) pu⟩
theorem Jj {b:Nat} {z:Int} (hb:b<out.length) (h:up out b=z):out.set b z=out:=by
 refine List.ext_getElem (by simp) fun k h1 h2 => ?_
 rw [List.getElem_set]
 split
 ·rename_i e;subst e
  rw [←h];unfold up;rw [getD_at _ h2]
 ·rfl
end
structure Idm (n:Nat) (E:Nat→Nat→Prop) (rk:Nat→Nat) (out:List Int):Prop where
 T:Tb n E rk out
 pr :∀v,v<n→Pr out v
 iff :∀{a b},a<n→b<n→(jl out a b↔Dom E a b)
theorem aeI {nm:List UInt8} {pa re:Int} {bs:List aJ} (hl:bs.length≤1000) (h0:0<bs.length) (hE:mF bs) {O:List Nat} (hO:f14 nm pa re bs=some (O.map Int.ofNat)) (hOd:Od bs.length (Ed bs) O):Ok (f9 nm pa re bs) fun out=>Idm bs.length (Ed bs) (fun v=>O.idxOf v) out:=by
 have hG:=hOd.gr
 have hlt:=hOd.lt
 have hol:=hOd.len
 unfold f9
 refine vX hO ?_
 have hcl:(O.map Int.ofNat).length=bs.length:=by simp [hol]
 have hat:=fun {i:Nat} (hi:i<bs.length)=>afp hOd hi
 generalize O.map Int.ofNat=c0 at hcl hat
 rw [hcl]
 refine bV (lI.2 (by omega)) ?_
 simp only [Int.toNat_natCast]
 refine bn (fun R=>Rk bs.length (fun v=>O.idxOf v) R) ?_ fun R hR => ?_
 ·refine bC (fun s:Int×List Int =>∃i:Nat,s.1=i∧i≤bs.length∧s.2.length=bs.length∧∀v,v<bs.length→O.idxOf v<i→s.2.getD v 0=(O.idxOf v:Nat)) (fun s=>bs.length-s.1.toNat) ⟨0,rfl,by omega,by simp,fun v _ h=>absurd h (Nat.not_lt_zero _)⟩ fun ⟨i',R⟩ ⟨i,e1,e2,e3,e4⟩ => ?_
  simp only at e1 e3 e4
  subst e1
  refine bI (fun hc => ?_) (fun hc=>aA ?_)
  rotate_left
  ·have:i=bs.length:=by simp at hc;omega
   subst this
   exact ⟨e3,fun v hv=>e4 v hv (hlt v hv)⟩
  have hi:i<bs.length:=by simpa using hc
  obtain ⟨b,hb1,hb2,hb3⟩:=hat hi
  refine bV (ak.2 ⟨by simp only;omega,by simp only;omega⟩) ?_
  simp only [Int.toNat_natCast,hb1]
  refine bV (ak.2 ⟨by omega,by omega⟩) ?_
  have hw:cZ ((i:Int)+1)=((i+1:Nat):Int):=by rw [aN (by omega)];omega
  rw [hw]
  refine aA ⟨⟨i+1,rfl,by omega,by simp [e3],fun v hv hvi => ?_⟩,by simp only [Int.toNat_natCast];omega⟩
  simp only
  rw [qy (by omega)]
  by_cases ev:v=b
  ·rw [if_pos ev,ev,hb3]
  ·rw [if_neg ev]
   refine e4 v hv ?_
   have:O.idxOf v≠i:=fun e=>ev (hG.inj hv hb2 (by omega))
   omega
 refine bn _ (QW hE hl) fun P ⟨hP1,hP2⟩ => ?_
 refine bV (lI.2 (by omega)) ?_
 refine bn (fun y =>∃out,y=(P,out)∧Ps bs.length (Ed bs) (fun v=>O.idxOf v) out 1) ?_ fun y ⟨out,e,hPs⟩ => ?_
 ·have hrl:(List.replicate bs.length (0:Int)).length=bs.length:=by simp
  refine bC (fun s:List (List Int)×Int×List Int =>∃(i:Nat) (out:List Int),s=(P,(i:Int),out)∧i≤bs.length∧out.length=bs.length∧∀v,v<i→out.getD v (-1)=-1) (fun s=>bs.length-s.2.1.toNat) ⟨0,_,rfl,by omega,hrl,fun v h=>absurd h (Nat.not_lt_zero _)⟩ fun s ⟨i,out,e,e2,e3,e4⟩ => ?_
  subst e
  refine bI (fun hc => ?_) (fun hc=>aA ⟨out,rfl,aa6 hG e3 fun v hv=>e4 v ?_⟩)
  rotate_left
  ·simp only [hrl] at hc;simp at hc;omega
  have hi:i<bs.length:=by simp only [hrl] at hc;simpa using hc
  refine bV (ak.2 ⟨by simp only;omega,by simp only;omega⟩) ?_
  have hw:cZ ((i:Int)+1)=((i+1:Nat):Int):=by rw [aN (by omega)];omega
  simp only [Int.toNat_natCast,hw]
  refine aA ⟨⟨i+1,_,rfl,by omega,by simp [e3],fun v hv => ?_⟩,by simp only [Int.toNat_natCast];omega⟩
  have:=kX (out:=out) (z:=-1) (by omega:i<out.length) v
  unfold up at this
  rw [this]
  split
  ·rfl
  ·exact e4 v (by omega)
 subst e
 refine bn (fun out=>Idm bs.length (Ed bs) (fun v=>O.idxOf v) out) ?_ fun out h=>aA h
 refine bC (fun s:Bool×List Int=>Ps bs.length (Ed bs) (fun v=>O.idxOf v) s.2 1∧(s.1=false→Ps bs.length (Ed bs) (fun v=>O.idxOf v) s.2 bs.length∧Fx bs.length (Ed bs) (fun v=>O.idxOf v) s.2 bs.length)) (fun s=>if s.1 then ms bs.length (fun v=>O.idxOf v) s.2 bs.length+1 else 0)
  ⟨hPs,fun h=>by cases h⟩ fun ⟨ch,out⟩ ⟨g1,g2⟩ => ?_
 simp only at g1 g2
 refine bI (fun hch => ?_) (fun hch=>aA ?_)
 rotate_left
 ·obtain ⟨k1,k2⟩:=g2 hch
  have hpr :∀v,v<bs.length→Pr out v:=fun v hv=>k1.D hv (hlt v hv)
  exact ⟨k1.T,hpr,fun ha hb=>aeo hG k1 hlt (fun v hv hv0 p hp pp=>k2 v hv hv0 (hlt v hv) p hp pp) ha hb⟩
 have hch:ch=true:=hch
 subst hch
 refine bV (BD.2 ⟨⟨by omega,by omega⟩,by omega⟩) ?_
 have hn1:Int.toNat (1:Int)=1:=rfl
 simp only [hn1]
 obtain ⟨m,hm⟩ :∃m,bs.length-1=m:=⟨_,rfl⟩
 simp only [hm]
 refine bn (fun s=>Ps bs.length (Ed bs) (fun v=>O.idxOf v) s.2 bs.length∧(s.1=false→s.2=out∧Fx bs.length (Ed bs) (fun v=>O.idxOf v) s.2 bs.length)∧(s.1=true→ms bs.length (fun v=>O.idxOf v) s.2 bs.length<ms bs.length (fun v=>O.idxOf v) out bs.length)) ?_ fun ⟨ch,out'⟩ ⟨k1,k2,k3⟩=>aA ⟨⟨aa5 hG hlt k1,fun e=>⟨k1,(k2 e).2⟩⟩,?_⟩
 rotate_left
 ·cases ch with
  |false=>simp
  |true=>have:=k3 rfl;simp;omega
 refine bC (fun s:Bool×Int×List Int =>∃k:Nat,s.2.1=k∧k≤m∧Ps bs.length (Ed bs) (fun v=>O.idxOf v) s.2.2 (k+1)∧(s.1=false→s.2.2=out∧Fx bs.length (Ed bs) (fun v=>O.idxOf v) s.2.2 (k+1))∧(s.1=true→ms bs.length (fun v=>O.idxOf v) s.2.2 bs.length<ms bs.length (fun v=>O.idxOf v) out bs.length)) (fun s=>m-s.2.1.toNat)
  ⟨0,rfl,by omega,g1,fun _=>⟨rfl,fun v hv hv0 hr=>by have:=Jd hG hv hv0;simp only at hr this;omega⟩,fun h=>by cases h⟩ fun ⟨ch,k',out1⟩ ⟨k,e1,e2,e3,e4,e5⟩ => ?_
 simp only at e1 e3 e4 e5
 subst e1
 refine bI (fun hc => ?_) (fun hc=>aA ?_)
 rotate_left
 ·have hk:k=m:=by simp at hc;omega
  have:k+1=bs.length:=by omega
  rw [this] at e3 e4
  exact ⟨e3,e4,e5⟩
 have hk:k<m:=by simpa using hc
 obtain ⟨b,hb1,hb2,hb3⟩:=hat (show 1+k<bs.length by omega)
 have hb0:b≠0:=fun e=>by
  have hz:O.idxOf 0=0:=hG.zero
  rw [e,hz] at hb3;omega
 have hrb:(fun v=>O.idxOf v) b=k+1:=by simp only;omega
 have aqe:=e3.T.len
 have hbl:b<out1.length:=by omega
 refine bV (ak.2 ⟨by simp only;omega,by simp only;omega⟩) ?_
 simp only [Int.toNat_natCast,hb1]
 refine bV (ak.2 ⟨by omega,by omega⟩) ?_
 obtain ⟨hpm,hpl⟩:=hP2 b hb2
 have hpe:P.getD b eInt=P.getD b []:=rfl
 rw [hpe]
 generalize P.getD b []=l at hpm hpl
 refine bn (fun z =>∃c:Nat,z=c∧Bst bs.length (Ed bs) (fun v=>O.idxOf v) out1 b c) ?_ fun z ⟨c,ez,hz⟩ => ?_
 ·refine kQ (Q:=fun z=>Bp bs.length (Ed bs) out1 l z) ?_ fun z hz=>aeH hG e3 hb2 hb0 hrb hpm hz
  refine bC (fun s:Int×Int =>∃j:Nat,s.2=j∧j≤l.length∧Bp bs.length (Ed bs) out1 (l.take j) s.1) (fun s=>l.length-s.2.toNat) ⟨0,rfl,by omega,.inl ⟨rfl,by simp⟩⟩ fun ⟨z,j'⟩ ⟨j,q1,q2,q3⟩ => ?_
  simp only at q1 q3
  subst q1
  refine bI (fun hc => ?_) (fun hc=>aA ?_)
  rotate_left
  ·have:j=l.length:=by simp at hc;omega
   rw [this,List.take_length] at q3
   exact q3
  have hj:j<l.length:=by simpa using hc
  refine bV (ak.2 ⟨by simp only;omega,by simp only;omega⟩) ?_
  have e:l.getD j 0=l[j]:=getD_at _ hj
  simp only [Int.toNat_natCast,e]
  obtain ⟨u,hu,hue⟩:=(hpm _).1 (List.getElem_mem hj)
  have hun:=(Ji hE hue).1
  rw [hu]
  have hw:cZ ((j:Int)+1)=((j+1:Nat):Int):=by rw [aN (by omega)];omega
  refine bn (fun s=>s=true↔¬ Pr out1 u) ?_ fun s hs=>bn (fun z=>Bp bs.length (Ed bs) out1 (l.take (j+1)) z) ?_ fun z' hz' => ?_
  ·refine bI (fun hc=>bV (ak.2 ⟨by omega,by omega⟩) (aA ?_)) (fun hc=>aA ?_)
   ·have hc:u≠0:=by simp at hc;omega
    simp only [Int.toNat_natCast,Ll (show u<out1.length by omega),decide_eq_true_eq]
    unfold Pr
    exact ⟨fun h hh=>by rcases hh with hh | hh<;>omega,fun h=>by have:¬ 0≤up out1 u:=fun h'=>h (.inr h');omega⟩
   ·have hc:u=0:=by simp at hc;omega
    exact ⟨fun h=>(by cases h),fun h=>absurd (.inl hc) h⟩
  ·rw [take_snoc hj,hu]
   refine bI (fun hc=>aA ?_) fun hc=>bn (fun z=>Bp bs.length (Ed bs) out1 (l.take j++[(u:Int)]) z) ?_ fun z hz=>aA hz
   ·have hnp:=hs.1 hc
    rcases q3 with ⟨z1,z2⟩ | ⟨c,z1,z2,z3,z4,z5,z6⟩
    ·refine .inl ⟨z1,fun w hw => ?_⟩
     rcases List.mem_append.1 hw with hw | hw
     ·exact z2 w hw
     ·rw [List.mem_singleton] at hw
      rw [show w=u by omega];exact hnp
    ·refine .inr ⟨c,z1,z2,z3,fun w hw pw => ?_,fun y hy=>z5 y fun w hw pw=>hy w (List.mem_append_left _ hw) pw,fun d hd=>z6 d fun w hw pw=>hd w (List.mem_append_left _ hw) pw⟩
     rcases List.mem_append.1 hw with hw | hw
     ·exact z4 w hw pw
     ·rw [List.mem_singleton] at hw
      exact absurd (show Pr out1 u by rw [←show w=u by omega];exact pw) hnp
   ·have hp:Pr out1 u:=Classical.byContradiction fun h=>by rw [hs.2 h] at hc;cases hc
    exact aeG hG e3.T hR hun hp q3
  ·rw [hw]
   exact aA ⟨⟨j+1,rfl,by omega,hz'⟩,by simp only [Int.toNat_natCast];omega⟩
 subst ez
 refine bV (ak.2 ⟨by omega,by omega⟩) ?_
 simp only [Int.toNat_natCast,Ll hbl]
 have hw:cZ ((k:Int)+1)=((k+1:Nat):Int):=by rw [aN (by omega)];omega
 have hstep:=aen hG e3 hb2 hb0 hrb hz
 refine bn (fun y =>∃ch',y=(ch',out1.set b (c:Int))∧(ch'=false→ch=false∧up out1 b=c)∧(ch'=true→ch=true∨up out1 b≠c)) ?_ fun y ⟨ch',ey,y1,y2⟩ => ?_
 ·refine bI (fun hc=>bV (ak.2 ⟨by omega,by omega⟩) (aA ⟨true,rfl,fun h=>(by cases h),fun _=>.inr (by simpa using hc)⟩)) (fun hc=>aA ⟨ch,?_,fun h=>⟨h,by simpa using hc⟩,fun h=>.inl h⟩)
  have hc:up out1 b=c:=by simpa using hc
  rw [Jj hbl hc]
 subst ey
 rw [hw]
 refine aA ⟨⟨k+1,rfl,by omega,hstep,fun hf => ?_,fun ht => ?_⟩,by simp only [Int.toNat_natCast];omega⟩
 ·obtain ⟨f1,f2⟩:=y1 hf
  obtain ⟨f3,f4⟩:=e4 f1
  simp only
  rw [Jj hbl f2]
  refine ⟨f3,fun v hv hv0 hr p hp pp => ?_⟩
  by_cases ev:v=b
  ·subst ev
   rw [f2,Int.toNat_natCast]
   exact hz.all p hp pp
  ·refine f4 v hv hv0 ?_ p hp pp
   have:O.idxOf v≠k+1:=fun e=>ev (hG.inj hv hb2 (by omega))
   simp only at hr ⊢
   omega
 ·simp only
  have hdec:up out1 b≠c→ms bs.length (fun v=>O.idxOf v) (out1.set b (c:Int)) bs.length<ms bs.length (fun v=>O.idxOf v) out1 bs.length:=fun h=>ahe hG hlt e3 hb2 hb0 hrb hz h
  by_cases hne:up out1 b=c
  ·rw [Jj hbl hne]
   rcases y2 ht with h | h
   ·exact e5 h
   ·exact absurd hne h
  ·have:=hdec hne
   cases hch:ch with
   |true=>have:=e5 hch;omega
   |false=>rw [(e4 hch).1] at this ⊢;exact this
theorem QX {n:Nat} {E:Nat→Nat→Prop} {rk:Nat→Nat} {out:List Int} (hG:Gr n E rk) (hI:Idm n E rk out) {a b:Nat} (ha:a<n) (hb:b<n):Ok (f23 out a b) fun y=>y=true↔Dom E a b:=by
 unfold f23
 have hT:=hI.T
 have hol:=hT.len
 refine bn (fun y:Int=>0≤y↔Dom E a b) ?_ fun y hy=>aA (by rw [decide_eq_true_eq];exact hy)
 refine bC (fun s:Int=>(s=-1∧¬ jl out a b)∨∃c:Nat,s=c∧c<n∧(jl out a b↔jl out a c)) (fun s=>if 0≤s then rk s.toNat+1 else 0) (.inr ⟨b,rfl,hb,Iff.rfl⟩) fun s hs => ?_
 rcases hs with ⟨e,hn⟩ | ⟨c,e,hc,hi⟩
 ·subst e
  refine bn (fun s=>s=false) (BN (by decide) (aA rfl)) fun s e => ?_
  subst e
  exact BN rfl (aA ⟨fun h=>absurd h (by omega),fun h=>absurd ((hI.iff ha hb).2 h) hn⟩)
 subst e
 refine bn (fun s=>s=!(decide (a=c))) (goT (by simp) (aA (by rw [show decide ((a:Int)=(c:Int))=decide (a=c) from decide_eq_decide.2 (by omega)]))) fun s e => ?_
 subst e
 refine bI (fun hne => ?_) fun heq=>aA ?_
 ·have hne:a≠c:=by simpa using hne
  refine bV (ak.2 ⟨by omega,by omega⟩) ?_
  simp only [Int.toNat_natCast,Ll (show c<out.length by omega)]
  refine aA ⟨?_,?_⟩
  ·by_cases hu:0≤up out c
   ·obtain ⟨v1,v2,v3⟩:=hT.val hc hu
    refine .inr ⟨(up out c).toNat,by omega,v1,hi.trans ⟨fun h=>DJ h hne,fun h=>.up hu h⟩⟩
   ·have:=hT.low hc
    refine .inl ⟨by omega,fun h => ?_⟩
    have:=hi.1 h
    cases this with
    |refl=>exact hne rfl
    |up h0 _=>exact hu h0
  ·rw [if_pos (by omega:(0:Int)≤(c:Int))]
   split
   ·rename_i hu
    obtain ⟨v1,v2,v3⟩:=hT.val hc hu
    omega
   ·omega
 ·have heq:a=c:=by simpa using heq
  subst heq
  exact ⟨fun _=>(hI.iff ha hb).1 (hi.2 .refl),fun _=>by omega⟩
theorem DK {f:aV} (hg:Good f) :∃(O:List Nat) (out:List Int),f14 f.name f.params f.regs f.blocks=some (O.map Int.ofNat)∧Od f.blocks.length (Ed f.blocks) O∧f9 f.name f.params f.regs f.blocks=some out∧Idm f.blocks.length (Ed f.blocks) (fun v=>O.idxOf v) out:=by
 obtain ⟨h1,h2,h3,h4⟩:=hg
 obtain ⟨O,e1,e2⟩:=abz (nm:=f.name) (pa:=f.params) (re:=f.regs) h1 h2 h3 h4
 obtain ⟨out,e3,e4⟩:=aeI h1 h2 h3 e1 e2
 exact ⟨O,out,e1,e2,e3,e4⟩
theorem BM {f:aV} (hg:Good f) {a b:Nat} (ha:a<f.blocks.length) (hb:b<f.blocks.length):Ok (f12 f.name f.params f.regs f.blocks a b) fun y=>y=true↔Dom (Ed f.blocks) a b:=by
 obtain ⟨O,out,e1,e2,e3,e4⟩:=DK hg
 unfold f12
 refine bn (fun y=>y=true↔Dom (Ed f.blocks) a b) (goT (decide_eq_true (by omega)) (goT (decide_eq_true (by omega)) (goT (decide_eq_true (by omega)) (goT (decide_eq_true (by omega)) (vX e3 (bn _ (QX e2.gr e4 ha hb) fun y hy=>aA hy)))))) fun y hy=>aA hy
theorem ahr {l:List Int} (h:l.length≤1000000):XK l=some (l.mergeSort fun x y=>decide (x≤y)):=by
 unfold XK
 have:decide (l.length<4611686018427387904)=true:=decide_eq_true (by omega)
 rw [this]
theorem QY {f:aV} (hg:Good f):Ok (f22 f.name f.params f.regs f.blocks) fun y=>(∀e∈y,∃u v:Nat,e=fE.mk u v∧Ed f.blocks u v∧Dom (Ed f.blocks) v u)∧(∀u v:Nat,Ed f.blocks u v→Dom (Ed f.blocks) v u→fE.mk u v∈y)∧y.length≤2000:=by
 obtain ⟨O,out,e1,e2,e3,e4⟩:=DK hg
 obtain ⟨hl,h0,hE,hC⟩:=hg
 unfold f22
 generalize f.blocks=bs at *
 refine vX e3 ?_
 refine bn (fun y=>(∀e∈y,∃u v:Nat,e=fE.mk u v∧Ed bs u v∧Dom (Ed bs) v u)∧(∀u v:Nat,Ed bs u v→Dom (Ed bs) v u→fE.mk u v∈y)∧y.length≤2000) ?_ fun y hy=>aA hy
 refine bC (fun s:Int×List fE =>∃i:Nat,s.1=i∧i≤bs.length∧(∀e∈s.2,∃u v:Nat,e=fE.mk u v∧Ed bs u v∧Dom (Ed bs) v u)∧(∀u v:Nat,u<i→Ed bs u v→Dom (Ed bs) v u→fE.mk u v∈s.2)∧s.2.length≤2*i) (fun s=>bs.length-s.1.toNat)
  ⟨0,rfl,by omega,by simp,fun u v h=>absurd h (Nat.not_lt_zero _),by simp⟩ fun ⟨i',acc⟩ ⟨i,q1,q2,q3,q4,q5⟩ => ?_
 simp only at q1 q3 q4 q5
 subst q1
 refine bI (fun hc => ?_) (fun hc=>aA ?_)
 rotate_left
 ·have:i=bs.length:=by simp at hc;omega
  exact ⟨q3,fun u v he hd=>q4 u v (by have:=he.1;omega) he hd,by simp only;omega⟩
 have hi:i<bs.length:=by simpa using hc
 refine bV (ak.2 ⟨by simp only;omega,by simp only;omega⟩) ?_
 simp only [Int.toNat_natCast]
 refine vX (BL _ _ _ _) ?_
 have hsd:succs (bs.getD i aj).bf (bs.getD i aj).dV (bs.getD i aj).bK=dn bs i:=rfl
 rw [hsd]
 have hl2:(dn bs i).length≤2:=by unfold dn succs;(repeat' split)<;>simp
 refine vX (ahr (by omega)) ?_
 have hmem :∀x,x∈((dn bs i).mergeSort fun x y=>decide (x≤y))↔x∈dn bs i:=fun x=>List.mem_mergeSort
 have hlen:((dn bs i).mergeSort fun x y=>decide (x≤y)).length=(dn bs i).length:=List.length_mergeSort _
 generalize ((dn bs i).mergeSort fun x y=>decide (x≤y))=l at hmem hlen
 have hin:=u_ hE hi
 have hw:cZ ((i:Int)+1)=((i+1:Nat):Int):=by rw [aN (by omega)];omega
 refine bn (fun y=>(∀e∈y,∃u v:Nat,e=fE.mk u v∧Ed bs u v∧Dom (Ed bs) v u)∧(∀u v:Nat,u<i+1→Ed bs u v→Dom (Ed bs) v u→fE.mk u v∈y)∧y.length≤2*(i+1)) ?_ fun y ⟨y1,y2,y3⟩=>by
  rw [hw]
  exact aA ⟨⟨i+1,rfl,by omega,y1,y2,y3⟩,by simp only [Int.toNat_natCast];omega⟩
 refine bC (fun s:Int×List fE =>∃j:Nat,s.1=j∧j≤l.length∧(∀e∈s.2,∃u v:Nat,e=fE.mk u v∧Ed bs u v∧Dom (Ed bs) v u)∧(∀u v:Nat,u<i→Ed bs u v→Dom (Ed bs) v u→fE.mk u v∈s.2)∧(∀v:Nat,(v:Int)∈l.take j→Dom (Ed bs) v i→fE.mk i v∈s.2)∧s.2.length≤2*i+j) (fun s=>l.length-s.1.toNat)
  ⟨0,rfl,by omega,q3,q4,by simp,by simp only;omega⟩ fun ⟨j',acc⟩ ⟨j,r1,r2,r3,r4,r5,r6⟩ => ?_
 simp only at r1 r3 r4 r5 r6
 subst r1
 refine bI (fun hc => ?_) (fun hc=>aA ?_)
 rotate_left
 ·have:j=l.length:=by simp at hc;omega
  rw [this,List.take_length] at r5
  refine ⟨r3,fun u v hu he hd => ?_,by simp only;omega⟩
  by_cases eu:u=i
  ·subst eu;exact r5 v ((hmem _).2 he.2) hd
  ·exact r4 u v (by omega) he hd
 have hj:j<l.length:=by simpa using hc
 refine bV (ak.2 ⟨by simp only;omega,by simp only;omega⟩) ?_
 have e:l.getD j 0=l[j]:=getD_at _ hj
 simp only [Int.toNat_natCast,e]
 have hlm:=(hmem _).1 (List.getElem_mem hj)
 have hr:=hin _ hlm
 obtain ⟨c,hc⟩ :∃c:Nat,l[j]=c:=⟨(l[j]).toNat,by omega⟩
 rw [hc] at hr hlm ⊢
 have hcn:c<bs.length:=by omega
 have hed:Ed bs i c:=⟨hi,hlm⟩
 have hw:cZ ((j:Int)+1)=((j+1:Nat):Int):=by rw [aN (by omega)];omega
 refine bn _ (QX e2.gr e4 hcn hi) fun d hd => ?_
 refine bn (fun y=>(∀e∈y,∃u v:Nat,e=fE.mk u v∧Ed bs u v∧Dom (Ed bs) v u)∧(∀e∈acc,e∈y)∧(Dom (Ed bs) c i→fE.mk i c∈y)∧y.length≤acc.length+1) ?_ fun y ⟨y1,y2,y3,y4⟩ => ?_
 ·refine bI (fun h=>bV (by unfold b_;simp;omega) (aA ⟨fun e he => ?_,fun e he=>List.mem_append_left _ he,fun _=>by simp,by simp⟩)) fun h=>aA ⟨r3,fun e he=>he,fun hh=>absurd (hd.2 hh) (by rw [h];simp),by omega⟩
  rcases List.mem_append.1 he with he | he
  ·exact r3 e he
  ·rw [List.mem_singleton] at he;subst he
   exact ⟨i,c,rfl,hed,hd.1 h⟩
 rw [hw]
 refine aA ⟨⟨j+1,rfl,by omega,y1,fun u v hu he hd=>y2 _ (r4 u v hu he hd),fun v hv hdv => ?_,by simp only;omega⟩,by simp only [Int.toNat_natCast];omega⟩
 rw [take_snoc hj,hc] at hv
 rcases List.mem_append.1 hv with hv | hv
 ·exact y2 _ (r5 v hv hdv)
 ·rw [List.mem_singleton] at hv
  have:v=c:=by omega
  subst this
  exact y3 hdv
theorem Yb {l:List (List Int)} {k:Nat} (h:k<l.length):l.set k (l.getD k eInt)=l:=by
 refine List.ext_getElem (by simp) fun j h1 h2 => ?_
 rw [List.getElem_set]
 split
 ·rename_i e;subst e;rw [getD_at _ h2]
 ·rfl
structure Fl (bs:List aJ) (h:Nat) (m:List Bool) (st:List Int):Prop where
 len:m.length=bs.length
 stk :∀z∈st,∃u:Nat,z=u∧u<bs.length∧Yj (Ed bs) h u
 snd :∀x,x<bs.length→m.getD x false=true→Yj (Ed bs) h x
 hd:(∃s,Ed bs s h∧Dom (Ed bs) h s)→m.getD h false=true
 src :∀s,Ed bs s h→Dom (Ed bs) h s→m.getD s false=true∨(s:Int)∈st
 cls :∀x,x<bs.length→m.getD x false=true→x≠h→∀u,Ed bs u x→m.getD u false=true∨(u:Int)∈st
theorem ahs {bs:List aJ} {h:Nat} {m:List Bool} (hE:mF bs) (hF:Fl bs h m []) :∀x,x<bs.length→(m.getD x false=true↔Yj (Ed bs) h x):=by
 have key :∀x,Lp (Ed bs) h x→m.getD x false=true:=by
  intro x hx
  induction hx with
  |src s1 s2 _=>exact (hF.src _ s1 s2).resolve_right (by simp)
  |pre hv he _ ih=>exact (hF.cls _ (Ji hE he).2 ih hv.ne _ he).resolve_right (by simp)
 intro x hx
 refine ⟨hF.snd x hx,fun hi => ?_⟩
 rcases hi with ⟨e,hs⟩ | hi
 ·subst e;exact hF.hd hs
 ·exact key x hi
theorem aeJ {f:aV} (hg:Good f) {h:Nat} (hh:h<f.blocks.length) {B:List fE} (hB1 :∀e∈B,∃u v:Nat,e=fE.mk u v∧Ed f.blocks u v∧Dom (Ed f.blocks) v u) (hB2 :∀u v:Nat,Ed f.blocks u v→Dom (Ed f.blocks) v u→fE.mk u v∈B) (hBl:B.length≤2000) :
  Ok (f21 f.name f.params f.regs f.blocks h B) fun m=>m.length=f.blocks.length∧∀x,x<f.blocks.length→(m.getD x false=true↔Yj (Ed f.blocks) h x):=by
 obtain ⟨hl,h0,hE,hC⟩:=hg
 unfold f21
 generalize f.blocks=bs at *
 refine bn _ (QW hE hl) fun P ⟨hP1,hP2⟩=>bV (lI.2 (by omega)) ?_
 simp only [Int.toNat_natCast]
 have hrep :∀x,(List.replicate bs.length false).getD x false=false:=fun x=>by
  rw [List.getD_eq_getElem?_getD,List.getElem?_replicate];split<;>rfl
 refine bn (fun s=>Fl bs h s.1 s.2∧s.2.length≤2000) ?_ fun ⟨m,st⟩ ⟨hF,hst⟩ => ?_
 ·refine bC (fun s:Int×List Bool×List Int =>∃i:Nat,s.1=i∧i≤B.length∧s.2.1.length=bs.length∧(∀x,x<bs.length→(s.2.1.getD x false=true↔x=h∧∃e∈B.take i,e.to=h))∧(∀z,z∈s.2.2↔∃e∈B.take i,e.to=h∧z=e.from')∧s.2.2.length≤i) (fun s=>B.length-s.1.toNat)
   ⟨0,rfl,by omega,by simp,fun x hx=>⟨fun h=>(by simp only at h;rw [hrep x] at h;cases h),fun h=>by obtain ⟨_,e,he,_⟩:=h;simp at he⟩,by simp,by simp⟩ fun ⟨i',m,st⟩ ⟨i,q1,q2,q3,q4,q5,q6⟩ => ?_
  simp only at q1 q3 q4 q5 q6
  subst q1
  refine bI (fun hc => ?_) (fun hc=>aA ?_)
  rotate_left
  ·have:i=B.length:=by simp at hc;omega
   rw [this,List.take_length] at q4 q5
   have hex:(∃e∈B,e.to=(h:Int))→∃s,Ed bs s h∧Dom (Ed bs) h s:=fun ⟨e,he,ht⟩=>by
    obtain ⟨u,v,ee,h1,h2⟩:=hB1 e he
    subst ee
    have:v=h:=by simp only at ht;omega
    subst this;exact ⟨u,h1,h2⟩
   have hto :∀s,Ed bs s h→Dom (Ed bs) h s→∃e∈B,e.to=(h:Int)∧e.from'=(s:Int):=fun s h1 h2=>⟨_,hB2 s h h1 h2,rfl,rfl⟩
   refine ⟨⟨q3,fun z hz => ?_,fun x hx hm => ?_,fun ⟨s,h1,h2⟩ => ?_,fun s h1 h2 => ?_,fun x hx hm hne => ?_⟩,by simp only;omega⟩
   ·obtain ⟨e,he,ht,ez⟩:=(q5 z).1 hz
    obtain ⟨u,v,ee,h1,h2⟩:=hB1 e he
    subst ee
    have:v=h:=by simp only at ht;omega
    subst this
    refine ⟨u,ez,h1.1,?_⟩
    by_cases e:u=v
    ·subst e;exact .inl ⟨rfl,_,h1,h2⟩
    ·exact .inr (.src h1 h2 e)
   ·obtain ⟨e,hs⟩:=(q4 x hx).1 hm
    exact .inl ⟨e,hex hs⟩
   ·obtain ⟨e,he,ht,_⟩:=hto s h1 h2
    exact (q4 h hh).2 ⟨rfl,e,he,ht⟩
   ·obtain ⟨e,he,ht,hf⟩:=hto s h1 h2
    exact .inr ((q5 _).2 ⟨e,he,ht,hf.symm⟩)
   ·exact absurd ((q4 x hx).1 hm).1 hne
  have hi:i<B.length:=by simpa using hc
  refine bV (ak.2 ⟨by simp only;omega,by simp only;omega⟩) ?_
  have e:B.getD i (fE.mk 0 0)=B[i]:=getD_at _ hi
  simp only [Int.toNat_natCast,e]
  have hw:cZ ((i:Int)+1)=((i+1:Nat):Int):=by rw [aN (by omega)];omega
  refine bn (fun y=>y.1.length=bs.length∧(∀x,x<bs.length→(y.1.getD x false=true↔x=h∧∃e∈B.take (i+1),e.to=h))∧(∀z,z∈y.2↔∃e∈B.take (i+1),e.to=h∧z=e.from')∧y.2.length≤i+1) ?_ fun ⟨y1,y2⟩ ⟨r1,r2,r3,r4⟩=>by
   rw [hw]
   exact aA ⟨⟨i+1,rfl,by omega,r1,r2,r3,r4⟩,by simp only [Int.toNat_natCast];omega⟩
  rw [take_snoc hi]
  have hex :∀p:fE→Prop,(∃e∈B.take i++[B[i]],p e)↔(∃e∈B.take i,p e)∨p B[i]:=fun p=>by
   constructor
   ·rintro ⟨e,he,hp⟩
    rcases List.mem_append.1 he with he | he
    ·exact .inl ⟨e,he,hp⟩
    ·rw [List.mem_singleton] at he;subst he;exact .inr hp
   ·rintro (⟨e,he,hp⟩ | hp)
    ·exact ⟨e,List.mem_append_left _ he,hp⟩
    ·exact ⟨_,List.mem_append_right _ (List.mem_singleton.2 rfl),hp⟩
  simp only [hex]
  refine bI (fun hc => ?_) (fun hc=>aA ⟨q3,fun x hx => ?_,fun z => ?_,by simp only;omega⟩)
  ·have hc:B[i].to=(h:Int):=by simpa using hc
   refine bV (ak.2 ⟨by omega,by omega⟩) (bV (by unfold b_;simp;omega) ?_)
   refine aA ⟨by simp [q3],fun x hx => ?_,fun z => ?_,by simp;omega⟩
   ·rw [mG (by omega)]
    by_cases ex:x=h
    ·rw [if_pos ex];exact ⟨fun _=>⟨ex,.inr hc⟩,fun _=>rfl⟩
    ·rw [if_neg ex,q4 x hx];exact ⟨fun h=>absurd h.1 ex,fun h=>absurd h.1 ex⟩
   ·rw [List.mem_append,q5 z,List.mem_singleton]
    exact ⟨fun h=>h.imp id fun e=>⟨hc,e⟩,fun h=>h.imp id fun e=>e.2⟩
  ·have hc:¬ B[i].to=(h:Int):=by simpa using hc
   rw [q4 x hx]
   exact ⟨fun h=>⟨h.1,.inl h.2⟩,fun h=>⟨h.1,h.2.resolve_right hc⟩⟩
  ·have hc:¬ B[i].to=(h:Int):=by simpa using hc
   rw [q5 z]
   exact ⟨fun h=>.inl h,fun h=>h.resolve_right fun e=>hc e.1⟩
 refine bn (fun m=>m.length=bs.length∧∀x,x<bs.length→(m.getD x false=true↔Yj (Ed bs) h x)) ?_ fun m hm=>aA hm
 have hcn:cntF m≤1000:=by have h1:=List.count_le_length (a:=false) (l:=m);have h2:m.length=bs.length:=hF.len;unfold cntF;omega
 have hst:st.length≤2000:=hst
 refine bC (fun s:List (List Int)×List Bool×List Int =>∃(m:List Bool) (st:List Int),s=(P,m,st)∧Fl bs h m st∧st.length+3000*cntF m≤4000000) (fun s=>s.2.2.length+3000*cntF s.2.1) ⟨m,st,rfl,hF,by omega⟩ fun s ⟨m,st,e,hF,hsz⟩ => ?_
 subst e
 refine bI (fun hne => ?_) (fun he=>aA ?_)
 rotate_left
 ·have:st=[]:=by simpa using he
  subst this
  exact ⟨hF.len,ahs hE hF⟩
 have hpos:0<st.length:=by simpa using hne
 have hw:cZ ((st.length:Int)-1)=((st.length-1:Nat):Int):=by rw [aN (by omega)];omega
 simp only [hw,Int.toNat_natCast]
 refine bV (ak.2 (by omega)) (bV (by simp) ?_)
 have hlast:st.getD (st.length-1) 0∈st:=by rw [getD_at _ (by omega)];exact List.getElem_mem _
 have hst:st=st.take (st.length-1)++[st.getD (st.length-1) 0]:=by
  rw [getD_at _ (by omega),←take_snoc (by omega),show st.length-1+1=st.length from by omega,List.take_length]
 obtain ⟨x,hx,hxn,hxi⟩:=hF.stk _ hlast
 generalize st.getD (st.length-1) 0=xv at hlast hst hx ⊢
 subst hx
 have htl:(st.take (st.length-1)).length=st.length-1:=by simp
 generalize st.take (st.length-1)=st' at hst htl ⊢
 have hml:=hF.len
 refine bV (ak.2 (by omega)) ?_
 simp only [Int.toNat_natCast]
 have hmem :∀{z:Int},z∈st→z∈st'∨z=x:=fun {z} hz=>by
  rw [hst] at hz
  rcases List.mem_append.1 hz with hz | hz
  ·exact .inl hz
  ·exact .inr (List.mem_singleton.1 hz)
 have hsub :∀{z:Int},z∈st'→z∈st:=fun {z} hz=>by rw [hst];exact List.mem_append_left _ hz
 refine bn (fun y =>∃m2 st2,y=(P,m2,st2)∧Fl bs h m2 st2∧st2.length+3000*cntF m2<st.length+3000*cntF m) ?_ fun y ⟨m2,st2,e,g1,g2⟩=>by subst e;exact aA ⟨⟨m2,st2,rfl,g1,by omega⟩,g2⟩
 refine bI (fun hc => ?_) (fun hc=>aA ⟨m,st',rfl,⟨hF.len,fun z hz=>hF.stk z (hsub hz),hF.snd,hF.hd,fun s h1 h2 => ?_,fun y hy hm hne u hu => ?_⟩,by omega⟩)
 ·have hmx:m.getD x false=false:=by simpa using hc
  have hPl:=(hP2 x hxn).2
  have hPm:=(hP2 x hxn).1
  have hpe:P.getD x eInt=P.getD x []:=rfl
  have hxh:x≠h:=fun e=>by
   subst e
   rcases hxi with ⟨_,hs⟩ | hl
   ·rw [hF.hd hs] at hmx;cases hmx
   ·exact hl.ne rfl
  refine bV (ak.2 (by omega)) (bV (ak.2 (by omega)) (bV ?_ ?_))
  ·have hpl:(P.getD x eInt).length≤2000:=hPl
   simp only [Bool.true_and,decide_eq_true_eq,Int.toNat_natCast];omega
  have hcs:=xX (by omega:x<m.length) hmx
  have hset :∀z,(m.set x true).getD z false=if z=x then true else m.getD z false:=fun z=>mG (by omega)
  have hup :∀z,m.getD z false=true→(m.set x true).getD z false=true:=fun z hz=>by
   rw [hset]
   split
   ·rfl
   ·exact hz
  refine aA ⟨m.set x true,st'++P.getD x [],by rw [Yb (by omega)],⟨by simp [hml],fun z hz => ?_,fun y hy hm => ?_,fun hs=>hup _ (hF.hd hs),fun s h1 h2 => ?_,fun y hy hm hne u hu => ?_⟩,by simp only [List.length_append];omega⟩
  ·rcases List.mem_append.1 hz with hz | hz
   ·exact hF.stk z (hsub hz)
   ·obtain ⟨u,e,hu⟩:=(hPm z).1 hz
    exact ⟨u,e,hu.1,hxi.pred hu hxh⟩
  ·rw [hset] at hm
   split at hm
   ·rename_i e;rw [e];exact hxi
   ·exact hF.snd y hy hm
  ·rcases hF.src s h1 h2 with g | g
   ·exact .inl (hup s g)
   ·rcases hmem g with g | g
    ·exact .inr (List.mem_append_left _ g)
    ·have:s=x:=by omega
     subst this
     exact .inl (by rw [hset,if_pos rfl])
  ·by_cases e:y=x
   ·subst e
    exact .inr (List.mem_append_right _ ((hPm _).2 ⟨u,rfl,hu⟩))
   ·rw [hset,if_neg e] at hm
    rcases hF.cls y hy hm hne u hu with g | g
    ·exact .inl (hup u g)
    ·rcases hmem g with g | g
     ·exact .inr (List.mem_append_left _ g)
     ·have:u=x:=by omega
      subst this
      exact .inl (by rw [hset,if_pos rfl])
 ·have hmx:m.getD x false=true:=by simpa using hc
  rcases hF.src s h1 h2 with g | g
  ·exact .inl g
  ·rcases hmem g with g | g
   ·exact .inr g
   ·exact .inl (by rw [show s=x by omega];exact hmx)
 ·have hmx:m.getD x false=true:=by simpa using hc
  rcases hF.cls y hy hm hne u hu with g | g
  ·exact .inl g
  ·rcases hmem g with g | g
   ·exact .inr g
   ·exact .inl (by rw [show u=x by omega];exact hmx)
theorem aeK {f:aV} (hg:Good f) {h:Nat} (hh:h<f.blocks.length):Ok (f11 f.name f.params f.regs f.blocks h) fun y =>∃L:List Nat,y=L.map Int.ofNat∧L.Pairwise (· < ·)∧L.length≤1000∧∀x,x∈L↔x<f.blocks.length∧Yj (Ed f.blocks) h x:=by
 have hl:=hg.1
 unfold f11
 refine bn _ (QY hg) fun B ⟨b1,b2,b3⟩=>bn _ (aeJ hg hh b1 b2 b3) fun m ⟨m1,m2⟩ => ?_
 generalize f.blocks=bs at *
 refine bn (fun y=>y=((List.range m.length).filter fun x=>m.getD x false).map Int.ofNat) ?_ fun y e=>aA ⟨_,e,(List.pairwise_lt_range).filter _,Nat.le_trans (List.length_filter_le _ _) (by simp;omega),fun x => ?_⟩
 rotate_left
 ·rw [List.mem_filter,List.mem_range,m1]
  exact ⟨fun h=>⟨h.1,(m2 x h.1).1 h.2⟩,fun h=>⟨h.1,(m2 x h.1).2 h.2⟩⟩
 refine bC (fun s:Int×List Int =>∃i:Nat,s.1=i∧i≤m.length∧s.2=((List.range i).filter fun x=>m.getD x false).map Int.ofNat) (fun s=>m.length-s.1.toNat) ⟨0,rfl,by omega,rfl⟩ fun ⟨i',acc⟩ ⟨i,q1,q2,q3⟩ => ?_
 simp only at q1 q3
 subst q1;subst q3
 refine bI (fun hc => ?_) (fun hc=>aA ?_)
 rotate_left
 ·have:i=m.length:=by simp at hc;omega
  subst this;rfl
 have hi:i<m.length:=by simpa using hc
 have hfl:((List.range i).filter fun x=>m.getD x false).length≤i:=by have:=List.length_filter_le (fun x=>m.getD x false) (List.range i);simpa using this
 refine bV (ak.2 ⟨by simp only;omega,by simp only;omega⟩) ?_
 simp only [Int.toNat_natCast]
 have hw:cZ ((i:Int)+1)=((i+1:Nat):Int):=by rw [aN (by omega)];omega
 refine bn (fun y=>y=((List.range (i+1)).filter fun x=>m.getD x false).map Int.ofNat) ?_ fun y e=>by
  subst e;rw [hw]
  exact aA ⟨⟨i+1,rfl,by omega,rfl⟩,by simp only [Int.toNat_natCast];omega⟩
 rw [List.range_succ,List.filter_append,List.map_append]
 refine bI (fun h=>bV (by unfold b_;simp only [List.length_map,List.length_singleton,Bool.true_and,decide_eq_true_eq];omega) (aA ?_)) fun h=>aA ?_
 ·rw [List.filter_cons_of_pos (by simpa using h)];rfl
 ·rw [List.filter_cons_of_neg (by rw [h];simp)];simp
theorem Ut {l₁ l₂:List Nat} (h1:l₁.Pairwise (· < ·)) (h2:l₂.Pairwise (· < ·)) (h :∀x,x∈l₁↔x∈l₂):l₁=l₂:=by
 have n1:l₁.Nodup:=h1.imp fun h=>Nat.ne_of_lt h
 have n2:l₂.Nodup:=h2.imp fun h=>Nat.ne_of_lt h
 exact List.Perm.eq_of_pairwise (le:=fun a b=>a<b) (fun a b _ _ h h'=>absurd h (by omega)) h1 h2 ((List.perm_ext_iff_of_nodup n1 n2).2 h)
def Yl:aV:=aV.mk dN 0 1 [aJ.mk rC 2 0 1 2 0 0 0,aJ.mk rC 1 0 0 0 0 0 0,aJ.mk rC 3 0 0 0 0 0 0]
theorem aht:dn Yl.blocks 0=[1,2]∧dn Yl.blocks 1=[0]∧dn Yl.blocks 2=[]:=⟨rfl,rfl,rfl⟩
theorem Wn:Good Yl:=by
 have hlen:Yl.blocks.length=3:=rfl
 have h3 :∀b,b<3→b=0∨b=1∨b=2:=fun b hb=>by omega
 refine ⟨by rw [hlen];omega,by rw [hlen];omega,⟨fun b hb => ?_,fun b hb => ?_⟩,fun S s0 hs b hb => ?_⟩
 ·rw [hlen] at hb ⊢
  rcases h3 b hb with e | e | e<;>subst e<;>simp [Yl]
 ·rw [hlen] at hb
  rcases h3 b hb with e | e | e<;>subst e<;>simp [Yl]
 ·rw [hlen] at hb
  have h0:=hs 0 (by rw [hlen];omega) s0
  have g1:S 1:=h0.1 (by simp [Yl])
  have g2:S 2:=h0.2 (by simp [Yl])
  rcases h3 b hb with e | e | e<;>subst e<;>assumption
theorem afq (x:Nat) (hx:x<3):Yj (Ed Yl.blocks) 0 x↔x=0∨x=1:=by
 obtain ⟨e0,e1,e2⟩:=aht
 have h10:Ed Yl.blocks 1 0:=⟨by decide,by rw [e1];simp⟩
 constructor
 ·intro h
  rcases h with ⟨e,_⟩ | h
  ·exact .inl e
  ·have h2 :∀y,¬ Ed Yl.blocks 2 y:=fun y hy=>by have:=hy.2;rw [e2] at this;cases this
   have:x≠2:=fun e=>by
    subst e
    cases h with
    |src h _ _=>exact h2 _ h
    |pre _ h _=>exact h2 _ h
   omega
 ·rintro (e | e)
  ·subst e;exact .inl ⟨rfl,1,h10,xU 1⟩
  ·subst e;exact .inr (.src h10 (xU 1) (by omega))
theorem abA:f6=some true:=by
 apply ok_eq
 unfold f6
 have hl:=aeK Wn (h:=0) (by decide)
 refine bn _ hl fun y ⟨L,e,hp,_,hm⟩ => ?_
 have hL:L=[0,1]:=Ut hp (by simp) fun x=>by
  rw [hm x]
  constructor
  ·rintro ⟨h1,h2⟩
   have:=(afq x h1).1 h2
   simp;omega
  ·intro h
   have h:x=0∨x=1:=by simpa using h
   have hx:x<3:=by omega
   exact ⟨hx,(afq x hx).2 h⟩
 subst hL
 subst e
 refine bn (fun y=>y=true) (goT rfl (bV rfl (goT rfl (bn _ (BM Wn (a:=0) (b:=2) (by decide) (by decide)) fun y hy=>aA (hy.2 (xU 2)))))) fun y e=>aA e
theorem QZ {B:List fE} {u v:Int} (hl:B.length≤1000000):Ok (f27 B u v) fun y=>y=true↔fE.mk u v∈B:=by
 unfold f27
 refine bn (fun y:Int=>0≤y↔fE.mk u v∈B) ?_ fun y hy=>aA (by rw [decide_eq_true_eq];exact hy)
 unfold f34
 refine qX (fun _=>fE.mk u v∉B) ?_ fun _ h=>aA ⟨fun h'=>absurd h' (by omega),fun h'=>absurd h' h⟩
 refine bC (fun s:Int =>∃i:Nat,s=i∧i≤B.length∧fE.mk u v∉B.take i) (fun s=>B.length-s.toNat) ⟨0,rfl,by omega,by simp⟩ fun s ⟨i,e1,e2,e3⟩ => ?_
 subst e1
 refine bI (fun hc => ?_) (fun hc=>aA ?_)
 rotate_left
 ·have:i=B.length:=by simp at hc;omega
  rw [this,List.take_length] at e3
  exact e3
 have hi:i<B.length:=by simpa using hc
 have hw:cZ ((i:Int)+1)=((i+1:Nat):Int):=by rw [aN (by omega)];omega
 refine bV (ak.2 ⟨by omega,by omega⟩) ?_
 have e:B.getD i (fE.mk 0 0)=B[i]:=getD_at _ hi
 simp only [Int.toNat_natCast,e]
 refine bI (fun h=>aA ?_) fun h => ?_
 ·have h:u=B[i].from'∧v=B[i].to:=by simpa using h
  have:fE.mk u v=B[i]:=by rw [h.1,h.2]
  exact ⟨fun _=>this▸List.getElem_mem hi,fun _=>by omega⟩
 ·rw [hw]
  refine aA ⟨⟨i+1,rfl,by omega,?_⟩,by simp only [Int.toNat_natCast];omega⟩
  rw [take_snoc hi]
  simp only [List.mem_append,List.mem_singleton,not_or]
  refine ⟨e3,fun e => ?_⟩
  rw [←e] at h
  simp at h
def Fe (bs:List aJ) (u v:Nat):Prop:=Ed bs u v∧¬ Dom (Ed bs) v u
theorem Yc (bs:List aJ) (b:Nat):(dn bs b).Nodup:=by
 unfold dn succs
 split
 ·rename_i h;simp;exact fun e=>h.2 e.symm
 ·split<;>simp
open Classical in
def Bu (bs:List aJ) (i j:Nat) (left:List Int) (fwd:List (List Int)):Prop:=
 left.length=bs.length∧fwd.length=bs.length∧(∀v,v<bs.length→left.getD v 0=(cn (Fe bs) [] v i:Nat)+if (v:Int)∈(dn bs i).take j∧Fe bs i v then (1:Int) else 0)∧
 ∀u,u<bs.length→(fwd.getD u []).Nodup∧(fwd.getD u []).length≤2∧∀x,x∈fwd.getD u []↔∃v:Nat,x=v∧Fe bs u v∧(u<i∨(u=i∧(v:Int)∈(dn bs i).take j))
open Classical in
theorem abB {f:aV} (hg:Good f) {B:List fE} (hB :∀u v:Nat,Ed f.blocks u v→(fE.mk u v∈B↔Dom (Ed f.blocks) v u)) (hBl:B.length≤2000) {body:Int×List Int×List (List Int)→Option ((Int×List Int×List (List Int)) ⊕ (List Int×List (List Int)))}
  (hbody:body=fun s6=>bif decide (s6.1<(f.blocks.length:Int)) then ck (inB s6.1 f.blocks.length) <| OB (f25 (f.blocks.getD s6.1.toNat aj).bf (f.blocks.getD s6.1.toNat aj).oH (f.blocks.getD s6.1.toNat aj).dV (f.blocks.getD s6.1.toNat aj).bK) fun c9=>
   OB (aZ (fun (s11:(Int×List Int×List (List Int)))=>
   bif (decide (s11.1<(c9.length:Int))) then
    ck (inB s11.1 c9.length) <|
    let n13:=(List.getD c9 s11.1.toNat 0)
    OB (f27 B s6.1 n13) fun c14=>
    OB (
    bif (!c14) then
     ck (inB s6.1 s11.2.2.length) <|
     let n16:=[n13]
     ck (true&&(decide ((((List.length (List.getD s11.2.2 s6.1.toNat eInt))+n16.length)*(8:Nat))≤(140737488355328:Nat)))) <|
     ck (inB s6.1 s11.2.2.length) <|
     ck (Nat.beq s6.1.toNat s6.1.toNat) <|
     ck (inB n13 s11.2.1.length) <|
     ck (inB n13 s11.2.1.length) <|
     some ((List.set s11.2.1 n13.toNat (cZ ((List.getD s11.2.1 n13.toNat 0)+1))),(List.set s11.2.2 s6.1.toNat ((List.getD s11.2.2 s6.1.toNat eInt)++n16)))
    else
     some (s11.2.1,s11.2.2)) fun kY=>
    some (.inl ((cZ (s11.1+1)),kY.1,kY.2))
   else
    some (.inr (s11.2.1,s11.2.2))) ((0:Int),s6.2.1,s6.2.2)) fun s24=>some (.inl ((cZ (s6.1+1)),s24.1,s24.2))
   else some (.inr (s6.2.1,s6.2.2))) :
  Ok (aZ body ((0:Int),List.replicate f.blocks.length (0:Int),List.replicate f.blocks.length eInt)) fun y=>Bu f.blocks f.blocks.length 0 y.1 y.2:=by
 obtain ⟨hl,h0,hE,hC⟩:=hg
 subst hbody
 generalize f.blocks=bs at *
 refine bC (fun s:Int×List Int×List (List Int) =>∃i:Nat,s.1=i∧i≤bs.length∧Bu bs i 0 s.2.1 s.2.2) (fun s=>bs.length-s.1.toNat) ⟨0,rfl,by omega,by simp,by simp,fun v hv => ?_,fun u hu => ?_⟩ fun ⟨i',left,fwd⟩ ⟨i,q1,q2,q3⟩ => ?_
 ·rw [getD_at _ (by simpa using hv)]
  simp [cn]
 ·rw [getD_at _ (by simpa using hu)]
  simp
 simp only at q1 q3
 subst q1
 refine bI (fun hc => ?_) (fun hc=>aA ?_)
 rotate_left
 ·have:i=bs.length:=by simp at hc;omega
  subst this;exact q3
 have hi:i<bs.length:=by simpa using hc
 refine bV (ak.2 ⟨by simp only;omega,by simp only;omega⟩) ?_
 simp only [Int.toNat_natCast]
 refine vX (BL _ _ _ _) ?_
 have hsd:succs (bs.getD i aj).bf (bs.getD i aj).dV (bs.getD i aj).bK=dn bs i:=rfl
 rw [hsd]
 have hin:=u_ hE hi
 have hl2:(dn bs i).length≤2:=by unfold dn succs;(repeat' split)<;>simp
 have hsn:=Yc bs i
 have hwi:cZ ((i:Int)+1)=((i+1:Nat):Int):=by rw [aN (by omega)];omega
 refine bn (fun y=>Bu bs i (dn bs i).length y.1 y.2) ?_ fun ⟨l2,f2⟩ ⟨g1,g2,g3,g4⟩ => ?_
 rotate_left
 ·rw [hwi]
  refine aA ⟨⟨i+1,rfl,by omega,g1,g2,fun v hv => ?_,fun u hu=>⟨(g4 u hu).1,(g4 u hu).2.1,fun x => ?_⟩⟩,by simp only [Int.toNat_natCast];omega⟩
  ·simp only
   rw [g3 v hv,List.take_length]
   have h1:cn (Fe bs) [] v (i+1)=cn (Fe bs) [] v i+if Fe bs i v∧i∉([]:List Nat) then 1 else 0:=rfl
   rw [h1]
   by_cases hf:Fe bs i v
   ·rw [if_pos ⟨hf.1.2,hf⟩,if_pos ⟨hf,List.not_mem_nil⟩,if_neg fun h=>List.not_mem_nil h.1];omega
   ·rw [if_neg fun h=>hf h.2,if_neg fun h=>hf h.1,if_neg fun h=>List.not_mem_nil h.1];omega
  ·simp only
   rw [(g4 u hu).2.2 x]
   simp only [List.take_length,List.take_zero,List.not_mem_nil,and_false,or_false]
   constructor
   ·rintro ⟨v,e,hf,h | ⟨h,_⟩⟩
    ·exact ⟨v,e,hf,by omega⟩
    ·exact ⟨v,e,hf,by omega⟩
   ·rintro ⟨v,e,hf,h⟩
    by_cases eu:u=i
    ·subst eu;exact ⟨v,e,hf,.inr ⟨rfl,hf.1.2⟩⟩
    ·exact ⟨v,e,hf,.inl (by omega)⟩
 refine bC (fun s:Int×List Int×List (List Int) =>∃j:Nat,s.1=j∧j≤(dn bs i).length∧Bu bs i j s.2.1 s.2.2) (fun s=>(dn bs i).length-s.1.toNat) ⟨0,rfl,by omega,q3⟩ fun ⟨j',left,fwd⟩ ⟨j,r1,r2,g1,g2,g3,g4⟩ => ?_
 simp only at r1 g1 g2 g3 g4
 subst r1
 refine bI (fun hc => ?_) (fun hc=>aA ?_)
 rotate_left
 ·have:j=(dn bs i).length:=by simp at hc;omega
  subst this;exact ⟨g1,g2,g3,g4⟩
 have hj:j<(dn bs i).length:=by simpa using hc
 refine bV (ak.2 ⟨by simp only;omega,by simp only;omega⟩) ?_
 have e:(dn bs i).getD j 0=(dn bs i)[j]:=getD_at _ hj
 simp only [Int.toNat_natCast,e]
 have hmem:=List.getElem_mem hj
 have hr:=hin _ hmem
 obtain ⟨c,hc⟩ :∃c:Nat,(dn bs i)[j]=c:=⟨((dn bs i)[j]).toNat,by omega⟩
 have htk:(c:Int)∉(dn bs i).take j:=fun h=>by
  obtain ⟨k,hk,e⟩:=List.getElem_of_mem h
  rw [List.getElem_take] at e
  rw [List.length_take] at hk
  have:=(List.getElem_inj hsn).1 (e.trans hc.symm)
  omega
 rw [hc] at hmem hr ⊢
 have hcn:c<bs.length:=by omega
 have hed:Ed bs i c:=⟨hi,hmem⟩
 have hwj:cZ ((j:Int)+1)=((j+1:Nat):Int):=by rw [aN (by omega)];omega
 refine bn _ (QZ (by omega)) fun d hd=>bn (fun y=>Bu bs i (j+1) y.1 y.2) ?_ fun y hy=>by
  rw [hwj];exact aA ⟨⟨j+1,rfl,by omega,hy⟩,by simp only [Int.toNat_natCast];omega⟩
 have hdd:d=true↔Dom (Ed bs) c i:=hd.trans (hB i c hed)
 have htake :∀v:Nat,(v:Int)∈(dn bs i).take (j+1)↔(v:Int)∈(dn bs i).take j∨v=c:=fun v=>by
  rw [take_snoc hj,List.mem_append,List.mem_singleton,hc]
  exact or_congr Iff.rfl ⟨fun h=>by omega,fun h=>by omega⟩
 refine bI (fun hf => ?_) (fun hf=>aA ⟨g1,g2,fun v hv => ?_,fun u hu=>⟨(g4 u hu).1,(g4 u hu).2.1,fun x => ?_⟩⟩)
 ·have hfe:Fe bs i c:=⟨hed,fun h=>by rw [hdd.2 h] at hf;cases hf⟩
  obtain ⟨k1,k2,k3⟩:=g4 i hi
  have hlen:(fwd.getD i eInt).length≤2:=k2
  refine bV (ak.2 ⟨by omega,by omega⟩) (bV (by simp only [Bool.true_and,decide_eq_true_eq,List.length_singleton];omega) (bV (ak.2 ⟨by omega,by omega⟩) (bV (by simp) (bV (ak.2 ⟨by omega,by omega⟩) (bV (ak.2 ⟨by omega,by omega⟩) ?_)))))
  simp only [Int.toNat_natCast]
  have hlc:left.getD c 0=(cn (Fe bs) [] c i:Nat):=by
   have:=g3 c hcn
   rw [if_neg fun h=>htk h.1] at this
   omega
  have aoj:=afo (F:=Fe bs) (P:=[]) (v:=c) i
  rw [hlc,aN (by omega)]
  have hpe:fwd.getD i eInt=fwd.getD i []:=rfl
  have hlen2:(fwd.getD i []++[(c:Int)]).length≤2:=by
   have hsub :∀a∈fwd.getD i []++[(c:Int)],a∈dn bs i:=fun a ha=>by
    rcases List.mem_append.1 ha with ha | ha
    ·obtain ⟨v,e,hf,_⟩:=(k3 a).1 ha
     rw [e];exact hf.1.2
    ·rw [List.mem_singleton] at ha;rw [ha];exact hmem
   have hnd:(fwd.getD i []++[(c:Int)]).Nodup:=by
    rw [List.nodup_append]
    refine ⟨k1,by simp,fun a ha b hb e => ?_⟩
    rw [List.mem_singleton] at hb
    obtain ⟨v,ev,_,h⟩:=(k3 a).1 ha
    rcases h with h | ⟨_,h⟩
    ·omega
    ·have:v=c:=by omega
     subst this;exact htk h
   have:=List.Nodup.length_le_of_subset hnd hsub
   omega
  refine aA ⟨by simp [g1],by simp [g2],fun v hv => ?_,fun u hu => ?_⟩
  ·simp only
   rw [qy (by omega)]
   by_cases ev:v=c
   ·subst ev
    rw [if_pos rfl,if_pos ⟨(htake v).2 (.inr rfl),hfe⟩]
   ·rw [if_neg ev,g3 v hv]
    have:((v:Int)∈(dn bs i).take (j+1)∧Fe bs i v)↔((v:Int)∈(dn bs i).take j∧Fe bs i v):=by rw [htake v];exact ⟨fun h=>⟨h.1.resolve_right ev,h.2⟩,fun h=>⟨.inl h.1,h.2⟩⟩
    simp only [this]
  ·simp only
   rw [hpe,DI (by omega)]
   by_cases eu:u=i
   ·subst eu
    rw [if_pos rfl]
    refine ⟨?_,hlen2,fun x => ?_⟩
    ·rw [List.nodup_append]
     refine ⟨k1,by simp,fun a ha b hb e => ?_⟩
     rw [List.mem_singleton] at hb
     obtain ⟨v,ev,_,h⟩:=(k3 a).1 ha
     rcases h with h | ⟨_,h⟩
     ·omega
     ·have:v=c:=by omega
      subst this;exact htk h
    ·rw [List.mem_append,k3 x,List.mem_singleton]
     constructor
     ·rintro (⟨v,e,hf,h | ⟨h,h'⟩⟩ | h)
      ·omega
      ·exact ⟨v,e,hf,.inr ⟨rfl,(htake v).2 (.inl h')⟩⟩
      ·exact ⟨c,h,hfe,.inr ⟨rfl,(htake c).2 (.inr rfl)⟩⟩
     ·rintro ⟨v,e,hf,h | ⟨_,h⟩⟩
      ·omega
      ·rcases (htake v).1 h with h | h
       ·exact .inl ⟨v,e,hf,.inr ⟨rfl,h⟩⟩
       ·subst h;exact .inr e
   ·rw [if_neg eu]
    obtain ⟨m1,m2,m3⟩:=g4 u hu
    refine ⟨m1,m2,fun x => ?_⟩
    rw [m3 x]
    constructor
    ·rintro ⟨v,e,hf,h | ⟨h,_⟩⟩
     ·exact ⟨v,e,hf,.inl h⟩
     ·exact absurd h eu
    ·rintro ⟨v,e,hf,h | ⟨h,_⟩⟩
     ·exact ⟨v,e,hf,.inl h⟩
     ·exact absurd h eu
 ·have hdom:Dom (Ed bs) c i:=hdd.1 (by simpa using hf)
  simp only
  rw [g3 v hv]
  have:((v:Int)∈(dn bs i).take (j+1)∧Fe bs i v)↔((v:Int)∈(dn bs i).take j∧Fe bs i v):=by
   rw [htake v]
   exact ⟨fun h=>⟨h.1.resolve_right fun e=>by subst e;exact h.2.2 hdom,h.2⟩,fun h=>⟨.inl h.1,h.2⟩⟩
  simp only [this]
 ·have hdom:Dom (Ed bs) c i:=hdd.1 (by simpa using hf)
  simp only
  rw [(g4 u hu).2.2 x]
  constructor
  ·rintro ⟨v,e,hf,h | ⟨h,h'⟩⟩
   ·exact ⟨v,e,hf,.inl h⟩
   ·exact ⟨v,e,hf,.inr ⟨h,(htake v).2 (.inl h')⟩⟩
  ·rintro ⟨v,e,hf,h | ⟨h,h'⟩⟩
   ·exact ⟨v,e,hf,.inl h⟩
   ·rcases (htake v).1 h' with h' | h'
    ·exact ⟨v,e,hf,.inr ⟨h,h'⟩⟩
    ·subst h';subst h;exact absurd hdom hf.2
theorem abC {bs:List aJ} (hE:mF bs) (u v:Nat) (h:Fe bs u v):u<bs.length∧v<bs.length:=Ji hE h.1
theorem abD {bs:List aJ} {O:List Nat} (hE:mF bs) (hO:Od bs.length (Ed bs) O) {left:List Int} (hl:left.length=bs.length) (hc :∀v,v<bs.length→left.getD v 0=(cn (Fe bs) [] v bs.length:Nat)):Kh bs.length (Fe bs) left [] [0]:=by
 have hG:=hO.gr
 have h0 :∀u,¬ Fe bs u 0:=fun u h=>h.2 (xU u)
 refine ⟨hl,by simp,fun v hv => ?_,hc,fun v hv => ?_,fun v hv hz => ?_,fun C h hC v hv => ?_⟩
 ·have:v=0:=by simpa using hv
  subst this;exact hG.pos
 ·have:v=0:=by simpa using hv
  subst this
  exact (yF _).2 fun u _ hf=>absurd hf (h0 u)
 ·refine Classical.byContradiction fun hn => ?_
  have hv0:v≠0:=fun e=>hn (by simp [e])
  obtain ⟨u,hu,hr⟩:=hG.pred hv hv0
  have hun:=(Ji hE hu).1
  have:=(yF _).1 hz u hun ⟨hu,fun hd=>by have:=NS hG hv hun hd;omega⟩
  cases this
 ·have:v=0:=by simpa using hv
  subst this;exact h
theorem Lm {l:List Int} (h :∀x∈l,0≤x) (v:Nat):v∈l.map Int.toNat↔(v:Int)∈l:=by
 rw [List.mem_map]
 exact ⟨fun ⟨x,hx,e⟩=>by have:=h x hx;rw [←e,Int.toNat_of_nonneg this];exact hx,fun h=>⟨v,h,by simp⟩⟩
theorem NZ {f:aV} (hg:Good f) {O:List Nat} (hO:Od f.blocks.length (Ed f.blocks) O):Ok (f15 f.name f.params f.regs f.blocks) fun y=>y=true↔¬∃b x,Fe f.blocks b x∧O.idxOf x≤O.idxOf b:=by
 unfold f15
 refine bn _ (QY hg) fun B ⟨b1,b2,b3⟩ => ?_
 have hB :∀u v:Nat,Ed f.blocks u v→(fE.mk u v∈B↔Dom (Ed f.blocks) v u):=fun u v he=>⟨fun h=>by
  obtain ⟨u',v',e,_,hd⟩:=b1 _ h
  have e1:=congrArg fE.from' e
  have e2:=congrArg fE.to e
  simp only at e1 e2
  rw [show v=v' by omega,show u=u' by omega];exact hd,fun h=>b2 u v he h⟩
 have hbuild:=fun body hbody=>abB hg hB b3 (body:=body) hbody
 obtain ⟨hl,h0,hE,hC⟩:=hg
 refine bV (lI.2 (by omega)) (bV (lI.2 (by omega)) ?_)
 simp only [Int.toNat_natCast]
 refine bn _ (hbuild _ rfl) fun ⟨left,fwd⟩ ⟨g1,g2,g3,g4⟩ => ?_
 generalize f.blocks=bs at *
 simp only at g1 g2 g3 g4 ⊢
 have hcnt :∀v,v<bs.length→left.getD v 0=(cn (Fe bs) [] v bs.length:Nat):=fun v hv=>by
  have:=g3 v hv
  simp only [List.take_zero,List.not_mem_nil,false_and,if_false] at this
  omega
 have hfw :∀u,u<bs.length→(fwd.getD u []).Nodup∧(fwd.getD u []).length≤2∧∀x,x∈fwd.getD u []↔∃v:Nat,x=v∧Fe bs u v:=fun u hu=>⟨(g4 u hu).1,(g4 u hu).2.1,fun x=>by
  rw [(g4 u hu).2.2 x]
  exact ⟨fun ⟨v,e,hf,_⟩=>⟨v,e,hf⟩,fun ⟨v,e,hf⟩=>⟨v,e,hf,.inl hu⟩⟩⟩
 have hK0:=abD hE hO g1 hcnt
 have hl0:left.getD (Int.toNat 0) 0=0:=by
  have:=hcnt 0 h0
  rw [hK0.zr 0 (by simp)] at this;exact this
 refine bV (ak.2 ⟨by omega,by omega⟩) (BN (by rw [hl0];rfl) ?_)
 refine bn (fun y:Int =>∃left P,y=(P.length:Nat)∧Kh bs.length (Fe bs) left P []) ?_ fun y ⟨left,P,e,hK⟩=>aA ?_
 rotate_left
 ·subst e
  refine Iff.trans ?_ (ahi (F:=Fe bs) hO (fun u v=>Iff.rfl) hK)
  rw [decide_eq_true_eq]
  omega
 refine bC (fun s:List (List Int)×Int×List Int×List Int =>∃(left:List Int) (P W:List Nat),s=(fwd,(P.length:Int),left,W.map Int.ofNat)∧Kh bs.length (Fe bs) left P W) (fun s=>bs.length-s.2.1.toNat) ⟨left,[],[0],rfl,hK0⟩ fun s ⟨left,P,W,e,hK⟩ => ?_
 subst e
 have hPW:(P++W).length≤bs.length:=by
  have:=List.Nodup.length_le_of_subset hK.nd (l₂:=List.range bs.length) fun a ha=>List.mem_range.2 (hK.inn a ha)
  simpa using this
 rw [List.length_append] at hPW
 refine bI (fun hne => ?_) (fun he=>aA ?_)
 rotate_left
 ·have:W=[]:=by
   have:W.length=0:=by simp at he;simp [he]
   exact List.length_eq_zero_iff.1 this
  subst this
  exact ⟨left,P,rfl,hK⟩
 rcases List.eq_nil_or_concat W with e | ⟨W',b,e⟩
 ·subst e;simp at hne
 have e:W=W'++[b]:=by simpa using e
 subst e
 have hWl:((W'++[b]).map Int.ofNat).length=W'.length+1:=by simp
 have hw1:cZ ((((W'++[b]).map Int.ofNat).length:Int)-1)=(W'.length:Nat):=by
  rw [hWl];simp only [List.length_append,List.length_singleton] at hPW;rw [aN (by omega)];omega
 have hgb:((W'++[b]).map Int.ofNat).getD W'.length 0=(b:Int):=by
  rw [getD_at _ (by simp)];simp
 have htk:((W'++[b]).map Int.ofNat).take W'.length=W'.map Int.ofNat:=by simp
 have hbn:b<bs.length:=hK.inn b (by simp)
 have hbP:b∉P:=fun h=>by
  have:=hK.nd
  rw [List.nodup_append] at this
  exact this.2.2 b h b (by simp) rfl
 simp only [List.length_append,List.length_singleton] at hPW
 simp only [hw1,Int.toNat_natCast,hgb,htk]
 refine bV (ak.2 ⟨by omega,by rw [hWl];omega⟩) (bV (by rw [hWl];simp;omega) (bV (ak.2 ⟨by omega,by omega⟩) ?_))
 obtain ⟨l1,l2,l3⟩:=hfw b hbn
 have hpe:fwd.getD b eInt=fwd.getD b []:=rfl
 rw [hpe]
 generalize fwd.getD b []=l at l1 l2 l3 ⊢
 have hnn :∀x∈l,0≤x:=fun x hx=>by obtain ⟨v,e,_⟩:=(l3 x).1 hx;omega
 have hT :∀v,v∈l.map Int.toNat↔Fe bs b v:=fun v=>by
  rw [Lm hnn,l3]
  exact ⟨fun ⟨w,e,h⟩=>by rw [show v=w by omega];exact h,fun h=>⟨v,rfl,h⟩⟩
 have hwd:cZ ((P.length:Int)+1)=((P++[b]).length:Nat):=by rw [aN (by omega)];simp
 refine bn (fun y =>∃left' N,y=(left',(W'++N).map Int.ofNat)∧Kj bs.length (Fe bs) left' P W' b (l.map Int.toNat) N) ?_ fun y ⟨left',N,e,hJ⟩=>by
  subst e
  rw [hwd]
  exact aA ⟨⟨left',P++[b],W'++N,rfl,ahh hK hT (abC hE) hJ⟩,by simp only [Int.toNat_natCast,List.length_append,List.length_singleton];omega⟩
 refine bC (fun s:Int×List Int×List Int =>∃(j:Nat) (left':List Int) (N:List Nat),s=((j:Int),left',(W'++N).map Int.ofNat)∧j≤l.length∧Kj bs.length (Fe bs) left' P W' b ((l.take j).map Int.toNat) N∧N.length≤j) (fun s=>l.length-s.1.toNat)
  ⟨0,left,[],by simp,by omega,⟨hK.ll,fun v hv=>by rw [hK.cnt v hv];simp,by simp,fun v=>by simp⟩,by simp⟩ fun s ⟨j,left',N,e,r2,hJ,hNl⟩ => ?_
 subst e
 refine bI (fun hc => ?_) (fun hc=>aA ?_)
 rotate_left
 ·have:j=l.length:=by simp at hc;omega
  subst this
  rw [List.take_length] at hJ
  exact ⟨left',N,rfl,hJ⟩
 have hj:j<l.length:=by simpa using hc
 refine bV (ak.2 ⟨by simp only;omega,by simp only;omega⟩) ?_
 have e:l.getD j 0=l[j]:=getD_at _ hj
 simp only [Int.toNat_natCast,e]
 obtain ⟨c,hc,hfc⟩:=(l3 _).1 (List.getElem_mem hj)
 have hcn:c<bs.length:=(abC hE b c hfc).2
 have aom:(c:Int)∉l.take j:=fun h=>by
  obtain ⟨k,hk,e⟩:=List.getElem_of_mem h
  rw [List.getElem_take] at e
  rw [List.length_take] at hk
  have:=(List.getElem_inj l1).1 (e.trans hc.symm)
  omega
 have hcT:c∉(l.take j).map Int.toNat:=fun h=>aom ((Lm (fun x hx=>hnn x (List.mem_of_mem_take hx)) c).1 h)
 have hT' :∀v,v∈(l.take (j+1)).map Int.toNat↔v∈(l.take j).map Int.toNat∨v=c:=fun v=>by
  rw [take_snoc hj,hc,List.map_append,List.mem_append]
  simp
 rw [hc]
 have hll:=hJ.ll
 have hlc:left'.getD c 0=(cn (Fe bs) P c bs.length:Nat):=by have:=hJ.cnt c hcn;rw [if_neg hcT] at this;omega
 have aoj:=afo (F:=Fe bs) (P:=P) (v:=c) bs.length
 have ao6:0<cn (Fe bs) P c bs.length:=Nat.pos_of_ne_zero fun h=>hbP ((yF _).1 h b hbn hfc)
 have hwj:cZ ((j:Int)+1)=((j+1:Nat):Int):=by rw [aN (by omega)];omega
 have hwl:cZ ((cn (Fe bs) P c bs.length:Nat)-1:Int)=((cn (Fe bs) P c bs.length:Nat):Int)-1:=aN (by omega)
 refine bV (ak.2 ⟨by omega,by omega⟩) (bV (ak.2 ⟨by omega,by omega⟩) ?_)
 simp only [Int.toNat_natCast,hlc,hwl]
 have hset :∀v,(left'.set c (((cn (Fe bs) P c bs.length:Nat):Int)-1)).getD v 0=if v=c then ((cn (Fe bs) P c bs.length:Nat):Int)-1 else left'.getD v 0:=fun v=>qy (by omega)
 have afr :∀v,v<bs.length→(left'.set c (((cn (Fe bs) P c bs.length:Nat):Int)-1)).getD v 0=(cn (Fe bs) P v bs.length:Nat)-if v∈(l.take (j+1)).map Int.toNat then (1:Int) else 0:=fun v hv=>by
  rw [hset]
  by_cases ev:v=c
  ·subst ev;rw [if_pos rfl,if_pos ((hT' v).2 (.inr rfl))]
  ·rw [if_neg ev,hJ.cnt v hv]
   have:v∈(l.take (j+1)).map Int.toNat↔v∈(l.take j).map Int.toNat:=(hT' v).trans ⟨fun h=>h.resolve_right ev,.inl⟩
   simp only [this]
 refine bV (ak.2 ⟨by omega,by simp only [List.length_set];omega⟩) ?_
 refine bn (fun y =>∃N',y=(W'++N').map Int.ofNat∧Kj bs.length (Fe bs) (left'.set c (((cn (Fe bs) P c bs.length:Nat):Int)-1)) P W' b ((l.take (j+1)).map Int.toNat) N'∧N'.length≤j+1) ?_ fun y ⟨N',e,q1,q2⟩=>by
  subst e
  rw [hwj]
  exact aA ⟨⟨j+1,_,N',rfl,by omega,q1,q2⟩,by simp only [Int.toNat_natCast];omega⟩
 have hsc:(left'.set c (((cn (Fe bs) P c bs.length:Nat):Int)-1)).getD c 0=((cn (Fe bs) P c bs.length:Nat):Int)-1:=by rw [hset,if_pos rfl]
 rw [hsc]
 refine bI (fun hz=>bV (by unfold b_;simp only [List.length_map,List.length_append,List.length_singleton,Bool.true_and,decide_eq_true_eq];omega) (aA ⟨N++[c],by simp,⟨by simp [hll],afr,?_,fun v => ?_⟩,by simp;omega⟩)) (fun hz=>aA ⟨N,rfl,⟨by simp [hll],afr,hJ.nnd,fun v => ?_⟩,by omega⟩)
 ·rw [List.nodup_append]
  exact ⟨hJ.nnd,by simp,fun a ha d hd e=>by rw [List.mem_singleton] at hd;subst hd;subst e;exact hcT ((hJ.new a).1 ha).1⟩
 ·have hz:cn (Fe bs) P c bs.length=1:=by simp only [decide_eq_true_eq] at hz;omega
  rw [List.mem_append,List.mem_singleton,hJ.new v,hT' v]
  constructor
  ·rintro (⟨h1,h2⟩ | h)
   ·exact ⟨.inl h1,h2⟩
   ·subst h;exact ⟨.inr rfl,hz⟩
  ·rintro ⟨h1 | h1,h2⟩
   ·exact .inl ⟨h1,h2⟩
   ·exact .inr h1
 ·have hz:¬ cn (Fe bs) P c bs.length=1:=by simp only [decide_eq_false_iff_not] at hz;omega
  rw [hJ.new v,hT' v]
  constructor
  ·rintro ⟨h1,h2⟩;exact ⟨.inl h1,h2⟩
  ·rintro ⟨h1 | h1,h2⟩
   ·exact ⟨h1,h2⟩
   ·subst h1;exact absurd h2 hz
theorem orders {p0:List Int} (hb:Bytes p0):f5 p0=some true:=by
 apply ok_eq
 unfold f5
 refine vX abA (BN rfl ?_)
 obtain ⟨c2,h6,e2,hb2⟩:=ahj hb (n:=400) (by omega)
 refine vX h6 (bn _ (aeD hb2 (by omega)) fun c3 ⟨hm,hG⟩ => ?_)
 generalize c3.1=fs at hm hG ⊢
 refine qX (fun _=>True) ?_ fun _ _=>aA rfl
 refine bC (fun s:Int =>∃i:Nat,s=i∧i≤fs.length) (fun s=>fs.length-s.toNat) ⟨0,rfl,by omega⟩ fun s ⟨i,e1,e2⟩ => ?_
 subst e1
 refine bI (fun hi => ?_) (fun hi=>aA trivial)
 have hi:i<fs.length:=by simpa using hi
 have hg:=hG _ (List.getElem_mem hi)
 refine bV (ak.2 ⟨by omega,by omega⟩) ?_
 have e:fs.getD i aC=fs[i]:=getD_at _ hi
 simp only [Int.toNat_natCast,e]
 generalize fs[i]=f at hg
 have hwi:cZ ((i:Int)+1)=((i+1:Nat):Int):=by rw [aN (by omega)];omega
 obtain ⟨O,out,o1,o2,o3,o4⟩:=DK hg
 have aon:=NZ hg o2
 have hdom:=fun (a b:Nat) ha hb=>BM hg (a:=a) (b:=b) ha hb
 obtain ⟨g1,g2,g3,g4⟩:=hg
 refine vX o1 (vX o3 ?_)
 generalize f.blocks=bs at *
 have hT:=o4.T
 have hol:=hT.len
 have hgr:=o2.gr
 have hOl:(O.map Int.ofNat).length=bs.length:=by simp [o2.len]
 have hat:=fun {k:Nat} (hk:k<bs.length)=>afp o2 hk
 generalize O.map Int.ofNat=c0 at hOl hat ⊢
 refine bV (lI.2 (by omega)) ?_
 simp only [Int.toNat_natCast,hOl]
 refine qX (fun pl:List Int=>pl.length=bs.length∧∀v,v<bs.length→pl.getD v 0=(O.idxOf v:Nat)+1) ?_ fun pl ⟨hpl,hpv⟩ => ?_
 ·refine bC (fun s:Int×List Int =>∃k:Nat,s.1=k∧k≤bs.length∧s.2.length=bs.length∧∀v,v<bs.length→s.2.getD v 0=if O.idxOf v<k then ((O.idxOf v:Nat):Int)+1 else 0) (fun s=>bs.length-s.1.toNat) ⟨0,rfl,by omega,by simp,fun v hv => ?_⟩ fun ⟨k',pl⟩ ⟨k,q1,q2,q3,q4⟩ => ?_
  ·simp only
   rw [getD_at _ (by simpa using hv)];simp
  simp only at q1 q3 q4
  subst q1
  refine bI (fun hc => ?_) (fun hc=>aA ?_)
  rotate_left
  ·have:k=bs.length:=by simp at hc;omega
   subst this
   exact ⟨q3,fun v hv=>by rw [q4 v hv,if_pos (o2.lt v hv)]⟩
  have hk:k<bs.length:=by simpa using hc
  obtain ⟨b,hb1,hb2,hb3⟩:=hat hk
  have hin:=ak.2 (⟨by omega,by omega⟩:(0:Int)≤(k:Int)∧(k:Int)<bs.length)
  have hwk:cZ ((k:Int)+1)=((k+1:Nat):Int):=by rw [aN (by omega)];omega
  have hpb:=q4 b hb2
  rw [if_neg (by omega)] at hpb
  simp only [Int.toNat_natCast,hb1]
  refine bn (fun s=>s=false) (bV hin (BN (decide_eq_false (by omega)) (bV hin (BN (decide_eq_false (by omega)) (bV hin (bV (ak.2 ⟨by omega,by omega⟩) (aA ?_))))))) fun s e => ?_
  ·rw [hpb];rfl
  subst e
  refine BN rfl (bV hin (bV (ak.2 ⟨by omega,by omega⟩) ?_))
  rw [hwk]
  refine aA ⟨⟨k+1,rfl,by omega,by simp [q3],fun v hv => ?_⟩,by simp only [Int.toNat_natCast];omega⟩
  simp only [Int.toNat_natCast]
  rw [qy (by omega)]
  by_cases ev:v=b
  ·subst ev;rw [if_pos rfl,if_pos (by omega)];omega
  ·have:O.idxOf v≠k:=fun e=>ev (hgr.inj hv hb2 (by omega))
   rw [if_neg ev,q4 v hv]
   by_cases h:O.idxOf v<k
   ·rw [if_pos h,if_pos (by omega)]
   ·rw [if_neg h,if_neg (by omega)]
 have hz:O.idxOf 0=0:=hgr.zero
 have aoo:c0.getD (Int.toNat 0) 0=0:=by
  obtain ⟨b,hb1,hb2,hb3⟩:=hat g2
  have:b=0:=hgr.inj hb2 g2 (by omega)
  subst this;exact hb1
 refine bn (fun s=>s=false) (BN (by simp) (BN (by rw [hol];simp) (bV (ak.2 ⟨by omega,by omega⟩) (aA (by rw [aoo];rfl))))) fun s e => ?_
 subst e
 refine BN rfl ?_
 refine qX (fun y:Bool=>y=true↔∃b x,Fe bs b x∧O.idxOf x≤O.idxOf b) ?_ fun y hy=>bn _ aon fun z hz2=>BN ?_ (by rw [hwi];exact aA ⟨⟨i+1,rfl,by omega⟩,by simp only [Int.toNat_natCast];omega⟩)
 rotate_left
 ·cases y with
  |false=>cases z with
   |false=>exact absurd (hz2.2 fun h=>by have:=hy.2 h;cases this) (by simp)
   |true=>rfl
  |true=>cases z with
   |false=>rfl
   |true=>exact absurd (hy.1 rfl) (hz2.1 rfl)
 refine bC (fun s:Bool×Int =>∃b:Nat,s.2=b∧b≤bs.length∧(s.1=true↔∃u x,u<b∧Fe bs u x∧O.idxOf x≤O.idxOf u)) (fun s=>bs.length-s.2.toNat) ⟨0,rfl,by omega,⟨fun h=>(by cases h),fun ⟨u,x,h,_⟩=>absurd h (Nat.not_lt_zero _)⟩⟩ fun ⟨ag,b'⟩ ⟨b,q1,q2,q3⟩ => ?_
 simp only at q1 q3
 subst q1
 refine bI (fun hc => ?_) (fun hc=>aA ?_)
 rotate_left
 ·have:b=bs.length:=by simp at hc;omega
  subst this
  exact q3.trans ⟨fun ⟨u,x,_,h⟩=>⟨u,x,h⟩,fun ⟨u,x,h⟩=>⟨u,x,(abC g3 u x h.1).1,h⟩⟩
 have hbn:b<bs.length:=by simpa using hc
 refine bn (fun s=>s=false) (bI (fun h0=>bV (ak.2 ⟨by simp only;omega,by simp only;omega⟩) ?_) fun _=>aA rfl) fun s e => ?_
 ·have hb0:b≠0:=by simp at h0;omega
  have hu:0≤up out b:=(o4.pr b hbn).resolve_left hb0
  obtain ⟨v1,v2,v3⟩:=hT.val hbn hu
  simp only [Int.toNat_natCast,Ll (show b<out.length by omega)]
  refine bV (ak.2 ⟨by omega,by omega⟩) (bV (ak.2 ⟨by omega,by omega⟩) (aA ?_))
  rw [hpv b hbn,hpv _ v1]
  exact decide_eq_false (by omega)
 subst e
 refine BN rfl (bV (ak.2 ⟨by simp only;omega,by simp only;omega⟩) ?_)
 simp only [Int.toNat_natCast]
 refine vX (Jg _ _ _ _) ?_
 have hsd:succs (bs.getD b aj).bf (bs.getD b aj).dV (bs.getD b aj).bK=dn bs b:=rfl
 rw [hsd]
 have hin:=u_ g3 hbn
 have hl2:(dn bs b).length≤2:=by unfold dn succs;(repeat' split)<;>simp
 have hwb:cZ ((b:Int)+1)=((b+1:Nat):Int):=by rw [aN (by omega)];omega
 refine bn (fun y:Bool=>y=true↔ag=true∨∃x:Nat,(x:Int)∈dn bs b∧¬ Dom (Ed bs) x b∧O.idxOf x≤O.idxOf b) ?_ fun y hy=>by
  rw [hwb]
  refine aA ⟨⟨b+1,rfl,by omega,?_⟩,by simp only [Int.toNat_natCast];omega⟩
  simp only
  rw [hy,q3]
  constructor
  ·rintro (⟨u,x,h1,h2⟩ | ⟨x,h1,h2,h3⟩)
   ·exact ⟨u,x,by omega,h2⟩
   ·exact ⟨b,x,by omega,⟨⟨hbn,h1⟩,h2⟩,h3⟩
  ·rintro ⟨u,x,h1,h2,h3⟩
   by_cases eu:u=b
   ·subst eu;exact .inr ⟨x,h2.1.2,h2.2,h3⟩
   ·exact .inl ⟨u,x,by omega,h2,h3⟩
 refine bC (fun s:Bool×Int =>∃j:Nat,s.2=j∧j≤(dn bs b).length∧(s.1=true↔ag=true∨∃x:Nat,(x:Int)∈(dn bs b).take j∧¬ Dom (Ed bs) x b∧O.idxOf x≤O.idxOf b)) (fun s=>(dn bs b).length-s.2.toNat) ⟨0,rfl,by omega,by simp⟩ fun ⟨fl,j'⟩ ⟨j,r1,r2,r3⟩ => ?_
 simp only at r1 r3
 subst r1
 refine bI (fun hc => ?_) (fun hc=>aA ?_)
 rotate_left
 ·have:j=(dn bs b).length:=by simp at hc;omega
  subst this
  rw [List.take_length] at r3
  exact r3
 have hj:j<(dn bs b).length:=by simpa using hc
 have e:(dn bs b).getD j 0=(dn bs b)[j]:=getD_at _ hj
 have hmem:=List.getElem_mem hj
 have hr:=hin _ hmem
 obtain ⟨c,hc⟩ :∃c:Nat,(dn bs b)[j]=c:=⟨((dn bs b)[j]).toNat,by omega⟩
 rw [hc] at hmem hr
 have hcn:c<bs.length:=by omega
 have hwj:cZ ((j:Int)+1)=((j+1:Nat):Int):=by rw [aN (by omega)];omega
 have htake :∀v:Nat,(v:Int)∈(dn bs b).take (j+1)↔(v:Int)∈(dn bs b).take j∨v=c:=fun v=>by
  rw [take_snoc hj,List.mem_append,List.mem_singleton,hc]
  exact or_congr Iff.rfl ⟨fun h=>by omega,fun h=>by omega⟩
 have hinj:=ak.2 (⟨by omega,by omega⟩:(0:Int)≤(j:Int)∧(j:Int)<(dn bs b).length)
 simp only [Int.toNat_natCast,e,hc]
 refine bn (fun y:Bool=>y=true↔fl=true∨(¬ Dom (Ed bs) c b∧O.idxOf c≤O.idxOf b)) ?_ fun y hy=>by
  rw [hwj]
  refine aA ⟨⟨j+1,rfl,by omega,?_⟩,by simp only [Int.toNat_natCast];omega⟩
  simp only
  rw [hy,r3]
  constructor
  ·rintro ((h | ⟨x,h1,h2⟩) | h)
   ·exact .inl h
   ·exact .inr ⟨x,(htake x).2 (.inl h1),h2⟩
   ·exact .inr ⟨c,(htake c).2 (.inr rfl),h⟩
  ·rintro (h | ⟨x,h1,h2⟩)
   ·exact .inl (.inl h)
   ·rcases (htake x).1 h1 with h | h
    ·exact .inl (.inr ⟨x,h,h2⟩)
    ·subst h;exact .inr h2
 refine bI (fun h=>aA ⟨fun _=>.inl h,fun _=>rfl⟩) fun h=>bV hinj (bV (ak.2 ⟨by omega,by omega⟩) (bV (ak.2 ⟨by omega,by omega⟩) ?_))
 simp only [Int.toNat_natCast,hpv c hcn,hpv b hbn]
 refine bI (fun h1=>bV hinj (bn _ (hdom c b hcn hbn) fun d hd=>aA ?_)) fun h1=>aA ?_
 ·have h1:O.idxOf c≤O.idxOf b:=by simp only [decide_eq_true_eq] at h1;omega
  rw [h]
  cases d with
  |true=>exact ⟨fun h=>(by cases h),fun h=>(by rcases h with h | h;cases h;exact absurd (hd.1 rfl) h.1)⟩
  |false=>exact ⟨fun _=>.inr ⟨fun hh=>(by have:=hd.2 hh;cases this),h1⟩,fun _=>rfl⟩
 ·have h1:¬ O.idxOf c≤O.idxOf b:=by simp only [decide_eq_false_iff_not] at h1;omega
  rw [h]
  exact ⟨fun h=>(by cases h),fun h=>(by rcases h with h | h;cases h;exact absurd h.2 h1)⟩
end Go.Fg.Ytmgfidfcioiedaa

