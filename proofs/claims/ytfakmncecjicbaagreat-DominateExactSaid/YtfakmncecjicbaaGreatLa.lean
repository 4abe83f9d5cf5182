/-
  The plain proofs: what the functions compute answers as the law says.
-/
import Derived.Test.YtfakmncecjicbaaGreatZd
import Derived.Test.YtfakmncecjicbaaGreatFgB
set_option linter.unusedSimpArgs false
set_option linter.unusedVariables false
set_option linter.unusedSectionVars false
namespace Go.Fg.YtfakmncecjicbaaGreat
inductive Wk(E:Nat->Nat->Prop)(a:Nat):Nat->Prop
 |z:(0:Nat)≠a->Wk E a 0
 |s {u v:Nat}:Wk E a u->E u v->v≠a->Wk E a v
def Dom(E:Nat->Nat->Prop)(a b:Nat):Prop:=¬ Wk E a b
structure Gr(n:Nat)(E:Nat->Nat->Prop)(rk:Nat->Nat):Prop where
 pos:0<n
 inn :∀{u v},E u v->u<n/\v<n
 inj :∀{u v},u<n->v<n->rk u=rk v->u=v
 zero:rk 0=0
 pred :∀{v},v<n->v≠0->∃u,E u v/\rk u<rk v
section
variable {n:Nat} {E:Nat->Nat->Prop} {rk:Nat->Nat} {out:List Int}
theorem SQ{a b u:Nat}(h:Dom E a b)(hu:E u b)(hne:a≠b):Dom E a u:=λhw=>h (.s hw hu (λe=>hne e.symm))
theorem JY(hG:Gr n E rk){v:Nat}(hv:v<n)(h0:v≠0):0<rk v:=by obtain⟨u,_,h⟩:=hG.pred hv h0;omega
theorem ac7(hG:Gr n E rk){a:Nat}(ha:a<n):∀k b,rk b<=k->b<n->Dom E a b->rk a<=rk b:=by
 intro k
 induction k with
 |zero=>
  intro b hk hb hd;have h0:b=0:=V2 λh=>by have:=JY hG hb h;omega
  subst h0;by_cases e:a=0
  .rw [e];exact ZD _
  .exact absurd (Wk.z λh=>e h.symm) hd
 |succ k ih=>
  intro b hk hb hd;by_cases e:a=b
  .rw [e];exact ZD _
  by_cases h0:b=0
  .subst h0;exact absurd (Wk.z λh=>e h.symm) hd
  .obtain ⟨u,hu,hr⟩:=hG.pred hb h0;have:=ih u (by omega) (hG.inn hu).1 (SQ hd hu e);omega
theorem En(hG:Gr n E rk){a b:Nat}(ha:a<n)(hb:b<n)(hd:Dom E a b):rk a<=rk b:=ac7 hG ha _ b (ZD _) hb hd
theorem um(b:Nat):Dom E 0 b:=λh=>by
 have :∀v,Wk E 0 v->False:=λv h=>by
  induction h with
  |z h=>exact h rfl
  |s _ _ _ ih=>exact ih
 exact this b h
def up(out:List Int)(v:Nat):Int:=out.getD v (-1)
inductive jr(out:List Int)(a:Nat):Nat->Prop
 |refl:jr out a a
 |up {b:Nat}:0<=up out b->jr out a (up out b).toNat->jr out a b
def Pr(out:List Int)(v:Nat):Prop:=v=0\/0<=up out v
structure Tb(n:Nat)(E:Nat->Nat->Prop)(rk:Nat->Nat)(out:List Int):Prop where
 len:out.length=n
 zero:up out 0=-1
 val :∀{v},v<n->0<=up out v->(up out v).toNat<n/\rk (up out v).toNat<rk v/\Pr out (up out v).toNat
 low :∀{v},v<n->-1<=up out v
 dom :∀{v},v<n->0<=up out v->∀d,Dom E d v->d≠v->Dom E d (up out v).toNat
theorem jr.trans{a b c:Nat}(h:jr out a b)(h':jr out b c):jr out a c:=by
 induction h' with
 |refl=>exact h
 |up h0 _ ih=>exact .up h0 ih
theorem yx(hT:Tb n E rk out){a v:Nat}(h:jr out a v):v<n->a<n/\rk a<=rk v/\(Pr out v->Pr out a):=by
 induction h with
 |refl=>exact λh=>⟨h,ZD _,id⟩
 |up h0 _ ih=>intro hv;obtain⟨h1,h2,h3⟩:=hT.val hv h0;obtain⟨i1,i2,i3⟩:=ih h1;exact⟨i1,by omega,λ_=>i3 h3⟩
theorem ac8(hT:Tb n E rk out){a:Nat}(h:jr out a 0):a=0:=by
 cases h with
 |refl=>rfl
 |up h0 _=>rw[hT.zero]at h0;omega
theorem ZI(hT:Tb n E rk out){a c v:Nat}(h:jr out a v):v<n->jr out c v->rk a<=rk c->jr out a c:=by
 induction h with
 |refl=>
  intro hv hc hr;cases hc with
  |refl=>exact .refl
  |up h0 hc=>obtain⟨h1,h2,h3⟩:=hT.val hv h0;have:=(yx hT hc h1).2.1;omega
 |up h0 ha ih=>
  intro hv hc hr;cases hc with
  |refl=>exact .up h0 ha
  |up _ hc=>exact ih (hT.val hv h0).1 hc hr
theorem lC{b:Nat}{z:Int}(hb:b<out.length)(v:Nat):up (out.set b z) v=if v=b then z else up out v:=by
 unfold up;rw[Q2,Q2];by_cases h:v=b
 .subst h;rw[Kc hb,Qt rfl];rfl
 .rw [Kn (λe=>h e.symm),QR h]
theorem Ap(hT:Tb n E rk out){b:Nat}{z:Int}(hb:b<n){a v:Nat}(h:jr out a v):v<n->rk b<=rk a->jr (out.set b z) a v:=by
 induction h with
 |refl=>exact λ_ _=>.refl
 |@up w h0 ha ih=>
  intro hv hr;obtain⟨h1,h2,h3⟩:=hT.val hv h0;have:=(yx hT ha h1).2.1;have hne:w≠b:=λe=>by subst e;omega
  have e:up (out.set b z) w=up out w:=by rw[lC (by rw[hT.len];exact hb),QR hne]
  exact .up (by rw[e];exact h0) (by rw[e];exact ih h1 hr)
theorem Aq(hT:Tb n E rk out){b:Nat}{z:Int}(hb:b<n){a v:Nat}(h:jr out a v):v<n->rk v<rk b->jr (out.set b z) a v:=by
 induction h with
 |refl=>exact λ_ _=>.refl
 |@up w h0 ha ih=>
  intro hv hr;obtain⟨h1,h2,h3⟩:=hT.val hv h0;have hne:w≠b:=λe=>by subst e;omega
  have e:up (out.set b z) w=up out w:=by rw[lC (by rw[hT.len];exact hb),QR hne]
  exact .up (by rw[e];exact h0) (by rw[e];exact ih h1 (by omega))
theorem ZJ(hT:Tb n E rk out){b:Nat}{z:Int}(hb:b<n){a v:Nat}(h:jr out a v):jr (out.set b z) a v\/(jr out b v/\0<=up out b/\jr out a (up out b).toNat):=by
 induction h with
 |refl=>exact .inl .refl
 |@up w h0 ha ih=>
  by_cases hne:w=b
  .subst hne;exact .inr ⟨.refl,h0,ha⟩
  .have e:up (out.set b z) w=up out w:=by rw[lC (by rw[hT.len];exact hb),QR hne]
   rcases ih with ih|⟨i1,i2,i3⟩
   .exact .inl (.up (by rw[e];exact h0) (by rw[e];exact ih))
   .exact .inr ⟨.up h0 i1,i2,i3⟩
theorem SV(hT:Tb n E rk out){b:Nat}{z:Nat}(hb:b<n)(hz:0<=up out b->jr out z (up out b).toNat)(hp:0<=up out b){a v:Nat}(h:jr (out.set b z) a v):jr out a v:=by
 induction h with
 |refl=>exact .refl
 |@up w h0 ha ih=>
  by_cases hne:w=b
  .subst hne;have e:up (out.set w z) w=z:=by rw[lC (by rw[hT.len];exact hb),Qt rfl]
   rw[e]at ih;exact .up hp (ih.trans (by simpa using hz hp))
  .have e:up (out.set b z) w=up out w:=by rw[lC (by rw[hT.len];exact hb),QR hne]
   rw[e]at h0 ih;exact .up h0 ih
end
structure Ps(n:Nat)(E:Nat->Nat->Prop)(rk:Nat->Nat)(out:List Int)(i:Nat):Prop where
 T:Tb n E rk out
 F :∀{v},v<n->0<=up out v->∀y,(∀p,E p v->Pr out p->jr out y p)->jr out y (up out v).toNat
 H :∀{v},v<n->0<=up out v->∀p,E p v->rk p<rk v->rk v<i\/i<=rk (up out v).toNat->jr out (up out v).toNat p
 D :∀{v},v<n->rk v<i->Pr out v
structure Bst(n:Nat)(E:Nat->Nat->Prop)(rk:Nat->Nat)(out:List Int)(b z:Nat):Prop where
 lt:z<n
 pr:Pr out z
 all :∀p,E p b->Pr out p->jr out z p
 top :∀y,(∀p,E p b->Pr out p->jr out y p)->jr out y z
 dom :∀d,(∀p,E p b->Pr out p->Dom E d p)->Dom E d z
section
variable {n:Nat} {E:Nat->Nat->Prop} {rk:Nat->Nat} {out:List Int}
theorem JZ{b z:Nat}(hb:b<out.length){v:Nat}(h:Pr out v):Pr (out.set b z) v:=by
 rcases h with h|h
 .exact .inl h
 .refine .inr ?_;rw[lC hb];split
  .omega
  .exact h
theorem ajA(hT:Tb n E rk out){a v:Nat}(h:jr out a v)(ha:Pr out a):Pr out v:=by
 cases h with
 |refl=>exact ha
 |up h0 _=>exact .inr h0
theorem VD(hT:Tb n E rk out){b:Nat}{z:Int}(hb:b<n)(hu:¬ Pr out b){a v:Nat}(h:jr (out.set b z) a v):v<n->Pr out v->jr out a v:=by
 induction h with
 |refl=>exact λ_ _=>.refl
 |@up w h0 ha ih=>
  intro hv hp;have hne:w≠b:=λe=>by subst e;exact hu hp
  have e:up (out.set b z) w=up out w:=by rw[lC (by rw[hT.len];exact hb),QR hne]
  rw[e]at h0 ih;obtain⟨h1,h2,h3⟩:=hT.val hv h0;exact .up h0 (ih h1 h3)
theorem agm(hG:Gr n E rk){i b z:Nat}(hP:Ps n E rk out i)(hb:b<n)(h0:b≠0)(hr:rk b=i)(hz:Bst n E rk out b z):rk z<rk b/\Tb n E rk (out.set b z):=by
 have hT:=hP.T;have hbl:b<out.length:=by rw[hT.len];exact hb
 obtain⟨u,hu,hur⟩:=hG.pred hb h0;have hlt:rk z<rk b:=by have:=(yx hT (hz.all u hu (hP.D (hG.inn hu).1 (by omega))) (hG.inn hu).1).2.1;omega
 refine⟨hlt,⟨by rw[UX];exact hT.len,?_,λ{v} hv hh=>?_,λ{v} hv=>?_,λ{v} hv hh d hd hne=>?_⟩⟩
 .rw [lC hbl,QR (λe=>h0 e.symm)];exact hT.zero
 .rw [lC hbl]at hh ⊢;split
  .rename_i e;subst e;simp only[Q1];exact⟨hz.lt,hlt,JZ hbl hz.pr⟩
  .rename_i e;rw[QR e]at hh;obtain⟨h1,h2,h3⟩:=hT.val hv hh;exact⟨h1,h2,JZ hbl h3⟩
 .rw [lC hbl];split
  .omega
  .exact hT.low hv
 .rw [lC hbl]at hh ⊢;split
  .rename_i e;subst e;simp only[Q1];exact hz.dom d λp hp _=>SQ hd hp hne
  .rename_i e;rw[QR e]at hh;exact hT.dom hv hh d hd hne
theorem agn(hG:Gr n E rk){i b z:Nat}(hP:Ps n E rk out i)(hb:b<n)(h0:b≠0)(hr:rk b=i)(hz:Bst n E rk out b z):Ps n E rk (out.set b z) (i+1):=by
 have hT:=hP.T;have hbl:b<out.length:=by rw[hT.len];exact hb
 obtain⟨hlt,hT'⟩:=agm hG hP hb h0 hr hz;have sub :∀{y v:Nat},v<n->Pr out v->jr (out.set b z) y v->jr out y v:=by
  intro y v hv hp h;by_cases hb0:0<=up out b
  .exact SV hT hb (λ_=>hP.F hb hb0 z hz.all) hb0 h
  .exact VD hT hb (λe=>e.elim h0 hb0) h hv hp
 refine⟨hT',λ{v} hv hh y hy=>?_,λ{v} hv hh p hp hpr hc=>?_,λ{v} hv hvi=>?_⟩
 .have hy' :∀p,E p v->Pr out p->jr out y p:=λp hp hpp=>sub (hG.inn hp).1 hpp (hy p hp (JZ hbl hpp));rw[lC hbl]at hh ⊢;split
  .rename_i e;subst e;simp only[Q1];exact Aq hT hb (hz.top y hy') hz.lt hlt
  .rename_i e;rw[QR e]at hh;obtain⟨g1,g2,g3⟩:=hT.val hv hh;have ho:=hP.F hv hh y hy';rcases ZJ hT hb (z:=z) ho with ho|⟨o1,o2,o3⟩
   .exact ho
   .have hv0:v≠0:=λe=>by subst e;rw[hT.zero]at hh;omega
    obtain⟨u,hu,hur⟩:=hG.pred hv hv0;have hun:=(hG.inn hu).1;have hrb:=(yx hT o1 g1).2.1;have hA:=hP.H hv hh u hu hur (.inr (by omega));have hbu:jr (out.set b z) b u:=Ap hT hb (o1.trans hA) hun (ZD _);have hyu:=hy u hu (JZ hbl (ajA hT hA g3));obtain⟨q1,q2,_⟩:=hT.val hb o2;have hyb:jr (out.set b z) y b:=ZI hT' hyu hun hbu (by have:=(yx hT o3 q1).2.1;omega);exact hyb.trans (Ap hT hb o1 g1 (ZD _))
 .rw [lC hbl]at hh hc ⊢;by_cases e:v=b
  .subst e;rw[Qt rfl]at hc ⊢;simp only[Q1];exact Aq hT hb (hz.all p hp (hP.D (hG.inn hp).1 (by omega))) (hG.inn hp).1 hpr
  .rw [QR e]at hh hc ⊢;rcases hc with hc|hc
   .have:rk v≠i:=λh=>e (hG.inj hv hb (by omega));exact Aq hT hb (hP.H hv hh p hp hpr (.inl (by omega))) (hG.inn hp).1 (by omega)
   .exact Ap hT hb (hP.H hv hh p hp hpr (.inr (by omega))) (hG.inn hp).1 (by omega)
 .by_cases e:rk v<i
  .exact JZ hbl (hP.D hv e)
  .have:v=b:=hG.inj hv hb (by omega);subst this;exact .inr (by rw[lC hbl,Qt rfl];omega)
theorem ac9(hG:Gr n E rk)(hk :∀v,v<n->rk v<n)(hP:Ps n E rk out n):Ps n E rk out 1:=⟨hP.T,hP.F,λhv hh p hp hpr _=>hP.H hv hh p hp hpr (.inl (hk _ hv)),λ{v} hv hr=>.inl (V2 λh=>by have:=JY hG hv h;omega)⟩
theorem ac_(hG:Gr n E rk)(hl:out.length=n)(hu :∀v,v<n->up out v=-1):Ps n E rk out 1:=by
 refine⟨⟨hl,hu 0 hG.pos,λhv h=>?_,λhv=>?_,λhv h=>?_⟩,λhv h=>?_,λhv h=>?_,λ{v} hv hr=>.inl (V2 λh=>by have:=JY hG hv h;omega)⟩
 all_goals rw[hu _ hv]at *
 all_goals omega
def ms(n:Nat)(rk:Nat->Nat)(out:List Int):Nat->Nat
 |0=>0
 |k+1=>ms n rk out k+if up out k<0 then n else rk (up out k).toNat
theorem ajB(hG:Gr n E rk){i b z:Nat}(hk :∀v,v<n->rk v<n)(hP:Ps n E rk out i)(hb:b<n)(h0:b≠0)(hr:rk b=i)(hz:Bst n E rk out b z)(hne:up out b≠z):ms n rk (out.set b z) n<ms n rk out n:=by
 have hT:=hP.T;have hbl:b<out.length:=by rw[hT.len];exact hb
 have hs:rk z<if up out b<0 then n else rk (up out b).toNat:=by
  split
  .exact hk z hz.lt
  .rename_i hb0;have hb0:0<=up out b:=by omega
   obtain⟨q1,_,_⟩:=hT.val hb hb0;have hle:=(yx hT (hP.F hb hb0 z hz.all) q1).2.1;refine Nat.lt_of_le_of_ne hle λe=>hne ?_;have:=hG.inj hz.lt q1 e;omega
 have key :∀k,k<=n->ms n rk (out.set b z) k+(if b<k then(if up out b<0 then n else rk (up out b).toNat)-rk z else 0)=ms n rk out k:=by
  intro k
  induction k with
  |zero=>intro _;simp[ms]
  |succ k ih=>
   intro hkn;have ih:=ih (by omega);simp only[ms];rw[lC hbl];by_cases e:k=b
   .subst e;rw[QR (KB k)]at ih;rw[Qt rfl,Qt (by omega:k<k+1),QR (by omega:¬ ((z:Int)<0)),Q1];omega
   .rw [QR e];by_cases e2:b<k
    .rw [Qt e2]at ih;rw[Qt (by omega:b<k+1)];omega
    .rw [QR e2]at ih;rw[QR (by omega:¬ b<k+1)];omega
 have:=key n (ZD n);rw[Qt hb]at this;omega
theorem agp(hG:Gr n E rk)(hP:Ps n E rk out n)(hk :∀v,v<n->rk v<n)(hF :∀v,v<n->v≠0->∀p,E p v->Pr out p->jr out (up out v).toNat p){a b:Nat}(ha:a<n)(hb:b<n):jr out a b↔Dom E a b:=by
 have hT:=hP.T;have hp :∀v,v<n->Pr out v:=λv hv=>hP.D hv (hk v hv);constructor
 .intro h hw;have key :∀v,Wk E a v->v<n->¬ jr out a v:=by
   intro v hw
   induction hw with
   |z h=>exact λ_ h'=>h (ac8 hT h').symm
   |@s u v hw hu hne ih=>
    intro hv h';cases h' with
    |refl=>exact hne rfl
    |up h1 h2=>
     have hv0:v≠0:=λe=>by subst e;rw[hT.zero]at h1;omega
     exact ih (hG.inn hu).1 (h2.trans (hF v hv hv0 u hu (hp u (hG.inn hu).1)))
  exact key b hw hb h
 .have key :∀k b,rk b<=k->b<n->Dom E a b->jr out a b:=by
   intro k
   induction k with
   |zero=>
    intro b hr hb hd;have h0:b=0:=V2 λh=>by have:=JY hG hb h;omega
    subst h0;by_cases e:a=0
    .rw [e];exact .refl
    .exact absurd (Wk.z λh=>e h.symm) hd
   |succ k ih=>
    intro b hr hb hd;by_cases e:a=b
    .rw [e];exact .refl
    rcases hp b hb with h0|h0
    .subst h0;exact absurd (Wk.z λh=>e h.symm) hd
    .obtain ⟨q1,q2,_⟩:=hT.val hb h0;exact .up h0 (ih _ (by omega) q1 (hT.dom hb h0 a hd e))
  exact key _ b (ZD _) hb
end
def Bf(L:List Nat)(v u:Nat):Prop :=∃A B C,L=A++v::(B++u::C)
theorem Bf.app{L:List Nat}{v u:Nat}(h:Bf L v u)(X Y:List Nat):Bf (X++L++Y) v u:=by obtain⟨A,B,C,e⟩:=h;exact⟨X++A,B,C++Y,by rw[e];simp⟩
theorem J3{X Y:List Nat}{v u:Nat}(hv:v∈X)(hu:u∈Y):Bf (X++Y) v u:=by obtain⟨A,B,e1⟩:=List.append_of_mem hv;obtain⟨C,D,e2⟩:=List.append_of_mem hu;exact⟨A,B++C,D,by rw[e1,e2];simp⟩
inductive Fc(E:Nat->Nat->Prop)(L:List Nat)(x:Nat):Nat->Prop
 |refl:Fc E L x x
 |step {u v:Nat}:Fc E L x u->E u v->Bf L v u->Fc E L x v
section
variable {E:Nat->Nat->Prop} {L:List Nat}
theorem Fc.app{x y:Nat}(h:Fc E L x y)(X Y:List Nat):Fc E (X++L++Y) x y:=by
 induction h with
 |refl=>exact .refl
 |step _ he hb ih=>exact .step ih he (hb.app X Y)
theorem Fc.head{x u y:Nat}(h:Fc E L u y)(he:E x u)(hb:Bf L u x):Fc E L x y:=by
 induction h with
 |refl=>exact .step .refl he hb
 |step _ he hb ih=>exact .step ih he hb
structure Vis(E:Nat->Nat->Prop)(n b:Nat)(seen seen':List Bool)(L:List Nat):Prop where
 nd:L.Nodup
 new :∀x∈L,x<n/\seen.getD x false=false
 len:seen'.length=seen.length
 mrk :∀x,x<n->(seen'.getD x false=true↔seen.getD x false=true\/x∈L)
 last :∃L0,L=L0++[b]
 reach :∀y∈L,Fc E L b y
 suc :∀y∈L,∀x,E y x->seen.getD x false=true\/(x∈L/\(Bf L x y\/Fc E L x y))
structure Vs(E:Nat->Nat->Prop)(n b:Nat)(seen seen':List Bool)(M:List Nat):Prop where
 nd:M.Nodup
 new :∀x∈M,x<n/\seen.getD x false=false/\x≠b
 len:seen'.length=seen.length
 mrk :∀x,x<n->(seen'.getD x false=true↔seen.getD x false=true\/x=b\/x∈M)
 tree :∀y∈M,∃c,E b c/\c∈M/\Fc E M c y
 suc :∀y∈M,∀x,E y x->seen.getD x false=true\/x=b\/(x∈M/\(Bf M x y\/Fc E M x y))
theorem ada{n b c:Nat}{seen s1 s2:List Bool}{M L:List Nat}(h:Vs E n b seen s1 M)(hv:Vis E n c s1 s2 L)(he:E b c)(hin :∀{u v},E u v->v<n):Vs E n b seen s2 (M++L):=by
 have hc:c∈L:=by obtain⟨L0,e⟩:=hv.last;rw[e];simp
 have hdis :∀x∈L,seen.getD x false=false/\x≠b/\x∉M:=λx hx=>by
  obtain⟨h1,h2⟩:=hv.new x hx;have this:¬ (seen.getD x false=true\/x=b\/x∈M):=λhh=>by have:=(h.mrk x h1).2 hh;rw[h2]at this;cases this
  refine⟨?_,λe=>this (.inr (.inl e)),λe=>this (.inr (.inr e))⟩;cases hs:seen.getD x false with
  |false=>rfl
  |true=>exact absurd (.inl hs) this
 refine⟨?_,λx hx=>?_,by rw[hv.len,h.len],λx hx=>?_,λy hy=>?_,λy hy x hx=>?_⟩
 .rw [UT];exact⟨h.nd,hv.nd,λa ha b hb e=>(hdis b hb).2.2 (e▸ha)⟩
 .rcases QQ.1 hx with hx|hx
  .exact h.new x hx
  .exact ⟨(hv.new x hx).1,(hdis x hx).1,(hdis x hx).2.1⟩
 .rw [hv.mrk x hx,h.mrk x hx,QQ];constructor
  .rintro ((h|h|h)|h)
   .exact .inl h
   .exact .inr (.inl h)
   .exact .inr (.inr (.inl h))
   .exact .inr (.inr (.inr h))
  .rintro (h|h|h|h)
   .exact .inl (.inl h)
   .exact .inl (.inr (.inl h))
   .exact .inl (.inr (.inr h))
   .exact .inr h
 .rcases QQ.1 hy with hy|hy
  .obtain ⟨d,h1,h2,h3⟩:=h.tree y hy;exact⟨d,h1,XS _ h2,by have:=h3.app [] L;simpa using this⟩
  .exact ⟨c,he,We _ hc,by have:=(hv.reach y hy).app M [];simpa using this⟩
 .rcases QQ.1 hy with hy|hy
  .rcases h.suc y hy x hx with h1|h1|⟨h1,h2⟩
   .exact .inl h1
   .exact .inr (.inl h1)
   .refine .inr (.inr ⟨XS _ h1,?_⟩);rcases h2 with h2|h2
    .exact .inl (by have:=h2.app [] L;simpa using this)
    .exact .inr (by have:=h2.app [] L;simpa using this)
  .rcases hv.suc y hy x hx with h1|⟨h1,h2⟩
   .rcases (h.mrk x (hin hx)).1 h1 with h1|h1|h1
    .exact .inl h1
    .exact .inr (.inl h1)
    .exact .inr (.inr ⟨XS _ h1,.inl (J3 h1 hy)⟩)
   .refine .inr (.inr ⟨We _ h1,?_⟩);rcases h2 with h2|h2
    .exact .inl (by have:=h2.app M [];simpa using this)
    .exact .inr (by have:=h2.app M [];simpa using this)
theorem ajC{n b:Nat}{seen s1:List Bool}{M:List Nat}(hb:b<n)(hs:seen.getD b false=false)(h:Vs E n b seen s1 M)(hd :∀x,E b x->s1.getD x false=true)(hin :∀{u v},E u v->v<n):Vis E n b seen s1 (M++[b]):=by
 have hr :∀y∈M++[b],Fc E (M++[b]) b y:=λy hy=>by
  rcases QQ.1 hy with hy|hy
  .obtain ⟨c,h1,h2,h3⟩:=h.tree y hy;have h3':Fc E (M++[b]) c y:=by have:=h3.app [] [b];simpa using this
   exact h3'.head h1 (J3 h2 (Q6.2 rfl))
  .rw [Q6]at hy;subst hy;exact .refl
 refine⟨?_,λx hx=>?_,h.len,λx hx=>?_,⟨M,rfl⟩,hr,λy hy x hx=>?_⟩
 .rw [UT];exact⟨h.nd,by simp,λa ha c hc e=>by rw[Q6]at hc;subst hc;exact(h.new a ha).2.2 e⟩
 .rcases QQ.1 hx with hx|hx
  .exact ⟨(h.new x hx).1,(h.new x hx).2.1⟩
  .rw [Q6]at hx;subst hx;exact⟨hb,hs⟩
 .rw [h.mrk x hx,QQ,Q6];constructor
  .rintro (h|h|h)
   .exact .inl h
   .exact .inr (.inr h)
   .exact .inr (.inl h)
  .rintro (h|h|h)
   .exact .inl h
   .exact .inr (.inr h)
   .exact .inr (.inl h)
 .rcases QQ.1 hy with hy'|hy'
  .rcases h.suc y hy' x hx with h1|h1|⟨h1,h2⟩
   .exact .inl h1
   .subst h1;exact .inr ⟨We _ (Q6.2 rfl),.inr (hr y hy)⟩
   .refine .inr ⟨XS _ h1,?_⟩;rcases h2 with h2|h2
    .exact .inl (by have:=h2.app [] [b];simpa using this)
    .exact .inr (by have:=h2.app [] [b];simpa using this)
  .rw [Q6]at hy';subst hy';rcases (h.mrk x (hin hx)).1 (hd x hx)with h1|h1|h1
   .exact .inl h1
   .subst h1;exact .inr ⟨hy,.inr .refl⟩
   .exact .inr ⟨XS _ h1,.inl (J3 h1 (Q6.2 rfl))⟩
end
theorem VE{L:List Nat}(hn:L.Nodup){v u:Nat}(h:Bf L v u):L.reverse.idxOf u<L.reverse.idxOf v:=by
 obtain⟨A,B,C,e⟩:=h;subst e;have hr:(A++v::(B++u::C)).reverse=C.reverse++u::(B.reverse++v::A.reverse):=by simp
 rw[hr];simp only[UT,UI,QQ,Xs]at hn;obtain⟨_,⟨hv,_,⟨hu,_⟩,hBC⟩,_⟩:=hn;have h1:u∉C.reverse:=by simpa using hu
 have h2:v∉C.reverse:=by simp;exact λh=>hv (.inr (.inr h))
 rw[List.idxOf_append,QR h1,List.idxOf_append,QR h2,List.idxOf_cons_self];have hne:u≠v:=λe=>hv (.inr (.inl e.symm));have:(u==v)=false:=by simpa using hne
 rw[List.idxOf_cons,this];simp
structure Od(n:Nat)(E:Nat->Nat->Prop)(O:List Nat):Prop where
 nd:O.Nodup
 len:O.length=n
 mem :∀{x},x∈O↔x<n
 gr:Gr n E λv=>O.idxOf v
 lt :∀v,v<n->O.idxOf v<n
 back :∀{b x},E b x->O.idxOf x<=O.idxOf b->∀S:Nat->Prop,S x->(∀u v,S u->E u v->O.idxOf u<O.idxOf v->S v)->S b
theorem ana{n:Nat}{E:Nat->Nat->Prop}{seen seen':List Bool}{L:List Nat}(h0:0<n)(hin :∀{u v},E u v->u<n/\v<n)(hc :∀S:Nat->Prop,S 0->(∀u v,S u->E u v->S v)->∀b,b<n->S b)(hs :∀x,seen.getD x false=false)(h:Vis E n 0 seen seen' L):Od n E L.reverse:=by
 have hnd:L.reverse.Nodup:=(List.reverse_perm L).nodup_iff.2 h.nd;have h0L:0∈L:=by obtain⟨L0,e⟩:=h.last;rw[e];simp
 have anb :∀y∈L,∀x,E y x->x∈L/\(Bf L x y\/Fc E L x y):=λy hy x hx=>by
  rcases h.suc y hy x hx with h1|h1
  .rw [hs x]at h1;cases h1
  .exact h1
 have hall :∀x,x<n->x∈L:=hc (·∈L) h0L λu v hu he=>(anb u hu v he).1;have hmem :∀{x},x∈L.reverse↔x<n:=λ{x}=>⟨λhx=>(h.new x (List.mem_reverse.1 hx)).1,λhx=>List.mem_reverse.2 (hall x hx)⟩;have hlen:L.reverse.length=n:=by have:=(vp hnd List.nodup_range).2 (λa=>by rw[hmem,V0] :∀a,a∈L.reverse↔a∈List.range n);rw[this.length_eq,List.length_range]
 have hz:L.reverse.idxOf 0=0:=by obtain⟨L0,e⟩:=h.last;rw[e];simp
 have hlt :∀v,v<n->L.reverse.idxOf v<n:=λv hv=>by rw[<-hlen];exact KV (hmem.2 hv)
 have hfw :∀{x y},Fc E L x y->∀S:Nat->Prop,S x->(∀u v,S u->E u v->L.reverse.idxOf u<L.reverse.idxOf v->S v)->S y:=by
  intro x y hf S sx hS
  induction hf with
  |refl=>exact sx
  |step _ he hb ih=>exact hS _ _ ih he (VE h.nd hb)
 refine⟨hnd,hlen,hmem,⟨h0,hin,λ{u v} hu hv e=>?_,hz,λ{v} hv hv0=>?_⟩,hlt,λ{b x} he hle S sx hS=>?_⟩
 .have h1:=vE (KV (hmem.2 hu));have h2:=vE (KV (hmem.2 hv));rw[<-h1,<-h2];simp only[e]
 .have:=h.reach v (hall v hv);cases this with
  |refl=>exact absurd rfl hv0
  |step _ he hb=>exact⟨_,he,VE h.nd hb⟩
 .rcases (anb b (hall b (hin he).1) x he).2 with h1|h1
  .have:=VE h.nd h1;omega
  .exact hfw h1 S sx hS
inductive Lp(E:Nat->Nat->Prop)(h:Nat):Nat->Prop
 |src {s:Nat}:E s h->Dom E h s->s≠h->Lp E h s
 |pre {u v:Nat}:Lp E h v->E u v->u≠h->Lp E h u
def TU(E:Nat->Nat->Prop)(h x:Nat):Prop:=(x=h/\∃s,E s h/\Dom E h s)\/Lp E h x
section
variable {n:Nat} {E:Nat->Nat->Prop} {rk:Nat->Nat}
theorem Lp.ne{h x:Nat}(hl:Lp E h x):x≠h:=by
 cases hl with
 |src _ _ h=>exact h
 |pre _ _ h=>exact h
theorem Lp.ex{h x:Nat}(hl:Lp E h x):∃s,E s h/\Dom E h s:=by
 induction hl with
 |src h1 h2 _=>exact⟨_,h1,h2⟩
 |pre _ _ _ ih=>exact ih
theorem TU.pred{h b x:Nat}(hl:TU E h x)(he:E b x)(hne:x≠h):TU E h b:=by
 rcases hl with⟨e,_⟩|hl
 .exact absurd e hne
 .by_cases hb:b=h
  .exact .inl ⟨hb,hl.ex⟩
  .exact .inr (.pre hl he hb)
theorem adb(hG:Gr n E rk){a b:Nat}(ha:a<n)(hb:b<n)(h1:Dom E a b)(h2:Dom E b a):a=b:=hG.inj ha hb (Nat.le_antisymm (En hG ha hb h1) (En hG hb ha h2))
end
open Go.Fw
theorem lQ{l:List Int}{a z:Nat}{v:Int}(ha:a<l.length):(l.set a v).getD z 0=if z=a then v else l.getD z 0:=by
 rw[Q2,Q2];by_cases h:z=a
 .subst h;rw[Kc ha,Qt rfl];rfl
 .rw [Kn (λe=>h e.symm),QR h]
def Ends(bs:List aH):Prop :=∀b,b<bs.length->((bs.getD b aj).aV≠3->0<=(bs.getD b aj).dI/\(bs.getD b aj).dI<bs.length)/\((bs.getD b aj).aV=2->0<=(bs.getD b aj).bg/\(bs.getD b aj).bg<bs.length)
def VF(bs:List aH):Prop :=∀S:Nat->Prop,S 0->(∀b,b<bs.length->S b->((bs.getD b aj).aV≠3->S (bs.getD b aj).dI.toNat)/\((bs.getD b aj).aV=2->S (bs.getD b aj).bg.toNat))->∀b,b<bs.length->S b
def succs(k t e:Int):List Int:=if k=2/\e≠t then[t,e]else if k=1\/k=2 then[t]else[]
theorem oU(k a t e:Int):f35 k a t e=some (succs k t e):=by
 apply ok_eq;unfold f35 succs;refine aX (λy=>y=decide (k=2/\e≠t)) ?_ λy hy=>?_
 .refine bF (λh=>ay ?_) (λh=>ay ?_)
  .have h:k=2:=by simpa using h
   by_cases h2:e=t<;>simp[h,h2]
  .have h:¬ k=2:=by simpa using h
   simp[h]
 subst hy;refine bF (λh=>ay ?_) (λh=>?_)
 .rw [Qt (by simpa using h)]
 .rw [QR (by simpa using h)];refine aX (λy=>y=decide (k=1\/k=2)) ?_ λy hy=>?_
  .refine bF (λh=>ay ?_) (λh=>ay ?_)
   .have h:k=1:=by simpa using h
    simp[h]
   .have h:¬ k=1:=by simpa using h
    simp[h]
  .subst hy;refine bF (λh=>ay ?_) (λh=>ay ?_)
   .rw [Qt (by simpa using h)]
   .rw [QR (by simpa using h)]
def dw(bs:List aH)(b:Nat):List Int:=succs (bs.getD b aj).aV (bs.getD b aj).dI (bs.getD b aj).bg
def kU(bs:List aH):Prop:=Ends bs/\∀b,b<bs.length->(bs.getD b aj).aV=1\/(bs.getD b aj).aV=2\/(bs.getD b aj).aV=3
theorem n_{bs:List aH}(h:kU bs){b:Nat}(hb:b<bs.length):∀x∈dw bs b,0<=x/\x<bs.length:=by
 obtain⟨h1,h2⟩:=h;obtain⟨e1,e2⟩:=h1 b hb;have hk:=h2 b hb;intro x hx;unfold dw succs at hx;split at hx
 .rename_i hc;rcases Xs.1 hx with rfl|hx
  .exact e1 (by omega)
  .rw [Q6]at hx;rw[hx];exact e2 hc.1
 .split at hx
  .rename_i hc;rw[Q6]at hx;rw[hx];exact e1 (by omega)
  .cases hx
def cntF(l:List Bool):Nat:=l.count false
theorem nC{l:List Bool}{k:Nat}(hk:k<l.length)(hf:l.getD k false=false):cntF (l.set k true)+1=cntF l:=by unfold cntF;rw[getD_at _ hk]at hf;have hp:0<l.count false:=List.count_pos_iff.2 (hf▸Z2 hk);rw[List.count_set hk,hf];simp;omega
theorem iJ{l:List Bool}{a z:Nat}{v:Bool}(ha:a<l.length):(l.set a v).getD z false=if z=a then v else l.getD z false:=by
 rw[Q2,Q2];by_cases h:z=a
 .subst h;rw[Kc ha,Qt rfl];rfl
 .rw [Kn (λe=>h e.symm),QR h]
structure Mk(bs:List aH)(m:List Bool)(st:List Int):Prop where
 len:m.length=bs.length
 zero:m.getD 0 false=true
 stk :∀x∈st,(0<=x/\x<bs.length)/\m.getD x.toNat false=true
 all :∀S:Nat->Prop,S 0->(∀b,b<bs.length->S b->∀x∈dw bs b,S x.toNat)->∀b,b<bs.length->m.getD b false=true->S b
theorem SX{nm:List UInt8}{a b:Int}{bs:List aH}(hE:kU bs)(h0:0<bs.length)(hl:bs.length<=1000000):
  Ok (f56 nm a b bs) λm=>Mk bs m []/\∀b,b<bs.length->m.getD b false=true->∀x∈dw bs b,m.getD x.toNat false=true:=by
 unfold f56;refine aY (gy.2 (by omega)) ?_;refine yR (Vn (by simp only[Kf,Q1];omega)) (aY (ak.2 (by simp only[Kf,Q1];omega)) ?_);refine aX (λm=>Mk bs m []/\∀b,b<bs.length->m.getD b false=true->∀x∈dw bs b,m.getD x.toNat false=true) ?_ λy hy=>ay hy;have hz:(List.replicate ((bs.length:Int)).toNat false).length=bs.length:=by simp
 refine bf (λs:List Bool×List Int=>Mk bs s.1 s.2/\s.2.length+cntF s.1<=bs.length/\∀b,b<bs.length->s.1.getD b false=true->(b:Int)∈s.2\/∀x∈dw bs b,s.1.getD x.toNat false=true) (λs=>2*cntF s.1+s.2.length)
  ⟨⟨by simp,by rw[iJ (by rw[hz];exact h0)];simp,λx hx=>?_,λS s0 _ b hb hm=>?_⟩,?_,λb hb hm=>.inl ?_⟩ λs ⟨h1,hsz,h2⟩=>?_
 .rw [Q6]at hx;subst hx;refine⟨by omega,?_⟩;rw[iJ (by rw[hz];exact h0)];simp
 .simp only at hm;rw[iJ (by rw[hz];exact h0)]at hm;split at hm
  .rename_i e;rw[e];exact s0
  .rw [getD_at _ (by rw[hz];exact hb)]at hm;simp at hm
 .have hc:=nC (l:=List.replicate ((bs.length:Int)).toNat false) (k:=0) (by rw[hz];exact h0) (by rw[getD_at _ (by rw[hz];exact h0)];simp);have:cntF (List.replicate ((bs.length:Int)).toNat false)=bs.length:=by simp[cntF,qt]
  simp only[W3,Int.toNat_zero];omega
 .simp only at hm;rw[iJ (by rw[hz];exact h0)]at hm;split at hm
  .rename_i e;simp[e]
  .rw [getD_at _ (by rw[hz];exact hb)]at hm;simp at hm
 obtain⟨m,st⟩:=s;simp only at h1 h2 hsz;refine bF (λhne=>?_) (λhe=>ay ?_)
 rotate_left
 .have:st=[]:=by simpa using he
  subst this;exact⟨h1,λb hb hm=>(h2 b hb hm).resolve_left (by simp)⟩
 have hpos:0<st.length:=by simpa using hne
 have hw:cu ((st.length:Int)-1)=((st.length-1:Nat):Int):=by rw[aI (by omega)];omega
 simp only[hw,Q1];refine aY (ak.2 (by omega)) (aY (by simp) ?_);have hlast:st.getD (st.length-1) 0∈st:=by rw[getD_at _ (by omega)];exact Z2 _
 have hst:st=st.take (st.length-1)++[st.getD (st.length-1) 0]:=by rw[getD_at _ (by omega),<-take_snoc (by omega),show st.length-1+1=st.length from by omega,W8]
 obtain⟨hx1,hx2⟩:=h1.stk _ hlast;generalize st.getD (st.length-1) 0=x at hlast hst hx1 hx2 ⊢;obtain⟨q,rfl⟩ :∃n:Nat,x=n:=⟨x.toNat,by omega⟩;rw[Q1]at hx2;have hq:q<bs.length:=by omega
 have htl:(st.take (st.length-1)).length=st.length-1:=by simp
 generalize st.take (st.length-1)=st' at hst htl ⊢;refine aY (ak.2 (by omega)) ?_;simp only[Q1];refine lU (oU _ _ _ _) ?_;have aq9:=n_ hE hq;have anc:succs (bs.getD q aj).aV (bs.getD q aj).dI (bs.getD q aj).bg=dw bs q:=rfl;rw[anc];refine aX (λy=>Mk bs y.1 y.2/\2*cntF y.1+y.2.length<=2*cntF m+st'.length/\y.2.length+cntF y.1<=st'.length+cntF m/\(∀b,b<bs.length->m.getD b false=true->y.1.getD b false=true)/\(∀z∈st',z∈y.2)/\
   (∀b,b<bs.length->y.1.getD b false=true->m.getD b false=false->(b:Int)∈y.2)/\∀x∈dw bs q,y.1.getD x.toNat false=true) ?_ λy ⟨a1,a2,a3,a4,a5,a6,a7⟩=>ay ⟨⟨a1,?_,λb hb hm=>?_⟩,?_⟩
 .have hm0:Mk bs m st':=⟨h1.len,h1.zero,λx hx=>h1.stk x (by rw[hst];exact XS _ hx),h1.all⟩;refine aiG (dw bs q) (λi s=>(i,s.1,s.2)) (λs x=>if s.1.getD x.toNat false then s else(s.1.set x.toNat true,s.2++[x]))
   (λi s=>Mk bs s.1 s.2/\2*cntF s.1+s.2.length<=2*cntF m+st'.length/\s.2.length+cntF s.1<=st'.length+cntF m/\(∀b,b<bs.length->m.getD b false=true->s.1.getD b false=true)/\(∀z∈st',z∈s.2)/\
    (∀b,b<bs.length->s.1.getD b false=true->m.getD b false=false->(b:Int)∈s.2)/\∀j,(hj:j<(dw bs q).length)->j<i->s.1.getD ((dw bs q)[j]).toNat false=true)
   (s0:=(m,st')) rfl ⟨hm0,ZD _,ZD _,λ_ _ h=>h,λ_ h=>h,λb _ h h'=>(by rw[h]at h';cases h'),λj _ h=>by omega⟩ (λi h s ⟨b1,b2,b3,b4,b5,b6,b7⟩ _=>?_) (λs ⟨b1,b2,b3,b4,b5,b6,b7⟩ _=>?_)
  rotate_left
  .refine yR (Vn (by simp only;omega)) (ay ⟨b1,b2,b3,b4,b5,b6,λx hx=>?_⟩);obtain⟨j,hj,e⟩:=JN hx;rw[<-e];exact b7 j hj hj
  obtain⟨mk,sk⟩:=s;simp only at b1 b2 b3 b4 b5 b6 b7;have hs2:(dw bs q).length<=2:=by unfold dw succs;(repeat' split)<;>simp
  have hmem:=Z2 h;have hxr:=aq9 _ hmem;have hlen:=b1.len;refine goT (Wc (by simp only;omega)) (aY (ak.2 ⟨by simp only;omega,by simp only;omega⟩) ?_);have e:(dw bs q).getD i 0=(dw bs q)[i]:=getD_at _ h;simp only[Q1,e];have hnew :∀(mk':List Bool) (b':Nat),b'<bs.length->mk'.getD b' false=true->True:=λ_ _ _ _=>trivial;refine aY (ak.2 (by omega)) ?_;generalize hgx:(dw bs q)[i]=x at hmem hxr ⊢;have hxl:x.toNat<mk.length:=by omega
  refine aX (λy=>y=if mk.getD x.toNat false then(mk,sk)else(mk.set x.toNat true,sk++[x])) ?_ λy hy=>?_
  .refine bF (λhc=>?_) (λhc=>ay ?_)
   .have hc:mk.getD x.toNat false=false:=by simpa using hc
    refine aY (ak.2 ⟨by omega,by omega⟩) ?_;refine aY (ak.2 (by omega)) (aY (ak.2 ⟨by omega,by omega⟩) (aY (by unfold bP;simp;omega) (ay ?_)));rw[QR (by rw[hc];simp)]
   .have hc:mk.getD x.toNat false=true:=by simpa using hc
    rw[Qt hc]
  .subst hy;refine ay ⟨by rw[aI (x:=(i:Int)+1) (by omega)],?_⟩;by_cases hc:mk.getD x.toNat false=true
   .simp only[Qt hc];refine⟨b1,b2,b3,b4,b5,b6,λj hj hji=>?_⟩;by_cases e2:j=i
    .subst e2;rw[hgx];exact hc
    .exact b7 j hj (by omega)
   .simp only[QR hc];have hcf:mk.getD x.toNat false=false:=by simpa using hc
    have hcnt:=nC hxl hcf;have hset :∀z,(mk.set x.toNat true).getD z false=if z=x.toNat then true else mk.getD z false:=λz=>iJ hxl
    refine⟨⟨by simp[hlen],?_,λz hz=>?_,λS s0 hcl z hz hm=>?_⟩,by simp;omega,by simp;omega,λz hz hm=>?_,λz hz=>XS _ (b5 z hz),λz hz hm hf=>?_,λj hj hji=>?_⟩
    .rw [hset];split
     .rfl
     .exact b1.zero
    .rcases QQ.1 hz with hz|hz
     .obtain ⟨r1,r2⟩:=b1.stk z hz;refine⟨r1,?_⟩;rw[hset];split
      .rfl
      .exact r2
     .rw [Q6]at hz;subst hz;refine⟨hxr,?_⟩;rw[hset,Qt rfl]
    .rw [hset]at hm;split at hm
     .rename_i e2;rw[e2];exact hcl q hq (h1.all S s0 hcl q hq hx2) x hmem
     .exact b1.all S s0 hcl z hz hm
    .rw [hset];split
     .rfl
     .exact b4 z hz hm
    .rw [hset]at hm;split at hm
     .rename_i e2;refine We _ ?_;rw[Q6];omega
     .exact XS _ (b6 z hz hm hf)
    .rw [hset];by_cases e2:j=i
     .subst e2;rw[hgx,Qt rfl]
     .split
      .rfl
      .exact b7 j hj (by omega)
 .have:st.length=st'.length+1:=by rw[hst];simp
  (try simp only);omega
 .try simp only at hm ⊢
  cases hmb:m.getD b false with
  |false=>exact .inl (a6 b hb hm hmb)
  |true=>
   by_cases e:b=q
   .subst e;exact .inr a7
   .rcases h2 b hb hmb with h|h
    .rw [hst]at h;rcases QQ.1 h with h|h
     .exact .inl (a5 _ h)
     .rw [Q6]at h;omega
    .refine .inr λx hx=>?_;have:=n_ hE hb x hx;exact a4 x.toNat (by omega) (h x hx)
 .have:st.length=st'.length+1:=by rw[hst];simp
  (try simp only);omega
def Good(f:aK):Prop:=f.blocks.length<=1000/\0<f.blocks.length/\kU f.blocks/\VF f.blocks
def idx(m:List Bool):Nat->List Nat
 |0=>[]
 |i+1=>idx m i++if m.getD i false then[i]else[]
def rk(m:List Bool)(i:Nat):Nat:=(idx m i).length
theorem X4(m:List Bool)(i:Nat):rk m (i+1)=rk m i+if m.getD i false then 1 else 0:=by show (idx m i++if m.getD i false then[i]else[]).length=(idx m i).length+_;rw[Z0];split<;>rfl
theorem G_{m:List Bool}:∀{n j:Nat},j∈idx m n->j<n/\m.getD j false=true
 |n+1,j,h=>by
  rcases QQ.1 h with h|h
  .have:=G_ h;exact⟨by omega,this.2⟩
  .split at h
   .rename_i e;rw[Q6]at h;subst h;exact⟨by omega,e⟩
   .cases h
theorem J4{m:List Bool}:∀{n j:Nat},j<n->m.getD j false=true->(idx m n)[rk m j]?=some j
 |n+1,j,h,hm=>by
  unfold idx;by_cases e:j=n
  .subst e;show (idx m j++if m.getD j false then[j]else[])[(idx m j).length]?=_;rw[Wg (ZD _),Qt hm,Nat.sub_self];rfl
  .have:=J4 (n:=n) (by omega) hm;rw[Wt (Q4.1 this).1];exact this
theorem ade(m:List Bool)(i:Nat):rk m i<=i:=by
 induction i with
 |zero=>exact ZD _
 |succ i ih=>rw[X4];split<;>omega
def ren(m:List Bool)(t:aH):aH:=
 { t with dI:=if t.aV=3 then t.dI else(rk m t.dI.toNat:Int),bg:=if t.aV=2 then(rk m t.bg.toNat:Int)else t.bg }
def wJ(m:List Bool)(bs:List aH):List aH:=(idx m bs.length).map λj=>ren m (bs.getD j aj)
theorem CV{bs:List aH}{b:Nat}:((bs.getD b aj).aV=1\/(bs.getD b aj).aV=2->(bs.getD b aj).dI∈dw bs b)/\((bs.getD b aj).aV=2->(bs.getD b aj).bg∈dw bs b):=by
 unfold dw succs;constructor
 .intro h;split
  .simp
  .first
   |(rw[Qt h];simp)
   |simp
 .intro h;split
  .simp
  .rename_i hc
   first
    |rw[Qt (.inr h)]
    |skip
   have:(bs.getD b aj).bg=(bs.getD b aj).dI:=Decidable.byContradiction λe=>hc ⟨h,e⟩;rw[this];exact Q6.2 rfl
theorem ZK{bs:List aH}{m:List Bool}(hE:kU bs)(h0:0<bs.length)(hM:Mk bs m [])(hc :∀b,b<bs.length->m.getD b false=true->∀x∈dw bs b,m.getD x.toNat false=true):
  0<(wJ m bs).length/\(wJ m bs).length<=bs.length/\kU (wJ m bs)/\VF (wJ m bs):=by
 have hlen:(wJ m bs).length=rk m bs.length:=by unfold wJ rk;simp
 have hlt :∀j,j<bs.length->m.getD j false=true->rk m j<(wJ m bs).length:=by intro j hj hm;have:=(Q4.1 (J4 hj hm)).1;rw[hlen];exact this
 have hget :∀p,p<(wJ m bs).length->∃j,j<bs.length/\m.getD j false=true/\rk m j=p/\(wJ m bs).getD p aj=ren m (bs.getD j aj):=by
  intro p hp;have hp':p<(idx m bs.length).length:=by unfold wJ at hp;simpa using hp
  have hm:=G_ (Z2 hp');refine⟨(idx m bs.length)[p],hm.1,hm.2,?_,?_⟩
  .have h1:=J4 hm.1 hm.2;have key :∀n,∀a b:Nat,(idx m n)[a]?=(idx m n)[b]?->a<(idx m n).length->a=b:=by
    intro n
    induction n with
    |zero=>intro a b _ h;simp[idx]at h
    |succ n ih=>
     intro a b hab ha;unfold idx at hab ha;by_cases hn:m.getD n false=true
     .rw [Qt hn]at hab ha;rw[Z0]at ha;by_cases ha2:a<(idx m n).length
      .rw [Wt ha2]at hab;by_cases hb2:b<(idx m n).length
       .rw [Wt hb2]at hab;exact ih a b hab ha2
       .rw [Wg (by omega),Q3 ha2]at hab;have hbb:b-(idx m n).length=0:=by have:=(Q4.1 hab.symm).1;simp at this;omega
        rw[hbb]at hab;have:=G_ (Z2 ha2);simp at hab;omega
      .have haa:a=(idx m n).length:=by simp at ha;omega
       rw[Wg (by omega),haa,Nat.sub_self]at hab;by_cases hb2:b<(idx m n).length
       .rw [Wt hb2,Q3 hb2]at hab;have:=G_ (Z2 hb2);simp at hab;omega
       .rw [Wg (by omega)]at hab;have:=(Q4.1 hab.symm).1;simp at this;omega
     .rw [QR hn,qb]at hab ha;exact ih a b hab ha
   refine(key bs.length p _ ?_ hp').symm;rw[h1,Q3 hp']
  .unfold wJ;rw[Q2,Z3,Q3 hp'];rfl
 have hz:rk m 0=0:=rfl;refine⟨by have:=hlt 0 h0 hM.zero;omega,by rw[hlen];exact ade _ _,⟨λp hp=>?_,λp hp=>?_⟩,λS s0 hS p hp=>?_⟩
 .obtain ⟨j,hj,hm,_,e⟩:=hget p hp;obtain⟨e1,e2⟩:=hE.1 j hj;have hk:=hE.2 j hj;have hs:=CV (bs:=bs) (b:=j);rw[e];unfold ren;simp only;refine⟨λhk3=>?_,λhk2=>?_⟩
  .rw [QR hk3];have:=hlt _ (by have:=e1 hk3;omega) (hc j hj hm _ (hs.1 (by omega)));omega
  .rw [Qt hk2];have:=hlt _ (by have:=e2 hk2;omega) (hc j hj hm _ (hs.2 hk2));omega
 .obtain ⟨j,hj,hm,_,e⟩:=hget p hp;rw[e];exact hE.2 j hj
 .obtain ⟨j,hj,hm,hr,_⟩:=hget p hp;have:=hM.all (λb=>m.getD b false=true/\S (rk m b)) ⟨hM.zero,s0⟩ (λb hb ⟨hbm,hbS⟩ x hx=>⟨hc b hb hbm x hx,?_⟩) j hj hm
  .rw [<-hr];exact this.2
  .have hbl:=hlt b hb hbm;obtain⟨j',hj',hm',hr',e'⟩:=hget _ hbl;have hjb:j'=b:=by have h1:=J4 hj' hm';have h2:=J4 hb hbm;rw[hr',h2]at h1;exact(WN h1).symm
   subst hjb;obtain⟨c1,c2⟩:=hS _ hbl hbS;rw[e']at c1 c2;unfold ren at c1 c2;simp only at c1 c2;unfold dw succs at hx;split at hx
   .rename_i hk;rcases Xs.1 hx with rfl|hx
    .have:=c1 (by omega);rw[QR (by omega)]at this;simpa using this
    .rw [Q6]at hx;subst hx;have:=c2 hk.1;rw[Qt hk.1]at this;simpa using this
   .split at hx
    .rename_i hk;rw[Q6]at hx;subst hx;have:=c1 (by omega);rw[QR (by omega)]at this;simpa using this
    .cases hx
theorem adf(m:List Bool)(i:Nat):idx m (i+1)=idx m i++if m.getD i false then[i]else[]:=rfl
theorem VG{nm:List UInt8}{a b:Int}{bs:List aH}(hE:kU bs)(h0:0<bs.length)(hl:bs.length<=1000000):
  Ok (f44 nm a b bs) λy=>y.1=nm/\y.2.1=a/\y.2.2.1=b/\0<y.2.2.2.length/\y.2.2.2.length<=bs.length/\kU y.2.2.2/\VF y.2.2.2:=by
 unfold f44;refine aX _ (SX hE h0 hl) λm ⟨hM,hc⟩=>?_;have hml:=hM.len;refine aY (gy.2 (by omega)) ?_;refine aX (λy=>y.length=bs.length/\∀j,j<bs.length->y.getD j 0=(rk m j:Int)) ?_ λnums ⟨hn1,hn2⟩=>?_
 .refine bf (λs:Int×Int×List Int=>∃i:Nat,s.2.1=i/\i<=bs.length/\s.1=(rk m i:Int)/\s.2.2.length=bs.length/\∀j,j<i->s.2.2.getD j 0=(rk m j:Int)) (λs=>bs.length-s.2.1.toNat)
   ⟨0,rfl,by omega,rfl,by simp[hml],λj h=>by omega⟩ λs ⟨i,e1,e2,e3,e4,e5⟩=>?_
  obtain⟨k,i',l⟩:=s;simp only at e1 e3 e4 e5;subst e1;subst e3;refine bF (λhi=>?_) (λhi=>ay ⟨e4,λj hj=>e5 j ?_⟩)
  rotate_left
  .simp at hi;omega
  have hi:i<bs.length:=by simp at hi;omega
  have hrk:=ade m i;refine aY (ak.2 ⟨by simp only;omega,by simp only;omega⟩) (aY (ak.2 ⟨by simp only;omega,by simp only;omega⟩) ?_);simp only[Q1];refine aX (λy=>y=(rk m (i+1):Int)) ?_ λy hy=>?_
  .rw [X4];refine bF (λhm=>ay ?_) (λhm=>ay ?_)
   .rw [Qt hm,aI (by omega)];simp
   .rw [QR (by rw[hm];simp)];simp
  .subst hy;refine ay ⟨⟨i+1,by simp only;rw[aI (x:=(i:Int)+1) (by omega)];simp,by omega,rfl,by simp[e4],λj hj=>?_⟩,by simp only;rw[aI (x:=(i:Int)+1) (by omega)];omega⟩;simp only;rw[lQ (by omega)];split
   .rename_i e;rw[e]
   .exact e5 j (by omega)
 refine aX (λy=>y=(nm,a,b,wJ m bs)) ?_ λy hy=>?_
 rotate_left
 .subst hy;obtain⟨c1,c2,c3,c4⟩:=ZK hE h0 hM hc;exact ay ⟨rfl,rfl,rfl,c1,c2,c3,c4⟩
 refine bf (λs:Int×List UInt8×Int×Int×List aH=>∃i:Nat,i<=bs.length/\s=((i:Int),nm,a,b,(idx m i).map λj=>ren m (bs.getD j aj))) (λs=>bs.length-s.1.toNat)
  ⟨0,by omega,rfl⟩ λs ⟨i,e2,e⟩=>?_
 subst e;refine bF (λhi=>?_) (λhi=>ay ?_)
 rotate_left
 .have:i=bs.length:=by simp at hi;omega
  subst this;rfl
 have hi:i<bs.length:=by simp at hi;omega
 have hrk:=ade m i;refine aX (λy=>y=(nm,a,b,(idx m (i+1)).map λj=>ren m (bs.getD j aj))) ?_ λy hy=>?_
 rotate_left
 .subst hy;refine ay ⟨⟨i+1,by omega,?_⟩,by simp only;rw[aI (x:=(i:Int)+1) (by omega)];omega⟩;simp only;rw[aI (x:=(i:Int)+1) (by omega)];rfl
 refine aY (ak.2 ⟨by simp only;omega,by simp only;omega⟩) ?_;simp only[Q1];rw[adf];refine bF (λhm=>ay ?_) (λhm=>?_)
 .have hm:m.getD i false=false:=by simpa using hm
  rw[QR (by rw[hm];simp),qb]
 have hm:m.getD i false=true:=by simpa using hm
 rw[Qt hm];obtain⟨t1,t2⟩:=hE.1 i hi;refine aY (ak.2 (by omega)) ?_;have h_:ren m (bs.getD i aj)={ bs.getD i aj with dI:=if(bs.getD i aj).aV=3 then(bs.getD i aj).dI else(rk m (bs.getD i aj).dI.toNat:Int),bg:=if(bs.getD i aj).aV=2 then(rk m (bs.getD i aj).bg.toNat:Int)else(bs.getD i aj).bg }:=rfl;have hmap:(idx m i++[i]).map (λj=>ren m (bs.getD j aj))=(idx m i).map (λj=>ren m (bs.getD j aj))++[ren m (bs.getD i aj)]:=by simp
 have hll:((idx m i).map λj=>ren m (bs.getD j aj)).length=rk m i:=by unfold rk;simp
 rw[hmap];generalize (idx m i).map (λj=>ren m (bs.getD j aj))=acc at hll ⊢;rw[h_];refine aX (λy=>y=((bs.getD i aj).instrs,(bs.getD i aj).aV,(bs.getD i aj).mJ,(if(bs.getD i aj).aV=3 then(bs.getD i aj).dI else(rk m (bs.getD i aj).dI.toNat:Int)),(bs.getD i aj).bg,(bs.getD i aj).line,(bs.getD i aj).jQ,(bs.getD i aj).jf)) ?_ λy hy=>?_
 .refine bF (λhk=>?_) (λhk=>ay ?_)
  .have hk:¬ (bs.getD i aj).aV=3:=by simpa using hk
   have:=t1 hk;refine aY (ak.2 (by omega)) (ay ?_);rw[QR hk,hn2 _ (by omega)]
  .have hk:(bs.getD i aj).aV=3:=by simpa using hk
   rw[Qt hk]
 subst hy;refine aX (λy=>y=((bs.getD i aj).instrs,(bs.getD i aj).aV,(bs.getD i aj).mJ,(if(bs.getD i aj).aV=3 then(bs.getD i aj).dI else(rk m (bs.getD i aj).dI.toNat:Int)),(if(bs.getD i aj).aV=2 then(rk m (bs.getD i aj).bg.toNat:Int)else(bs.getD i aj).bg),(bs.getD i aj).line,(bs.getD i aj).jQ,(bs.getD i aj).jf)) ?_ λy hy=>?_
 .refine bF (λhk=>?_) (λhk=>ay ?_)
  .have hk:(bs.getD i aj).aV=2:=by simpa using hk
   have:=t2 hk;refine aY (ak.2 ⟨by simp only;omega,by simp only;omega⟩) (ay ?_);simp only;rw[Qt hk,hn2 _ (by omega)]
  .have hk:¬ (bs.getD i aj).aV=2:=by simpa using hk
   (try simp only)
   rw[QR hk]
 subst hy;refine aY (by unfold bP;simp;omega) (ay rfl)
def Bytes(l:List Int):Prop:=l.length<=9223372036854775807/\∀x∈l,0<=x/\x<=255
theorem bytes_at{l:List Int}(h:Bytes l){n:Int}(h0:0<=n)(h1:n<l.length):0<=l.getD n.toNat 0/\l.getD n.toNat 0<=255:=by rw[getD_at 0 (by omega)];exact h.2 _ (Z2 _)
def SY(n:Int)(l:List Int)(y:Int×(List Int×Int)):Prop:=y.2.1=l/\0<=y.2.2/\0<=y.1/\(1<=n->y.1<n)/\(n<=1->y.1=0)
theorem MR{rec:Int->List Int->Int->Option (Int×(List Int×Int))}{n:Int}{l:List Int}{i:Int}(hl:Bytes l)(hi:0<=i)(hn:n<=65536)
  (hrec:256<n->∀j,0<=j->Ok (rec 256 l j) (SY 256 l)):Ok (afn rec n l i) (SY n l):=by
 unfold afn;simp only[GU,Vk,yN,ab4,Xu,RS,ak,not_iff];have tail:(n≥1)->i<l.length->(0<=i/\i<(l.length:Int))/\(256<n->Ok (rec 256 l (cu (i+1))) λy=>¬ n=0/\SY n l (Int.tmod (cu (cu (256*cu (l.getD i.toNat 0))+y.1)) n,y.2.1,y.2.2))/\(¬ 256<n->¬ n=0/\SY n l (Int.tmod (cu (l.getD i.toNat 0)) n,l,cu (i+1))):=by
  intro h1 h2;have hb:=bytes_at hl hi h2;have hl':=hl.1;rw[aI (x:=i+1) (by omega),aI (x:=l.getD i.toNat 0) (by omega),aI (x:=256*l.getD i.toNat 0) (by omega)];refine⟨⟨hi,h2⟩,λh3=>jA (hrec h3 (i+1) (by omega)) λy hy=>?_,λh3=>⟨by omega,?_⟩⟩
  .obtain ⟨q1,q2,q3,q4,q5⟩:=hy;have q4:=q4 (by omega);rw[aI (by omega)];refine⟨by omega,q1,q2,?_⟩;have:=tmod_lt (a:=256*l.getD i.toNat 0+y.1) (b:=n) (by omega) (by omega);exact⟨this.1,λ_=>this.2,λ_=>by omega⟩
  .have:=tmod_lt (a:=l.getD i.toNat 0) (b:=n) hb.1 (by omega);refine⟨rfl,by simp;omega,this.1,λ_=>this.2,λ_=>?_⟩;have e:n=1:=by omega
   subst e;have:=this.2;have:=this;simp only;omega
 refine⟨λh=>⟨λ_=>⟨rfl,hi,Int.le_refl _,λh=>by simp only;omega,λ_=>rfl⟩,λh0=>by cases h0⟩,λh=>⟨λh1=>⟨rfl,hi,Int.le_refl _,λh=>by simp only;omega,λ_=>rfl⟩,λh1=>?_⟩⟩;exact tail (by omega) (by omega)
theorem MS(k:Nat):afo (k+1)=afn (afo k):=rfl
theorem agr{n:Int}{l:List Int}{i:Int}(hl:Bytes l)(hi:0<=i)(hn:n<=65536):Ok (f23 n l i) (SY n l):=by have e:f23 n l i=afo (1048574+2) n l i:=rfl;rw[e,MS];refine MR hl hi hn λ_ j hj=>?_;rw[MS];exact MR hl hj (by omega) λh=>absurd h (by omega)
theorem ajD{l:List Int}{n:Int}(hl:Bytes l)(hn:0<=n):Ok (f5 l n) λy=>y.2=0/\Bytes y.1:=by unfold f5;simp only[GU,Vk,yN,ab4,Xu,RS,CG];refine⟨λh=>⟨⟨⟨by omega,hn⟩,by omega⟩,trivial,?_⟩,λh=>⟨trivial,hl⟩⟩;simp only[Int.toNat_zero,List.drop_zero];exact⟨by have:=hl.1;simp;omega,λx hx=>hl.2 x (W6 hx)⟩
theorem ZL(k:Nat):afs (k+1)=aiZ (afs k):=rfl
theorem F8:∀(k:Nat) (n:Int),0<=n->n<k->k<=1048576->Ok (afs k n) λs=>s.length<=k
 |0,n,h0,h1,_=>by omega
 |k+1,n,h0,h1,h2=>by
  rw[ZL];unfold aiZ;refine bF (λhc=>?_) (λhc=>ay (by simp));have hc:10<=n:=by simpa using hc
  have hd:Int.tdiv n 10=n/10:=Int.tdiv_eq_ediv_of_nonneg h0;have hw:cu (Int.tdiv n 10)=n/10:=by rw[hd];exact aI (by omega)
  rw[hw];refine aX _ (F8 k (n/10) (by omega) (by omega) (by omega)) λy hy=>aY (nR.2 (by simp;omega)) (ay (by simp;omega))
theorem uq{n:Int}(h0:0<=n)(h1:n<1048576):Ok (f42 n) λs=>s.length<=1048576:=F8 _ n h0 h1 (ZD _)
theorem goN{β:Type}{n:Int}{l:List Int}{i:Int}{f:Int×List Int×Int->Option β}{Q:β->Prop}(hb:Bytes l)(hi:0<=i)(hn:n<=65536)
  (k :∀x j,0<=j->0<=x->(1<=n->x<n)->Ok (f (x,l,j)) Q):Ok (Option.bind (f23 n l i) f) Q:=
 aX _ (agr hb hi hn) λ⟨x,l',j⟩ ⟨(e:l'=l),h1,h2,h3,_⟩=>by subst e;exact k x j h1 h2 h3
theorem instr_ok{gl:List aU}{fs:List aK}{ca ct:Int}{nm:List UInt8}{pa re:Int}{bl:List aH}{l:List Int}{i:Int}(hb:Bytes l)(hi:0<=i)(hre:re<=65536)(hca:ca<=65536)
  (hfs:0<fs.length/\fs.length<=65536) (hpa :∀f∈fs,f.params<=10):Ok (f43 gl fs ca ct nm pa re bl l i) λy=>y.2.2.2.2.2.2.1=l/\0<=y.2.2.2.2.2.2.2.1:=by
 unfold f43;refine goN hb hi (by omega) λx0 j0 h0 a0 b0=>goN hb h0 (by omega) λx1 j1 h1 _ _=>goN hb h1 (by omega) λx2 j2 h2 _ _=>goN hb h2 (by omega) λx3 j3 h3 _ _=>?_;refine aX (λs=>s.1=l/\0<=s.2.1) ?_ λs ⟨e1,e2⟩=>?_
 .refine bF (λ_=>goN hb h3 (by omega) λx j hj _ _=>ay ⟨rfl,hj⟩) (λ_=>aX (λs=>s.1=l/\0<=s.2.1) ?_ λs hs=>ay hs);refine bF (λ_=>goN hb h3 (by omega) λx j hj _ _=>ay ⟨rfl,hj⟩) (λ_=>aX (λs=>s.1=l/\0<=s.2.1) ?_ λs hs=>ay hs);refine bF (λ_=>goN hb h3 (by omega) λx j hj _ _=>ay ⟨rfl,hj⟩) (λ_=>aX (λ_=>True) ?_ λs _=>aX (λs=>s.1=l/\0<=s.2.1) ?_ λs hs=>ay hs)
  .exact bF (λ_=>ay trivial) λ_=>ay trivial
  refine bF (λ_=>ay ⟨rfl,h3⟩) (λ_=>aX (λs=>s.1=l/\0<=s.2.1) ?_ λs hs=>ay hs);refine bF (λ_=>goN hb h3 (by omega) λx j hj hx0 hx=>aX (λs=>s.1=l/\0<=s.2.1) ?_ λs hs=>ay hs) (λ_=>aX (λs=>s.1=l/\0<=s.2.1) ?_ λs hs=>ay hs)
  .have hx:=hx (by omega);refine bf (λs:Int×List Int×Int×Int×Int×Int×Int×Int×Int×List Int=>s.2.1=l/\0<=s.2.2.1/\(0<=s.1/\s.1<=10)/\s.2.2.2.2.2.2.2.2.1=x/\s.2.2.2.2.2.2.2.2.2.length<=s.1) (λs=>(10-s.1).toNat)
    ⟨rfl,hj,by simp,rfl,by simp⟩ λ⟨q,l',j',s4,s5,s6,s7,s8,s9,ar⟩ ⟨e1,e2,⟨e3,e3'⟩,e4,e5⟩=>?_
   simp only at e1 e2 e3 e3' e4 e5;subst e1;subst e4;refine aY (ak.2 ⟨hx0,hx⟩) ?_;refine bF (λhc=>?_) (λ_=>ay ⟨rfl,e2⟩);have hp:(fs.getD s9.toNat aG).params<=10:=by rw[getD_at _ (by omega)];exact hpa _ (Z2 _)
   have hc:q<(fs.getD s9.toNat aG).params:=by simpa using hc
   refine goN hb e2 hre λy k hk _ _=>aY (by unfold bP;simp;omega) (ay ⟨⟨rfl,hk,?_,rfl,?_⟩,?_⟩)
   all_goals simp only[aI (x:=q+1) (by omega)]
   .omega
   .simp;omega
   .omega
  refine bF (λ_=>goN hb h3 (by omega) λx j hj hx0 hx=>aX (λs=>s.1=l/\0<=s.2.1) ?_ λs hs=>ay hs) (λ_=>ay ⟨rfl,h3⟩);have hx:=hx (by omega);refine bf (λs:Int×List Int×Int×Int×Int×Int×Int×Int×Int×List Int=>s.2.1=l/\0<=s.2.2.1/\(0<=s.1/\s.1<=3)/\s.2.2.2.2.2.2.2.2.2.length<=3-s.1) (λs=>s.1.toNat)
   ⟨rfl,hj,⟨hx0,by simp only;omega⟩,by simp only[Km];omega⟩ λ⟨q,l',j',s4,s5,s6,s7,s8,s9,ar⟩ ⟨e1,e2,⟨e3,e3'⟩,e5⟩=>?_
  simp only at e1 e2 e3 e3' e5;subst e1;refine bF (λhc=>?_) (λ_=>ay ⟨rfl,e2⟩);have hc:0<q:=by simpa using hc
  refine goN hb e2 hre λy k hk _ _=>aY (by unfold bP;simp;omega) (ay ⟨⟨rfl,hk,?_,?_⟩,?_⟩)
  all_goals simp only[aI (x:=q-1) (by omega)]
  .omega
  .simp;omega
  .omega
 obtain⟨t1,t2,s⟩:=s;simp only at e1 e2;subst e1;refine aX (λs=>s.2.1=t1/\0<=s.2.2) ?_ λ⟨s1,s2,s3⟩ ⟨e3,e4⟩=>?_
 .refine bF (λ_=>bF (λ_=>goN hb e2 (by omega) λx j hj _ _=>ay ⟨rfl,hj⟩) λ_=>ay ⟨rfl,e2⟩) λ_=>ay ⟨rfl,e2⟩
 simp only at e3 e4;subst e3;exact bF (λ_=>goN hb e4 hca λx j hj _ _=>ay ⟨rfl,hj⟩) λ_=>ay ⟨rfl,e4⟩
theorem MV{α:Type}{l:List α}{a z:Nat}{v d:α}(ha:a<l.length):(l.set a v).getD z d=if z=a then v else l.getD z d:=by
 rw[Q2,Q2];by_cases h:z=a
 .subst h;rw[Kc ha,Qt rfl];rfl
 .rw [Kn (λe=>h e.symm),QR h]
def HG(N i:Nat)(P:List aH->Prop)(fs:List aK):Prop:=fs.length=N/\∀k,k<N->(fs.getD k aG).params<=10/\(fs.getD k aG).regs<=4/\(k<i->Good (fs.getD k aG))/\(k=i->P (fs.getD k aG).blocks)/\(i<k->(fs.getD k aG).blocks=[])
theorem HG.put{N i:Nat}{P Q:List aH->Prop}{fs:List aK}{nm:List UInt8}{pa re:Int}{bl:List aH}(h:HG N i P fs)(hi:i<N)(hp:pa=(fs.getD i aG).params)(hr:re=(fs.getD i aG).regs)(hq:Q bl):HG N i Q (fs.set i (aK.mk nm pa re bl)):=by
 refine⟨by simp[h.1],λk hk=>?_⟩;rw[MV (by rw[h.1];exact hi)];obtain⟨a1,a2,a3,a4,a5⟩:=h.2 k hk;split
 .rename_i e;subst e;exact⟨by simp only[hp];exact a1,by simp only[hr];exact a2,λe=>absurd e (KB _),λ_=>hq,λe=>absurd e (KB _)⟩
 .rename_i e;exact⟨a1,a2,a3,λe'=>absurd e' e,a5⟩
theorem HG.next{N i:Nat}{fs:List aK}(h:HG N i (λbl=>bl.length<=1000/\0<bl.length/\kU bl/\VF bl) fs):HG N (i+1) (λbl=>bl=[]) fs:=⟨h.1,λk hk=>have ⟨a1,a2,a3,a4,a5⟩:=h.2 k hk;⟨a1,a2,λe=>(by rcases Nat.lt_or_ge k i with e'|e';exact a3 e';exact a4 (by omega)),λe=>a5 (by omega),λe=>a5 (by omega)⟩⟩
theorem set_self{fs:List aK}{i:Nat}(hi:i<fs.length):fs.set i (aK.mk (fs.getD i aG).name (fs.getD i aG).params (fs.getD i aG).regs (fs.getD i aG).blocks)=fs:=by
 have:aK.mk (fs.getD i aG).name (fs.getD i aG).params (fs.getD i aG).regs (fs.getD i aG).blocks=fs[i]:=by rw[getD_at _ hi]
 rw[this,List.set_getElem_self]
def O9(m b:Nat)(bl:List aH):Prop:=bl.length=m/\∀k,k<b->((bl.getD k aj).aV=1\/(bl.getD k aj).aV=2\/(bl.getD k aj).aV=3)/\(0<=(bl.getD k aj).dI/\(bl.getD k aj).dI<m)/\0<=(bl.getD k aj).bg/\(bl.getD k aj).bg<m
theorem O9.ends{m:Nat}{bl:List aH}(h:O9 m m bl):kU bl:=⟨λb hb=>have:=(h.2 b (h.1▸hb)).2;h.1▸⟨λ_=>this.1,λ_=>this.2⟩,λb hb=>(h.2 b (h.1▸hb)).1⟩
theorem adg{l:List Int}{i:Int}(hb:Bytes l)(hi:0<=i):Ok (f25 l i) λy=>y.2.2.2.2.2.length<=1000/\∀f∈y.2.2.2.2.2,Good f:=by
 unfold f25;refine goN hb hi (by omega) λx0 j0 h0 a0 b0=>goN hb h0 (by omega) λx1 j1 h1 a1 b1=>?_;have b1:=b1 (by omega);obtain⟨N,hN'⟩ :∃N:Nat,1+x1=N:=⟨(1+x1).toNat,by omega⟩;simp only[show cu (1+x1)=N from (aI (by omega)).trans hN'];refine aX (λs=>s.1=l/\0<=s.2.1/\HG N 0 (λbl=>bl=[]) s.2.2.2.2) ?_ λs ⟨e1,e2,e3⟩=>?_
 .refine bf (λs:Int×List Int×Int×Int×Int×List aK=>s.2.1=l/\0<=s.2.2.1/\(s.2.2.2.2.2.length:Int)=s.1/\s.1<=N/\∀f∈s.2.2.2.2.2,f.params<=10/\f.regs<=4/\f.blocks=[]) (λs=>(N-s.1).toNat)
   ⟨rfl,h1,rfl,by simp,λf hf=>by cases hf⟩ λ⟨q,l',j,z1,z2,fs⟩ ⟨e1,e2,e3,e4,e5⟩=>?_
  simp only at e1 e2 e3 e4 e5;subst e1;subst e3;refine bF (λhc=>?_) (λhc=>ay ⟨rfl,e2,?_,λk hk=>?_⟩)
  .have hc:(fs.length:Int)<N:=by simpa using hc
   refine aX _ (uq (by omega) (by omega)) λnm hnm=>aY (nR.2 (by simp;omega)) (goN hb e2 (by omega) λx2 j2 h2 a2 b2=>?_);have b2:=b2 (by omega);have hw:cu (1+x2)=1+x2:=aI (by omega);refine aX (λs=>s.1=l'/\0<=s.2.1/\s.2.2.2.1<=10/\s.2.2.2.2<=4) ?_ λ⟨s1,s2,s3,s4,s5⟩ ⟨g1,g2,g3,g4⟩=>aY (by unfold bP;simp;omega) (ay ⟨⟨g1,g2,?_,?_,λf hf=>?_⟩,?_⟩)
   .refine bF (λ_=>?_) (λ_=>ay ⟨rfl,h2,by simp,by simp only[hw];omega⟩);have hm:cu (min (1+x2) 2+1)=min (1+x2) 2+1:=aI (by omega);rw[afd,hw,hm];exact goN hb h2 (by omega) λx3 j3 h3 a3 b3=>ay ⟨rfl,h3,by simp only;omega,by simp only;omega⟩
   all_goals try simp only[aI (x:=(fs.length:Int)+1) (by omega)]
   .simp
   .omega
   .rcases QQ.1 hf with hf|hf
    .exact e5 f hf
    .rw [Q6]at hf;subst hf;exact⟨g3,g4,rfl⟩
   .omega
  .have hc:¬ (fs.length:Int)<N:=by simpa using hc
   simp only at e4 ⊢;omega
  .have hc:¬ (fs.length:Int)<N:=by simpa using hc
   have hk':k<fs.length:=by omega
   simp only[getD_at aG hk'];obtain⟨r1,r2,r3⟩:=e5 _ (Z2 hk');exact⟨r1,r2,λh=>absurd h (vv _),λ_=>r3,λ_=>r3⟩
 obtain⟨s1,s2,s3,s4,fs0⟩:=s;simp only at e1 e2 e3;subst e1;rw[show cu ((N:Int)+1)=N+1 from aI (by omega)];refine goN hb e2 (by omega) λca jc hjc ac bc=>?_;have bc:=bc (by omega);refine aX (λs=>s.2.2.length<=1000/\∀f∈s.2.2,Good f) ?_ λs hs=>ay hs;refine bf (λs:Int×List Int×Int×List aK=>∃i:Nat,s.1=i/\i<=N/\s.2.1=s1/\0<=s.2.2.1/\HG N i (λbl=>bl=[]) s.2.2.2) (λs=>(N-s.1).toNat)
  ⟨0,rfl,by omega,rfl,hjc,e3⟩ λ⟨q,l',j,fs⟩ ⟨i,g1,g2,g3,g4,g5⟩=>?_
 simp only at g1 g3 g4 g5;subst g1;subst g3;refine bF (λhc=>?_) (λhc=>ay ⟨by simp only;have:=g5.1;omega,λf hf=>?_⟩)
 rotate_left
 .have hc:¬ (i:Int)<N:=by simpa using hc
  obtain⟨k,hk,e⟩:=JN hf;have hk2:k<N:=by have:=g5.1;simp only at hk;omega
  have:=(g5.2 k hk2).2.2.1 (by omega);rw[getD_at _ hk,e]at this;exact this
 have hi:i<N:=by simp at hc;omega
 refine aY (ak.2 ⟨by simp only;omega,by have:=g5.1;simp only;omega⟩) (goN hb g4 (by omega) λx2 j2 h2 a2 b2=>?_);have b2:=b2 (by omega);obtain⟨M,hM⟩ :∃M:Nat,1+x2=M:=⟨(1+x2).toNat,by omega⟩;simp only[Q1,show cu (1+x2)=M from (aI (by omega)).trans hM];refine aX (λs=>s.1=l'/\0<=s.2.1/\HG N i (λbl=>bl.length=M) s.2.2) ?_ λ⟨s1,s2,s3⟩ ⟨k1,k2,k3⟩=>?_
 .refine bf (λs:Int×List Int×Int×List aK=>s.2.1=l'/\0<=s.2.2.1/\(0<=s.1/\s.1<=M)/\HG N i (λbl=>(bl.length:Int)=M-s.1) s.2.2.2) (λs=>s.1.toNat)
   ⟨rfl,h2,⟨by simp,by simp⟩,g5.1,λk hk=>have ⟨z1,z2,z3,z4,z5⟩:=g5.2 k hk;⟨z1,z2,z3,λe=>(by rw[z4 e];simp),z5⟩⟩ λ⟨c,l2,j,fs⟩ ⟨r1,r2,r3,r4⟩=>?_
  simp only at r1 r2 r3 r4;subst r1;have hfl:i<fs.length:=by rw[r4.1];exact hi
  obtain⟨y1,y2,y3,y4,y5⟩:=r4.2 i hi;have y4:=y4 rfl;refine bF (λhp=>?_) (λhp=>ay ⟨rfl,r2,?_⟩)
  rotate_left
  .have hp:¬ 0<c:=by simpa using hp
   have:c=0:=by omega
   subst this;exact⟨r4.1,λk hk=>have ⟨z1,z2,z3,z4,z5⟩:=r4.2 k hk;⟨z1,z2,z3,λe=>(by have:=z4 e;simp only;omega),z5⟩⟩
  have hp:0<c:=by simpa using hp
  refine goN hb r2 (by omega) λx3 j3 h3 a3 b3=>goN hb h3 (by omega) λx4 j4 h4 a4 b4=>?_;have b4:=b4 (by omega);refine aX (λs=>s.1=l2/\0<=s.2.1/\s.2.2.1=fs) ?_ λs ⟨k1,k2,k3⟩=>?_
  .refine bf (λs:Int×List Int×Int×List aK×Int×Int×Int×Int×Int×Int×Int×List f_=>s.2.1=l2/\0<=s.2.2.1/\s.2.2.2.1=fs/\(0<=s.1/\s.1<=4)/\(s.2.2.2.2.2.2.2.2.2.2.2.length:Int)<=4-s.1) (λs=>s.1.toNat)
    ⟨rfl,h4,rfl,⟨a4,by simp only;omega⟩,by simp only[Km];omega⟩ λ⟨c',l3,j3,fs',v1,v2,v3,v4,v5,v6,v7,is⟩ ⟨u1,u2,u3,u4,u5⟩=>?_
   simp only at u1 u2 u3 u4 u5;subst u1;subst u3;refine bF (λhp'=>?_) (λ_=>ay ⟨rfl,u2,rfl⟩);have hp':0<c':=by simpa using hp'
   simp only[set_self hfl];refine aX _ (instr_ok hb u2 (by omega) (by omega) ⟨by omega,by have:=r4.1;omega⟩ λf hf=>?_) λy ⟨y1,y2⟩=>aY (by unfold bP;simp;omega) (ay ⟨⟨y1,y2,rfl,?_,?_⟩,?_⟩)
   .obtain ⟨k,hk,e⟩:=JN hf;have:=(r4.2 k (by rw[<-r4.1];exact hk)).1;rw[getD_at _ hk,e]at this;exact this
   all_goals simp only[aI (x:=c'-1) (by omega)]
   .omega
   .simp;omega
   .omega
  obtain⟨s1,s2,s3,s⟩:=s;simp only at k1 k2 k3;subst k1;subst k3;refine aY (by simp[-List.getD_eq_getElem?_getD];omega) (aY (by simp) (ay ⟨⟨rfl,k2,?_,r4.put hi rfl rfl ?_⟩,?_⟩))
  all_goals simp only[aI (x:=c-1) (by omega)]
  .omega
  .simp [-List.getD_eq_getElem?_getD];omega
  .omega
 simp only at k1 k2 k3;subst k1;refine aX (λs=>s.1=s1/\0<=s.2.1/\HG N i (O9 M M) s.2.2) ?_ λ⟨t1,t2,t3⟩ ⟨k4,k5,k6⟩=>?_
 .refine bf (λs:Int×List Int×Int×List aK=>∃b:Nat,s.1=b/\b<=M/\s.2.1=s1/\0<=s.2.2.1/\HG N i (O9 M b) s.2.2.2) (λs=>(M-s.1).toNat)
   ⟨0,rfl,by omega,rfl,k2,k3.1,λk hk=>have ⟨z1,z2,z3,z4,z5⟩:=k3.2 k hk;⟨z1,z2,z3,λe=>⟨z4 e,λ_ h=>absurd h (vv _)⟩,z5⟩⟩ λ⟨c,l2,j,fs⟩ ⟨b,r0,r1,r2,r3,r4⟩=>?_
  simp only at r0 r2 r3 r4;subst r0;subst r2;have hfl:i<fs.length:=by rw[r4.1];exact hi
  obtain⟨y1,y2,y3,y4,y5⟩:=r4.2 i hi;have y4:=y4 rfl;simp only[Kf,y4.1];refine bF (λhp=>?_) (λhp=>ay ⟨rfl,r3,?_⟩)
  rotate_left
  .have hp:¬ (b:Int)<M:=by simpa using hp
   have:b=M:=by omega
   subst this;exact r4
  have hp:b<M:=by simp at hp;omega
  refine goN hb r3 (by omega) λx3 j3 h3 a3 b3=>aY (ak.2 ⟨a3,by have:=b3 (by omega);simp;omega⟩) (goN hb h3 (by omega) λx4 j4 h4 a4 b4=>goN hb h4 (by omega) λx5 j5 h5 a5 b5=>goN hb h5 (by omega) λx6 j6 h6 a6 b6=>aY (ak.2 ⟨by omega,by omega⟩) (ay ⟨⟨b+1,?_,by omega,rfl,h6,?_⟩,?_⟩))
  .simp only[aI (x:=(b:Int)+1) (by omega)];simp
  .refine r4.put hi rfl rfl ⟨by rw[UX];exact y4.1,λk hk=>?_⟩;simp only[Q1];rw[MV (by rw[y4.1];exact hp)];split
   .refine ⟨?_,⟨a5,b5 (by omega)⟩,a6,b6 (by omega)⟩;have:=b3 (by omega);have:x3=0\/x3=1\/x3=2\/x3=3:=by omega
    rcases this with e|e|e|e<;>subst e<;>simp
   .exact y4.2 k (by omega)
  .simp only[aI (x:=(b:Int)+1) (by omega)];omega
 simp only at k4 k5 k6;subst k4;obtain⟨y1,y2,y3,y4,y5⟩:=k6.2 i hi;have y4:=y4 rfl;refine aX _ (VG (bs:=(t3.getD i aG).blocks) y4.ends (by have:=y4.1;omega) (by have:=y4.1;omega)) λ⟨c1,c2,c3,c4⟩ ⟨p1,p2,p3,p4,p5,p6,p7⟩=>aY (by simp) (ay ⟨⟨i+1,?_,by omega,rfl,k5,HG.next (k6.put hi p2 p3 ⟨J0 p5 (by have:=y4.1;omega),p4,p6,p7⟩)⟩,?_⟩)
 .show cu ((i:Int)+1)=_;rw[aI (by omega)];rfl
 .show ((N:Int)-cu ((i:Int)+1)).toNat<((N:Int)-i).toNat;rw[aI (by omega)];omega
theorem ajE{A α:Type}{a b:A}{x:Option α}{Q:α->Prop}:Ok (wO a b x) Q↔a=b/\Ok x Q:=by
 unfold wO;split
 .rename_i e;exact⟨λh=>⟨e,h⟩,λh=>h.2⟩
 .rename_i e;exact⟨λ⟨_,h,_⟩=>(by cases h),λh=>absurd h.1 e⟩
theorem goK{A α:Type}{a b:A}{x:Option α}{Q:α->Prop}(e:a=b)(h:Ok x Q):Ok (wO a b x) Q:=ajE.2 ⟨e,h⟩
def WE(m:Nat):Nat->bK->Prop
 |0,_=>False
 |n+1,x=>x.args.length<=m/\(x.kind=7\/x.kind=8->2<=x.args.length)/\(x.kind=10->1<=x.args.length)/\∀y∈x.args,WE m n y
theorem WE.up{m:Nat}:∀{n k:Nat} {x:bK},WE m n x->n<=k->WE m k x
 |0,_,_,h,_=>h.elim
 |n+1,0,_,_,h=>by omega
 |n+1,k+1,x,h,hk=>⟨h.1,h.2.1,h.2.2.1,λy hy=>(h.2.2.2 y hy).up (by omega)⟩
theorem we0{m n:Nat}{k o v i:Int}{nm:List UInt8}(h1:k≠7)(h2:k≠8)(h3:k≠10):WE m (n+1) (bK.mk k o v i nm []):=⟨vb _,λh=>absurd h (by simp[h1,h2]),λh=>absurd h h3,λy hy=>by cases hy⟩
theorem we1{m n:Nat}{k o v i:Int}{nm:List UInt8}{x:bK}(h1:k≠7)(h2:k≠8)(hx:WE m n x)(hm:3<=m):WE m (n+1) (bK.mk k o v i nm [x]):=⟨by simp;omega,λh=>absurd h (by simp[h1,h2]),λh=>by simp,λy hy=>by rw[Q6]at hy;subst hy;exact hx⟩
theorem we2{m n:Nat}{k o v i:Int}{nm:List UInt8}{x z:bK}(hx:WE m n x)(hz:WE m n z)(hm:3<=m):WE m (n+1) (bK.mk k o v i nm [x,z]):=
 ⟨by simp;omega,λh=>by simp,λh=>by simp,λy hy=>by
  rcases Xs.1 hy with e|e
  .subst e;exact hx
  .rw [Q6]at e;subst e;exact hz⟩
structure Env(l:List Int)(g:List aU)(fs:List aA)(lo:List (List UInt8)):Prop where
 b:Bytes l
 g:g.length<=100
 f0:0<fs.length
 f1:fs.length<=100
 fp :∀f∈fs,f.params.length<=2
 lo:lo.length<=100
section
variable {l:List Int} {g:List aU} {fs:List aA} {lo:List (List UInt8)}
theorem agt{a:Bool}{b i:Int}(h:Env l g fs lo)(hi:0<=i):Ok (XJ a b l i g fs lo) λy=>∃nm t j,0<=j/\y=(nm,t,b,l,j,g,fs,lo):=by
 unfold XJ;refine aX (λy=>∃nm t j,0<=j/\y=(nm,t,b,l,j,g,fs,lo)) ?_ λy ⟨nm,t,j,hj,e⟩=>by subst e;exact aY (by simp) (aY (by simp) (aY (by simp) (ay ⟨nm,t,j,hj,rfl⟩)))
 have hg:=h.g;refine aX (λs=>s.length<=100) ?_ λs hs=>?_
 .refine bf (λs:Int×List (List UInt8)=>0<=s.1/\s.1<=g.length/\s.2.length<=s.1) (λs=>(g.length-s.1).toNat) ⟨by simp,by simp,by simp⟩ λ⟨q,s⟩ ⟨e1,e2,e3⟩=>?_;simp only at e1 e2 e3;refine bF (λhc=>?_) (λhc=>ay (by simp only[ab3];omega));have hc:q<g.length:=by simpa using hc
  refine aY (ak.2 ⟨e1,hc⟩) (aX (λs'=>s'.length<=s.length+1) ?_ λs' hs'=>ay ⟨⟨?_,?_,?_⟩,?_⟩)
  .exact bF (λ_=>aY (ak.2 ⟨e1,hc⟩) (aY (by unfold bP;simp;omega) (ay (by simp)))) λ_=>ay (by simp)
  all_goals simp only[aI (x:=q+1) (by omega)];omega
 refine bF (λ_=>ay ⟨_,_,_,hi,rfl⟩) λhc=>goN h.b hi (by omega) λx j hj h0 h1=>aY (ak.2 ⟨h0,h1 ?_⟩) (ay ⟨_,_,_,hj,rfl⟩);simp at hc;cases s with
 |nil=>exact absurd rfl hc
 |cons a s=>simp;omega
theorem goP{β:Type}{a:Bool}{b i:Int}{f:List UInt8×Bool×Int×List Int×Int×List aU×List aA×List (List UInt8)->Option β}{Q:β->Prop}(h:Env l g fs lo)(hi:0<=i)
  (k :∀nm t j,0<=j->Ok (f (nm,t,b,l,j,g,fs,lo)) Q):Ok (Option.bind (f108 a b l i g fs lo) f) Q:=by
 refine aX (λy=>∃nm t j,0<=j/\y=(nm,t,b,l,j,g,fs,lo)) ?_ λy ⟨nm,t,j,hj,e⟩=>by subst e;exact k nm t j hj
 exact aX _ (agt h hi) λy ⟨nm,t,j,hj,e⟩=>by subst e;exact goK rfl (goK rfl (goK rfl (ay ⟨nm,t,j,hj,rfl⟩)))
theorem agu{b i:Int}(h:Env l g fs lo)(hi:0<=i):Ok (XK b l i g fs lo) λy=>∃k v nm j,0<=j/\(k=12\/k=13\/k=1)/\y=(k,0,v,0,nm,b,l,j,g,fs,lo):=by
 unfold XK;refine aX (λy=>∃k v nm j,0<=j/\(k=12\/k=13\/k=1)/\y=(k,0,v,0,nm,b,l,j,g,fs,lo)) ?_ λy ⟨k,v,nm,j,hj,hk,e⟩=>by subst e;exact aY (by simp) (aY (by simp) (aY (by simp) (ay ⟨k,v,nm,j,hj,hk,rfl⟩)))
 refine goN h.b hi (by omega) λx0 j0 h0 _ _=>bF (λ_=>ay ⟨12,_,_,_,h0,by simp,rfl⟩) λ_=>qF (λy=>∃j,0<=j/\y=(b,l,j)) ?_ λy ⟨j,hj,e⟩=>?_
 .refine bF (λ_=>goP h h0 λnm t j hj=>bF (λ_=>ay ⟨13,_,_,_,hj,by simp,rfl⟩) λ_=>ay ⟨_,hj,rfl⟩) λ_=>aX (λ_=>True) ?_ λs _=>qF (λ_=>True) ?_ λ_ _=>ay ⟨_,h0,rfl⟩
  .exact bF (λ_=>ay trivial) λ_=>ay trivial
  .refine bF (λ_=>bF (λ_=>goN h.b h0 (by have:=h.lo;omega) λx j hj a1 a2=>?_) λ_=>ay trivial) λ_=>ay trivial;rename_i hc;have hc:0<lo.length:=by simpa using hc
   exact aY (ak.2 ⟨a1,a2 (by omega)⟩) (ay ⟨13,_,_,_,hj,by simp,rfl⟩)
 subst e;refine goN h.b hj (by omega) λx1 j1 h1 _ _=>goN h.b h1 (by omega) λx2 j2 h2 _ _=>aX (λy=>∃v j,0<=j/\y=(v,l,j)) ?_ λy ⟨v,j,hj,e⟩=>by subst e;exact ay ⟨1,_,_,_,hj,by simp,rfl⟩
 exact bF (λ_=>goN h.b h2 (by omega) λx3 j3 h3 a3 b3=>aY (ak.2 ⟨a3,by have:=b3 (by omega);simp;omega⟩) (ay ⟨_,_,h3,rfl⟩)) λ_=>ay ⟨_,_,h2,rfl⟩
theorem goL{β:Type}{b i:Int}{f:Int×Int×Int×Int×List UInt8×Int×List Int×Int×List aU×List aA×List (List UInt8)->Option β}{Q:β->Prop}(h:Env l g fs lo)(hi:0<=i)
  (k :∀q v nm j,0<=j->(q=12\/q=13\/q=1)->Ok (f (q,0,v,0,nm,b,l,j,g,fs,lo)) Q):Ok (Option.bind (f112 b l i g fs lo) f) Q:=by
 refine aX (λy=>∃k v nm j,0<=j/\(k=12\/k=13\/k=1)/\y=(k,0,v,0,nm,b,l,j,g,fs,lo)) ?_ λy ⟨q,v,nm,j,hj,hk,e⟩=>by subst e;exact k q v nm j hj hk
 exact aX _ (agu h hi) λy ⟨q,v,nm,j,hj,hk,e⟩=>by subst e;exact goK rfl (goK rfl (goK rfl (ay ⟨q,v,nm,j,hj,hk,rfl⟩)))
def PE(n:Nat)(b:Int)(l:List Int)(g:List aU)(fs:List aA)(lo:List (List UInt8))(y:Int×Int×Int×Int×List UInt8×List bK×Int×List Int×Int×List aU×List aA×List (List UInt8)):Prop:=∃x j,y=(x.kind,x.op,x.value,x.line,x.name,x.args,b,l,j,g,fs,lo)/\0<=j/\WE 3 n x
def PC(n:Nat)(b:Int)(l:List Int)(g:List aU)(fs:List aA)(lo:List (List UInt8))(y:Int×Int×Int×Int×List UInt8×Int×List Int×Int×List aU×List aA×List (List UInt8)×List bK):Prop:=∃x j,y=(x.kind,x.op,x.value,x.line,x.name,b,l,j,g,fs,lo,x.args)/\0<=j/\WE 3 n x
theorem X5{n:Nat}{p b i:Int}{r}(h:Ok r (PE n b l g fs lo)):Ok (afZ p b l i g fs lo r) (PE n b l g fs lo):=aX _ h λy ⟨x,j,e,h⟩=>by subst e;exact goK rfl (goK rfl (goK rfl (ay ⟨x,j,rfl,h⟩)))
theorem X6{n:Nat}{p b i:Int}{r}(h:Ok r (PC n b l g fs lo)):Ok (af0 p b l i g fs lo r) (PC n b l g fs lo):=aX _ h λy ⟨x,j,e,h⟩=>by subst e;exact goK rfl (goK rfl (goK rfl (ay ⟨x,j,rfl,h⟩)))
theorem goX{β:Type}{rec:O1}{d n:Nat}(h :∀b i,0<=i->Ok (rec d b l i g fs lo) (PE n b l g fs lo)){q b i:Int}{f}{Q:β->Prop}(hq:q=d)(hi:0<=i)
  (k :∀k o v i nm ar j,0<=j->WE 3 n (bK.mk k o v i nm ar)->Ok (f (k,o,v,i,nm,ar,b,l,j,g,fs,lo)) Q):Ok (Option.bind (rec q b l i g fs lo) f) Q:=by
 subst hq;exact aX _ (h b i hi) λy ⟨⟨a1,a2,a3,a4,a5,a6⟩,j,e,h1,h2⟩=>by subst e;exact k _ _ _ _ _ _ j h1 h2
theorem anf{β:Type}{rec:O4}{d n:Nat}(h :∀b i,0<=i->Ok (rec d b l i g fs lo) (PC n b l g fs lo)){q b i:Int}{f}{Q:β->Prop}(hq:q=d)(hi:0<=i)
  (k :∀k o v i nm ar j,0<=j->WE 3 n (bK.mk k o v i nm ar)->Ok (f (k,o,v,i,nm,b,l,j,g,fs,lo,ar)) Q):Ok (Option.bind (rec q b l i g fs lo) f) Q:=by
 subst hq;exact aX _ (h b i hi) λy ⟨⟨a1,a2,a3,a4,a5,a6⟩,j,e,h1,h2⟩=>by subst e;exact k _ _ _ _ _ _ j h1 h2
theorem MW{rec:O1}{rec':O4}{d:Nat}(h:Env l g fs lo)(hd:d<=100)(hr :∀b i,0<=i->Ok (rec d b l i g fs lo) (PE (d+1) b l g fs lo)){b i:Int}(hi:0<=i):
  Ok (XR rec rec' (d+1:Nat) b l i g fs lo) (PC (d+2) b l g fs lo):=by
 have hw:cu (((d+1:Nat):Int)-1)=d:=by rw[aI (by omega)];omega
 have hf0:=h.f0;have hf1:=h.f1;unfold XR;refine aX (PC (d+2) b l g fs lo) ?_ λy ⟨x,j,e,h⟩=>by subst e;exact aY (by simp) (aY (by simp) (aY (by simp) (ay ⟨x,j,rfl,h⟩)))
 refine goN h.b hi (by omega) λx0 j0 h0 a0 b0=>aY (ak.2 ⟨a0,b0 (by omega)⟩) (goN h.b h0 (by omega) λx1 j1 h1 a1 b1=>?_);have b0:=b0 (by omega);refine aX (λy=>∃t j,0<=j/\y=(t,l,j)) ?_ λy ⟨t,j2,h2,e⟩=>?_
 .exact bF (λ_=>goN h.b h1 (by omega) λx j hj _ _=>ay ⟨_,_,hj,rfl⟩) λ_=>ay ⟨_,_,h1,rfl⟩
 subst e;refine aX (λy=>∃(q:Int) (j:Int),0<=j/\q<=2/\y=(q,l,j)) ?_ λy ⟨q,j3,h3,hq2,e⟩=>?_
 .refine bF (λ_=>goN h.b h2 (by omega) λx j hj _ c=>ay ⟨x,_,hj,by have:=c (by omega);omega,rfl⟩) λ_=>ay ⟨_,_,h2,?_,rfl⟩;show ((fs.getD x0.toNat gW).params.length:Int)<=2;rw[getD_at _ (by omega)];have:=h.fp _ (Z2 (l:=fs) (n:=x0.toNat) (by omega));omega
 subst e;refine aX (λy=>∃j ar,0<=j/\ar.length<=2/\(∀x∈ar,WE 3 (d+1) x)/\y=(b,l,j,ar)) ?_ λy ⟨j4,ar,h4,l1,l2,e⟩=>?_
 .refine bf (λs:Int×Int×List Int×Int×List bK=>∃j,0<=j/\0<=s.1/\(s.1<=q\/s.1=0)/\(s.2.2.2.2.length:Int)=s.1/\(∀x∈s.2.2.2.2,WE 3 (d+1) x)/\s=(s.1,b,l,j,s.2.2.2.2)) (λs=>(q-s.1).toNat)
   ⟨j3,h3,by simp,.inr rfl,by simp,λx hx=>(by cases hx),rfl⟩ λ⟨c,b',l',j',ar⟩ ⟨j,hj,e1,e2,e3,e4,e⟩=>?_
  simp only at e1 e2 e3 e4;injection e with _ e;injection e with f1 e;injection e with f2 e;injection e with f3 e
  subst f1;subst f2;subst f3;refine bF (λhc=>?_) (λ_=>ay ⟨j',ar,hj,by omega,e4,rfl⟩);have hc:c<q:=by simpa using hc
  refine goX hr hw hj λ_ _ _ _ _ _ j hj hx=>aY (by unfold bP;simp;omega) (ay ⟨⟨j,hj,?_,?_,?_,λz hz=>?_,rfl⟩,?_⟩)
  all_goals try simp only[aI (x:=c+1) (by omega)]
  .omega
  .exact .inl (by omega)
  .simp;omega
  .rcases QQ.1 hz with hz|hz
   .exact e4 z hz
   .rw [Q6]at hz;subst hz;exact hx
  .omega
 subst e;refine bF (λ_=>ay ⟨bK.mk 9 0 0 0 _ ar,j4,rfl,h4,⟨by simp only;omega,λh=>absurd h (by simp),λh=>absurd h (by simp),l2⟩⟩) λ_=>goN h.b h4 (by omega) λx5 j5 h5 _ _=>?_;refine aX (λy=>∃x j,0<=j/\WE 3 (d+1) x/\y=(b,l,j,x.kind,x.op,x.value,x.line,x.name,x.args)) ?_ λy ⟨⟨x1,x2,x3,x4,x5,x6⟩,j6,h6,hx,e⟩=>?_
 .refine bF (λ_=>goX hr hw h5 λ_ _ _ _ _ _ j hj hx=>ay ⟨bK.mk _ _ _ _ _ _,j,hj,hx,rfl⟩) λ_=>ay ⟨bK.mk 11 0 0 0 _ o9,j5,h5,we0 (by simp) (by simp) (by simp),rfl⟩
 subst e;refine bF (λ_=>ay ⟨bK.mk 9 0 0 0 x5 ar,j6,rfl,h6,⟨by simp only;omega,λh=>absurd h (by simp),λh=>absurd h (by simp),l2⟩⟩) λ_=>aY (by unfold bP;simp;omega) (ay ⟨bK.mk 10 0 0 0 dM ([bK.mk x1 x2 x3 x4 x5 x6]++ar),j6,rfl,h6,⟨by simp;omega,λh=>absurd h (by simp),λh=>by simp,λz hz=>?_⟩⟩);rcases QQ.1 hz with hz|hz
 .rw [Q6]at hz;subst hz;exact hx
 .exact l2 z hz
theorem ZM{rec:O1}{rec':O4}{d:Nat}(h:Env l g fs lo)(hd:d<=100)(hr :∀b i,0<=i->Ok (rec d b l i g fs lo) (PE (d+1) b l g fs lo))
  (hc :∀b i,0<=i->Ok (rec' (d+1:Nat) b l i g fs lo) (PC (d+2) b l g fs lo)) {b i:Int} (hi:0<=i) :
  Ok (MP rec rec' (d+1:Nat) b l i g fs lo) (PE (d+2) b l g fs lo):=by
 have hw:cu (((d+1:Nat):Int)-1)=d:=by rw[aI (by omega)];omega
 unfold MP;refine aX (PE (d+2) b l g fs lo) ?_ λy ⟨x,j,e,h⟩=>by subst e;exact aY (by simp) (aY (by simp) (aY (by simp) (ay ⟨x,j,rfl,h⟩)))
 refine aX (λy=>∃t j,0<=j/\y=(t,l,j)) ?_ λy ⟨t,j2,h2,e⟩=>?_
 .exact bF (λ_=>ay ⟨_,_,hi,rfl⟩) λ_=>goN h.b hi (by omega) λx j hj _ _=>ay ⟨_,_,hj,rfl⟩
 subst e;refine bF (λ_=>goL h h2 λq v nm j hj hq=>ay ⟨bK.mk q 0 v 0 nm [],j,rfl,hj,we0 (by omega) (by omega) (by omega)⟩) λ_=>goN h.b h2 (by omega) λx3 j3 h3 _ _=>?_;refine bF (λ_=>goN h.b h3 (by omega) λx4 j4 h4 _ _=>goX hr hw h4 λ_ _ _ _ _ _ j hj hx=>lU rfl (ay ⟨bK.mk 5 _ 0 0 dM [_],j,rfl,hj,we1 (by simp) (by simp) hx (by omega)⟩)) λ_=>?_;refine bF (λ_=>goX hr hw h3 λ_ _ _ _ _ _ j hj hx=>goX hr hw hj λ_ _ _ _ _ _ j hj hz=>lU rfl (ay ⟨bK.mk 7 _ 0 0 dM [_,_],j,rfl,hj,we2 hx hz (by omega)⟩)) λ_=>?_;refine bF (λ_=>goX hr hw h3 λ_ _ _ _ _ _ j hj hx=>goX hr hw hj λ_ _ _ _ _ _ j hj hz=>lU rfl (ay ⟨bK.mk 8 _ 0 0 dM [_,_],j,rfl,hj,we2 hx hz (by omega)⟩)) λ_=>?_;refine aX (λ_=>True) ?_ λs _=>?_
 .exact bF (λ_=>ay trivial) λ_=>ay trivial
 refine bF (λ_=>anf hc rfl h3 λ_ _ _ _ _ _ j hj hx=>ay ⟨bK.mk _ _ _ _ _ _,j,rfl,hj,hx⟩) λ_=>qF (λy=>∃j,0<=j/\y=(b,l,j)) ?_ λy ⟨j,hj,e⟩=>?_
 .exact bF (λ_=>goP h h3 λnm t j hj=>bF (λ_=>goX hr hw hj λ_ _ _ _ _ _ j hj hx=>ay ⟨bK.mk 4 0 0 0 nm [_],j,rfl,hj,we1 (by simp) (by simp) hx (by omega)⟩) λ_=>ay ⟨_,hj,rfl⟩) λ_=>ay ⟨_,h3,rfl⟩
 subst e;exact goN h.b hj (by omega) λx5 j5 h5 _ _=>goX hr hw h5 λ_ _ _ _ _ _ j hj hx=>goX hr hw hj λ_ _ _ _ _ _ j hj hz=>lU rfl (ay ⟨bK.mk 6 _ 0 0 dM [_,_],j,rfl,hj,we2 hx hz (by omega)⟩)
theorem ZN{rec:O1}{rec':O4}(h:Env l g fs lo){b i:Int}(hi:0<=i):Ok (MP rec rec' (0:Nat) b l i g fs lo) (PE 1 b l g fs lo):=by
 unfold MP;refine aX (PE 1 b l g fs lo) ?_ λy ⟨x,j,e,h⟩=>by subst e;exact aY (by simp) (aY (by simp) (aY (by simp) (ay ⟨x,j,rfl,h⟩)))
 refine aX (λy=>y=(true,l,i)) ?_ λy e=>?_
 .exact goT (Wc (by simp)) (ay rfl)
 subst e;exact goT rfl (goL h hi λq v nm j hj hq=>ay ⟨bK.mk q 0 v 0 nm [],j,rfl,hj,we0 (by omega) (by omega) (by omega)⟩)
theorem MX(n:Nat):(oz (n+1)).1=MP (XT n) (XU n):=rfl
theorem MZ(n:Nat):(oz (n+1)).2=XR (XT n) (XU n):=rfl
theorem yA(h:Env l g fs lo):∀d:Nat,d<=100->∀n,2*d+1<=n->(∀b i,0<=i->Ok (XT n d b l i g fs lo) (PE (d+1) b l g fs lo))/\∀e,e+1=d->∀b i,0<=i->Ok (XU n d b l i g fs lo) (PC (d+1) b l g fs lo)
 |_,_,0,hn=>by omega
 |0,_,n+1,hn=>⟨λb i hi=>X5 (by rw[MX];exact ZN h hi),λe he=>by omega⟩
 |d+1,hd,n+1,hn=>by have ih:=yA h d (by omega) n (by omega);obtain⟨m,rfl⟩ :∃m,n=m+1:=⟨n-1,by omega⟩;have ih':=yA h d (by omega) m (by omega);refine⟨λb i hi=>X5 (by rw[MX];exact ZM h (by omega) ih.1 (λb i hi=>X6 (by rw[MZ];exact MW h (by omega) ih'.1 hi)) hi),λe he b i hi=>X6 (by rw[MZ];exact MW h (by omega) ih.1 hi)⟩
end
def WS(m h:Nat):Nat->eP->Prop
 |0,_=>False
 |n+1,x=>x.exprs.length<=2/\(x.kind=5->1<=x.exprs.length)/\(∀y∈x.exprs,WE m h y)/\(x.then'.length<=10/\x.else'.length<=10)/\(∀y∈x.then',WS m h n y)/\∀y∈x.else',WS m h n y
theorem O_{α:Type}{P:α->Prop}{x:α}(h:P x):∀y∈[x],P y:=λy hy=>by rw[Q6]at hy;subst hy;exact h
theorem agv{α:Type}{P:α->Prop}{x z:α}(h:P x)(h':P z):∀y∈[x,z],P y:=λy hy=>by
 rcases Xs.1 hy with e|e
 .subst e;exact h
 .exact O_ h' y e
theorem Uw{n:Nat}{k i:Int}{nm:List UInt8}{x:bK}{th el:List eP}(hx:WE 3 3 x)(h1:th.length<=10)(h2:el.length<=10)(h3 :∀y∈th,WS 3 3 n y)(h4 :∀y∈el,WS 3 3 n y):WS 3 3 (n+1) (eP.mk k i nm [x] th el):=⟨by simp,λ_=>by simp,O_ hx,⟨h1,h2⟩,h3,h4⟩
theorem Lu{n:Nat}{k i:Int}{nm:List UInt8}{x:bK}(hx:WE 3 3 x):WS 3 3 (n+1) (eP.mk k i nm [x] [] []):=Uw hx (by simp) (by simp) (λy h=>by cases h) (λy h=>by cases h)
structure VH(k:Int)(l:List Int)(g:List aU)(fs:List aA):Prop where
 b:Bytes l
 g:g.length<=100
 f0:0<fs.length
 f1:fs.length<=100
 fp :∀f∈fs,f.params.length<=2
 k:k<=100
section
variable {kk:Int} {l:List Int} {g:List aU} {fs:List aA}
theorem VH.env(h:VH kk l g fs){lo:List (List UInt8)}(hl:(lo.length:Int)<=kk):Env l g fs lo:=⟨h.b,h.g,h.f0,h.f1,h.fp,by have:=h.k;omega⟩
def PS(n:Nat)(kk:Int)(l:List Int)(g:List aU)(fs:List aA)(y:Int×Int×List UInt8×Int×List Int×Int×List aU×List aA×List bK×List eP×List eP×List (List UInt8)):Prop:=∃k i nm es th el b j lo,y=(k,i,nm,b,l,j,g,fs,es,th,el,lo)/\0<=j/\(0<=b/\lo.length+b<=kk)/\WS 3 3 n (eP.mk k i nm es th el)
def PL(n:Nat)(kk:Int)(l:List Int)(g:List aU)(fs:List aA)(y:Int×Int×List UInt8×Int×List Int×Int×List aU×List aA×List bK×List eP×List (List UInt8)):Prop:=∃k i nm es th b j lo,y=(k,i,nm,b,l,j,g,fs,es,th,lo)/\0<=j/\(0<=b/\lo.length+b<=kk)/\WS 3 3 n (eP.mk k i nm es th [])
def PB(n:Nat)(m kk:Int)(l:List Int)(g:List aU)(fs:List aA)(y:Int×List Int×Int×List aU×List aA×List eP×List (List UInt8)):Prop:=∃ss b j lo,y=(b,l,j,g,fs,ss,lo)/\0<=j/\(0<=b/\lo.length+b<=kk)/\(ss.length<=10/\ss.length<=m)/\∀s∈ss,WS 3 3 n s
theorem ajF{n:Nat}{p m m' b i:Int}{lo r}(h:Ok r (PB n m kk l g fs)):Ok (k77 p m' b l i g fs lo r) (PB n m kk l g fs):=aX _ h λy ⟨ss,b,j,lo,e,h⟩=>by subst e;exact goK rfl (goK rfl (ay ⟨ss,b,j,lo,rfl,h⟩))
theorem ajG{n:Nat}{p b i:Int}{lo r}(h:Ok r (PS n kk l g fs)):Ok (k95 p b l i g fs lo r) (PS n kk l g fs):=aX _ h λy ⟨k,i,nm,es,th,el,b,j,lo,e,h⟩=>by subst e;exact goK rfl (goK rfl (ay ⟨k,i,nm,es,th,el,b,j,lo,rfl,h⟩))
theorem agw{n:Nat}{p b i:Int}{lo r}(h:Ok r (PL n kk l g fs)):Ok (ac0 p b l i g fs lo r) (PL n kk l g fs):=aX _ h λy ⟨k,i,nm,es,th,b,j,lo,e,h⟩=>by subst e;exact goK rfl (goK rfl (ay ⟨k,i,nm,es,th,b,j,lo,rfl,h⟩))
theorem agx{β:Type}{rec:T77}{d n:Nat}(h :∀m b i lo,m<=4->0<=b->lo.length+b<=kk->0<=i->Ok (rec d m b l i g fs lo) (PB n (max m 0) kk l g fs)){q m b i:Int}{lo f}{Q:β->Prop}(hq:q=d)(hm:m<=4)(hb:0<=b)(hl:lo.length+b<=kk)(hi:0<=i)
  (k :∀ss b' j lo',0<=j->0<=b'->lo'.length+b'<=kk->ss.length<=4->(∀s∈ss,WS 3 3 n s)->Ok (f (b',l,j,g,fs,ss,lo')) Q):Ok (Option.bind (rec q m b l i g fs lo) f) Q:=by
 subst hq;exact aX _ (h m b i lo hm hb hl hi) λy ⟨ss,b,j,lo,e,h1,h2,h3,h4⟩=>by subst e;exact k ss b j lo h1 h2.1 h2.2 (by omega) h4
theorem S9{β:Type}{lo:List (List UInt8)}(h:Env l g fs lo){b i:Int}{f}{Q:β->Prop}(hi:0<=i)
  (k :∀k o v i nm ar j,0<=j->WE 3 3 (bK.mk k o v i nm ar)->Ok (f (k,o,v,i,nm,ar,b,l,j,g,fs,lo)) Q):Ok (Option.bind (f107 2 b l i g fs lo) f) Q:=
 goX (rec:=f107) (d:=2) (λb i hi=>(yA h 2 (by omega) 1048576 (by omega)).1 b i hi) rfl hi k
theorem aq_{β:Type}{lo:List (List UInt8)}(h:Env l g fs lo){b i:Int}{f}{Q:β->Prop}(hi:0<=i)
  (k :∀k o v i nm ar j,0<=j->WE 3 3 (bK.mk k o v i nm ar)->Ok (f (k,o,v,i,nm,ar,b,l,j,g,fs,lo)) Q):Ok (Option.bind (f107 1 b l i g fs lo) f) Q:=
 goX (rec:=f107) (d:=1) (λb i hi=>(yA h 1 (by omega) 1048576 (by omega)).1 b i hi) rfl hi λk' o v i nm ar j hj hx=>k k' o v i nm ar j hj (hx.up (by omega))
theorem ara{β:Type}{lo:List (List UInt8)}(h:Env l g fs lo){b i:Int}{f}{Q:β->Prop}(hi:0<=i)
  (k :∀k o v i nm ar j,0<=j->WE 3 3 (bK.mk k o v i nm ar)->Ok (f (k,o,v,i,nm,b,l,j,g,fs,lo,ar)) Q):Ok (Option.bind (f110 2 b l i g fs lo) f) Q:=
 anf (rec:=f110) (d:=2) (λb i hi=>(yA h 2 (by omega) 1048576 (by omega)).2 1 rfl b i hi) rfl hi k
theorem adh{b i:Int}{lo:List (List UInt8)}(hl:lo.length<=100):Ok (f105 b l i g fs lo) λy=>∃nm t,y=(nm,t,b,l,i,g,fs,lo):=by
 refine aX (λy=>∃nm t,y=(nm,t,b,l,i,g,fs,lo)) ?_ λy ⟨nm,t,e⟩=>by subst e;exact goK rfl (goK rfl (goK rfl (ay ⟨nm,t,rfl⟩)))
 unfold acU;refine aX (λy=>∃nm t,y=(nm,t,b,l,i,g,fs,lo)) ?_ λy ⟨nm,t,e⟩=>by subst e;exact aY (by simp) (aY (by simp) (aY (by simp) (ay ⟨nm,t,rfl⟩)))
 refine lU (y:=[[97],[98],[99],[100],[101],[102],[105],[107]]) rfl ?_;refine qF (λ_=>True) ?_ λ_ _=>ay ⟨_,_,rfl⟩;refine bf (λs:Int=>0<=s/\s<=8) (λs=>(8-s).toNat) ⟨by simp,by simp⟩ λs ⟨h1,h2⟩=>?_;refine bF (λhc=>?_) λ_=>ay trivial;have hc:s<8:=by simpa using hc
 refine aX (λ_=>True) ?_ λy _=>?_
 .refine bf (λt:Bool×Int=>0<=t.2/\t.2<=lo.length) (λt=>(lo.length-t.2).toNat) ⟨by simp,by simp⟩ λ⟨u,t⟩ ⟨h1,h2⟩=>?_;simp only at h1 h2;refine bF (λhc'=>?_) λ_=>ay trivial;have hc':t<lo.length:=by simpa using hc'
  refine aX (λ_=>True) ?_ λy _=>ay ⟨?_,?_⟩
  .exact bF (λ_=>ay trivial) λ_=>aY (ak.2 ⟨h1,hc'⟩) (aY (ak.2 ⟨by assumption,by simpa using hc⟩) (ay trivial))
  all_goals simp only[aI (x:=t+1) (by omega)];omega
 .refine bF (λ_=>aY (ak.2 ⟨h1,by simpa using hc⟩) (ay ⟨_,_,rfl⟩)) λ_=>ay ⟨?_,?_⟩
  all_goals simp only[aI (x:=s+1) (by omega)];omega
theorem VI{rec:T77}{rec':T95}{uw:Si}{d:Int}{n:Nat}(h:VH kk l g fs)(hr :∀b i lo,0<=b->lo.length+b+1<=kk->0<=i->Ok (rec' d b l i g fs lo) (PS n kk l g fs))
  {m b i:Int} {lo} (hm:m<=4) (hb:0<=b) (hl:lo.length+b<=kk) (hi:0<=i):Ok (af2 rec rec' uw d m b l i g fs lo) (PB n (max m 0) kk l g fs):=by
 unfold af2;refine aX (PB n (max m 0) kk l g fs) ?_ λy ⟨ss,b,j,lo,e,h⟩=>by subst e;exact aY (by simp) (aY (by simp) (ay ⟨ss,b,j,lo,rfl,h⟩))
 refine aX (λy=>∃b j ss lo,y=(b,l,j,ss,lo)/\0<=j/\(0<=b/\lo.length+b<=kk)/\((ss.length:Int)<=max m 0)/\∀s∈ss,WS 3 3 n s) ?_ λy ⟨b,j,ss,lo,e,h1,h2,h3,h4⟩=>by subst e;exact ay ⟨ss,b,j,lo,rfl,h1,h2,⟨by omega,h3⟩,h4⟩
 refine bf (λs:Int×Int×List Int×Int×List eP×List (List UInt8)=>∃q b j ss lo,s=(q,b,l,j,ss,lo)/\0<=j/\(0<=b/\lo.length+b<=kk)/\(ss.length:Int)=q/\q<=max m 0/\∀s∈ss,WS 3 3 n s) (λs=>(max m 0-s.1).toNat)
  ⟨0,b,i,[],lo,rfl,hi,⟨hb,hl⟩,rfl,by omega,λs h=>by cases h⟩ λs ⟨q,b,j,ss,lo,e,h1,⟨h2,h3⟩,h4,h5,h6⟩=>?_
 subst e;refine aX (λt=>t=true->q<m/\0<b) ?_ λt ht=>bF (λe=>?_) λ_=>ay ⟨b,j,ss,lo,rfl,h1,⟨h2,h3⟩,by omega,h6⟩
 .exact bF (λh=>ay λh'=>⟨by simpa using h,by simpa using h'⟩) λ_=>ay λh=>by cases h
 obtain⟨t1,t2⟩:=ht e;rw[show cu (b-1)=b-1 from aI (by have:=h.k;omega)];refine aX _ (hr (b-1) j lo (by omega) (by omega) h1) λy ⟨k,i',nm,es,th,el,b',j',lo',e,c1,c2,c3⟩=>?_;subst e;have hk:=h.k;refine aY (by unfold bP;simp;omega) (ay ⟨⟨_,b',j',_,lo',rfl,c1,c2,?_,?_,λs hs=>?_⟩,?_⟩)
 all_goals try simp only[aI (x:=q+1) (by omega)]
 .simp;omega
 .omega
 .rcases QQ.1 hs with hs|hs
  .exact h6 s hs
  .rw [Q6]at hs;subst hs;exact c3
 .omega
theorem ZO{rec:T77}{rec':T95}{uw:Si}{d n:Nat}(h:VH kk l g fs)(hd:d<=100)(hr :∀m b i lo,m<=4->0<=b->lo.length+b<=kk->0<=i->Ok (rec d m b l i g fs lo) (PB (n+1) (max m 0) kk l g fs))
  {b i:Int} {lo} (hb:0<=b) (hl:lo.length+b<=kk) (hi:0<=i):Ok (XV rec rec' uw (d+1:Nat) b l i g fs lo) (PL (n+2) kk l g fs):=by
 have hw:cu (((d+1:Nat):Int)-1)=d:=by rw[aI (by omega)];omega
 have hE:=h.env (lo:=lo) (by omega);have hlo:=hE.lo;unfold XV;refine aX (PL (n+2) kk l g fs) ?_ λy ⟨k,i,nm,es,th,b,j,lo,e,h⟩=>by subst e;exact aY (by simp) (aY (by simp) (ay ⟨k,i,nm,es,th,b,j,lo,rfl,h⟩))
 refine goP hE hi λnm t j0 h0=>aX (λy=>∃u j,0<=j/\(u=true->0<lo.length)/\y=(u,l,j)) ?_ λy ⟨u,j,hj,hu,e⟩=>?_
 .refine bF (λhc=>goN h.b h0 (by omega) λx j hj _ _=>ay ⟨_,_,hj,λ_=>by simpa using hc,rfl⟩) λ_=>ay ⟨_,_,h0,λh=>(by cases h),rfl⟩
 subst e;refine aX (λy=>∃nm t j,0<=j/\y=(nm,t,l,j)) ?_ λy ⟨nm,t,j,hj,e⟩=>?_
 .exact bF (λhc=>goN h.b hj (by omega) λx j hj a1 a2=>aY (ak.2 ⟨a1,a2 (by have:=hu hc;omega)⟩) (ay ⟨_,_,_,hj,rfl⟩)) λ_=>ay ⟨_,_,_,hj,rfl⟩
 subst e;refine aX (λy=>∃t j,0<=j/\y=(t,l,j)) ?_ λy ⟨t,j,hj,e⟩=>?_
 .exact bF (λ_=>ay ⟨_,_,hj,rfl⟩) λ_=>goN h.b hj (by omega) λx j hj _ _=>ay ⟨_,_,hj,rfl⟩
 subst e;refine bF (λ_=>S9 hE hj λ_ _ _ _ _ _ j hj hx=>lU rfl (goN h.b hj (by omega) λx j hj a1 a2=>agx hr hw ?_ hb hl hj λss b' j lo' c1 c2 c3 c4 c5=>ay ⟨5,_,_,[_],ss,b',j,lo',rfl,c1,⟨c2,c3⟩,Uw hx (by omega) (by simp) c5 λy h=>by cases h⟩)) λ_=>?_
 .have a2:=a2 (by omega);show cu (1+x)<=4;rw[aI (by omega)];omega
 refine goN h.b hj (by omega) λx j hj _ _=>lU rfl (lU rfl (goN h.b hj (by omega) λx2 j2 h2 _ b2=>agx hr hw (by have:=b2 (by omega);omega) hb hl h2 λss b' j lo' c1 c2 c3 c4 c5=>lU rfl (lU rfl (aY (by unfold bP;simp;omega) (ay ⟨5,_,_,[_],ss++[_],b',j,lo',rfl,c1,⟨c2,c3⟩,Uw (we2 (we0 (by simp) (by simp) (by simp)) (we0 (by simp) (by simp) (by simp)) (by omega)) (by simp;omega) (by simp) (λy hy=>?_) λy h=>by cases h⟩)))));rcases QQ.1 hy with hy|hy
 .exact c5 y hy
 .rw [Q6]at hy;subst hy;exact Lu (we2 (we0 (by simp) (by simp) (by simp)) (we0 (by simp) (by simp) (by simp)) (by omega))
end
section
variable {kk:Int} {l:List Int} {g:List aU} {fs:List aA}
theorem ZP{rec:T77}{rec':T95}{uw:Si}{d:Nat}(h:VH kk l g fs)(hd:d<=100)(hr :∀e:Nat,e+1=d->∀m b i lo,m<=4->0<=b->lo.length+b<=kk->0<=i->Ok (rec e m b l i g fs lo) (PB (e+1) (max m 0) kk l g fs))
  (hp:0<d->∀b i lo,0<=b->lo.length+b<=kk->0<=i->Ok (uw d b l i g fs lo) (PL (d+1) kk l g fs))
  {b i:Int} {lo} (hb:0<=b) (hl:lo.length+b+1<=kk) (hi:0<=i):Ok (af4 rec rec' uw d b l i g fs lo) (PS (d+1) kk l g fs):=by
 have hE:=h.env (lo:=lo) (by omega);have hlo:=hE.lo;unfold af4;refine aX (PS (d+1) kk l g fs) ?_ λy ⟨k,i,nm,es,th,el,b,j,lo,e,h⟩=>by subst e;exact aY (by simp) (aY (by simp) (ay ⟨k,i,nm,es,th,el,b,j,lo,rfl,h⟩))
 refine goN h.b hi (by omega) λx0 j0 h0 _ _=>aX (λ_=>True) ?_ λs3 _=>?_
 .exact bF (λ_=>ay trivial) λ_=>ay trivial
 refine qF (λy=>∃j,0<=j/\y=(b,l,j)) ?_ λy ⟨j,hj,e⟩=>?_
 rotate_left
 .subst e;exact S9 hE hj λ_ _ _ _ _ _ j hj hx=>lU rfl (ay ⟨7,_,_,[_],[],[],b,j,lo,rfl,hj,⟨hb,by omega⟩,Lu hx⟩)
 refine bF (λ_=>aX _ (adh hlo) λy ⟨nm,t,e⟩=>?_) λ_=>qF (λy=>∃j,0<=j/\y=(b,l,j)) ?_ λy ⟨j,hj,e⟩=>(by subst e;exact ay ⟨j,hj,rfl⟩)
 .subst e;refine bF (λ_=>S9 hE h0 λ_ _ _ _ _ _ j hj hx=>lU rfl (aY (by unfold bP;simp;omega) (ay ⟨1,_,_,[_],[],[],b,j,lo++[nm],rfl,hj,⟨hb,by simp;omega⟩,Lu hx⟩))) λ_=>ay ⟨_,h0,rfl⟩
 refine bF (λ_=>bF (λhc=>goN h.b h0 (by omega) λx j hj a1 a2=>aY (ak.2 ⟨a1,a2 (by have:0<lo.length:=(by simpa using hc);omega)⟩) (S9 hE hj λ_ _ _ _ _ _ j hj hx=>lU rfl (ay ⟨2,_,_,[_],[],[],b,j,lo,rfl,hj,⟨hb,by omega⟩,Lu hx⟩))) λ_=>ay ⟨_,h0,rfl⟩) λ_=>qF (λy=>∃j,0<=j/\y=(b,l,j)) ?_ λy ⟨j,hj,e⟩=>(by subst e;exact ay ⟨j,hj,rfl⟩);refine bF (λ_=>goP hE h0 λnm t j hj=>bF (λ_=>S9 hE hj λ_ _ _ _ _ _ j hj hx=>lU rfl (ay ⟨2,_,_,[_],[],[],b,j,lo,rfl,hj,⟨hb,by omega⟩,Lu hx⟩)) λ_=>ay ⟨_,hj,rfl⟩) λ_=>qF (λy=>∃j,0<=j/\y=(b,l,j)) ?_ λy ⟨j,hj,e⟩=>(by subst e;exact ay ⟨j,hj,rfl⟩);refine bF (λ_=>goP hE h0 λnm t j hj=>bF (λ_=>aq_ hE hj λ_ _ _ _ _ _ j hj hx=>S9 hE hj λ_ _ _ _ _ _ j hj hz=>ay ⟨3,_,_,[_,_],[],[],b,j,lo,rfl,hj,⟨hb,by omega⟩,⟨by simp,λh=>absurd h (by simp),agv hx hz,⟨by simp,by simp⟩,λy h=>(by cases h),λy h=>by cases h⟩⟩) λ_=>ay ⟨_,hj,rfl⟩) λ_=>aX (λ_=>True) ?_ λs3 _=>qF (λ_=>True) ?_ λ_ _=>ay ⟨_,h0,rfl⟩
 .exact bF (λ_=>ay trivial) λ_=>ay trivial
 refine bF (λ_=>bF (λhc=>?_) λ_=>ay trivial) λ_=>qF (λ_=>True) ?_ λ_ _=>ay trivial
 .obtain ⟨e,rfl⟩ :∃e,d=e+1:=⟨d-1,by have:0<d:=(by simpa using hc);omega⟩;have hw:cu (((e+1:Nat):Int)-1)=e:=by rw[aI (by omega)];omega
  have hr:=hr e rfl;have hone :∀x:Int,0<=x->(1<=(2:Int)->x<2)->cu (1+x)<=4:=λx h1 h2=>by have:=h2 (by omega);rw[aI (by omega)];omega
  refine S9 hE h0 λ_ _ _ _ _ _ j hj hx=>lU rfl (goN h.b hj (by omega) λx1 j1 h1 a1 b1=>agx hr hw (hone _ a1 b1) hb (show (lo.length:Int)+b<=kk by omega) h1 λss b' j lo' c1 c2 c3 c4 c5=>goN h.b c1 (by omega) λx2 j2 h2 a2 b2=>?_);refine aX (λy=>∃b j lo el,y=(b,l,j,4,0,dM,lo,el)/\0<=j/\(0<=b/\lo.length+b<=kk)/\el.length<=4/\∀s∈el,WS 3 3 (e+1) s) ?_ λy ⟨b,j,lo,el,e',d1,d2,d3,d4⟩=>by subst e';exact ay ⟨4,_,_,[_],ss,el,b,j,lo,rfl,d1,d2,Uw hx (by omega) (by omega) c5 d4⟩
  exact bF (λ_=>goN h.b h2 (by omega) λx3 j3 h3 a3 b3=>agx hr hw (hone _ a3 b3) c2 c3 h3 λss b' j lo' c1 c2 c3 c4 c5=>ay ⟨b',j,lo',ss,rfl,c1,⟨c2,c3⟩,c4,c5⟩) λ_=>ay ⟨b',j2,lo',[],rfl,h2,⟨c2,c3⟩,by simp,λs h=>by cases h⟩
 refine bF (λ_=>bF (λhc=>aX _ (hp (by simpa using hc) b j0 lo hb (by omega) h0) λy ⟨k,i,nm,es,th,b,j,lo,e,h1,h2,h3⟩=>by subst e;exact ay ⟨k,i,nm,es,th,[],b,j,lo,rfl,h1,h2,h3⟩) λ_=>ay trivial) λ_=>bF (λ_=>?_) λ_=>ay trivial;exact goN h.b h0 (by omega) λx j hj _ _=>bF (λ_=>S9 hE hj λ_ _ _ _ _ _ j hj hx=>lU rfl (ay ⟨6,_,_,[_],[],[],b,j,lo,rfl,hj,⟨hb,by omega⟩,Lu hx⟩)) λ_=>ara hE hj λ_ _ _ _ _ _ j hj hx=>lU rfl (ay ⟨8,_,_,[_],[],[],b,j,lo,rfl,hj,⟨hb,by omega⟩,Lu hx⟩)
theorem adi(n:Nat):(jU (n+1)).1=af2 (ac1 n) (af5 n) (XW n):=rfl
theorem adk(n:Nat):(jU (n+1)).2.1=af4 (ac1 n) (af5 n) (XW n):=rfl
theorem adl(n:Nat):(jU (n+1)).2.2=XV (ac1 n) (af5 n) (XW n):=rfl
theorem S_(h:VH kk l g fs):∀n:Nat,(∀d:Nat,d<=100->3*d+2<=n->∀m b i lo,m<=4->0<=b->lo.length+b<=kk->0<=i->Ok (ac1 n d m b l i g fs lo) (PB (d+1) (max m 0) kk l g fs))/\
  (∀d:Nat,d<=100->3*d+1<=n->∀b i lo,0<=b->lo.length+b+1<=kk->0<=i->Ok (af5 n d b l i g fs lo) (PS (d+1) kk l g fs))/\
  (∀d:Nat,d<=100->0<d->3*d<=n->∀b i lo,0<=b->lo.length+b<=kk->0<=i->Ok (XW n d b l i g fs lo) (PL (d+1) kk l g fs))
 |0=>⟨λd _ h=>by omega,λd _ h=>by omega,λd _ h h'=>by omega⟩
 |n+1=>by
  obtain⟨i1,i2,i3⟩:=S_ h n;refine⟨λd h1 h2 m b i lo h3 h4 h5 h6=>ajF (by rw[adi];exact VI h (i2 d h1 (by omega)) h3 h4 h5 h6),
   λd h1 h2 b i lo h3 h4 h5=>ajG (by rw[adk];exact ZP h h1 (λe he=>i1 e (by omega) (by omega)) (λhd=>i3 d h1 hd (by omega)) h3 h4 h5),λd h1 h2 h3 b i lo h4 h5 h6=>?_⟩
  obtain⟨e,rfl⟩ :∃e,d=e+1:=⟨d-1,by omega⟩;exact agw (by rw[adl];exact ZO h (by omega) (i1 e (by omega) (by omega)) h4 h5 h6)
end
structure Src(m h:Nat)(g:List aU)(fs:List aA):Prop where
 g:g.length<=100
 f:fs.length<=100
 ps :∀f∈fs,f.params.length<=2
 ws :∀f∈fs,f.body.length<=10/\∀s∈f.body,WS m h 3 s
theorem He{A R α:Type}{body:A->Option (A ⊕ R)}{Q:R->Prop}{a:A}(ct:A->Int)(ls:A->List α)(I:A->Prop)(m:Nat)(h0:I a)(hm:(ls a).length+ct a<=m)(hc:m<=1000)
  (h :∀a,I a->(ls a).length<=m->0<ct a->(ls a).length+ct a<=m->Ok (body a) (Gq (λa'=>I a'/\ct a'=ct a-1/\(ls a').length=(ls a).length+1) Q))
  (he :∀a,I a->(ls a).length<=m->¬ 0<ct a->Ok (body a) (Gq (λ_=>False) Q)) (hl:(ls a).length<=m):Ok (aT body a) Q:=by
 refine bf (λa=>I a/\(ls a).length<=m/\(0<ct a->(ls a).length+ct a<=m)) (λa=>(ct a).toNat) ⟨h0,hl,λ_=>hm⟩ λa ⟨h1,h2,h3⟩=>?_;by_cases hp:0<ct a
 .refine jA (h a h1 h2 hp (h3 hp)) λy hy=>?_;cases y with
  |inl a'=>obtain⟨g1,g2,g3⟩:=hy;exact⟨⟨g1,by have:=h3 hp;omega,λ_=>by have:=h3 hp;omega⟩,by omega⟩
  |inr r=>exact hy
 .refine jA (he a h1 h2 hp) λy hy=>?_;cases y with
  |inl a'=>exact hy.elim
  |inr r=>exact hy
theorem ZQ{l:List Int}{i:Int}(hb:Bytes l)(hi:0<=i):Ok (f55 l i) λy=>y.1=l/\0<=y.2.1/\Src 3 3 y.2.2.1 y.2.2.2:=by
 unfold f55;refine lU rfl (goN hb hi (by omega) λx1 j1 h1 a1 b1=>aX (λy=>y.2.length<=2) ?_ λ⟨z,g0⟩ hg0=>?_)
 .have b1:=b1 (by omega);refine He (λs:Int×Int×List aU=>s.1) (λs=>s.2.2) (λ_=>True) 2 trivial (by simp only[Km];omega) (by omega) (λ⟨q,z,gs⟩ _ e1 e2 e3=>?_) (λ⟨q,z,gs⟩ _ e1 e2=>yR (Vn e2) (ay e1)) (by simp);simp only at e1 e2 e3;refine goT (Wc e2) (aX _ (uq (by omega) (by simp only;omega)) λnm hnm=>aY (nR.2 (by simp;omega)) (aY (by unfold bP;simp;omega) (ay ⟨trivial,aI (by omega),by simp⟩)))
 simp only at hg0;refine goN hb h1 (by omega) λx2 j2 h2 a2 b2=>aX (λy=>y.1=l/\0<=y.2.1/\y.2.2.2.length<=4) ?_ λ⟨l',j3,z',gs⟩ ⟨e1,e2,e3⟩=>?_
 .have b2:=b2 (by omega);refine He (λs:Int×List Int×Int×Int×List aU=>s.1) (λs=>s.2.2.2.2) (λs=>s.2.1=l/\0<=s.2.2.1) 4 ⟨rfl,h2⟩ (by simp only;omega) (by omega) (λ⟨q,l',j,z,gs⟩ ⟨c1,c2⟩ e1 e2 e3=>?_) (λ⟨q,l',j,z,gs⟩ ⟨c1,c2⟩ e1 e2=>yR (Vn e2) (ay ⟨c1,c2,e1⟩)) (by simp only;omega);simp only at e1 e2 e3 c1 c2;subst c1;refine goT (Wc e2) (aX _ (uq (by omega) (by simp only;omega)) λnm hnm=>aY (nR.2 (by simp;omega)) (goN hb c2 (by omega) λx j hj _ _=>aY (by unfold bP;simp;omega) (ay ⟨⟨rfl,hj⟩,aI (by omega),by simp⟩)))
 simp only at e1 e2 e3;subst e1;refine goN hb e2 (by omega) λx4 j4 h4 a4 b4=>aX (λy=>y.1=l'/\0<=y.2.1/\(0<y.2.2.2.length/\y.2.2.2.length<=4)/\∀f∈y.2.2.2,f.params.length<=2/\f.body=[]) ?_ λ⟨l2,j5,z2,fs⟩ ⟨e1,e2,e4,e5⟩=>?_
 .have b4:=b4 (by omega);refine He (λs:Int×List Int×Int×Int×List aA=>s.1) (λs=>s.2.2.2.2) (λs=>s.2.1=l'/\0<=s.2.2.1/\0<s.2.2.2.2.length/\∀f∈s.2.2.2.2,f.params.length<=2/\f.body=[]) 4 ⟨rfl,h4,by simp,O_ ⟨by simp,rfl⟩⟩ (by simp only[W3];omega) (by omega)
   (λ⟨q,l',j,z,fs⟩ ⟨c1,c2,c3,c4⟩ e1 e2 e3=>?_) (λ⟨q,l',j,z,gs⟩ ⟨c1,c2,c3,c4⟩ e1 e2=>yR (Vn e2) (ay ⟨c1,c2,⟨c3,e1⟩,c4⟩)) (by simp)
  simp only at e1 e2 e3 c1 c2 c3 c4;subst c1;refine goT (Wc e2) (aX _ (uq (by omega) (by simp only;omega)) λnm hnm=>aY (nR.2 (by simp;omega)) (goN hb c2 (by omega) λx j hj a5 b5=>aX (λy=>y.2.2.length<=2) ?_ λy hy=>aY (by unfold bP;simp;omega) (ay ⟨⟨rfl,hj,by simp,λf hf=>?_⟩,aI (by omega),by simp⟩)))
  .have b5:=b5 (by omega);refine He (λs:Int×List UInt8×Int×List (List UInt8)=>s.1) (λs=>s.2.2.2) (λ_=>True) 2 trivial (by simp only[Km];omega) (by omega) (λ⟨q,z,z',gs⟩ _ e1 e2 e3=>?_) (λ⟨q,z,z',gs⟩ _ e1 e2=>yR (Vn e2) (ay e1)) (by simp);simp only at e1 e2 e3;refine goT (Wc e2) (aX _ (uq (by omega) (by simp only;omega)) λnm hnm=>aY (nR.2 (by simp;omega)) (aY (by unfold bP;simp;omega) (ay ⟨trivial,aI (by omega),by simp⟩)))
  .rcases QQ.1 hf with hf|hf
   .exact c4 f hf
   .rw [Q6]at hf;subst hf;exact⟨hy,rfl⟩
 simp only at e1 e2 e3 e4 e5;subst e1;refine aX (λy=>y.1=l2/\0<=y.2.1/\Src 3 3 y.2.2.2.1 y.2.2.2.2.1) ?_ λy hy=>ay hy;refine bf (λs:Int×List Int×Int×Int×List aU×List aA×List (List UInt8)=>s.2.1=l2/\0<=s.2.2.1/\s.2.2.2.2.1=gs/\s.2.2.2.2.2.1.length=fs.length/\(0<=s.1/\s.1<=fs.length)/\∀f∈s.2.2.2.2.2.1,f.params.length<=2/\f.body.length<=10/\∀s∈f.body,WS 3 3 3 s) (λs=>(fs.length-s.1).toNat)
  ⟨rfl,e2,rfl,rfl,⟨by simp,by simp⟩,λf hf=>⟨(e5 f hf).1,by rw[(e5 f hf).2];exact⟨by simp,λs h=>by cases h⟩⟩⟩ λ⟨q,l3,j,z,gs',fs',lo⟩ ⟨c1,c2,c3,c4,c5,c6⟩=>?_
 simp only at c1 c2 c3 c4 c5 c6;subst c1;subst c3;refine bF (λhc=>?_) λ_=>ay ⟨rfl,c2,⟨by simp only;omega,by simp only;omega,λf hf=>(c6 f hf).1,λf hf=>(c6 f hf).2⟩⟩;have hc:q<fs'.length:=by simpa using hc
 have hq:q.toNat<fs'.length:=by omega
 have hf:=c6 _ (Z2 hq);rw[<-getD_at gW hq]at hf;generalize hfd:fs'.getD q.toNat gW=fd at hf;have hES:VH 20 l3 gs' fs':=⟨hb,by omega,by omega,by omega,λf hf=>(c6 f hf).1,by omega⟩;refine aY (ak.2 ⟨c5.1,hc⟩) (aY ?_ (goN hb c2 (by omega) λx6 j6 h6 a6 b6=>?_))
 .show (true&&decide _)=true;simp[hfd];omega
 simp only[hfd];have b6:=b6 (by omega);rw[show cu (1+x6)=1+x6 from aI (by omega)];refine aX _ ((S_ hES 1048576).1 2 (by omega) (by omega) (1+x6) 7 j6 (jY++fd.params) (by omega) (by omega) (by simp;omega) h6) λy ⟨ss,b,j,lo,e,d1,d2,d3,d4⟩=>?_;subst e;refine aY (ak.2 ⟨c5.1,hc⟩) (ay ⟨⟨rfl,d1,rfl,?_,?_,λf h=>?_⟩,?_⟩)
 .simp only[UX];exact c4
 .simp only[aI (x:=q+1) (by omega)];omega
 .rcases vz h with h|h
  .exact c6 f h
  .subst h;exact⟨hf.1,d3.1,d4⟩
 .simp only[aI (x:=q+1) (by omega)];omega
theorem oC{R:Type}{body:Int->Option (Int ⊕ R)}{Q:R->Prop}(n:Nat)(hn:n<=4000000000)(h :∀i:Int,0<=i->i<n->Ok (body i) (Gq (λj=>j=cu (i+1)) Q))(he:Ok (body n) (Gq (λ_=>False) Q)):Ok (aT body 0) Q:=by
 refine bf (λi:Int=>0<=i/\i<=n) (λi=>(n-i).toNat) ⟨by simp,by omega⟩ λi ⟨h1,h2⟩=>?_;by_cases hi:i<n
 .refine jA (h i h1 hi) λy hy=>?_;cases y with
  |inl j=>have e:j=cu (i+1):=hy;rw[aI (by omega)]at e;exact⟨⟨by omega,by omega⟩,by omega⟩
  |inr r=>exact hy
 .have e:i=n:=by omega
  subst e;refine jA he λy hy=>?_;cases y with
  |inl j=>exact hy.elim
  |inr r=>exact hy
section
variable {g:List aU} {fs:List aA} {lo:List (List UInt8)}
theorem vZ{nm:List UInt8}(hg:g.length<=1000000):Ok (f71 g fs nm) λy=>-1<=y/\y<g.length:=by unfold f71;refine qF (λ_=>True) (oC g.length (by omega) (λi h0 h1=>goT (Wc h1) (aY (ak.2 ⟨h0,h1⟩) (bF (λ_=>ay ⟨by omega,h1⟩) λ_=>ay rfl))) (yR (Vn (by omega)) (ay trivial))) λ_ _=>ay ⟨by omega,by omega⟩
theorem Hf{nm:List UInt8}(hg:fs.length<=1000000):Ok (f72 g fs nm) λy=>-1<=y/\y<fs.length:=by unfold f72;refine qF (λ_=>True) (oC fs.length (by omega) (λi h0 h1=>goT (Wc h1) (aY (ak.2 ⟨h0,h1⟩) (bF (λ_=>ay ⟨by omega,h1⟩) λ_=>ay rfl))) (yR (Vn (by omega)) (ay trivial))) λ_ _=>ay ⟨by omega,by omega⟩
theorem adn{nm:List UInt8}(hg:lo.length<=1000000):Ok (f74 lo nm) λ_=>True:=by unfold f74;refine qF (λ_=>True) (oC lo.length (by omega) (λi h0 h1=>goT (Wc h1) (aY (ak.2 ⟨h0,h1⟩) (bF (λ_=>ay trivial) λ_=>ay rfl))) (yR (Vn (by omega)) (ay trivial))) λ_ _=>ay trivial
structure Sc(g:List aU)(fs:List aA)(lo:List (List UInt8)):Prop where
 g:g.length<=1000000
 f:fs.length<=1000000
 lo:lo.length<=1000000
theorem Tc{nm:List UInt8}(hg:g.length<=1000000)(hf:fs.length<=1000000):Ok (f75 g fs nm) λy=>y=4->Ok (f72 g fs nm) λi=>0<=i/\i<fs.length:=by unfold f75;refine aX _ (vZ hg) λc ⟨h1,h2⟩=>bF (λh=>aY (ak.2 ⟨by simpa using h,h2⟩) (bF (λ_=>ay λh=>absurd h (by simp)) λ_=>ay λh=>absurd h (by simp))) λ_=>?_;obtain⟨c,hc,h3,h4⟩:=Hf (g:=g) (nm:=nm) hf;exact lU hc (bF (λh=>ay λ_=>⟨c,hc,by simpa using h,h4⟩) λ_=>ay λh=>absurd h (by simp))
theorem agy{nm:List UInt8}(h:Sc g fs lo){a b:Int}:Ok (f94 nm g fs a b lo) λy=>∃k,y=(k,g,fs,a,b,lo)/\(k=4->Ok (f72 g fs nm) λi=>0<=i/\i<fs.length):=by
 refine aX (λy=>∃k,y=(k,g,fs,a,b,lo)/\(k=4->Ok (f72 g fs nm) λi=>0<=i/\i<fs.length)) ?_ λy ⟨k,e,h⟩=>by subst e;exact goK rfl (ay ⟨k,rfl,h⟩)
 unfold ajc;refine aX (λy=>∃k,y=(k,g,fs,a,b,lo)/\(k=4->Ok (f72 g fs nm) λi=>0<=i/\i<fs.length)) ?_ λy ⟨k,e,h⟩=>by subst e;exact aY (by simp) (ay ⟨k,rfl,h⟩)
 exact aX _ (adn h.lo) λ_ _=>bF (λ_=>ay ⟨1,rfl,λh=>absurd h (by simp)⟩) λ_=>aX _ (Tc h.g h.f) λc hc=>ay ⟨c,rfl,hc⟩
theorem agz{p q a b:Int}:Ok (f92 p q g fs a b lo) λy=>∃a b,y=(g,fs,a,b,lo):=by
 refine aX (λy=>∃a b,y=(g,fs,a,b,lo)) ?_ λy ⟨a,b,e⟩=>by subst e;exact goK rfl (ay ⟨a,b,rfl⟩)
 unfold ajb;refine aX (λy=>∃a b,y=(g,fs,a,b,lo)) ?_ λy ⟨a,b,e⟩=>by subst e;exact aY (by simp) (ay ⟨a,b,rfl⟩)
 exact aX (λy=>∃a b,y=(g,fs,a,b)) (bF (λ_=>ay ⟨_,_,rfl⟩) λ_=>ay ⟨_,_,rfl⟩) λy ⟨a,b,e⟩=>by subst e;exact ay ⟨_,_,rfl⟩
theorem qC{β:Type}{p q a b:Int}{f:List aU×List aA×Int×Int×List (List UInt8)->Option β}{Q:β->Prop}(k :∀a b,Ok (f (g,fs,a,b,lo)) Q):Ok (Option.bind (f92 p q g fs a b lo) f) Q:=aX _ agz λy ⟨a,b,e⟩=>by subst e;exact k a b
theorem Ph{β:Type}{nm:List UInt8}(h:Sc g fs lo){a b:Int}{f}{Q:β->Prop}(k :∀q,(q=4->Ok (f72 g fs nm) λi=>0<=i/\i<fs.length)->Ok (f (q,g,fs,a,b,lo)) Q):Ok (Option.bind (f94 nm g fs a b lo) f) Q:=aX _ (agy h) λy ⟨q,e,h⟩=>by subst e;exact k q h
theorem agA(h:Sc g fs lo){k o v i:Int}{nm:List UInt8}{ar:List bK}{p q a b:Int}:Ok (f102 k o v i nm ar p q g fs a b lo) λy=>∃a b,y=(g,fs,a,b,lo):=by
 refine aX (λy=>∃a b,y=(g,fs,a,b,lo)) ?_ λy ⟨a,b,e⟩=>by subst e;exact goK rfl (ay ⟨a,b,rfl⟩)
 unfold acB;refine aX (λy=>∃a b,y=(g,fs,a,b,lo)) ?_ λy ⟨a,b,e⟩=>by subst e;exact aY (by simp) (ay ⟨a,b,rfl⟩)
 refine Ph h λq _=>aX (λy=>∃a b,y=(g,fs,a,b)) ?_ λy ⟨a,b,e⟩=>by subst e;exact ay ⟨_,_,rfl⟩
 refine bF (λ_=>qC λ_ _=>ay ⟨_,_,rfl⟩) λ_=>aX (λ_=>True) ?_ λ_ _=>aX (λy=>∃a b,y=(g,fs,a,b)) ?_ λy ⟨a,b,e⟩=>by subst e;exact ay ⟨_,_,rfl⟩
 .exact bF (λ_=>ay trivial) λ_=>ay trivial
 .exact bF (λ_=>qC λ_ _=>ay ⟨_,_,rfl⟩) λ_=>ay ⟨_,_,rfl⟩
theorem VJ{β:Type}(h:Sc g fs lo){k o v i:Int}{nm:List UInt8}{ar:List bK}{p q a b:Int}{f}{Q:β->Prop}(k' :∀a b,Ok (f (g,fs,a,b,lo)) Q):Ok (Option.bind (f102 k o v i nm ar p q g fs a b lo) f) Q:=aX _ (agA h) λy ⟨a,b,e⟩=>by subst e;exact k' a b
theorem ado(h:Sc g fs lo){i a b:Int}{nm:List UInt8}:Ok (f103 nm i g fs a b lo) λy=>∃k,(k=2\/k=3)/\y=(k,0,0,i,nm,g,fs,a,b,lo):=by
 refine aX (λy=>∃k,(k=2\/k=3)/\y=(k,0,0,i,nm,g,fs,a,b,lo)) ?_ λy ⟨k,hk,e⟩=>by subst e;exact goK rfl (ay ⟨k,hk,rfl⟩)
 unfold acD;refine aX (λy=>∃k,(k=2\/k=3)/\y=(k,0,0,i,nm,g,fs,a,b,lo)) ?_ λy ⟨k,hk,e⟩=>by subst e;exact aY (by simp) (ay ⟨k,hk,rfl⟩)
 exact Ph h λq _=>aX (λk=>k=2\/k=3) (bF (λ_=>ay (by simp)) λ_=>ay (by simp)) λk hk=>ay ⟨k,hk,rfl⟩
theorem X7{β:Type}(h:Sc g fs lo){i a b:Int}{nm:List UInt8}{f}{Q:β->Prop}(k' :∀k,(k=2\/k=3)->Ok (f (k,0,0,i,nm,g,fs,a,b,lo)) Q):Ok (Option.bind (f103 nm i g fs a b lo) f) Q:=aX _ (ado h) λy ⟨k,hk,e⟩=>by subst e;exact k' k hk
def PX(n:Nat)(g:List aU)(fs:List aA)(lo:List (List UInt8))(y:Int×Int×Int×Int×List UInt8×List aU×List aA×Int×Int×List (List UInt8)×List bK):Prop:=∃k o v i nm a b ar,y=(k,o,v,i,nm,g,fs,a,b,lo,ar)/\WE 4 n (bK.mk k o v i nm ar)
def PXs(n m:Nat)(g:List aU)(fs:List aA)(lo:List (List UInt8))(y:List aU×List aA×Int×Int×List (List UInt8)×List bK):Prop:=∃a b ar,y=(g,fs,a,b,lo,ar)/\ar.length=m/\∀x∈ar,WE 4 n x
theorem VK{rec:T93}{rec':Zy}{n:Nat}{ls:List bK}(hl:ls.length<=10)(hr :∀x∈ls,∀a b,Ok (rec x.kind x.op x.value x.line x.name x.args g fs a b lo) (PX n g fs lo)){a b:Int}:
  Ok (XI rec rec' ls g fs a b lo) (PXs n ls.length g fs lo):=by
 unfold XI;refine aX (PXs n ls.length g fs lo) ?_ λy ⟨a,b,ar,e,h⟩=>by subst e;exact aY (by simp) (ay ⟨a,b,ar,rfl,h⟩)
 refine aX (λy=>∃a b ar,y=(g,fs,a,b,ar)/\ar.length=ls.length/\∀x∈ar,WE 4 n x) ?_ λy ⟨a,b,ar,e,h⟩=>by subst e;exact ay ⟨a,b,ar,rfl,h⟩
 refine bf (λs:Int×List aU×List aA×Int×Int×List bK=>∃q a b ar,s=(q,g,fs,a,b,ar)/\(ar.length:Int)=q/\ar.length<=ls.length/\∀x∈ar,WE 4 n x) (λs=>(ls.length-s.1).toNat) ⟨0,a,b,[],rfl,rfl,by simp,λx h=>by cases h⟩ λs ⟨q,a,b,ar,e,h1,h2,h3⟩=>?_;subst e;subst h1;refine bF (λhc=>?_) λhc=>ay ⟨a,b,ar,rfl,?_,h3⟩
 .have hc:ar.length<ls.length:=by simp at hc;omega
  refine aY (ak.2 ⟨by simp only;omega,by simp only;omega⟩) (aX _ (hr _ (by rw[getD_at _ (by simpa using hc)];exact Z2 _) a b) λy ⟨k,o,v,i,nm,a,b,ar',e,hx⟩=>?_);subst e;refine aY (by unfold bP;simp;omega) (ay ⟨⟨_,a,b,_,rfl,?_,?_,λx hx'=>?_⟩,?_⟩)
  all_goals try simp only[aI (x:=(ar.length:Int)+1) (by omega)]
  .simp
  .simp;omega
  .rcases QQ.1 hx' with h|h
   .exact h3 x h
   .rw [Q6]at h;subst h;exact hx
  .omega
 .have hc:¬ (ar.length:Int)<ls.length:=by simpa using hc
  omega
theorem adp{rec:T93}{rec':Zy}{n:Nat}(h:Sc g fs lo){k o v i a b:Int}{nm:List UInt8}{ar:List bK}(hx:WE 3 (n+1) (bK.mk k o v i nm ar))(hr :∀a b,Ok (rec' ar g fs a b lo) (PXs (n+1) ar.length g fs lo)):
  Ok (afG rec rec' k o v i nm ar g fs a b lo) (PX (n+2) g fs lo):=by
 obtain⟨w1,w2,w3,w4⟩:=hx;unfold afG;refine aX (PX (n+2) g fs lo) ?_ λy ⟨k,o,v,i,nm,a,b,ar,e,h⟩=>by subst e;exact aY (by simp) (ay ⟨k,o,v,i,nm,a,b,ar,rfl,h⟩)
 refine bF (λ_=>VJ h λa b=>X7 h λk hk=>ay ⟨k,0,0,i,nm,a,b,[],rfl,we0 (by omega) (by omega) (by omega)⟩) λ_=>?_;have fin :∀y:List aU×List aA×Int×Int,(∃a b,y=(g,fs,a,b))->Ok (Option.bind (rec' ar y.1 y.2.1 y.2.2.1 y.2.2.2 lo) λc40=>some (k,o,v,i,nm,c40.1,c40.2.1,c40.2.2.1,c40.2.2.2.1,lo,c40.2.2.2.2.2)) (PX (n+2) g fs lo):=λy ⟨a,b,e⟩=>by subst e;refine aX _ (hr a b) λy ⟨a,b,ar',e,h1,h2⟩=>?_;subst e;exact ay ⟨k,o,v,i,nm,a,b,ar',rfl,⟨by simp only at w1 ⊢;omega,λh=>by have:=w2 h;simp only at this ⊢;omega,λh=>by have:=w3 h;simp only at this ⊢;omega,h2⟩⟩
 refine qF (λy=>∃a b,y=(g,fs,a,b)) ?_ fin;refine bF (λ_=>VJ h λa b=>ay ⟨_,_,rfl⟩) λ_=>qF (λy=>∃a b,y=(g,fs,a,b)) ?_ λy ⟨a,b,e⟩=>by subst e;exact ay ⟨_,_,rfl⟩
 refine bF (λ_=>VJ h λa b=>ay ⟨_,_,rfl⟩) λ_=>qF (λy=>∃a b,y=(g,fs,a,b)) ?_ λy ⟨a,b,e⟩=>by subst e;exact ay ⟨_,_,rfl⟩
 refine bF (λ_=>Ph h λq hq=>qF (λy=>∃a b,y=(g,fs,a,b)) ?_ λy ⟨a,b,e⟩=>by subst e;exact ay ⟨_,_,rfl⟩) λ_=>aX (λy=>∃a b,y=(g,fs,a,b)) ?_ λy ⟨a,b,e⟩=>by subst e;exact ay ⟨_,_,rfl⟩
 .refine bF (λ_=>qC λa b=>ay ⟨_,_,rfl⟩) λ_=>qF (λy=>∃a b,y=(g,fs,a,b)) ?_ λy ⟨a,b,e⟩=>by subst e;exact ay ⟨_,_,rfl⟩
  refine bF (λ_=>qC λa b=>ay ⟨_,_,rfl⟩) λ_=>bF (λh4=>aX _ (hq (by simpa using h4)) λc hc=>aY (ak.2 hc) (aX (λy=>∃a b,y=(g,fs,a,b)) ?_ λy ⟨a,b,e⟩=>by subst e;exact ay ⟨_,_,rfl⟩)) λ_=>aX (λy=>∃a b,y=(g,fs,a,b)) ?_ λy ⟨a,b,e⟩=>?_
  .exact bF (λ_=>qC λa b=>ay ⟨_,_,rfl⟩) λ_=>ay ⟨_,_,rfl⟩
  .exact bF (λ_=>qC λa b=>ay ⟨_,_,rfl⟩) λ_=>ay ⟨_,_,rfl⟩
  .subst e;refine X7 h λk hk=>aX _ (hr a b) λy ⟨a,b,ar',e,h1,h2⟩=>?_;subst e;refine aY (by unfold bP;simp at w1 ⊢;omega) (ay ⟨10,0,0,i,dM,a,b,_,rfl,⟨by simp at w1 ⊢;omega,λh=>absurd h (by simp),λh=>by simp,λz hz=>?_⟩⟩);rcases QQ.1 hz with hz|hz
   .rw [Q6]at hz;subst hz;exact we0 (by omega) (by omega) (by omega)
   .exact h2 z hz
 .refine bF (λ_=>aX (λy=>∃a b,y=(g,fs,a,b)) ?_ λy ⟨a,b,e⟩=>by subst e;exact ay ⟨_,_,rfl⟩) λ_=>ay ⟨_,_,rfl⟩;exact bF (λ_=>qC λa b=>ay ⟨_,_,rfl⟩) λ_=>ay ⟨_,_,rfl⟩
theorem adq(n:Nat):(sG (n+1)).1=afG (afH n) (ahw n):=rfl
theorem adr(n:Nat):(sG (n+1)).2=XI (afH n) (ahw n):=rfl
theorem M_(h:Sc g fs lo):∀n:Nat,∀k,2*n<=k->∀x,WE 3 n x->∀a b,Ok (afH k x.kind x.op x.value x.line x.name x.args g fs a b lo) (PX (n+1) g fs lo)
 |0,_,_=>λ_ h=>h.elim
 |n+1,0,hk=>by omega
 |n+1,1,hk=>by omega
 |n+1,k+2,hk=>λx hx a b=>by
  have ih:=M_ h n k (by omega);obtain⟨x1,x2,x3,x4,x5,x6⟩:=x;refine aX (PX (n+2) g fs lo) ?_ λy ⟨k,o,v,i,nm,a,b,ar,e,h⟩=>by subst e;exact goK rfl (ay ⟨k,o,v,i,nm,a,b,ar,rfl,h⟩)
  rw[adq];refine adp h hx λa b=>?_;refine aX (PXs (n+1) x6.length g fs lo) ?_ λy ⟨a,b,ar,e,h⟩=>by subst e;exact goK rfl (ay ⟨a,b,ar,rfl,h⟩)
  rw[adr];exact VK (J0 hx.1 (by omega)) λz hz a b=>ih z (hx.2.2.2 z hz) a b
theorem Na{m:Nat}(hm:m<=10):∀n k:Nat,n<=k->∀x,WE m n x->Ok (aja k x.kind x.op x.value x.line x.name x.args) λ_=>True
 |0,_,_,_,h=>h.elim
 |n+1,0,hk,_,_=>by omega
 |n+1,k+1,hk,x,h=>by
  have ih:=Na hm n k (by omega);show Ok (ai_ (aja k) x.kind x.op x.value x.line x.name x.args) _;unfold ai_;refine aX (λ_=>True) ?_ λ_ _=>ay trivial;have hl:=h.1;refine bf (λs:Int×Int=>0<=s.2/\s.2<=x.args.length) (λs=>(x.args.length-s.2).toNat) ⟨by simp,by simp⟩ λ⟨z,q⟩ ⟨h1,h2⟩=>bF (λhc=>?_) λ_=>ay trivial;have hc:q<x.args.length:=by simpa using hc
  simp only at h1 h2;refine aY (ak.2 ⟨h1,hc⟩) (aX _ (ih _ (h.2.2.2 _ (by rw[getD_at _ (by simp only;omega)];exact Z2 _))) λ_ _=>ay ⟨⟨?_,?_⟩,?_⟩)
  all_goals simp only[aI (x:=q+1) (by omega)];omega
end
def V:Nat->Nat
 |0=>0
 |n+1=>1+20*V n
theorem kV{α:Type}{l:List α}{q:Int}(d:α)(h0:0<=q)(h1:q<l.length):l.getD q.toNat d∈l:=by rw[getD_at _ (by omega)];exact Z2 _
theorem Pj{q m:Nat}(V:Nat)(h:q<m):(q+1)*V=q*V+V/\q*V+V<=m*V:=by have e:(q+1)*V=q*V+V:=Nat.succ_mul q V;exact⟨e,e▸Zs V h⟩
theorem Hg{m h:Nat}:∀n k:Nat,n+1<=k->∀ss:List eP,ss.length<=10->(∀s∈ss,WS m h n s)->∀l,l.length+10*V n<=1000000->Ok (ai3 k ss l) λy=>y.length<=l.length+ss.length*V n
 |_,0,hk,_,_,_,_,_=>by omega
 |n,k+1,hk,ss,hs,hw,l,hl=>by
  show Ok (ai2 (ai3 k) ss l) _;unfold ai2;refine aX (λy=>y.length<=l.length+ss.length*V n) ?_ λy hy=>ay hy;refine bf (λs:Int×List (List UInt8)=>∃q:Nat,s.1=q/\q<=ss.length/\s.2.length<=l.length+q*V n) (λs=>(ss.length-s.1).toNat) ⟨0,rfl,by omega,by simp⟩ λ⟨q,acc⟩ ⟨q',e1,e2,e3⟩=>?_;simp only at e1 e3;subst e1;refine bF (λhc=>?_) λhc=>ay ?_
  rotate_left
  .have hc:¬ (q':Int)<ss.length:=by simpa using hc
   have:q'=ss.length:=by omega
   subst this;exact e3
  have hc:(q':Int)<ss.length:=by simpa using hc
  have hin:=ak.2 (show 0<=(q':Int)/\(q':Int)<ss.length from ⟨by omega,hc⟩);have hx:=hw _ (kV jZ (by omega) hc);simp only[Q1]at hx;generalize hxe:ss.getD q' jZ=x at hx;cases n with
  |zero=>exact hx.elim
  |succ n=>
   have hm:=Pj (V (n+1)) (show q'<10 by omega);have hV:V (n+1)=1+20*V n:=rfl;have ht:x.then'.length*V n<=10*V n:=Zs _ hx.2.2.2.1.1
   have hel:x.else'.length*V n<=10*V n:=Zs _ hx.2.2.2.1.2
   refine aY hin (aX (λy=>y.length<=acc.length+1) ?_ λy hy=>aY hin (aX (λz=>z.length<=y.length+10*V n) ?_ λz hz=>aY hin (aX (λw=>w.length<=z.length+10*V n) ?_ λw hw=>ay ⟨⟨q'+1,?_,by omega,?_⟩,?_⟩)))
   .exact bF (λ_=>aY hin (aY (by unfold bP;simp;omega) (ay (by simp)))) λ_=>ay (by simp)
   .simp only[Q1,hxe];exact jA (Hg n k (by omega) _ hx.2.2.2.1.1 hx.2.2.2.2.1 _ (by omega)) λz hz=>by omega
   .simp only[Q1,hxe];exact jA (Hg n k (by omega) _ hx.2.2.2.1.2 hx.2.2.2.2.2 _ (by omega)) λz hz=>by omega
   .show cu ((q':Int)+1)=_;rw[aI (by omega)];rfl
   .show w.length<=_;omega
   .show ((ss.length:Int)-cu ((q':Int)+1)).toNat<((ss.length:Int)-q').toNat;rw[aI (by omega)];omega
theorem Pm{m h:Nat}:∀n k:Nat,n+1<=k->∀ss:List eP,ss.length<=10->(∀s∈ss,WS m h n s)->Ok (ai5 k ss) λ_=>True
 |_,0,hk,_,_,_=>by omega
 |n,k+1,hk,ss,hs,hw=>by
  show Ok (ai4 (ai5 k) ss) _;unfold ai4;refine aX (λ_=>True) ?_ λ_ _=>ay trivial;refine bf (λs:Int×Int=>0<=s.2/\s.2<=ss.length) (λs=>(ss.length-s.2).toNat) ⟨by simp,by simp⟩ λ⟨z,q⟩ ⟨h1,h2⟩=>bF (λhc=>?_) λ_=>ay trivial;have hc:q<ss.length:=by simpa using hc
  simp only at h1 h2;have hx:=hw _ (kV jZ h1 hc);cases n with
  |zero=>exact hx.elim
  |succ n=>
   refine aY (ak.2 ⟨h1,hc⟩) (aX _ (Pm n k (by omega) _ hx.2.2.2.1.1 hx.2.2.2.2.1) λ_ _=>aY (ak.2 ⟨h1,hc⟩) (aX _ (Pm n k (by omega) _ hx.2.2.2.1.2 hx.2.2.2.2.2) λ_ _=>ay ⟨⟨?_,?_⟩,?_⟩))
   all_goals simp only[aI (x:=q+1) (by omega)];omega
section
variable {g:List aU} {fs:List aA}
def PR(n m:Nat)(g:List aU)(fs:List aA)(lo:List (List UInt8))(y:List aU×List aA×Int×Int×List eP×List (List UInt8)):Prop:=∃a b ss lo',y=(g,fs,a,b,ss,lo')/\ss.length=m/\(∀s∈ss,WS 4 4 n s)/\lo'.length<=lo.length+m*V n
theorem Eo(hg:g.length<=1000000)(hf:fs.length<=1000000):∀n k:Nat,n+1<=k->∀ss:List eP,ss.length<=10->(∀s∈ss,WS 3 3 n s)->∀a b lo,lo.length+10*V n<=1000000->Ok (ajo k ss g fs a b lo) (PR n ss.length g fs lo)
 |_,0,hk,_,_,_,_,_,_,_=>by omega
 |n,k+1,hk,ss,hs,hw,a,b,lo,hl=>by
  show Ok (ajm (ajo k) ss g fs a b lo) _;unfold ajm;refine aX (PR n ss.length g fs lo) ?_ λy ⟨a,b,ss,lo,e,h⟩=>by subst e;exact ay ⟨a,b,ss,lo,rfl,h⟩
  refine bf (λs:Int×List aU×List aA×Int×Int×List eP×List (List UInt8)=>∃q:Nat,∃a b rs lo',s=((q:Int),g,fs,a,b,rs,lo')/\q<=ss.length/\rs.length=q/\(∀s∈rs,WS 4 4 n s)/\lo'.length<=lo.length+q*V n) (λs=>(ss.length-s.1).toNat)
   ⟨0,a,b,[],lo,rfl,by omega,rfl,λs h=>(by cases h),by simp⟩ λs ⟨q,a,b,rs,lo',e,e1,e2,e3,e4⟩=>?_
  subst e;refine bF (λhc=>?_) λhc=>ay ?_
  rotate_left
  .have hc:¬ (q:Int)<ss.length:=by simpa using hc
   have:q=ss.length:=by omega
   subst this;exact⟨a,b,rs,lo',rfl,e2,e3,e4⟩
  have hc:(q:Int)<ss.length:=by simpa using hc
  have hin:=ak.2 (show 0<=(q:Int)/\(q:Int)<ss.length from ⟨by omega,hc⟩);have hx:=hw _ (kV jZ (by omega) hc);obtain⟨x,hxe⟩ :∃x,ss.getD (q:Int).toNat jZ=x:=⟨_,rfl⟩;rw[hxe]at hx;simp only[hxe];cases n with
  |zero=>exact hx.elim
  |succ n=>
   have hm:=Pj (V (n+1)) (show q<10 by omega);have hV:V (n+1)=1+20*V n:=rfl;have ht:x.then'.length*V n<=10*V n:=Zs _ hx.2.2.2.1.1
   have hel:x.else'.length*V n<=10*V n:=Zs _ hx.2.2.2.1.2
   obtain⟨x1,x2,x3,⟨x4,x5⟩,x6,x7⟩:=hx;have hSc:Sc g fs lo':=⟨hg,hf,by omega⟩;refine aY hin (aX (λy=>∃a b ar,y=(g,fs,a,b,ar)/\ar.length=x.exprs.length/\∀z∈ar,WE 4 4 z) ?_ λy ⟨a,b,ar,e,f1,f2⟩=>?_)
   .refine bf (λs:Int×List aU×List aA×Int×Int×List bK=>∃a b ar,s=((ar.length:Int),g,fs,a,b,ar)/\ar.length<=x.exprs.length/\∀z∈ar,WE 4 4 z) (λs=>(x.exprs.length-s.1).toNat) ⟨a,b,[],rfl,by simp,λz h=>by cases h⟩ λs ⟨a,b,ar,e,f1,f2⟩=>?_;subst e;refine bF (λhc=>?_) λhc=>ay ⟨a,b,ar,rfl,?_,f2⟩
    rotate_left
    .have hc:¬ (ar.length:Int)<x.exprs.length:=by simpa using hc
     omega
    have hc:(ar.length:Int)<x.exprs.length:=by simpa using hc
    have hin:=ak.2 (show 0<=(ar.length:Int)/\(ar.length:Int)<x.exprs.length from ⟨by omega,hc⟩);have hz:=x3 _ (kV iG (by omega) hc);refine aY hin (aX _ (Na (by omega) 3 1048576 (by omega) _ hz) λ_ _=>aX (λy=>∃a b,y=(g,fs,a,b)) ?_ λy ⟨a,b,e⟩=>?_)
    .exact bF (λ_=>aY hin (qC λ_ _=>ay ⟨_,_,rfl⟩)) λ_=>ay ⟨_,_,rfl⟩
    subst e;refine aY hin (aX _ (M_ hSc 3 1048576 (by omega) _ hz a b) λy ⟨k,o,v,i,nm,a,b,ar',e,hr⟩=>?_);subst e;refine aY (by unfold bP;simp;omega) (ay ⟨⟨a,b,ar++[bK.mk k o v i nm ar'],?_,by simp;omega,λz h=>?_⟩,?_⟩)
    .simp only[aI (x:=(ar.length:Int)+1) (by omega)];simp
    .rcases QQ.1 h with h|h
     .exact f2 z h
     .rw [Q6]at h;subst h;exact hr
    .simp only[aI (x:=(ar.length:Int)+1) (by omega)];omega
   subst e;refine Ph hSc λw _=>aX (λy=>∃a b lo2,y=(g,fs,a,b,lo2)/\lo2.length<=lo'.length+1) ?_ λy ⟨a,b,lo2,e,f3⟩=>?_
   .refine bF (λ_=>aX (λy=>∃a b,y=(g,fs,a,b)) ?_ λy ⟨a,b,e⟩=>by subst e;exact aY (by unfold bP;simp;omega) (ay ⟨_,_,_,rfl,by simp⟩)) λ_=>aX (λ_=>True) ?_ λu _=>aX (λy=>∃a b,y=(g,fs,a,b)) ?_ λy ⟨a,b,e⟩=>by subst e;exact ay ⟨_,_,_,rfl,by simp⟩
    .exact bF (λ_=>qC λ_ _=>ay ⟨_,_,rfl⟩) λ_=>ay ⟨_,_,rfl⟩
    .exact bF (λ_=>ay trivial) λ_=>ay trivial
    .refine bF (λ_=>aX (λy=>∃a b,y=(g,fs,a,b)) ?_ λy ⟨a,b,e⟩=>by subst e;exact ay ⟨_,_,rfl⟩) λ_=>ay ⟨_,_,rfl⟩;refine bF (λ_=>qC λ_ _=>ay ⟨_,_,rfl⟩) λ_=>aX (λ_=>True) ?_ λu _=>aX (λy=>∃a b,y=(g,fs,a,b)) ?_ λy ⟨a,b,e⟩=>by subst e;exact ay ⟨_,_,rfl⟩
     .exact bF (λ_=>bF (λ_=>bF (λ_=>ay trivial) λ_=>bF (λ_=>ay trivial) λ_=>ay trivial) λ_=>bF (λ_=>ay trivial) λ_=>ay trivial) λ_=>bF (λ_=>ay trivial) λ_=>ay trivial
     .exact bF (λ_=>qC λ_ _=>ay ⟨_,_,rfl⟩) λ_=>ay ⟨_,_,rfl⟩
   subst e;refine aX _ (Eo hg hf n k (by omega) _ x4 x6 a b lo2 (by omega)) λy ⟨a,b,s1,lo3,e,c1,c2,c3⟩=>?_;subst e;refine aX _ (Eo hg hf n k (by omega) _ x5 x7 a b lo3 (by omega)) λy ⟨a,b,s2,lo4,e,d1,d2,d3⟩=>?_;subst e;refine aY (by unfold bP;simp;omega) (ay ⟨⟨q+1,a,b,rs++[eP.mk x.kind x.line x.name ar s1 s2],lo4,?_,by omega,?_,λs h=>?_,by omega⟩,?_⟩)
   .show (cu ((q:Int)+1),_)=_;rw[aI (by omega)];rfl
   .simp;exact e2
   .rcases QQ.1 h with h|h
    .exact e3 s h
    .rw [Q6]at h;subst h;exact⟨by simp only;omega,λh=>by have:=x2 h;simp only;omega,f2,⟨by simp only;omega,by simp only;omega⟩,c2,d2⟩
   .show ((ss.length:Int)-cu ((q:Int)+1)).toNat<((ss.length:Int)-q).toNat;rw[aI (by omega)];omega
end
theorem wo{m h:Nat}:Src m h [] []:=⟨by simp,by simp,λf h=>(by cases h),λf h=>by cases h⟩
theorem VL{g:List aU}{fs:List aA}(h:Src 3 3 g fs):Ok (f54 g fs) λy=>Src 4 4 y.2.2.1 y.2.2.2:=by
 have hg:=h.g;have hf:=h.f;unfold f54;refine aX (λ_=>True) ?_ λs5 _=>bF (λ_=>ay wo) λ_=>?_
 .exact bF (λ_=>ay trivial) λ_=>ay trivial
 refine aX (λ_=>True) ?_ λs5 _=>bF (λ_=>ay wo) λ_=>?_
 .refine bF (λ_=>ay trivial) λhc=>?_;have hin:inB (0:Int) fs.length=true:=ak.2 ⟨by omega,by simp at hc;cases fs with
   |nil=>exact absurd rfl hc
   |cons a l=>simp⟩
  exact aY hin (bF (λ_=>ay trivial) λ_=>aY hin (ay trivial))
 refine qF (λ_=>True) (oC g.length (by omega) (λi h0 h1=>goT (Wc h1) (aY (ak.2 ⟨h0,h1⟩) (aX _ (vZ (by omega)) λ_ _=>bF (λ_=>ay wo) λ_=>ay rfl))) (yR (Vn (by omega)) (ay trivial))) λ_ _=>?_;refine qF (λ_=>True) (oC fs.length (by omega) (λi h0 h1=>goT (Wc h1) (aX (λ_=>True) ?_ λs _=>bF (λ_=>aY (ak.2 ⟨h0,h1⟩) (ay wo)) λ_=>ay rfl)) (yR (Vn (by omega)) (ay trivial))) λ_ _=>?_
 .exact aY (ak.2 ⟨h0,h1⟩) (aX _ (vZ (by omega)) λ_ _=>bF (λ_=>ay trivial) λ_=>aY (ak.2 ⟨h0,h1⟩) (aX _ (Hf (by omega)) λ_ _=>ay trivial))
 refine aY (by unfold bP;simp;omega) (qF (λrs=>rs.length<=100/\(∀f∈rs,f.params.length<=2)/\∀f∈rs,f.body.length<=10/\∀s∈f.body,WS 4 4 3 s) ?_ λrs ⟨r1,r2,r3⟩=>ay ⟨by simpa using hg,r1,r2,r3⟩);refine bf (λs:Int×List aA=>(0<=s.1/\s.1<=fs.length)/\(s.2.length:Int)=s.1/\(∀f∈s.2,f.params.length<=2)/\∀f∈s.2,f.body.length<=10/\∀s∈f.body,WS 4 4 3 s) (λs=>(fs.length-s.1).toNat) ⟨⟨by simp,by simp⟩,rfl,λf h=>(by cases h),λf h=>by cases h⟩ λ⟨q,rs⟩ ⟨⟨e1,e2⟩,e3,e4,e5⟩=>?_;simp only at e1 e2 e3 e4 e5;refine bF (λhc=>?_) λ_=>ay ⟨by simp only;omega,e4,e5⟩;have hc:q<fs.length:=by simpa using hc
 have hx:=kV gW e1 hc;have hp:=h.ps _ hx;obtain⟨hb,hw⟩:=h.ws _ hx;obtain⟨f,hfe⟩ :∃f,fs.getD q.toNat gW=f:=⟨_,rfl⟩;rw[hfe]at hx hp hb hw;simp only[hfe];have hcap:(true&&decide ((List.length jY+f.params.length)*16<=140737488355328))=true:=by simp;omega
 refine aY (ak.2 ⟨e1,hc⟩) (aX (λ_=>True) ?_ λ_ _=>bF (λ_=>ay wo) λ_=>qF (λ_=>True) (oC f.params.length (by omega) (λi h0 h1=>goT (Wc h1) (aX (λ_=>True) ?_ λs _=>bF (λ_=>ay wo) λ_=>ay rfl)) (yR (Vn (by omega)) (ay trivial))) λ_ _=>?_)
 .refine bF (λ_=>ay trivial) λ_=>aX (λ_=>True) ?_ λ_ _=>bF (λ_=>ay trivial) λ_=>aX _ (Pm 3 1048576 (by omega) _ hb hw) λ_ _=>ay trivial;unfold f48;exact aY hcap (aX _ (Hg 3 1048576 (by omega) _ hb hw _ (by simp[V];omega)) λ_ _=>ay trivial)
 .exact aY (CG.2 ⟨⟨by omega,h0⟩,by omega⟩) (aY (ak.2 ⟨h0,h1⟩) (aX _ (adn (by simp;omega)) λ_ _=>bF (λ_=>ay trivial) λ_=>aY (ak.2 ⟨h0,h1⟩) (aX _ (Tc (by omega) (by omega)) λ_ _=>ay trivial)))
 .refine aY hcap (aX _ (Eo (by omega) (by omega) 3 1048576 (by omega) _ hb hw 0 0 _ (by simp[V];omega)) λy ⟨a,b,ss,lo',e,c1,c2,c3⟩=>?_);subst e;refine bF (λ_=>ay wo) λ_=>aY hcap (aY (by unfold bP;simp;omega) (ay ⟨⟨?_,?_,λf hf=>?_,λf hf=>?_⟩,?_⟩))
  .simp only[aI (x:=q+1) (by omega)];omega
  .simp only[aI (x:=q+1) (by omega)];simp;omega
  .rcases QQ.1 hf with h|h
   .exact e4 f h
   .rw [Q6]at h;subst h;simpa using hp
  .rcases QQ.1 hf with h|h
   .exact e5 f h
   .rw [Q6]at h;subst h;exact⟨by simp only;omega,c2⟩
  .simp only[aI (x:=q+1) (by omega)];omega
structure Bd(k:Nat)(at':Int)(bl:List aH):Prop where
 at0:0<=at'
 TY:at'<bl.length
 len:bl.length<=k
 ins :∀b∈bl,b.instrs.length<=k/\∀i∈b.instrs,i.args.length<=10
theorem Bd.up{k k':Nat}{a:Int}{bl:List aH}(h:Bd k a bl)(hk:k<=k'):Bd k' a bl:=⟨h.at0,h.TY,J0 h.len hk,λb hb=>⟨J0 (h.ins b hb).1 hk,(h.ins b hb).2⟩⟩
section
variable {g:List aU} {fs:List aA} {lo:List (List UInt8)} {nu:Int}
theorem nD{β:Type}{k:Nat}{a a' re ln:Int}{bl:List aH}{f}{Q:β->Prop}(h:Bd k a bl)(hk:k<=1000000000)(c :∀iT,iT.length=bl.length+1->Bd (k+1) bl.length iT->Ok (f ((bl.length:Int),g,fs,lo,nu,re,(bl.length:Int),iT)) Q):
  Ok (Option.bind (f49 ln g fs lo nu re a' bl) f) Q:=by
 have hl:=h.len;refine aX (λy=>∃iT,y=((bl.length:Int),g,fs,lo,nu,re,(bl.length:Int),iT)/\iT.length=bl.length+1/\Bd (k+1) bl.length iT) (aY (by unfold bP;simp;omega) (ay ⟨bl++[_],rfl,by simp,⟨by omega,by simp;omega,by simp;omega,λb hb=>?_⟩⟩)) λy ⟨iT,e,h1,h2⟩=>by subst e;exact c iT h1 h2
 rcases QQ.1 hb with hb|hb
 .exact ⟨Nat.le_succ_of_le (h.ins b hb).1,(h.ins b hb).2⟩
 .rw [Q6]at hb;subst hb;exact⟨vb _,λi h=>by cases h⟩
theorem F9{β:Type}{k:Nat}{a re p0 p1 p2 p3 p4 p5:Int}{ar:List Int}{bl:List aH}{f}{Q:β->Prop}(h:Bd k a bl)(hk:k<=1000000000)(ha:ar.length<=10)(c :∀iT,iT.length=bl.length->Bd (k+1) a iT->Ok (f (g,fs,lo,nu,re,a,iT)) Q):
  Ok (Option.bind (f51 p0 p1 p2 p3 p4 p5 ar g fs lo nu re a bl) f) Q:=by
 have hl:=h.len;have hin:=ak.2 ⟨h.at0,h.TY⟩;have hx:=h.ins _ (kV aj h.at0 h.TY);refine aX (λy=>∃iT,y=(g,fs,lo,nu,re,a,iT)/\iT.length=bl.length/\Bd (k+1) a iT) ?_ λy ⟨iT,e,h1,h2⟩=>by subst e;exact c iT h1 h2
 unfold f51;refine aX (λy=>∃iT,y=(g,fs,lo,nu,re,a,iT)/\iT.length=bl.length/\Bd (k+1) a iT) ?_ λy ⟨iT,e,h1,h2⟩=>by subst e;exact aY (by simp[h1]) (ay ⟨iT,rfl,h1,h2⟩)
 refine aY hin (aY ?_ (aY hin (aY (by simp) (ay ⟨_,rfl,by simp,⟨h.at0,by rw[UX];exact h.TY,by rw[UX];omega,λb hb=>?_⟩⟩))))
 .show (true&&decide _)=true;simp only[Kd,XX,W3];omega
 .rcases vz hb with hb|hb
  .exact ⟨Nat.le_succ_of_le (h.ins b hb).1,(h.ins b hb).2⟩
  .subst hb;refine⟨by rw[Z0,W3];omega,λi hi=>?_⟩;rcases QQ.1 hi with hi|hi
   .exact hx.2 i hi
   .rw [Q6]at hi;subst hi;exact ha
theorem qE{β:Type}{k:Nat}{a re p0 p1 p2 p3 p4:Int}{bl:List aH}{f}{Q:β->Prop}(h:Bd k a bl)(h0:0<=p0)(h1:p0<bl.length)(c :∀iT,iT.length=bl.length->Bd k a iT->Ok (f (g,fs,lo,nu,re,a,iT)) Q):
  Ok (Option.bind (f52 p0 p1 p2 p3 p4 g fs lo nu re a bl) f) Q:=by
 have hx:=h.ins _ (kV aj h0 h1);refine aX (λy=>∃iT,y=(g,fs,lo,nu,re,a,iT)/\iT.length=bl.length/\Bd k a iT) ?_ λy ⟨iT,e,h1,h2⟩=>by subst e;exact c iT h1 h2
 unfold f52;refine aX (λy=>∃iT,y=(g,fs,lo,nu,re,a,iT)/\iT.length=bl.length/\Bd k a iT) ?_ λy ⟨iT,e,h1,h2⟩=>by subst e;exact aY (by simp[h1]) (ay ⟨iT,rfl,h1,h2⟩)
 refine aY (ak.2 ⟨h0,h1⟩) (ay ⟨_,rfl,by simp,⟨h.at0,by rw[UX];exact h.TY,by rw[UX];exact h.len,λb hb=>?_⟩⟩);rcases vz hb with hb|hb
 .exact h.ins b hb
 .subst hb;exact hx
theorem X8{β:Type}{nm:List UInt8}{re a:Int}{bl:List aH}{f}{Q:β->Prop}(hl:lo.length<=1000000)(c :∀q,Ok (f (q,g,fs,lo,nu,re,a,bl)) Q):Ok (Option.bind (f86 nm g fs lo nu re a bl) f) Q:=by
 refine aX (λy=>∃q,y=(q,g,fs,lo,nu,re,a,bl)) ?_ λy ⟨q,e⟩=>by subst e;exact c q
 refine aX (λy=>∃q,y=(q,g,fs,lo,nu,re,a,bl)) ?_ λy ⟨q,e⟩=>by subst e;exact goK rfl (ay ⟨q,rfl⟩)
 unfold ai8;refine aX (λy=>∃q,y=(q,g,fs,lo,nu,re,a,bl)) ?_ λy ⟨q,e⟩=>by subst e;exact aY (by simp) (ay ⟨q,rfl⟩)
 exact qF (λ_=>True) (oC lo.length (by omega) (λi h0 h1=>goT (Wc h1) (aY (ak.2 ⟨h0,h1⟩) (bF (λ_=>ay ⟨_,rfl⟩) λ_=>ay rfl))) (yR (Vn (by omega)) (ay trivial))) λ_ _=>ay ⟨_,rfl⟩
def PV(k m:Nat)(g:List aU)(fs:List aA)(lo:List (List UInt8))(nu:Int)(y:List aU×List aA×List (List UInt8)×Int×Int×Int×List aH):Prop:=∃re a bl,y=(g,fs,lo,nu,re,a,bl)/\m<=bl.length/\Bd k a bl
def CX:Nat->Nat
 |0=>0
 |n+1=>4*CX n+6
theorem goV{β:Type}{rec:T85}{c:Nat}{x:bK}{t a re:Int}{k:Nat}{bl:List aH}{f}{Q:β->Prop}(hr :∀t re a bl k,Bd k a bl->k+c<=1000000000->Ok (rec x.kind x.op x.value x.line x.name x.args t g fs lo nu re a bl) (PV (k+c) bl.length g fs lo nu))
  (h:Bd k a bl) (hk:k+c<=1000000000) (q :∀re' a' iT,bl.length<=iT.length->Bd (k+c) a' iT->Ok (f (g,fs,lo,nu,re',a',iT)) Q):Ok (Option.bind (rec x.kind x.op x.value x.line x.name x.args t g fs lo nu re a bl) f) Q:=
 aX _ (hr t re a bl k h hk) λy ⟨re',a',iT,e,h1,h2⟩=>by subst e;exact q re' a' iT h1 h2
theorem ZR{rec:T85}{rec':T97}{uw:T98}{n:Nat}{p0 p1 p2 p3 t re a:Int}{p4:List UInt8}{ar:List bK}(har:2<=ar.length/\ar.length<=4)
  (hr :∀x∈ar,∀t re a bl k,Bd k a bl->k+CX n<=1000000000->Ok (rec x.kind x.op x.value x.line x.name x.args t g fs lo nu re a bl) (PV (k+CX n) bl.length g fs lo nu))
  {bl:List aH} {k:Nat} (h:Bd k a bl) (hk:k+CX (n+1)<=1000000000):Ok (afD rec rec' uw p0 p1 p2 p3 p4 ar t g fs lo nu re a bl) (PV (k+CX (n+1)) bl.length g fs lo nu):=by
 have hc:CX (n+1)=4*CX n+6:=rfl;have m0:ar.getD (Int.toNat 0) iG∈ar:=kV iG (by omega) (by omega);have m1:ar.getD (Int.toNat 1) iG∈ar:=kV iG (by omega) (by omega);unfold afD;refine aY (ak.2 ⟨by omega,by omega⟩) (goV (hr _ m0) h (by omega) λre1 a1 b1 l1 h1=>nD h1 (by omega) λb2 l2 h2=>aY (ak.2 ⟨by omega,by omega⟩) (goV (hr _ m1) h2 (by omega) λre3 a3 b3 l3 h3=>nD h3 (by omega) λb4 l4 h4=>F9 h4 (by omega) (by simp) λb5 l5 h5=>nD h5 (by omega) λb6 l6 h6=>F9 h6 (by omega) (by simp) λb7 l7 h7=>nD h7 (by omega) λb8 l8 h8=>?_));simp only at l1 l2 l3 l4 l5 l6 l7 l8;refine qE h8 h3.at0 (by have:=h3.TY;simp only;omega) λb9 l9 h9=>aX (λy=>∃iT,y=(g,fs,lo,nu,re3,(b7.length:Int),iT)/\iT.length=b9.length/\Bd (k+CX n+1+CX n+1+1+1+1+1) b7.length iT) ?_ λy ⟨b10,e,l10,h10⟩=>?_
 .exact bF (λ_=>qE h9 h1.at0 (by have:=h1.TY;simp only at l9 ⊢;omega) λb l h=>ay ⟨b,rfl,l,h⟩) λ_=>qE h9 h1.at0 (by have:=h1.TY;simp only at l9 ⊢;omega) λb l h=>ay ⟨b,rfl,l,h⟩
 subst e;simp only at l9;exact qE h10 (by simp only;omega) (by simp only;omega) λb11 l11 h11=>qE h11 (by simp only;omega) (by simp only at l11 ⊢;omega) λb12 l12 h12=>ay ⟨_,_,b12,rfl,by simp only at l11 l12;omega,h12.up (by omega)⟩
theorem Td{rec:T85}{rec':T97}{uw:T98}{n:Nat}{t re a:Int}{ar:List bK}(har:ar.length<=4)
  (hr :∀x∈ar,∀t re a bl k,Bd k a bl->k+CX n<=1000000000->Ok (rec x.kind x.op x.value x.line x.name x.args t g fs lo nu re a bl) (PV (k+CX n) bl.length g fs lo nu))
  {bl:List aH} {k:Nat} (h:Bd k a bl) (hk:k+4*CX n<=1000000000):Ok (afE rec rec' uw ar t g fs lo nu re a bl) λy=>∃re a rs iT,y=(g,fs,lo,nu,re,a,rs,iT)/\rs.length=ar.length/\bl.length<=iT.length/\Bd (k+4*CX n) a iT:=by
 unfold afE;refine aX (λy=>∃re a rs iT,y=(g,fs,lo,nu,re,a,rs,iT)/\rs.length=ar.length/\bl.length<=iT.length/\Bd (k+4*CX n) a iT) ?_ λy ⟨re,a,rs,iT,e,h⟩=>by subst e;exact ay ⟨re,a,rs,iT,rfl,h⟩
 refine bf (λs:Int×List aU×List aA×List (List UInt8)×Int×Int×Int×List Int×List aH=>∃q:Nat,∃re a rs iT,s=((q:Int),g,fs,lo,nu,re,a,rs,iT)/\rs.length=q/\q<=ar.length/\bl.length<=iT.length/\Bd (k+q*CX n) a iT) (λs=>(ar.length-s.1).toNat)
  ⟨0,re,a,[],bl,rfl,rfl,by omega,ZD _,h.up (by omega)⟩ λs ⟨q,re,a,rs,iT,e,h1,h2,h3,h4⟩=>?_
 subst e;refine bF (λhc=>?_) λhc=>ay ⟨re,a,rs,iT,rfl,?_,h3,h4.up (Nat.add_le_add_left (Zs _ (by omega)) _)⟩
 rotate_left
 .have hc:¬ (q:Int)<ar.length:=by simpa using hc
  omega
 have hc:(q:Int)<ar.length:=by simpa using hc
 have hm:=Pj (CX n) (show q<4 by omega);refine aY (ak.2 ⟨by simp only;omega,hc⟩) (goV (hr _ (kV iG (by omega) hc)) h4 (by omega) λre' a' bl2 l2 h5=>aY (by unfold bP;simp;omega) (ay ⟨⟨q+1,re',a',rs++[cu (t+q)],bl2,?_,?_,by omega,by simp only at l2;omega,?_⟩,?_⟩))
 .show (cu ((q:Int)+1),_)=_;rw[aI (by omega)];rfl
 .simp [h1]
 .exact h5.up (by omega)
 .show ((ar.length:Int)-cu ((q:Int)+1)).toNat<((ar.length:Int)-q).toNat;rw[aI (by omega)];omega
theorem sJ{k m:Nat}{x:Option (List aU×List aA×List (List UInt8)×Int×Int×Int×List aH)}(h:Ok x (PV k m g fs lo nu)):Ok (Option.bind x λs=>some (s.1,s.2.1,s.2.2.1,s.2.2.2.1,s.2.2.2.2.1,s.2.2.2.2.2.1,s.2.2.2.2.2.2)) (PV k m g fs lo nu):=aX _ h λy ⟨re,a,bl,e,h⟩=>by subst e;exact ay ⟨re,a,bl,rfl,h⟩
theorem VN{rec:T85}{rec':T97}{uw:T98}{n:Nat}(hS:Sc g fs lo){x:bK}(hx:WE 4 (n+1) x){t re a:Int}{bl:List aH}{k:Nat}(h:Bd k a bl)(hk:k+CX (n+1)<=1000000000)
  (hl:2<=x.args.length->∀re,Ok (rec' x.kind x.op x.value x.line x.name x.args t g fs lo nu re a bl) (PV (k+CX (n+1)) bl.length g fs lo nu))
  (hv :∀re,Ok (uw x.args t g fs lo nu re a bl) λy=>∃re a rs iT,y=(g,fs,lo,nu,re,a,rs,iT)/\rs.length=x.args.length/\bl.length<=iT.length/\Bd (k+4*CX n) a iT) :
  Ok (afB rec rec' uw x.kind x.op x.value x.line x.name x.args t g fs lo nu re a bl) (PV (k+CX (n+1)) bl.length g fs lo nu):=by
 have hc:CX (n+1)=4*CX n+6:=rfl;obtain⟨w1,w2,w3,w4⟩:=hx;unfold afB;refine aX (λs=>s=true->x.kind=7\/x.kind=8) ?_ λs hs=>bF (λe=>sJ (hl (w2 (hs e)) _)) λ_=>aX _ (hv _) λy ⟨re,a,rs,iT,e,l1,l2,h'⟩=>?_
 .exact bF (λe=>ay λ_=>.inl (by simpa using e)) λ_=>ay λe=>.inr (by simpa using e)
 subst e;have put :∀{p0 p1 p2 p3 p4 p5:Int} {ar:List Int},ar.length<=10->Ok (f51 p0 p1 p2 p3 p4 p5 ar g fs lo nu re a iT) (PV (k+CX (n+1)) bl.length g fs lo nu):=λ{p0 p1 p2 p3 p4 p5 ar} har=>by
  have:=F9 (g:=g) (fs:=fs) (lo:=lo) (nu:=nu) (re:=re) (p0:=p0) (p1:=p1) (p2:=p2) (p3:=p3) (p4:=p4) (p5:=p5) (ar:=ar) (f:=some) (Q:=PV (k+CX (n+1)) bl.length g fs lo nu) h' (by omega) har λb l h=>ay ⟨re,a,b,rfl,by omega,h.up (by omega)⟩
  rwa [show∀z:Option (List aU×List aA×List (List UInt8)×Int×Int×Int×List aH),Option.bind z some=z from λz=>by cases z<;>rfl]at this
 refine sJ (bF (λ_=>sJ (put (by simp))) λ_=>sJ (bF (λ_=>X8 hS.lo λq=>sJ (put (by simp))) λ_=>sJ (bF (λ_=>aX _ (vZ hS.g) λ_ _=>sJ (put (by simp))) λ_=>sJ (bF (λ_=>aX _ (vZ hS.g) λ_ _=>sJ (put (by simp))) λ_=>sJ (bF (λ_=>sJ (put (by simp))) λ_=>sJ (bF (λ_=>sJ (put (by simp))) λ_=>sJ (bF (λ_=>aX _ (Hf hS.f) λ_ _=>sJ (put (by simp only;omega))) λ_=>sJ (bF (λe=>?_) λ_=>sJ (bF (λ_=>aX _ (Hf hS.f) λ_ _=>sJ (put (by simp))) λ_=>sJ (bF (λ_=>sJ (put (by simp))) λ_=>ay ⟨re,a,iT,rfl,l2,h'.up (by omega)⟩))))))))))
 have:=w3 (by simpa using e);exact aY (CG.2 ⟨⟨by omega,by simp only;omega⟩,by simp only;omega⟩) (sJ (put (by simp;omega)))
theorem ads(n:Nat):(jm (n+1)).1=afB (acu n) (ajd n) (aje n):=rfl
theorem adt(n:Nat):(jm (n+1)).2.1=afD (acu n) (ajd n) (aje n):=rfl
theorem adu(n:Nat):(jm (n+1)).2.2=afE (acu n) (ajd n) (aje n):=rfl
theorem X9(hS:Sc g fs lo):∀n k:Nat,2*n<=k->∀x,WE 4 n x->∀t re a bl q,Bd q a bl->q+CX n<=1000000000->Ok (acu k x.kind x.op x.value x.line x.name x.args t g fs lo nu re a bl) (PV (q+CX n) bl.length g fs lo nu)
 |0,_,_=>λ_ h=>h.elim
 |n+1,0,hk=>by omega
 |n+1,1,hk=>by omega
 |n+1,k+2,hk=>λx hx t re a bl q hb hq=>by
  have ih:=X9 hS n k (by omega);have hc:CX (n+1)=4*CX n+6:=rfl;show Ok ((jm (k+2)).1 x.kind x.op x.value x.line x.name x.args t g fs lo nu re a bl) _;rw[ads];refine VN hS hx hb hq (λh2 re=>?_) λre=>?_
  .show Ok ((jm (k+1)).2.1 x.kind x.op x.value x.line x.name x.args t g fs lo nu re a bl) _;rw[adt];exact ZR ⟨h2,hx.1⟩ (λz hz=>ih z (hx.2.2.2 z hz)) hb hq
  .show Ok ((jm (k+1)).2.2 x.args t g fs lo nu re a bl) _;rw[adu];exact Td hx.1 (λz hz=>ih z (hx.2.2.2 z hz)) hb (by omega)
end
def CS:Nat->Nat
 |0=>0
 |n+1=>20*CS n+1030
section
variable {g:List aU} {fs:List aA} {lo:List (List UInt8)} {nu:Int}
def PW(k m:Nat)(g:List aU)(fs:List aA)(lo:List (List UInt8))(nu:Int)(y:Bool×List aU×List aA×List (List UInt8)×Int×Int×Int×List aH):Prop:=∃t re a bl,y=(t,g,fs,lo,nu,re,a,bl)/\m<=bl.length/\Bd k a bl
theorem anh{β:Type}{x:bK}{t a re:Int}{k:Nat}{bl:List aH}{f}{Q:β->Prop}(hS:Sc g fs lo)(hx:WE 4 4 x)(h:Bd k a bl)(hk:k+510<=1000000000)(q :∀re' a' iT,bl.length<=iT.length->Bd (k+510) a' iT->Ok (f (g,fs,lo,nu,re',a',iT)) Q):
  Ok (Option.bind (f85 x.kind x.op x.value x.line x.name x.args t g fs lo nu re a bl) f) Q:=
 goV (rec:=f85) (c:=510) (λt re a bl k h hk=>X9 hS 4 1048576 (by omega) x hx t re a bl k h hk) h hk q
theorem ajH{β:Type}{rec:T50}{c:Nat}{ss:List eP}{a re:Int}{k:Nat}{bl:List aH}{f}{Q:β->Prop}(hr :∀re a bl k,Bd k a bl->k+c<=1000000000->Ok (rec ss g fs lo nu re a bl) (PW (k+c) bl.length g fs lo nu))
  (h:Bd k a bl) (hk:k+c<=1000000000) (q :∀t re' a' iT,bl.length<=iT.length->Bd (k+c) a' iT->Ok (f (t,g,fs,lo,nu,re',a',iT)) Q):Ok (Option.bind (rec ss g fs lo nu re a bl) f) Q:=
 aX _ (hr re a bl k h hk) λy ⟨t,re',a',iT,e,h1,h2⟩=>by subst e;exact q t re' a' iT h1 h2
theorem VO{rec:T50}{rec':T69}{Tf:T84}{Ti:T87}{c:Nat}{p0 p1 t re a:Int}{nm:List UInt8}{es:List bK}{th el:List eP}(hS:Sc g fs lo)(he:1<=es.length)(hw :∀x∈es,WE 4 4 x)
  (hr :∀re a bl k,Bd k a bl->k+c<=1000000000->Ok (rec th g fs lo nu re a bl) (PW (k+c) bl.length g fs lo nu)) {bl:List aH} {k:Nat} (h:Bd k a bl) (hk:k+c+520<=1000000000) :
  Ok (afR rec rec' Tf Ti p0 p1 nm es th el t g fs lo nu re a bl) (PV (k+c+520) bl.length g fs lo nu):=by
 have m0:es.getD (Int.toNat 0) iG∈es:=kV iG (by omega) (by omega);have ha:=h.TY;have ha0:=h.at0;unfold afR;refine nD h (by omega) λb1 l1 h1=>qE h1 ha0 (by simp only;omega) λb2 l2 h2=>aY (ak.2 ⟨by omega,by omega⟩) (anh hS (hw _ m0) h2 (by omega) λre3 a3 b3 l3 h3=>nD h3 (by omega) λb4 l4 h4=>ajH hr h4 (by omega) λu re5 a5 b5 l5 h5=>?_);have e1:=h3.at0;have e2:=h3.TY;simp only at l2 l3 l4 l5;refine aX (λy=>∃iT,y=(g,fs,lo,nu,re5,a5,iT)/\iT.length=b5.length/\Bd (k+1+510+1+c) a5 iT) ?_ λy ⟨b6,e,l6,h6⟩=>?_
 .exact bF (λ_=>qE h5 h5.at0 h5.TY λb l h=>ay ⟨b,rfl,l,h⟩) λ_=>ay ⟨b5,rfl,rfl,h5⟩
 subst e;exact nD h6 (by omega) λb7 l7 h7=>qE h7 e1 (by simp only at l7 ⊢;omega) λb8 l8 h8=>ay ⟨_,_,b8,rfl,by simp only at l7 l8;omega,h8.up (by omega)⟩
theorem Tj{rec:T50}{rec':T69}{Tf:T84}{Ti:T87}{c:Nat}{p0 p1 t re a:Int}{nm:List UInt8}{es:List bK}{th el:List eP}
  (hr :∀re a bl k,Bd k a bl->k+c<=1000000000->Ok (rec th g fs lo nu re a bl) (PW (k+c) bl.length g fs lo nu)) (hr' :∀re a bl k,Bd k a bl->k+c<=1000000000->Ok (rec el g fs lo nu re a bl) (PW (k+c) bl.length g fs lo nu))
  {bl:List aH} {k:Nat} (h:Bd k a bl) (hk:k+c+c+3<=1000000000):Ok (afS rec rec' Tf Ti p0 p1 nm es th el t g fs lo nu re a bl) (PW (k+c+c+3) bl.length g fs lo nu):=by
 have ha:=h.TY;have ha0:=h.at0;unfold afS;refine nD h (by omega) λb1 l1 h1=>ajH hr h1 (by omega) λu re2 a2 b2 l2 h2=>?_;have e1:=h2.at0;have e2:=h2.TY;simp only at l1 l2;refine bF (λ_=>nD h2 (by omega) λb3 l3 h3=>qE h3 ha0 (by simp only at l3 ⊢;omega) λb4 l4 h4=>?_) λ_=>nD h2 (by omega) λb3 l3 h3=>qE h3 ha0 (by simp only at l3 ⊢;omega) λb4 l4 h4=>ajH hr' h4 (by omega) λu' re5 a5 b5 l5 h5=>?_
 .simp only at l3 l4;refine aX (PV (k+c+c+3) bl.length g fs lo nu) ?_ λy ⟨re,a,b,e,l,h⟩=>by subst e;exact ay ⟨true,re,a,b,rfl,l,h⟩
  exact bF (λ_=>qE h4 e1 (by simp only;omega) λb l h=>ay ⟨_,_,b,rfl,by simp only at l;omega,h.up (by omega)⟩) λ_=>ay ⟨_,_,b4,rfl,by omega,h4.up (by omega)⟩
 .have e3:=h5.at0;have e4:=h5.TY;simp only at l3 l4 l5;refine aX (λ_=>True) ?_ λs _=>bF (λ_=>ay ⟨false,_,_,b5,rfl,by omega,h5.up (by omega)⟩) λ_=>nD h5 (by omega) λb6 l6 h6=>?_
  .exact bF (λ_=>ay trivial) λ_=>ay trivial
  simp only at l6;refine aX (λy=>∃iT,y=(g,fs,lo,nu,re5,(b5.length:Int),iT)/\iT.length=b6.length/\Bd (k+1+c+1+c+1) b5.length iT) ?_ λy ⟨b7,e,l7,h7⟩=>?_
  .exact bF (λ_=>qE h6 e1 (by simp only;omega) λb l h=>ay ⟨b,rfl,l,h⟩) λ_=>ay ⟨b6,rfl,rfl,h6⟩
  subst e;refine aX (PV (k+c+c+3) bl.length g fs lo nu) ?_ λy ⟨re,a,b,e,l,h⟩=>by subst e;exact ay ⟨true,re,a,b,rfl,l,h⟩
  exact bF (λ_=>qE h7 e3 (by simp only;omega) λb l h=>ay ⟨_,_,b,rfl,by simp only at l;omega,h.up (by omega)⟩) λ_=>ay ⟨_,_,b7,rfl,by omega,h7.up (by omega)⟩
theorem VP{rec:T50}{rec':T69}{Tf:T84}{Ti:T87}{c:Nat}{x:eP}{re a:Int}(hS:Sc g fs lo)(he:x.exprs.length<=2)(hw :∀z∈x.exprs,WE 4 4 z){bl:List aH}{k:Nat}(h:Bd k a bl)(hk:k+c+1030<=1000000000)
  (h5:x.kind=5->∀t,Ok (Tf x.kind x.line x.name x.exprs x.then' x.else' t g fs lo nu re a bl) (PV (k+c+1030) bl.length g fs lo nu))
  (h4 :∀t re a b,bl.length<=b.length->Bd (k+1020) a b->Ok (Ti x.kind x.line x.name x.exprs x.then' x.else' t g fs lo nu re a b) (PW (k+c+1030) bl.length g fs lo nu)) :
  Ok (afQ rec rec' Tf Ti x.kind x.line x.name x.exprs x.then' x.else' g fs lo nu re a bl) (PW (k+c+1030) bl.length g fs lo nu):=by
 unfold afQ;refine bF (λe=>aX _ (h5 (by simpa using e) _) λy ⟨re,a,b,e,l,h⟩=>by subst e;exact ay ⟨true,re,a,b,rfl,l,h⟩) λ_=>aX (PV (k+1020) bl.length g fs lo nu) ?_ λy ⟨re,a,b,e,l,h⟩=>?_
 .refine bf (λs:Int×List aU×List aA×List (List UInt8)×Int×Int×Int×List aH=>∃q:Nat,∃re a b,s=((q:Int),g,fs,lo,nu,re,a,b)/\q<=x.exprs.length/\bl.length<=b.length/\Bd (k+q*510) a b) (λs=>(x.exprs.length-s.1).toNat)
   ⟨0,re,a,bl,rfl,by omega,ZD _,h.up (by omega)⟩ λs ⟨q,re,a,b,e,h1,h2,h3⟩=>?_
  subst e;refine bF (λhc=>?_) λ_=>ay ⟨re,a,b,rfl,h2,h3.up (by omega)⟩;have hc:(q:Int)<x.exprs.length:=by simpa using hc
  refine aY (ak.2 ⟨by simp only;omega,hc⟩) (anh hS (hw _ (kV iG (by omega) hc)) h3 (by omega) λre' a' b' l' h'=>ay ⟨⟨q+1,re',a',b',?_,by omega,by simp only at l';omega,h'.up (by omega)⟩,?_⟩)
  .show (cu ((q:Int)+1),_)=_;rw[aI (by omega)];rfl
  .show ((x.exprs.length:Int)-cu ((q:Int)+1)).toNat<((x.exprs.length:Int)-q).toNat;rw[aI (by omega)];omega
 subst e;have hq:=λ(re:Int) (b':List aH) (l':b'.length=b.length) (h':Bd (k+1020+1) a b')=>show PV (k+c+1030) bl.length g fs lo nu (g,fs,lo,nu,re,a,b') from ⟨re,a,b',rfl,by omega,h'.up (by omega)⟩
 have hk':k+1020<=1000000000:=by omega
 refine aX (λ_=>True) ?_ λ_ _=>qF (PV (k+c+1030) bl.length g fs lo nu) ?_ λy ⟨re,a,b,e,l,h⟩=>by subst e;exact ay ⟨true,re,a,b,rfl,l,h⟩
 .exact bF (λ_=>ay trivial) λ_=>ay trivial
 refine bF (λ_=>X8 hS.lo λq=>aX (PV (k+c+1030) bl.length g fs lo nu) ?_ λy ⟨re,a,b,e,l,h⟩=>by subst e;exact ay ⟨re,a,b,rfl,l,h⟩) λ_=>qF (PV (k+c+1030) bl.length g fs lo nu) ?_ λy ⟨re,a,b,e,l,h⟩=>by subst e;exact ay ⟨re,a,b,rfl,l,h⟩
 .exact bF (λ_=>F9 h hk' (by simp) λb' l' h'=>ay (hq _ b' l' h')) λ_=>aX _ (vZ hS.g) λ_ _=>F9 h hk' (by simp) λb' l' h'=>ay (hq _ b' l' h')
 refine bF (λ_=>aX _ (vZ hS.g) λ_ _=>F9 h hk' (by simp) λb' l' h'=>ay (hq _ b' l' h')) λ_=>?_;refine bF (λ_=>qE h h.at0 h.TY λb' l' h'=>ay ⟨false,_,_,b',rfl,by simp only at l';omega,h'.up (by omega)⟩) λ_=>qF (PV (k+c+1030) bl.length g fs lo nu) ?_ λy ⟨re,a,b,e,l,h⟩=>by subst e;exact ay ⟨re,a,b,rfl,l,h⟩
 exact bF (λ_=>F9 h hk' (by simp) λb' l' h'=>ay (hq _ b' l' h')) λ_=>bF (λ_=>aX _ (h4 _ re a b l h) λy ⟨t,re,a,b,e,l,h⟩=>by subst e;exact ay ⟨t,re,a,b,rfl,l,h⟩) λ_=>ay ⟨re,a,b,rfl,l,h.up (by omega)⟩
theorem Gf{rec:T50}{rec':T69}{Tf:T84}{Ti:T87}{c:Nat}{ss:List eP}(hs:ss.length<=10)
  (hr :∀x∈ss,∀re a bl k,Bd k a bl->k+c<=1000000000->Ok (rec' x.kind x.line x.name x.exprs x.then' x.else' g fs lo nu re a bl) (PW (k+c) bl.length g fs lo nu)) {re a:Int} {bl:List aH} {k:Nat} (h:Bd k a bl) (hk:k+10*c<=1000000000) :
  Ok (afP rec rec' Tf Ti ss g fs lo nu re a bl) (PW (k+10*c) bl.length g fs lo nu):=by
 unfold afP;refine qF (PV (k+10*c) bl.length g fs lo nu) ?_ λy ⟨re,a,b,e,l,h⟩=>by subst e;exact ay ⟨true,re,a,b,rfl,l,h⟩
 refine bf (λs:Int×List aU×List aA×List (List UInt8)×Int×Int×Int×List aH=>∃q:Nat,∃re a b,s=((q:Int),g,fs,lo,nu,re,a,b)/\q<=ss.length/\bl.length<=b.length/\Bd (k+q*c) a b) (λs=>(ss.length-s.1).toNat)
  ⟨0,re,a,bl,rfl,by omega,ZD _,h.up (by omega)⟩ λs ⟨q,re,a,b,e,h1,h2,h3⟩=>?_
 subst e;refine bF (λhc=>?_) λ_=>ay ⟨re,a,b,rfl,h2,h3.up (Nat.add_le_add_left (Zs _ (by omega)) _)⟩;have hc:(q:Int)<ss.length:=by simpa using hc
 have hm:=Pj c (show q<10 by omega);refine aY (ak.2 ⟨by simp only;omega,hc⟩) (aX _ (hr _ (kV jZ (by omega) hc) re a b _ h3 (by omega)) λy ⟨t,re',a',b',e,l',h'⟩=>?_);subst e;refine bF (λ_=>ay ⟨false,re',a',b',rfl,by omega,h'.up (by omega)⟩) λ_=>ay ⟨⟨q+1,re',a',b',?_,by omega,by omega,h'.up (by omega)⟩,?_⟩
 .show (cu ((q:Int)+1),_)=_;rw[aI (by omega)];rfl
 .show ((ss.length:Int)-cu ((q:Int)+1)).toNat<((ss.length:Int)-q).toNat;rw[aI (by omega)];omega
theorem Tn(n:Nat):(fH (n+1)).1=afP (ZB n) (afT n) (afU n) (afV n):=rfl
theorem adv(n:Nat):(fH (n+1)).2.1=afQ (ZB n) (afT n) (afU n) (afV n):=rfl
theorem adw(n:Nat):(fH (n+1)).2.2.1=afR (ZB n) (afT n) (afU n) (afV n):=rfl
theorem adx(n:Nat):(fH (n+1)).2.2.2=afS (ZB n) (afT n) (afU n) (afV n):=rfl
theorem X_(hS:Sc g fs lo):∀n k:Nat,3*n+1<=k->∀ss:List eP,ss.length<=10->(∀s∈ss,WS 4 4 n s)->∀re a bl q,Bd q a bl->q+10*CS n<=1000000000->Ok (ZB k ss g fs lo nu re a bl) (PW (q+10*CS n) bl.length g fs lo nu)
 |_,0,hk=>by omega
 |0,k+1,hk=>λss hs hw re a bl q hb hq=>by show Ok ((fH (k+1)).1 ss g fs lo nu re a bl) _;rw[Tn];exact Gf hs (λx hx=>(hw x hx).elim) hb hq
 |n+1,1,hk=>by omega
 |n+1,2,hk=>by omega
 |n+1,k+3,hk=>λss hs hw re a bl q hb hq=>by
  have ih:=X_ hS n k (by omega);have hc:CS (n+1)=20*CS n+1030:=rfl;show Ok ((fH (k+3)).1 ss g fs lo nu re a bl) _;rw[Tn];refine Gf hs (λx hx re a bl q hb hq=>?_) hb hq;obtain⟨x1,x2,x3,⟨x4,x5⟩,x6,x7⟩:=hw x hx;show Ok ((fH (k+2)).2.1 x.kind x.line x.name x.exprs x.then' x.else' g fs lo nu re a bl) _;rw[adv,hc,<-JP];refine VP hS x1 x3 hb (by omega) (λh5 t=>?_) λt re a b hl hb'=>?_
  .show Ok ((fH (k+1)).2.2.1 x.kind x.line x.name x.exprs x.then' x.else' t g fs lo nu re a bl) _;rw[adw];exact jA (VO hS (x2 h5) x3 (c:=10*CS n) (λre a bl q hb hq=>ih _ x4 x6 re a bl q hb hq) hb (by omega)) λy ⟨re,a,b,e,l,h⟩=>⟨re,a,b,e,l,h.up (by omega)⟩
  .show Ok ((fH (k+1)).2.2.2 x.kind x.line x.name x.exprs x.then' x.else' t g fs lo nu re a b) _;rw[adx];exact jA (Tj (c:=10*CS n) (λre a bl q hb hq=>ih _ x4 x6 re a bl q hb hq) (λre a bl q hb hq=>ih _ x5 x7 re a bl q hb hq) hb' (by omega)) λy ⟨t,re,a,b,e,l,h⟩=>⟨t,re,a,b,e,by omega,h.up (by omega)⟩
end
section
variable {g:List aU} {fs:List aK}
theorem agB{k o d a b v:Int}{ar:List Int}(h:ar.length<=10):Ok (f99 k o d a b v ar) λy=>y.length<=11:=by
 unfold f99;refine aX (λ_=>True) ?_ λs _=>bF (λ_=>ay (by simp)) λ_=>aX (λ_=>True) ?_ λs _=>bF (λ_=>ay (by simp)) λ_=>bF (λ_=>aY (by unfold bP;simp;omega) (ay (by simp;omega))) λ_=>bF (λ_=>aY (by unfold bP;simp;omega) (ay (by simp;omega))) λ_=>ay (by simp)
 all_goals repeat' first|exact ay trivial|refine bF (λ_=>?_) (λ_=>?_)|refine aX (λ_=>True) ?_ (λ_ _=>?_)
theorem ajI{k o d a b v:Int}{ar:List Int}:Ok (f100 k o d a b v ar) λ_=>True:=by
 unfold f100
 repeat' first|exact ay trivial|refine bF (λ_=>?_) (λ_=>?_)|refine aX (λ_=>True) ?_ (λ_ _=>?_)
theorem Nb{a b v:Int}{p:Bool}:Ok (f101 g fs a b v p) λ_=>True:=by unfold f101;refine aX (λ_=>True) (bF (λh0=>bF (λh1=>aY (ak.2 ⟨by simpa using h0,by simpa using h1⟩) (ay trivial)) λ_=>ay trivial) λ_=>ay trivial) λ_ _=>ay trivial
theorem ady{n:Nat}{v:Int}{x:Option Bool}(h:x=(bif decide (v<0)then some true else some (decide ((n:Int)<=v)))):Ok x λs=>s=false->0<=v/\v<n:=by subst h;refine bF (λ_=>ay λe=>by cases e) λh=>ay λe=>?_;simp only[decide_eq_false_iff_not]at h e;omega
theorem instrC_ok{a b:Int}{nm:List UInt8}{pa re:Int}{bl:List aH}{k o d x y v:Int}{ar:List Int}(h:ar.length<=10):Ok (f89 g fs a b nm pa re bl k o d x y v ar) λ_=>True:=by
 unfold f89;refine aX (λ_=>True) ?_ λFM _=>bF (λ_=>ay trivial) λ_=>aX _ (agB h) λc39 h39=>aX _ ajI λc40 _=>aX (λy=>y.length<=12) ?_ λs43 h43=>?_
 .repeat' first|exact ay trivial|refine bF (λ_=>?_) (λ_=>?_)|refine aX (λ_=>True) ?_ (λ_ _=>?_)
 .exact bF (λ_=>aY (by unfold bP;simp;omega) (ay (by simp;omega))) λ_=>ay (by omega)
 refine qF (λ_=>True) (oC s43.length (by omega) (λi h0 h1=>goT (Wc h1) (aX (λ_=>True) (aY (ak.2 ⟨h0,h1⟩) (bF (λ_=>ay trivial) λ_=>aY (ak.2 ⟨h0,h1⟩) (ay trivial))) λ_ _=>bF (λ_=>ay trivial) λ_=>ay rfl)) (yR (Vn (by omega)) (ay trivial))) λ_ _=>?_;refine aX (λ_=>True) (bF (λ_=>ay trivial) λ_=>ay trivial) λs57 _=>qF (λ_=>True) ?_ λ_ _=>ay trivial;refine bF (λ_=>aX _ Nb λ_ _=>bF (λ_=>ay trivial) λ_=>ay trivial) λ_=>aX (λ_=>True) (bF (λ_=>ay trivial) λ_=>ay trivial) λs62 _=>qF (λ_=>True) ?_ λ_ _=>ay trivial;refine bF (λ_=>aX _ Nb λ_ _=>bF (λ_=>ay trivial) λ_=>ay trivial) λ_=>qF (λ_=>True) ?_ λ_ _=>ay trivial;refine bF (λ_=>aX _ (ady (n:=fs.length) (v:=v) rfl) λs70 h70=>bF (λ_=>ay trivial) λhs=>aY (ak.2 (h70 hs)) (bF (λ_=>ay trivial) λ_=>ay trivial)) λ_=>qF (λ_=>True) ?_ λ_ _=>ay trivial;refine bF (λ_=>bF (λ_=>ay trivial) λ_=>ay trivial) λ_=>qF (λ_=>True) ?_ λ_ _=>ay trivial;refine bF (λ_=>aX (λ_=>True) (bF (λ_=>ay trivial) λ_=>ay trivial) λ_ _=>bF (λ_=>ay trivial) λ_=>ay trivial) λ_=>qF (λ_=>True) ?_ λ_ _=>ay trivial;exact bF (λ_=>aX (λ_=>True) (bF (λ_=>ay trivial) λ_=>ay trivial) λ_ _=>bF (λ_=>ay trivial) λ_=>ay trivial) λ_=>ay trivial
theorem agC{nm:List UInt8}{pa re:Int}{bl:List aH}{k a t e:Int}:Ok (f90 nm pa re bl k a t e) λy=>y=0->(k=1\/k=2\/k=3)/\∀x∈succs k t e,0<=x/\x<bl.length:=by
 unfold f90;refine aX (λs=>s=false->k=1\/k=2\/k=3) (bF (λ_=>ay λe=>by cases e) λh=>ay λe=>?_) λs3 h3=>bF (λ_=>ay λe=>by cases e) λhs=>aX (λ_=>True) ?_ λs10 _=>bF (λ_=>ay λe=>by cases e) λ_=>lU (oU k a t e) ?_
 .simp only[decide_eq_false_iff_not]at h e;omega
 .exact bF (λ_=>bF (λ_=>ay trivial) λ_=>ay trivial) λ_=>ay trivial
 have h3:=h3 hs;have hl:(succs k t e).length<=2:=by
  unfold succs;split
  .simp
  .split<;>simp
 generalize succs k t e=l at hl;refine qF (λ_=>∀x∈l,0<=x/\x<bl.length) ?_ λ_ h=>ay λ_=>⟨h3,h⟩;refine bf (λi:Int=>(0<=i/\i<=l.length)/\∀x∈l.take i.toNat,0<=x/\x<bl.length) (λi=>(l.length-i).toNat) ⟨⟨by simp,by omega⟩,by simp⟩ λi ⟨⟨h0,h1⟩,h2⟩=>?_;refine bF (λhi=>?_) (λhi=>ay ?_)
 rotate_left
 .have:i.toNat=l.length:=by simp at hi;omega
  rw[this,W8]at h2;exact h2
 have hi:i<l.length:=by simpa using hi
 have hin:=ak.2 ⟨h0,hi⟩;refine aX (λs=>s=false->0<=l.getD i.toNat 0/\l.getD i.toNat 0<bl.length) ?_ λs hs=>bF (λ_=>ay λe=>by cases e) λe=>ay ?_
 .refine aY hin (bF (λ_=>ay λe=>by cases e) λh=>aY hin (ay λe=>?_));simp only[decide_eq_false_iff_not]at h e;omega
 .have hs:=hs e;refine⟨⟨⟨?_,?_⟩,?_⟩,?_⟩
  all_goals rw[aI (by omega)]
  .omega
  .omega
  .intro x hx;rw[show (i+1).toNat=i.toNat+1 by omega,take_snoc (by omega)]at hx;rcases QQ.1 hx with hx|hx
   .exact h2 x hx
   .rw [Q6]at hx;rw[getD_at _ (by omega:i.toNat<l.length)]at hs;rw[hx];exact hs
  .omega
theorem ZT{nm:List UInt8}{pa re:Int}{bl:List aH}(h:bl.length<=1000000):Ok (f88 nm pa re bl) λ_=>True:=by
 unfold f88;refine aX (λ_=>True) ?_ λ_ _=>ay trivial;refine bf (λs:Int×Int=>0<=s.2/\s.2<=bl.length) (λs=>(bl.length-s.2).toNat) ⟨by simp,by simp⟩ λ⟨n,i⟩ ⟨h0,h1⟩=>?_;simp only at h0 h1;refine bF (λhi=>?_) (λhi=>ay trivial);have hi:i<bl.length:=by simpa using hi
 refine aY (ak.2 ⟨h0,hi⟩) (ay ⟨⟨?_,?_⟩,?_⟩)
 all_goals simp only;rw[aI (by omega)];omega
theorem Tq{a b:Int}{nm:List UInt8}{pa re:Int}{bl:List aH}{k:Nat}(hk:k<=1000000000)(h :∀b∈bl,b.instrs.length<=k/\∀i∈b.instrs,i.args.length<=10):Ok (f70 g fs a b nm pa re bl) λy=>y=0->bl.length<=1000/\0<bl.length/\kU bl/\VF bl:=by
 unfold f70;refine aX (λs=>s=false->0<bl.length/\bl.length<=256) (bF (λ_=>ay λe=>by cases e) λh0=>bF (λ_=>ay λe=>by cases e) λh1=>?_) λs8 h8=>bF (λ_=>ay λe=>by cases e) λhs=>?_
 .simp only[decide_eq_false_iff_not]at h0 h1;exact aX _ (ZT (by omega)) λ_ _=>ay λ_=>⟨by omega,by omega⟩
 obtain⟨l0,l1⟩:=h8 hs;refine aX (λ_=>True) ?_ λs16 _=>bF (λ_=>ay λe=>by cases e) λ_=>?_
 .repeat' first|exact ay trivial|refine bF (λ_=>?_) (λ_=>?_)
 refine qF (λ_=>kU bl) ?_ λ_ hE=>?_
 .refine bf (λi:Int=>(0<=i/\i<=bl.length)/\∀b:Nat,(b:Int)<i->((bl.getD b aj).aV=1\/(bl.getD b aj).aV=2\/(bl.getD b aj).aV=3)/\∀x∈dw bl b,0<=x/\x<bl.length) (λi=>(bl.length-i).toNat) ⟨⟨by simp,by omega⟩,λb hb=>by omega⟩ λi ⟨⟨h0,h1⟩,h2⟩=>?_;refine bF (λhi=>?_) (λhi=>ay ?_)
  rotate_left
  .have hi:i=bl.length:=by simp at hi;omega
   subst hi;refine⟨λb hb=>⟨λhn=>?_,λhn=>?_⟩,λb hb=>(h2 b (by omega)).1⟩
   .have:=h2 b (by omega);exact this.2 _ (CV.1 (by omega))
   .exact (h2 b (by omega)).2 _ (CV.2 hn)
  have hi:i<bl.length:=by simpa using hi
  have hin:=ak.2 ⟨h0,hi⟩;obtain⟨hb1,hb2⟩:=h _ (kV aj h0 hi);refine qF (λ_=>True) ?_ λ_ _=>aY hin (aX _ agC λc31 h31=>bF (λhc=>ay λe=>?_) λhc=>ay ?_)
  .refine oC _ (by omega) (λj j0 j1=>aY hin (goT (Wc j1) (aY hin (aY (ak.2 ⟨j0,j1⟩) (aX _ (instrC_ok (hb2 _ (kV (f_.mk 0 0 0 0 0 0 eInt) j0 j1))) λc26 _=>bF (λhc=>ay λe=>?_) λ_=>ay rfl))))) (aY hin (yR (Vn (by omega)) (ay trivial)));rw[e]at hc;simp at hc
  .rw [e]at hc;simp at hc
  .have h31:=h31 (by simpa using hc);have hw:cu (i+1)=i+1:=aI (by omega);refine⟨⟨⟨by omega,by omega⟩,λb hb=>?_⟩,by omega⟩;by_cases e:(b:Int)<i
   .exact h2 b e
   .have e:i.toNat=b:=by omega
    rw[e]at h31;exact h31
 refine aX _ (SX hE l0 (by omega)) λm ⟨hM,_⟩=>?_;have hml:=hM.len;refine qF (λ_=>∀b,b<bl.length->m.getD b false=true) ?_ λ_ hm=>ay λ_=>⟨by omega,l0,hE,λS s0 hS b hb=>hM.all S s0 (λb hb sb x hx=>?_) b hb (hm b hb)⟩
 .refine bf (λi:Int=>(0<=i/\i<=m.length)/\∀b:Nat,(b:Int)<i->m.getD b false=true) (λi=>(m.length-i).toNat) ⟨⟨by simp,by omega⟩,λb hb=>by omega⟩ λi ⟨⟨h0,h1⟩,h2⟩=>?_;refine bF (λhi=>?_) (λhi=>ay ?_)
  rotate_left
  .have hi:i=m.length:=by simp at hi;omega
   exact λb hb=>h2 b (by omega)
  have hi:i<m.length:=by simpa using hi
  refine aY (ak.2 ⟨h0,hi⟩) (bF (λ_=>ay λe=>by cases e) λhc=>ay ?_);have hw:cu (i+1)=i+1:=aI (by omega);refine⟨⟨⟨by omega,by omega⟩,λb hb=>?_⟩,by omega⟩;by_cases e:(b:Int)<i
  .exact h2 b e
  .have e:i.toNat=b:=by omega
   rw[e]at hc;simpa using hc
 .obtain ⟨q1,q2⟩:=hS b hb sb;have h3:=hE.2 b hb;unfold dw succs at hx;split at hx
  .rename_i h;rcases Xs.1 hx with hx|hx
   .rw [hx];exact q1 (by omega)
   .rw [Q6]at hx;rw[hx];exact q2 h.1
  .split at hx
   .rw [Q6]at hx;rw[hx];exact q1 (by omega)
   .cases hx
theorem adz{a b:Int}{k:Nat}(hk:k<=1000000000)(hg:g.length<=1000000)(h :∀f∈fs,∀b∈f.blocks,b.instrs.length<=k/\∀i∈b.instrs,i.args.length<=10):Ok (f53 g fs a b) λy=>y=0->fs.length<=1000/\∀f∈fs,Good f:=by
 unfold f53;refine aX (λs=>s=false->0<fs.length/\fs.length<=64) (bF (λ_=>ay λe=>by cases e) λh0=>bF (λ_=>ay λe=>by cases e) λh1=>?_) λs12 h12=>bF (λ_=>ay λe=>by cases e) λhs=>?_
 .simp only[decide_eq_false_iff_not]at h0 h1;have hl:0<fs.length/\fs.length<=64:=⟨by omega,by omega⟩;exact bF (λ_=>ay λe=>by cases e) λ_=>bF (λ_=>ay λe=>by cases e) λ_=>ay λ_=>hl
 obtain⟨l0,l1⟩:=h12 hs;refine qF (λ_=>True) (oC g.length (by omega) (λi h0 h1=>goT (Wc h1) (aX (λ_=>True) (aY (ak.2 ⟨h0,h1⟩) (bF (λ_=>ay trivial) λ_=>aY (ak.2 ⟨h0,h1⟩) (ay trivial))) λ_ _=>bF (λ_=>ay λe=>by cases e) λ_=>ay rfl)) (yR (Vn (by omega)) (ay trivial))) λ_ _=>?_;refine aX (λ_=>True) (bF (λ_=>ay trivial) λ_=>ay trivial) λXy _=>bF (λ_=>ay λe=>by cases e) λ_=>aY (ak.2 ⟨by omega,by omega⟩) (bF (λ_=>ay λe=>by cases e) λ_=>?_);refine qF (λ_=>∀f∈fs,Good f) ?_ λ_ h=>ay λ_=>⟨by omega,h⟩;refine bf (λi:Int=>(0<=i/\i<=fs.length)/\∀f∈fs.take i.toNat,Good f) (λi=>(fs.length-i).toNat) ⟨⟨by simp,by omega⟩,by simp⟩ λi ⟨⟨h0,h1⟩,h2⟩=>?_;refine bF (λhi=>?_) (λhi=>ay ?_)
 rotate_left
 .have:i.toNat=fs.length:=by simp at hi;omega
  rw[this,W8]at h2;exact h2
 have hi:i<fs.length:=by simpa using hi
 have hm:=kV aG h0 hi;refine aY (ak.2 ⟨h0,hi⟩) (aX _ (Tq hk (h _ hm)) λEm h35=>bF (λhc=>ay λe=>?_) λhc=>ay ?_)
 .rw [e]at hc;simp at hc
 have h35:=h35 (by simpa using hc);have hw:cu (i+1)=i+1:=aI (by omega);refine⟨⟨⟨by omega,by omega⟩,λf hf=>?_⟩,by omega⟩;rw[hw,show (i+1).toNat=i.toNat+1 by omega,take_snoc (by omega)]at hf;rcases QQ.1 hf with hf|hf
 .exact h2 f hf
 .rw [Q6,<-getD_at aG (by omega:i.toNat<fs.length)]at hf;rw[hf];exact h35
end
def ajJ(k:Nat)(bl:List aH):Prop :=∀b∈bl,b.instrs.length<=k/\∀i∈b.instrs,i.args.length<=10
theorem cs3:CS 3=433630:=rfl
theorem v3:V 3=421:=rfl
theorem adA{g:List aU}{fs:List aA}(h:Src 4 4 g fs):Ok (f40 g fs) λy=>y.2.2.2.2.length<=1000/\∀f∈y.2.2.2.2,Good f:=by
 have hg:=h.g;have hf:=h.f;unfold f40;refine aY (by unfold bP;simp;omega) ?_;refine aX (λs=>s.2.2.length<=100/\∀f∈s.2.2,ajJ 5000000 f.blocks) ?_ λzu ⟨h1,h2⟩=>aX _ (adz (by omega) (by simp;omega) h2) λG8 h22=>bF (λ_=>ay ⟨by simp,by simp⟩) λhc=>ay (h22 (by simpa using hc));refine bf (λs:Int×Int×Int×List aK=>(0<=s.1/\s.1<=fs.length)/\(s.2.2.2.length:Int)=s.1/\∀f∈s.2.2.2,ajJ 5000000 f.blocks) (λs=>(fs.length-s.1).toNat) ⟨⟨by simp,by simp⟩,rfl,by simp⟩ λ⟨i,x,z,rs⟩ ⟨⟨h0,h1⟩,h2,h3⟩=>?_;simp only at h0 h1 h2 h3;refine bF (λhi=>?_) (λhi=>ay ⟨by simp only;omega,h3⟩);have hi:i<fs.length:=by simpa using hi
 have hx:=kV gW h0 hi;have hp:=h.ps _ hx;obtain⟨hb,hw⟩:=h.ws _ hx;refine aY (ak.2 ⟨h0,hi⟩) ?_;obtain⟨f,hfe⟩ :∃f,fs.getD i.toNat gW=f:=⟨_,rfl⟩;simp only[hfe]at hp hb hw ⊢;refine aX (λy=>∃lo,y=(g,fs,lo,i,(0:Int),(0:Int),([]:List aH))/\lo.length<=1000000) ?_ λs7 ⟨lo,e,hlo⟩=>?_
 .refine aX (λlo=>lo.length<=1000000) ?_ λlo hlo=>ay ⟨lo,rfl,hlo⟩;unfold f48;refine aY (by simp;omega) (aX (λlo=>lo.length<=1000000) ?_ λlo hlo=>ay hlo);refine jA (Hg 3 1048576 (by omega) f.body hb hw _ (by rw[v3];simp;omega)) λy hy=>?_;rw[v3]at hy;simp at hy;omega
 subst e;have hS:Sc g fs lo:=⟨by omega,by omega,hlo⟩;refine aX (λy=>∃b:aH,y=((0:Int),g,fs,lo,i,(lo.length:Int),(0:Int),[b])/\b.instrs=[]) (aY (by unfold bP;simp) (ay ⟨_,rfl,rfl⟩)) λc9 ⟨b,e,hbi⟩=>?_;subst e;have hB:Bd 1 0 [b]:=⟨by omega,by simp,by simp,λb' hb'=>by rw[Q6]at hb';subst hb';rw[hbi];simp⟩;refine aX _ (X_ hS 3 1048576 (by omega) f.body hb hw _ _ _ _ hB (by rw[cs3];omega)) λc10 ⟨t,re,a,bl,e,hl,hB⟩=>?_;subst e;rw[cs3]at hB;simp only;refine aX (λy=>ajJ 5000000 y.2.2.2.2.2.2) ?_ λs16 h16=>aY (by unfold bP;simp;omega) (ay ⟨⟨⟨?_,?_⟩,?_,?_⟩,?_⟩)
 .refine bF (λ_=>F9 hB (by omega) (by simp) λiT e' hB'=>qE hB' hB'.at0 hB'.TY λbl2 e2 hB2=>ay (hB2.up (by omega)).ins) λ_=>ay (hB.up (by omega)).ins
 all_goals simp only
 all_goals try rw[aI (by omega)]
 .omega
 .omega
 .simp;omega
 .intro f' hf';rcases QQ.1 hf' with hf'|hf'
  .exact h3 f' hf'
  .rw [Q6]at hf';subst hf';exact h16
 .omega
theorem agD{l:List Int}{i:Int}(hb:Bytes l)(hi:0<=i):Ok (f6 l i) λy=>y.1.length<=1000/\∀f∈y.1,Good f:=by unfold f6;refine goN hb hi (by omega) λc j hj _ _=>bF (λ_=>aX (λy=>y.2.2.2.2.2.length<=1000/\∀f∈y.2.2.2.2.2,Good f) ?_ λy hy=>ay hy) λ_=>aX _ (adg hb hj) λy hy=>ay hy;unfold f24;refine aX (λy=>Src 4 4 y.2.2.1 y.2.2.2) ?_ λy hy=>aX _ (adA hy) λz hz=>ay hz;unfold f41;exact aX _ (ZQ hb hj) λy ⟨_,_,hy⟩=>aX _ (VL hy) λz hz=>ay hz
theorem uy(k a t e:Int):f27 k a t e=some (succs k t e):=by
 apply ok_eq;unfold f27;refine aX (λs=>s=decide (k=1\/(k=2/\t=e))) ?_ λs hs=>?_
 .refine bF (λh=>ay ?_) λh=>aX (λs=>s=decide (k=2/\t=e)) ?_ λs hs=>ay ?_
  .simp at h;simp[h]
  .refine bF (λh2=>ay ?_) λh2=>ay ?_
   .simp at h2;simp[h2]
   .simp at h2;simp[h2]
  .simp at h;simp[hs,h]
 .subst hs;refine bF (λh=>ay ?_) λh=>bF (λh2=>ay ?_) λh2=>ay ?_
  .simp only[XX]at h;unfold succs;rw[QR (λhh=>by rcases h with h|h;omega;exact hh.2 h.2.symm),Qt (by rcases h with h|h;exact .inl h;exact .inr h.1)]
  .simp only[XX,decide_eq_false_iff_not]at h h2;unfold succs;rw[Qt ⟨h2,λhh=>h (.inr ⟨h2,hh.symm⟩)⟩]
  .simp only[decide_eq_false_iff_not]at h h2;unfold succs;rw[QR (λhh=>h2 hh.1),QR (λhh=>hh.elim (λe=>h (.inl e)) h2)]
def Ed(bs:List aH)(u v:Nat):Prop:=u<bs.length/\(v:Int)∈dw bs u
theorem Gg{bs:List aH}(hE:kU bs){u v:Nat}(h:Ed bs u v):u<bs.length/\v<bs.length:=⟨h.1,by have:=n_ hE h.1 _ h.2;omega⟩
theorem agE{bs:List aH}(hE:kU bs)(hC:VF bs)(S:Nat->Prop)(h0:S 0)(hs :∀u v,S u->Ed bs u v->S v):∀b,b<bs.length->S b:=by
 refine hC S h0 λb hb sb=>?_;have hk:=hE.2 b hb;have hto :∀x:Int,x∈dw bs b->S x.toNat:=λx hx=>by have hr:=n_ hE hb x hx;exact hs b _ sb ⟨hb,by rw[show ((x.toNat:Nat):Int)=x by omega];exact hx⟩
 exact⟨λhn=>hto _ (CV.1 (by omega)),λhn=>hto _ (CV.2 hn)⟩
theorem ZU(k:Nat):Vy (k+1)=acL (Vy k):=rfl
theorem Tt{nm:List UInt8}{pa re:Int}{bs:List aH}(hE:kU bs)(hl:bs.length<=1000):∀(k b:Nat) (seen:List Bool) (out:List Int),b<bs.length->seen.length=bs.length->seen.getD b false=false->cntF seen<=k->out.length+cntF seen<=bs.length->
  Ok (Vy k b nm pa re bs seen out) λy=>∃s' L,y=(s',nm,pa,re,bs,out++L.map Int.ofNat)/\Vis (Ed bs) bs.length b seen s' L/\L.length+cntF s'<=cntF seen:=by
 intro k
 induction k with
 |zero=>intro b seen out hb hsl hs hk _;have:=nC (hsl▸hb) hs;omega
 |succ k ih=>
  intro b seen out hb hsl hs hk ho;have hc1:=nC (hsl▸hb:b<seen.length) hs;rw[ZU];unfold acL;refine aX (λy=>∃s' L,y=(s',nm,pa,re,bs,out++L.map Int.ofNat)/\Vis (Ed bs) bs.length b seen s' L/\L.length+cntF s'<=cntF seen) ?_ λy ⟨s',L,e,h1,h2⟩=>by subst e;exact aY (Wc h1.len.symm) (ay ⟨s',L,rfl,h1,h2⟩)
  refine aY (ak.2 ⟨by omega,by omega⟩) (aY (ak.2 ⟨by omega,by omega⟩) ?_);simp only[Q1];refine lU (uy _ _ _ _) ?_;have hsd:succs (bs.getD b aj).aV (bs.getD b aj).dI (bs.getD b aj).bg=dw bs b:=rfl;rw[hsd];have hin:=n_ hE hb;have hl2:(dw bs b).length<=2:=by unfold dw succs;(repeat' split)<;>simp
  refine aX (λy=>∃s' M,y=(s',nm,pa,re,bs,out++M.map Int.ofNat)/\Vs (Ed bs) bs.length b seen s' M/\(∀x∈dw bs b,s'.getD x.toNat false=true)/\M.length+cntF s'+1<=cntF seen) ?_ λy ⟨s',M,e,h1,h2,h3⟩=>?_
  rotate_left
  .subst e;refine aY (by unfold bP;simp;omega) (ay ⟨s',M++[b],by simp,ajC hb hs h1 (λx hx=>by have:=h2 _ hx.2;rwa [Q1]at this) λhe=>(Gg hE he).2,by simp;omega⟩)
  have hset :∀z,(seen.set b true).getD z false=if z=b then true else seen.getD z false:=λz=>iJ (hsl▸hb)
  refine bf (λs:Int×List Bool×List UInt8×Int×Int×List aH×List Int=>∃(i:Nat) (s':List Bool) (M:List Nat),s=((i:Int),s',nm,pa,re,bs,out++M.map Int.ofNat)/\i<=(dw bs b).length/\Vs (Ed bs) bs.length b seen s' M/\(∀j,(hj:j<(dw bs b).length)->j<i->s'.getD ((dw bs b)[j]).toNat false=true)/\M.length+cntF s'+1<=cntF seen)
   (λs=>(dw bs b).length-s.1.toNat) ⟨0,seen.set b true,[],by simp,by omega,⟨by simp,by simp,by simp,λx hx=>?_,by simp,by simp⟩,λj _ h=>by omega,by simp;omega⟩ λs ⟨i,s',M,e,h1,h2,h3,h4⟩=>?_
  .rw [hset];by_cases e:x=b
   .simp [e]
   .simp [e]
  subst e;refine bF (λhi=>?_) (λhi=>ay ⟨s',M,rfl,h2,λx hx=>?_,h4⟩)
  rotate_left
  .obtain ⟨j,hj,e⟩:=JN hx;rw[<-e];exact h3 j hj (by simp at hi;omega)
  have hi:i<(dw bs b).length:=by simpa using hi
  have ard:s'.length=bs.length:=by rw[h2.len,hsl]
  refine aY (ak.2 ⟨by omega,by omega⟩) ?_;have e:(dw bs b).getD i 0=(dw bs b)[i]:=getD_at _ hi;have hmem:=Z2 hi;have hr:=hin _ hmem;simp only[Q1,e];obtain⟨c,hc⟩ :∃c:Nat,(dw bs b)[i]=c:=⟨((dw bs b)[i]).toNat,by omega⟩;have he:Ed bs b c:=⟨hb,hc▸hmem⟩;rw[hc]at hr ⊢;have hcn:c<bs.length:=by omega
  refine aY (ak.2 ⟨by omega,by omega⟩) ?_;simp only[Q1];refine aX (λy=>∃s2 M2,y=(s2,nm,pa,re,bs,out++M2.map Int.ofNat)/\Vs (Ed bs) bs.length b seen s2 M2/\(∀x,x<bs.length->s'.getD x false=true->s2.getD x false=true)/\s2.getD c false=true/\M2.length+cntF s2+1<=cntF seen) ?_ λy ⟨s2,M2,e2,q1,q2,q3,q4⟩=>?_
  rotate_left
  .subst e2;have hw:cu ((i:Int)+1)=((i+1:Nat):Int):=by rw[aI (by omega)];omega
   rw[hw];refine ay ⟨⟨i+1,s2,M2,rfl,by omega,q1,λj hj hji=>?_,q4⟩,by simp only[Q1];omega⟩;by_cases ej:j=i
   .subst ej;rw[hc,Q1];exact q3
   .have hjr:=hin _ (Z2 hj);exact q2 _ (by omega) (h3 j hj (by omega))
  refine bF (λhn=>?_) (λhn=>ay ⟨s',M,rfl,h2,λx _ h=>h,by simpa using hn,h4⟩);have hn:s'.getD c false=false:=by simpa using hn
  refine aX _ (ih c s' (out++M.map Int.ofNat) hcn ard hn (by omega) (by simp;omega)) λy ⟨s2,L,e2,q1,q2⟩=>?_;subst e2;have hcL:c∈L:=by obtain⟨L0,e⟩:=q1.last;rw[e];simp
  exact ay ⟨s2,M++L,by simp,ada h2 q1 he λh=>(Gg hE h).2,λx hx h=>(q1.mrk x hx).2 (.inl h),(q1.mrk c hcn).2 (.inr hcL),by simp;omega⟩
theorem Ep{l:List (List Int)}{a z:Nat}{v:List Int}(ha:a<l.length):(l.set a v).getD z []=if z=a then v else l.getD z []:=by
 rw[Q2,Q2];by_cases h:z=a
 .subst h;rw[Kc ha,Qt rfl];rfl
 .rw [Kn (λe=>h e.symm),QR h]
def PrU(bs:List aH)(i j:Nat)(P:List (List Int)):Prop:=P.length=bs.length/\∀v,v<bs.length->(∀p,p∈P.getD v []↔(∃u:Nat,p=u/\u<i/\(v:Int)∈dw bs u)\/(p=i/\(v:Int)∈(dw bs i).take j))/\(P.getD v []).length<=2*i+j
theorem J5{nm:List UInt8}{pa re:Int}{bs:List aH}(hE:kU bs)(hl:bs.length<=1000):Ok (f30 nm pa re bs) λP=>P.length=bs.length/\∀v,v<bs.length->(∀p:Int,p∈P.getD v []↔∃u:Nat,p=u/\Ed bs u v)/\(P.getD v []).length<=2000:=by
 unfold f30;refine aY (gy.2 (by omega)) ?_;simp only[Q1];refine aX (λP=>PrU bs bs.length 0 P) ?_ λP ⟨h1,h2⟩=>ay ⟨h1,λv hv=>⟨λp=>?_,by have:=(h2 v hv).2;omega⟩⟩
 rotate_left
 .rw [(h2 v hv).1 p];simp only[vh,K0,and_false,or_false];exact⟨λ⟨u,e,h,h'⟩=>⟨u,e,h,h'⟩,λ⟨u,e,h⟩=>⟨u,e,h.1,h.2⟩⟩
 refine bf (λs:Int×List (List Int)=>∃i:Nat,s.1=i/\i<=bs.length/\PrU bs i 0 s.2) (λs=>bs.length-s.1.toNat) ⟨0,rfl,by omega,by simp,λv hv=>⟨λp=>?_,?_⟩⟩ λ⟨i',P⟩ ⟨i,e,hi,hP⟩=>?_
 .simp only;rw[getD_at _ (by simpa using hv)];simp
 .simp only;rw[getD_at _ (by simpa using hv)];simp
 simp only at e hP;subst e;refine bF (λhc=>?_) (λhc=>ay ?_)
 rotate_left
 .have:i=bs.length:=by simp at hc;omega
  subst this;exact hP
 have hi:i<bs.length:=by simpa using hc
 refine aY (ak.2 ⟨by simp only;omega,by simp only;omega⟩) ?_;simp only[Q1];refine lU (uy _ _ _ _) ?_;have hsd:succs (bs.getD i aj).aV (bs.getD i aj).dI (bs.getD i aj).bg=dw bs i:=rfl;rw[hsd];have hin:=n_ hE hi;have hl2:(dw bs i).length<=2:=by unfold dw succs;(repeat' split)<;>simp
 refine aX (λP=>PrU bs i (dw bs i).length P) ?_ λP' ⟨g1,g2⟩=>?_
 rotate_left
 .have hw:cu ((i:Int)+1)=((i+1:Nat):Int):=by rw[aI (by omega)];omega
  simp only[hw];refine ay ⟨⟨i+1,rfl,by omega,g1,λv hv=>⟨λp=>?_,by have:=(g2 v hv).2;simp only;omega⟩⟩,by simp only[Q1];omega⟩;simp only;rw[(g2 v hv).1 p];simp only[W8,vh,K0,and_false,or_false];constructor
  .rintro (⟨u,e,h,h'⟩|⟨e,h⟩)
   .exact ⟨u,e,by omega,h'⟩
   .exact ⟨i,e,by omega,h⟩
  .rintro ⟨u,e,h,h'⟩;by_cases eu:u=i
   .subst eu;exact .inr ⟨e,h'⟩
   .exact .inl ⟨u,e,by omega,h'⟩
 refine bf (λs:Int×List (List Int)=>∃j:Nat,s.1=j/\j<=(dw bs i).length/\PrU bs i j s.2) (λs=>(dw bs i).length-s.1.toNat) ⟨0,rfl,by omega,hP⟩ λ⟨j',P'⟩ ⟨j,e,hj,g1,g2⟩=>?_;simp only at e g1 g2;subst e;refine bF (λhc=>?_) (λhc=>ay ?_)
 rotate_left
 .have:j=(dw bs i).length:=by simp at hc;omega
  subst this;exact⟨g1,g2⟩
 have hj:j<(dw bs i).length:=by simpa using hc
 refine aY (ak.2 ⟨by simp only;omega,by simp only;omega⟩) ?_;have e:(dw bs i).getD j 0=(dw bs i)[j]:=getD_at _ hj;have hr:=hin _ (Z2 hj);simp only[Q1,e];obtain⟨c,hc⟩ :∃c:Nat,(dw bs i)[j]=c:=⟨((dw bs i)[j]).toNat,by omega⟩;rw[hc]at hr ⊢;have hcn:c<bs.length:=by omega
 have hcl:c<P'.length:=by omega
 have hlen:=(g2 c hcn).2;refine aY (ak.2 ⟨by omega,by omega⟩) ?_;simp only[Q1];have hlen':(P'.getD c eInt).length<=2*i+j:=hlen;refine aY (by simp only[Kd,XX,W3];omega) (aY (ak.2 ⟨by omega,by omega⟩) (aY (by simp) ?_));have hw:cu ((j:Int)+1)=((j+1:Nat):Int):=by rw[aI (by omega)];omega
 rw[hw];refine ay ⟨⟨j+1,rfl,by omega,by simp only[UX];exact g1,λv hv=>⟨λp=>?_,?_⟩⟩,by simp only[Q1];omega⟩
 .simp only;rw[Ep hcl,take_snoc hj,hc];simp only[QQ,Q6];by_cases ev:v=c
  .subst ev;rw[Qt rfl,QQ,(g2 v hv).1 p,Q6];constructor
   .rintro ((h|⟨h,h'⟩)|h)
    .exact .inl h
    .exact .inr ⟨h,.inl h'⟩
    .exact .inr ⟨h,.inr rfl⟩
   .rintro (h|⟨h,h'|h'⟩)
    .exact .inl (.inl h)
    .exact .inl (.inr ⟨h,h'⟩)
    .exact .inr h
  .rw [QR ev,(g2 v hv).1 p];constructor
   .rintro (h|⟨h,h'⟩)
    .exact .inl h
    .exact .inr ⟨h,.inl h'⟩
   .rintro (h|⟨h,h'|h'⟩)
    .exact .inl h
    .exact .inr ⟨h,h'⟩
    .exact absurd (by omega) ev
 .simp only;rw[Ep hcl];split
  .rw [Z0,W3];omega
  .have:=(g2 v hv).2;omega
def Rk(n:Nat)(rk:Nat->Nat)(R:List Int):Prop:=R.length=n/\∀v,v<n->R.getD v 0=rk v
theorem Tv{out:List Int}{v:Nat}(h:v<out.length):out.getD v 0=up out v:=by unfold up;rw[getD_at _ h,getD_at _ h]
theorem uz{out:List Int}{y a:Nat}(h:jr out y a)(hne:y≠a):jr out y (up out a).toNat:=by
 cases h with
 |refl=>exact absurd rfl hne
 |up _ h=>exact h
theorem agF{n:Nat}{E:Nat->Nat->Prop}{rk:Nat->Nat}{R out:List Int}(hG:Gr n E rk)(hT:Tb n E rk out)(hR:Rk n rk R){a b:Nat}(ha:a<n)(hb:b<n)(pa:Pr out a)(pb:Pr out b):
  Ok (f31 a b R out) λy=>∃c:Nat,y=((c:Int),R,out)/\c<n/\Pr out c/\jr out c a/\jr out c b/\(∀y,jr out y a->jr out y b->jr out y c)/\∀d,Dom E d a->Dom E d b->Dom E d c:=by
 refine aX (λy=>∃c:Nat,y=((c:Int),R,out)/\c<n/\Pr out c/\jr out c a/\jr out c b/\(∀y,jr out y a->jr out y b->jr out y c)/\∀d,Dom E d a->Dom E d b->Dom E d c) ?_ λy ⟨c,e,h⟩=>by subst e;exact goK rfl (goK rfl (ay ⟨c,rfl,h⟩))
 unfold aiV;refine aX (λy=>∃c:Nat,y=((c:Int),R,out)/\c<n/\Pr out c/\jr out c a/\jr out c b/\(∀y,jr out y a->jr out y b->jr out y c)/\∀d,Dom E d a->Dom E d b->Dom E d c) ?_ λy ⟨c,e,h⟩=>by subst e;exact aY (by simp) (aY (by simp) (ay ⟨c,rfl,h⟩))
 refine aX (λy=>∃c:Nat,y=(c:Int)/\c<n/\Pr out c/\jr out c a/\jr out c b/\(∀y,jr out y a->jr out y b->jr out y c)/\∀d,Dom E d a->Dom E d b->Dom E d c) ?_ λy ⟨c,e,h⟩=>ay ⟨c,by rw[e],h⟩;refine bf (λs:Int×Int=>∃a' b':Nat,s=((a':Int),(b':Int))/\a'<n/\b'<n/\Pr out a'/\Pr out b'/\jr out a' a/\jr out b' b/\(∀y,jr out y a->jr out y b->jr out y a'/\jr out y b')/\∀d,Dom E d a->Dom E d b->Dom E d a'/\Dom E d b')
  (λs=>rk s.1.toNat+rk s.2.toNat) ⟨a,b,rfl,ha,hb,pa,pb,.refl,.refl,λy h1 h2=>⟨h1,h2⟩,λd h1 h2=>⟨h1,h2⟩⟩ λs ⟨a',b',e,h1,h2,h3,h4,h5,h6,h7,h8⟩=>?_
 subst e;refine bF (λhne=>?_) (λheq=>ay ?_)
 rotate_left
 .have:a'=b':=by simp at heq;omega
  subst this;exact⟨a',rfl,h1,h3,h5,h6,λy g1 g2=>(h7 y g1 g2).1,λd g1 g2=>(h8 d g1 g2).1⟩
 have hne:a'≠b':=by simp at hne;omega
 obtain⟨r1,r2⟩:=hR;have hol:=hT.len;refine aY (ak.2 ⟨by simp only;omega,by simp only;omega⟩) (aY (ak.2 ⟨by simp only;omega,by simp only;omega⟩) ?_);simp only[Q1,r2 _ h1,r2 _ h2,Tv (show a'<out.length by omega),Tv (show b'<out.length by omega)];refine aX (λs:Int×Int=>∃a2 b2:Nat,s=((a2:Int),(b2:Int))/\(a2<n/\b2<n/\Pr out a2/\Pr out b2/\jr out a2 a/\jr out b2 b/\(∀y,jr out y a->jr out y b->jr out y a2/\jr out y b2)/\∀d,Dom E d a->Dom E d b->Dom E d a2/\Dom E d b2)/\rk a2+rk b2<rk a'+rk b') ?_ λs ⟨a2,b2,e,q1,q2⟩=>by subst e;exact ay ⟨⟨a2,b2,rfl,q1⟩,by simpa using q2⟩
 refine bF (λhlt=>?_) (λhge=>?_)
 .have hlt:rk b'<rk a':=by simpa using hlt
  have h0:a'≠0:=λe=>by rw[e,hG.zero]at hlt;omega
  have hu:0<=up out a':=h3.resolve_left h0;obtain⟨v1,v2,v3⟩:=hT.val h1 hu;refine aY (ak.2 ⟨by omega,by omega⟩) (ay ⟨(up out a').toNat,b',by rw[US hu],⟨v1,h2,v3,h4,jr.trans (.up hu .refl) h5,h6,λy g1 g2=>?_,λd g1 g2=>?_⟩,by omega⟩)
  .obtain ⟨q1,q2⟩:=h7 y g1 g2;exact⟨uz q1 λe=>by subst e;have:=(yx hT q2 h2).2.1;omega,q2⟩
  .obtain ⟨q1,q2⟩:=h8 d g1 g2;exact⟨hT.dom h1 hu d q1 λe=>by subst e;have:=En hG h1 h2 q2;omega,q2⟩
 .have hge:rk a'<=rk b':=by simpa using hge
  have hlt:rk a'<rk b':=Nat.lt_of_le_of_ne hge λe=>hne (hG.inj h1 h2 e);have h0:b'≠0:=λe=>by rw[e,hG.zero]at hlt;omega
  have hu:0<=up out b':=h4.resolve_left h0;obtain⟨v1,v2,v3⟩:=hT.val h2 hu;refine aY (ak.2 ⟨by omega,by omega⟩) (ay ⟨a',(up out b').toNat,by rw[US hu],⟨h1,v1,h3,v3,h5,jr.trans (.up hu .refl) h6,λy g1 g2=>?_,λd g1 g2=>?_⟩,by omega⟩)
  .obtain ⟨q1,q2⟩:=h7 y g1 g2;exact⟨q1,uz q2 λe=>by subst e;have:=(yx hT q1 h1).2.1;omega⟩
  .obtain ⟨q1,q2⟩:=h8 d g1 g2;exact⟨q1,hT.dom h2 hu d q2 λe=>by subst e;have:=En hG h2 h1 q1;omega⟩
theorem J6{l:List Int}(hl:l.length<=1000000):f28 l=some l.reverse:=by
 apply ok_eq;unfold f28;refine aX (λy=>y=l.reverse) ?_ λy e=>by subst e;exact aY (by simp) (ay rfl)
 refine aX (λy=>y=l.reverse) ?_ λy e=>ay e;refine bf (λs:Int×Int×List Int=>∃i:Nat,s.1=i/\s.2.1=(l.length:Int)-1-i/\s.2.2.length=l.length/\i<=l.length/\∀k,k<l.length->s.2.2.getD k 0=if k<i\/l.length-1-k<i then l.getD (l.length-1-k) 0 else l.getD k 0)
  (λs=>l.length-s.1.toNat) ⟨0,rfl,by simp only;rw[aI (by omega)];omega,rfl,by omega,λk hk=>by rw[QR (by omega)]⟩ λ⟨i',j,m⟩ ⟨i,e1,e2,e3,e4,e5⟩=>?_
 simp only at e1 e2 e3 e5;subst e1;subst e2;refine bF (λhc=>?_) (λhc=>ay ?_)
 rotate_left
 .have hc:¬ ((i:Int)<(l.length:Int)-1-i):=by simpa using hc
  show m=l.reverse;refine vn (by simp[e3]) λk h1 h2=>?_;have hk:k<l.length:=by omega
  have:=e5 k hk;rw[getD_at _ h1]at this;rw[this,List.getElem_reverse];split
  .rw [getD_at _ (by omega)]
  .rename_i hh;have:l.length-1-k=k:=by omega
   simp only[this];rw[getD_at _ hk]
 have hc:(i:Int)<(l.length:Int)-1-i:=by simpa using hc
 obtain⟨j,hj⟩ :∃j:Nat,(l.length:Int)-1-i=j:=⟨((l.length:Int)-1-i).toNat,by omega⟩;rw[hj];have hjl:j<m.length:=by omega
 have hil:i<m.length:=by omega
 refine aY (ak.2 ⟨by simp only;omega,by simp only;omega⟩) (aY (ak.2 ⟨by simp only;omega,by simp only;omega⟩) (aY (ak.2 ⟨by simp only;omega,by simp only;omega⟩) (aY (ak.2 ⟨by simp only;omega,by simp only[UX];omega⟩) ?_)));simp only[Q1];have hw:cu ((i:Int)+1)=((i+1:Nat):Int):=by rw[aI (by omega)];omega
 have hw2:cu ((j:Int)-1)=(l.length:Int)-1-((i+1:Nat):Int):=by rw[aI (by omega)];omega
 rw[hw,hw2];refine ay ⟨⟨i+1,rfl,rfl,by simp[e3],by omega,λk hk=>?_⟩,by simp only[Q1];omega⟩;have hji:=e5 j (by omega);have hii:=e5 i (by omega);rw[QR (by omega)]at hji hii;rw[lQ (by simp only[UX];exact hjl),lQ hil];by_cases k1:k=j
 .rw [Qt k1,hii,Qt (by omega)];congr 1;omega
 .rw [QR k1];by_cases k2:k=i
  .rw [Qt k2,hji,Qt (by omega)];congr 1;omega
  .rw [QR k2,e5 k hk];by_cases k3:k<i\/l.length-1-k<i
   .rw [Qt k3,Qt (by omega)]
   .rw [QR k3,QR (by omega)]
theorem adB{nm:List UInt8}{pa re:Int}{bs:List aH}(hl:bs.length<=1000)(h0:0<bs.length)(hE:kU bs)(hC:VF bs):∃O:List Nat,f8 nm pa re bs=some (O.map Int.ofNat)/\Od bs.length (Ed bs) O:=by
 have h:Ok (f8 nm pa re bs) λy=>∃O:List Nat,y=O.map Int.ofNat/\Od bs.length (Ed bs) O:=by
  unfold f8;refine aY (gy.2 (by omega)) (lU rfl ?_);simp only[Q1];have hs :∀x,(List.replicate bs.length false).getD x false=false:=λx=>by rw[Q2,KK];split<;>rfl
  have hcn:cntF (List.replicate bs.length false)=bs.length:=by simp[cntF,qt]
  refine aX _ (Tt (nm:=nm) (pa:=pa) (re:=re) hE hl 1048576 0 _ eInt h0 (by simp) (hs 0) (by omega) (by simp;omega)) λy ⟨s',L,e,hv,hsz⟩=>?_;subst e;have hll:L.length<=1000:=by omega
  simp only;refine lU (J6 (by simp;omega)) (ay ⟨L.reverse,by simp,ana h0 (λhe=>Gg hE he) (agE hE hC) hs hv⟩)
 obtain⟨y,hy,O,e,h⟩:=h;exact⟨O,by rw[hy,e],h⟩
theorem ani{n:Nat}{E:Nat->Nat->Prop}{O:List Nat}(h:Od n E O){i:Nat}(hi:i<n):∃b:Nat,(O.map Int.ofNat).getD i 0=b/\b<n/\O.idxOf b=i:=by
 have hil:i<O.length:=by rw[h.len];exact hi
 refine⟨O[i],?_,h.mem.1 (Z2 hil),h.nd.idxOf_getElem i hil⟩;rw[getD_at _ (by simpa using hil)];simp
def Bp(n:Nat)(E:Nat->Nat->Prop)(out:List Int)(l:List Int)(z:Int):Prop:=(z=-1/\∀u:Nat,(u:Int)∈l->¬ Pr out u)\/∃c:Nat,z=c/\c<n/\Pr out c/\(∀u:Nat,(u:Int)∈l->Pr out u->jr out c u)/\(∀y,(∀u:Nat,(u:Int)∈l->Pr out u->jr out y u)->jr out y c)/\∀d,(∀u:Nat,(u:Int)∈l->Pr out u->Dom E d u)->Dom E d c
def Fx(n:Nat)(E:Nat->Nat->Prop)(rk:Nat->Nat)(out:List Int)(i:Nat):Prop :=∀v,v<n->v≠0->rk v<i->∀p,E p v->Pr out p->jr out (up out v).toNat p
section
variable {n:Nat} {E:Nat->Nat->Prop} {rk:Nat->Nat} {R out:List Int}
theorem agG(hG:Gr n E rk)(hT:Tb n E rk out)(hR:Rk n rk R){l:List Int}{z:Int}{u:Nat}(hu:u<n)(pu:Pr out u)(h:Bp n E out l z):Ok (bif decide (z<0)then some (u:Int)else Option.bind (f31 z u R out) λc=>some c.1) λy=>Bp n E out (l++[(u:Int)]) y:=by
 refine bF (λhz=>ay ?_) λhz=>?_
 .have hz:z<0:=by simpa using hz
  rcases h with⟨_,h⟩|⟨c,e,_⟩
  .refine .inr ⟨u,rfl,hu,pu,λw hw pw=>?_,λy hy=>hy u (by simp) pu,λd hd=>hd u (by simp) pu⟩;rcases QQ.1 hw with hw|hw
   .exact absurd pw (h w hw)
   .rw [Q6]at hw;have:w=u:=by omega
    subst this;exact .refl
  .omega
 .have hz:¬ z<0:=by simpa using hz
  rcases h with⟨e,_⟩|⟨c,e,hc,pc,h1,h2,h3⟩
  .omega
  subst e;refine aX _ (agF hG hT hR hc hu pc pu) λy ⟨d,e,q1,q2,q3,q4,q5,q6⟩=>?_;subst e;refine ay (.inr ⟨d,rfl,q1,q2,λw hw pw=>?_,λy hy=>q5 y (h2 y λw hw pw=>hy w (XS _ hw) pw) (hy u (by simp) pu),λx hx=>q6 x (h3 x λw hw pw=>hx w (XS _ hw) pw) (hx u (by simp) pu)⟩);rcases QQ.1 hw with hw|hw
  .exact q3.trans (h1 w hw pw)
  .rw [Q6]at hw;have:w=u:=by omega
   subst this;exact q4
theorem agH(hG:Gr n E rk){i b:Nat}(hP:Ps n E rk out i)(hb:b<n)(h0:b≠0)(hr:rk b=i){l:List Int}(hl :∀p:Int,p∈l↔∃u:Nat,p=u/\E u b){z:Int}(h:Bp n E out l z):∃c:Nat,z=c/\Bst n E rk out b c:=by
 rcases h with⟨_,h⟩|⟨c,e,q1,q2,q3,q4,q5⟩
 .obtain ⟨u,hu,hur⟩:=hG.pred hb h0;exact absurd (hP.D (hG.inn hu).1 (by omega)) (h u ((hl _).2 ⟨u,rfl,hu⟩))
 .exact ⟨c,e,q1,q2,λp hp pp=>q3 p ((hl _).2 ⟨p,rfl,hp⟩) pp,λy hy=>q4 y λu hu pu=>by obtain⟨w,e,hw⟩:=(hl _).1 hu;exact hy u (by rw[show u=w by omega];exact hw) pu,λd hd=>q5 d λu hu pu=>by obtain⟨w,e,hw⟩:=(hl _).1 hu;exact hd u (by rw[show u=w by omega];exact hw) pu⟩
theorem J7{b:Nat}{z:Int}(hb:b<out.length)(h:up out b=z):out.set b z=out:=by
 refine vn (by simp) λk h1 h2=>?_;rw[List.getElem_set];split
 .rename_i e;subst e;rw[<-h];unfold up;rw[getD_at _ h2]
 .rfl
end
structure Idm(n:Nat)(E:Nat->Nat->Prop)(rk:Nat->Nat)(out:List Int):Prop where
 T:Tb n E rk out
 pr :∀v,v<n->Pr out v
 iff :∀{a b},a<n->b<n->(jr out a b↔Dom E a b)
theorem agI{nm:List UInt8}{pa re:Int}{bs:List aH}(hl:bs.length<=1000)(h0:0<bs.length)(hE:kU bs){O:List Nat}(hO:f8 nm pa re bs=some (O.map Int.ofNat))(hOd:Od bs.length (Ed bs) O):Ok (f10 nm pa re bs) λout=>Idm bs.length (Ed bs) (λv=>O.idxOf v) out:=by
 have hG:=hOd.gr;have hlt:=hOd.lt;have hol:=hOd.len;unfold f10;refine lU hO ?_;have hcl:(O.map Int.ofNat).length=bs.length:=by simp[hol]
 have hat:=λ{i:Nat} (hi:i<bs.length)=>ani hOd hi;generalize O.map Int.ofNat=c0 at hcl hat;rw[hcl];refine aY (gy.2 (by omega)) ?_;simp only[Q1];refine aX (λR=>Rk bs.length (λv=>O.idxOf v) R) ?_ λR hR=>?_
 .refine bf (λs:Int×List Int=>∃i:Nat,s.1=i/\i<=bs.length/\s.2.length=bs.length/\∀v,v<bs.length->O.idxOf v<i->s.2.getD v 0=(O.idxOf v:Nat)) (λs=>bs.length-s.1.toNat) ⟨0,rfl,by omega,by simp,λv _ h=>absurd h (vv _)⟩ λ⟨i',R⟩ ⟨i,e1,e2,e3,e4⟩=>?_;simp only at e1 e3 e4;subst e1;refine bF (λhc=>?_) (λhc=>ay ?_)
  rotate_left
  .have:i=bs.length:=by simp at hc;omega
   subst this;exact⟨e3,λv hv=>e4 v hv (hlt v hv)⟩
  have hi:i<bs.length:=by simpa using hc
  obtain⟨b,hb1,hb2,hb3⟩:=hat hi;refine aY (ak.2 ⟨by simp only;omega,by simp only;omega⟩) ?_;simp only[Q1,hb1];refine aY (ak.2 ⟨by omega,by omega⟩) ?_;have hw:cu ((i:Int)+1)=((i+1:Nat):Int):=by rw[aI (by omega)];omega
  rw[hw];refine ay ⟨⟨i+1,rfl,by omega,by simp[e3],λv hv hvi=>?_⟩,by simp only[Q1];omega⟩;simp only;rw[lQ (by omega)];by_cases ev:v=b
  .rw [Qt ev,ev,hb3]
  .rw [QR ev];refine e4 v hv ?_;have:O.idxOf v≠i:=λe=>ev (hG.inj hv hb2 (by omega));omega
 refine aX _ (J5 hE hl) λP ⟨hP1,hP2⟩=>?_;refine aY (gy.2 (by omega)) ?_;refine aX (λy=>∃out,y=(P,out)/\Ps bs.length (Ed bs) (λv=>O.idxOf v) out 1) ?_ λy ⟨out,e,hPs⟩=>?_
 .have hrl:(List.replicate bs.length (0:Int)).length=bs.length:=by simp
  refine bf (λs:List (List Int)×Int×List Int=>∃(i:Nat) (out:List Int),s=(P,(i:Int),out)/\i<=bs.length/\out.length=bs.length/\∀v,v<i->out.getD v (-1)=-1) (λs=>bs.length-s.2.1.toNat) ⟨0,_,rfl,by omega,hrl,λv h=>absurd h (vv _)⟩ λs ⟨i,out,e,e2,e3,e4⟩=>?_;subst e;refine bF (λhc=>?_) (λhc=>ay ⟨out,rfl,ac_ hG e3 λv hv=>e4 v ?_⟩)
  rotate_left
  .simp only[hrl]at hc;simp at hc;omega
  have hi:i<bs.length:=by simp only[hrl]at hc;simpa using hc
  refine aY (ak.2 ⟨by simp only;omega,by simp only;omega⟩) ?_;have hw:cu ((i:Int)+1)=((i+1:Nat):Int):=by rw[aI (by omega)];omega
  simp only[Q1,hw];refine ay ⟨⟨i+1,_,rfl,by omega,by simp[e3],λv hv=>?_⟩,by simp only[Q1];omega⟩;have:=lC (out:=out) (z:=-1) (by omega:i<out.length) v;unfold up at this;rw[this];split
  .rfl
  .exact e4 v (by omega)
 subst e;refine aX (λout=>Idm bs.length (Ed bs) (λv=>O.idxOf v) out) ?_ λout h=>ay h;refine bf (λs:Bool×List Int=>Ps bs.length (Ed bs) (λv=>O.idxOf v) s.2 1/\(s.1=false->Ps bs.length (Ed bs) (λv=>O.idxOf v) s.2 bs.length/\Fx bs.length (Ed bs) (λv=>O.idxOf v) s.2 bs.length)) (λs=>if s.1 then ms bs.length (λv=>O.idxOf v) s.2 bs.length+1 else 0)
  ⟨hPs,λh=>by cases h⟩ λ⟨ch,out⟩ ⟨g1,g2⟩=>?_
 simp only at g1 g2;refine bF (λhch=>?_) (λhch=>ay ?_)
 rotate_left
 .obtain ⟨k1,k2⟩:=g2 hch;have hpr :∀v,v<bs.length->Pr out v:=λv hv=>k1.D hv (hlt v hv);exact⟨k1.T,hpr,λha hb=>agp hG k1 hlt (λv hv hv0 p hp pp=>k2 v hv hv0 (hlt v hv) p hp pp) ha hb⟩
 have hch:ch=true:=hch;subst hch;refine aY (CG.2 ⟨⟨by omega,by omega⟩,by omega⟩) ?_;have hn1:Int.toNat (1:Int)=1:=rfl;simp only[hn1];obtain⟨m,hm⟩ :∃m,bs.length-1=m:=⟨_,rfl⟩;simp only[hm];refine aX (λs=>Ps bs.length (Ed bs) (λv=>O.idxOf v) s.2 bs.length/\(s.1=false->s.2=out/\Fx bs.length (Ed bs) (λv=>O.idxOf v) s.2 bs.length)/\(s.1=true->ms bs.length (λv=>O.idxOf v) s.2 bs.length<ms bs.length (λv=>O.idxOf v) out bs.length)) ?_ λ⟨ch,out'⟩ ⟨k1,k2,k3⟩=>ay ⟨⟨ac9 hG hlt k1,λe=>⟨k1,(k2 e).2⟩⟩,?_⟩
 rotate_left
 .cases ch with
  |false=>simp
  |true=>have:=k3 rfl;simp;omega
 refine bf (λs:Bool×Int×List Int=>∃k:Nat,s.2.1=k/\k<=m/\Ps bs.length (Ed bs) (λv=>O.idxOf v) s.2.2 (k+1)/\(s.1=false->s.2.2=out/\Fx bs.length (Ed bs) (λv=>O.idxOf v) s.2.2 (k+1))/\(s.1=true->ms bs.length (λv=>O.idxOf v) s.2.2 bs.length<ms bs.length (λv=>O.idxOf v) out bs.length)) (λs=>m-s.2.1.toNat)
  ⟨0,rfl,by omega,g1,λ_=>⟨rfl,λv hv hv0 hr=>by have:=JY hG hv hv0;simp only at hr this;omega⟩,λh=>by cases h⟩ λ⟨ch,k',out1⟩ ⟨k,e1,e2,e3,e4,e5⟩=>?_
 simp only at e1 e3 e4 e5;subst e1;refine bF (λhc=>?_) (λhc=>ay ?_)
 rotate_left
 .have hk:k=m:=by simp at hc;omega
  have:k+1=bs.length:=by omega
  rw[this]at e3 e4;exact⟨e3,e4,e5⟩
 have hk:k<m:=by simpa using hc
 obtain⟨b,hb1,hb2,hb3⟩:=hat (show 1+k<bs.length by omega);have hb0:b≠0:=λe=>by have hz:O.idxOf 0=0:=hG.zero;rw[e,hz]at hb3;omega
 have hrb:(λv=>O.idxOf v) b=k+1:=by simp only;omega
 have ati:=e3.T.len;have hbl:b<out1.length:=by omega
 refine aY (ak.2 ⟨by simp only;omega,by simp only;omega⟩) ?_;simp only[Q1,hb1];refine aY (ak.2 ⟨by omega,by omega⟩) ?_;obtain⟨hpm,hpl⟩:=hP2 b hb2;have hpe:P.getD b eInt=P.getD b []:=rfl;rw[hpe];generalize P.getD b []=l at hpm hpl;refine aX (λz=>∃c:Nat,z=c/\Bst bs.length (Ed bs) (λv=>O.idxOf v) out1 b c) ?_ λz ⟨c,ez,hz⟩=>?_
 .refine jA (Q:=λz=>Bp bs.length (Ed bs) out1 l z) ?_ λz hz=>agH hG e3 hb2 hb0 hrb hpm hz;refine bf (λs:Int×Int=>∃j:Nat,s.2=j/\j<=l.length/\Bp bs.length (Ed bs) out1 (l.take j) s.1) (λs=>l.length-s.2.toNat) ⟨0,rfl,by omega,.inl ⟨rfl,by simp⟩⟩ λ⟨z,j'⟩ ⟨j,q1,q2,q3⟩=>?_;simp only at q1 q3;subst q1;refine bF (λhc=>?_) (λhc=>ay ?_)
  rotate_left
  .have:j=l.length:=by simp at hc;omega
   rw[this,W8]at q3;exact q3
  have hj:j<l.length:=by simpa using hc
  refine aY (ak.2 ⟨by simp only;omega,by simp only;omega⟩) ?_;have e:l.getD j 0=l[j]:=getD_at _ hj;simp only[Q1,e];obtain⟨u,hu,hue⟩:=(hpm _).1 (Z2 hj);have hun:=(Gg hE hue).1;rw[hu];have hw:cu ((j:Int)+1)=((j+1:Nat):Int):=by rw[aI (by omega)];omega
  refine aX (λs=>s=true↔¬ Pr out1 u) ?_ λs hs=>aX (λz=>Bp bs.length (Ed bs) out1 (l.take (j+1)) z) ?_ λz' hz'=>?_
  .refine bF (λhc=>aY (ak.2 ⟨by omega,by omega⟩) (ay ?_)) (λhc=>ay ?_)
   .have hc:u≠0:=by simp at hc;omega
    simp only[Q1,Tv (show u<out1.length by omega),XX];unfold Pr;exact⟨λh hh=>by rcases hh with hh|hh<;>omega,λh=>by have:¬ 0<=up out1 u:=λh'=>h (.inr h');omega⟩
   .have hc:u=0:=by simp at hc;omega
    exact⟨λh=>(by cases h),λh=>absurd (.inl hc) h⟩
  .rw [take_snoc hj,hu];refine bF (λhc=>ay ?_) λhc=>aX (λz=>Bp bs.length (Ed bs) out1 (l.take j++[(u:Int)]) z) ?_ λz hz=>ay hz
   .have hnp:=hs.1 hc;rcases q3 with⟨z1,z2⟩|⟨c,z1,z2,z3,z4,z5,z6⟩
    .refine .inl ⟨z1,λw hw=>?_⟩;rcases QQ.1 hw with hw|hw
     .exact z2 w hw
     .rw [Q6]at hw;rw[show w=u by omega];exact hnp
    .refine .inr ⟨c,z1,z2,z3,λw hw pw=>?_,λy hy=>z5 y λw hw pw=>hy w (XS _ hw) pw,λd hd=>z6 d λw hw pw=>hd w (XS _ hw) pw⟩;rcases QQ.1 hw with hw|hw
     .exact z4 w hw pw
     .rw [Q6]at hw;exact absurd (show Pr out1 u by rw[<-show w=u by omega];exact pw) hnp
   .have hp:Pr out1 u:=V2 λh=>by rw[hs.2 h]at hc;cases hc
    exact agG hG e3.T hR hun hp q3
  .rw [hw];exact ay ⟨⟨j+1,rfl,by omega,hz'⟩,by simp only[Q1];omega⟩
 subst ez;refine aY (ak.2 ⟨by omega,by omega⟩) ?_;simp only[Q1,Tv hbl];have hw:cu ((k:Int)+1)=((k+1:Nat):Int):=by rw[aI (by omega)];omega
 have hstep:=agn hG e3 hb2 hb0 hrb hz;refine aX (λy=>∃ch',y=(ch',out1.set b (c:Int))/\(ch'=false->ch=false/\up out1 b=c)/\(ch'=true->ch=true\/up out1 b≠c)) ?_ λy ⟨ch',ey,y1,y2⟩=>?_
 .refine bF (λhc=>aY (ak.2 ⟨by omega,by omega⟩) (ay ⟨true,rfl,λh=>(by cases h),λ_=>.inr (by simpa using hc)⟩)) (λhc=>ay ⟨ch,?_,λh=>⟨h,by simpa using hc⟩,λh=>.inl h⟩);have hc:up out1 b=c:=by simpa using hc
  rw[J7 hbl hc]
 subst ey;rw[hw];refine ay ⟨⟨k+1,rfl,by omega,hstep,λhf=>?_,λht=>?_⟩,by simp only[Q1];omega⟩
 .obtain ⟨f1,f2⟩:=y1 hf;obtain⟨f3,f4x⟩:=e4 f1;simp only;rw[J7 hbl f2];refine⟨f3,λv hv hv0 hr p hp pp=>?_⟩;by_cases ev:v=b
  .subst ev;rw[f2,Q1];exact hz.all p hp pp
  .refine f4x v hv hv0 ?_ p hp pp;have:O.idxOf v≠k+1:=λe=>ev (hG.inj hv hb2 (by omega));simp only at hr ⊢;omega
 .simp only;have hdec:up out1 b≠c->ms bs.length (λv=>O.idxOf v) (out1.set b (c:Int)) bs.length<ms bs.length (λv=>O.idxOf v) out1 bs.length:=λh=>ajB hG hlt e3 hb2 hb0 hrb hz h;by_cases hne:up out1 b=c
  .rw [J7 hbl hne];rcases y2 ht with h|h
   .exact e5 h
   .exact absurd hne h
  .have:=hdec hne;cases hch:ch with
   |true=>have:=e5 hch;omega
   |false=>rw[(e4 hch).1]at this ⊢;exact this
theorem wu{S:Type}{n:Nat}{N:Int}(hN:N=n)(hn:n<=1000000){B:Int×S->Option ((Int×S) ⊕ S)}{Q:S->Prop}(I:Nat->S->Prop){s0:S}(h0:I 0 s0)
  (hs :∀i s,i<n->I i s->Ok (B ((i:Int),s)) (Gq (λa=>a.1=cu ((i:Int)+1)/\I (i+1) a.2) Q)) (he :∀s,I n s->Q s) :
  Ok (aT (λs=>bif decide (s.1<N)then B s else some (.inr s.2)) ((0:Int),s0)) Q:=by
 refine bf (λs:Int×S=>∃i:Nat,s.1=i/\i<=n/\I i s.2) (λs=>n-s.1.toNat) ⟨0,rfl,by omega,h0⟩ λ⟨i',s⟩ ⟨i,e,hi,h⟩=>?_;simp only at e h;subst e;refine bF (λhc=>?_) λhc=>ay (he s ?_)
 .have hc:i<n:=by simp at hc;omega
  refine jA (hs i s hc h) λy hy=>?_;cases y with
  |inl a=>obtain⟨e1,e2⟩:=hy;rw[aI (by omega)]at e1;exact⟨⟨i+1,by rw[e1];omega,by omega,e2⟩,by rw[e1];simp only[Q1];omega⟩
  |inr r=>exact hy
 .have:i=n:=by simp at hc;omega
  rw[<-this];exact h
theorem Tz{n:Nat}{E:Nat->Nat->Prop}{rk:Nat->Nat}{out:List Int}(hG:Gr n E rk)(hI:Idm n E rk out){a b:Nat}(ha:a<n)(hb:b<n):Ok (f34 out a b) λy=>y=true↔Dom E a b:=by
 unfold f34;have hT:=hI.T;have hol:=hT.len;refine aX (λy:Int=>0<=y↔Dom E a b) ?_ λy hy=>ay (by rw[XX];exact hy);refine bf (λs:Int=>(s=-1/\¬ jr out a b)\/∃c:Nat,s=c/\c<n/\(jr out a b↔jr out a c)) (λs=>if 0<=s then rk s.toNat+1 else 0) (.inr ⟨b,rfl,hb,Iff.rfl⟩) λs hs=>?_;rcases hs with⟨e,hn⟩|⟨c,e,hc,hi⟩
 .subst e;refine aX (λs=>s=false) (yR (by decide) (ay rfl)) λs e=>?_;subst e;exact yR rfl (ay ⟨λh=>absurd h (by omega),λh=>absurd ((hI.iff ha hb).2 h) hn⟩)
 subst e;refine aX (λs=>s=!(decide (a=c))) (goT (by simp) (ay (by rw[show decide ((a:Int)=(c:Int))=decide (a=c) from decide_eq_decide.2 (by omega)]))) λs e=>?_;subst e;refine bF (λhne=>?_) λheq=>ay ?_
 .have hne:a≠c:=by simpa using hne
  refine aY (ak.2 ⟨by omega,by omega⟩) ?_;simp only[Q1,Tv (show c<out.length by omega)];refine ay ⟨?_,?_⟩
  .by_cases hu:0<=up out c
   .obtain ⟨v1,v2,v3⟩:=hT.val hc hu;refine .inr ⟨(up out c).toNat,by omega,v1,hi.trans ⟨λh=>uz h hne,λh=>.up hu h⟩⟩
   .have:=hT.low hc;refine .inl ⟨by omega,λh=>?_⟩;have:=hi.1 h;cases this with
    |refl=>exact hne rfl
    |up h0 _=>exact hu h0
  .rw [Qt (by omega:(0:Int)<=(c:Int))];split
   .rename_i hu;obtain⟨v1,v2,v3⟩:=hT.val hc hu;omega
   .omega
 .have heq:a=c:=by simpa using heq
  subst heq;exact⟨λ_=>(hI.iff ha hb).1 (hi.2 .refl),λ_=>by omega⟩
theorem Es{f:aK}(hg:Good f):∃(O:List Nat) (out:List Int),f8 f.name f.params f.regs f.blocks=some (O.map Int.ofNat)/\Od f.blocks.length (Ed f.blocks) O/\f10 f.name f.params f.regs f.blocks=some out/\Idm f.blocks.length (Ed f.blocks) (λv=>O.idxOf v) out:=by obtain⟨h1,h2,h3,h4⟩:=hg;obtain⟨O,e1,e2⟩:=adB (nm:=f.name) (pa:=f.params) (re:=f.regs) h1 h2 h3 h4;obtain⟨out,e3,e4⟩:=agI h1 h2 h3 e1 e2;exact⟨O,out,e1,e2,e3,e4⟩
theorem CW{f:aK}(hg:Good f){a b:Nat}(ha:a<f.blocks.length)(hb:b<f.blocks.length):Ok (f19 f.name f.params f.regs f.blocks a b) λy=>y=true↔Dom (Ed f.blocks) a b:=by obtain⟨O,out,e1,e2,e3,e4⟩:=Es hg;unfold f19;refine aX (λy=>y=true↔Dom (Ed f.blocks) a b) (goT (Wc (by omega)) (goT (Wc (by omega)) (goT (Wc (by omega)) (goT (Wc (by omega)) (lU e3 (aX _ (Tz e2.gr e4 ha hb) λy hy=>ay hy)))))) λy hy=>ay hy
def VQ(l:List Int):List Int:=l.mergeSort λx y=>decide (x<=y)
theorem ajK{l:List Int}(h:l.length<=1000000):Zt l=some (VQ l):=by unfold Zt VQ;have:decide (l.length<4611686018427387904)=true:=Wc (by omega);rw[this]
theorem agJ{l:List Int}(h:l.length<=2):(if l.length=2/\l.getD 1 0<l.getD 0 0 then[l.getD 1 0,l.getD 0 0]else l)=VQ l:=by
 unfold VQ;have ht :∀a b c:Int,decide (a<=b)=true->decide (b<=c)=true->decide (a<=c)=true:=λa b c h1 h2=>by simp at *;omega
 have hs:=List.pairwise_mergeSort (le:=λx y:Int=>decide (x<=y)) ht (λa b=>by simp;omega) l;have hp:=List.mergeSort_perm l λx y:Int=>decide (x<=y);refine List.Perm.eq_of_pairwise (le:=λa b:Int=>decide (a<=b)=true) (λa b _ _ h h'=>by simp at h h';omega) ?_ hs (List.Perm.trans ?_ hp.symm)
 .match l,h with
  | [],_=>simp
  | [x],_=>simp
  | [x,y],_=>
   by_cases hc:y<x
   .simp [hc];omega
   .simp [hc];omega
 .match l,h with
  | [],_=>simp
  | [x],_=>simp
  | [x,y],_=>
   by_cases hc:y<x
   .simp only[K7,Km,List.getD_cons_succ,List.getD_cons_zero,hc,and_true];exact List.Perm.swap x y []
   .simp [hc]
open Classical in
noncomputable def PD(bs:List aH)(b:Nat)(l:List Int):List dZ:=(l.filter λc=>decide (Dom (Ed bs) c.toNat b)).map λc=>dZ.mk b c
noncomputable def Nc(bs:List aH)(n:Nat):List dZ:=(List.range n).flatMap λb=>PD bs b (VQ (dw bs b))
open Classical in
theorem Ya{bs:List aH}{b:Nat}{l:List Int}{e:dZ}:e∈PD bs b l↔∃c∈l,Dom (Ed bs) c.toNat b/\e=dZ.mk b c:=by
 unfold PD;rw[XN];constructor
 .rintro ⟨c,hc,e⟩;rw[Jn,XX]at hc;exact⟨c,hc.1,hc.2,e.symm⟩
 .rintro ⟨c,h1,h2,e⟩;exact⟨c,Jn.2 ⟨h1,Wc h2⟩,e.symm⟩
theorem Pn(bs:List aH)(b:Nat)(l:List Int):(PD bs b l).length<=l.length:=by unfold PD;rw[W5];exact qf _ _
theorem Hl{l:List Int}{x:Int}:x∈VQ l↔x∈l:=List.mem_mergeSort
theorem yO(bs:List aH)(b:Nat):(dw bs b).length<=2:=by unfold dw succs;(repeat' split)<;>simp
theorem J8(bs:List aH)(n:Nat):Nc bs (n+1)=Nc bs n++PD bs n (VQ (dw bs n)):=by unfold Nc;rw[List.range_succ,List.flatMap_append];simp
theorem yP(bs:List aH):∀n,(Nc bs n).length<=2*n
 |0=>by simp[Nc]
 |n+1=>by have h1:=yP bs n;have h2:=Pn bs n (VQ (dw bs n));have h3:(VQ (dw bs n)).length=(dw bs n).length:=qd _;have h4:=yO bs n;rw[J8,Z0];omega
theorem Po{bs:List aH}(hE:kU bs){e:dZ}:e∈Nc bs bs.length↔∃u v:Nat,e=dZ.mk u v/\Ed bs u v/\Dom (Ed bs) v u:=by
 unfold Nc;rw[YY];constructor
 .rintro ⟨u,hu,he⟩;have hu:=V0.1 hu;obtain⟨c,h1,h2,e⟩:=Ya.1 he;have h1:=Hl.1 h1;have:=n_ hE hu _ h1;exact⟨u,c.toNat,by rw[e,show ((c.toNat:Nat):Int)=c by omega],⟨hu,by rw[show ((c.toNat:Nat):Int)=c by omega];exact h1⟩,h2⟩
 .rintro ⟨u,v,e,he,hd⟩;exact⟨u,V0.2 he.1,Ya.2 ⟨v,Hl.2 he.2,by rw[Q1];exact hd,e⟩⟩
theorem Yb{bs:List aH}{b c:Nat}(h:Dom (Ed bs) c b)(l:List Int):PD bs b (l++[(c:Int)])=PD bs b l++[dZ.mk b c]:=by unfold PD;rw[va,Z6,qS (by rw[Q1];simp only[XX];exact h)];rfl
theorem adC{bs:List aH}{b c:Nat}(h:¬ Dom (Ed bs) c b)(l:List Int):PD bs b (l++[(c:Int)])=PD bs b l:=by unfold PD;rw[va,Z6,qT (by rw[Q1];simpa using h)];simp
theorem Nh{f:aK}(hg:Good f):Ok (f13 f.name f.params f.regs f.blocks) λy=>y=Nc f.blocks f.blocks.length:=by
 obtain⟨O,out,e1,e2,e3,e4⟩:=Es hg;obtain⟨hl,h0,hE,hC⟩:=hg;unfold f13;generalize f.blocks=bs at *;refine lU e3 (aX (λy=>y=Nc bs bs.length) ?_ λy hy=>ay hy);refine wu rfl (by omega) (λi y=>y=Nc bs i) rfl (λi y hi hy=>?_) λy hy=>hy;subst hy;refine aY (ak.2 ⟨by simp only;omega,by simp only;omega⟩) ?_;simp only[Q1];refine lU (uy _ _ _ _) ?_;have hsd:succs (bs.getD i aj).aV (bs.getD i aj).dI (bs.getD i aj).bg=dw bs i:=rfl;rw[hsd];have hl2:=yO bs i;refine lU (ajK (by omega)) ?_;have hlen:(VQ (dw bs i)).length=(dw bs i).length:=qd _;have hacc:=yP bs i;refine aX (λy=>y=Nc bs (i+1)) ?_ λy e=>ay ⟨rfl,e⟩;rw[J8];have hin :∀x∈VQ (dw bs i),0<=x/\x<bs.length:=λx hx=>n_ hE hi _ (Hl.1 hx);generalize VQ (dw bs i)=l at hlen hin ⊢;refine wu rfl (by omega) (λj y=>y=Nc bs i++PD bs i (l.take j)) (by simp[PD]) (λj y hj hy=>?_) λy hy=>by rw[hy,W8]
 refine aY (ak.2 ⟨by simp only;omega,by simp only;omega⟩) ?_;have e:l.getD j 0=l[j]:=getD_at _ hj;simp only[Q1,e];have hr:=hin _ (Z2 hj);obtain⟨c,hc⟩ :∃c:Nat,l[j]=c:=⟨(l[j]).toNat,by omega⟩;rw[hc]at hr ⊢;have hbl:=Pn bs i (l.take j);rw[WF]at hbl;refine aX _ (Tz e2.gr e4 (by omega:c<bs.length) hi) λd hd=>?_;refine aX (λy=>y=Nc bs i++PD bs i (l.take (j+1))) ?_ λy e=>ay ⟨rfl,e⟩;rw[take_snoc hj,hc];refine bF (λh=>aY (by unfold bP;simp[hy];omega) (ay ?_)) λh=>ay ?_
 .rw [Yb (hd.1 h),hy,Wm]
 .rw [adC (λhh=>absurd (hd.2 hh) (by simp[h])),hy]
theorem J9{f:aK}(hg:Good f):Ok (f13 f.name f.params f.regs f.blocks) λy=>(∀e∈y,∃u v:Nat,e=dZ.mk u v/\Ed f.blocks u v/\Dom (Ed f.blocks) v u)/\(∀u v:Nat,Ed f.blocks u v->Dom (Ed f.blocks) v u->dZ.mk u v∈y)/\y.length<=2000:=jA (Nh hg) λy e=>by subst e;have hE:=hg.2.2.1;have:=hg.1;exact⟨λe he=>(Po hE).1 he,λu v h1 h2=>(Po hE).2 ⟨u,v,rfl,h1,h2⟩,by have:=yP f.blocks f.blocks.length;omega⟩
theorem Nj{l:List (List Int)}{k:Nat}(h:k<l.length):l.set k (l.getD k eInt)=l:=by
 refine vn (by simp) λj h1 h2=>?_;rw[List.getElem_set];split
 .rename_i e;subst e;rw[getD_at _ h2]
 .rfl
structure Fl(bs:List aH)(h:Nat)(m:List Bool)(st:List Int):Prop where
 len:m.length=bs.length
 stk :∀z∈st,∃u:Nat,z=u/\u<bs.length/\TU (Ed bs) h u
 snd :∀x,x<bs.length->m.getD x false=true->TU (Ed bs) h x
 hd:(∃s,Ed bs s h/\Dom (Ed bs) h s)->m.getD h false=true
 src :∀s,Ed bs s h->Dom (Ed bs) h s->m.getD s false=true\/(s:Int)∈st
 cls :∀x,x<bs.length->m.getD x false=true->x≠h->∀u,Ed bs u x->m.getD u false=true\/(u:Int)∈st
theorem ajL{bs:List aH}{h:Nat}{m:List Bool}(hE:kU bs)(hF:Fl bs h m []):∀x,x<bs.length->(m.getD x false=true↔TU (Ed bs) h x):=by
 have key :∀x,Lp (Ed bs) h x->m.getD x false=true:=by
  intro x hx
  induction hx with
  |src s1 s2 _=>exact(hF.src _ s1 s2).resolve_right (by simp)
  |pre hv he _ ih=>exact(hF.cls _ (Gg hE he).2 ih hv.ne _ he).resolve_right (by simp)
 intro x hx;refine⟨hF.snd x hx,λhi=>?_⟩;rcases hi with⟨e,hs⟩|hi
 .subst e;exact hF.hd hs
 .exact key x hi
theorem Yc{f:aK}(hg:Good f){h:Nat}(hh:h<f.blocks.length){B:List dZ}(hB1 :∀e∈B,∃u v:Nat,e=dZ.mk u v/\Ed f.blocks u v/\Dom (Ed f.blocks) v u)(hB2 :∀u v:Nat,Ed f.blocks u v->Dom (Ed f.blocks) v u->dZ.mk u v∈B)(hBl:B.length<=2000):
  Ok (f36 f.name f.params f.regs f.blocks h B) λm=>m.length=f.blocks.length/\∀x,x<f.blocks.length->(m.getD x false=true↔TU (Ed f.blocks) h x):=by
 obtain⟨hl,h0,hE,hC⟩:=hg;unfold f36;generalize f.blocks=bs at *;refine aX _ (J5 hE hl) λP ⟨hP1,hP2⟩=>aY (gy.2 (by omega)) ?_;simp only[Q1];have hrep :∀x,(List.replicate bs.length false).getD x false=false:=λx=>by rw[Q2,KK];split<;>rfl
 refine aX (λs=>Fl bs h s.1 s.2/\s.2.length<=2000) ?_ λ⟨m,st⟩ ⟨hF,hst⟩=>?_
 .refine bf (λs:Int×List Bool×List Int=>∃i:Nat,s.1=i/\i<=B.length/\s.2.1.length=bs.length/\(∀x,x<bs.length->(s.2.1.getD x false=true↔x=h/\∃e∈B.take i,e.to=h))/\(∀z,z∈s.2.2↔∃e∈B.take i,e.to=h/\z=e.from')/\s.2.2.length<=i) (λs=>B.length-s.1.toNat)
   ⟨0,rfl,by omega,by simp,λx hx=>⟨λh=>(by simp only at h;rw[hrep x]at h;cases h),λh=>by obtain⟨_,e,he,_⟩:=h;simp at he⟩,by simp,by simp⟩ λ⟨i',m,st⟩ ⟨i,q1,q2,q3,q4,q5,q6⟩=>?_
  simp only at q1 q3 q4 q5 q6;subst q1;refine bF (λhc=>?_) (λhc=>ay ?_)
  rotate_left
  .have:i=B.length:=by simp at hc;omega
   rw[this,W8]at q4 q5;have hex:(∃e∈B,e.to=(h:Int))->∃s,Ed bs s h/\Dom (Ed bs) h s:=λ⟨e,he,ht⟩=>by
    obtain⟨u,v,ee,h1,h2⟩:=hB1 e he;subst ee;have:v=h:=by simp only at ht;omega
    subst this;exact⟨u,h1,h2⟩
   have hto :∀s,Ed bs s h->Dom (Ed bs) h s->∃e∈B,e.to=(h:Int)/\e.from'=(s:Int):=λs h1 h2=>⟨_,hB2 s h h1 h2,rfl,rfl⟩
   refine⟨⟨q3,λz hz=>?_,λx hx hm=>?_,λ⟨s,h1,h2⟩=>?_,λs h1 h2=>?_,λx hx hm hne=>?_⟩,by simp only;omega⟩
   .obtain ⟨e,he,ht,ez⟩:=(q5 z).1 hz;obtain⟨u,v,ee,h1,h2⟩:=hB1 e he;subst ee;have:v=h:=by simp only at ht;omega
    subst this;refine⟨u,ez,h1.1,?_⟩;by_cases e:u=v
    .subst e;exact .inl ⟨rfl,_,h1,h2⟩
    .exact .inr (.src h1 h2 e)
   .obtain ⟨e,hs⟩:=(q4 x hx).1 hm;exact .inl ⟨e,hex hs⟩
   .obtain ⟨e,he,ht,_⟩:=hto s h1 h2;exact(q4 h hh).2 ⟨rfl,e,he,ht⟩
   .obtain ⟨e,he,ht,hf⟩:=hto s h1 h2;exact .inr ((q5 _).2 ⟨e,he,ht,hf.symm⟩)
   .exact absurd ((q4 x hx).1 hm).1 hne
  have hi:i<B.length:=by simpa using hc
  refine aY (ak.2 ⟨by simp only;omega,by simp only;omega⟩) ?_;have e:B.getD i (dZ.mk 0 0)=B[i]:=getD_at _ hi;simp only[Q1,e];have hw:cu ((i:Int)+1)=((i+1:Nat):Int):=by rw[aI (by omega)];omega
  refine aX (λy=>y.1.length=bs.length/\(∀x,x<bs.length->(y.1.getD x false=true↔x=h/\∃e∈B.take (i+1),e.to=h))/\(∀z,z∈y.2↔∃e∈B.take (i+1),e.to=h/\z=e.from')/\y.2.length<=i+1) ?_ λ⟨y1,y2⟩ ⟨r1,r2,r3,r4⟩=>by rw[hw];exact ay ⟨⟨i+1,rfl,by omega,r1,r2,r3,r4⟩,by simp only[Q1];omega⟩
  rw[take_snoc hi];have hex :∀p:dZ->Prop,(∃e∈B.take i++[B[i]],p e)↔(∃e∈B.take i,p e)\/p B[i]:=λp=>by
   constructor
   .rintro ⟨e,he,hp⟩;rcases QQ.1 he with he|he
    .exact .inl ⟨e,he,hp⟩
    .rw [Q6]at he;subst he;exact .inr hp
   .rintro (⟨e,he,hp⟩|hp)
    .exact ⟨e,XS _ he,hp⟩
    .exact ⟨_,We _ (Q6.2 rfl),hp⟩
  simp only[hex];refine bF (λhc=>?_) (λhc=>ay ⟨q3,λx hx=>?_,λz=>?_,by simp only;omega⟩)
  .have hc:B[i].to=(h:Int):=by simpa using hc
   refine aY (ak.2 ⟨by omega,by omega⟩) (aY (by unfold bP;simp;omega) ?_);refine ay ⟨by simp[q3],λx hx=>?_,λz=>?_,by simp;omega⟩
   .rw [iJ (by omega)];by_cases ex:x=h
    .rw [Qt ex];exact⟨λ_=>⟨ex,.inr hc⟩,λ_=>rfl⟩
    .rw [QR ex,q4 x hx];exact⟨λh=>absurd h.1 ex,λh=>absurd h.1 ex⟩
   .rw [QQ,q5 z,Q6];exact⟨λh=>h.imp id λe=>⟨hc,e⟩,λh=>h.imp id λe=>e.2⟩
  .have hc:¬ B[i].to=(h:Int):=by simpa using hc
   rw[q4 x hx];exact⟨λh=>⟨h.1,.inl h.2⟩,λh=>⟨h.1,h.2.resolve_right hc⟩⟩
  .have hc:¬ B[i].to=(h:Int):=by simpa using hc
   rw[q5 z];exact⟨λh=>.inl h,λh=>h.resolve_right λe=>hc e.1⟩
 refine aX (λm=>m.length=bs.length/\∀x,x<bs.length->(m.getD x false=true↔TU (Ed bs) h x)) ?_ λm hm=>ay hm;have hcn:cntF m<=1000:=by have h1:=List.count_le_length (a:=false) (l:=m);have h2:m.length=bs.length:=hF.len;unfold cntF;omega
 have hst:st.length<=2000:=hst;refine bf (λs:List (List Int)×List Bool×List Int=>∃(m:List Bool) (st:List Int),s=(P,m,st)/\Fl bs h m st/\st.length+3000*cntF m<=4000000) (λs=>s.2.2.length+3000*cntF s.2.1) ⟨m,st,rfl,hF,by omega⟩ λs ⟨m,st,e,hF,hsz⟩=>?_;subst e;refine bF (λhne=>?_) (λhe=>ay ?_)
 rotate_left
 .have:st=[]:=by simpa using he
  subst this;exact⟨hF.len,ajL hE hF⟩
 have hpos:0<st.length:=by simpa using hne
 have hw:cu ((st.length:Int)-1)=((st.length-1:Nat):Int):=by rw[aI (by omega)];omega
 simp only[hw,Q1];refine aY (ak.2 (by omega)) (aY (by simp) ?_);have hlast:st.getD (st.length-1) 0∈st:=by rw[getD_at _ (by omega)];exact Z2 _
 have hst:st=st.take (st.length-1)++[st.getD (st.length-1) 0]:=by rw[getD_at _ (by omega),<-take_snoc (by omega),show st.length-1+1=st.length from by omega,W8]
 obtain⟨x,hx,hxn,hxi⟩:=hF.stk _ hlast;generalize st.getD (st.length-1) 0=xv at hlast hst hx ⊢;subst hx;have htl:(st.take (st.length-1)).length=st.length-1:=by simp
 generalize st.take (st.length-1)=st' at hst htl ⊢;have hml:=hF.len;refine aY (ak.2 (by omega)) ?_;simp only[Q1];have hmem :∀{z:Int},z∈st->z∈st'\/z=x:=λ{z} hz=>by
  rw[hst]at hz;rcases QQ.1 hz with hz|hz
  .exact .inl hz
  .exact .inr (Q6.1 hz)
 have hsub :∀{z:Int},z∈st'->z∈st:=λ{z} hz=>by rw[hst];exact XS _ hz
 refine aX (λy=>∃m2 st2,y=(P,m2,st2)/\Fl bs h m2 st2/\st2.length+3000*cntF m2<st.length+3000*cntF m) ?_ λy ⟨m2,st2,e,g1,g2⟩=>by subst e;exact ay ⟨⟨m2,st2,rfl,g1,by omega⟩,g2⟩
 refine bF (λhc=>?_) (λhc=>ay ⟨m,st',rfl,⟨hF.len,λz hz=>hF.stk z (hsub hz),hF.snd,hF.hd,λs h1 h2=>?_,λy hy hm hne u hu=>?_⟩,by omega⟩)
 .have hmx:m.getD x false=false:=by simpa using hc
  have hPl:=(hP2 x hxn).2;have hPm:=(hP2 x hxn).1;have hpe:P.getD x eInt=P.getD x []:=rfl;have hxh:x≠h:=λe=>by
   subst e;rcases hxi with⟨_,hs⟩|hl
   .rw [hF.hd hs]at hmx;cases hmx
   .exact hl.ne rfl
  refine aY (ak.2 (by omega)) (aY (ak.2 (by omega)) (aY ?_ ?_))
  .have hpl:(P.getD x eInt).length<=2000:=hPl;simp only[Kd,XX,Q1];omega
  have hcs:=nC (by omega:x<m.length) hmx;have hset :∀z,(m.set x true).getD z false=if z=x then true else m.getD z false:=λz=>iJ (by omega)
  have hup :∀z,m.getD z false=true->(m.set x true).getD z false=true:=λz hz=>by
   rw[hset];split
   .rfl
   .exact hz
  refine ay ⟨m.set x true,st'++P.getD x [],by rw[Nj (by omega)],⟨by simp[hml],λz hz=>?_,λy hy hm=>?_,λhs=>hup _ (hF.hd hs),λs h1 h2=>?_,λy hy hm hne u hu=>?_⟩,by simp only[Z0];omega⟩
  .rcases QQ.1 hz with hz|hz
   .exact hF.stk z (hsub hz)
   .obtain ⟨u,e,hu⟩:=(hPm z).1 hz;exact⟨u,e,hu.1,hxi.pred hu hxh⟩
  .rw [hset]at hm;split at hm
   .rename_i e;rw[e];exact hxi
   .exact hF.snd y hy hm
  .rcases hF.src s h1 h2 with g|g
   .exact .inl (hup s g)
   .rcases hmem g with g|g
    .exact .inr (XS _ g)
    .have:s=x:=by omega
     subst this;exact .inl (by rw[hset,Qt rfl])
  .by_cases e:y=x
   .subst e;exact .inr (We _ ((hPm _).2 ⟨u,rfl,hu⟩))
   .rw [hset,QR e]at hm;rcases hF.cls y hy hm hne u hu with g|g
    .exact .inl (hup u g)
    .rcases hmem g with g|g
     .exact .inr (XS _ g)
     .have:u=x:=by omega
      subst this;exact .inl (by rw[hset,Qt rfl])
 .have hmx:m.getD x false=true:=by simpa using hc
  rcases hF.src s h1 h2 with g|g
  .exact .inl g
  .rcases hmem g with g|g
   .exact .inr g
   .exact .inl (by rw[show s=x by omega];exact hmx)
 .have hmx:m.getD x false=true:=by simpa using hc
  rcases hF.cls y hy hm hne u hu with g|g
  .exact .inl g
  .rcases hmem g with g|g
   .exact .inr g
   .exact .inl (by rw[show u=x by omega];exact hmx)
theorem Yd{f:aK}(hg:Good f){h:Nat}(hh:h<f.blocks.length):Ok (f21 f.name f.params f.regs f.blocks h) λy=>∃L:List Nat,y=L.map Int.ofNat/\L.Pairwise (· < ·)/\L.length<=1000/\∀x,x∈L↔x<f.blocks.length/\TU (Ed f.blocks) h x:=by
 have hl:=hg.1;unfold f21;refine aX _ (J9 hg) λB ⟨b1,b2,b3⟩=>aX _ (Yc hg hh b1 b2 b3) λm ⟨m1,m2⟩=>?_;generalize f.blocks=bs at *;refine aX (λy=>y=((List.range m.length).filter λx=>m.getD x false).map Int.ofNat) ?_ λy e=>ay ⟨_,e,(List.pairwise_lt_range).filter _,J0 (qf _ _) (by simp;omega),λx=>?_⟩
 rotate_left
 .rw [Jn,V0,m1];exact⟨λh=>⟨h.1,(m2 x h.1).1 h.2⟩,λh=>⟨h.1,(m2 x h.1).2 h.2⟩⟩
 refine bf (λs:Int×List Int=>∃i:Nat,s.1=i/\i<=m.length/\s.2=((List.range i).filter λx=>m.getD x false).map Int.ofNat) (λs=>m.length-s.1.toNat) ⟨0,rfl,by omega,rfl⟩ λ⟨i',acc⟩ ⟨i,q1,q2,q3⟩=>?_;simp only at q1 q3;subst q1;subst q3;refine bF (λhc=>?_) (λhc=>ay ?_)
 rotate_left
 .have:i=m.length:=by simp at hc;omega
  subst this;rfl
 have hi:i<m.length:=by simpa using hc
 have hfl:((List.range i).filter λx=>m.getD x false).length<=i:=by have:=qf (λx=>m.getD x false) (List.range i);simpa using this
 refine aY (ak.2 ⟨by simp only;omega,by simp only;omega⟩) ?_;simp only[Q1];have hw:cu ((i:Int)+1)=((i+1:Nat):Int):=by rw[aI (by omega)];omega
 refine aX (λy=>y=((List.range (i+1)).filter λx=>m.getD x false).map Int.ofNat) ?_ λy e=>by subst e;rw[hw];exact ay ⟨⟨i+1,rfl,by omega,rfl⟩,by simp only[Q1];omega⟩
 rw[List.range_succ,va,Z6];refine bF (λh=>aY (by unfold bP;simp only[W5,W3,Kd,XX];omega) (ay ?_)) λh=>ay ?_
 .rw [qS (by simpa using h)];rfl
 .rw [qT (by rw[h];simp)];simp
theorem J_{l₁ l₂:List Nat}(h1:l₁.Pairwise (· < ·))(h2:l₂.Pairwise (· < ·))(h :∀x,x∈l₁↔x∈l₂):l₁=l₂:=by have n1:l₁.Nodup:=h1.imp λh=>Nat.ne_of_lt h;have n2:l₂.Nodup:=h2.imp λh=>Nat.ne_of_lt h;exact List.Perm.eq_of_pairwise (le:=λa b=>a<b) (λa b _ _ h h'=>absurd h (by omega)) h1 h2 ((vp n1 n2).2 h)
def exF:aK:=aK.mk dM 0 1 [aH.mk rE 2 0 1 2 0 0 0,aH.mk rE 1 0 0 0 0 0 0,aH.mk rE 3 0 0 0 0 0 0]
theorem ajM:dw exF.blocks 0=[1,2]/\dw exF.blocks 1=[0]/\dw exF.blocks 2=[]:=⟨rfl,rfl,rfl⟩
theorem Ye:Good exF:=by
 have hlen:exF.blocks.length=3:=rfl;have h3 :∀b,b<3->b=0\/b=1\/b=2:=λb hb=>by omega
 refine⟨by rw[hlen];omega,by rw[hlen];omega,⟨λb hb=>?_,λb hb=>?_⟩,λS s0 hs b hb=>?_⟩
 .rw [hlen]at hb ⊢;rcases h3 b hb with e|e|e<;>subst e<;>simp[exF]
 .rw [hlen]at hb;rcases h3 b hb with e|e|e<;>subst e<;>simp[exF]
 .rw [hlen]at hb;have h0:=hs 0 (by rw[hlen];omega) s0;have g1:S 1:=h0.1 (by simp[exF]);have g2:S 2:=h0.2 (by simp[exF]);rcases h3 b hb with e|e|e<;>subst e<;>assumption
theorem ahC(x:Nat)(hx:x<3):TU (Ed exF.blocks) 0 x↔x=0\/x=1:=by
 obtain⟨e0,e1,e2⟩:=ajM;have h10:Ed exF.blocks 1 0:=⟨by decide,by rw[e1];simp⟩;constructor
 .intro h;rcases h with⟨e,_⟩|h
  .exact .inl e
  .have h2 :∀y,¬ Ed exF.blocks 2 y:=λy hy=>by have:=hy.2;rw[e2]at this;cases this
   have:x≠2:=λe=>by
    subst e;cases h with
    |src h _ _=>exact h2 _ h
    |pre _ h _=>exact h2 _ h
   omega
 .rintro (e|e)
  .subst e;exact .inl ⟨rfl,1,h10,um 1⟩
  .subst e;exact .inr (.src h10 (um 1) (by omega))
theorem adD:f4=some true:=by
 apply ok_eq;unfold f4;have hl:=Yd Ye (h:=0) (by decide);refine aX _ hl λy ⟨L,e,hp,_,hm⟩=>?_;have hL:L=[0,1]:=J_ hp (by simp) λx=>by
  rw[hm x];constructor
  .rintro ⟨h1,h2⟩;have:=(ahC x h1).1 h2;simp;omega
  .intro h;have h:x=0\/x=1:=by simpa using h
   have hx:x<3:=by omega
   exact⟨hx,(ahC x hx).2 h⟩
 subst hL;subst e;refine aX (λy=>y=true) (goT rfl (aY rfl (goT rfl (aX _ (CW Ye (a:=0) (b:=2) (by decide) (by decide)) λy hy=>ay (hy.2 (um 2)))))) λy e=>ay e
open Classical in
noncomputable def cn(F:Nat->Nat->Prop)(P:List Nat)(v:Nat):Nat->Nat
 |0=>0
 |k+1=>cn F P v k+if F k v/\k∉P then 1 else 0
section
variable {F:Nat->Nat->Prop} {P:List Nat} {v n:Nat}
theorem Yf(k:Nat):cn F P v k<=k:=by
 induction k with
 |zero=>exact ZD _
 |succ k ih=>simp only[cn];split<;>omega
theorem wz:∀k,cn F P v k=0↔∀u,u<k->F u v->u∈P:=by
 intro k
 induction k with
 |zero=>simp[cn]
 |succ k ih=>
  simp only[cn];constructor
  .intro h u hu hf;by_cases e:u=k
   .subst e;refine V2 λhn=>?_;rw[Qt ⟨hf,hn⟩]at h;omega
   .exact ih.1 (by omega) u (by omega) hf
  .intro h;rw[ih.2 λu hu=>h u (by omega),QR λhh=>hh.2 (h k (by omega) hh.1)]
open Classical in
theorem ajN{b:Nat}(hb:b∉P):∀k,cn F (P++[b]) v k+(if F b v/\b<k then 1 else 0)=cn F P v k:=by
 intro k
 induction k with
 |zero=>rw[QR λh=>absurd h.2 (vv _)];rfl
 |succ k ih=>
  simp only[cn];by_cases e:k=b
  .subst e;rw[QR λh=>absurd h.2 (KB _)]at ih;rw[QR (λh:F k v/\k∉P++[k]=>h.2 (by simp))];by_cases hf:F k v
   .rw [Qt ⟨hf,by omega⟩,Qt ⟨hf,hb⟩];omega
   .rw [QR λh=>hf h.1,QR λh=>hf h.1];omega
  .have h1:(F k v/\k∉P++[b])↔(F k v/\k∉P):=by simp[e]
   have h2:(F b v/\b<k+1)↔(F b v/\b<k):=⟨λh=>⟨h.1,by omega⟩,λh=>⟨h.1,by omega⟩⟩;simp only[h1,h2];omega
structure Kh(n:Nat)(F:Nat->Nat->Prop)(left:List Int)(P W:List Nat):Prop where
 ll:left.length=n
 nd:(P++W).Nodup
 inn :∀v∈P++W,v<n
 cnt :∀v,v<n->left.getD v 0=(cn F P v n:Nat)
 zr :∀v∈P++W,cn F P v n=0
 full :∀v,v<n->cn F P v n=0->v∈P++W
 av :∀C:Nat->Prop,¬ C 0->(∀v,C v->∃u,C u/\F u v/\u<n)->∀v∈P++W,¬ C v
structure Kj(n:Nat)(F:Nat->Nat->Prop)(left:List Int)(P W:List Nat)(b:Nat)(T N:List Nat):Prop where
 ll:left.length=n
 cnt :∀v,v<n->left.getD v 0=(cn F P v n:Nat)-if v∈T then(1:Int)else 0
 nnd:N.Nodup
 new :∀v,v∈N↔v∈T/\cn F P v n=1
theorem adE{left left':List Int}{W:List Nat}{b:Nat}{T N:List Nat}(hK:Kh n F left P (W++[b]))(hT :∀v,v∈T↔F b v)(hin :∀u v,F u v->u<n/\v<n)(hJ:Kj n F left' P W b T N):Kh n F left' (P++[b]) (W++N):=by
 have hnd:=hK.nd;have hbm:b∈P++(W++[b]):=by simp
 have hbn:=hK.inn b hbm;have hbP:b∉P:=λh=>by rw[UT]at hnd;exact hnd.2.2 b h b (by simp) rfl
 have hadd:=λv=>ajN (F:=F) (v:=v) hbP n;have hle :∀v,cn F (P++[b]) v n<=cn F P v n:=λv=>by rw[<-hadd v];exact Nat.le_add_right _ _
 have hold :∀{v},v∈P++[b]++W->v∈P++(W++[b]):=λ{v} h=>by simp only[QQ]at h ⊢;rcases h with(h|h)|h<;>simp[h]
 have ank :∀v∈N,v∉P++(W++[b]):=λv hv h=>by have h1:=((hJ.new v).1 hv).2;rw[hK.zr v h]at h1;cases h1
 have hmem :∀v,v∈P++[b]++(W++N)↔v∈P++(W++[b])\/v∈N:=λv=>by
  simp only[QQ,Q6];constructor
  .rintro ((h|h)|h|h)
   .exact .inl (.inl h)
   .exact .inl (.inr (.inr h))
   .exact .inl (.inr (.inl h))
   .exact .inr h
  .rintro ((h|h|h)|h)
   .exact .inl (.inl h)
   .exact .inr (.inl h)
   .exact .inl (.inr h)
   .exact .inr (.inr h)
 have hNn :∀v∈N,v<n/\F b v:=λv hv=>by have:=(hT v).1 ((hJ.new v).1 hv).1;exact⟨(hin b v this).2,this⟩
 refine⟨hJ.ll,?_,λv hv=>?_,λv hv=>?_,λv hv=>?_,λv hv hc=>?_,λC h0 hC v hv=>?_⟩
 .have hperm:(P++[b]++(W++N)).Perm ((P++(W++[b]))++N):=by simp only[Wm];refine List.Perm.append_left P ?_;have:=(List.perm_append_comm (l₁:=[b]) (l₂:=W)).append_right N;simpa using this
  rw[hperm.nodup_iff,UT];exact⟨hnd,hJ.nnd,λa ha c hc e=>ank c hc (e▸ha)⟩
 .rcases (hmem v).1 hv with h|h
  .exact hK.inn v h
  .exact (hNn v h).1
 .rw [hJ.cnt v hv];have:=hadd v;by_cases hf:F b v
  .rw [Qt ((hT v).2 hf)];rw[Qt ⟨hf,hbn⟩]at this;omega
  .rw [QR λh=>hf ((hT v).1 h)];rw[QR λh=>hf h.1]at this;omega
 .rcases (hmem v).1 hv with h|h
  .have:=hK.zr v h;have:=hle v;omega
  .obtain ⟨h1,h2⟩:=(hJ.new v).1 h;have:=hadd v;rw[Qt ⟨(hT v).1 h1,hbn⟩]at this;omega
 .rw [hmem];by_cases h0:cn F P v n=0
  .exact .inl (hK.full v hv h0)
  .have:=hadd v;by_cases hf:F b v/\b<n
   .rw [Qt hf]at this;exact .inr ((hJ.new v).2 ⟨(hT v).2 hf.1,by omega⟩)
   .rw [QR hf]at this;omega
 .rcases (hmem v).1 hv with h|h
  .exact hK.av C h0 hC v h
  .intro hCv;obtain⟨u,hu,huv,hun⟩:=hC v hCv;have hup:u∉P++[b]:=λh'=>hK.av C h0 hC u (hold (XS _ h')) hu;obtain⟨h1,h2⟩:=(hJ.new v).1 h;have:=hadd v;rw[Qt ⟨(hT v).1 h1,hbn⟩]at this;exact hup ((wz n).1 (by omega) u hun huv)
end
theorem adF{n:Nat}{E F:Nat->Nat->Prop}{O:List Nat}{left:List Int}{P:List Nat}(hO:Od n E O)(hF :∀u v,F u v↔E u v/\¬ Dom E v u)(hK:Kh n F left P []):P.length=n↔¬∃b x,F b x/\O.idxOf x<=O.idxOf b:=by
 have hG:=hO.gr;have hnd:P.Nodup:=by have:=hK.nd;simpa using this
 have hin :∀v∈P,v<n:=λv hv=>hK.inn v (by simpa using hv);have hlen:P.length=n↔∀v,v<n->v∈P:=by
  constructor
  .intro h v hv;refine V2 λhn=>?_;have arf:(v::P).Nodup:=UI.2 ⟨hn,hnd⟩;have hsub :∀a∈v::P,a∈List.range n:=λa ha=>by
    rcases Xs.1 ha with e|ha
    .rw [e];exact V0.2 hv
    .exact V0.2 (hin a ha)
   have:=Ks arf hsub;simp at this;omega
  .intro h;have:=(vp hnd List.nodup_range).2 (λa=>⟨λha=>V0.2 (hin a ha),λha=>h a (V0.1 ha)⟩ :∀a,a∈P↔a∈List.range n);rw[this.length_eq,List.length_range]
 rw[hlen];constructor
 .rintro h ⟨b,x,hbx,hle⟩;have hbE:=((hF b x).1 hbx).1
  let C:Nat->Prop:=λv=>∀S:Nat->Prop,S x->(∀u w,S u->E u w->O.idxOf u<O.idxOf w->S w)->S v
  have hCx:C x:=λS sx _=>sx;have hCs :∀u w,C u->E u w->O.idxOf u<O.idxOf w->C w:=λu w hu he hlt S sx hS=>hS u w (hu S sx hS) he hlt;have hCb:C b:=λS sx hS=>hO.back hbE hle S sx hS;have hfw :∀u w,E u w->O.idxOf u<O.idxOf w->F u w:=λu w he hlt=>(hF u w).2 ⟨he,λhd=>by have:=En hG (hG.inn he).2 (hG.inn he).1 hd;omega⟩
  have hex :∀v,C v->C v/\∃u,C u/\F u v/\u<n:=λv hv=>hv (λv=>C v/\∃u,C u/\F u v/\u<n) ⟨hCx,b,hCb,hbx,(hG.inn hbE).1⟩ λu w hu he hlt=>⟨hCs u w hu.1 he hlt,u,hu.1,hfw u w he hlt,(hG.inn he).1⟩;have h0:¬ C 0:=λh0=>by obtain⟨_,u,_,hu,_⟩:=hex 0 h0;exact((hF u 0).1 hu).2 (um u)
  exact hK.av C h0 (λv hv=>(hex v hv).2) x (by simpa using h x (hG.inn hbE).2) hCx
 .intro h;have key :∀k v,v<n->O.idxOf v<=k->v∈P:=by
   intro k
   induction k with
   |zero=>intro v hv hk;have:=hK.full v hv ((wz n).2 λu hu hf=>absurd ⟨u,v,hf,by omega⟩ h);simpa using this
   |succ k ih=>
    intro v hv hk;have:=hK.full v hv ((wz n).2 λu hu hf=>ih u hu (by have:¬ O.idxOf v<=O.idxOf u:=λhle=>h ⟨u,v,hf,hle⟩;omega))
    simpa using this
  exact λv hv=>key _ v hv (ZD _)
theorem TB{B:List dZ}{u v:Int}(hl:B.length<=1000000):Ok (f37 B u v) λy=>y=true↔dZ.mk u v∈B:=by
 unfold f37;refine aX (λy:Int=>0<=y↔dZ.mk u v∈B) ?_ λy hy=>ay (by rw[XX];exact hy);unfold f47;refine qF (λ_=>dZ.mk u v∉B) ?_ λ_ h=>ay ⟨λh'=>absurd h' (by omega),λh'=>absurd h' h⟩;refine bf (λs:Int=>∃i:Nat,s=i/\i<=B.length/\dZ.mk u v∉B.take i) (λs=>B.length-s.toNat) ⟨0,rfl,by omega,by simp⟩ λs ⟨i,e1,e2,e3⟩=>?_;subst e1;refine bF (λhc=>?_) (λhc=>ay ?_)
 rotate_left
 .have:i=B.length:=by simp at hc;omega
  rw[this,W8]at e3;exact e3
 have hi:i<B.length:=by simpa using hc
 have hw:cu ((i:Int)+1)=((i+1:Nat):Int):=by rw[aI (by omega)];omega
 refine aY (ak.2 ⟨by omega,by omega⟩) ?_;have e:B.getD i (dZ.mk 0 0)=B[i]:=getD_at _ hi;simp only[Q1,e];refine bF (λh=>ay ?_) λh=>?_
 .have h:u=B[i].from'/\v=B[i].to:=by simpa using h
  have:dZ.mk u v=B[i]:=by rw[h.1,h.2]
  exact⟨λ_=>this▸Z2 hi,λ_=>by omega⟩
 .rw [hw];refine ay ⟨⟨i+1,rfl,by omega,?_⟩,by simp only[Q1];omega⟩;rw[take_snoc hi];simp only[QQ,Q6,not_or];refine⟨e3,λe=>?_⟩;rw[<-e]at h;simp at h
def Fe(bs:List aH)(u v:Nat):Prop:=Ed bs u v/\¬ Dom (Ed bs) v u
theorem Nk(bs:List aH)(b:Nat):(dw bs b).Nodup:=by
 unfold dw succs;split
 .rename_i h;simp;exact λe=>h.2 e.symm
 .split<;>simp
open Classical in
def Bu(bs:List aH)(i j:Nat)(left:List Int)(fwd:List (List Int)):Prop:=
 left.length=bs.length/\fwd.length=bs.length/\(∀v,v<bs.length->left.getD v 0=(cn (Fe bs) [] v i:Nat)+if(v:Int)∈(dw bs i).take j/\Fe bs i v then(1:Int)else 0)/\
 ∀u,u<bs.length->(fwd.getD u []).Nodup/\(fwd.getD u []).length<=2/\∀x,x∈fwd.getD u []↔∃v:Nat,x=v/\Fe bs u v/\(u<i\/(u=i/\(v:Int)∈(dw bs i).take j))
open Classical in
theorem adG{f:aK}(hg:Good f){B:List dZ}(hB :∀u v:Nat,Ed f.blocks u v->(dZ.mk u v∈B↔Dom (Ed f.blocks) v u))(hBl:B.length<=2000){body:Int×List Int×List (List Int)->Option ((Int×List Int×List (List Int)) ⊕ (List Int×List (List Int)))}
  (hbody:body=λs6=>bif decide (s6.1<(f.blocks.length:Int))then ck (inB s6.1 f.blocks.length) <| OB (f27 (f.blocks.getD s6.1.toNat aj).aV (f.blocks.getD s6.1.toNat aj).mJ (f.blocks.getD s6.1.toNat aj).dI (f.blocks.getD s6.1.toNat aj).bg) λc9=>
   OB (aT (λ(s11:(Int×List Int×List (List Int)))=>
   bif(decide (s11.1<(c9.length:Int)))then
    ck (inB s11.1 c9.length) <|
    let n13:=(List.getD c9 s11.1.toNat 0)
    OB (f37 B s6.1 n13) λc14=>
    OB (
    bif(!c14)then
     ck (inB s6.1 s11.2.2.length) <|
     let n16:=[n13]
     ck (true&&(decide ((((List.length (List.getD s11.2.2 s6.1.toNat eInt))+n16.length)*(8:Nat))<=(140737488355328:Nat)))) <|
     ck (inB s6.1 s11.2.2.length) <|
     ck (Nat.beq s6.1.toNat s6.1.toNat) <|
     ck (inB n13 s11.2.1.length) <|
     ck (inB n13 s11.2.1.length) <|
     some ((List.set s11.2.1 n13.toNat (cu ((List.getD s11.2.1 n13.toNat 0)+1))),(List.set s11.2.2 s6.1.toNat ((List.getD s11.2.2 s6.1.toNat eInt)++n16)))
    else
     some (s11.2.1,s11.2.2)) λjR=>
    some (.inl ((cu (s11.1+1)),jR.1,jR.2))
   else
    some (.inr (s11.2.1,s11.2.2))) ((0:Int),s6.2.1,s6.2.2)) λs24=>some (.inl ((cu (s6.1+1)),s24.1,s24.2))
   else some (.inr (s6.2.1,s6.2.2))) :
  Ok (aT body ((0:Int),List.replicate f.blocks.length (0:Int),List.replicate f.blocks.length eInt)) λy=>Bu f.blocks f.blocks.length 0 y.1 y.2:=by
 obtain⟨hl,h0,hE,hC⟩:=hg;subst hbody;generalize f.blocks=bs at *;refine bf (λs:Int×List Int×List (List Int)=>∃i:Nat,s.1=i/\i<=bs.length/\Bu bs i 0 s.2.1 s.2.2) (λs=>bs.length-s.1.toNat) ⟨0,rfl,by omega,by simp,by simp,λv hv=>?_,λu hu=>?_⟩ λ⟨i',left,fwd⟩ ⟨i,q1,q2,q3⟩=>?_
 .rw [getD_at _ (by simpa using hv)];simp[cn]
 .rw [getD_at _ (by simpa using hu)];simp
 simp only at q1 q3;subst q1;refine bF (λhc=>?_) (λhc=>ay ?_)
 rotate_left
 .have:i=bs.length:=by simp at hc;omega
  subst this;exact q3
 have hi:i<bs.length:=by simpa using hc
 refine aY (ak.2 ⟨by simp only;omega,by simp only;omega⟩) ?_;simp only[Q1];refine lU (uy _ _ _ _) ?_;have hsd:succs (bs.getD i aj).aV (bs.getD i aj).dI (bs.getD i aj).bg=dw bs i:=rfl;rw[hsd];have hin:=n_ hE hi;have hl2:(dw bs i).length<=2:=by unfold dw succs;(repeat' split)<;>simp
 have hsn:=Nk bs i;have hwi:cu ((i:Int)+1)=((i+1:Nat):Int):=by rw[aI (by omega)];omega
 refine aX (λy=>Bu bs i (dw bs i).length y.1 y.2) ?_ λ⟨l2,f2⟩ ⟨g1,g2,g3,g4⟩=>?_
 rotate_left
 .rw [hwi];refine ay ⟨⟨i+1,rfl,by omega,g1,g2,λv hv=>?_,λu hu=>⟨(g4 u hu).1,(g4 u hu).2.1,λx=>?_⟩⟩,by simp only[Q1];omega⟩
  .simp only;rw[g3 v hv,W8];have h1:cn (Fe bs) [] v (i+1)=cn (Fe bs) [] v i+if Fe bs i v/\i∉([]:List Nat)then 1 else 0:=rfl
   rw[h1];by_cases hf:Fe bs i v
   .rw [Qt ⟨hf.1.2,hf⟩,Qt ⟨hf,K0⟩,QR λh=>K0 h.1];omega
   .rw [QR λh=>hf h.2,QR λh=>hf h.1,QR λh=>K0 h.1];omega
  .simp only;rw[(g4 u hu).2.2 x];simp only[W8,vh,K0,and_false,or_false];constructor
   .rintro ⟨v,e,hf,h|⟨h,_⟩⟩
    .exact ⟨v,e,hf,by omega⟩
    .exact ⟨v,e,hf,by omega⟩
   .rintro ⟨v,e,hf,h⟩;by_cases eu:u=i
    .subst eu;exact⟨v,e,hf,.inr ⟨rfl,hf.1.2⟩⟩
    .exact ⟨v,e,hf,.inl (by omega)⟩
 refine bf (λs:Int×List Int×List (List Int)=>∃j:Nat,s.1=j/\j<=(dw bs i).length/\Bu bs i j s.2.1 s.2.2) (λs=>(dw bs i).length-s.1.toNat) ⟨0,rfl,by omega,q3⟩ λ⟨j',left,fwd⟩ ⟨j,r1,r2,g1,g2,g3,g4⟩=>?_;simp only at r1 g1 g2 g3 g4;subst r1;refine bF (λhc=>?_) (λhc=>ay ?_)
 rotate_left
 .have:j=(dw bs i).length:=by simp at hc;omega
  subst this;exact⟨g1,g2,g3,g4⟩
 have hj:j<(dw bs i).length:=by simpa using hc
 refine aY (ak.2 ⟨by simp only;omega,by simp only;omega⟩) ?_;have e:(dw bs i).getD j 0=(dw bs i)[j]:=getD_at _ hj;simp only[Q1,e];have hmem:=Z2 hj;have hr:=hin _ hmem;obtain⟨c,hc⟩ :∃c:Nat,(dw bs i)[j]=c:=⟨((dw bs i)[j]).toNat,by omega⟩;have htk:(c:Int)∉(dw bs i).take j:=λh=>by obtain⟨k,hk,e⟩:=JN h;rw[qi]at e;rw[WF]at hk;have:=(vo hsn).1 (e.trans hc.symm);omega
 rw[hc]at hmem hr ⊢;have hcn:c<bs.length:=by omega
 have hed:Ed bs i c:=⟨hi,hmem⟩;have hwj:cu ((j:Int)+1)=((j+1:Nat):Int):=by rw[aI (by omega)];omega
 refine aX _ (TB (by omega)) λd hd=>aX (λy=>Bu bs i (j+1) y.1 y.2) ?_ λy hy=>by rw[hwj];exact ay ⟨⟨j+1,rfl,by omega,hy⟩,by simp only[Q1];omega⟩
 have hdd:d=true↔Dom (Ed bs) c i:=hd.trans (hB i c hed);have htake :∀v:Nat,(v:Int)∈(dw bs i).take (j+1)↔(v:Int)∈(dw bs i).take j\/v=c:=λv=>by rw[take_snoc hj,QQ,Q6,hc];exact or_congr Iff.rfl ⟨λh=>by omega,λh=>by omega⟩
 refine bF (λhf=>?_) (λhf=>ay ⟨g1,g2,λv hv=>?_,λu hu=>⟨(g4 u hu).1,(g4 u hu).2.1,λx=>?_⟩⟩)
 .have hfe:Fe bs i c:=⟨hed,λh=>by rw[hdd.2 h]at hf;cases hf⟩;obtain⟨k1,k2,k3⟩:=g4 i hi;have hlen:(fwd.getD i eInt).length<=2:=k2;refine aY (ak.2 ⟨by omega,by omega⟩) (aY (by simp only[Kd,XX,W3];omega) (aY (ak.2 ⟨by omega,by omega⟩) (aY (by simp) (aY (ak.2 ⟨by omega,by omega⟩) (aY (ak.2 ⟨by omega,by omega⟩) ?_)))));simp only[Q1];have hlc:left.getD c 0=(cn (Fe bs) [] c i:Nat):=by have:=g3 c hcn;rw[QR λh=>htk h.1]at this;omega
  have arj:=Yf (F:=Fe bs) (P:=[]) (v:=c) i;rw[hlc,aI (by omega)];have hpe:fwd.getD i eInt=fwd.getD i []:=rfl;have hlen2:(fwd.getD i []++[(c:Int)]).length<=2:=by
   have hsub :∀a∈fwd.getD i []++[(c:Int)],a∈dw bs i:=λa ha=>by
    rcases QQ.1 ha with ha|ha
    .obtain ⟨v,e,hf,_⟩:=(k3 a).1 ha;rw[e];exact hf.1.2
    .rw [Q6]at ha;rw[ha];exact hmem
   have hnd:(fwd.getD i []++[(c:Int)]).Nodup:=by
    rw[UT];refine⟨k1,by simp,λa ha b hb e=>?_⟩;rw[Q6]at hb;obtain⟨v,ev,_,h⟩:=(k3 a).1 ha;rcases h with h|⟨_,h⟩
    .omega
    .have:v=c:=by omega
     subst this;exact htk h
   have:=Ks hnd hsub;omega
  refine ay ⟨by simp[g1],by simp[g2],λv hv=>?_,λu hu=>?_⟩
  .simp only;rw[lQ (by omega)];by_cases ev:v=c
   .subst ev;rw[Qt rfl,Qt ⟨(htake v).2 (.inr rfl),hfe⟩]
   .rw [QR ev,g3 v hv];have:((v:Int)∈(dw bs i).take (j+1)/\Fe bs i v)↔((v:Int)∈(dw bs i).take j/\Fe bs i v):=by rw[htake v];exact⟨λh=>⟨h.1.resolve_right ev,h.2⟩,λh=>⟨.inl h.1,h.2⟩⟩
    simp only[this]
  .simp only;rw[hpe,Ep (by omega)];by_cases eu:u=i
   .subst eu;rw[Qt rfl];refine⟨?_,hlen2,λx=>?_⟩
    .rw [UT];refine⟨k1,by simp,λa ha b hb e=>?_⟩;rw[Q6]at hb;obtain⟨v,ev,_,h⟩:=(k3 a).1 ha;rcases h with h|⟨_,h⟩
     .omega
     .have:v=c:=by omega
      subst this;exact htk h
    .rw [QQ,k3 x,Q6];constructor
     .rintro (⟨v,e,hf,h|⟨h,h'⟩⟩|h)
      .omega
      .exact ⟨v,e,hf,.inr ⟨rfl,(htake v).2 (.inl h')⟩⟩
      .exact ⟨c,h,hfe,.inr ⟨rfl,(htake c).2 (.inr rfl)⟩⟩
     .rintro ⟨v,e,hf,h|⟨_,h⟩⟩
      .omega
      .rcases (htake v).1 h with h|h
       .exact .inl ⟨v,e,hf,.inr ⟨rfl,h⟩⟩
       .subst h;exact .inr e
   .rw [QR eu];obtain⟨m1,m2,m3⟩:=g4 u hu;refine⟨m1,m2,λx=>?_⟩;rw[m3 x];constructor
    .rintro ⟨v,e,hf,h|⟨h,_⟩⟩
     .exact ⟨v,e,hf,.inl h⟩
     .exact absurd h eu
    .rintro ⟨v,e,hf,h|⟨h,_⟩⟩
     .exact ⟨v,e,hf,.inl h⟩
     .exact absurd h eu
 .have hdom:Dom (Ed bs) c i:=hdd.1 (by simpa using hf);simp only;rw[g3 v hv];have:((v:Int)∈(dw bs i).take (j+1)/\Fe bs i v)↔((v:Int)∈(dw bs i).take j/\Fe bs i v):=by rw[htake v];exact⟨λh=>⟨h.1.resolve_right λe=>by subst e;exact h.2.2 hdom,h.2⟩,λh=>⟨.inl h.1,h.2⟩⟩
  simp only[this]
 .have hdom:Dom (Ed bs) c i:=hdd.1 (by simpa using hf);simp only;rw[(g4 u hu).2.2 x];constructor
  .rintro ⟨v,e,hf,h|⟨h,h'⟩⟩
   .exact ⟨v,e,hf,.inl h⟩
   .exact ⟨v,e,hf,.inr ⟨h,(htake v).2 (.inl h')⟩⟩
  .rintro ⟨v,e,hf,h|⟨h,h'⟩⟩
   .exact ⟨v,e,hf,.inl h⟩
   .rcases (htake v).1 h' with h'|h'
    .exact ⟨v,e,hf,.inr ⟨h,h'⟩⟩
    .subst h';subst h;exact absurd hdom hf.2
theorem adH{bs:List aH}(hE:kU bs)(u v:Nat)(h:Fe bs u v):u<bs.length/\v<bs.length:=Gg hE h.1
theorem TD{bs:List aH}{O:List Nat}(hE:kU bs)(hO:Od bs.length (Ed bs) O){left:List Int}(hl:left.length=bs.length)(hc :∀v,v<bs.length->left.getD v 0=(cn (Fe bs) [] v bs.length:Nat)):Kh bs.length (Fe bs) left [] [0]:=by
 have hG:=hO.gr;have h0 :∀u,¬ Fe bs u 0:=λu h=>h.2 (um u);refine⟨hl,by simp,λv hv=>?_,hc,λv hv=>?_,λv hv hz=>?_,λC h hC v hv=>?_⟩
 .have:v=0:=by simpa using hv
  subst this;exact hG.pos
 .have:v=0:=by simpa using hv
  subst this;exact(wz _).2 λu _ hf=>absurd hf (h0 u)
 .refine V2 λhn=>?_;have hv0:v≠0:=λe=>hn (by simp[e]);obtain⟨u,hu,hr⟩:=hG.pred hv hv0;have hun:=(Gg hE hu).1;have:=(wz _).1 hz u hun ⟨hu,λhd=>by have:=En hG hv hun hd;omega⟩;cases this
 .have:v=0:=by simpa using hv
  subst this;exact h
theorem Nl{l:List Int}(h :∀x∈l,0<=x)(v:Nat):v∈l.map Int.toNat↔(v:Int)∈l:=by rw[XN];exact⟨λ⟨x,hx,e⟩=>by have:=h x hx;rw[<-e,US this];exact hx,λh=>⟨v,h,by simp⟩⟩
theorem Pq{f:aK}(hg:Good f){O:List Nat}(hO:Od f.blocks.length (Ed f.blocks) O):Ok (f17 f.name f.params f.regs f.blocks) λy=>y=true↔¬∃b x,Fe f.blocks b x/\O.idxOf x<=O.idxOf b:=by
 unfold f17;refine aX _ (J9 hg) λB ⟨b1,b2,b3⟩=>?_;have hB :∀u v:Nat,Ed f.blocks u v->(dZ.mk u v∈B↔Dom (Ed f.blocks) v u):=λu v he=>⟨λh=>by
  obtain⟨u',v',e,_,hd⟩:=b1 _ h;have e1:=ZS dZ.from' e
  have e2:=ZS dZ.to e;simp only at e1 e2;rw[show v=v' by omega,show u=u' by omega];exact hd,λh=>b2 u v he h⟩
 have hbuild:=λbody hbody=>adG hg hB b3 (body:=body) hbody;obtain⟨hl,h0,hE,hC⟩:=hg;refine aY (gy.2 (by omega)) (aY (gy.2 (by omega)) ?_);simp only[Q1];refine aX _ (hbuild _ rfl) λ⟨left,fwd⟩ ⟨g1,g2,g3,g4⟩=>?_;generalize f.blocks=bs at *;simp only at g1 g2 g3 g4 ⊢;have hcnt :∀v,v<bs.length->left.getD v 0=(cn (Fe bs) [] v bs.length:Nat):=λv hv=>by have:=g3 v hv;simp only[vh,K0,false_and,if_false]at this;omega
 have hfw :∀u,u<bs.length->(fwd.getD u []).Nodup/\(fwd.getD u []).length<=2/\∀x,x∈fwd.getD u []↔∃v:Nat,x=v/\Fe bs u v:=λu hu=>⟨(g4 u hu).1,(g4 u hu).2.1,λx=>by rw[(g4 u hu).2.2 x];exact⟨λ⟨v,e,hf,_⟩=>⟨v,e,hf⟩,λ⟨v,e,hf⟩=>⟨v,e,hf,.inl hu⟩⟩⟩
 have hK0:=TD hE hO g1 hcnt;have hl0:left.getD (Int.toNat 0) 0=0:=by have:=hcnt 0 h0;rw[hK0.zr 0 (by simp)]at this;exact this
 refine aY (ak.2 ⟨by omega,by omega⟩) (yR (by rw[hl0];rfl) ?_);refine aX (λy:Int=>∃left P,y=(P.length:Nat)/\Kh bs.length (Fe bs) left P []) ?_ λy ⟨left,P,e,hK⟩=>ay ?_
 rotate_left
 .subst e;refine Iff.trans ?_ (adF (F:=Fe bs) hO (λu v=>Iff.rfl) hK);rw[XX];omega
 refine bf (λs:List (List Int)×Int×List Int×List Int=>∃(left:List Int) (P W:List Nat),s=(fwd,(P.length:Int),left,W.map Int.ofNat)/\Kh bs.length (Fe bs) left P W) (λs=>bs.length-s.2.1.toNat) ⟨left,[],[0],rfl,hK0⟩ λs ⟨left,P,W,e,hK⟩=>?_;subst e;have hPW:(P++W).length<=bs.length:=by have:=Ks hK.nd (l₂:=List.range bs.length) λa ha=>V0.2 (hK.inn a ha);simpa using this
 rw[Z0]at hPW;refine bF (λhne=>?_) (λhe=>ay ?_)
 rotate_left
 .have:W=[]:=by
   have:W.length=0:=by simp at he;simp[he]
   exact v8.1 this
  subst this;exact⟨left,P,rfl,hK⟩
 rcases ze W with e|⟨W',b,e⟩
 .subst e;simp at hne
 have e:W=W'++[b]:=by simpa using e
 subst e;have hWl:((W'++[b]).map Int.ofNat).length=W'.length+1:=by simp
 have hw1:cu ((((W'++[b]).map Int.ofNat).length:Int)-1)=(W'.length:Nat):=by rw[hWl];simp only[Z0,W3]at hPW;rw[aI (by omega)];omega
 have hgb:((W'++[b]).map Int.ofNat).getD W'.length 0=(b:Int):=by rw[getD_at _ (by simp)];simp
 have htk:((W'++[b]).map Int.ofNat).take W'.length=W'.map Int.ofNat:=by simp
 have hbn:b<bs.length:=hK.inn b (by simp);have hbP:b∉P:=λh=>by have:=hK.nd;rw[UT]at this;exact this.2.2 b h b (by simp) rfl
 simp only[Z0,W3]at hPW;simp only[hw1,Q1,hgb,htk];refine aY (ak.2 ⟨by omega,by rw[hWl];omega⟩) (aY (by rw[hWl];simp;omega) (aY (ak.2 ⟨by omega,by omega⟩) ?_));obtain⟨l1,l2,l3⟩:=hfw b hbn;have hpe:fwd.getD b eInt=fwd.getD b []:=rfl;rw[hpe];generalize fwd.getD b []=l at l1 l2 l3 ⊢;have hnn :∀x∈l,0<=x:=λx hx=>by obtain⟨v,e,_⟩:=(l3 x).1 hx;omega
 have hT :∀v,v∈l.map Int.toNat↔Fe bs b v:=λv=>by rw[Nl hnn,l3];exact⟨λ⟨w,e,h⟩=>by rw[show v=w by omega];exact h,λh=>⟨v,rfl,h⟩⟩
 have hwd:cu ((P.length:Int)+1)=((P++[b]).length:Nat):=by rw[aI (by omega)];simp
 refine aX (λy=>∃left' N,y=(left',(W'++N).map Int.ofNat)/\Kj bs.length (Fe bs) left' P W' b (l.map Int.toNat) N) ?_ λy ⟨left',N,e,hJ⟩=>by subst e;rw[hwd];exact ay ⟨⟨left',P++[b],W'++N,rfl,adE hK hT (adH hE) hJ⟩,by simp only[Q1,Z0,W3];omega⟩
 refine bf (λs:Int×List Int×List Int=>∃(j:Nat) (left':List Int) (N:List Nat),s=((j:Int),left',(W'++N).map Int.ofNat)/\j<=l.length/\Kj bs.length (Fe bs) left' P W' b ((l.take j).map Int.toNat) N/\N.length<=j) (λs=>l.length-s.1.toNat)
  ⟨0,left,[],by simp,by omega,⟨hK.ll,λv hv=>by rw[hK.cnt v hv];simp,by simp,λv=>by simp⟩,by simp⟩ λs ⟨j,left',N,e,r2,hJ,hNl⟩=>?_
 subst e;refine bF (λhc=>?_) (λhc=>ay ?_)
 rotate_left
 .have:j=l.length:=by simp at hc;omega
  subst this;rw[W8]at hJ;exact⟨left',N,rfl,hJ⟩
 have hj:j<l.length:=by simpa using hc
 refine aY (ak.2 ⟨by simp only;omega,by simp only;omega⟩) ?_;have e:l.getD j 0=l[j]:=getD_at _ hj;simp only[Q1,e];obtain⟨c,hc,hfc⟩:=(l3 _).1 (Z2 hj);have hcn:c<bs.length:=(adH hE b c hfc).2;have ark:(c:Int)∉l.take j:=λh=>by obtain⟨k,hk,e⟩:=JN h;rw[qi]at e;rw[WF]at hk;have:=(vo l1).1 (e.trans hc.symm);omega
 have hcT:c∉(l.take j).map Int.toNat:=λh=>ark ((Nl (λx hx=>hnn x (W6 hx)) c).1 h);have hT' :∀v,v∈(l.take (j+1)).map Int.toNat↔v∈(l.take j).map Int.toNat\/v=c:=λv=>by rw[take_snoc hj,hc,Z6,QQ];simp
 rw[hc];have hll:=hJ.ll;have hlc:left'.getD c 0=(cn (Fe bs) P c bs.length:Nat):=by have:=hJ.cnt c hcn;rw[QR hcT]at this;omega
 have arj:=Yf (F:=Fe bs) (P:=P) (v:=c) bs.length;have ar8:0<cn (Fe bs) P c bs.length:=Nat.pos_of_ne_zero λh=>hbP ((wz _).1 h b hbn hfc);have hwj:cu ((j:Int)+1)=((j+1:Nat):Int):=by rw[aI (by omega)];omega
 have hwl:cu ((cn (Fe bs) P c bs.length:Nat)-1:Int)=((cn (Fe bs) P c bs.length:Nat):Int)-1:=aI (by omega);refine aY (ak.2 ⟨by omega,by omega⟩) (aY (ak.2 ⟨by omega,by omega⟩) ?_);simp only[Q1,hlc,hwl];have hset :∀v,(left'.set c (((cn (Fe bs) P c bs.length:Nat):Int)-1)).getD v 0=if v=c then((cn (Fe bs) P c bs.length:Nat):Int)-1 else left'.getD v 0:=λv=>lQ (by omega)
 have TF :∀v,v<bs.length->(left'.set c (((cn (Fe bs) P c bs.length:Nat):Int)-1)).getD v 0=(cn (Fe bs) P v bs.length:Nat)-if v∈(l.take (j+1)).map Int.toNat then(1:Int)else 0:=λv hv=>by
  rw[hset];by_cases ev:v=c
  .subst ev;rw[Qt rfl,Qt ((hT' v).2 (.inr rfl))]
  .rw [QR ev,hJ.cnt v hv];have:v∈(l.take (j+1)).map Int.toNat↔v∈(l.take j).map Int.toNat:=(hT' v).trans ⟨λh=>h.resolve_right ev,.inl⟩;simp only[this]
 refine aY (ak.2 ⟨by omega,by simp only[UX];omega⟩) ?_;refine aX (λy=>∃N',y=(W'++N').map Int.ofNat/\Kj bs.length (Fe bs) (left'.set c (((cn (Fe bs) P c bs.length:Nat):Int)-1)) P W' b ((l.take (j+1)).map Int.toNat) N'/\N'.length<=j+1) ?_ λy ⟨N',e,q1,q2⟩=>by subst e;rw[hwj];exact ay ⟨⟨j+1,_,N',rfl,by omega,q1,q2⟩,by simp only[Q1];omega⟩
 have hsc:(left'.set c (((cn (Fe bs) P c bs.length:Nat):Int)-1)).getD c 0=((cn (Fe bs) P c bs.length:Nat):Int)-1:=by rw[hset,Qt rfl]
 rw[hsc];refine bF (λhz=>aY (by unfold bP;simp only[W5,Z0,W3,Kd,XX];omega) (ay ⟨N++[c],by simp,⟨by simp[hll],TF,?_,λv=>?_⟩,by simp;omega⟩)) (λhz=>ay ⟨N,rfl,⟨by simp[hll],TF,hJ.nnd,λv=>?_⟩,by omega⟩)
 .rw [UT];exact⟨hJ.nnd,by simp,λa ha d hd e=>by rw[Q6]at hd;subst hd;subst e;exact hcT ((hJ.new a).1 ha).1⟩
 .have hz:cn (Fe bs) P c bs.length=1:=by simp only[XX]at hz;omega
  rw[QQ,Q6,hJ.new v,hT' v];constructor
  .rintro (⟨h1,h2⟩|h)
   .exact ⟨.inl h1,h2⟩
   .subst h;exact⟨.inr rfl,hz⟩
  .rintro ⟨h1|h1,h2⟩
   .exact .inl ⟨h1,h2⟩
   .exact .inr h1
 .have hz:¬ cn (Fe bs) P c bs.length=1:=by simp only[decide_eq_false_iff_not]at hz;omega
  rw[hJ.new v,hT' v];constructor
  .rintro ⟨h1,h2⟩;exact⟨.inl h1,h2⟩
  .rintro ⟨h1|h1,h2⟩
   .exact ⟨h1,h2⟩
   .subst h1;exact absurd h2 hz
theorem anl{S:Type}{n:Nat}{N:Int}(hN:N=n)(hn:n<=1000000){B:S×Int->Option ((S×Int) ⊕ S)}{Q:S->Prop}(I:Nat->S->Prop){s0:S}(h0:I 0 s0)
  (hs :∀i s,i<n->I i s->Ok (B (s,(i:Int))) (Gq (λa=>a.2=cu ((i:Int)+1)/\I (i+1) a.1) Q)) (he :∀s,I n s->Q s) :
  Ok (aT (λs=>bif decide (s.2<N)then B s else some (.inr s.1)) (s0,(0:Int))) Q:=by
 refine bf (λs:S×Int=>∃i:Nat,s.2=i/\i<=n/\I i s.1) (λs=>n-s.2.toNat) ⟨0,rfl,by omega,h0⟩ λ⟨s,i'⟩ ⟨i,e,hi,h⟩=>?_;simp only at e h;subst e;refine bF (λhc=>?_) λhc=>ay (he s ?_)
 .have hc:i<n:=by simp at hc;omega
  refine jA (hs i s hc h) λy hy=>?_;cases y with
  |inl a=>obtain⟨e1,e2⟩:=hy;rw[aI (by omega)]at e1;exact⟨⟨i+1,by rw[e1];omega,by omega,e2⟩,by rw[e1];simp only[Q1];omega⟩
  |inr r=>exact hy
 .have:i=n:=by simp at hc;omega
  rw[<-this];exact h
def push(P:Int->Bool)(s:List Bool×List Int)(c:Int):List Bool×List Int:=if s.1.getD c.toNat false=false/\P c=true then(s.1.set c.toNat true,s.2++[c])else s
theorem yQ{n:Nat}{P:Int->Bool}:∀(l:List Int),(∀c∈l,0<=c/\c<n)->∀(r:List Bool) (st:List Int),r.length=n->
  ∃N,(l.foldl (push P) (r,st)).2=st++N/\(l.foldl (push P) (r,st)).1.length=n/\(∀x:Nat,(l.foldl (push P) (r,st)).1.getD x false=true↔r.getD x false=true\/((x:Int)∈l/\P x=true))/\
   (∀z∈N,z∈l/\P z=true/\r.getD z.toNat false=false)/\(∀x:Nat,(l.foldl (push P) (r,st)).1.getD x false=true->r.getD x false=true\/(x:Int)∈N)/\N.length+cntF (l.foldl (push P) (r,st)).1=cntF r:=by
 intro l
 induction l with
 |nil=>exact λ_ r st h=>⟨[],by simp,h,by simp,by simp,λx h=>.inl h,by simp⟩
 |cons c l ih=>
  intro hl r st hr;obtain⟨c1,c2⟩:=hl c (by simp);have hl':=λz hz=>hl z (WK _ hz);rw[Ka];have hci:((c.toNat:Nat):Int)=c:=by omega
  by_cases h:r.getD c.toNat false=false/\P c=true
  .rw [show push P (r,st) c=(r.set c.toNat true,st++[c]) from Qt h];have hcr:c.toNat<r.length:=by omega
   obtain⟨N,e1,e2,e3,e4,e5,e6⟩:=ih hl' (r.set c.toNat true) (st++[c]) (by simpa using hr);have hset :∀x,(r.set c.toNat true).getD x false=if x=c.toNat then true else r.getD x false:=λx=>iJ hcr
   refine⟨c::N,by rw[e1];simp,e2,λx=>?_,λz hz=>?_,λx hx=>?_,?_⟩
   .rw [e3,hset];by_cases e:x=c.toNat
    .subst e;rw[Qt rfl,hci];exact⟨λ_=>.inr ⟨by simp,h.2⟩,λ_=>.inl rfl⟩
    .rw [QR e,Xs];exact⟨λh=>h.imp id λh=>⟨.inr h.1,h.2⟩,λh=>h.imp id λh=>⟨h.1.resolve_left (by omega),h.2⟩⟩
   .rcases Xs.1 hz with e|hz
    .subst e;exact⟨by simp,h.2,h.1⟩
    .obtain ⟨g1,g2,g3⟩:=e4 z hz;rw[hset]at g3;refine⟨WK _ g1,g2,?_⟩;split at g3
     .cases g3
     .exact g3
   .rcases e5 x hx with h|h
    .rw [hset]at h;by_cases e:x=c.toNat
     .exact .inr (by rw[e,hci];simp)
     .rw [QR e]at h;exact .inl h
    .exact .inr (WK _ h)
   .have:=nC hcr h.1;simp only[K7];omega
  .rw [show push P (r,st) c=(r,st) from QR h];obtain⟨N,e1,e2,e3,e4,e5,e6⟩:=ih hl' r st hr;refine⟨N,e1,e2,λx=>?_,λz hz=>⟨WK _ (e4 z hz).1,(e4 z hz).2⟩,e5,e6⟩;rw[e3,Xs];refine⟨λh=>h.imp id λh=>⟨.inr h.1,h.2⟩,λhh=>hh.elim .inl λhh=>hh.1.elim (λe=>.inl ?_) λh=>.inr ⟨h,hh.2⟩⟩;have e:x=c.toNat:=by omega
   rw[e];refine V2 λhn=>h ⟨by simpa using hn,?_⟩;have:=hh.2
   rwa [show (x:Int)=c by omega]at this
inductive Rc(S:Nat->Prop)(F:Nat->Nat->Prop):Nat->Prop
 |base {x:Nat}:S x->Rc S F x
 |step {u v:Nat}:Rc S F u->F u v->Rc S F v
structure Ws(n:Nat)(S:Nat->Prop)(F:Nat->Nat->Prop)(r:List Bool)(st:List Int):Prop where
 len:r.length=n
 stk :∀z∈st,∃u:Nat,z=u/\u<n/\r.getD u false=true
 snd :∀x,r.getD x false=true->Rc S F x
 base :∀x,S x->r.getD x false=true
 cls :∀x,r.getD x false=true->(x:Int)∈st\/∀v,F x v->r.getD v false=true
 sz:st.length+cntF r<=n
theorem Yg{n:Nat}{S:Nat->Prop}{F:Nat->Nat->Prop}{r:List Bool}{st:List Int}{b:Nat}{l:List Int}{P:Int->Bool}(h:Ws n S F r (st++[(b:Int)]))(hl :∀c∈l,0<=c/\c<n)(hF :∀v:Nat,F b v↔(v:Int)∈l/\P v=true):
  Ws n S F (l.foldl (push P) (r,st)).1 (l.foldl (push P) (r,st)).2/\(l.foldl (push P) (r,st)).2.length+2*cntF (l.foldl (push P) (r,st)).1<(st++[(b:Int)]).length+2*cntF r:=by
 obtain⟨N,e1,e2,e3,e4,e5,e6⟩:=yQ (P:=P) l hl r st h.len;obtain⟨u,hu,hb1,hb2⟩:=h.stk (b:Int) (by simp);have hub:u=b:=by omega
 subst hub;have hsz:=h.sz;simp only[Z0,W3]at hsz;refine⟨⟨e2,λz hz=>?_,λx hx=>?_,λx hx=>(e3 x).2 (.inl (h.base x hx)),λx hx=>?_,by rw[e1,Z0];omega⟩,by rw[e1];simp only[Z0,W3];omega⟩
 .rw [e1]at hz;rcases QQ.1 hz with hz|hz
  .obtain ⟨u,g1,g2,g3⟩:=h.stk z (XS _ hz);exact⟨u,g1,g2,(e3 u).2 (.inl g3)⟩
  .obtain ⟨g1,g2,_⟩:=e4 z hz;have:=hl z g1;refine⟨z.toNat,by omega,by omega,(e3 _).2 (.inr ?_)⟩;rw[show ((z.toNat:Nat):Int)=z by omega];exact⟨g1,g2⟩
 .rcases (e3 x).1 hx with hx|hx
  .exact h.snd x hx
  .exact .step (h.snd _ hb2) ((hF x).2 hx)
 .have up:(∀v,F x v->r.getD v false=true)->∀v,F x v->(l.foldl (push P) (r,st)).1.getD v false=true:=λg v hv=>(e3 v).2 (.inl (g v hv));rcases e5 x hx with hx|hx
  .rcases h.cls x hx with g|g
   .rcases QQ.1 g with g|g
    .exact .inl (by rw[e1];exact XS _ g)
    .have:x=u:=by rw[Q6]at g;omega
     subst this;exact .inr λv hv=>(e3 v).2 (.inr ((hF v).1 hv))
   .exact .inr (up g)
  .exact .inl (by rw[e1];exact We _ hx)
theorem agL{n:Nat}{r:List Bool}{st l:List Int}{P:Int->Bool}{h:Nat}(hl :∀c∈l,0<=c/\c<n)(hr:r.length=n)(hh:r.getD h false=true)(hs:(h:Int)∉st):(l.foldl (push P) (r,st)).1.getD h false=true/\(h:Int)∉(l.foldl (push P) (r,st)).2:=by
 obtain⟨N,e1,e2,e3,e4,e5,e6⟩:=yQ (P:=P) l hl r st hr;refine⟨(e3 h).2 (.inl hh),λhm=>?_⟩;rw[e1]at hm;rcases QQ.1 hm with hm|hm
 .exact hs hm
 .have:=(e4 _ hm).2.2;rw[Q1,hh]at this;cases this
theorem adI{n:Nat}{S:Nat->Prop}{F:Nat->Nat->Prop}{r:List Bool}(h:Ws n S F r [])(x:Nat):r.getD x false=true↔Rc S F x:=by
 refine⟨h.snd x,λhx=>?_⟩
 induction hx with
 |base hs=>exact h.base _ hs
 |step _ hf ih=>exact(h.cls _ ih).resolve_left (by simp) _ hf
theorem anm{E:Nat->Nat->Prop}{a x:Nat}(ha:a≠0):Wk E a x↔Rc (λx=>x=0) (λu v=>E u v/\v≠a) x:=by
 constructor
 .intro h
  induction h with
  |z _=>exact .base rfl
  |s _ h1 h2 ih=>exact .step ih ⟨h1,h2⟩
 .intro h
  induction h with
  |base h=>rw[h];exact .z λe=>ha e.symm
  |step _ h ih=>exact .s ih h.1 h.2
theorem ajO{E:Nat->Nat->Prop}{h x:Nat}:TU E h x↔Rc (λx=>(x=h/\∃s,E s h/\Dom E h s)\/(E x h/\Dom E h x)) (λu v=>E v u/\u≠h) x:=by
 constructor
 .intro hi;rcases hi with hi|hi
  .exact .base (.inl hi)
  .induction hi with
   |src h1 h2 _=>exact .base (.inr ⟨h1,h2⟩)
   |pre hv he _ ih=>exact .step ih ⟨he,hv.ne⟩
 .intro hr
  induction hr with
  |base hs=>
   rename_i y;rcases hs with hs|⟨h1,h2⟩
   .exact .inl hs
   .by_cases e:y=h
    .subst e;exact .inl ⟨rfl,_,h1,h2⟩
    .exact .inr (.src h1 h2 e)
  |step _ hf ih=>exact ih.pred hf.1 hf.2
theorem adJ{n:Nat}{E:Nat->Nat->Prop}{rk:Nat->Nat}{out:List Int}(hG:Gr n E rk)(hI:Idm n E rk out){a b:Nat}(ha:a<n)(hb:b<n):(a≠b/\Dom E a b/\∀x,x<n->x≠b->Dom E x b->Dom E x a)↔up out b=(a:Int):=by
 constructor
 .intro ⟨h1,h2,h3⟩;have h4:=(hI.iff ha hb).2 h2;have h5:=uz h4 h1;have hu:0<=up out b:=by
   cases h4 with
   |refl=>exact absurd rfl h1
   |up h0 _=>exact h0
  obtain⟨v1,v2,v3⟩:=hI.T.val hb hu;have hcb:(up out b).toNat≠b:=λe=>by rw[e]at v2;omega
  have h6:=h3 _ v1 hcb ((hI.iff v1 hb).1 (.up hu .refl));have:=adb hG ha v1 ((hI.iff ha v1).1 h5) h6;omega
 .intro e;have hu:0<=up out b:=by omega
  have et:(up out b).toNat=a:=by omega
  obtain⟨v1,v2,v3⟩:=hI.T.val hb hu;rw[et]at v2;have hab:jr out a b:=.up hu (by rw[et];exact .refl);refine⟨λh=>by subst h;omega,(hI.iff ha hb).1 hab,λx hx hxb hd=>?_⟩;have:=uz ((hI.iff hx hb).2 hd) hxb;rw[et]at this;exact(hI.iff hx ha).1 this
theorem VR{st:List Int}(h:st≠[])(hl:st.length<=1000000):∃st' z,st=st'++[z]/\cu ((st.length:Int)-1)=(st'.length:Nat)/\st.getD st'.length 0=z/\st.take st'.length=st':=by
 rcases ze st with e|⟨st',z,e⟩
 .exact absurd e h
 .have e:st=st'++[z]:=by simpa using e
  subst e;refine⟨st',z,rfl,?_,?_,by simp⟩
  .simp only[Z0,W3]at hl ⊢;rw[aI (by omega)];omega
  .rw [getD_at _ (by simp)];simp
theorem pW{n x:Nat}:(List.replicate n false).getD x false=false:=by rw[Q2,KK];split<;>rfl
theorem Ko{nm:List UInt8}{pa re:Int}{bs:List aH}(hE:kU bs)(hl:bs.length<=1000)(h0:0<bs.length)(a:Nat):
  Ok (f38 nm pa re bs a) λr=>r.length=bs.length/\∀x,x<bs.length->(r.getD x false=true↔Wk (Ed bs) a x):=by
 unfold f38;refine aY (gy.2 (by omega)) (bF (λh=>ay ⟨by simp,λx hx=>?_⟩) λh=>?_)
 .have:a=0:=by simpa using h
  subst this;refine⟨λh=>?_,λh=>absurd h (um x)⟩;simp only[Q1]at h;rw[pW]at h;cases h
 have ha:a≠0:=by simpa using h
 simp only[Q1];refine aY (ak.2 ⟨by omega,by simp;omega⟩) ?_;have hcn:cntF (List.replicate bs.length false)=bs.length:=by simp[cntF,qt]
 have hset :∀x,((List.replicate bs.length false).set (Int.toNat 0) true).getD x false=if x=0 then true else false:=λx=>by rw[iJ (by simpa using h0),pW];rfl
 have hcs:=nC (l:=List.replicate bs.length false) (k:=0) (by simpa using h0) pW;refine aX _ ?_ λy h=>ay h;refine bf (λs:List Bool×List Int=>Ws bs.length (λx=>x=0) (λu v=>Ed bs u v/\v≠a) s.1 s.2) (λs=>s.2.length+2*cntF s.1)
  ⟨by simp,λz hz=>⟨0,by simpa using hz,h0,by rw[hset];rfl⟩,λx hx=>?_,λx hx=>by rw[hset,Qt hx],λx hx=>?_,?_⟩ λ⟨r,st⟩ hW=>?_
 .rw [hset]at hx;split at hx
  .rename_i e;exact .base e
  .cases hx
 .rw [hset]at hx;split at hx
  .rename_i e;subst e;exact .inl (by simp)
  .cases hx
 .simp only[W3];have:Int.toNat 0=0:=rfl;rw[this];omega
 simp only at hW ⊢;refine bF (λhc=>?_) λhc=>ay ?_
 rotate_left
 .have:st=[]:=v8.1 (by simp at hc;simp[hc]);subst this;exact⟨hW.len,λx hx=>(adI hW x).trans (anm ha).symm⟩
 have hsz:=hW.sz;obtain⟨st',z,e,w1,w2,w3⟩:=VR (st:=st) (λe=>by subst e;simp at hc) (by omega);have hll:st.length=st'.length+1:=by rw[e];simp
 simp only[w1,Q1,w2,w3];subst e;obtain⟨b,hz,hb,hrb⟩:=hW.stk z (by simp);subst hz;refine aY (ak.2 ⟨by omega,by omega⟩) (aY (by simp;omega) (aY (ak.2 ⟨by omega,by omega⟩) ?_));simp only[Q1];refine lU (oU _ _ _ _) ?_;have hsd:succs (bs.getD b aj).aV (bs.getD b aj).dI (bs.getD b aj).bg=dw bs b:=rfl;rw[hsd];have hin:=n_ hE hb;have hl2:=yO bs b;have hst:=Yg (l:=dw bs b) (P:=λc=>!decide (c=a)) hW hin λv=>⟨λh=>⟨h.1.2,by simp;omega⟩,λh=>⟨⟨hb,h.1⟩,by have:=h.2;simp at this;omega⟩⟩;refine aX (λy=>y=(dw bs b).foldl (push λc=>!decide (c=a)) (r,st')) ?_ λy hy=>ay (by subst hy;exact hst);generalize dw bs b=l at hin hl2 hst ⊢;refine wu rfl (by omega) (λj s=>s=(l.take j).foldl (push λc=>!decide (c=a)) (r,st')) rfl (λj s hj hs=>?_) λs hs=>by rw[hs,W8]
 obtain⟨N,e1,e2,e3,e4,e5,e6⟩:=yQ (P:=λc=>!decide (c=a)) (l.take j) (λc hc=>hin c (W6 hc)) r st' hW.len;rw[<-hs]at e1 e2 e3 e5 e6;obtain⟨r1,s1⟩:=s;simp only at e1 e2 e3 e5 e6 ⊢;have e:l.getD j 0=l[j]:=getD_at _ hj;have hr:=hin _ (Z2 hj);obtain⟨c,hc⟩ :∃c:Nat,l[j]=c:=⟨(l[j]).toNat,by omega⟩;rw[hc]at hr e;simp only[Q1,e];have hjl:inB (j:Int) l.length=true:=ak.2 ⟨by omega,by omega⟩;have hcr:inB (c:Int) r1.length=true:=ak.2 ⟨by omega,by omega⟩;rw[take_snoc hj,List.foldl_append,<-hs,hc];refine aX (λq=>q=decide (r1.getD c false=false/\(!decide ((c:Int)=a))=true)) (aY hjl (aY hcr (bF (λh=>aY hjl (ay ?_)) λh=>ay ?_))) λq hq=>?_
 .have h:r1.getD c false=false:=by simpa using h
  simp only[h,true_and];simp
 .have h:r1.getD c false=true:=by simpa using h
  exact(Vn λg=>by rw[h]at g;cases g.1).symm
 subst hq;refine aX (λy=>y=[(c:Int)].foldl (push λc=>!decide (c=a)) (r1,s1)) ?_ λy hy=>ay ⟨rfl,hy⟩;refine bF (λh=>aY hjl (aY hcr (aY hjl (aY ?_ (ay ?_))))) λh=>ay ?_
 .unfold bP;rw[e1];simp;omega
 .have h:=Wz h;simp only[Ka,List.foldl_nil];unfold push;rw[Qt (by simp only[Q1];exact h)];simp
 .have h:=K8 h;simp only[Ka,List.foldl_nil];unfold push;rw[QR (by simp only[Q1];exact h)]
def Tbl(bs:List aH)(D:List (List Bool)):Prop:=D.length=bs.length/\∀a,a<bs.length->(D.getD a []).length=bs.length/\∀b,b<bs.length->((D.getD a []).getD b false=true↔Dom (Ed bs) a b)
theorem Kq{nm:List UInt8}{pa re:Int}{bs:List aH}(hE:kU bs)(hl:bs.length<=1000)(h0:0<bs.length):Ok (f32 nm pa re bs) (Tbl bs):=by
 unfold f32;refine aX (Tbl bs) ?_ λy h=>ay h;refine wu rfl (by omega) (λi D=>D.length=i/\∀a,a<i->(D.getD a []).length=bs.length/\∀b,b<bs.length->((D.getD a []).getD b false=true↔Dom (Ed bs) a b)) ⟨rfl,λa h=>by omega⟩ (λi D hi ⟨d1,d2⟩=>?_) λD h=>h;refine aX _ (Ko hE hl h0 i) λr ⟨r1,r2⟩=>aY (gy.2 (by omega)) ?_;simp only[Q1];refine aX (λy=>y.length=bs.length/\∀b,b<bs.length->(y.getD b false=true↔Dom (Ed bs) i b)) ?_ λy ⟨y1,y2⟩=>aY (by unfold bP;simp;omega) (ay ⟨rfl,by simp;omega,λa ha=>?_⟩)
 .refine wu rfl (by omega) (λj y=>y.length=bs.length/\∀b,b<j->(y.getD b false=true↔Dom (Ed bs) i b)) ⟨by simp[r1],λb h=>by omega⟩ (λj y hj ⟨q1,q2⟩=>?_) λy h=>by rw[r1]at h;exact h
  refine aY (ak.2 ⟨by simp only;omega,by simp only;omega⟩) (aY (ak.2 ⟨by simp only;omega,by simp only;omega⟩) (ay ⟨rfl,by simpa using q1,λb hb=>?_⟩));simp only[Q1];rw[iJ (by omega)];by_cases e:b=j
  .subst e;rw[Qt rfl];have:=r2 b (by omega);unfold Dom;rw[<-this];simp
  .rw [QR e];exact q2 b (by omega)
 .by_cases e:a<i
  .have:(D++[y]).getD a []=D.getD a []:=by rw[getD_at _ (by simp;omega),getD_at _ (by omega),List.getElem_append_left (by omega)]
   simp only[this];exact d2 a e
  .have e:a=i:=by omega
   subst e;have:(D++[y]).getD a []=y:=by rw[getD_at _ (by simp;omega)];simp[d1]
   simp only[this];exact⟨y1,y2⟩
theorem ajP{p:Prop}{r d:Bool}(h1:r=true↔p)(h2:d=true↔¬ p):(!r)=d:=by
 cases r<;>cases d<;>simp at h1 h2 ⊢
 .exact h1 h2
 .exact h2 h1
theorem zB{f:aK}(hg:Good f)(a b:Int):∃d,f19 f.name f.params f.regs f.blocks a b=some d/\f20 f.name f.params f.regs f.blocks a b=some d:=by
 have hE:=hg.2.2.1;have hl:=hg.1;have h0:=hg.2.1;by_cases h:(0<=a/\a<f.blocks.length)/\0<=b/\b<f.blocks.length
 .obtain ⟨⟨h1,h2⟩,h3,h4⟩:=h;obtain⟨a,rfl⟩ :∃c:Nat,a=c:=⟨a.toNat,by omega⟩;obtain⟨b,rfl⟩ :∃c:Nat,b=c:=⟨b.toNat,by omega⟩;obtain⟨d,e,hd⟩:=CW hg (a:=a) (b:=b) (by omega) (by omega);refine⟨d,e,ok_eq ?_⟩;unfold f20;refine aX (λy=>y=d) (goT (Wc h1) (goT (Wc h2) (goT (Wc h3) (goT (Wc h4) (aX _ (Ko hE hl h0 a) λr ⟨r1,r2⟩=>aY (ak.2 ⟨by omega,by omega⟩) (ay ?_)))))) λy e=>ay e;rw[Q1];exact ajP (r2 b (by omega)) hd
 .have k :∀(x:Option Bool) (c1 c2 c3 c4:Bool),(c1&&c2&&c3&&c4)=false->Option.bind (bif c1 then bif c2 then bif c3 then bif c4 then x else some false else some false else some false else some false) (λs=>some s)=some false:=λx c1 c2 c3 c4 h=>by cases c1<;>cases c2<;>cases c3<;>cases c4<;>first|rfl|cases h
  have hf:(decide (0<=a)&&decide (a<(f.blocks.length:Int))&&decide (0<=b)&&decide (b<(f.blocks.length:Int)))=false:=by simp only[Bool.and_eq_false_iff,decide_eq_false_iff_not];omega
  exact⟨false,by unfold f19;exact k _ _ _ _ _ hf,by unfold f20;exact k _ _ _ _ _ hf⟩
theorem adK{f:aK}(hg:Good f){rk:Nat->Nat}{out:List Int}(hG:Gr f.blocks.length (Ed f.blocks) rk)(hI:Idm f.blocks.length (Ed f.blocks) rk out):Ok (f11 f.name f.params f.regs f.blocks) λy=>y=out:=by
 obtain⟨hl,h0,hE,hC⟩:=hg;unfold f11;generalize f.blocks=bs at *;have hT:=hI.T;refine aX _ (Kq hE hl h0) λD ⟨d1,d2⟩=>aY (gy.2 (by omega)) ?_;simp only[Q1];refine aX (λy=>y=out) ?_ λy e=>ay e;refine wu rfl (by omega) (λi y=>y.length=bs.length/\∀b,b<i->y.getD b 0=up out b) ⟨by simp,λb h=>by omega⟩ (λb y hb ⟨y1,y2⟩=>?_) λy ⟨y1,y2⟩=>?_
 rotate_left
 .refine vn (by rw[y1,hT.len]) λk h1 h2=>?_;have:=y2 k (by omega);rw[getD_at _ h1]at this;rw[this];unfold up;rw[getD_at _ h2]
 have hbB :∀(l:List Int),l.length=bs.length->inB (b:Int) l.length=true:=λl h=>ak.2 ⟨by omega,by omega⟩;have hsl:=hT.low hb;have hsv:=λh=>(hT.val hb h).1;refine aY (hbB _ y1) ?_;simp only[Q1];refine aX (λz=>z=y.set b (up out b)) ?_ λz hz=>ay ⟨rfl,?_⟩
 rotate_left
 .subst hz;refine⟨by simpa using y1,λc hc=>?_⟩;simp only;rw[Q2];by_cases e:c=b
  .subst e;rw[Kc (by omega)];rfl
  .rw [Kn (by omega),<-Q2];exact y2 c (by omega)
 refine wu rfl (by omega) (λa z=>z=y.set b (if up out b<a then up out b else -1)) (by congr 1;split<;>omega) (λa z ha hz=>?_) λz hz=>?_
 rotate_left
 .rw [hz];congr 1;by_cases h:0<=up out b
  .have:=hsv h;rw[Qt (by omega)]
  .rw [Qt (by omega)]
 simp only;have hz':z.length=bs.length:=by rw[hz];simpa using y1
 have hlast:=adJ hG hI ha hb;have hD :∀x,x<bs.length->inB (x:Int) D.length=true:=λx hx=>ak.2 ⟨by omega,by omega⟩;have hDb :∀x c,x<bs.length->c<bs.length->inB (c:Int) (D.getD x rF).length=true:=λx c hx hc=>ak.2 ⟨by omega,by have:=(d2 x hx).1;show (c:Int)<((D.getD x []).length:Int);omega⟩;have keep:up out b≠(a:Int)->z=y.set b (if up out b<((a+1:Nat):Int)then up out b else -1):=λh=>by
  rw[hz];congr 1;by_cases h1:up out b<(a:Int)
  .rw [Qt h1,Qt (by omega)]
  .rw [QR h1,QR (by omega)]
 refine aX (λz'=>z'=y.set b (if up out b<((a+1:Nat):Int)then up out b else -1)) ?_ λz' h=>ay ⟨rfl,h⟩;refine aX (λq=>q=true↔(a=b\/¬ Dom (Ed bs) a b)) (bF (λh=>ay ?_) λh=>aY (hD a ha) ?_) λq hq=>?_
 .have h:a=b:=by have:=Wz h;omega
  exact⟨λ_=>.inl h,λ_=>rfl⟩
 .have h:a≠b:=by have:=K8 h;omega
  simp only[Q1];refine aY (hDb a b ha hb) (ay ?_);have h2:(D.getD a rF).getD b false=true↔Dom (Ed bs) a b:=(d2 a ha).2 b hb;rw[WD,<-Bool.not_eq_true,h2];exact⟨.inr,λg=>g.resolve_left h⟩
 refine bF (λh=>ay (keep λe=>?_)) λh=>?_
 .obtain ⟨g1,g2,g3⟩:=hlast.2 e;exact(hq.1 h).elim g1 λh=>h g2
 have h:¬ (a=b\/¬ Dom (Ed bs) a b):=λg=>by have:=hq.2 g;rw[h]at this;cases this
 have hab:a≠b:=λe=>h (.inl e);have arl:Dom (Ed bs) a b:=V2 λe=>h (.inr e);refine aX (λq=>q=true↔∀x,x<bs.length->x≠b->Dom (Ed bs) x b->Dom (Ed bs) x a) ?_ λq hq=>?_
 .refine anl rfl (by omega) (λj q=>q=true↔∀x,x<j->x≠b->Dom (Ed bs) x b->Dom (Ed bs) x a) ⟨λ_ x h=>by omega,λ_=>rfl⟩ (λx q hx hq=>?_) λq h=>h;simp only;have e1:(D.getD x rF).getD b false=true↔Dom (Ed bs) x b:=(d2 x hx).2 b hb;have e2:(D.getD x rF).getD a false=true↔Dom (Ed bs) x a:=(d2 x hx).2 a ha;refine aX (λc=>c=true↔(x≠b/\Dom (Ed bs) x b/\¬ Dom (Ed bs) x a)) ?_ λc hc=>?_
  .refine bF (λh=>aY (hD x hx) ?_) λh=>ay ?_
   rotate_left
   .have h:x=b:=by simp at h;omega
    exact⟨nofun,λg=>absurd h g.1⟩
   have h:x≠b:=by simp at h;omega
   simp only[Q1];refine aY (hDb x b hx hb) (bF (λh1=>aY (hD x hx) (aY (hDb x a hx ha) (ay ?_))) λh1=>ay ?_)
   .rw [WD,<-Bool.not_eq_true,e2];exact⟨λg=>⟨h,e1.1 h1,g⟩,λg=>g.2.2⟩
   .exact ⟨nofun,λg=>by have:=e1.2 g.2.1;rw[h1]at this;cases this⟩
  refine aX (λq'=>q'=true↔∀z,z<x+1->z≠b->Dom (Ed bs) z b->Dom (Ed bs) z a) (bF (λh=>ay ?_) λh=>ay ?_) λq' h=>ay ⟨rfl,h⟩
  .obtain ⟨g1,g2,g3⟩:=hc.1 h;exact⟨nofun,λh=>absurd (h x (by omega) g1 g2) g3⟩
  .have h:¬ (x≠b/\Dom (Ed bs) x b/\¬ Dom (Ed bs) x a):=λg=>by have:=hc.2 g;rw[h]at this;cases this
   rw[hq];refine⟨λg z hz h1 h2=>?_,λg z hz=>g z (by omega)⟩;by_cases e:z=x
   .subst e;exact V2 λg3=>h ⟨h1,h2,g3⟩
   .exact g z (by omega) h1 h2
 refine aX (λz'=>z'=y.set b (if up out b<((a+1:Nat):Int)then up out b else -1)) (bF (λh=>aY (hbB _ hz') (ay ?_)) λh=>ay ?_) λz' h=>ay h
 .have:=hlast.1 ⟨hab,arl,hq.1 h⟩
  (try simp only[Q1])
  rw[hz,List.set_set,this,Qt (by omega)]
 .exact keep λe=>by have:=hq.2 (hlast.2 e).2.2;rw[h]at this;cases this
theorem Np{f:aK}(hg:Good f):f14 f.name f.params f.regs f.blocks=some (Nc f.blocks f.blocks.length):=by
 obtain⟨hl,h0,hE,hC⟩:=hg;apply ok_eq;unfold f14;generalize f.blocks=bs at *;refine aX _ (Kq hE hl h0) λD ⟨d1,d2⟩=>aX (λy=>y=Nc bs bs.length) ?_ λy hy=>ay hy;refine wu rfl (by omega) (λi y=>y=Nc bs i) rfl (λi y hi hy=>?_) λy hy=>hy;subst hy;refine aY (ak.2 ⟨by simp only;omega,by simp only;omega⟩) ?_;simp only[Q1];refine lU (oU _ _ _ _) ?_;have hsd:succs (bs.getD i aj).aV (bs.getD i aj).dI (bs.getD i aj).bg=dw bs i:=rfl;rw[hsd];have hl2:=yO bs i;have hst:=agJ hl2;have hlen:(VQ (dw bs i)).length=(dw bs i).length:=qd _;have hacc:=yP bs i;have hin :∀x∈VQ (dw bs i),0<=x/\x<bs.length:=λx hx=>n_ hE hi _ (Hl.1 hx);have hbk:=J8 bs i;generalize VQ (dw bs i)=l at hst hlen hin hbk;generalize dw bs i=l0 at hl2 hst hlen;refine aX (λq=>q=decide (l0.length=2/\l0.getD 1 0<l0.getD 0 0)) (bF (λh=>?_) λh=>ay ?_) λq hq=>aX (λy=>y=l) ?_ λy hy=>?_
 .have h:l0.length=2:=by have:=Wz h;omega
  exact aY (ak.2 ⟨by omega,by omega⟩) (aY (ak.2 ⟨by omega,by omega⟩) (ay (by simp only[h,true_and];rfl)))
 .exact (Vn λg=>by have:=K8 h;omega).symm
 .subst hq;refine bF (λh=>aY (ak.2 ⟨by omega,?_⟩) (aY (ak.2 ⟨by omega,?_⟩) (ay ?_))) λh=>ay ?_
  .have:=(Wz h).1;omega
  .have:=(Wz h).1;omega
  .rw [<-hst,Qt (Wz h)];rfl
  .rw [<-hst,QR (K8 h)]
 subst hy;refine aX (λz=>z=Nc bs (i+1)) ?_ λz e=>ay ⟨rfl,e⟩;rw[hbk];refine wu rfl (by omega) (λj z=>z=Nc bs i++PD bs i (y.take j)) (by simp[PD]) (λj z hj hz=>?_) λz hz=>by rw[hz,W8]
 have hjl:inB (j:Int) y.length=true:=ak.2 ⟨by omega,by omega⟩;have e:y.getD j 0=y[j]:=getD_at _ hj;have hr:=hin _ (Z2 hj);obtain⟨c,hc⟩ :∃c:Nat,y[j]=c:=⟨(y[j]).toNat,by omega⟩;rw[hc]at hr e;have hcn:c<bs.length:=by omega
 refine aY hjl ?_;simp only[Q1,e];have hd:(D.getD c rF).getD i false=true↔Dom (Ed bs) c i:=(d2 c hcn).2 i hi;have hdl:(D.getD c rF).length=bs.length:=(d2 c hcn).1;have hbl:=Pn bs i (y.take j);rw[WF]at hbl;refine aY (ak.2 ⟨by omega,by omega⟩) (aY (ak.2 ⟨by omega,by omega⟩) ?_);refine aX (λz=>z=Nc bs i++PD bs i (y.take (j+1))) ?_ λz e=>ay ⟨rfl,e⟩;rw[take_snoc hj,hc];refine bF (λh=>aY hjl (aY (by unfold bP;simp[hz];omega) (ay ?_))) λh=>ay ?_
 .rw [Yb (hd.1 h),hz,Wm]
 .rw [adC (λhh=>absurd (hd.2 hh) (by rw[h];simp)),hz]
theorem ano{α:Type}{b:Bool}{x:Option α}:ck b (ck b x)=ck b x:=by cases b<;>rfl
theorem ZV(nm:List UInt8)(pa re:Int)(bs:List aH):f39 nm pa re bs=f30 nm pa re bs:=by unfold f39 f30;simp only[oU,uy,ano]
theorem Yh{α:Type}{l:List α}{i:Nat}(h:i<l.length){Q:α->Prop}:(∃e∈l.take (i+1),Q e)↔(∃e∈l.take i,Q e)\/Q l[i]:=by
 rw[take_snoc h];constructor
 .rintro ⟨e,he,hq⟩;rcases QQ.1 he with he|he
  .exact .inl ⟨e,he,hq⟩
  .rw [Q6]at he;subst he;exact .inr hq
 .rintro (⟨e,he,hq⟩|hq)
  .exact ⟨e,XS _ he,hq⟩
  .exact ⟨_,We _ (by simp),hq⟩
theorem agM{l:List Bool}{k:Nat}(hk:k<l.length):cntF (l.set k true)<=cntF l:=by
 cases h:l.getD k false with
 |false=>have:=nC hk h;omega
 |true=>
  have:l.set k true=l:=by rw[getD_at _ hk]at h;rw[<-h];exact List.set_getElem_self hk
  rw[this];exact ZD _
structure Mks(n h:Nat)(T:List dZ)(r:List Bool)(st:List Int):Prop where
 len:r.length=n
 stk :∀z∈st,∃u:Nat,z=u/\u<n/\r.getD u false=true
 chr :∀x:Nat,r.getD x false=true↔(x=h/\∃e∈T,e.to=h)\/∃e∈T,e.to=h/\e.from'=x
 on :∀x:Nat,r.getD x false=true->x=h\/(x:Int)∈st
 nh:(h:Int)∉st
 sz:st.length+cntF r<=n
theorem TG{f:aK}(hg:Good f){h:Nat}(hh:h<f.blocks.length):Ok (f22 f.name f.params f.regs f.blocks h) λy=>∃L:List Nat,y=L.map Int.ofNat/\L.Pairwise (· < ·)/\L.length<=1000/\∀x,x∈L↔x<f.blocks.length/\TU (Ed f.blocks) h x:=by
 unfold f22;refine lU (Np hg) ?_;obtain⟨hl,h0,hE,hC⟩:=hg;have hBm:=λ{e:dZ}=>Po hE (e:=e);have hBl:=yP f.blocks f.blocks.length;generalize Nc f.blocks f.blocks.length=B at hBm hBl;generalize f.blocks=bs at *;refine aY (gy.2 (by omega)) ?_;simp only[Q1];refine aX (λs=>Mks bs.length h B s.1 s.2) ?_ λ⟨r,st⟩ hM=>?_
 .refine wu rfl (by omega) (λi s=>Mks bs.length h (B.take i) s.1 s.2) ⟨by simp,nofun,λx=>by rw[pW];simp,λx hx=>(by rw[pW]at hx;cases hx),by simp,by simp[cntF,qt]⟩ (λi s hi hM=>?_) λs hs=>by rw[W8]at hs;exact hs
  have hil:inB (i:Int) B.length=true:=ak.2 ⟨by omega,by omega⟩;have e:B.getD i (dZ.mk 0 0)=B[i]:=getD_at _ hi;obtain⟨u,v,he,hed,hdm⟩:=hBm.1 (Z2 hi);obtain⟨hu,hv⟩:=Gg hE hed;have hch:=λx:Nat=>Yh hi (Q:=λe:dZ=>e.to=(h:Int)/\e.from'=(x:Int));have ajQ:=Yh hi (Q:=λe:dZ=>e.to=(h:Int));refine aY hil ?_;simp only[Q1,e];simp only[he]at hch ajQ ⊢;refine aX (λs=>Mks bs.length h (B.take (i+1)) s.1 s.2) ?_ λs hs=>ay ⟨rfl,hs⟩;have hlen:=hM.len;refine bF (λhc=>?_) λhc=>ay ⟨hlen,hM.stk,λx=>?_,hM.on,hM.nh,hM.sz⟩
  rotate_left
  .have hc:¬ (v:Int)=h:=K8 hc;rw[hM.chr,hch,ajQ];simp[hc]
  have hc:v=h:=by have:=Wz hc;omega
  subst hc;have hset :∀x,(s.1.set v true).getD x false=if x=v then true else s.1.getD x false:=λx=>iJ (by omega)
  have Yi :∀x,((s.1.set v true).set u true).getD x false=if x=u then true else if x=v then true else s.1.getD x false:=λx=>by rw[iJ (by simp;omega),hset]
  have hcl:=agM (l:=s.1) (k:=v) (by omega);have hsz:=hM.sz;have anp :∀w:Nat,w<bs.length->inB (w:Int) (s.1.set v true).length=true:=λw hw=>ak.2 ⟨by omega,by simp;omega⟩;refine aY (ak.2 ⟨by omega,by omega⟩) (aY hil ?_)
  skip
  refine aY (anp u hu) (aX (λs=>Mks bs.length v (B.take (i+1)) s.1 s.2) ?_ λs hs=>ay hs);have anq :∀x,((x=v/\∃e∈B.take (i+1),e.to=(v:Int))\/∃e∈B.take (i+1),e.to=(v:Int)/\e.from'=(x:Int))↔(x=v\/x=u\/s.1.getD x false=true):=λx=>by
   rw[hM.chr,hch,ajQ];constructor
   .rintro (⟨e,_⟩|e|⟨_,e⟩)
    .exact .inl e
    .exact .inr (.inr (.inr e))
    .exact .inr (.inl (by omega))
   .rintro (e|e|⟨e,e'⟩|e)
    .exact .inl ⟨e,.inr rfl⟩
    .exact .inr (.inr ⟨rfl,by omega⟩)
    .exact .inl ⟨e,.inl e'⟩
    .exact .inr (.inl e)
  refine bF (λhn=>aY hil ?_) λhn=>ay ?_
  .skip
   refine aY (anp u hu) (aY hil (aY (by unfold bP;simp;omega) (ay ⟨by simpa using hlen,λz hz=>?_,λx=>?_,λx hx=>?_,λhz=>?_,?_⟩)))
   .rcases QQ.1 hz with hz|hz
    .obtain ⟨w,g1,g2,g3⟩:=hM.stk z hz;refine⟨w,g1,g2,?_⟩;simp only[Q1,Yi,g3,ite_self]
    .rw [Q6]at hz;exact⟨u,hz,hu,by simp only[Q1,Yi,if_true]⟩
   .simp only[Q1,Yi,anq];by_cases e1:x=u<;>by_cases e2:x=v<;>simp[e1,e2]
   .simp only[Q1,Yi]at hx;by_cases e1:x=u
    .exact .inr (by rw[e1];simp)
    .by_cases e2:x=v
     .exact .inl e2
     .rw [QR e1,QR e2]at hx;exact(hM.on x hx).imp id λh=>XS _ h
   .rcases QQ.1 hz with hz|hz
    .exact hM.nh hz
    .rw [Q6]at hz;rw[show u=v by omega]at hn;simp only[Q1,hset,if_true]at hn;cases hn
   .simp only[Q1]at hn ⊢;have:=nC (l:=s.1.set v true) (k:=u) (by simp;omega) (by simpa using hn);simp only[Z0,W3];omega
  .have hn:(s.1.set v true).getD u false=true:=by simp only[Q1]at hn;simpa using hn
   refine⟨by simpa using hlen,λz hz=>?_,λx=>?_,λx hx=>?_,hM.nh,by simp only[Q1];omega⟩
   .obtain ⟨w,g1,g2,g3⟩:=hM.stk z hz;exact⟨w,g1,g2,by simp only[Q1,hset,g3,ite_self]⟩
   .simp only[Q1,anq];rw[hset];by_cases e2:x=v
    .simp [e2]
    .rw [QR e2];refine⟨λh=>.inr (.inr h),λh=>h.elim (λh=>absurd h e2) λh=>h.elim (λh=>?_) id⟩;rw[hset]at hn;subst h;rw[QR e2]at hn;exact hn
   .simp only[Q1,hset]at hx;by_cases e2:x=v
    .exact .inl e2
    .rw [QR e2]at hx;exact hM.on x hx
 rw[ZV];refine aX _ (J5 hE hl) λP ⟨hP1,hP2⟩=>?_;simp only;refine aX (λm=>m.length=bs.length/\∀x,x<bs.length->(m.getD x false=true↔TU (Ed bs) h x)) ?_ λm ⟨m1,m2⟩=>?_
 rotate_left
 .refine aX (λy=>y=((List.range m.length).filter λx=>m.getD x false).map Int.ofNat) ?_ λy e=>ay ⟨_,e,(List.pairwise_lt_range).filter _,J0 (qf _ _) (by simp;omega),λx=>?_⟩
  rotate_left
  .rw [Jn,V0,m1];exact⟨λh=>⟨h.1,(m2 x h.1).1 h.2⟩,λh=>⟨h.1,(m2 x h.1).2 h.2⟩⟩
  refine wu rfl (by omega) (λi y=>y=((List.range i).filter λx=>m.getD x false).map Int.ofNat) rfl (λi y hi hy=>?_) λy h=>h;have hfl:((List.range i).filter λx=>m.getD x false).length<=i:=by have:=qf (λx=>m.getD x false) (List.range i);simpa using this
  refine aY (ak.2 ⟨by simp only;omega,by simp only;omega⟩) ?_;simp only[Q1];refine aX (λy=>y=((List.range (i+1)).filter λx=>m.getD x false).map Int.ofNat) ?_ λy e=>ay ⟨rfl,e⟩;rw[List.range_succ,va,Z6,<-hy];have hyl:y.length<=i:=by rw[hy];simpa using hfl
  refine bF (λh=>aY (by unfold bP;simp only[W3,Kd,XX];omega) (ay ?_)) λh=>ay ?_
  .rw [qS (by simpa using h)];rfl
  .rw [qT (by rw[h];simp)];simp
 refine bf (λs:List Bool×List Int×List (List Int)=>Ws bs.length (λx=>(x=h/\∃s,Ed bs s h/\Dom (Ed bs) h s)\/(Ed bs x h/\Dom (Ed bs) h x)) (λu v=>Ed bs v u/\u≠h) s.1 s.2.1/\s.2.2=P/\(h:Int)∉s.2.1/\(s.2.1≠[]->s.1.getD h false=true)) (λs=>s.2.1.length+2*cntF s.1)
  ⟨⟨hM.len,hM.stk,λx hx=>.base ?_,λx hx=>?_,λx hx=>?_,hM.sz⟩,rfl,hM.nh,λhne=>?_⟩ λ⟨r,st,P'⟩ ⟨hW,e,hnh,hrh⟩=>?_
 .rcases (hM.chr x).1 hx with⟨e,b,hb,ht⟩|⟨b,hb,ht,hf⟩
  .obtain ⟨u,v,e',h1,h2⟩:=hBm.1 hb;subst e';have:v=h:=by simp only at ht;omega
   subst this;exact .inl ⟨e,u,h1,h2⟩
  .obtain ⟨u,v,e',h1,h2⟩:=hBm.1 hb;subst e';simp only at ht hf;rw[show v=h by omega,show u=x by omega]at h1 h2;exact .inr ⟨h1,h2⟩
 .refine (hM.chr x).2 (hx.imp (λ⟨e,s,h1,h2⟩=>⟨e,_,hBm.2 ⟨s,h,rfl,h1,h2⟩,rfl⟩) λ⟨h1,h2⟩=>⟨_,hBm.2 ⟨x,h,rfl,h1,h2⟩,rfl,rfl⟩)
 .rcases hM.on x hx with e|e
  .exact .inr λv hv=>absurd e hv.2
  .exact .inl e
 .obtain ⟨z,hz⟩:=List.exists_mem_of_ne_nil _ hne;obtain⟨u,_,_,hu⟩:=hM.stk z hz;exact(hM.chr h).2 (.inl ⟨rfl,((hM.chr u).1 hu).elim (λg=>g.2) λ⟨e,h1,h2,_⟩=>⟨e,h1,h2⟩⟩)
 simp only at hW e hnh hrh ⊢;subst e;refine bF (λhc=>?_) λhc=>ay ?_
 rotate_left
 .have:st=[]:=v8.1 (by simp at hc;simp[hc]);subst this;exact⟨hW.len,λx hx=>(adI hW x).trans ajO.symm⟩
 have hsz:=hW.sz;obtain⟨st',z,e,w1,w2,w3⟩:=VR (st:=st) (λe=>by subst e;simp at hc) (by omega);have hll:st.length=st'.length+1:=by rw[e];simp
 simp only[w1,Q1,w2,w3];subst e;obtain⟨b,hz,hb,hrb⟩:=hW.stk z (by simp);subst hz;refine aY (ak.2 ⟨by omega,by omega⟩) (aY (by simp;omega) ?_);simp only[Q1];obtain⟨p1,p2⟩:=hP2 b hb;have hin :∀c∈P'.getD b [],0<=c/\c<bs.length:=λc hc=>by obtain⟨u,e,he⟩:=(p1 c).1 hc;have:=he.1;omega
 have hbP:inB (b:Int) P'.length=true:=ak.2 ⟨by omega,by omega⟩;have hbh:b≠h:=λe=>hnh (by rw[e];simp);have hhd:=agL (P:=λc=>true) (h:=h) hin hW.len (hrh (by simp)) λg=>hnh (XS _ g);have hst:=Yg (l:=P'.getD b []) (P:=λc=>true) hW hin λv=>⟨λh=>⟨(p1 v).2 ⟨v,rfl,h.1⟩,rfl⟩,λhv=>by obtain⟨u,e,he⟩:=(p1 v).1 hv.1;rw[show v=u by omega];exact⟨he,hbh⟩⟩
 refine aX (λy=>y=(((P'.getD b []).foldl (push λc=>true) (r,st')).1,((P'.getD b []).foldl (push λc=>true) (r,st')).2,P')) ?_ λy hy=>ay (by subst hy;exact⟨⟨hst.1,rfl,hhd.2,λ_=>hhd.1⟩,hst.2⟩);have hself:P'.set b (P'.getD b eInt)=P':=Nj (by omega);have hcl:P'.getD b eInt=P'.getD b []:=rfl;rw[hcl]at hself;refine bf (λs:Int×List Bool×List Int×List (List Int)=>∃j:Nat,s.1=j/\j<=(P'.getD b []).length/\(s.2.1,s.2.2.1)=((P'.getD b []).take j).foldl (push λc=>true) (r,st')/\s.2.2.2=P') (λs=>(P'.getD b []).length-s.1.toNat) ⟨0,rfl,by omega,rfl,rfl⟩ λ⟨j',r1,s1,Q⟩ ⟨j,e1,e2,e3,e4⟩=>?_;simp only at e1 e3 e4;subst e1;subst e4;simp only[Q1,hcl,hself];refine aY hbP ?_;generalize Q.getD b []=l at *;refine bF (λhc=>?_) λhc=>ay ?_
 rotate_left
 .have:j=l.length:=by simp at hc;omega
  rw[this,W8]at e3;show (r1,s1,Q)=_;rw[<-e3]
 have hj:j<l.length:=by simpa using hc
 have hjl:inB (j:Int) l.length=true:=ak.2 ⟨by omega,by omega⟩;have e:l.getD j 0=l[j]:=getD_at _ hj;have hr:=hin _ (Z2 hj);obtain⟨c,hc⟩ :∃c:Nat,l[j]=c:=⟨(l[j]).toNat,by omega⟩;rw[hc]at hr e;simp only[e];obtain⟨N,q1,q2,q3,q4,q5,q6⟩:=yQ (P:=λc=>true) (l.take j) (λc hc=>hin c (W6 hc)) r st' hW.len;rw[<-e3]at q1 q2 q3 q5 q6;simp only at q1 q2 q3 q5 q6;have hcr:inB (c:Int) r1.length=true:=ak.2 ⟨by omega,by omega⟩;refine aY hbP (aY hjl (aY hcr ?_));simp only[Q1];refine aX (λy=>(y.1,y.2.1)=[(c:Int)].foldl (push λc=>true) (r1,s1)/\y.2.2=Q) ?_ λ⟨y1,y2,y3⟩ ⟨g1,g2⟩=>?_
 .refine bF (λh=>aY hbP (aY hjl (aY hcr (aY hbP (aY hjl (aY ?_ (ay ⟨?_,rfl⟩))))))) λh=>ay ⟨?_,rfl⟩
  .unfold bP;rw[q1];simp;omega
  .simp only[Ka,List.foldl_nil];unfold push;rw[Qt ⟨by simp only[Q1];simpa using h,rfl⟩];simp
  .simp only[Ka,List.foldl_nil];unfold push;rw[QR λg=>by simp only[Q1]at g;rw[g.1]at h;cases h]
 .simp only at g1 g2;rw[show cu ((j:Int)+1)=((j+1:Nat):Int) by rw[aI (by omega)];omega];exact ay ⟨⟨j+1,rfl,by omega,by rw[g1,take_snoc hj,List.foldl_append,<-e3,hc],g2⟩,by simp only[Q1];omega⟩
open Classical in
noncomputable def dep(bs:List aH)(x:Nat):Nat->Nat
 |0=>0
 |k+1=>dep bs x k+if TU (Ed bs) k x then 1 else 0
theorem adL(bs:List aH)(x:Nat):∀k,dep bs x k<=k
 |0=>ZD _
 |k+1=>by have:=adL bs x k;simp only[dep];split<;>omega
def Dp(bs:List aH)(k:Nat)(y:List Int):Prop:=y.length=bs.length/\∀x,x<bs.length->y.getD x 0=(dep bs x k:Nat)
theorem ajR{bs:List aH}{k:Nat}{y z:List Int}(h:Dp bs k y)(h':Dp bs k z):y=z:=vn (by rw[h.1,h'.1]) λi h1 h2=>by have e1:=h.2 i (by have:=h.1;omega);have e2:=h'.2 i (by have:=h.1;omega);rw[getD_at _ h1]at e1;rw[getD_at _ h2]at e2;rw[e1,e2]
theorem TJ(bs:List aH):Dp bs 0 (List.replicate bs.length 0):=⟨by simp,λx hx=>by rw[getD_at _ (by simpa using hx)];simp[dep]⟩
def Dq(bs:List aH)(k:Nat)(S:Nat->Prop)(y:List Int):Prop:=y.length=bs.length/\∀x,x<bs.length->(S x->y.getD x 0=((dep bs x k+1:Nat):Int))/\(¬ S x->y.getD x 0=(dep bs x k:Nat))
theorem TL{bs:List aH}{k:Nat}{S:Nat->Prop}{y:List Int}(h:Dp bs k y)(hS :∀x,¬ S x):Dq bs k S y:=⟨h.1,λx hx=>⟨λhs=>absurd hs (hS x),λ_=>h.2 x hx⟩⟩
theorem adM{bs:List aH}{k:Nat}{S:Nat->Prop}{y:List Int}(h:Dq bs k S y)(hS :∀x,x<bs.length->(S x↔TU (Ed bs) k x)):Dp bs (k+1) y:=⟨h.1,λx hx=>by
 simp only[dep];by_cases hi:TU (Ed bs) k x
 .rw [Qt hi];exact(h.2 x hx).1 ((hS x hx).2 hi)
 .rw [QR hi];exact(h.2 x hx).2 λg=>hi ((hS x hx).1 g)⟩
theorem adN{bs:List aH}{k b:Nat}{S S':Nat->Prop}{y:List Int}(h:Dq bs k S y)(hb:b<bs.length)(hk:k<=1000)(hn:¬ S b)(hS :∀x,S' x↔S x\/x=b):Dq bs k S' (y.set b (cu (y.getD b 0+1))):=by
 have hd:=adL bs b k;refine⟨by simpa using h.1,λx hx=>?_⟩;rw[lQ (by rw[h.1];exact hb),(h.2 b hb).2 hn,aI (by omega),hS];by_cases e:x=b
 .subst e;rw[Qt rfl];exact⟨λ_=>by omega,λg=>absurd (.inr rfl) g⟩
 .rw [QR e];exact⟨λg=>(h.2 x hx).1 (g.resolve_right e),λg=>(h.2 x hx).2 λg'=>g (.inl g')⟩
theorem agN{bs:List aH}{k:Nat}{S S':Nat->Prop}{y:List Int}(h:Dq bs k S y)(hS :∀x,S' x↔S x):Dq bs k S' y:=⟨h.1,λx hx=>by rw[hS];exact h.2 x hx⟩
theorem adO{f:aK}(hg:Good f):Ok (f15 f.name f.params f.regs f.blocks) (Dp f.blocks f.blocks.length):=by
 have hl:=hg.1;unfold f15;refine aY (gy.2 (by omega)) (aX _ (J9 hg) λB ⟨b1,b2,b3⟩=>?_);have EC:=λ(h:Nat) hh=>Yc hg (h:=h) hh b1 b2 b3;generalize f.blocks=bs at *;refine aX (Dp bs bs.length) ?_ λy h=>ay h;simp only[Q1];refine wu rfl (by omega) (λi y=>Dp bs i y) (TJ bs) (λh y hh hy=>?_) λy h=>h;simp only;refine aX _ (EC h hh) λm ⟨m1,m2⟩=>aX (Dp bs (h+1)) ?_ λy h=>ay ⟨rfl,h⟩;refine wu rfl (by omega) (λj y=>Dq bs h (λx=>x<j/\m.getD x false=true) y) (TL hy λx h=>by omega) (λj y hj hy=>?_) λy hy=>adM hy λx hx=>⟨λg=>(m2 x hx).1 g.2,λg=>⟨by omega,(m2 x hx).2 g⟩⟩;have hyl:=hy.1;have hjy:inB (j:Int) y.length=true:=ak.2 ⟨by omega,by omega⟩;refine aY (ak.2 ⟨by simp only;omega,by simp only;omega⟩) ?_;simp only[Q1];refine aX (Dq bs h λx=>x<j+1/\m.getD x false=true) (bF (λhc=>aY hjy (aY hjy (ay (adN hy (by omega) (by omega) (λg=>by omega) λx=>?_)))) λhc=>ay (agN hy λx=>?_)) λy h=>ay ⟨rfl,h⟩
 .by_cases e:x=j
  .subst e;exact⟨λ_=>.inr rfl,λ_=>⟨by omega,hc⟩⟩
  .exact ⟨λg=>.inl ⟨by omega,g.2⟩,λg=>g.elim (λg=>⟨by omega,g.2⟩) λg=>absurd g e⟩
 .by_cases e:x=j
  .subst e;exact⟨λg=>(by rw[hc]at g;cases g.2),λg=>by omega⟩
  .exact ⟨λg=>⟨by omega,g.2⟩,λg=>⟨by omega,g.2⟩⟩
theorem ZW{f:aK}(hg:Good f):Ok (f16 f.name f.params f.regs f.blocks) (Dp f.blocks f.blocks.length):=by
 have hl:=hg.1;unfold f16;have hloop:=λ(h:Nat) hh=>TG hg (h:=h) hh;generalize f.blocks=bs at *;refine aY (gy.2 (by omega)) (aX (Dp bs bs.length) ?_ λy h=>ay h);simp only[Q1];refine wu rfl (by omega) (λi y=>Dp bs i y) (TJ bs) (λh y hh hy=>?_) λy h=>h;simp only;refine aX _ (hloop h hh) λl ⟨L,e,l1,l2,l3⟩=>aX (Dp bs (h+1)) ?_ λy h=>ay ⟨rfl,h⟩;subst e;have hnd:L.Nodup:=l1.imp λh=>Nat.ne_of_lt h;refine wu rfl (by simp;omega) (λj y=>Dq bs h (λx=>x∈L.take j) y) (TL hy λx h=>by simp at h) (λj y hj hy=>?_) λy hy=>adM hy λx hx=>?_
 rotate_left
 .rw [W5,W8,l3];exact⟨λg=>g.2,λg=>⟨hx,g⟩⟩
 have hj':j<L.length:=by simpa using hj
 have hyl:=hy.1;have e:(L.map Int.ofNat).getD j 0=(L[j]:Nat):=by rw[getD_at _ hj];simp
 have hn:=((l3 L[j]).1 (Z2 hj')).1;have hni:L[j]∉L.take j:=λg=>by obtain⟨k,hk,e⟩:=JN g;rw[qi]at e;rw[WF]at hk;have:=(vo hnd).1 e;omega
 refine aY (ak.2 ⟨by simp only;omega,by simp only;omega⟩) ?_;simp only[Q1,e];have hjy:inB ((L[j]:Nat):Int) y.length=true:=ak.2 ⟨by omega,by omega⟩;refine aY hjy (aY hjy (ay ⟨rfl,adN hy hn (by omega) hni λx=>?_⟩));rw[take_snoc hj',QQ,Q6]
end Go.Fg.YtfakmncecjicbaaGreat

