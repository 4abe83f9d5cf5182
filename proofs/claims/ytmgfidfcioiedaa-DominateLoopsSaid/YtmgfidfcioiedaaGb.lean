/-
  Chapter 11, plain: a pass over the blocks keeps the table right, and makes it smaller; a table that stays is that of the dominators.
-/
import Derived.Test.YtmgfidfcioiedaaGa
namespace Go.Fg.Ytmgfidfcioiedaa
set_option linter.unusedVariables false
set_option linter.unusedSimpArgs false
structure Ps (n:Nat) (E:Nat→Nat→Prop) (rk:Nat→Nat) (out:List Int) (i:Nat):Prop where
 T:Tb n E rk out
 F :∀{v},v<n→0≤up out v→∀y,(∀p,E p v→Pr out p→iR out y p)→iR out y (up out v).toNat
 H :∀{v},v<n→0≤up out v→∀p,E p v→rk p<rk v→rk v<i∨i≤rk (up out v).toNat→iR out (up out v).toNat p
 D :∀{v},v<n→rk v<i→Pr out v
structure Bst (n:Nat) (E:Nat→Nat→Prop) (rk:Nat→Nat) (out:List Int) (b z:Nat):Prop where
 lt:z<n
 pr:Pr out z
 all :∀p,E p b→Pr out p→iR out z p
 top :∀y,(∀p,E p b→Pr out p→iR out y p)→iR out y z
 dom :∀d,(∀p,E p b→Pr out p→Dom E d p)→Dom E d z
section
variable {n:Nat} {E:Nat→Nat→Prop} {rk:Nat→Nat} {out:List Int}
theorem IU {b z:Nat} (hb:b<out.length) {v:Nat} (h:Pr out v):Pr (out.set b z) v:=by
 rcases h with h | h
 ·exact .inl h
 ·refine .inr ?_
  rw [kH hb]
  split
  ·omega
  ·exact h
theorem agQ (hT:Tb n E rk out) {a v:Nat} (h:iR out a v) (ha:Pr out a):Pr out v:=by
 cases h with
 |refl=>exact ha
 |up h0 _=>exact .inr h0
theorem TF (hT:Tb n E rk out) {b:Nat} {z:Int} (hb:b<n) (hu:¬ Pr out b) {a v:Nat} (h:iR (out.set b z) a v):v<n→Pr out v→iR out a v:=by
 induction h with
 |refl=>exact fun _ _=>.refl
 |@up w h0 ha ih=>
  intro hv hp
  have hne:w≠b:=fun e=>by subst e;exact hu hp
  have e:up (out.set b z) w=up out w:=by rw [kH (by rw [hT.len];exact hb),if_neg hne]
  rw [e] at h0 ih
  obtain ⟨h1,h2,h3⟩:=hT.val hv h0
  exact .up h0 (ih h1 h3)
theorem adY (hG:Gr n E rk) {i b z:Nat} (hP:Ps n E rk out i) (hb:b<n) (h0:b≠0) (hr:rk b=i) (hz:Bst n E rk out b z):rk z<rk b∧Tb n E rk (out.set b z):=by
 have hT:=hP.T
 have hbl:b<out.length:=by rw [hT.len];exact hb
 obtain ⟨u,hu,hur⟩:=hG.pred hb h0
 have hlt:rk z<rk b:=by
  have:=(xu hT (hz.all u hu (hP.D (hG.inn hu).1 (by omega))) (hG.inn hu).1).2.1
  omega
 refine ⟨hlt,⟨by rw [List.length_set];exact hT.len,?_,fun {v} hv hh => ?_,fun {v} hv => ?_,fun {v} hv hh d hd hne => ?_⟩⟩
 ·rw [kH hbl,if_neg (fun e=>h0 e.symm)];exact hT.zero
 ·rw [kH hbl] at hh ⊢
  split
  ·rename_i e
   subst e
   simp only [Int.toNat_natCast]
   exact ⟨hz.lt,hlt,IU hbl hz.pr⟩
  ·rename_i e
   rw [if_neg e] at hh
   obtain ⟨h1,h2,h3⟩:=hT.val hv hh
   exact ⟨h1,h2,IU hbl h3⟩
 ·rw [kH hbl]
  split
  ·omega
  ·exact hT.low hv
 ·rw [kH hbl] at hh ⊢
  split
  ·rename_i e
   subst e
   simp only [Int.toNat_natCast]
   exact hz.dom d fun p hp _=>IK hd hp hne
  ·rename_i e
   rw [if_neg e] at hh
   exact hT.dom hv hh d hd hne
theorem adZ (hG:Gr n E rk) {i b z:Nat} (hP:Ps n E rk out i) (hb:b<n) (h0:b≠0) (hr:rk b=i) (hz:Bst n E rk out b z):Ps n E rk (out.set b z) (i+1):=by
 have hT:=hP.T
 have hbl:b<out.length:=by rw [hT.len];exact hb
 obtain ⟨hlt,hT'⟩:=adY hG hP hb h0 hr hz
 have sub :∀{y v:Nat},v<n→Pr out v→iR (out.set b z) y v→iR out y v:=by
  intro y v hv hp h
  by_cases hb0:0≤up out b
  ·exact Qp hT hb (fun _=>hP.F hb hb0 z hz.all) hb0 h
  ·exact TF hT hb (fun e=>e.elim h0 hb0) h hv hp
 refine ⟨hT',fun {v} hv hh y hy => ?_,fun {v} hv hh p hp hpr hc => ?_,fun {v} hv hvi => ?_⟩
 ·have hy' :∀p,E p v→Pr out p→iR out y p:=fun p hp hpp=>sub (hG.inn hp).1 hpp (hy p hp (IU hbl hpp))
  rw [kH hbl] at hh ⊢
  split
  ·rename_i e
   subst e
   simp only [Int.toNat_natCast]
   exact zK hT hb (hz.top y hy') hz.lt hlt
  ·rename_i e
   rw [if_neg e] at hh
   obtain ⟨g1,g2,g3⟩:=hT.val hv hh
   have ho:=hP.F hv hh y hy'
   rcases XE hT hb (z:=z) ho with ho | ⟨o1,o2,o3⟩
   ·exact ho
   ·have hv0:v≠0:=fun e=>by subst e;rw [hT.zero] at hh;omega
    obtain ⟨u,hu,hur⟩:=hG.pred hv hv0
    have hun:=(hG.inn hu).1
    have hrb:=(xu hT o1 g1).2.1
    have hA:=hP.H hv hh u hu hur (.inr (by omega))
    have hbu:iR (out.set b z) b u:=zJ hT hb (o1.trans hA) hun (Nat.le_refl _)
    have hyu:=hy u hu (IU hbl (agQ hT hA g3))
    obtain ⟨q1,q2,_⟩:=hT.val hb o2
    have hyb:iR (out.set b z) y b:=Df hT' hyu hun hbu (by have:=(xu hT o3 q1).2.1;omega)
    exact hyb.trans (zJ hT hb o1 g1 (Nat.le_refl _))
 ·rw [kH hbl] at hh hc ⊢
  by_cases e:v=b
  ·subst e
   rw [if_pos rfl] at hc ⊢
   simp only [Int.toNat_natCast]
   exact zK hT hb (hz.all p hp (hP.D (hG.inn hp).1 (by omega))) (hG.inn hp).1 hpr
  ·rw [if_neg e] at hh hc ⊢
   rcases hc with hc | hc
   ·have:rk v≠i:=fun h=>e (hG.inj hv hb (by omega))
    exact zK hT hb (hP.H hv hh p hp hpr (.inl (by omega))) (hG.inn hp).1 (by omega)
   ·exact zJ hT hb (hP.H hv hh p hp hpr (.inr (by omega))) (hG.inn hp).1 (by omega)
 ·by_cases e:rk v<i
  ·exact IU hbl (hP.D hv e)
  ·have:v=b:=hG.inj hv hb (by omega)
   subst this
   exact .inr (by rw [kH hbl,if_pos rfl];omega)
theorem aaN (hG:Gr n E rk) (hk :∀v,v<n→rk v<n) (hP:Ps n E rk out n):Ps n E rk out 1:=
 ⟨hP.T,hP.F,fun hv hh p hp hpr _=>hP.H hv hh p hp hpr (.inl (hk _ hv)),fun {v} hv hr=>.inl (Classical.byContradiction fun h=>by have:=IL hG hv h;omega)⟩
theorem aaO (hG:Gr n E rk) (hl:out.length=n) (hu :∀v,v<n→up out v=-1):Ps n E rk out 1:=by
 refine ⟨⟨hl,hu 0 hG.pos,fun hv h => ?_,fun hv => ?_,fun hv h => ?_⟩,fun hv h => ?_,fun hv h => ?_,fun {v} hv hr=>.inl (Classical.byContradiction fun h=>by have:=IL hG hv h;omega)⟩
 all_goals rw [hu _ hv] at *
 all_goals omega
def ms (n:Nat) (rk:Nat→Nat) (out:List Int):Nat→Nat
 |0=>0
 |k+1=>ms n rk out k+if up out k<0 then n else rk (up out k).toNat
theorem agR (hG:Gr n E rk) {i b z:Nat} (hk :∀v,v<n→rk v<n) (hP:Ps n E rk out i) (hb:b<n) (h0:b≠0) (hr:rk b=i) (hz:Bst n E rk out b z) (hne:up out b≠z):ms n rk (out.set b z) n<ms n rk out n:=by
 have hT:=hP.T
 have hbl:b<out.length:=by rw [hT.len];exact hb
 have hs:rk z<if up out b<0 then n else rk (up out b).toNat:=by
  split
  ·exact hk z hz.lt
  ·rename_i hb0
   have hb0:0≤up out b:=by omega
   obtain ⟨q1,_,_⟩:=hT.val hb hb0
   have hle:=(xu hT (hP.F hb hb0 z hz.all) q1).2.1
   refine Nat.lt_of_le_of_ne hle fun e=>hne ?_
   have:=hG.inj hz.lt q1 e
   omega
 have key :∀k,k≤n→ms n rk (out.set b z) k+(if b<k then (if up out b<0 then n else rk (up out b).toNat)-rk z else 0)=ms n rk out k:=by
  intro k
  induction k with
  |zero=>intro _;simp [ms]
  |succ k ih=>
   intro hkn
   have ih:=ih (by omega)
   simp only [ms]
   rw [kH hbl]
   by_cases e:k=b
   ·subst e
    rw [if_neg (Nat.lt_irrefl k)] at ih
    rw [if_pos rfl,if_pos (by omega:k<k+1),if_neg (by omega:¬ ((z:Int)<0)),Int.toNat_natCast]
    omega
   ·rw [if_neg e]
    by_cases e2:b<k
    ·rw [if_pos e2] at ih;rw [if_pos (by omega:b<k+1)];omega
    ·rw [if_neg e2] at ih;rw [if_neg (by omega:¬ b<k+1)];omega
 have:=key n (Nat.le_refl n)
 rw [if_pos hb] at this
 omega
theorem ad4 (hG:Gr n E rk) (hP:Ps n E rk out n) (hk :∀v,v<n→rk v<n) (hF :∀v,v<n→v≠0→∀p,E p v→Pr out p→iR out (up out v).toNat p) {a b:Nat} (ha:a<n) (hb:b<n):iR out a b↔Dom E a b:=by
 have hT:=hP.T
 have hp :∀v,v<n→Pr out v:=fun v hv=>hP.D hv (hk v hv)
 constructor
 ·intro h hw
  have key :∀v,Wk E a v→v<n→¬ iR out a v:=by
   intro v hw
   induction hw with
   |z h=>exact fun _ h'=>h (aaM hT h').symm
   |@s u v hw hu hne ih=>
    intro hv h'
    cases h' with
    |refl=>exact hne rfl
    |up h1 h2=>
     have hv0:v≠0:=fun e=>by subst e;rw [hT.zero] at h1;omega
     exact ih (hG.inn hu).1 (h2.trans (hF v hv hv0 u hu (hp u (hG.inn hu).1)))
  exact key b hw hb h
 ·have key :∀k b,rk b≤k→b<n→Dom E a b→iR out a b:=by
   intro k
   induction k with
   |zero=>
    intro b hr hb hd
    have h0:b=0:=Classical.byContradiction fun h=>by have:=IL hG hb h;omega
    subst h0
    by_cases e:a=0
    ·rw [e];exact .refl
    ·exact absurd (Wk.z fun h=>e h.symm) hd
   |succ k ih=>
    intro b hr hb hd
    by_cases e:a=b
    ·rw [e];exact .refl
    rcases hp b hb with h0 | h0
    ·subst h0
     exact absurd (Wk.z fun h=>e h.symm) hd
    ·obtain ⟨q1,q2,_⟩:=hT.val hb h0
     exact .up h0 (ih _ (by omega) q1 (hT.dom hb h0 a hd e))
  exact key _ b (Nat.le_refl _) hb
end
end Go.Fg.Ytmgfidfcioiedaa

