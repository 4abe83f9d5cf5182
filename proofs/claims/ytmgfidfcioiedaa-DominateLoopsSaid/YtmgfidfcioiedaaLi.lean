/-
  Chapter 11, plain: a function compacted.
-/
import Derived.Test.YtmgfidfcioiedaaLh
namespace Go.Fg.Ytmgfidfcioiedaa
open Go.Fw
set_option linter.unusedVariables false
set_option linter.unusedSimpArgs false
def idx (m:List Bool):Nat→List Nat
 |0=>[]
 |i+1=>idx m i++if m.getD i false then [i] else []
def rk (m:List Bool) (i:Nat):Nat:=(idx m i).length
theorem VL (m:List Bool) (i:Nat):rk m (i+1)=rk m i+if m.getD i false then 1 else 0:=by
 show (idx m i++if m.getD i false then [i] else []).length=(idx m i).length+_
 rw [List.length_append];split<;>rfl
theorem Fq {m:List Bool} :∀{n j:Nat},j∈idx m n→j<n∧m.getD j false=true
 |n+1,j,h=>by
  rcases List.mem_append.1 h with h | h
  ·have:=Fq h;exact ⟨by omega,this.2⟩
  ·split at h
   ·rename_i e;rw [List.mem_singleton] at h;subst h;exact ⟨by omega,e⟩
   ·cases h
theorem IX {m:List Bool} :∀{n j:Nat},j<n→m.getD j false=true→(idx m n)[rk m j]?=some j
 |n+1,j,h,hm=>by
  unfold idx
  by_cases e:j=n
  ·subst e
   show (idx m j++if m.getD j false then [j] else [])[(idx m j).length]?=_
   rw [List.getElem?_append_right (Nat.le_refl _),if_pos hm,Nat.sub_self];rfl
  ·have:=IX (n:=n) (by omega) hm
   rw [List.getElem?_append_left (List.getElem?_eq_some_iff.1 this).1]
   exact this
theorem aaR (m:List Bool) (i:Nat):rk m i≤i:=by
 induction i with
 |zero=>exact Nat.le_refl _
 |succ i ih=>rw [VL];split<;>omega
def ren (m:List Bool) (t:aH):aH:=
 { t with dQ:=if t.aU=3 then t.dQ else (rk m t.dQ.toNat:Int),bC:=if t.aU=2 then (rk m t.bC.toNat:Int) else t.bC }
def uU (m:List Bool) (bs:List aH):List aH:=(idx m bs.length).map fun j=>ren m (bs.getD j aj)
theorem Bj {bs:List aH} {b:Nat}:((bs.getD b aj).aU=1∨(bs.getD b aj).aU=2→(bs.getD b aj).dQ∈dW bs b)∧((bs.getD b aj).aU=2→(bs.getD b aj).bC∈dW bs b):=by
 unfold dW succs
 constructor
 ·intro h;split
  ·simp
  ·first
   |(rw [if_pos h];simp)
   |simp
 ·intro h;split
  ·simp
  ·rename_i hc
   first
    |rw [if_pos (.inr h)]
    |skip
   have:(bs.getD b aj).bC=(bs.getD b aj).dQ:=Decidable.byContradiction fun e=>hc ⟨h,e⟩
   rw [this];exact List.mem_singleton.2 rfl
theorem XF {bs:List aH} {m:List Bool} (hE:mJ bs) (h0:0<bs.length) (hM:Mk bs m []) (hc :∀b,b<bs.length→m.getD b false=true→∀x∈dW bs b,m.getD x.toNat false=true) :
  0<(uU m bs).length∧(uU m bs).length≤bs.length∧mJ (uU m bs)∧TJ (uU m bs):=by
 have hlen:(uU m bs).length=rk m bs.length:=by unfold uU rk;simp
 have hlt :∀j,j<bs.length→m.getD j false=true→rk m j<(uU m bs).length:=by
  intro j hj hm
  have:=(List.getElem?_eq_some_iff.1 (IX hj hm)).1
  rw [hlen];exact this
 have hget :∀p,p<(uU m bs).length→∃j,j<bs.length∧m.getD j false=true∧rk m j=p∧(uU m bs).getD p aj=ren m (bs.getD j aj):=by
  intro p hp
  have hp':p<(idx m bs.length).length:=by unfold uU at hp;simpa using hp
  have hm:=Fq (List.getElem_mem hp')
  refine ⟨(idx m bs.length)[p],hm.1,hm.2,?_,?_⟩
  ·have h1:=IX hm.1 hm.2
   have key :∀n,∀a b:Nat,(idx m n)[a]?=(idx m n)[b]?→a<(idx m n).length→a=b:=by
    intro n
    induction n with
    |zero=>intro a b _ h;simp [idx] at h
    |succ n ih=>
     intro a b hab ha
     unfold idx at hab ha
     by_cases hn:m.getD n false=true
     ·rw [if_pos hn] at hab ha
      rw [List.length_append] at ha
      by_cases ha2:a<(idx m n).length
      ·rw [List.getElem?_append_left ha2] at hab
       by_cases hb2:b<(idx m n).length
       ·rw [List.getElem?_append_left hb2] at hab
        exact ih a b hab ha2
       ·rw [List.getElem?_append_right (by omega),List.getElem?_eq_getElem ha2] at hab
        have hbb:b-(idx m n).length=0:=by
         have:=(List.getElem?_eq_some_iff.1 hab.symm).1
         simp at this;omega
        rw [hbb] at hab
        have:=Fq (List.getElem_mem ha2)
        simp at hab;omega
      ·have haa:a=(idx m n).length:=by simp at ha;omega
       rw [List.getElem?_append_right (by omega),haa,Nat.sub_self] at hab
       by_cases hb2:b<(idx m n).length
       ·rw [List.getElem?_append_left hb2,List.getElem?_eq_getElem hb2] at hab
        have:=Fq (List.getElem_mem hb2)
        simp at hab;omega
       ·rw [List.getElem?_append_right (by omega)] at hab
        have:=(List.getElem?_eq_some_iff.1 hab.symm).1
        simp at this;omega
     ·rw [if_neg hn,List.append_nil] at hab ha
      exact ih a b hab ha
   refine (key bs.length p _ ?_ hp').symm
   rw [h1,List.getElem?_eq_getElem hp']
  ·unfold uU
   rw [List.getD_eq_getElem?_getD,List.getElem?_map,List.getElem?_eq_getElem hp'];rfl
 have hz:rk m 0=0:=rfl
 refine ⟨by have:=hlt 0 h0 hM.zero;omega,by rw [hlen];exact aaR _ _,⟨fun p hp => ?_,fun p hp => ?_⟩,fun S s0 hS p hp => ?_⟩
 ·obtain ⟨j,hj,hm,_,e⟩:=hget p hp
  obtain ⟨e1,e2⟩:=hE.1 j hj
  have hk:=hE.2 j hj
  have hs:=Bj (bs:=bs) (b:=j)
  rw [e]
  unfold ren
  simp only
  refine ⟨fun hk3 => ?_,fun hk2 => ?_⟩
  ·rw [if_neg hk3]
   have:=hlt _ (by have:=e1 hk3;omega) (hc j hj hm _ (hs.1 (by omega)))
   omega
  ·rw [if_pos hk2]
   have:=hlt _ (by have:=e2 hk2;omega) (hc j hj hm _ (hs.2 hk2))
   omega
 ·obtain ⟨j,hj,hm,_,e⟩:=hget p hp
  rw [e];exact hE.2 j hj
 ·obtain ⟨j,hj,hm,hr,_⟩:=hget p hp
  have:=hM.all (fun b=>m.getD b false=true∧S (rk m b)) ⟨hM.zero,s0⟩ (fun b hb ⟨hbm,hbS⟩ x hx=>⟨hc b hb hbm x hx,?_⟩) j hj hm
  ·rw [←hr];exact this.2
  ·have hbl:=hlt b hb hbm
   obtain ⟨j',hj',hm',hr',e'⟩:=hget _ hbl
   have hjb:j'=b:=by
    have h1:=IX hj' hm'
    have h2:=IX hb hbm
    rw [hr',h2] at h1
    exact (Option.some.inj h1).symm
   subst hjb
   obtain ⟨c1,c2⟩:=hS _ hbl hbS
   rw [e'] at c1 c2
   unfold ren at c1 c2
   simp only at c1 c2
   unfold dW succs at hx
   split at hx
   ·rename_i hk
    rcases List.mem_cons.1 hx with rfl | hx
    ·have:=c1 (by omega)
     rw [if_neg (by omega)] at this;simpa using this
    ·rw [List.mem_singleton] at hx;subst hx
     have:=c2 hk.1
     rw [if_pos hk.1] at this;simpa using this
   ·split at hx
    ·rename_i hk
     rw [List.mem_singleton] at hx;subst hx
     have:=c1 (by omega)
     rw [if_neg (by omega)] at this;simpa using this
    ·cases hx
end Go.Fg.Ytmgfidfcioiedaa

