/-
  The plain proofs: what the functions compute answers as the law says.
-/
import Derived.Test.YtpbdikcmfgeooaaFgB
import Derived.Test.YtpbdikcmfgeooaaZd
set_option linter.unusedSimpArgs false
set_option linter.unusedVariables false
set_option linter.unusedSectionVars false
namespace Go.Fg.Ytpbdikcmfgeooaa
open Go.Fw
theorem adr:f7=some true:=by kernel_rfl
def Bytes (l:List Int):Prop:=l.length≤9223372036854775807∧∀x∈l,0≤x∧x≤255
theorem bytes_at {l:List Int} (h:Bytes l) {n:Int} (h0:0≤n) (h1:n<l.length):0≤l.getD n.toNat 0∧l.getD n.toNat 0≤255:=by
 rw [getD_at 0 (by omega)]
 exact h.2 _ (List.getElem_mem _)
def aij (n:Int) (l:List Int) (y:Int×(List Int×Int)):Prop:=y.2.1=l∧0≤y.2.2∧0≤y.1∧y.1<n
theorem Gm {n:Int} {l:List Int} {i:Int} (hl:Bytes l) (hi:0≤i) (hn:1≤n∧n≤256):Ok (f19 n l i) (aij n l):=by
 show Ok (afs (Og 1048575) n l i) _
 unfold afs
 refine X9 (fun y=>y=decide ((l.length:Int)≤i∨n<1)) (goI (fun h=>wz ?_) fun h=>wz ?_) fun y e => ?_
 ·have h:(l.length:Int)≤i:=of_decide_eq_true h
  exact (decide_eq_true (.inl h)).symm
 ·have h:¬ (l.length:Int)≤i:=of_decide_eq_false h
  simp [h]
 subst e
 refine goI (fun h=>wz ⟨rfl,hi,Int.le_refl _,by show (0:Int)<n;omega⟩) fun h => ?_
 have h:=of_decide_eq_false h
 have hb:=bytes_at hl hi (by omega)
 have hl':=hl.1
 refine X_ (BO.2 (by omega)) (goF (decide_eq_false (by omega)) (X_ ?_ (wz ?_)))
 ·have:n≠0:=by omega
  simp [this]
 ·rw [Oe (x:=i+1) (by omega),Oe (x:=l.getD i.toNat 0) (by omega)]
  have:=tmod_lt (a:=l.getD i.toNat 0) (b:=n) hb.1 (by omega)
  exact ⟨rfl,by show 0≤i+1;omega,this.1,this.2⟩
theorem afH {l:List Int} {n:Int} (hl:Bytes l) (hn:0≤n):Ok (f12 l n) fun y=>y.2=0∧Bytes y.1:=by
 unfold f12
 refine X9 (fun y=>Bytes y) (goI (fun h => ?_) fun _=>wz hl) fun y hy=>wz ⟨rfl,hy⟩
 have h:=of_decide_eq_true h
 refine X_ (xX.2 (by omega)) (wz ?_)
 rw [Int.toNat_zero,List.drop_zero]
 exact ⟨by have:=hl.1;simp;omega,fun x hx=>hl.2 x (List.mem_of_mem_take hx)⟩
theorem Oq {R:Type} {body:Int→Option (Int ⊕ R)} {Q:R→Prop} (n:Nat) (P:Nat→Prop) (hn:n≤4000000000) (h :∀i:Nat,i<n→(∀j,j<i→P j)→Ok (body i) (aar (fun j=>j=jv (i+1)∧P i) Q)) (he:(∀j,j<n→P j)→Ok (body n) (aar (fun _=>False) Q)):Ok (dB body 0) Q:=by
 refine acC (fun i:Int =>∃k:Nat,i=k∧k≤n∧∀j,j<k→P j) (fun i=>(n-i).toNat) ⟨0,rfl,by omega,fun j hj=>by omega⟩ fun i ⟨k,e,h1,h2⟩ => ?_
 subst e
 by_cases hi:k<n
 ·refine Gf (h k hi h2) fun y hy => ?_
  cases y with
  |inl j=>
   obtain ⟨e,hp⟩:j=jv ((k:Int)+1)∧P k:=hy
   rw [Oe (by omega)] at e
   exact ⟨⟨k+1,by omega,by omega,fun j hj=>by
    by_cases e:j=k
    ·rw [e];exact hp
    ·exact h2 j (by omega)⟩,by omega⟩
  |inr r=>exact hy
 ·have e:k=n:=by omega
  subst e
  refine Gf (he h2) fun y hy => ?_
  cases y with
  |inl j=>exact hy.elim
  |inr r=>exact hy
theorem Ot {a b:List Int} (h:a.length≤4000000):f29 a b=some (decide (a=b)):=by
 apply ok_eq
 unfold f29
 by_cases hl:a.length=b.length
 ·refine goF (by simp [hl]) (goE (fun _=>a=b) (Oq a.length (fun j=>a.getD j 0=b.getD j 0) (by omega) (fun i hi _ => ?_) fun hall=>goF (decide_eq_false (by omega)) (wz ?_)) fun _ e=>wz (decide_eq_true e).symm)
  ·refine goT (decide_eq_true (by omega)) (X_ (BO.2 (by omega)) (X_ (BO.2 (by omega)) ?_))
   simp only [Int.toNat_natCast]
   refine goI (fun h=>wz ?_) fun h=>wz ⟨rfl,by simpa using h⟩
   have h:¬ a.getD i 0=b.getD i 0:=by simpa using h
   exact (decide_eq_false fun e=>h (by rw [e])).symm
  ·refine List.ext_getElem hl fun i h1 h2 => ?_
   have:=hall i h1
   rwa [getD_at _ h1,getD_at _ h2] at this
 ·refine goT (by simp;omega) (wz ?_)
  exact (decide_eq_false fun e=>hl (by rw [e])).symm
theorem ads {a b:List Int} (h:a.length≤4000000):f17 a b=some (decide (a=b)):=Ot h
def same (k v t:Int) (l:List Int) (k' v' t':Int) (l':List Int):Bool:=decide (k=k')&&(decide (v=v')&&(decide (t=t')&&decide (l=l')))
theorem Ou {k v t k' v' t':Int} {l l':List Int} (h:l.length≤4000000):f16 k v t l k' v' t' l'=some (same k v t l k' v' t' l'):=by
 unfold f16 same
 rw [Ot h]
 cases decide (k=k')<;>cases decide (v=v')<;>cases decide (t=t')<;>rfl
theorem aa9 {k v t k' v' t':Int} {l l':List Int} (h:l.length≤4000000):f20 k v t l k' v' t' l'=some (same k v t l k' v' t' l'):=Ou h
theorem Rf {a b:List Int} (h:a.length≤4000000):f30 a b=some (decide (a.length≤b.length∧a=b.take a.length)):=by
 apply ok_eq
 unfold f30
 refine goS (y:=decide (a.length≤b.length∧a=b.take a.length)) ?_ (wz rfl)
 by_cases hl:a.length≤b.length
 ·apply ok_eq
  refine goT (decide_eq_true (by omega)) (X_ (xX.2 (by omega)) (goS (ads h) (wz ?_)))
  rw [Int.toNat_natCast,Int.toNat_zero,List.drop_zero]
  simp [hl]
 ·apply ok_eq
  refine goF (decide_eq_false (by omega)) (wz ?_)
  simp [hl]
def Ye (k v t:Int) (l:List Int) (k' v' t':Int) (l':List Int):Bool:=
 if k=3 then decide (l.take l'.length=l'.take l.length) else same k v t l k' v' t' l'
theorem Rh (a b:List Int):a.take (min a.length b.length)=a.take b.length:=by
 rcases Nat.le_total a.length b.length with h | h
 ·rw [Nat.min_eq_left h,List.take_length,List.take_of_length_le h]
 ·rw [Nat.min_eq_right h]
theorem LP {k v t k' v' t':Int} {l l':List Int} (h:l.length≤4000000):f18 k v t l k' v' t' l'=some (Ye k v t l k' v' t' l'):=by
 unfold f18 Ye
 by_cases hk:k=3
 ·rw [if_pos hk]
  apply ok_eq
  refine goF (by simp [hk]) ?_
  have hm:Qa (l.length:Int) (l'.length:Int)=((min l.length l'.length:Nat):Int):=by unfold Qa;split<;>omega
  rw [hm]
  refine X_ (xX.2 (by omega)) (X_ (xX.2 (by omega)) (goS (Ot (by simp;omega)) (wz ?_)))
  rw [Int.toNat_natCast,Int.toNat_zero,List.drop_zero,List.drop_zero,Rh,Nat.min_comm,Rh]
 ·rw [if_neg hk,Ou h]
  simp [hk]
theorem Yf {k v t k' v' t':Int} {l l':List Int} (h:l.length≤4000000) (h':l'.length≤4000000):f21 k v t l k' v' t' l'=some (Ye k v t l k' v' t' l'):=by
 unfold f21 Ye
 by_cases hk:k=3
 ·rw [if_pos hk,Rf h,Rf h']
  apply ok_eq
  refine goT (decide_eq_true hk) (goS (y:=decide (l.take l'.length=l'.take l.length)) ?_ (wz rfl))
  by_cases hl:l.length≤l'.length
  ·have e:l.take l'.length=l:=List.take_of_length_le hl
   rw [e]
   by_cases hq:l=l'.take l.length
   ·have:decide (l.length≤l'.length∧l=l'.take l.length)=true:=decide_eq_true ⟨hl,hq⟩
    simp only [this,Option.bind_some,cond_true]
    rw [decide_eq_true hq]
   ·have q1:decide (l.length≤l'.length∧l=l'.take l.length)=false:=decide_eq_false fun h=>hq h.2
    have q2:decide (l'.length≤l.length∧l'=l)=false:=decide_eq_false fun h=>hq (by
     rw [←h.2,List.take_length])
    simp only [q1,q2,Option.bind_some,cond_false]
    rw [decide_eq_false hq]
  ·have q1:decide (l.length≤l'.length∧l=l'.take l.length)=false:=decide_eq_false fun h=>hl h.1
   have e:l'.take l.length=l':=List.take_of_length_le (by omega)
   rw [q1,e]
   show some (decide (l'.length≤l.length∧l'=l.take l'.length))=some (decide (l.take l'.length=l'))
   congr 1
   exact decide_eq_decide.2 ⟨fun h=>h.2.symm,fun h=>⟨by omega,h.symm⟩⟩
 ·rw [if_neg hk,aa9 h]
  simp [hk]
theorem Ri {l:List bF} (h :∀x∈l,x.output.length≤4000000) (i:Nat):(l.getD i qI).output.length≤4000000:=by
 by_cases hi:i<l.length
 ·rw [getD_at _ hi];exact h _ (List.getElem_mem _)
 ·rw [List.getD_eq_getElem?_getD,List.getElem?_eq_none (by omega)];exact Nat.zero_le _
theorem Wy {k v t:Int} {l:List Int}:Ye k v t l k v t l=true∧same k v t l k v t l=true:=by
 have:same k v t l k v t l=true:=by simp [same]
 refine ⟨?_,this⟩
 unfold Ye
 split
 ·exact decide_eq_true rfl
 ·exact this
theorem Ux {k v t k' v' t':Int} {l l' cs:List Int} (hb:Bytes cs) (hl:l.length≤9223372036854775807) (hl':l'.length≤9223372036854775807):f6 k v t l k' v' t' l' cs=some true:=by
 apply ok_eq
 unfold f6
 refine X9 (fun y=>y=decide (100<l.length∨100<l'.length)) (goS adr (goF rfl (goI (fun h=>wz ?_) fun h=>wz ?_))) fun y e => ?_
 ·have h:100<(l.length:Int):=of_decide_eq_true h
  exact (decide_eq_true (.inl (by omega))).symm
 ·have h:¬ 100<(l.length:Int):=of_decide_eq_false h
  exact decide_eq_decide.2 ⟨fun h=>.inr (by omega),fun h=>by omega⟩
 subst e
 refine goI (fun h => ?_) fun h => ?_
 ·have h:=of_decide_eq_true h
  refine goS (y:=true) ?_ (wz rfl)
  apply ok_eq
  exact goI (fun _=>wz rfl) fun q=>wz (decide_eq_true (by have:=of_decide_eq_false q;omega))
 have h:=of_decide_eq_false h
 refine X9 _ (afH hb (by omega)) fun ⟨c,i⟩ ⟨e,hb'⟩ => ?_
 simp only at e hb'
 subst e
 refine X9 _ (Gm hb' (Int.le_refl _) (by omega)) fun ⟨x,c1,i1⟩ ⟨e1,h1,h2,h3⟩ => ?_
 simp only at e1 h1 h2 h3
 subst e1
 refine X9 (fun y=>y.2.2.2.length≤4000000) ?_ fun ⟨dk,dv,dt,dl⟩ hd => ?_
 ·refine goI (fun _=>X9 _ (Gm hb' h1 (by omega)) fun _ _=>wz (by simp only;omega)) fun _=>X9 (fun y=>y.2.2.2.length≤4000000) (goI (fun _=>wz (by simp only;omega)) fun _=>X9 (fun y=>y.2.2.2.length≤4000000) (goI (fun _ => ?_) fun _=>X9 (fun y=>y.2.2.2.length≤4000000) (goI (fun _ => ?_) fun _=>wz (by simp only;omega)) fun y hy=>wz hy) fun y hy=>wz hy) fun y hy=>wz hy
  ·rw [Oe (x:=(l.length:Int)+1) (by omega)]
   refine X9 _ (Gm hb' h1 (by omega)) fun ⟨z,c2,i2⟩ ⟨_,_,z1,z2⟩ => ?_
   simp only at z1 z2
   refine X_ (xX.2 (by simp only;omega)) (wz ?_)
   simp only [List.length_drop,List.length_take];omega
  ·refine X_ (by unfold iC;simp [eInt];omega) (X9 _ (Gm hb' h1 (by omega)) fun y _=>X_ (by unfold iC;simp [eInt];omega) (wz ?_))
   simp [eInt];omega
 simp only at hd ⊢
 refine goE (fun _=>True) ?_ fun _ _ => ?_
 ·refine Oq 4 (fun _=>True) (by omega) (fun i hi _=>goT (decide_eq_true (by simp only [List.length_cons,List.length_nil];omega)) (X_ (BO.2 (by simp only [List.length_cons,List.length_nil];omega)) ?_)) fun _=>goF (decide_eq_false (by simp only [List.length_cons,List.length_nil];omega)) (wz trivial)
  have hx:=Ri (l:=[bF.mk k v t l,bF.mk k' v' t' l',bF.mk dk dv dt dl,bF.mk 3 0 0 l]) (fun x hx=>by
   simp only [List.mem_cons,List.not_mem_nil,or_false] at hx
   rcases hx with e | e | e | e<;>subst e<;>simp only<;>omega) (i:Int).toNat
  generalize [bF.mk k v t l,bF.mk k' v' t' l',bF.mk dk dv dt dl,bF.mk 3 0 0 l].getD (i:Int).toNat qI=x at hx
  refine goE (fun _=>True) ?_ fun _ _=>wz ⟨rfl,trivial⟩
  refine Oq 3 (fun _=>True) (by omega) (fun j hj _=>goT (decide_eq_true (by simp only [List.length_cons,List.length_nil];omega)) (X_ (BO.2 (by simp only [List.length_cons,List.length_nil];omega)) ?_)) fun _=>goF (decide_eq_false (by simp only [List.length_cons,List.length_nil];omega)) (wz trivial)
  have hy:=Ri (l:=[bF.mk k v t l,bF.mk k' v' t' l',bF.mk dk dv dt dl]) (fun x hx=>by
   simp only [List.mem_cons,List.not_mem_nil,or_false] at hx
   rcases hx with e | e | e<;>subst e<;>simp only<;>omega) (j:Int).toNat
  generalize [bF.mk k v t l,bF.mk k' v' t' l',bF.mk dk dv dt dl].getD (j:Int).toNat qI=y at hy
  refine X9 (fun z=>z=false) (goS (Ou hx) (goS (aa9 hx) (goF (bne_self_eq_false _) (goS (LP hx) (goS (Yf hx hy) (wz (bne_self_eq_false _))))))) fun z e => ?_
  subst e
  exact goF rfl (wz ⟨rfl,trivial⟩)
 ·refine goS (y:=true) ?_ (wz rfl)
  rw [Ou (by omega),LP (by omega),Wy.1,Wy.2]
  rfl
theorem afI (k v t:Int) (l:List Int) (k' v' t':Int) (l' cs:List Int):sp6.f (k,v,t,l,k',v',t',l',cs)=f6 k v t l k' v' t' l' cs:=by kernel_rfl
theorem Uy {k v t k' v' t':Int} {l l' cs:List Int} (hb:Bytes cs) (hl:l.length≤9223372036854775807) (hl':l'.length≤9223372036854775807):sp6.f (k,v,t,l,k',v',t',l',cs)=some true:=Eq.trans (afI k v t l k' v' t' l' cs) (Ux hb hl hl')
end Go.Fg.Ytpbdikcmfgeooaa

