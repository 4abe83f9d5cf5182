/-
  Chapter 21, plain: the tree.
-/
import Derived.Test.YtfklooeiipkijaaLb
namespace Go.Fg.Ytfklooeiipkijaa
open Go.Fw
set_option linter.unusedVariables false
set_option linter.unusedSimpArgs false
def fr (ls:List bY) (k:Nat):Nat:=(ls.getD k (bY.mk 0 0)).from'.toNat
def to (ls:List bY) (k:Nat):Nat:=(ls.getD k (bY.mk 0 0)).to.toNat
def MK (ls:List bY) (N:Nat):Prop :=∀k,k<ls.length→(0≤(ls.getD k (bY.mk 0 0)).from'∧(ls.getD k (bY.mk 0 0)).from'<N)∧0≤(ls.getD k (bY.mk 0 0)).to∧(ls.getD k (bY.mk 0 0)).to<N
structure Laid (ls:List bY) (N:Nat) (D:Nat→Prop) (ins:List Bool) (rep:Nat→Nat):Prop where
 len:ins.length=ls.length
 not :∀j,j<ls.length→¬ D j→ins.getD j false=false
 cnt:ins.count true+comps rep N=N
 same :∀j,j<ls.length→D j→rep (fr ls j)=rep (to ls j)
theorem count_set {l:List Bool} {k:Nat} {b:Bool} (hk:k<l.length) (hf:l.getD k false=false):(l.set k b).count true=l.count true+if b then 1 else 0:=by
 rw [getD_at _ hk] at hf
 rw [List.count_set hk,hf]
 cases b<;>simp
theorem JY {ls:List bY} {N:Nat} {D:Nat→Prop} {ins:List Bool} {rep:Nat→Nat} {k:Nat} (h:Laid ls N D ins rep) (hin:MK ls N) (hk:k<ls.length) (hd:¬ D k) (hlt :∀x,x<N→rep x<N) (hid :∀x,x<N→rep (rep x)=rep x) :
  Laid ls N (fun j=>D j∨j=k) (ins.set k (!decide ((rep (fr ls k):Int)=rep (to ls k)))) (link rep (rep (fr ls k)) (rep (to ls k))):=by
 have hu:fr ls k<N:=by have:=hin k hk;unfold fr;omega
 have hv:to ls k<N:=by have:=hin k hk;unfold to;omega
 have hki:k<ins.length:=by rw [h.len];exact hk
 refine ⟨by rw [List.length_set];exact h.len,fun j hj hn => ?_,?_,fun j hj hn => ?_⟩
 ·rw [List.getD_eq_getElem?_getD,List.getElem?_set_ne (fun e=>hn (.inr e.symm)),←List.getD_eq_getElem?_getD]
  exact h.not j hj fun e=>hn (.inl e)
 ·rw [count_set hki (h.not k hk hd)]
  have hc:=h.cnt
  by_cases e:rep (fr ls k)=rep (to ls k)
  ·rw [e]
   have:link rep (rep (to ls k)) (rep (to ls k))=rep:=by
    funext z;unfold link;split
    ·rename_i e;rw [e]
    ·rfl
   rw [this];simp;omega
  ·have:=Ih (n:=N) e (hid _ hu) (hid _ hv) (hlt _ hu)
   have e':¬ ((rep (fr ls k):Int)=rep (to ls k)):=by omega
   rw [decide_eq_false e']
   simp;omega
 ·unfold link
  rcases hn with hn | rfl
  ·rw [h.same j hj hn]
  ·by_cases e:rep (fr ls j)=rep (to ls j)
   ·rw [e]
   ·rw [if_pos rfl,if_neg fun e'=>e e'.symm]
theorem U_ {ls:List bY} {N lo hi:Nat} {body:Int×List bY×List Bool×List Int→Option ((Int×List bY×List Bool×List Int) ⊕ (List bY×List Bool×List Int))} (hl:ls.length≤4000000) (hin:MK ls N) (hhi:hi≤ls.length) (hlo:lo≤hi)
  (hb :∀(k:Nat) (ins:List Bool) (g:List Int),body (k,ls,ins,g)=bif decide ((k:Int)<(hi:Int)) then (f37 k ls g ins).bind fun c=>some (.inl (dI (k+1),c.2.1,c.2.2,c.1)) else some (.inr (ls,ins,g)))
  (D:Nat→Prop) (hD :∀j,lo≤j→j<hi→¬ D j) (P:Nat→List Bool→(Nat→Nat)→Prop)
  (hP :∀k ins rep,lo≤k→k<hi→Laid ls N (fun j=>D j∨lo≤j∧j<k) ins rep→P k ins rep→P (k+1) (ins.set k (!decide ((rep (fr ls k):Int)=rep (to ls k)))) (link rep (rep (fr ls k)) (rep (to ls k))))
  {ins:List Bool} {g:List Int} {rep r:Nat→Nat} (hg:g.length=N) (hU:UF g rep r) (hL:Laid ls N D ins rep) (h0:P lo ins rep) :
  Ok (bn body (lo,ls,ins,g)) fun y=>y.1=ls∧y.2.2.length=N∧∃rep r,UF y.2.2 rep r∧Laid ls N (fun j=>D j∨lo≤j∧j<hi) y.2.1 rep∧P hi y.2.1 rep:=by
 refine bQ (fun s =>∃(k:Nat) (ins:List Bool) (g:List Int) (rep r:Nat→Nat),s=((k:Int),ls,ins,g)∧lo≤k∧k≤hi∧g.length=N∧UF g rep r∧Laid ls N (fun j=>D j∨lo≤j∧j<k) ins rep∧P k ins rep) (fun s=>hi-s.1.toNat)
  ⟨lo,ins,g,rep,r,rfl,Nat.le_refl _,hlo,hg,hU,?_,h0⟩ fun s ⟨k,ins,g,rep,r,e,h1,h2,h3,h4,h5,h6⟩ => ?_
 ·have:(fun j=>D j∨lo≤j∧j<lo)=D:=by
   funext j;apply propext;constructor
   ·rintro (h | h)
    ·exact h
    ·omega
   ·exact .inl
  rw [this];exact hL
 subst e
 rw [hb]
 refine goI (fun hk => ?_) (fun hk=>aC ?_)
 ·have hk:k<hi:=by simpa using hk
  have hi0:=hin k (by omega)
  have hj:=U9 (ls:=ls) (ins:=ins) (k:=k) (u:=fr ls k) (v:=to ls k) h4 (by omega) (by rw [h5.len];omega) (by unfold fr;omega) (by unfold to;omega) (by unfold fr;omega) (by unfold to;omega)
  refine goB _ hj fun c ⟨c1,c2,c3,r',c4⟩=>aC ⟨⟨k+1,c.2.2,c.1,_,r',?_,by omega,by omega,by omega,c4,?_,?_⟩,?_⟩
  ·rw [aP (by omega),c2];rfl
  ·have:=JY h5 hin (k:=k) (by omega) (fun hd=>hd.elim (hD k h1 hk) (fun h=>by omega)) (fun x hx=>by rw [←h3];exact h4.lt x (by omega)) (fun x hx=>h4.idem x (by omega))
   rw [c3]
   have hs:(fun j=>D j∨lo≤j∧j<k+1)=fun j=>(D j∨lo≤j∧j<k)∨j=k:=by
    funext j;apply propext;constructor
    ·rintro (h | h)
     ·exact .inl (.inl h)
     ·by_cases e:j=k
      ·exact .inr e
      ·exact .inl (.inr (by omega))
    ·rintro ((h | h) | h)
     ·exact .inl h
     ·exact .inr (by omega)
     ·exact .inr (by omega)
   rw [hs];exact this
  ·rw [c3];exact hP k ins rep h1 hk h5 h6
  ·simp only;rw [aP (by omega)];omega
 ·have:k=hi:=by simp at hk;omega
  subst this
  exact ⟨rfl,h3,rep,r,h4,h5,h6⟩
end Go.Fg.Ytfklooeiipkijaa

