/-
  Chapter 11, plain: predecessors; where two ways up a table meet.
-/
import Derived.Test.YtmgfidfcioiedaaLv
namespace Go.Fg.Ytmgfidfcioiedaa
open Go.Fw
set_option linter.unusedVariables false
set_option linter.unusedSimpArgs false
theorem KQ {l:List (List Int)} {a z:Nat} {v:List Int} (ha:a<l.length):(l.set a v).getD z []=if z=a then v else l.getD z []:=by
 rw [List.getD_eq_getElem?_getD,List.getD_eq_getElem?_getD]
 by_cases h:z=a
 ·subst h;rw [List.getElem?_set_self ha,if_pos rfl];rfl
 ·rw [List.getElem?_set_ne (fun e=>h e.symm),if_neg h]
def PrU (bs:List aH) (i j:Nat) (P:List (List Int)):Prop:=
 P.length=bs.length∧∀v,v<bs.length→(∀p,p∈P.getD v []↔(∃u:Nat,p=u∧u<i∧(v:Int)∈dW bs u)∨(p=i∧(v:Int)∈(dW bs i).take j))∧(P.getD v []).length≤2*i+j
theorem QF {nm:List UInt8} {pa re:Int} {bs:List aH} (hE:mJ bs) (hl:bs.length≤1000):Ok (f19 nm pa re bs) fun P=>P.length=bs.length∧∀v,v<bs.length→(∀p:Int,p∈P.getD v []↔∃u:Nat,p=u∧Ed bs u v)∧(P.getD v []).length≤2000:=by
 unfold f19
 refine goC (pO.2 (by omega)) ?_
 simp only [Int.toNat_natCast]
 refine goB (fun P=>PrU bs bs.length 0 P) ?_ fun P ⟨h1,h2⟩=>ay ⟨h1,fun v hv=>⟨fun p => ?_,by have:=(h2 v hv).2;omega⟩⟩
 rotate_left
 ·rw [(h2 v hv).1 p]
  simp only [List.take_zero,List.not_mem_nil,and_false,or_false]
  exact ⟨fun ⟨u,e,h,h'⟩=>⟨u,e,h,h'⟩,fun ⟨u,e,h⟩=>⟨u,e,h.1,h.2⟩⟩
 refine aZ (fun s:Int×List (List Int) =>∃i:Nat,s.1=i∧i≤bs.length∧PrU bs i 0 s.2) (fun s=>bs.length-s.1.toNat) ⟨0,rfl,by omega,by simp,fun v hv=>⟨fun p => ?_,?_⟩⟩ fun ⟨i',P⟩ ⟨i,e,hi,hP⟩ => ?_
 ·simp only
  rw [getD_at _ (by simpa using hv)]
  simp
 ·simp only
  rw [getD_at _ (by simpa using hv)]
  simp
 simp only at e hP
 subst e
 refine goI (fun hc => ?_) (fun hc=>ay ?_)
 rotate_left
 ·have:i=bs.length:=by simp at hc;omega
  subst this
  exact hP
 have hi:i<bs.length:=by simpa using hc
 refine goC (aA.2 ⟨by simp only;omega,by simp only;omega⟩) ?_
 simp only [Int.toNat_natCast]
 refine vk (IY _ _ _ _) ?_
 have hsd:succs (bs.getD i aj).aU (bs.getD i aj).dQ (bs.getD i aj).bC=dW bs i:=rfl
 rw [hsd]
 have hin:=xw hE hi
 have hl2:(dW bs i).length≤2:=by unfold dW succs;(repeat' split)<;>simp
 refine goB (fun P=>PrU bs i (dW bs i).length P) ?_ fun P' ⟨g1,g2⟩ => ?_
 rotate_left
 ·have hw:bW ((i:Int)+1)=((i+1:Nat):Int):=by rw [aK (by omega)];omega
  simp only [hw]
  refine ay ⟨⟨i+1,rfl,by omega,g1,fun v hv=>⟨fun p => ?_,by have:=(g2 v hv).2;simp only;omega⟩⟩,by simp only [Int.toNat_natCast];omega⟩
  simp only
  rw [(g2 v hv).1 p]
  simp only [List.take_length,List.take_zero,List.not_mem_nil,and_false,or_false]
  constructor
  ·rintro (⟨u,e,h,h'⟩ | ⟨e,h⟩)
   ·exact ⟨u,e,by omega,h'⟩
   ·exact ⟨i,e,by omega,h⟩
  ·rintro ⟨u,e,h,h'⟩
   by_cases eu:u=i
   ·subst eu;exact .inr ⟨e,h'⟩
   ·exact .inl ⟨u,e,by omega,h'⟩
 refine aZ (fun s:Int×List (List Int) =>∃j:Nat,s.1=j∧j≤(dW bs i).length∧PrU bs i j s.2) (fun s=>(dW bs i).length-s.1.toNat) ⟨0,rfl,by omega,hP⟩ fun ⟨j',P'⟩ ⟨j,e,hj,g1,g2⟩ => ?_
 simp only at e g1 g2
 subst e
 refine goI (fun hc => ?_) (fun hc=>ay ?_)
 rotate_left
 ·have:j=(dW bs i).length:=by simp at hc;omega
  subst this
  exact ⟨g1,g2⟩
 have hj:j<(dW bs i).length:=by simpa using hc
 refine goC (aA.2 ⟨by simp only;omega,by simp only;omega⟩) ?_
 have e:(dW bs i).getD j 0=(dW bs i)[j]:=getD_at _ hj
 have hr:=hin _ (List.getElem_mem hj)
 simp only [Int.toNat_natCast,e]
 obtain ⟨c,hc⟩ :∃c:Nat,(dW bs i)[j]=c:=⟨((dW bs i)[j]).toNat,by omega⟩
 rw [hc] at hr ⊢
 have hcn:c<bs.length:=by omega
 have hcl:c<P'.length:=by omega
 have hlen:=(g2 c hcn).2
 refine goC (aA.2 ⟨by omega,by omega⟩) ?_
 simp only [Int.toNat_natCast]
 have hlen':(P'.getD c eInt).length≤2*i+j:=hlen
 refine goC (by simp only [Bool.true_and,decide_eq_true_eq,List.length_singleton];omega) (goC (aA.2 ⟨by omega,by omega⟩) (goC (by simp) ?_))
 have hw:bW ((j:Int)+1)=((j+1:Nat):Int):=by rw [aK (by omega)];omega
 rw [hw]
 refine ay ⟨⟨j+1,rfl,by omega,by simp only [List.length_set];exact g1,fun v hv=>⟨fun p => ?_,?_⟩⟩,by simp only [Int.toNat_natCast];omega⟩
 ·simp only
  rw [KQ hcl,take_snoc hj,hc]
  simp only [List.mem_append,List.mem_singleton]
  by_cases ev:v=c
  ·subst ev
   rw [if_pos rfl,List.mem_append,(g2 v hv).1 p,List.mem_singleton]
   constructor
   ·rintro ((h | ⟨h,h'⟩) | h)
    ·exact .inl h
    ·exact .inr ⟨h,.inl h'⟩
    ·exact .inr ⟨h,.inr rfl⟩
   ·rintro (h | ⟨h,h' | h'⟩)
    ·exact .inl (.inl h)
    ·exact .inl (.inr ⟨h,h'⟩)
    ·exact .inr h
  ·rw [if_neg ev,(g2 v hv).1 p]
   constructor
   ·rintro (h | ⟨h,h'⟩)
    ·exact .inl h
    ·exact .inr ⟨h,.inl h'⟩
   ·rintro (h | ⟨h,h' | h'⟩)
    ·exact .inl h
    ·exact .inr ⟨h,h'⟩
    ·exact absurd (by omega) ev
 ·simp only
  rw [KQ hcl]
  split
  ·rw [List.length_append,List.length_singleton];omega
  ·have:=(g2 v hv).2;omega
def Rk (n:Nat) (rk:Nat→Nat) (R:List Int):Prop:=R.length=n∧∀v,v<n→R.getD v 0=rk v
theorem QG {out:List Int} {v:Nat} (h:v<out.length):out.getD v 0=up out v:=by
 unfold up;rw [getD_at _ h,getD_at _ h]
theorem Di {out:List Int} {y a:Nat} (h:iR out y a) (hne:y≠a):iR out y (up out a).toNat:=by
 cases h with
 |refl=>exact absurd rfl hne
 |up _ h=>exact h
theorem aeh {n:Nat} {E:Nat→Nat→Prop} {rk:Nat→Nat} {R out:List Int} (hG:Gr n E rk) (hT:Tb n E rk out) (hR:Rk n rk R) {a b:Nat} (ha:a<n) (hb:b<n) (pa:Pr out a) (pb:Pr out b) :
  Ok (f20 a b R out) fun y =>∃c:Nat,y=((c:Int),R,out)∧c<n∧Pr out c∧iR out c a∧iR out c b∧(∀y,iR out y a→iR out y b→iR out y c)∧∀d,Dom E d a→Dom E d b→Dom E d c:=by
 refine goB (fun y =>∃c:Nat,y=((c:Int),R,out)∧c<n∧Pr out c∧iR out c a∧iR out c b∧(∀y,iR out y a→iR out y b→iR out y c)∧∀d,Dom E d a→Dom E d b→Dom E d c) ?_ fun y ⟨c,e,h⟩=>by subst e;exact goK rfl (goK rfl (ay ⟨c,rfl,h⟩))
 unfold agc
 refine goB (fun y =>∃c:Nat,y=((c:Int),R,out)∧c<n∧Pr out c∧iR out c a∧iR out c b∧(∀y,iR out y a→iR out y b→iR out y c)∧∀d,Dom E d a→Dom E d b→Dom E d c) ?_ fun y ⟨c,e,h⟩=>by subst e;exact goC (by simp) (goC (by simp) (ay ⟨c,rfl,h⟩))
 refine goB (fun y =>∃c:Nat,y=(c:Int)∧c<n∧Pr out c∧iR out c a∧iR out c b∧(∀y,iR out y a→iR out y b→iR out y c)∧∀d,Dom E d a→Dom E d b→Dom E d c) ?_ fun y ⟨c,e,h⟩=>ay ⟨c,by rw [e],h⟩
 refine aZ (fun s:Int×Int =>∃a' b':Nat,s=((a':Int),(b':Int))∧a'<n∧b'<n∧Pr out a'∧Pr out b'∧iR out a' a∧iR out b' b∧(∀y,iR out y a→iR out y b→iR out y a'∧iR out y b')∧∀d,Dom E d a→Dom E d b→Dom E d a'∧Dom E d b')
  (fun s=>rk s.1.toNat+rk s.2.toNat) ⟨a,b,rfl,ha,hb,pa,pb,.refl,.refl,fun y h1 h2=>⟨h1,h2⟩,fun d h1 h2=>⟨h1,h2⟩⟩ fun s ⟨a',b',e,h1,h2,h3,h4,h5,h6,h7,h8⟩ => ?_
 subst e
 refine goI (fun hne => ?_) (fun heq=>ay ?_)
 rotate_left
 ·have:a'=b':=by simp at heq;omega
  subst this
  exact ⟨a',rfl,h1,h3,h5,h6,fun y g1 g2=>(h7 y g1 g2).1,fun d g1 g2=>(h8 d g1 g2).1⟩
 have hne:a'≠b':=by simp at hne;omega
 obtain ⟨r1,r2⟩:=hR
 have hol:=hT.len
 refine goC (aA.2 ⟨by simp only;omega,by simp only;omega⟩) (goC (aA.2 ⟨by simp only;omega,by simp only;omega⟩) ?_)
 simp only [Int.toNat_natCast,r2 _ h1,r2 _ h2,QG (show a'<out.length by omega),QG (show b'<out.length by omega)]
 refine goB (fun s:Int×Int =>∃a2 b2:Nat,s=((a2:Int),(b2:Int))∧(a2<n∧b2<n∧Pr out a2∧Pr out b2∧iR out a2 a∧iR out b2 b∧(∀y,iR out y a→iR out y b→iR out y a2∧iR out y b2)∧∀d,Dom E d a→Dom E d b→Dom E d a2∧Dom E d b2)∧rk a2+rk b2<rk a'+rk b') ?_ fun s ⟨a2,b2,e,q1,q2⟩=>by subst e;exact ay ⟨⟨a2,b2,rfl,q1⟩,by simpa using q2⟩
 refine goI (fun hlt => ?_) (fun hge => ?_)
 ·have hlt:rk b'<rk a':=by simpa using hlt
  have h0:a'≠0:=fun e=>by rw [e,hG.zero] at hlt;omega
  have hu:0≤up out a':=h3.resolve_left h0
  obtain ⟨v1,v2,v3⟩:=hT.val h1 hu
  refine goC (aA.2 ⟨by omega,by omega⟩) (ay ⟨(up out a').toNat,b',by rw [Int.toNat_of_nonneg hu],⟨v1,h2,v3,h4,iR.trans (.up hu .refl) h5,h6,fun y g1 g2 => ?_,fun d g1 g2 => ?_⟩,by omega⟩)
  ·obtain ⟨q1,q2⟩:=h7 y g1 g2
   exact ⟨Di q1 fun e=>by subst e;have:=(xu hT q2 h2).2.1;omega,q2⟩
  ·obtain ⟨q1,q2⟩:=h8 d g1 g2
   exact ⟨hT.dom h1 hu d q1 fun e=>by subst e;have:=Nv hG h1 h2 q2;omega,q2⟩
 ·have hge:rk a'≤rk b':=by simpa using hge
  have hlt:rk a'<rk b':=Nat.lt_of_le_of_ne hge fun e=>hne (hG.inj h1 h2 e)
  have h0:b'≠0:=fun e=>by rw [e,hG.zero] at hlt;omega
  have hu:0≤up out b':=h4.resolve_left h0
  obtain ⟨v1,v2,v3⟩:=hT.val h2 hu
  refine goC (aA.2 ⟨by omega,by omega⟩) (ay ⟨a',(up out b').toNat,by rw [Int.toNat_of_nonneg hu],⟨h1,v1,h3,v3,h5,iR.trans (.up hu .refl) h6,fun y g1 g2 => ?_,fun d g1 g2 => ?_⟩,by omega⟩)
  ·obtain ⟨q1,q2⟩:=h7 y g1 g2
   exact ⟨q1,Di q2 fun e=>by subst e;have:=(xu hT q1 h1).2.1;omega⟩
  ·obtain ⟨q1,q2⟩:=h8 d g1 g2
   exact ⟨q1,hT.dom h2 hu d q2 fun e=>by subst e;have:=Nv hG h2 h1 q1;omega⟩
end Go.Fg.Ytmgfidfcioiedaa

