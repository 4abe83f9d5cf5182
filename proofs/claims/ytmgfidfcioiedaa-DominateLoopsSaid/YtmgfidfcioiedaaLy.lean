/-
  Chapter 11, plain: immediate dominators.
-/
import Derived.Test.YtmgfidfcioiedaaLx
namespace Go.Fg.Ytmgfidfcioiedaa
open Go.Fw
set_option linter.unusedVariables false
set_option linter.unusedSimpArgs false
def Bp (n:Nat) (E:Nat→Nat→Prop) (out:List Int) (l:List Int) (z:Int):Prop:=
 (z=-1∧∀u:Nat,(u:Int)∈l→¬ Pr out u)∨∃c:Nat,z=c∧c<n∧Pr out c∧(∀u:Nat,(u:Int)∈l→Pr out u→iR out c u)∧(∀y,(∀u:Nat,(u:Int)∈l→Pr out u→iR out y u)→iR out y c)∧∀d,(∀u:Nat,(u:Int)∈l→Pr out u→Dom E d u)→Dom E d c
def Fx (n:Nat) (E:Nat→Nat→Prop) (rk:Nat→Nat) (out:List Int) (i:Nat):Prop :=∀v,v<n→v≠0→rk v<i→∀p,E p v→Pr out p→iR out (up out v).toNat p
section
variable {n:Nat} {E:Nat→Nat→Prop} {rk:Nat→Nat} {R out:List Int}
theorem aei (hG:Gr n E rk) (hT:Tb n E rk out) (hR:Rk n rk R) {l:List Int} {z:Int} {u:Nat} (hu:u<n) (pu:Pr out u) (h:Bp n E out l z):Ok (bif decide (z<0) then some (u:Int) else Option.bind (f20 z u R out) fun c=>some c.1) fun y=>Bp n E out (l++[(u:Int)]) y:=by
 refine goI (fun hz=>ay ?_) fun hz => ?_
 ·have hz:z<0:=by simpa using hz
  rcases h with ⟨_,h⟩ | ⟨c,e,_⟩
  ·refine .inr ⟨u,rfl,hu,pu,fun w hw pw => ?_,fun y hy=>hy u (by simp) pu,fun d hd=>hd u (by simp) pu⟩
   rcases List.mem_append.1 hw with hw | hw
   ·exact absurd pw (h w hw)
   ·rw [List.mem_singleton] at hw
    have:w=u:=by omega
    subst this;exact .refl
  ·omega
 ·have hz:¬ z<0:=by simpa using hz
  rcases h with ⟨e,_⟩ | ⟨c,e,hc,pc,h1,h2,h3⟩
  ·omega
  subst e
  refine goB _ (aeh hG hT hR hc hu pc pu) fun y ⟨d,e,q1,q2,q3,q4,q5,q6⟩ => ?_
  subst e
  refine ay (.inr ⟨d,rfl,q1,q2,fun w hw pw => ?_,fun y hy=>q5 y (h2 y fun w hw pw=>hy w (List.mem_append_left _ hw) pw) (hy u (by simp) pu),fun x hx=>q6 x (h3 x fun w hw pw=>hx w (List.mem_append_left _ hw) pw) (hx u (by simp) pu)⟩)
  rcases List.mem_append.1 hw with hw | hw
  ·exact q3.trans (h1 w hw pw)
  ·rw [List.mem_singleton] at hw
   have:w=u:=by omega
   subst this;exact q4
theorem aej (hG:Gr n E rk) {i b:Nat} (hP:Ps n E rk out i) (hb:b<n) (h0:b≠0) (hr:rk b=i) {l:List Int} (hl :∀p:Int,p∈l↔∃u:Nat,p=u∧E u b) {z:Int} (h:Bp n E out l z) :∃c:Nat,z=c∧Bst n E rk out b c:=by
 rcases h with ⟨_,h⟩ | ⟨c,e,q1,q2,q3,q4,q5⟩
 ·obtain ⟨u,hu,hur⟩:=hG.pred hb h0
  exact absurd (hP.D (hG.inn hu).1 (by omega)) (h u ((hl _).2 ⟨u,rfl,hu⟩))
 ·exact ⟨c,e,q1,q2,fun p hp pp=>q3 p ((hl _).2 ⟨p,rfl,hp⟩) pp,fun y hy=>q4 y fun u hu pu=>by obtain ⟨w,e,hw⟩:=(hl _).1 hu;exact hy u (by rw [show u=w by omega];exact hw) pu,fun d hd=>q5 d fun u hu pu=>by obtain ⟨w,e,hw⟩:=(hl _).1 hu;exact hd u (by rw [show u=w by omega];exact hw) pu⟩
theorem IZ {b:Nat} {z:Int} (hb:b<out.length) (h:up out b=z):out.set b z=out:=by
 refine List.ext_getElem (by simp) fun k h1 h2 => ?_
 rw [List.getElem_set]
 split
 ·rename_i e;subst e
  rw [←h];unfold up;rw [getD_at _ h2]
 ·rfl
end
structure Idm (n:Nat) (E:Nat→Nat→Prop) (rk:Nat→Nat) (out:List Int):Prop where
 T:Tb n E rk out
 pr :∀v,v<n→Pr out v
 iff :∀{a b},a<n→b<n→(iR out a b↔Dom E a b)
theorem aek {nm:List UInt8} {pa re:Int} {bs:List aH} (hl:bs.length≤1000) (h0:0<bs.length) (hE:mJ bs) {O:List Nat} (hO:f14 nm pa re bs=some (O.map Int.ofNat)) (hOd:Od bs.length (Ed bs) O):Ok (f9 nm pa re bs) fun out=>Idm bs.length (Ed bs) (fun v=>O.idxOf v) out:=by
 have hG:=hOd.gr
 have hlt:=hOd.lt
 have hol:=hOd.len
 unfold f9
 refine vk hO ?_
 have hcl:(O.map Int.ofNat).length=bs.length:=by simp [hol]
 have hat:=fun {i:Nat} (hi:i<bs.length)=>ajX hOd hi
 generalize O.map Int.ofNat=c0 at hcl hat
 rw [hcl]
 refine goC (pO.2 (by omega)) ?_
 simp only [Int.toNat_natCast]
 refine goB (fun R=>Rk bs.length (fun v=>O.idxOf v) R) ?_ fun R hR => ?_
 ·refine aZ (fun s:Int×List Int =>∃i:Nat,s.1=i∧i≤bs.length∧s.2.length=bs.length∧∀v,v<bs.length→O.idxOf v<i→s.2.getD v 0=(O.idxOf v:Nat)) (fun s=>bs.length-s.1.toNat) ⟨0,rfl,by omega,by simp,fun v _ h=>absurd h (Nat.not_lt_zero _)⟩ fun ⟨i',R⟩ ⟨i,e1,e2,e3,e4⟩ => ?_
  simp only at e1 e3 e4
  subst e1
  refine goI (fun hc => ?_) (fun hc=>ay ?_)
  rotate_left
  ·have:i=bs.length:=by simp at hc;omega
   subst this
   exact ⟨e3,fun v hv=>e4 v hv (hlt v hv)⟩
  have hi:i<bs.length:=by simpa using hc
  obtain ⟨b,hb1,hb2,hb3⟩:=hat hi
  refine goC (aA.2 ⟨by simp only;omega,by simp only;omega⟩) ?_
  simp only [Int.toNat_natCast,hb1]
  refine goC (aA.2 ⟨by omega,by omega⟩) ?_
  have hw:bW ((i:Int)+1)=((i+1:Nat):Int):=by rw [aK (by omega)];omega
  rw [hw]
  refine ay ⟨⟨i+1,rfl,by omega,by simp [e3],fun v hv hvi => ?_⟩,by simp only [Int.toNat_natCast];omega⟩
  simp only
  rw [Bh (by omega)]
  by_cases ev:v=b
  ·rw [if_pos ev,ev,hb3]
  ·rw [if_neg ev]
   refine e4 v hv ?_
   have:O.idxOf v≠i:=fun e=>ev (hG.inj hv hb2 (by omega))
   omega
 refine goB _ (QF hE hl) fun P ⟨hP1,hP2⟩ => ?_
 refine goC (pO.2 (by omega)) ?_
 refine goB (fun y =>∃out,y=(P,out)∧Ps bs.length (Ed bs) (fun v=>O.idxOf v) out 1) ?_ fun y ⟨out,e,hPs⟩ => ?_
 ·have hrl:(List.replicate bs.length (0:Int)).length=bs.length:=by simp
  refine aZ (fun s:List (List Int)×Int×List Int =>∃(i:Nat) (out:List Int),s=(P,(i:Int),out)∧i≤bs.length∧out.length=bs.length∧∀v,v<i→out.getD v (-1)=-1) (fun s=>bs.length-s.2.1.toNat) ⟨0,_,rfl,by omega,hrl,fun v h=>absurd h (Nat.not_lt_zero _)⟩ fun s ⟨i,out,e,e2,e3,e4⟩ => ?_
  subst e
  refine goI (fun hc => ?_) (fun hc=>ay ⟨out,rfl,aaO hG e3 fun v hv=>e4 v ?_⟩)
  rotate_left
  ·simp only [hrl] at hc;simp at hc;omega
  have hi:i<bs.length:=by simp only [hrl] at hc;simpa using hc
  refine goC (aA.2 ⟨by simp only;omega,by simp only;omega⟩) ?_
  have hw:bW ((i:Int)+1)=((i+1:Nat):Int):=by rw [aK (by omega)];omega
  simp only [Int.toNat_natCast,hw]
  refine ay ⟨⟨i+1,_,rfl,by omega,by simp [e3],fun v hv => ?_⟩,by simp only [Int.toNat_natCast];omega⟩
  have:=kH (out:=out) (z:=-1) (by omega:i<out.length) v
  unfold up at this
  rw [this]
  split
  ·rfl
  ·exact e4 v (by omega)
 subst e
 refine goB (fun out=>Idm bs.length (Ed bs) (fun v=>O.idxOf v) out) ?_ fun out h=>ay h
 refine aZ (fun s:Bool×List Int=>Ps bs.length (Ed bs) (fun v=>O.idxOf v) s.2 1∧(s.1=false→Ps bs.length (Ed bs) (fun v=>O.idxOf v) s.2 bs.length∧Fx bs.length (Ed bs) (fun v=>O.idxOf v) s.2 bs.length)) (fun s=>if s.1 then ms bs.length (fun v=>O.idxOf v) s.2 bs.length+1 else 0)
  ⟨hPs,fun h=>by cases h⟩ fun ⟨ch,out⟩ ⟨g1,g2⟩ => ?_
 simp only at g1 g2
 refine goI (fun hch => ?_) (fun hch=>ay ?_)
 rotate_left
 ·obtain ⟨k1,k2⟩:=g2 hch
  have hpr :∀v,v<bs.length→Pr out v:=fun v hv=>k1.D hv (hlt v hv)
  exact ⟨k1.T,hpr,fun ha hb=>ad4 hG k1 hlt (fun v hv hv0 p hp pp=>k2 v hv hv0 (hlt v hv) p hp pp) ha hb⟩
 have hch:ch=true:=hch
 subst hch
 refine goC (AY.2 ⟨⟨by omega,by omega⟩,by omega⟩) ?_
 have hn1:Int.toNat (1:Int)=1:=rfl
 simp only [hn1]
 obtain ⟨m,hm⟩ :∃m,bs.length-1=m:=⟨_,rfl⟩
 simp only [hm]
 refine goB (fun s=>Ps bs.length (Ed bs) (fun v=>O.idxOf v) s.2 bs.length∧(s.1=false→s.2=out∧Fx bs.length (Ed bs) (fun v=>O.idxOf v) s.2 bs.length)∧(s.1=true→ms bs.length (fun v=>O.idxOf v) s.2 bs.length<ms bs.length (fun v=>O.idxOf v) out bs.length)) ?_ fun ⟨ch,out'⟩ ⟨k1,k2,k3⟩=>ay ⟨⟨aaN hG hlt k1,fun e=>⟨k1,(k2 e).2⟩⟩,?_⟩
 rotate_left
 ·cases ch with
  |false=>simp
  |true=>have:=k3 rfl;simp;omega
 refine aZ (fun s:Bool×Int×List Int =>∃k:Nat,s.2.1=k∧k≤m∧Ps bs.length (Ed bs) (fun v=>O.idxOf v) s.2.2 (k+1)∧(s.1=false→s.2.2=out∧Fx bs.length (Ed bs) (fun v=>O.idxOf v) s.2.2 (k+1))∧(s.1=true→ms bs.length (fun v=>O.idxOf v) s.2.2 bs.length<ms bs.length (fun v=>O.idxOf v) out bs.length)) (fun s=>m-s.2.1.toNat)
  ⟨0,rfl,by omega,g1,fun _=>⟨rfl,fun v hv hv0 hr=>by have:=IL hG hv hv0;simp only at hr this;omega⟩,fun h=>by cases h⟩ fun ⟨ch,k',out1⟩ ⟨k,e1,e2,e3,e4,e5⟩ => ?_
 simp only at e1 e3 e4 e5
 subst e1
 refine goI (fun hc => ?_) (fun hc=>ay ?_)
 rotate_left
 ·have hk:k=m:=by simp at hc;omega
  have:k+1=bs.length:=by omega
  rw [this] at e3 e4
  exact ⟨e3,e4,e5⟩
 have hk:k<m:=by simpa using hc
 obtain ⟨b,hb1,hb2,hb3⟩:=hat (show 1+k<bs.length by omega)
 have hb0:b≠0:=fun e=>by
  have hz:O.idxOf 0=0:=hG.zero
  rw [e,hz] at hb3;omega
 have hrb:(fun v=>O.idxOf v) b=k+1:=by simp only;omega
 have apo:=e3.T.len
 have hbl:b<out1.length:=by omega
 refine goC (aA.2 ⟨by simp only;omega,by simp only;omega⟩) ?_
 simp only [Int.toNat_natCast,hb1]
 refine goC (aA.2 ⟨by omega,by omega⟩) ?_
 obtain ⟨hpm,hpl⟩:=hP2 b hb2
 have hpe:P.getD b eInt=P.getD b []:=rfl
 rw [hpe]
 generalize P.getD b []=l at hpm hpl
 refine goB (fun z =>∃c:Nat,z=c∧Bst bs.length (Ed bs) (fun v=>O.idxOf v) out1 b c) ?_ fun z ⟨c,ez,hz⟩ => ?_
 ·refine ku (Q:=fun z=>Bp bs.length (Ed bs) out1 l z) ?_ fun z hz=>aej hG e3 hb2 hb0 hrb hpm hz
  refine aZ (fun s:Int×Int =>∃j:Nat,s.2=j∧j≤l.length∧Bp bs.length (Ed bs) out1 (l.take j) s.1) (fun s=>l.length-s.2.toNat) ⟨0,rfl,by omega,.inl ⟨rfl,by simp⟩⟩ fun ⟨z,j'⟩ ⟨j,q1,q2,q3⟩ => ?_
  simp only at q1 q3
  subst q1
  refine goI (fun hc => ?_) (fun hc=>ay ?_)
  rotate_left
  ·have:j=l.length:=by simp at hc;omega
   rw [this,List.take_length] at q3
   exact q3
  have hj:j<l.length:=by simpa using hc
  refine goC (aA.2 ⟨by simp only;omega,by simp only;omega⟩) ?_
  have e:l.getD j 0=l[j]:=getD_at _ hj
  simp only [Int.toNat_natCast,e]
  obtain ⟨u,hu,hue⟩:=(hpm _).1 (List.getElem_mem hj)
  have hun:=(QE hE hue).1
  rw [hu]
  have hw:bW ((j:Int)+1)=((j+1:Nat):Int):=by rw [aK (by omega)];omega
  refine goB (fun s=>s=true↔¬ Pr out1 u) ?_ fun s hs=>goB (fun z=>Bp bs.length (Ed bs) out1 (l.take (j+1)) z) ?_ fun z' hz' => ?_
  ·refine goI (fun hc=>goC (aA.2 ⟨by omega,by omega⟩) (ay ?_)) (fun hc=>ay ?_)
   ·have hc:u≠0:=by simp at hc;omega
    simp only [Int.toNat_natCast,QG (show u<out1.length by omega),decide_eq_true_eq]
    unfold Pr
    exact ⟨fun h hh=>by rcases hh with hh | hh<;>omega,fun h=>by have:¬ 0≤up out1 u:=fun h'=>h (.inr h');omega⟩
   ·have hc:u=0:=by simp at hc;omega
    exact ⟨fun h=>(by cases h),fun h=>absurd (.inl hc) h⟩
  ·rw [take_snoc hj,hu]
   refine goI (fun hc=>ay ?_) fun hc=>goB (fun z=>Bp bs.length (Ed bs) out1 (l.take j++[(u:Int)]) z) ?_ fun z hz=>ay hz
   ·have hnp:=hs.1 hc
    rcases q3 with ⟨z1,z2⟩ | ⟨c,z1,z2,z3,z4,z5,z6⟩
    ·refine .inl ⟨z1,fun w hw => ?_⟩
     rcases List.mem_append.1 hw with hw | hw
     ·exact z2 w hw
     ·rw [List.mem_singleton] at hw
      rw [show w=u by omega];exact hnp
    ·refine .inr ⟨c,z1,z2,z3,fun w hw pw => ?_,fun y hy=>z5 y fun w hw pw=>hy w (List.mem_append_left _ hw) pw,fun d hd=>z6 d fun w hw pw=>hd w (List.mem_append_left _ hw) pw⟩
     rcases List.mem_append.1 hw with hw | hw
     ·exact z4 w hw pw
     ·rw [List.mem_singleton] at hw
      exact absurd (show Pr out1 u by rw [←show w=u by omega];exact pw) hnp
   ·have hp:Pr out1 u:=Classical.byContradiction fun h=>by rw [hs.2 h] at hc;cases hc
    exact aei hG e3.T hR hun hp q3
  ·rw [hw]
   exact ay ⟨⟨j+1,rfl,by omega,hz'⟩,by simp only [Int.toNat_natCast];omega⟩
 subst ez
 refine goC (aA.2 ⟨by omega,by omega⟩) ?_
 simp only [Int.toNat_natCast,QG hbl]
 have hw:bW ((k:Int)+1)=((k+1:Nat):Int):=by rw [aK (by omega)];omega
 have hstep:=adZ hG e3 hb2 hb0 hrb hz
 refine goB (fun y =>∃ch',y=(ch',out1.set b (c:Int))∧(ch'=false→ch=false∧up out1 b=c)∧(ch'=true→ch=true∨up out1 b≠c)) ?_ fun y ⟨ch',ey,y1,y2⟩ => ?_
 ·refine goI (fun hc=>goC (aA.2 ⟨by omega,by omega⟩) (ay ⟨true,rfl,fun h=>(by cases h),fun _=>.inr (by simpa using hc)⟩)) (fun hc=>ay ⟨ch,?_,fun h=>⟨h,by simpa using hc⟩,fun h=>.inl h⟩)
  have hc:up out1 b=c:=by simpa using hc
  rw [IZ hbl hc]
 subst ey
 rw [hw]
 refine ay ⟨⟨k+1,rfl,by omega,hstep,fun hf => ?_,fun ht => ?_⟩,by simp only [Int.toNat_natCast];omega⟩
 ·obtain ⟨f1,f2⟩:=y1 hf
  obtain ⟨f3,f4⟩:=e4 f1
  simp only
  rw [IZ hbl f2]
  refine ⟨f3,fun v hv hv0 hr p hp pp => ?_⟩
  by_cases ev:v=b
  ·subst ev
   rw [f2,Int.toNat_natCast]
   exact hz.all p hp pp
  ·refine f4 v hv hv0 ?_ p hp pp
   have:O.idxOf v≠k+1:=fun e=>ev (hG.inj hv hb2 (by omega))
   simp only at hr ⊢
   omega
 ·simp only
  have hdec:up out1 b≠c→ms bs.length (fun v=>O.idxOf v) (out1.set b (c:Int)) bs.length<ms bs.length (fun v=>O.idxOf v) out1 bs.length:=fun h=>agR hG hlt e3 hb2 hb0 hrb hz h
  by_cases hne:up out1 b=c
  ·rw [IZ hbl hne]
   rcases y2 ht with h | h
   ·exact e5 h
   ·exact absurd hne h
  ·have:=hdec hne
   cases hch:ch with
   |true=>have:=e5 hch;omega
   |false=>rw [(e4 hch).1] at this ⊢;exact this
end Go.Fg.Ytmgfidfcioiedaa

