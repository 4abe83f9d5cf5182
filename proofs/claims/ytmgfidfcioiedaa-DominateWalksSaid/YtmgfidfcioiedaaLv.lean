/-
  Chapter 11, plain: the search in depth.
-/
import Derived.Test.YtmgfidfcioiedaaLu
namespace Go.Fg.Ytmgfidfcioiedaa
open Go.Fw
set_option linter.unusedVariables false
set_option linter.unusedSimpArgs false
theorem IU (k a t e:Int):f25 k a t e=some (succs k t e):=by
 apply ok_eq
 unfold f25
 refine goB (fun s=>s=decide (k=1∨(k=2∧t=e))) ?_ fun s hs => ?_
 ·refine goI (fun h=>aA ?_) fun h=>goB (fun s=>s=decide (k=2∧t=e)) ?_ fun s hs=>aA ?_
  ·simp at h;simp [h]
  ·refine goI (fun h2=>aA ?_) fun h2=>aA ?_
   ·simp at h2;simp [h2]
   ·simp at h2;simp [h2]
  ·simp at h;simp [hs,h]
 ·subst hs
  refine goI (fun h=>aA ?_) fun h=>goI (fun h2=>aA ?_) fun h2=>aA ?_
  ·simp only [decide_eq_true_eq] at h
   unfold succs
   rw [if_neg (fun hh=>by rcases h with h | h;omega;exact hh.2 h.2.symm),if_pos (by rcases h with h | h;exact .inl h;exact .inr h.1)]
  ·simp only [decide_eq_true_eq,decide_eq_false_iff_not] at h h2
   unfold succs
   rw [if_pos ⟨h2,fun hh=>h (.inr ⟨h2,hh.symm⟩)⟩]
  ·simp only [decide_eq_false_iff_not] at h h2
   unfold succs
   rw [if_neg (fun hh=>h2 hh.1),if_neg (fun hh=>hh.elim (fun e=>h (.inl e)) h2)]
def Ed (bs:List aG) (u v:Nat):Prop:=u<bs.length∧(v:Int)∈dQ bs u
theorem Qx {bs:List aG} (hE:mD bs) {u v:Nat} (h:Ed bs u v):u<bs.length∧v<bs.length:=⟨h.1,by have:=w_ hE h.1 _ h.2;omega⟩
theorem ad_ {bs:List aG} (hE:mD bs) (hC:Tq bs) (S:Nat→Prop) (h0:S 0) (hs :∀u v,S u→Ed bs u v→S v) :∀b,b<bs.length→S b:=by
 refine hC S h0 fun b hb sb => ?_
 have hk:=hE.2 b hb
 have hto :∀x:Int,x∈dQ bs b→S x.toNat:=fun x hx=>by
  have hr:=w_ hE hb x hx
  exact hs b _ sb ⟨hb,by rw [show ((x.toNat:Nat):Int)=x by omega];exact hx⟩
 exact ⟨fun hn=>hto _ (Bc.1 (by omega)),fun hn=>hto _ (Bc.2 hn)⟩
theorem XH (k:Nat):ada (k+1)=agw (ada k):=rfl
theorem aa6 {nm:List UInt8} {pa re:Int} {bs:List aG} (hE:mD bs) (hl:bs.length≤1000) :∀(k b:Nat) (seen:List Bool) (out:List Int),b<bs.length→seen.length=bs.length→seen.getD b false=false→cntF seen≤k→out.length+cntF seen≤bs.length→
  Ok (ada k b nm pa re bs seen out) fun y =>∃s' L,y=(s',nm,pa,re,bs,out++L.map Int.ofNat)∧Vis (Ed bs) bs.length b seen s' L∧L.length+cntF s'≤cntF seen:=by
 intro k
 induction k with
 |zero=>
  intro b seen out hb hsl hs hk _
  have:=xg (hsl▸hb) hs
  omega
 |succ k ih=>
  intro b seen out hb hsl hs hk ho
  have hc1:=xg (hsl▸hb:b<seen.length) hs
  rw [XH]
  unfold agw
  refine goB (fun y =>∃s' L,y=(s',nm,pa,re,bs,out++L.map Int.ofNat)∧Vis (Ed bs) bs.length b seen s' L∧L.length+cntF s'≤cntF seen) ?_ fun y ⟨s',L,e,h1,h2⟩=>by subst e;exact goC (decide_eq_true h1.len.symm) (aA ⟨s',L,rfl,h1,h2⟩)
  refine goC (au.2 ⟨by omega,by omega⟩) (goC (au.2 ⟨by omega,by omega⟩) ?_)
  simp only [Int.toNat_natCast]
  refine xP (IU _ _ _ _) ?_
  have hsd:succs (bs.getD b ah).aT (bs.getD b ah).dP (bs.getD b ah).bn=dQ bs b:=rfl
  rw [hsd]
  have hin:=w_ hE hb
  have hl2:(dQ bs b).length≤2:=by unfold dQ succs;(repeat' split)<;>simp
  refine goB (fun y =>∃s' M,y=(s',nm,pa,re,bs,out++M.map Int.ofNat)∧Vs (Ed bs) bs.length b seen s' M∧(∀x∈dQ bs b,s'.getD x.toNat false=true)∧M.length+cntF s'+1≤cntF seen) ?_ fun y ⟨s',M,e,h1,h2,h3⟩ => ?_
  rotate_left
  ·subst e
   refine goC (by unfold bG;simp;omega) (aA ⟨s',M++[b],by simp,agJ hb hs h1 (fun x hx=>by have:=h2 _ hx.2;rwa [Int.toNat_natCast] at this) fun he=>(Qx hE he).2,by simp;omega⟩)
  have hset :∀z,(seen.set b true).getD z false=if z=b then true else seen.getD z false:=fun z=>j_ (hsl▸hb)
  refine bf (fun s:Int×List Bool×List UInt8×Int×Int×List aG×List Int =>∃(i:Nat) (s':List Bool) (M:List Nat),s=((i:Int),s',nm,pa,re,bs,out++M.map Int.ofNat)∧i≤(dQ bs b).length∧Vs (Ed bs) bs.length b seen s' M∧(∀j,(hj:j<(dQ bs b).length)→j<i→s'.getD ((dQ bs b)[j]).toNat false=true)∧M.length+cntF s'+1≤cntF seen)
   (fun s=>(dQ bs b).length-s.1.toNat) ⟨0,seen.set b true,[],by simp,by omega,⟨by simp,by simp,by simp,fun x hx => ?_,by simp,by simp⟩,fun j _ h=>by omega,by simp;omega⟩ fun s ⟨i,s',M,e,h1,h2,h3,h4⟩ => ?_
  ·rw [hset]
   by_cases e:x=b
   ·simp [e]
   ·simp [e]
  subst e
  refine goI (fun hi => ?_) (fun hi=>aA ⟨s',M,rfl,h2,fun x hx => ?_,h4⟩)
  rotate_left
  ·obtain ⟨j,hj,e⟩:=List.getElem_of_mem hx
   rw [←e];exact h3 j hj (by simp at hi;omega)
  have hi:i<(dQ bs b).length:=by simpa using hi
  have ano:s'.length=bs.length:=by rw [h2.len,hsl]
  refine goC (au.2 ⟨by omega,by omega⟩) ?_
  have e:(dQ bs b).getD i 0=(dQ bs b)[i]:=getD_at _ hi
  have hmem:=List.getElem_mem hi
  have hr:=hin _ hmem
  simp only [Int.toNat_natCast,e]
  obtain ⟨c,hc⟩ :∃c:Nat,(dQ bs b)[i]=c:=⟨((dQ bs b)[i]).toNat,by omega⟩
  have he:Ed bs b c:=⟨hb,hc▸hmem⟩
  rw [hc] at hr ⊢
  have hcn:c<bs.length:=by omega
  refine goC (au.2 ⟨by omega,by omega⟩) ?_
  simp only [Int.toNat_natCast]
  refine goB (fun y =>∃s2 M2,y=(s2,nm,pa,re,bs,out++M2.map Int.ofNat)∧Vs (Ed bs) bs.length b seen s2 M2∧(∀x,x<bs.length→s'.getD x false=true→s2.getD x false=true)∧s2.getD c false=true∧M2.length+cntF s2+1≤cntF seen) ?_ fun y ⟨s2,M2,e2,q1,q2,q3,q4⟩ => ?_
  rotate_left
  ·subst e2
   have hw:bW ((i:Int)+1)=((i+1:Nat):Int):=by rw [aJ (by omega)];omega
   rw [hw]
   refine aA ⟨⟨i+1,s2,M2,rfl,by omega,q1,fun j hj hji => ?_,q4⟩,by simp only [Int.toNat_natCast];omega⟩
   by_cases ej:j=i
   ·subst ej;rw [hc,Int.toNat_natCast];exact q3
   ·have hjr:=hin _ (List.getElem_mem hj)
    exact q2 _ (by omega) (h3 j hj (by omega))
  refine goI (fun hn => ?_) (fun hn=>aA ⟨s',M,rfl,h2,fun x _ h=>h,by simpa using hn,h4⟩)
  have hn:s'.getD c false=false:=by simpa using hn
  refine goB _ (ih c s' (out++M.map Int.ofNat) hcn ano hn (by omega) (by simp;omega)) fun y ⟨s2,L,e2,q1,q2⟩ => ?_
  subst e2
  have hcL:c∈L:=by obtain ⟨L0,e⟩:=q1.last;rw [e];simp
  exact aA ⟨s2,M++L,by simp,aaI h2 q1 he fun h=>(Qx hE h).2,fun x hx h=>(q1.mrk x hx).2 (.inl h),(q1.mrk c hcn).2 (.inr hcL),by simp;omega⟩
end Go.Fg.Ytmgfidfcioiedaa

