/-
  Chapter 11, plain: the search in depth.
-/
import Derived.Test.YtmgfidfcioiedaaLu
namespace Go.Fg.Ytmgfidfcioiedaa
open Go.Fw
set_option linter.unusedVariables false
set_option linter.unusedSimpArgs false
theorem IY (k a t e:Int):f25 k a t e=some (succs k t e):=by
 apply ok_eq
 unfold f25
 refine goB (fun s=>s=decide (k=1∨(k=2∧t=e))) ?_ fun s hs => ?_
 ·refine goI (fun h=>ay ?_) fun h=>goB (fun s=>s=decide (k=2∧t=e)) ?_ fun s hs=>ay ?_
  ·simp at h;simp [h]
  ·refine goI (fun h2=>ay ?_) fun h2=>ay ?_
   ·simp at h2;simp [h2]
   ·simp at h2;simp [h2]
  ·simp at h;simp [hs,h]
 ·subst hs
  refine goI (fun h=>ay ?_) fun h=>goI (fun h2=>ay ?_) fun h2=>ay ?_
  ·simp only [decide_eq_true_eq] at h
   unfold succs
   rw [if_neg (fun hh=>by rcases h with h | h;omega;exact hh.2 h.2.symm),if_pos (by rcases h with h | h;exact .inl h;exact .inr h.1)]
  ·simp only [decide_eq_true_eq,decide_eq_false_iff_not] at h h2
   unfold succs
   rw [if_pos ⟨h2,fun hh=>h (.inr ⟨h2,hh.symm⟩)⟩]
  ·simp only [decide_eq_false_iff_not] at h h2
   unfold succs
   rw [if_neg (fun hh=>h2 hh.1),if_neg (fun hh=>hh.elim (fun e=>h (.inl e)) h2)]
def Ed (bs:List aH) (u v:Nat):Prop:=u<bs.length∧(v:Int)∈dW bs u
theorem QE {bs:List aH} (hE:mJ bs) {u v:Nat} (h:Ed bs u v):u<bs.length∧v<bs.length:=⟨h.1,by have:=xw hE h.1 _ h.2;omega⟩
theorem VR {bs:List aH} (hE:mJ bs) (hC:TJ bs) (S:Nat→Prop) (h0:S 0) (hs :∀u v,S u→Ed bs u v→S v) :∀b,b<bs.length→S b:=by
 refine hC S h0 fun b hb sb => ?_
 have hk:=hE.2 b hb
 have hto :∀x:Int,x∈dW bs b→S x.toNat:=fun x hx=>by
  have hr:=xw hE hb x hx
  exact hs b _ sb ⟨hb,by rw [show ((x.toNat:Nat):Int)=x by omega];exact hx⟩
 exact ⟨fun hn=>hto _ (Bj.1 (by omega)),fun hn=>hto _ (Bj.2 hn)⟩
theorem XP (k:Nat):ado (k+1)=agD (ado k):=rfl
theorem abf {nm:List UInt8} {pa re:Int} {bs:List aH} (hE:mJ bs) (hl:bs.length≤1000) :∀(k b:Nat) (seen:List Bool) (out:List Int),b<bs.length→seen.length=bs.length→seen.getD b false=false→cntF seen≤k→out.length+cntF seen≤bs.length→
  Ok (ado k b nm pa re bs seen out) fun y =>∃s' L,y=(s',nm,pa,re,bs,out++L.map Int.ofNat)∧Vis (Ed bs) bs.length b seen s' L∧L.length+cntF s'≤cntF seen:=by
 intro k
 induction k with
 |zero=>
  intro b seen out hb hsl hs hk _
  have:=xA (hsl▸hb) hs
  omega
 |succ k ih=>
  intro b seen out hb hsl hs hk ho
  have hc1:=xA (hsl▸hb:b<seen.length) hs
  rw [XP]
  unfold agD
  refine goB (fun y =>∃s' L,y=(s',nm,pa,re,bs,out++L.map Int.ofNat)∧Vis (Ed bs) bs.length b seen s' L∧L.length+cntF s'≤cntF seen) ?_ fun y ⟨s',L,e,h1,h2⟩=>by subst e;exact goC (decide_eq_true h1.len.symm) (ay ⟨s',L,rfl,h1,h2⟩)
  refine goC (aA.2 ⟨by omega,by omega⟩) (goC (aA.2 ⟨by omega,by omega⟩) ?_)
  simp only [Int.toNat_natCast]
  refine vk (IY _ _ _ _) ?_
  have hsd:succs (bs.getD b aj).aU (bs.getD b aj).dQ (bs.getD b aj).bC=dW bs b:=rfl
  rw [hsd]
  have hin:=xw hE hb
  have hl2:(dW bs b).length≤2:=by unfold dW succs;(repeat' split)<;>simp
  refine goB (fun y =>∃s' M,y=(s',nm,pa,re,bs,out++M.map Int.ofNat)∧Vs (Ed bs) bs.length b seen s' M∧(∀x∈dW bs b,s'.getD x.toNat false=true)∧M.length+cntF s'+1≤cntF seen) ?_ fun y ⟨s',M,e,h1,h2,h3⟩ => ?_
  rotate_left
  ·subst e
   refine goC (by unfold bG;simp;omega) (ay ⟨s',M++[b],by simp,agS hb hs h1 (fun x hx=>by have:=h2 _ hx.2;rwa [Int.toNat_natCast] at this) fun he=>(QE hE he).2,by simp;omega⟩)
  have hset :∀z,(seen.set b true).getD z false=if z=b then true else seen.getD z false:=fun z=>lG (hsl▸hb)
  refine aZ (fun s:Int×List Bool×List UInt8×Int×Int×List aH×List Int =>∃(i:Nat) (s':List Bool) (M:List Nat),s=((i:Int),s',nm,pa,re,bs,out++M.map Int.ofNat)∧i≤(dW bs b).length∧Vs (Ed bs) bs.length b seen s' M∧(∀j,(hj:j<(dW bs b).length)→j<i→s'.getD ((dW bs b)[j]).toNat false=true)∧M.length+cntF s'+1≤cntF seen)
   (fun s=>(dW bs b).length-s.1.toNat) ⟨0,seen.set b true,[],by simp,by omega,⟨by simp,by simp,by simp,fun x hx => ?_,by simp,by simp⟩,fun j _ h=>by omega,by simp;omega⟩ fun s ⟨i,s',M,e,h1,h2,h3,h4⟩ => ?_
  ·rw [hset]
   by_cases e:x=b
   ·simp [e]
   ·simp [e]
  subst e
  refine goI (fun hi => ?_) (fun hi=>ay ⟨s',M,rfl,h2,fun x hx => ?_,h4⟩)
  rotate_left
  ·obtain ⟨j,hj,e⟩:=List.getElem_of_mem hx
   rw [←e];exact h3 j hj (by simp at hi;omega)
  have hi:i<(dW bs b).length:=by simpa using hi
  have anC:s'.length=bs.length:=by rw [h2.len,hsl]
  refine goC (aA.2 ⟨by omega,by omega⟩) ?_
  have e:(dW bs b).getD i 0=(dW bs b)[i]:=getD_at _ hi
  have hmem:=List.getElem_mem hi
  have hr:=hin _ hmem
  simp only [Int.toNat_natCast,e]
  obtain ⟨c,hc⟩ :∃c:Nat,(dW bs b)[i]=c:=⟨((dW bs b)[i]).toNat,by omega⟩
  have he:Ed bs b c:=⟨hb,hc▸hmem⟩
  rw [hc] at hr ⊢
  have hcn:c<bs.length:=by omega
  refine goC (aA.2 ⟨by omega,by omega⟩) ?_
  simp only [Int.toNat_natCast]
  refine goB (fun y =>∃s2 M2,y=(s2,nm,pa,re,bs,out++M2.map Int.ofNat)∧Vs (Ed bs) bs.length b seen s2 M2∧(∀x,x<bs.length→s'.getD x false=true→s2.getD x false=true)∧s2.getD c false=true∧M2.length+cntF s2+1≤cntF seen) ?_ fun y ⟨s2,M2,e2,q1,q2,q3,q4⟩ => ?_
  rotate_left
  ·subst e2
   have hw:bW ((i:Int)+1)=((i+1:Nat):Int):=by rw [aK (by omega)];omega
   rw [hw]
   refine ay ⟨⟨i+1,s2,M2,rfl,by omega,q1,fun j hj hji => ?_,q4⟩,by simp only [Int.toNat_natCast];omega⟩
   by_cases ej:j=i
   ·subst ej;rw [hc,Int.toNat_natCast];exact q3
   ·have hjr:=hin _ (List.getElem_mem hj)
    exact q2 _ (by omega) (h3 j hj (by omega))
  refine goI (fun hn => ?_) (fun hn=>ay ⟨s',M,rfl,h2,fun x _ h=>h,by simpa using hn,h4⟩)
  have hn:s'.getD c false=false:=by simpa using hn
  refine goB _ (ih c s' (out++M.map Int.ofNat) hcn anC hn (by omega) (by simp;omega)) fun y ⟨s2,L,e2,q1,q2⟩ => ?_
  subst e2
  have hcL:c∈L:=by obtain ⟨L0,e⟩:=q1.last;rw [e];simp
  exact ay ⟨s2,M++L,by simp,aaP h2 q1 he fun h=>(QE hE h).2,fun x hx h=>(q1.mrk x hx).2 (.inl h),(q1.mrk c hcn).2 (.inr hcL),by simp;omega⟩
end Go.Fg.Ytmgfidfcioiedaa

