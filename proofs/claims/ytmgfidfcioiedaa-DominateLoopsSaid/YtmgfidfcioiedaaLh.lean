/-
  Chapter 11, plain: which blocks are reached.
-/
import Derived.Test.YtmgfidfcioiedaaLa
namespace Go.Fg.Ytmgfidfcioiedaa
open Go.Fw
set_option linter.unusedVariables false
set_option linter.unusedSimpArgs false
def succs (k t e:Int):List Int:=if k=2∧e≠t then [t,e] else if k=1∨k=2 then [t] else []
theorem IW (k a t e:Int):f10 k a t e=some (succs k t e):=by
 apply ok_eq
 unfold f10 succs
 refine goB (fun y=>y=decide (k=2∧e≠t)) ?_ fun y hy => ?_
 ·refine goI (fun h=>ay ?_) (fun h=>ay ?_)
  ·have h:k=2:=by simpa using h
   by_cases h2:e=t<;>simp [h,h2]
  ·have h:¬ k=2:=by simpa using h
   simp [h]
 subst hy
 refine goI (fun h=>ay ?_) (fun h => ?_)
 ·rw [if_pos (by simpa using h)]
 ·rw [if_neg (by simpa using h)]
  refine goB (fun y=>y=decide (k=1∨k=2)) ?_ fun y hy => ?_
  ·refine goI (fun h=>ay ?_) (fun h=>ay ?_)
   ·have h:k=1:=by simpa using h
    simp [h]
   ·have h:¬ k=1:=by simpa using h
    simp [h]
  ·subst hy
   refine goI (fun h=>ay ?_) (fun h=>ay ?_)
   ·rw [if_pos (by simpa using h)]
   ·rw [if_neg (by simpa using h)]
def dW (bs:List aH) (b:Nat):List Int:=succs (bs.getD b aj).aU (bs.getD b aj).dQ (bs.getD b aj).bC
def mJ (bs:List aH):Prop:=Ends bs∧∀b,b<bs.length→(bs.getD b aj).aU=1∨(bs.getD b aj).aU=2∨(bs.getD b aj).aU=3
theorem xw {bs:List aH} (h:mJ bs) {b:Nat} (hb:b<bs.length) :∀x∈dW bs b,0≤x∧x<bs.length:=by
 obtain ⟨h1,h2⟩:=h
 obtain ⟨e1,e2⟩:=h1 b hb
 have hk:=h2 b hb
 intro x hx
 unfold dW succs at hx
 split at hx
 ·rename_i hc
  rcases List.mem_cons.1 hx with rfl | hx
  ·exact e1 (by omega)
  ·rw [List.mem_singleton] at hx;rw [hx];exact e2 hc.1
 ·split at hx
  ·rename_i hc;rw [List.mem_singleton] at hx;rw [hx];exact e1 (by omega)
  ·cases hx
def cntF (l:List Bool):Nat:=l.count false
theorem xA {l:List Bool} {k:Nat} (hk:k<l.length) (hf:l.getD k false=false):cntF (l.set k true)+1=cntF l:=by
 unfold cntF
 rw [getD_at _ hk] at hf
 have hp:0<l.count false:=List.count_pos_iff.2 (hf▸List.getElem_mem hk)
 rw [List.count_set hk,hf];simp;omega
theorem lG {l:List Bool} {a z:Nat} {v:Bool} (ha:a<l.length):(l.set a v).getD z false=if z=a then v else l.getD z false:=by
 rw [List.getD_eq_getElem?_getD,List.getD_eq_getElem?_getD]
 by_cases h:z=a
 ·subst h;rw [List.getElem?_set_self ha,if_pos rfl];rfl
 ·rw [List.getElem?_set_ne (fun e=>h e.symm),if_neg h]
structure Mk (bs:List aH) (m:List Bool) (st:List Int):Prop where
 len:m.length=bs.length
 zero:m.getD 0 false=true
 stk :∀x∈st,(0≤x∧x<bs.length)∧m.getD x.toNat false=true
 all :∀S:Nat→Prop,S 0→(∀b,b<bs.length→S b→∀x∈dW bs b,S x.toNat)→∀b,b<bs.length→m.getD b false=true→S b
theorem Qq {nm:List UInt8} {a b:Int} {bs:List aH} (hE:mJ bs) (h0:0<bs.length) (hl:bs.length≤1000000) :
  Ok (f43 nm a b bs) fun m=>Mk bs m []∧∀b,b<bs.length→m.getD b false=true→∀x∈dW bs b,m.getD x.toNat false=true:=by
 unfold f43
 refine goC (pO.2 (by omega)) ?_
 refine Ee (decide_eq_false (by simp only [List.length_replicate,Int.toNat_natCast];omega)) (goC (aA.2 (by simp only [List.length_replicate,Int.toNat_natCast];omega)) ?_)
 refine goB (fun m=>Mk bs m []∧∀b,b<bs.length→m.getD b false=true→∀x∈dW bs b,m.getD x.toNat false=true) ?_ fun y hy=>ay hy
 have hz:(List.replicate ((bs.length:Int)).toNat false).length=bs.length:=by simp
 refine aZ (fun s:List Bool×List Int=>Mk bs s.1 s.2∧s.2.length+cntF s.1≤bs.length∧∀b,b<bs.length→s.1.getD b false=true→(b:Int)∈s.2∨∀x∈dW bs b,s.1.getD x.toNat false=true) (fun s=>2*cntF s.1+s.2.length)
  ⟨⟨by simp,by rw [lG (by rw [hz];exact h0)];simp,fun x hx => ?_,fun S s0 _ b hb hm => ?_⟩,?_,fun b hb hm=>.inl ?_⟩ fun s ⟨h1,hsz,h2⟩ => ?_
 ·rw [List.mem_singleton] at hx;subst hx
  refine ⟨by omega,?_⟩
  rw [lG (by rw [hz];exact h0)];simp
 ·simp only at hm
  rw [lG (by rw [hz];exact h0)] at hm
  split at hm
  ·rename_i e;rw [e];exact s0
  ·rw [getD_at _ (by rw [hz];exact hb)] at hm;simp at hm
 ·have hc:=xA (l:=List.replicate ((bs.length:Int)).toNat false) (k:=0) (by rw [hz];exact h0) (by rw [getD_at _ (by rw [hz];exact h0)];simp)
  have:cntF (List.replicate ((bs.length:Int)).toNat false)=bs.length:=by simp [cntF,List.count_replicate]
  simp only [List.length_singleton,Int.toNat_zero]
  omega
 ·simp only at hm
  rw [lG (by rw [hz];exact h0)] at hm
  split at hm
  ·rename_i e;simp [e]
  ·rw [getD_at _ (by rw [hz];exact hb)] at hm;simp at hm
 obtain ⟨m,st⟩:=s
 simp only at h1 h2 hsz
 refine goI (fun hne => ?_) (fun he=>ay ?_)
 rotate_left
 ·have:st=[]:=by simpa using he
  subst this
  exact ⟨h1,fun b hb hm=>(h2 b hb hm).resolve_left (by simp)⟩
 have hpos:0<st.length:=by simpa using hne
 have hw:bW ((st.length:Int)-1)=((st.length-1:Nat):Int):=by rw [aK (by omega)];omega
 simp only [hw,Int.toNat_natCast]
 refine goC (aA.2 (by omega)) (goC (by simp) ?_)
 have hlast:st.getD (st.length-1) 0∈st:=by rw [getD_at _ (by omega)];exact List.getElem_mem _
 have hst:st=st.take (st.length-1)++[st.getD (st.length-1) 0]:=by
  rw [getD_at _ (by omega),←take_snoc (by omega),show st.length-1+1=st.length from by omega,List.take_length]
 obtain ⟨hx1,hx2⟩:=h1.stk _ hlast
 generalize st.getD (st.length-1) 0=x at hlast hst hx1 hx2 ⊢
 obtain ⟨q,rfl⟩ :∃n:Nat,x=n:=⟨x.toNat,by omega⟩
 rw [Int.toNat_natCast] at hx2
 have hq:q<bs.length:=by omega
 have htl:(st.take (st.length-1)).length=st.length-1:=by simp
 generalize st.take (st.length-1)=st' at hst htl ⊢
 refine goC (aA.2 (by omega)) ?_
 simp only [Int.toNat_natCast]
 refine vk (IW _ _ _ _) ?_
 have anx:=xw hE hq
 have ajS:succs (bs.getD q aj).aU (bs.getD q aj).dQ (bs.getD q aj).bC=dW bs q:=rfl
 rw [ajS]
 refine goB (fun y=>Mk bs y.1 y.2∧2*cntF y.1+y.2.length≤2*cntF m+st'.length∧y.2.length+cntF y.1≤st'.length+cntF m∧(∀b,b<bs.length→m.getD b false=true→y.1.getD b false=true)∧(∀z∈st',z∈y.2)∧
   (∀b,b<bs.length→y.1.getD b false=true→m.getD b false=false→(b:Int)∈y.2)∧∀x∈dW bs q,y.1.getD x.toNat false=true) ?_ fun y ⟨a1,a2,a3,a4,a5,a6,a7⟩=>ay ⟨⟨a1,?_,fun b hb hm => ?_⟩,?_⟩
 ·have hm0:Mk bs m st':=⟨h1.len,h1.zero,fun x hx=>h1.stk x (by rw [hst];exact List.mem_append_left _ hx),h1.all⟩
  refine afY (dW bs q) (fun i s=>(i,s.1,s.2)) (fun s x=>if s.1.getD x.toNat false then s else (s.1.set x.toNat true,s.2++[x]))
   (fun i s=>Mk bs s.1 s.2∧2*cntF s.1+s.2.length≤2*cntF m+st'.length∧s.2.length+cntF s.1≤st'.length+cntF m∧(∀b,b<bs.length→m.getD b false=true→s.1.getD b false=true)∧(∀z∈st',z∈s.2)∧
    (∀b,b<bs.length→s.1.getD b false=true→m.getD b false=false→(b:Int)∈s.2)∧∀j,(hj:j<(dW bs q).length)→j<i→s.1.getD ((dW bs q)[j]).toNat false=true)
   (s0:=(m,st')) rfl ⟨hm0,Nat.le_refl _,Nat.le_refl _,fun _ _ h=>h,fun _ h=>h,fun b _ h h'=>(by rw [h] at h';cases h'),fun j _ h=>by omega⟩ (fun i h s ⟨b1,b2,b3,b4,b5,b6,b7⟩ _ => ?_) (fun s ⟨b1,b2,b3,b4,b5,b6,b7⟩ _ => ?_)
  rotate_left
  ·refine Ee (decide_eq_false (by simp only;omega)) (ay ⟨b1,b2,b3,b4,b5,b6,fun x hx => ?_⟩)
   obtain ⟨j,hj,e⟩:=List.getElem_of_mem hx
   rw [←e];exact b7 j hj hj
  obtain ⟨mk,sk⟩:=s
  simp only at b1 b2 b3 b4 b5 b6 b7
  have hs2:(dW bs q).length≤2:=by unfold dW succs;(repeat' split)<;>simp
  have hmem:=List.getElem_mem h
  have hxr:=anx _ hmem
  have hlen:=b1.len
  refine goT (decide_eq_true (by simp only;omega)) (goC (aA.2 ⟨by simp only;omega,by simp only;omega⟩) ?_)
  have e:(dW bs q).getD i 0=(dW bs q)[i]:=getD_at _ h
  simp only [Int.toNat_natCast,e]
  have hnew :∀(mk':List Bool) (b':Nat),b'<bs.length→mk'.getD b' false=true→True:=fun _ _ _ _=>trivial
  refine goC (aA.2 (by omega)) ?_
  generalize hgx:(dW bs q)[i]=x at hmem hxr ⊢
  have hxl:x.toNat<mk.length:=by omega
  refine goB (fun y=>y=if mk.getD x.toNat false then (mk,sk) else (mk.set x.toNat true,sk++[x])) ?_ fun y hy => ?_
  ·refine goI (fun hc => ?_) (fun hc=>ay ?_)
   ·have hc:mk.getD x.toNat false=false:=by simpa using hc
    refine goC (aA.2 ⟨by omega,by omega⟩) ?_
    refine goC (aA.2 (by omega)) (goC (aA.2 ⟨by omega,by omega⟩) (goC (by unfold bG;simp;omega) (ay ?_)))
    rw [if_neg (by rw [hc];simp)]
   ·have hc:mk.getD x.toNat false=true:=by simpa using hc
    rw [if_pos hc]
  ·subst hy
   refine ay ⟨by rw [aK (x:=(i:Int)+1) (by omega)],?_⟩
   by_cases hc:mk.getD x.toNat false=true
   ·simp only [if_pos hc]
    refine ⟨b1,b2,b3,b4,b5,b6,fun j hj hji => ?_⟩
    by_cases e2:j=i
    ·subst e2;rw [hgx];exact hc
    ·exact b7 j hj (by omega)
   ·simp only [if_neg hc]
    have hcf:mk.getD x.toNat false=false:=by simpa using hc
    have hcnt:=xA hxl hcf
    have hset :∀z,(mk.set x.toNat true).getD z false=if z=x.toNat then true else mk.getD z false:=fun z=>lG hxl
    refine ⟨⟨by simp [hlen],?_,fun z hz => ?_,fun S s0 hcl z hz hm => ?_⟩,by simp;omega,by simp;omega,fun z hz hm => ?_,fun z hz=>List.mem_append_left _ (b5 z hz),fun z hz hm hf => ?_,fun j hj hji => ?_⟩
    ·rw [hset];split
     ·rfl
     ·exact b1.zero
    ·rcases List.mem_append.1 hz with hz | hz
     ·obtain ⟨r1,r2⟩:=b1.stk z hz
      refine ⟨r1,?_⟩
      rw [hset];split
      ·rfl
      ·exact r2
     ·rw [List.mem_singleton] at hz;subst hz
      refine ⟨hxr,?_⟩
      rw [hset,if_pos rfl]
    ·rw [hset] at hm
     split at hm
     ·rename_i e2;rw [e2]
      exact hcl q hq (h1.all S s0 hcl q hq hx2) x hmem
     ·exact b1.all S s0 hcl z hz hm
    ·rw [hset];split
     ·rfl
     ·exact b4 z hz hm
    ·rw [hset] at hm
     split at hm
     ·rename_i e2
      refine List.mem_append_right _ ?_
      rw [List.mem_singleton];omega
     ·exact List.mem_append_left _ (b6 z hz hm hf)
    ·rw [hset]
     by_cases e2:j=i
     ·subst e2;rw [hgx,if_pos rfl]
     ·split
      ·rfl
      ·exact b7 j hj (by omega)
 ·have:st.length=st'.length+1:=by rw [hst];simp
  simp only;omega
 ·simp only at hm ⊢
  cases hmb:m.getD b false with
  |false=>exact .inl (a6 b hb hm hmb)
  |true=>
   by_cases e:b=q
   ·subst e;exact .inr a7
   ·rcases h2 b hb hmb with h | h
    ·rw [hst] at h
     rcases List.mem_append.1 h with h | h
     ·exact .inl (a5 _ h)
     ·rw [List.mem_singleton] at h;omega
    ·refine .inr fun x hx => ?_
     have:=xw hE hb x hx
     exact a4 x.toNat (by omega) (h x hx)
 ·have:st.length=st'.length+1:=by rw [hst];simp
  simp only;omega
def Good (f:aO):Prop:=f.blocks.length≤1000∧0<f.blocks.length∧mJ f.blocks∧TJ f.blocks
end Go.Fg.Ytmgfidfcioiedaa

