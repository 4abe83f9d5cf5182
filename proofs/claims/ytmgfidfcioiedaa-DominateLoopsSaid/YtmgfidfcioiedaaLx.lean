/-
  Chapter 11, plain: the order of blocks.
-/
import Derived.Test.YtmgfidfcioiedaaLw
namespace Go.Fg.Ytmgfidfcioiedaa
open Go.Fw
set_option linter.unusedVariables false
set_option linter.unusedSimpArgs false
theorem Ub {l:List Int} (hl:l.length≤1000000):f26 l=some l.reverse:=by
 apply ok_eq
 unfold f26
 refine goB (fun y=>y=l.reverse) ?_ fun y e=>by subst e;exact goC (by simp) (ay rfl)
 refine goB (fun y=>y=l.reverse) ?_ fun y e=>ay e
 refine aZ (fun s:Int×Int×List Int =>∃i:Nat,s.1=i∧s.2.1=(l.length:Int)-1-i∧s.2.2.length=l.length∧i≤l.length∧∀k,k<l.length→s.2.2.getD k 0=if k<i∨l.length-1-k<i then l.getD (l.length-1-k) 0 else l.getD k 0)
  (fun s=>l.length-s.1.toNat) ⟨0,rfl,by simp only;rw [aK (by omega)];omega,rfl,by omega,fun k hk=>by rw [if_neg (by omega)]⟩ fun ⟨i',j,m⟩ ⟨i,e1,e2,e3,e4,e5⟩ => ?_
 simp only at e1 e2 e3 e5
 subst e1;subst e2
 refine goI (fun hc => ?_) (fun hc=>ay ?_)
 rotate_left
 ·have hc:¬ ((i:Int)<(l.length:Int)-1-i):=by simpa using hc
  show m=l.reverse
  refine List.ext_getElem (by simp [e3]) fun k h1 h2 => ?_
  have hk:k<l.length:=by omega
  have:=e5 k hk
  rw [getD_at _ h1] at this
  rw [this,List.getElem_reverse]
  split
  ·rw [getD_at _ (by omega)]
  ·rename_i hh
   have:l.length-1-k=k:=by omega
   simp only [this]
   rw [getD_at _ hk]
 have hc:(i:Int)<(l.length:Int)-1-i:=by simpa using hc
 obtain ⟨j,hj⟩ :∃j:Nat,(l.length:Int)-1-i=j:=⟨((l.length:Int)-1-i).toNat,by omega⟩
 rw [hj]
 have hjl:j<m.length:=by omega
 have hil:i<m.length:=by omega
 refine goC (aA.2 ⟨by simp only;omega,by simp only;omega⟩) (goC (aA.2 ⟨by simp only;omega,by simp only;omega⟩) (goC (aA.2 ⟨by simp only;omega,by simp only;omega⟩) (goC (aA.2 ⟨by simp only;omega,by simp only [List.length_set];omega⟩) ?_)))
 simp only [Int.toNat_natCast]
 have hw:bW ((i:Int)+1)=((i+1:Nat):Int):=by rw [aK (by omega)];omega
 have hw2:bW ((j:Int)-1)=(l.length:Int)-1-((i+1:Nat):Int):=by rw [aK (by omega)];omega
 rw [hw,hw2]
 refine ay ⟨⟨i+1,rfl,rfl,by simp [e3],by omega,fun k hk => ?_⟩,by simp only [Int.toNat_natCast];omega⟩
 have hji:=e5 j (by omega)
 have hii:=e5 i (by omega)
 rw [if_neg (by omega)] at hji hii
 rw [Bh (by simp only [List.length_set];exact hjl),Bh hil]
 by_cases k1:k=j
 ·rw [if_pos k1,hii,if_pos (by omega)]
  congr 1;omega
 ·rw [if_neg k1]
  by_cases k2:k=i
  ·rw [if_pos k2,hji,if_pos (by omega)]
   congr 1;omega
  ·rw [if_neg k2,e5 k hk]
   by_cases k3:k<i∨l.length-1-k<i
   ·rw [if_pos k3,if_pos (by omega)]
   ·rw [if_neg k3,if_neg (by omega)]
theorem abg {nm:List UInt8} {pa re:Int} {bs:List aH} (hl:bs.length≤1000) (h0:0<bs.length) (hE:mJ bs) (hC:TJ bs) :∃O:List Nat,f14 nm pa re bs=some (O.map Int.ofNat)∧Od bs.length (Ed bs) O:=by
 have h:Ok (f14 nm pa re bs) fun y =>∃O:List Nat,y=O.map Int.ofNat∧Od bs.length (Ed bs) O:=by
  unfold f14
  refine goC (pO.2 (by omega)) (vk rfl ?_)
  simp only [Int.toNat_natCast]
  have hs :∀x,(List.replicate bs.length false).getD x false=false:=fun x=>by
   rw [List.getD_eq_getElem?_getD,List.getElem?_replicate];split<;>rfl
  have hcn:cntF (List.replicate bs.length false)=bs.length:=by simp [cntF,List.count_replicate]
  refine goB _ (abf (nm:=nm) (pa:=pa) (re:=re) hE hl 1048576 0 _ eInt h0 (by simp) (hs 0) (by omega) (by simp;omega)) fun y ⟨s',L,e,hv,hsz⟩ => ?_
  subst e
  have hll:L.length≤1000:=by omega
  simp only
  refine vk (Ub (by simp;omega)) (ay ⟨L.reverse,by simp,ajQ h0 (fun he=>QE hE he) (VR hE hC) hs hv⟩)
 obtain ⟨y,hy,O,e,h⟩:=h
 exact ⟨O,by rw [hy,e],h⟩
theorem ajX {n:Nat} {E:Nat→Nat→Prop} {O:List Nat} (h:Od n E O) {i:Nat} (hi:i<n) :∃b:Nat,(O.map Int.ofNat).getD i 0=b∧b<n∧O.idxOf b=i:=by
 have hil:i<O.length:=by rw [h.len];exact hi
 refine ⟨O[i],?_,h.mem.1 (List.getElem_mem hil),h.nd.idxOf_getElem i hil⟩
 rw [getD_at _ (by simpa using hil)];simp
end Go.Fg.Ytmgfidfcioiedaa

