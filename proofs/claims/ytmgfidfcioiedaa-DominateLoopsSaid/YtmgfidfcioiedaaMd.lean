/-
  Chapter 11, plain: the law DominateLoops.
-/
import Derived.Test.YtmgfidfcioiedaaMc
namespace Go.Fg.Ytmgfidfcioiedaa
open Go.Fw
set_option linter.unusedVariables false
set_option linter.unusedSimpArgs false
theorem aem {l:List Int} {x:Int} (hl:l.length≤1000000):f13 l x=some (decide (x∈l)):=by
 apply ok_eq
 unfold f13
 refine pR (fun _=>x∉l) ?_ fun _ h=>ay (by rw [decide_eq_false h])
 refine aZ (fun s:Int =>∃i:Nat,s=i∧i≤l.length∧x∉l.take i) (fun s=>l.length-s.toNat) ⟨0,rfl,by omega,by simp⟩ fun s ⟨i,e1,e2,e3⟩ => ?_
 subst e1
 refine goI (fun hc => ?_) (fun hc=>ay ?_)
 rotate_left
 ·have:i=l.length:=by simp at hc;omega
  rw [this,List.take_length] at e3
  exact e3
 have hi:i<l.length:=by simpa using hc
 have hw:bW ((i:Int)+1)=((i+1:Nat):Int):=by rw [aK (by omega)];omega
 refine goC (aA.2 ⟨by omega,by omega⟩) ?_
 have e:l.getD i 0=l[i]:=getD_at _ hi
 simp only [Int.toNat_natCast,e]
 refine goI (fun h=>ay ?_) fun h => ?_
 ·have h:l[i]=x:=by simpa using h
  show true=decide (x∈l)
  rw [decide_eq_true (h▸List.getElem_mem hi)]
 ·have h:¬ l[i]=x:=by simpa using h
  rw [hw]
  refine ay ⟨⟨i+1,rfl,by omega,?_⟩,by simp only [Int.toNat_natCast];omega⟩
  rw [take_snoc hi]
  simp only [List.mem_append,List.mem_singleton,not_or]
  exact ⟨e3,fun e=>h e.symm⟩
theorem aen {L:List Nat} {x:Nat}:((x:Int)∈L.map Int.ofNat)↔x∈L:=by
 rw [List.mem_map]
 exact ⟨fun ⟨y,hy,e⟩=>by have:y=x:=Int.ofNat.inj e;exact this▸hy,fun h=>⟨x,h,rfl⟩⟩
theorem both_ok {f:aO} (hg:Good f) {h g:Nat} (hh:h<f.blocks.length) (hgl:g<f.blocks.length) (hne:h≠g) {L M:List Nat} (pL:L.Pairwise (· < ·)) (pM:M.Pairwise (· < ·)) (mL :∀x,x∈L↔x<f.blocks.length∧NP (Ed f.blocks) h x) (mM :∀x,x∈M↔x<f.blocks.length∧NP (Ed f.blocks) g x) :
  M.countP (fun y=>decide (y∈L))=0∨M.countP (fun y=>decide (y∈L))=M.length∨M.countP (fun y=>decide (y∈L))=L.length:=by
 by_cases h0:M.countP (fun y=>decide (y∈L))=0
 ·exact .inl h0
 right
 obtain ⟨O,out,o1,o2,o3,o4⟩:=Dj hg
 obtain ⟨g1,g2,g3,g4⟩:=hg
 obtain ⟨x,hx,hxL⟩:=List.countP_pos_iff.1 (Nat.pos_of_ne_zero h0)
 have hxL:x∈L:=by simpa using hxL
 obtain ⟨xn,xh⟩:=(mL x).1 hxL
 obtain ⟨_,xg⟩:=(mM x).1 hx
 have ah:=(o4.iff hh xn).2 xh.dom
 have ag:=(o4.iff hgl xn).2 xg.dom
 have hcc:=fun (S:Nat→Prop) h1 h2=>VR g3 g4 S h1 h2
 rcases Nat.le_total ((fun v=>O.idxOf v) h) ((fun v=>O.idxOf v) g) with hr | hr
 ·have hd:=(o4.iff hh hgl).1 (Df o4.T ah xn ag hr)
  have hn:=nest o2.gr hcc hh hgl xn hne hd xh xg
  left
  exact List.countP_eq_length.2 fun y hy=>by
   have:=(mM y).1 hy
   simpa using (mL y).2 ⟨this.1,hn y this.2⟩
 ·have hd:=(o4.iff hgl hh).1 (Df o4.T ag xn ah hr)
  have hn:=nest o2.gr hcc hgl hh xn (fun e=>hne e.symm) hd xg xh
  right
  rw [List.countP_eq_length_filter]
  congr 1
  refine I4 (pM.filter _) pL fun y => ?_
  rw [List.mem_filter]
  constructor
  ·intro hy;simpa using hy.2
  ·intro hy
   have:=(mL y).1 hy
   exact ⟨(mM y).2 ⟨this.1,hn y this.2⟩,by simpa using hy⟩
theorem loops {p0:List Int} (hb:Bytes p0):f4 p0=some true:=by
 apply ok_eq
 unfold f4
 refine vk abj (Ee rfl ?_)
 obtain ⟨c2,h6,e2,hb2⟩:=agT hb (n:=400) (by omega)
 refine vk h6 (goB _ (aeg hb2 (by omega)) fun c3 ⟨hm,hG⟩ => ?_)
 generalize c3.1=fs at hm hG ⊢
 refine pR (fun _=>True) ?_ fun _ _=>ay rfl
 refine aZ (fun s:Int =>∃i:Nat,s=i∧i≤fs.length) (fun s=>fs.length-s.toNat) ⟨0,rfl,by omega⟩ fun s ⟨i,e1,e2⟩ => ?_
 subst e1
 refine goI (fun hi => ?_) (fun hi=>ay trivial)
 have hi:i<fs.length:=by simpa using hi
 have hg:=hG _ (List.getElem_mem hi)
 refine goC (aA.2 ⟨by omega,by omega⟩) ?_
 have e:fs.getD i aC=fs[i]:=getD_at _ hi
 simp only [Int.toNat_natCast,e]
 generalize fs[i]=f at hg
 have hwi:bW ((i:Int)+1)=((i+1:Nat):Int):=by rw [aK (by omega)];omega
 have hl:=hg.1
 refine pR (fun _=>True) ?_ fun _ _=>by rw [hwi];exact ay ⟨⟨i+1,rfl,by omega⟩,by simp only [Int.toNat_natCast];omega⟩
 refine aZ (fun s:Int =>∃h:Nat,s=h∧h≤f.blocks.length) (fun s=>f.blocks.length-s.toNat) ⟨0,rfl,by omega⟩ fun s ⟨h,e1,e3⟩ => ?_
 subst e1
 refine goI (fun hc => ?_) (fun hc=>ay trivial)
 have hh:h<f.blocks.length:=by simpa using hc
 refine goB _ (NG hg hh) fun c11 ⟨L,eL,pL,lL,mL⟩ => ?_
 subst eL
 have hwh:bW ((h:Int)+1)=((h+1:Nat):Int):=by rw [aK (by omega)];omega
 have hlen:(L.map Int.ofNat).length=L.length:=by simp
 have hhas:=fun x:Int=>aem (l:=L.map Int.ofNat) (x:=x) (by omega)
 have hat :∀j,(hj:j<L.length)→(L.map Int.ofNat).getD j 0=(L[j]:Nat):=fun j hj=>by rw [getD_at _ (by simpa using hj)];simp
 have hmm:=fun x:Nat=>aen (L:=L) (x:=x)
 generalize L.map Int.ofNat=Li at hlen hhas hat hmm ⊢
 refine pR (fun _=>True) ?_ fun _ _=>pR (fun _=>True) ?_ fun _ _=>pR (fun _=>True) ?_ fun _ _=>by rw [hwh];exact ay ⟨⟨h+1,rfl,by omega⟩,by simp only [Int.toNat_natCast];omega⟩
 ·-- its head dominates it
  refine jJ Li.length (by omega) (fun j j0 j1=>goT (decide_eq_true j1) (goC (aA.2 ⟨j0,j1⟩) ?_)) (Ee (decide_eq_false (by omega)) (ay trivial))
  have hj:j.toNat<L.length:=by omega
  rw [hat _ hj]
  obtain ⟨m1,m2⟩:=(mL _).1 (List.getElem_mem hj)
  refine goB _ (Bl hg hh m1) fun y hy=>Ee ?_ (ay rfl)
  rw [hy.2 m2.dom];rfl
 ·-- it is entered through its head
  refine jJ f.blocks.length (by omega) (fun b b0 b1=>goT (decide_eq_true b1) (goC (aA.2 ⟨b0,b1⟩) ?_)) (Ee (decide_eq_false (by omega)) (ay trivial))
  obtain ⟨c,rfl⟩ :∃c:Nat,b=c:=⟨b.toNat,by omega⟩
  have hc:c<f.blocks.length:=by omega
  simp only [Int.toNat_natCast]
  refine vk (IW _ _ _ _) ?_
  have hsd:succs (f.blocks.getD c aj).aU (f.blocks.getD c aj).dQ (f.blocks.getD c aj).bC=dW f.blocks c:=rfl
  rw [hsd]
  have hin:=xw hg.2.2.1 hc
  have hl2:(dW f.blocks c).length≤2:=by unfold dW succs;(repeat' split)<;>simp
  refine pR (fun _=>True) ?_ fun _ _=>ay rfl
  refine jJ (dW f.blocks c).length (by omega) (fun j j0 j1=>goT (decide_eq_true j1) ?_) (Ee (decide_eq_false (by omega)) (ay trivial))
  have hmem:=jD 0 j0 j1
  refine goB (fun s=>s=false) ?_ fun s e=>by subst e;exact Ee rfl (ay rfl)
  refine vk (hhas _) (goI (fun h1=>goC (aA.2 ⟨j0,j1⟩) ?_) fun _=>ay rfl)
  generalize (dW f.blocks c).getD j.toNat 0=x at hmem
  have hr:=hin x hmem
  obtain ⟨d,rfl⟩ :∃d:Nat,x=d:=⟨x.toNat,by omega⟩
  refine vk (hhas _) (goI (fun h2=>goC (aA.2 ⟨j0,j1⟩) (ay ?_)) fun _=>ay rfl)
  have hnc:c∉L:=fun hh=>by rw [decide_eq_true ((hmm c).2 hh)] at h1;cases h1
  have hdL:d∈L:=(hmm d).1 (of_decide_eq_true h2)
  have hdn:=(mL d).1 hdL
  have:d=h:=Classical.byContradiction fun hne=>hnc ((mL c).2 ⟨hc,hdn.2.pred ⟨hc,hmem⟩ hne⟩)
  subst this
  simp
 ·-- two loops
  refine jJ h (by omega) (fun g g0 g1=>goT (decide_eq_true g1) ?_) (Ee (decide_eq_false (by omega)) (ay trivial))
  obtain ⟨k,rfl⟩ :∃k:Nat,g=k:=⟨g.toNat,by omega⟩
  have hk:k<f.blocks.length:=by omega
  refine goB _ (NG hg hk) fun TD ⟨M,eM,pM,lM,mM⟩ => ?_
  subst eM
  have hb:=both_ok hg hh hk (by omega) pL pM mL mM
  have hcl:=List.countP_le_length (p:=fun y=>decide (y∈L)) (l:=M)
  refine goB (fun y=>y=(M.countP (fun y=>decide (y∈L)):Nat)) ?_ fun y ey=>goB (fun s=>s=false) ?_ fun s es=>by subst es;exact Ee rfl (ay rfl)
  ·refine aZ (fun s:Int×Int =>∃j:Nat,s.2=j∧j≤M.length∧s.1=((M.take j).countP (fun y=>decide (y∈L)):Nat)) (fun s=>M.length-s.2.toNat) ⟨0,rfl,by omega,rfl⟩ fun ⟨n,j'⟩ ⟨j,q1,q2,q3⟩ => ?_
   simp only at q1 q3
   subst q1;subst q3
   have hMl:(M.map Int.ofNat).length=M.length:=by simp
   refine goI (fun hc => ?_) (fun hc=>ay ?_)
   rotate_left
   ·have:j=M.length:=by simp at hc;omega
    show ((List.countP (fun y=>decide (y∈L)) (M.take j):Nat):Int)=_
    rw [this,List.take_length]
   have hj:j<M.length:=by simpa using hc
   have hcj:=List.countP_le_length (p:=fun y=>decide (y∈L)) (l:=M.take j)
   rw [List.length_take] at hcj
   have hMa:(M.map Int.ofNat).getD j 0=(M[j]:Nat):=by rw [getD_at _ (by simpa using hj)];simp
   refine goC (aA.2 ⟨by simp only;omega,by simp only;omega⟩) ?_
   simp only [Int.toNat_natCast,hMa]
   have hwj:bW ((j:Int)+1)=((j+1:Nat):Int):=by rw [aK (by omega)];omega
   refine vk (hhas _) (goB (fun y=>y=((M.take (j+1)).countP (fun y=>decide (y∈L)):Nat)) ?_ fun y ey=>by
    rw [hwj]
    exact ay ⟨⟨j+1,rfl,by omega,ey⟩,by simp only [Int.toNat_natCast];omega⟩)
   rw [take_snoc hj,List.countP_append,List.countP_singleton,show decide (((M[j]:Nat):Int)∈Li)=decide (M[j]∈L) from decide_eq_decide.2 (hmm _)]
   refine goI (fun h=>ay ?_) fun h=>ay ?_
   ·rw [h,aK (by omega)];simp
   ·rw [h];simp
  ·subst ey
   refine goI (fun h1=>goI (fun h2=>ay ?_) fun _=>ay rfl) fun _=>ay rfl
   have h1:0<M.countP (fun y=>decide (y∈L)):=by simpa using h1
   have h2:M.countP (fun y=>decide (y∈L))<L.length:=by simp only [decide_eq_true_eq] at h2;omega
   refine decide_eq_false ?_
   simp only [List.length_map]
   omega
end Go.Fg.Ytmgfidfcioiedaa

