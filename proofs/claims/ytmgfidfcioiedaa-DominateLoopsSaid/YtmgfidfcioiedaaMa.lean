/-
  Chapter 11, plain: which blocks dominate which; back edges.
-/
import Derived.Test.YtmgfidfcioiedaaLy
namespace Go.Fg.Ytmgfidfcioiedaa
open Go.Fw
set_option linter.unusedVariables false
set_option linter.unusedSimpArgs false
theorem QH {n:Nat} {E:Nat→Nat→Prop} {rk:Nat→Nat} {out:List Int} (hG:Gr n E rk) (hI:Idm n E rk out) {a b:Nat} (ha:a<n) (hb:b<n):Ok (f23 out a b) fun y=>y=true↔Dom E a b:=by
 unfold f23
 have hT:=hI.T
 have hol:=hT.len
 refine goB (fun y:Int=>0≤y↔Dom E a b) ?_ fun y hy=>ay (by rw [decide_eq_true_eq];exact hy)
 refine aZ (fun s:Int=>(s=-1∧¬ iR out a b)∨∃c:Nat,s=c∧c<n∧(iR out a b↔iR out a c)) (fun s=>if 0≤s then rk s.toNat+1 else 0) (.inr ⟨b,rfl,hb,Iff.rfl⟩) fun s hs => ?_
 rcases hs with ⟨e,hn⟩ | ⟨c,e,hc,hi⟩
 ·subst e
  refine goB (fun s=>s=false) (Ee (by decide) (ay rfl)) fun s e => ?_
  subst e
  exact Ee rfl (ay ⟨fun h=>absurd h (by omega),fun h=>absurd ((hI.iff ha hb).2 h) hn⟩)
 subst e
 refine goB (fun s=>s=!(decide (a=c))) (goT (by simp) (ay (by rw [show decide ((a:Int)=(c:Int))=decide (a=c) from decide_eq_decide.2 (by omega)]))) fun s e => ?_
 subst e
 refine goI (fun hne => ?_) fun heq=>ay ?_
 ·have hne:a≠c:=by simpa using hne
  refine goC (aA.2 ⟨by omega,by omega⟩) ?_
  simp only [Int.toNat_natCast,QG (show c<out.length by omega)]
  refine ay ⟨?_,?_⟩
  ·by_cases hu:0≤up out c
   ·obtain ⟨v1,v2,v3⟩:=hT.val hc hu
    refine .inr ⟨(up out c).toNat,by omega,v1,hi.trans ⟨fun h=>Di h hne,fun h=>.up hu h⟩⟩
   ·have:=hT.low hc
    refine .inl ⟨by omega,fun h => ?_⟩
    have:=hi.1 h
    cases this with
    |refl=>exact hne rfl
    |up h0 _=>exact hu h0
  ·rw [if_pos (by omega:(0:Int)≤(c:Int))]
   split
   ·rename_i hu
    obtain ⟨v1,v2,v3⟩:=hT.val hc hu
    omega
   ·omega
 ·have heq:a=c:=by simpa using heq
  subst heq
  exact ⟨fun _=>(hI.iff ha hb).1 (hi.2 .refl),fun _=>by omega⟩
theorem Dj {f:aO} (hg:Good f) :∃(O:List Nat) (out:List Int),f14 f.name f.params f.regs f.blocks=some (O.map Int.ofNat)∧Od f.blocks.length (Ed f.blocks) O∧f9 f.name f.params f.regs f.blocks=some out∧Idm f.blocks.length (Ed f.blocks) (fun v=>O.idxOf v) out:=by
 obtain ⟨h1,h2,h3,h4⟩:=hg
 obtain ⟨O,e1,e2⟩:=abg (nm:=f.name) (pa:=f.params) (re:=f.regs) h1 h2 h3 h4
 obtain ⟨out,e3,e4⟩:=aek h1 h2 h3 e1 e2
 exact ⟨O,out,e1,e2,e3,e4⟩
theorem Bl {f:aO} (hg:Good f) {a b:Nat} (ha:a<f.blocks.length) (hb:b<f.blocks.length):Ok (f12 f.name f.params f.regs f.blocks a b) fun y=>y=true↔Dom (Ed f.blocks) a b:=by
 obtain ⟨O,out,e1,e2,e3,e4⟩:=Dj hg
 unfold f12
 refine goB (fun y=>y=true↔Dom (Ed f.blocks) a b) (goT (decide_eq_true (by omega)) (goT (decide_eq_true (by omega)) (goT (decide_eq_true (by omega)) (goT (decide_eq_true (by omega)) (vk e3 (goB _ (QH e2.gr e4 ha hb) fun y hy=>ay hy)))))) fun y hy=>ay hy
theorem ag1 {l:List Int} (h:l.length≤1000000):Xt l=some (l.mergeSort fun x y=>decide (x≤y)):=by
 unfold Xt
 have:decide (l.length<4611686018427387904)=true:=decide_eq_true (by omega)
 rw [this]
theorem abh {f:aO} (hg:Good f):Ok (f22 f.name f.params f.regs f.blocks) fun y=>(∀e∈y,∃u v:Nat,e=gK.mk u v∧Ed f.blocks u v∧Dom (Ed f.blocks) v u)∧(∀u v:Nat,Ed f.blocks u v→Dom (Ed f.blocks) v u→gK.mk u v∈y)∧y.length≤2000:=by
 obtain ⟨O,out,e1,e2,e3,e4⟩:=Dj hg
 obtain ⟨hl,h0,hE,hC⟩:=hg
 unfold f22
 generalize f.blocks=bs at *
 refine vk e3 ?_
 refine goB (fun y=>(∀e∈y,∃u v:Nat,e=gK.mk u v∧Ed bs u v∧Dom (Ed bs) v u)∧(∀u v:Nat,Ed bs u v→Dom (Ed bs) v u→gK.mk u v∈y)∧y.length≤2000) ?_ fun y hy=>ay hy
 refine aZ (fun s:Int×List gK =>∃i:Nat,s.1=i∧i≤bs.length∧(∀e∈s.2,∃u v:Nat,e=gK.mk u v∧Ed bs u v∧Dom (Ed bs) v u)∧(∀u v:Nat,u<i→Ed bs u v→Dom (Ed bs) v u→gK.mk u v∈s.2)∧s.2.length≤2*i) (fun s=>bs.length-s.1.toNat)
  ⟨0,rfl,by omega,by simp,fun u v h=>absurd h (Nat.not_lt_zero _),by simp⟩ fun ⟨i',acc⟩ ⟨i,q1,q2,q3,q4,q5⟩ => ?_
 simp only at q1 q3 q4 q5
 subst q1
 refine goI (fun hc => ?_) (fun hc=>ay ?_)
 rotate_left
 ·have:i=bs.length:=by simp at hc;omega
  exact ⟨q3,fun u v he hd=>q4 u v (by have:=he.1;omega) he hd,by simp only;omega⟩
 have hi:i<bs.length:=by simpa using hc
 refine goC (aA.2 ⟨by simp only;omega,by simp only;omega⟩) ?_
 simp only [Int.toNat_natCast]
 refine vk (IY _ _ _ _) ?_
 have hsd:succs (bs.getD i aj).aU (bs.getD i aj).dQ (bs.getD i aj).bC=dW bs i:=rfl
 rw [hsd]
 have hl2:(dW bs i).length≤2:=by unfold dW succs;(repeat' split)<;>simp
 refine vk (ag1 (by omega)) ?_
 have hmem :∀x,x∈((dW bs i).mergeSort fun x y=>decide (x≤y))↔x∈dW bs i:=fun x=>List.mem_mergeSort
 have hlen:((dW bs i).mergeSort fun x y=>decide (x≤y)).length=(dW bs i).length:=List.length_mergeSort _
 generalize ((dW bs i).mergeSort fun x y=>decide (x≤y))=l at hmem hlen
 have hin:=xw hE hi
 have hw:bW ((i:Int)+1)=((i+1:Nat):Int):=by rw [aK (by omega)];omega
 refine goB (fun y=>(∀e∈y,∃u v:Nat,e=gK.mk u v∧Ed bs u v∧Dom (Ed bs) v u)∧(∀u v:Nat,u<i+1→Ed bs u v→Dom (Ed bs) v u→gK.mk u v∈y)∧y.length≤2*(i+1)) ?_ fun y ⟨y1,y2,y3⟩=>by
  rw [hw]
  exact ay ⟨⟨i+1,rfl,by omega,y1,y2,y3⟩,by simp only [Int.toNat_natCast];omega⟩
 refine aZ (fun s:Int×List gK =>∃j:Nat,s.1=j∧j≤l.length∧(∀e∈s.2,∃u v:Nat,e=gK.mk u v∧Ed bs u v∧Dom (Ed bs) v u)∧(∀u v:Nat,u<i→Ed bs u v→Dom (Ed bs) v u→gK.mk u v∈s.2)∧(∀v:Nat,(v:Int)∈l.take j→Dom (Ed bs) v i→gK.mk i v∈s.2)∧s.2.length≤2*i+j) (fun s=>l.length-s.1.toNat)
  ⟨0,rfl,by omega,q3,q4,by simp,by simp only;omega⟩ fun ⟨j',acc⟩ ⟨j,r1,r2,r3,r4,r5,r6⟩ => ?_
 simp only at r1 r3 r4 r5 r6
 subst r1
 refine goI (fun hc => ?_) (fun hc=>ay ?_)
 rotate_left
 ·have:j=l.length:=by simp at hc;omega
  rw [this,List.take_length] at r5
  refine ⟨r3,fun u v hu he hd => ?_,by simp only;omega⟩
  by_cases eu:u=i
  ·subst eu;exact r5 v ((hmem _).2 he.2) hd
  ·exact r4 u v (by omega) he hd
 have hj:j<l.length:=by simpa using hc
 refine goC (aA.2 ⟨by simp only;omega,by simp only;omega⟩) ?_
 have e:l.getD j 0=l[j]:=getD_at _ hj
 simp only [Int.toNat_natCast,e]
 have hlm:=(hmem _).1 (List.getElem_mem hj)
 have hr:=hin _ hlm
 obtain ⟨c,hc⟩ :∃c:Nat,l[j]=c:=⟨(l[j]).toNat,by omega⟩
 rw [hc] at hr hlm ⊢
 have hcn:c<bs.length:=by omega
 have hed:Ed bs i c:=⟨hi,hlm⟩
 have hw:bW ((j:Int)+1)=((j+1:Nat):Int):=by rw [aK (by omega)];omega
 refine goB _ (QH e2.gr e4 hcn hi) fun d hd => ?_
 refine goB (fun y=>(∀e∈y,∃u v:Nat,e=gK.mk u v∧Ed bs u v∧Dom (Ed bs) v u)∧(∀e∈acc,e∈y)∧(Dom (Ed bs) c i→gK.mk i c∈y)∧y.length≤acc.length+1) ?_ fun y ⟨y1,y2,y3,y4⟩ => ?_
 ·refine goI (fun h=>goC (by unfold bG;simp;omega) (ay ⟨fun e he => ?_,fun e he=>List.mem_append_left _ he,fun _=>by simp,by simp⟩)) fun h=>ay ⟨r3,fun e he=>he,fun hh=>absurd (hd.2 hh) (by rw [h];simp),by omega⟩
  rcases List.mem_append.1 he with he | he
  ·exact r3 e he
  ·rw [List.mem_singleton] at he;subst he
   exact ⟨i,c,rfl,hed,hd.1 h⟩
 rw [hw]
 refine ay ⟨⟨j+1,rfl,by omega,y1,fun u v hu he hd=>y2 _ (r4 u v hu he hd),fun v hv hdv => ?_,by simp only;omega⟩,by simp only [Int.toNat_natCast];omega⟩
 rw [take_snoc hj,hc] at hv
 rcases List.mem_append.1 hv with hv | hv
 ·exact y2 _ (r5 v hv hdv)
 ·rw [List.mem_singleton] at hv
  have:v=c:=by omega
  subst this
  exact y3 hdv
end Go.Fg.Ytmgfidfcioiedaa

