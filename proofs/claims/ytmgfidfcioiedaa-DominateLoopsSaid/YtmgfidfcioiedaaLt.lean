/-
  Chapter 11, plain: the check of a program, and what passes it.
-/
import Derived.Test.YtmgfidfcioiedaaLs
namespace Go.Fg.Ytmgfidfcioiedaa
open Go.Fw
set_option linter.unusedVariables false
set_option linter.unusedSimpArgs false
section
variable {g:List aJ} {fs:List aO}
theorem aee {k o d a b v:Int} {ar:List Int} (h:ar.length≤10):Ok (f87 k o d a b v ar) fun y=>y.length≤11:=by
 unfold f87
 refine goB (fun _=>True) ?_ fun s _=>goI (fun _=>ay (by simp)) fun _=>goB (fun _=>True) ?_ fun s _=>goI (fun _=>ay (by simp)) fun _=>goI (fun _=>goC (by unfold bG;simp;omega) (ay (by simp;omega))) fun _=>goI (fun _=>goC (by unfold bG;simp;omega) (ay (by simp;omega))) fun _=>ay (by simp)
 all_goals repeat' first | exact ay trivial | refine goI (fun _ => ?_) (fun _ => ?_) | refine goB (fun _=>True) ?_ (fun _ _ => ?_)
theorem agZ {k o d a b v:Int} {ar:List Int}:Ok (f88 k o d a b v ar) fun _=>True:=by
 unfold f88
 repeat' first | exact ay trivial | refine goI (fun _ => ?_) (fun _ => ?_) | refine goB (fun _=>True) ?_ (fun _ _ => ?_)
theorem KP {a b v:Int} {p:Bool}:Ok (f89 g fs a b v p) fun _=>True:=by
 unfold f89
 refine goB (fun _=>True) (goI (fun h0=>goI (fun h1=>goC (aA.2 ⟨by simpa using h0,by simpa using h1⟩) (ay trivial)) fun _=>ay trivial) fun _=>ay trivial) fun _ _=>ay trivial
theorem abb {n:Nat} {v:Int} {x:Option Bool} (h:x=(bif decide (v<0) then some true else some (decide ((n:Int)≤v)))):Ok x fun s=>s=false→0≤v∧v<n:=by
 subst h
 refine goI (fun _=>ay fun e=>by cases e) fun h=>ay fun e => ?_
 simp only [decide_eq_false_iff_not] at h e
 omega
theorem instrC_ok {a b:Int} {nm:List UInt8} {pa re:Int} {bl:List aH} {k o d x y v:Int} {ar:List Int} (h:ar.length≤10):Ok (f72 g fs a b nm pa re bl k o d x y v ar) fun _=>True:=by
 unfold f72
 refine goB (fun _=>True) ?_ fun qK _=>goI (fun _=>ay trivial) fun _=>goB _ (aee h) fun c39 h39=>goB _ agZ fun c40 _=>goB (fun y=>y.length≤12) ?_ fun s43 h43 => ?_
 ·repeat' first | exact ay trivial | refine goI (fun _ => ?_) (fun _ => ?_) | refine goB (fun _=>True) ?_ (fun _ _ => ?_)
 ·exact goI (fun _=>goC (by unfold bG;simp;omega) (ay (by simp;omega))) fun _=>ay (by omega)
 refine pR (fun _=>True) (jJ s43.length (by omega) (fun i h0 h1=>goT (decide_eq_true h1) (goB (fun _=>True) (goC (aA.2 ⟨h0,h1⟩) (goI (fun _=>ay trivial) fun _=>goC (aA.2 ⟨h0,h1⟩) (ay trivial))) fun _ _=>goI (fun _=>ay trivial) fun _=>ay rfl)) (Ee (decide_eq_false (by omega)) (ay trivial))) fun _ _ => ?_
 refine goB (fun _=>True) (goI (fun _=>ay trivial) fun _=>ay trivial) fun s57 _=>pR (fun _=>True) ?_ fun _ _=>ay trivial
 refine goI (fun _=>goB _ KP fun _ _=>goI (fun _=>ay trivial) fun _=>ay trivial) fun _=>goB (fun _=>True) (goI (fun _=>ay trivial) fun _=>ay trivial) fun s62 _=>pR (fun _=>True) ?_ fun _ _=>ay trivial
 refine goI (fun _=>goB _ KP fun _ _=>goI (fun _=>ay trivial) fun _=>ay trivial) fun _=>pR (fun _=>True) ?_ fun _ _=>ay trivial
 refine goI (fun _=>goB _ (abb (n:=fs.length) (v:=v) rfl) fun s70 h70=>goI (fun _=>ay trivial) fun hs=>goC (aA.2 (h70 hs)) (goI (fun _=>ay trivial) fun _=>ay trivial)) fun _=>pR (fun _=>True) ?_ fun _ _=>ay trivial
 refine goI (fun _=>goI (fun _=>ay trivial) fun _=>ay trivial) fun _=>pR (fun _=>True) ?_ fun _ _=>ay trivial
 refine goI (fun _=>goB (fun _=>True) (goI (fun _=>ay trivial) fun _=>ay trivial) fun _ _=>goI (fun _=>ay trivial) fun _=>ay trivial) fun _=>pR (fun _=>True) ?_ fun _ _=>ay trivial
 exact goI (fun _=>goB (fun _=>True) (goI (fun _=>ay trivial) fun _=>ay trivial) fun _ _=>goI (fun _=>ay trivial) fun _=>ay trivial) fun _=>ay trivial
theorem aef {nm:List UInt8} {pa re:Int} {bl:List aH} {k a t e:Int}:Ok (f73 nm pa re bl k a t e) fun y=>y=0→(k=1∨k=2∨k=3)∧∀x∈succs k t e,0≤x∧x<bl.length:=by
 unfold f73
 refine goB (fun s=>s=false→k=1∨k=2∨k=3) (goI (fun _=>ay fun e=>by cases e) fun h=>ay fun e => ?_) fun s3 h3=>goI (fun _=>ay fun e=>by cases e) fun hs=>goB (fun _=>True) ?_ fun s10 _=>goI (fun _=>ay fun e=>by cases e) fun _=>vk (IW k a t e) ?_
 ·simp only [decide_eq_false_iff_not] at h e;omega
 ·exact goI (fun _=>goI (fun _=>ay trivial) fun _=>ay trivial) fun _=>ay trivial
 have h3:=h3 hs
 have hl:(succs k t e).length≤2:=by
  unfold succs;split
  ·simp
  ·split<;>simp
 generalize succs k t e=l at hl
 refine pR (fun _ =>∀x∈l,0≤x∧x<bl.length) ?_ fun _ h=>ay fun _=>⟨h3,h⟩
 refine aZ (fun i:Int=>(0≤i∧i≤l.length)∧∀x∈l.take i.toNat,0≤x∧x<bl.length) (fun i=>(l.length-i).toNat) ⟨⟨by simp,by omega⟩,by simp⟩ fun i ⟨⟨h0,h1⟩,h2⟩ => ?_
 refine goI (fun hi => ?_) (fun hi=>ay ?_)
 rotate_left
 ·have:i.toNat=l.length:=by simp at hi;omega
  rw [this,List.take_length] at h2
  exact h2
 have hi:i<l.length:=by simpa using hi
 have hin:=aA.2 ⟨h0,hi⟩
 refine goB (fun s=>s=false→0≤l.getD i.toNat 0∧l.getD i.toNat 0<bl.length) ?_ fun s hs=>goI (fun _=>ay fun e=>by cases e) fun e=>ay ?_
 ·refine goC hin (goI (fun _=>ay fun e=>by cases e) fun h=>goC hin (ay fun e => ?_))
  simp only [decide_eq_false_iff_not] at h e;omega
 ·have hs:=hs e
  refine ⟨⟨⟨?_,?_⟩,?_⟩,?_⟩
  all_goals rw [aK (by omega)]
  ·omega
  ·omega
  ·intro x hx
   rw [show (i+1).toNat=i.toNat+1 by omega,take_snoc (by omega)] at hx
   rcases List.mem_append.1 hx with hx | hx
   ·exact h2 x hx
   ·rw [List.mem_singleton] at hx
    rw [getD_at _ (by omega:i.toNat<l.length)] at hs
    rw [hx];exact hs
  ·omega
theorem XO {nm:List UInt8} {pa re:Int} {bl:List aH} (h:bl.length≤1000000):Ok (f71 nm pa re bl) fun _=>True:=by
 unfold f71
 refine goB (fun _=>True) ?_ fun _ _=>ay trivial
 refine aZ (fun s:Int×Int=>0≤s.2∧s.2≤bl.length) (fun s=>(bl.length-s.2).toNat) ⟨by simp,by simp⟩ fun ⟨n,i⟩ ⟨h0,h1⟩ => ?_
 simp only at h0 h1
 refine goI (fun hi => ?_) (fun hi=>ay trivial)
 have hi:i<bl.length:=by simpa using hi
 refine goC (aA.2 ⟨h0,hi⟩) (ay ⟨⟨?_,?_⟩,?_⟩)
 all_goals simp only;rw [aK (by omega)];omega
theorem QD {a b:Int} {nm:List UInt8} {pa re:Int} {bl:List aH} {k:Nat} (hk:k≤1000000000) (h :∀b∈bl,b.instrs.length≤k∧∀i∈b.instrs,i.args.length≤10):Ok (f48 g fs a b nm pa re bl) fun y=>y=0→bl.length≤1000∧0<bl.length∧mJ bl∧TJ bl:=by
 unfold f48
 refine goB (fun s=>s=false→0<bl.length∧bl.length≤256) (goI (fun _=>ay fun e=>by cases e) fun h0=>goI (fun _=>ay fun e=>by cases e) fun h1 => ?_) fun s8 h8=>goI (fun _=>ay fun e=>by cases e) fun hs => ?_
 ·simp only [decide_eq_false_iff_not] at h0 h1
  exact goB _ (XO (by omega)) fun _ _=>ay fun _=>⟨by omega,by omega⟩
 obtain ⟨l0,l1⟩:=h8 hs
 refine goB (fun _=>True) ?_ fun s16 _=>goI (fun _=>ay fun e=>by cases e) fun _ => ?_
 ·repeat' first | exact ay trivial | refine goI (fun _ => ?_) (fun _ => ?_)
 refine pR (fun _=>mJ bl) ?_ fun _ hE => ?_
 ·refine aZ (fun i:Int=>(0≤i∧i≤bl.length)∧∀b:Nat,(b:Int)<i→((bl.getD b aj).aU=1∨(bl.getD b aj).aU=2∨(bl.getD b aj).aU=3)∧∀x∈dW bl b,0≤x∧x<bl.length) (fun i=>(bl.length-i).toNat) ⟨⟨by simp,by omega⟩,fun b hb=>by omega⟩ fun i ⟨⟨h0,h1⟩,h2⟩ => ?_
  refine goI (fun hi => ?_) (fun hi=>ay ?_)
  rotate_left
  ·have hi:i=bl.length:=by simp at hi;omega
   subst hi
   refine ⟨fun b hb=>⟨fun hn => ?_,fun hn => ?_⟩,fun b hb=>(h2 b (by omega)).1⟩
   ·have:=h2 b (by omega)
    exact this.2 _ (Bj.1 (by omega))
   ·exact (h2 b (by omega)).2 _ (Bj.2 hn)
  have hi:i<bl.length:=by simpa using hi
  have hin:=aA.2 ⟨h0,hi⟩
  obtain ⟨hb1,hb2⟩:=h _ (jD aj h0 hi)
  refine pR (fun _=>True) ?_ fun _ _=>goC hin (goB _ aef fun c31 h31=>goI (fun hc=>ay fun e => ?_) fun hc=>ay ?_)
  ·refine jJ _ (by omega) (fun j j0 j1=>goC hin (goT (decide_eq_true j1) (goC hin (goC (aA.2 ⟨j0,j1⟩) (goB _ (instrC_ok (hb2 _ (jD (fB.mk 0 0 0 0 0 0 eInt) j0 j1))) fun QK _=>goI (fun hc=>ay fun e => ?_) fun _=>ay rfl))))) (goC hin (Ee (decide_eq_false (by omega)) (ay trivial)))
   rw [e] at hc;simp at hc
  ·rw [e] at hc;simp at hc
  ·have h31:=h31 (by simpa using hc)
   have hw:bW (i+1)=i+1:=aK (by omega)
   refine ⟨⟨⟨by omega,by omega⟩,fun b hb => ?_⟩,by omega⟩
   by_cases e:(b:Int)<i
   ·exact h2 b e
   ·have e:i.toNat=b:=by omega
    rw [e] at h31
    exact h31
 refine goB _ (Qq hE l0 (by omega)) fun m ⟨hM,_⟩ => ?_
 have hml:=hM.len
 refine pR (fun _ =>∀b,b<bl.length→m.getD b false=true) ?_ fun _ hm=>ay fun _=>⟨by omega,l0,hE,fun S s0 hS b hb=>hM.all S s0 (fun b hb sb x hx => ?_) b hb (hm b hb)⟩
 ·refine aZ (fun i:Int=>(0≤i∧i≤m.length)∧∀b:Nat,(b:Int)<i→m.getD b false=true) (fun i=>(m.length-i).toNat) ⟨⟨by simp,by omega⟩,fun b hb=>by omega⟩ fun i ⟨⟨h0,h1⟩,h2⟩ => ?_
  refine goI (fun hi => ?_) (fun hi=>ay ?_)
  rotate_left
  ·have hi:i=m.length:=by simp at hi;omega
   exact fun b hb=>h2 b (by omega)
  have hi:i<m.length:=by simpa using hi
  refine goC (aA.2 ⟨h0,hi⟩) (goI (fun _=>ay fun e=>by cases e) fun hc=>ay ?_)
  have hw:bW (i+1)=i+1:=aK (by omega)
  refine ⟨⟨⟨by omega,by omega⟩,fun b hb => ?_⟩,by omega⟩
  by_cases e:(b:Int)<i
  ·exact h2 b e
  ·have e:i.toNat=b:=by omega
   rw [e] at hc;simpa using hc
 ·obtain ⟨q1,q2⟩:=hS b hb sb
  have h3:=hE.2 b hb
  unfold dW succs at hx
  split at hx
  ·rename_i h
   rcases List.mem_cons.1 hx with hx | hx
   ·rw [hx];exact q1 (by omega)
   ·rw [List.mem_singleton] at hx;rw [hx];exact q2 h.1
  ·split at hx
   ·rw [List.mem_singleton] at hx;rw [hx];exact q1 (by omega)
   ·cases hx
theorem abd {a b:Int} {k:Nat} (hk:k≤1000000000) (hg:g.length≤1000000) (h :∀f∈fs,∀b∈f.blocks,b.instrs.length≤k∧∀i∈b.instrs,i.args.length≤10):Ok (f40 g fs a b) fun y=>y=0→fs.length≤1000∧∀f∈fs,Good f:=by
 unfold f40
 refine goB (fun s=>s=false→0<fs.length∧fs.length≤64) (goI (fun _=>ay fun e=>by cases e) fun h0=>goI (fun _=>ay fun e=>by cases e) fun h1 => ?_) fun s12 h12=>goI (fun _=>ay fun e=>by cases e) fun hs => ?_
 ·simp only [decide_eq_false_iff_not] at h0 h1
  have hl:0<fs.length∧fs.length≤64:=⟨by omega,by omega⟩
  exact goI (fun _=>ay fun e=>by cases e) fun _=>goI (fun _=>ay fun e=>by cases e) fun _=>ay fun _=>hl
 obtain ⟨l0,l1⟩:=h12 hs
 refine pR (fun _=>True) (jJ g.length (by omega) (fun i h0 h1=>goT (decide_eq_true h1) (goB (fun _=>True) (goC (aA.2 ⟨h0,h1⟩) (goI (fun _=>ay trivial) fun _=>goC (aA.2 ⟨h0,h1⟩) (ay trivial))) fun _ _=>goI (fun _=>ay fun e=>by cases e) fun _=>ay rfl)) (Ee (decide_eq_false (by omega)) (ay trivial))) fun _ _ => ?_
 refine goB (fun _=>True) (goI (fun _=>ay trivial) fun _=>ay trivial) fun C_ _=>goI (fun _=>ay fun e=>by cases e) fun _=>goC (aA.2 ⟨by omega,by omega⟩) (goI (fun _=>ay fun e=>by cases e) fun _ => ?_)
 refine pR (fun _ =>∀f∈fs,Good f) ?_ fun _ h=>ay fun _=>⟨by omega,h⟩
 refine aZ (fun i:Int=>(0≤i∧i≤fs.length)∧∀f∈fs.take i.toNat,Good f) (fun i=>(fs.length-i).toNat) ⟨⟨by simp,by omega⟩,by simp⟩ fun i ⟨⟨h0,h1⟩,h2⟩ => ?_
 refine goI (fun hi => ?_) (fun hi=>ay ?_)
 rotate_left
 ·have:i.toNat=fs.length:=by simp at hi;omega
  rw [this,List.take_length] at h2
  exact h2
 have hi:i<fs.length:=by simpa using hi
 have hm:=jD aC h0 hi
 refine goC (aA.2 ⟨h0,hi⟩) (goB _ (QD hk (h _ hm)) fun Dc h35=>goI (fun hc=>ay fun e => ?_) fun hc=>ay ?_)
 ·rw [e] at hc;simp at hc
 have h35:=h35 (by simpa using hc)
 have hw:bW (i+1)=i+1:=aK (by omega)
 refine ⟨⟨⟨by omega,by omega⟩,fun f hf => ?_⟩,by omega⟩
 rw [hw,show (i+1).toNat=i.toNat+1 by omega,take_snoc (by omega)] at hf
 rcases List.mem_append.1 hf with hf | hf
 ·exact h2 f hf
 ·rw [List.mem_singleton,←getD_at aC (by omega:i.toNat<fs.length)] at hf
  rw [hf];exact h35
end
end Go.Fg.Ytmgfidfcioiedaa

