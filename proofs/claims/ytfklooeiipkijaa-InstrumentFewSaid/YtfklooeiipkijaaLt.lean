/-
  Chapter 21, plain: the check of a program, and what passes it.
-/
import Derived.Test.YtfklooeiipkijaaLs
namespace Go.Fg.Ytfklooeiipkijaa
open Go.Fw
set_option linter.unusedVariables false
set_option linter.unusedSimpArgs false
section
variable {g:List ah} {fs:List aH}
theorem adF {k o d a b v:Int} {ar:List Int} (h:ar.length≤10):Ok (f75 k o d a b v ar) fun y=>y.length≤11:=by
 unfold f75
 refine goB (fun _=>True) ?_ fun s _=>goI (fun _=>aC (by simp)) fun _=>goB (fun _=>True) ?_ fun s _=>goI (fun _=>aC (by simp)) fun _=>goI (fun _=>goC (by unfold bF;simp;omega) (aC (by simp;omega))) fun _=>goI (fun _=>goC (by unfold bF;simp;omega) (aC (by simp;omega))) fun _=>aC (by simp)
 all_goals repeat' first | exact aC trivial | refine goI (fun _ => ?_) (fun _ => ?_) | refine goB (fun _=>True) ?_ (fun _ _ => ?_)
theorem agb {k o d a b v:Int} {ar:List Int}:Ok (f76 k o d a b v ar) fun _=>True:=by
 unfold f76
 repeat' first | exact aC trivial | refine goI (fun _ => ?_) (fun _ => ?_) | refine goB (fun _=>True) ?_ (fun _ _ => ?_)
theorem J9 {a b v:Int} {p:Bool}:Ok (f77 g fs a b v p) fun _=>True:=by
 unfold f77
 refine goB (fun _=>True) (goI (fun h0=>goI (fun h1=>goC (aG.2 ⟨by simpa using h0,by simpa using h1⟩) (aC trivial)) fun _=>aC trivial) fun _=>aC trivial) fun _ _=>aC trivial
theorem aat {n:Nat} {v:Int} {x:Option Bool} (h:x=(bif decide (v<0) then some true else some (decide ((n:Int)≤v)))):Ok x fun s=>s=false→0≤v∧v<n:=by
 subst h
 refine goI (fun _=>aC fun e=>by cases e) fun h=>aC fun e => ?_
 simp only [decide_eq_false_iff_not] at h e
 omega
theorem instrC_ok {a b:Int} {nm:List UInt8} {pa re:Int} {bl:List ak} {k o d x y v:Int} {ar:List Int} (h:ar.length≤10):Ok (f66 g fs a b nm pa re bl k o d x y v ar) fun _=>True:=by
 unfold f66
 refine goB (fun _=>True) ?_ fun pR _=>goI (fun _=>aC trivial) fun _=>goB _ (adF h) fun c39 h39=>goB _ agb fun c40 _=>goB (fun y=>y.length≤12) ?_ fun s43 h43 => ?_
 ·repeat' first | exact aC trivial | refine goI (fun _ => ?_) (fun _ => ?_) | refine goB (fun _=>True) ?_ (fun _ _ => ?_)
 ·exact goI (fun _=>goC (by unfold bF;simp;omega) (aC (by simp;omega))) fun _=>aC (by omega)
 refine rW (fun _=>True) (m_ s43.length (by omega) (fun i h0 h1=>goT (decide_eq_true h1) (goB (fun _=>True) (goC (aG.2 ⟨h0,h1⟩) (goI (fun _=>aC trivial) fun _=>goC (aG.2 ⟨h0,h1⟩) (aC trivial))) fun _ _=>goI (fun _=>aC trivial) fun _=>aC rfl)) (DF (decide_eq_false (by omega)) (aC trivial))) fun _ _ => ?_
 refine goB (fun _=>True) (goI (fun _=>aC trivial) fun _=>aC trivial) fun s57 _=>rW (fun _=>True) ?_ fun _ _=>aC trivial
 refine goI (fun _=>goB _ J9 fun _ _=>goI (fun _=>aC trivial) fun _=>aC trivial) fun _=>goB (fun _=>True) (goI (fun _=>aC trivial) fun _=>aC trivial) fun s62 _=>rW (fun _=>True) ?_ fun _ _=>aC trivial
 refine goI (fun _=>goB _ J9 fun _ _=>goI (fun _=>aC trivial) fun _=>aC trivial) fun _=>rW (fun _=>True) ?_ fun _ _=>aC trivial
 refine goI (fun _=>goB _ (aat (n:=fs.length) (v:=v) rfl) fun s70 h70=>goI (fun _=>aC trivial) fun hs=>goC (aG.2 (h70 hs)) (goI (fun _=>aC trivial) fun _=>aC trivial)) fun _=>rW (fun _=>True) ?_ fun _ _=>aC trivial
 refine goI (fun _=>goI (fun _=>aC trivial) fun _=>aC trivial) fun _=>rW (fun _=>True) ?_ fun _ _=>aC trivial
 refine goI (fun _=>goB (fun _=>True) (goI (fun _=>aC trivial) fun _=>aC trivial) fun _ _=>goI (fun _=>aC trivial) fun _=>aC trivial) fun _=>rW (fun _=>True) ?_ fun _ _=>aC trivial
 exact goI (fun _=>goB (fun _=>True) (goI (fun _=>aC trivial) fun _=>aC trivial) fun _ _=>goI (fun _=>aC trivial) fun _=>aC trivial) fun _=>aC trivial
theorem adG {nm:List UInt8} {pa re:Int} {bl:List ak} {k a t e:Int}:Ok (f67 nm pa re bl k a t e) fun y=>y=0→(k=1∨k=2∨k=3)∧∀x∈succs k t e,0≤x∧x<bl.length:=by
 unfold f67
 refine goB (fun s=>s=false→k=1∨k=2∨k=3) (goI (fun _=>aC fun e=>by cases e) fun h=>aC fun e => ?_) fun s3 h3=>goI (fun _=>aC fun e=>by cases e) fun hs=>goB (fun _=>True) ?_ fun s10 _=>goI (fun _=>aC fun e=>by cases e) fun _=>yg (P5 k a t e) ?_
 ·simp only [decide_eq_false_iff_not] at h e;omega
 ·exact goI (fun _=>goI (fun _=>aC trivial) fun _=>aC trivial) fun _=>aC trivial
 have h3:=h3 hs
 have hl:(succs k t e).length≤2:=by
  unfold succs;split
  ·simp
  ·split<;>simp
 generalize succs k t e=l at hl
 refine rW (fun _ =>∀x∈l,0≤x∧x<bl.length) ?_ fun _ h=>aC fun _=>⟨h3,h⟩
 refine bQ (fun i:Int=>(0≤i∧i≤l.length)∧∀x∈l.take i.toNat,0≤x∧x<bl.length) (fun i=>(l.length-i).toNat) ⟨⟨by simp,by omega⟩,by simp⟩ fun i ⟨⟨h0,h1⟩,h2⟩ => ?_
 refine goI (fun hi => ?_) (fun hi=>aC ?_)
 rotate_left
 ·have:i.toNat=l.length:=by simp at hi;omega
  rw [this,List.take_length] at h2
  exact h2
 have hi:i<l.length:=by simpa using hi
 have hin:=aG.2 ⟨h0,hi⟩
 refine goB (fun s=>s=false→0≤l.getD i.toNat 0∧l.getD i.toNat 0<bl.length) ?_ fun s hs=>goI (fun _=>aC fun e=>by cases e) fun e=>aC ?_
 ·refine goC hin (goI (fun _=>aC fun e=>by cases e) fun h=>goC hin (aC fun e => ?_))
  simp only [decide_eq_false_iff_not] at h e;omega
 ·have hs:=hs e
  refine ⟨⟨⟨?_,?_⟩,?_⟩,?_⟩
  all_goals rw [aP (by omega)]
  ·omega
  ·omega
  ·intro x hx
   rw [show (i+1).toNat=i.toNat+1 by omega,take_snoc (by omega)] at hx
   rcases List.mem_append.1 hx with hx | hx
   ·exact h2 x hx
   ·rw [List.mem_singleton] at hx
    rw [getD_at _ (by omega:i.toNat<l.length)] at hs
    rw [hx];exact hs
  ·omega
theorem Xf {nm:List UInt8} {pa re:Int} {bl:List ak} (h:bl.length≤1000000):Ok (f65 nm pa re bl) fun _=>True:=by
 unfold f65
 refine goB (fun _=>True) ?_ fun _ _=>aC trivial
 refine bQ (fun s:Int×Int=>0≤s.2∧s.2≤bl.length) (fun s=>(bl.length-s.2).toNat) ⟨by simp,by simp⟩ fun ⟨n,i⟩ ⟨h0,h1⟩ => ?_
 simp only at h0 h1
 refine goI (fun hi => ?_) (fun hi=>aC trivial)
 have hi:i<bl.length:=by simpa using hi
 refine goC (aG.2 ⟨h0,hi⟩) (aC ⟨⟨?_,?_⟩,?_⟩)
 all_goals simp only;rw [aP (by omega)];omega
theorem Qj {a b:Int} {nm:List UInt8} {pa re:Int} {bl:List ak} {k:Nat} (hk:k≤1000000000) (h :∀b∈bl,b.instrs.length≤k∧∀i∈b.instrs,i.args.length≤10):Ok (f52 g fs a b nm pa re bl) fun y=>y=0→bl.length≤1000∧0<bl.length∧Ends bl∧WY bl:=by
 unfold f52
 refine goB (fun s=>s=false→0<bl.length∧bl.length≤256) (goI (fun _=>aC fun e=>by cases e) fun h0=>goI (fun _=>aC fun e=>by cases e) fun h1 => ?_) fun s8 h8=>goI (fun _=>aC fun e=>by cases e) fun hs => ?_
 ·simp only [decide_eq_false_iff_not] at h0 h1
  exact goB _ (Xf (by omega)) fun _ _=>aC fun _=>⟨by omega,by omega⟩
 obtain ⟨l0,l1⟩:=h8 hs
 refine goB (fun _=>True) ?_ fun s16 _=>goI (fun _=>aC fun e=>by cases e) fun _ => ?_
 ·repeat' first | exact aC trivial | refine goI (fun _ => ?_) (fun _ => ?_)
 refine rW (fun _=>D8 bl) ?_ fun _ hE => ?_
 ·refine bQ (fun i:Int=>(0≤i∧i≤bl.length)∧∀b:Nat,(b:Int)<i→((bl.getD b aj).aQ=1∨(bl.getD b aj).aQ=2∨(bl.getD b aj).aQ=3)∧∀x∈pq bl b,0≤x∧x<bl.length) (fun i=>(bl.length-i).toNat) ⟨⟨by simp,by omega⟩,fun b hb=>by omega⟩ fun i ⟨⟨h0,h1⟩,h2⟩ => ?_
  refine goI (fun hi => ?_) (fun hi=>aC ?_)
  rotate_left
  ·have hi:i=bl.length:=by simp at hi;omega
   subst hi
   refine ⟨fun b hb=>⟨fun hn => ?_,fun hn => ?_⟩,fun b hb=>(h2 b (by omega)).1⟩
   ·have:=h2 b (by omega)
    exact this.2 _ (MO.1 (by omega))
   ·exact (h2 b (by omega)).2 _ (MO.2 hn)
  have hi:i<bl.length:=by simpa using hi
  have hin:=aG.2 ⟨h0,hi⟩
  obtain ⟨hb1,hb2⟩:=h _ (jW aj h0 hi)
  refine rW (fun _=>True) ?_ fun _ _=>goC hin (goB _ adG fun c31 h31=>goI (fun hc=>aC fun e => ?_) fun hc=>aC ?_)
  ·refine m_ _ (by omega) (fun j j0 j1=>goC hin (goT (decide_eq_true j1) (goC hin (goC (aG.2 ⟨j0,j1⟩) (goB _ (instrC_ok (hb2 _ (jW (d_.mk 0 0 0 0 0 0 eInt) j0 j1))) fun Nb _=>goI (fun hc=>aC fun e => ?_) fun _=>aC rfl))))) (goC hin (DF (decide_eq_false (by omega)) (aC trivial)))
   rw [e] at hc;simp at hc
  ·rw [e] at hc;simp at hc
  ·have h31:=h31 (by simpa using hc)
   have hw:dI (i+1)=i+1:=aP (by omega)
   refine ⟨⟨⟨by omega,by omega⟩,fun b hb => ?_⟩,by omega⟩
   by_cases e:(b:Int)<i
   ·exact h2 b e
   ·have e:i.toNat=b:=by omega
    rw [e] at h31
    exact h31
 refine goB _ (P7 hE l0 (by omega)) fun m ⟨hM,_⟩ => ?_
 have hml:=hM.len
 refine rW (fun _ =>∀b,b<bl.length→m.getD b false=true) ?_ fun _ hm=>aC fun _=>⟨by omega,l0,hE.1,fun S s0 hS b hb=>hM.all S s0 (fun b hb sb x hx => ?_) b hb (hm b hb)⟩
 ·refine bQ (fun i:Int=>(0≤i∧i≤m.length)∧∀b:Nat,(b:Int)<i→m.getD b false=true) (fun i=>(m.length-i).toNat) ⟨⟨by simp,by omega⟩,fun b hb=>by omega⟩ fun i ⟨⟨h0,h1⟩,h2⟩ => ?_
  refine goI (fun hi => ?_) (fun hi=>aC ?_)
  rotate_left
  ·have hi:i=m.length:=by simp at hi;omega
   exact fun b hb=>h2 b (by omega)
  have hi:i<m.length:=by simpa using hi
  refine goC (aG.2 ⟨h0,hi⟩) (goI (fun _=>aC fun e=>by cases e) fun hc=>aC ?_)
  have hw:dI (i+1)=i+1:=aP (by omega)
  refine ⟨⟨⟨by omega,by omega⟩,fun b hb => ?_⟩,by omega⟩
  by_cases e:(b:Int)<i
  ·exact h2 b e
  ·have e:i.toNat=b:=by omega
   rw [e] at hc;simpa using hc
 ·obtain ⟨q1,q2⟩:=hS b hb sb
  have h3:=hE.2 b hb
  unfold pq succs at hx
  split at hx
  ·rename_i h
   rcases List.mem_cons.1 hx with hx | hx
   ·rw [hx];exact q1 (by omega)
   ·rw [List.mem_singleton] at hx;rw [hx];exact q2 h.1
  ·split at hx
   ·rw [List.mem_singleton] at hx;rw [hx];exact q1 (by omega)
   ·cases hx
theorem aau {a b:Int} {k:Nat} (hk:k≤1000000000) (hg:g.length≤1000000) (h :∀f∈fs,∀b∈f.blocks,b.instrs.length≤k∧∀i∈b.instrs,i.args.length≤10):Ok (f46 g fs a b) fun y=>y=0→fs.length≤1000∧∀f∈fs,Good f:=by
 unfold f46
 refine goB (fun s=>s=false→0<fs.length∧fs.length≤64) (goI (fun _=>aC fun e=>by cases e) fun h0=>goI (fun _=>aC fun e=>by cases e) fun h1 => ?_) fun s12 h12=>goI (fun _=>aC fun e=>by cases e) fun hs => ?_
 ·simp only [decide_eq_false_iff_not] at h0 h1
  have hl:0<fs.length∧fs.length≤64:=⟨by omega,by omega⟩
  exact goI (fun _=>aC fun e=>by cases e) fun _=>goI (fun _=>aC fun e=>by cases e) fun _=>aC fun _=>hl
 obtain ⟨l0,l1⟩:=h12 hs
 refine rW (fun _=>True) (m_ g.length (by omega) (fun i h0 h1=>goT (decide_eq_true h1) (goB (fun _=>True) (goC (aG.2 ⟨h0,h1⟩) (goI (fun _=>aC trivial) fun _=>goC (aG.2 ⟨h0,h1⟩) (aC trivial))) fun _ _=>goI (fun _=>aC fun e=>by cases e) fun _=>aC rfl)) (DF (decide_eq_false (by omega)) (aC trivial))) fun _ _ => ?_
 refine goB (fun _=>True) (goI (fun _=>aC trivial) fun _=>aC trivial) fun Na _=>goI (fun _=>aC fun e=>by cases e) fun _=>goC (aG.2 ⟨by omega,by omega⟩) (goI (fun _=>aC fun e=>by cases e) fun _ => ?_)
 refine rW (fun _ =>∀f∈fs,Good f) ?_ fun _ h=>aC fun _=>⟨by omega,h⟩
 refine bQ (fun i:Int=>(0≤i∧i≤fs.length)∧∀f∈fs.take i.toNat,Good f) (fun i=>(fs.length-i).toNat) ⟨⟨by simp,by omega⟩,by simp⟩ fun i ⟨⟨h0,h1⟩,h2⟩ => ?_
 refine goI (fun hi => ?_) (fun hi=>aC ?_)
 rotate_left
 ·have:i.toNat=fs.length:=by simp at hi;omega
  rw [this,List.take_length] at h2
  exact h2
 have hi:i<fs.length:=by simpa using hi
 have hm:=jW aA h0 hi
 refine goC (aG.2 ⟨h0,hi⟩) (goB _ (Qj hk (h _ hm)) fun En h35=>goI (fun hc=>aC fun e => ?_) fun hc=>aC ?_)
 ·rw [e] at hc;simp at hc
 have h35:=h35 (by simpa using hc)
 have hw:dI (i+1)=i+1:=aP (by omega)
 refine ⟨⟨⟨by omega,by omega⟩,fun f hf => ?_⟩,by omega⟩
 rw [hw,show (i+1).toNat=i.toNat+1 by omega,take_snoc (by omega)] at hf
 rcases List.mem_append.1 hf with hf | hf
 ·exact h2 f hf
 ·rw [List.mem_singleton,←getD_at aA (by omega:i.toNat<fs.length)] at hf
  rw [hf];exact h35
end
end Go.Fg.Ytfklooeiipkijaa

