/-
  Chapter 11, plain: sources are resolved.
-/
import Derived.Test.YtmgfidfcioiedaaLp
namespace Go.Fg.Ytmgfidfcioiedaa
open Go.Fw
set_option linter.unusedVariables false
set_option linter.unusedSimpArgs false
def V:Nat→Nat
 |0=>0
 |n+1=>1+20*V n
theorem jD {α:Type} {l:List α} {q:Int} (d:α) (h0:0≤q) (h1:q<l.length):l.getD q.toNat d∈l:=by
 rw [getD_at _ (by omega)];exact List.getElem_mem _
theorem NC {q m:Nat} (V:Nat) (h:q<m):(q+1)*V=q*V+V∧q*V+V≤m*V:=by
 have e:(q+1)*V=q*V+V:=Nat.succ_mul q V
 exact ⟨e,e▸Nat.mul_le_mul_right V h⟩
theorem FB {m h:Nat} :∀n k:Nat,n+1≤k→∀ss:List dI,ss.length≤10→(∀s∈ss,WS m h n s)→∀l,l.length+10*V n≤1000000→Ok (agk k ss l) fun y=>y.length≤l.length+ss.length*V n
 |_,0,hk,_,_,_,_,_=>by omega
 |n,k+1,hk,ss,hs,hw,l,hl=>by
  show Ok (agj (agk k) ss l) _
  unfold agj
  refine goB (fun y=>y.length≤l.length+ss.length*V n) ?_ fun y hy=>ay hy
  refine aZ (fun s:Int×List (List UInt8) =>∃q:Nat,s.1=q∧q≤ss.length∧s.2.length≤l.length+q*V n) (fun s=>(ss.length-s.1).toNat) ⟨0,rfl,by omega,by simp⟩ fun ⟨q,acc⟩ ⟨q',e1,e2,e3⟩ => ?_
  simp only at e1 e3
  subst e1
  refine goI (fun hc => ?_) fun hc=>ay ?_
  rotate_left
  ·have hc:¬ (q':Int)<ss.length:=by simpa using hc
   have:q'=ss.length:=by omega
   subst this;exact e3
  have hc:(q':Int)<ss.length:=by simpa using hc
  have hin:=aA.2 (show 0≤(q':Int)∧(q':Int)<ss.length from ⟨by omega,hc⟩)
  have hx:=hw _ (jD jI (by omega) hc)
  simp only [Int.toNat_natCast] at hx
  generalize hxe:ss.getD q' jI=x at hx
  cases n with
  |zero=>exact hx.elim
  |succ n=>
   have hm:=NC (V (n+1)) (show q'<10 by omega)
   have hV:V (n+1)=1+20*V n:=rfl
   have ht:x.then'.length*V n≤10*V n:=Nat.mul_le_mul_right _ hx.2.2.2.1.1
   have hel:x.else'.length*V n≤10*V n:=Nat.mul_le_mul_right _ hx.2.2.2.1.2
   refine goC hin (goB (fun y=>y.length≤acc.length+1) ?_ fun y hy=>goC hin (goB (fun z=>z.length≤y.length+10*V n) ?_ fun z hz=>goC hin (goB (fun w=>w.length≤z.length+10*V n) ?_ fun w hw=>ay ⟨⟨q'+1,?_,by omega,?_⟩,?_⟩)))
   ·exact goI (fun _=>goC hin (goC (by unfold bG;simp;omega) (ay (by simp)))) fun _=>ay (by simp)
   ·simp only [Int.toNat_natCast,hxe]
    exact ku (FB n k (by omega) _ hx.2.2.2.1.1 hx.2.2.2.2.1 _ (by omega)) fun z hz=>by omega
   ·simp only [Int.toNat_natCast,hxe]
    exact ku (FB n k (by omega) _ hx.2.2.2.1.2 hx.2.2.2.2.2 _ (by omega)) fun z hz=>by omega
   ·show bW ((q':Int)+1)=_
    rw [aK (by omega)];rfl
   ·show w.length≤_
    omega
   ·show ((ss.length:Int)-bW ((q':Int)+1)).toNat<((ss.length:Int)-q').toNat
    rw [aK (by omega)];omega
theorem ND {m h:Nat} :∀n k:Nat,n+1≤k→∀ss:List dI,ss.length≤10→(∀s∈ss,WS m h n s)→Ok (agm k ss) fun _=>True
 |_,0,hk,_,_,_=>by omega
 |n,k+1,hk,ss,hs,hw=>by
  show Ok (agl (agm k) ss) _
  unfold agl
  refine goB (fun _=>True) ?_ fun _ _=>ay trivial
  refine aZ (fun s:Int×Int=>0≤s.2∧s.2≤ss.length) (fun s=>(ss.length-s.2).toNat) ⟨by simp,by simp⟩ fun ⟨z,q⟩ ⟨h1,h2⟩=>goI (fun hc => ?_) fun _=>ay trivial
  have hc:q<ss.length:=by simpa using hc
  simp only at h1 h2
  have hx:=hw _ (jD jI h1 hc)
  cases n with
  |zero=>exact hx.elim
  |succ n=>
   refine goC (aA.2 ⟨h1,hc⟩) (goB _ (ND n k (by omega) _ hx.2.2.2.1.1 hx.2.2.2.2.1) fun _ _=>goC (aA.2 ⟨h1,hc⟩) (goB _ (ND n k (by omega) _ hx.2.2.2.1.2 hx.2.2.2.2.2) fun _ _=>ay ⟨⟨?_,?_⟩,?_⟩))
   all_goals simp only [aK (x:=q+1) (by omega)];omega
section
variable {g:List aJ} {fs:List au}
def PR (n m:Nat) (g:List aJ) (fs:List au) (lo:List (List UInt8)) (y:List aJ×List au×Int×Int×List dI×List (List UInt8)):Prop:=
 ∃a b ss lo',y=(g,fs,a,b,ss,lo')∧ss.length=m∧(∀s∈ss,WS 4 4 n s)∧lo'.length≤lo.length+m*V n
theorem Dh (hg:g.length≤1000000) (hf:fs.length≤1000000) :∀n k:Nat,n+1≤k→∀ss:List dI,ss.length≤10→(∀s∈ss,WS 3 3 n s)→∀a b lo,lo.length+10*V n≤1000000→Ok (agH k ss g fs a b lo) (PR n ss.length g fs lo)
 |_,0,hk,_,_,_,_,_,_,_=>by omega
 |n,k+1,hk,ss,hs,hw,a,b,lo,hl=>by
  show Ok (agG (agH k) ss g fs a b lo) _
  unfold agG
  refine goB (PR n ss.length g fs lo) ?_ fun y ⟨a,b,ss,lo,e,h⟩=>by subst e;exact ay ⟨a,b,ss,lo,rfl,h⟩
  refine aZ (fun s:Int×List aJ×List au×Int×Int×List dI×List (List UInt8) =>∃q:Nat,∃a b rs lo',s=((q:Int),g,fs,a,b,rs,lo')∧q≤ss.length∧rs.length=q∧(∀s∈rs,WS 4 4 n s)∧lo'.length≤lo.length+q*V n) (fun s=>(ss.length-s.1).toNat)
   ⟨0,a,b,[],lo,rfl,by omega,rfl,fun s h=>(by cases h),by simp⟩ fun s ⟨q,a,b,rs,lo',e,e1,e2,e3,e4⟩ => ?_
  subst e
  refine goI (fun hc => ?_) fun hc=>ay ?_
  rotate_left
  ·have hc:¬ (q:Int)<ss.length:=by simpa using hc
   have:q=ss.length:=by omega
   subst this;exact ⟨a,b,rs,lo',rfl,e2,e3,e4⟩
  have hc:(q:Int)<ss.length:=by simpa using hc
  have hin:=aA.2 (show 0≤(q:Int)∧(q:Int)<ss.length from ⟨by omega,hc⟩)
  have hx:=hw _ (jD jI (by omega) hc)
  obtain ⟨x,hxe⟩ :∃x,ss.getD (q:Int).toNat jI=x:=⟨_,rfl⟩
  rw [hxe] at hx
  simp only [hxe]
  cases n with
  |zero=>exact hx.elim
  |succ n=>
   have hm:=NC (V (n+1)) (show q<10 by omega)
   have hV:V (n+1)=1+20*V n:=rfl
   have ht:x.then'.length*V n≤10*V n:=Nat.mul_le_mul_right _ hx.2.2.2.1.1
   have hel:x.else'.length*V n≤10*V n:=Nat.mul_le_mul_right _ hx.2.2.2.1.2
   obtain ⟨x1,x2,x3,⟨x4,x5⟩,x6,x7⟩:=hx
   have hSc:Sc g fs lo':=⟨hg,hf,by omega⟩
   refine goC hin (goB (fun y =>∃a b ar,y=(g,fs,a,b,ar)∧ar.length=x.exprs.length∧∀z∈ar,WE 4 4 z) ?_ fun y ⟨a,b,ar,e,f1,f2⟩ => ?_)
   ·refine aZ (fun s:Int×List aJ×List au×Int×Int×List aV =>∃a b ar,s=((ar.length:Int),g,fs,a,b,ar)∧ar.length≤x.exprs.length∧∀z∈ar,WE 4 4 z) (fun s=>(x.exprs.length-s.1).toNat) ⟨a,b,[],rfl,by simp,fun z h=>by cases h⟩ fun s ⟨a,b,ar,e,f1,f2⟩ => ?_
    subst e
    refine goI (fun hc => ?_) fun hc=>ay ⟨a,b,ar,rfl,?_,f2⟩
    rotate_left
    ·have hc:¬ (ar.length:Int)<x.exprs.length:=by simpa using hc
     omega
    have hc:(ar.length:Int)<x.exprs.length:=by simpa using hc
    have hin:=aA.2 (show 0≤(ar.length:Int)∧(ar.length:Int)<x.exprs.length from ⟨by omega,hc⟩)
    have hz:=x3 _ (jD gG (by omega) hc)
    refine goC hin (goB _ (KO (by omega) 3 1048576 (by omega) _ hz) fun _ _=>goB (fun y =>∃a b,y=(g,fs,a,b)) ?_ fun y ⟨a,b,e⟩ => ?_)
    ·exact goI (fun _=>goC hin (pU fun _ _=>ay ⟨_,_,rfl⟩)) fun _=>ay ⟨_,_,rfl⟩
    subst e
    refine goC hin (goB _ (KN hSc 3 1048576 (by omega) _ hz a b) fun y ⟨k,o,v,i,nm,a,b,ar',e,hr⟩ => ?_)
    subst e
    refine goC (by unfold bG;simp;omega) (ay ⟨⟨a,b,ar++[aV.mk k o v i nm ar'],?_,by simp;omega,fun z h => ?_⟩,?_⟩)
    ·simp only [aK (x:=(ar.length:Int)+1) (by omega)];simp
    ·rcases List.mem_append.1 h with h | h
     ·exact f2 z h
     ·rw [List.mem_singleton] at h;subst h;exact hr
    ·simp only [aK (x:=(ar.length:Int)+1) (by omega)];omega
   subst e
   refine Nz hSc fun w _=>goB (fun y =>∃a b lo2,y=(g,fs,a,b,lo2)∧lo2.length≤lo'.length+1) ?_ fun y ⟨a,b,lo2,e,f3⟩ => ?_
   ·refine goI (fun _=>goB (fun y =>∃a b,y=(g,fs,a,b)) ?_ fun y ⟨a,b,e⟩=>by subst e;exact goC (by unfold bG;simp;omega) (ay ⟨_,_,_,rfl,by simp⟩)) fun _=>goB (fun _=>True) ?_ fun u _=>goB (fun y =>∃a b,y=(g,fs,a,b)) ?_ fun y ⟨a,b,e⟩=>by subst e;exact ay ⟨_,_,_,rfl,by simp⟩
    ·exact goI (fun _=>pU fun _ _=>ay ⟨_,_,rfl⟩) fun _=>ay ⟨_,_,rfl⟩
    ·exact goI (fun _=>ay trivial) fun _=>ay trivial
    ·refine goI (fun _=>goB (fun y =>∃a b,y=(g,fs,a,b)) ?_ fun y ⟨a,b,e⟩=>by subst e;exact ay ⟨_,_,rfl⟩) fun _=>ay ⟨_,_,rfl⟩
     refine goI (fun _=>pU fun _ _=>ay ⟨_,_,rfl⟩) fun _=>goB (fun _=>True) ?_ fun u _=>goB (fun y =>∃a b,y=(g,fs,a,b)) ?_ fun y ⟨a,b,e⟩=>by subst e;exact ay ⟨_,_,rfl⟩
     ·exact goI (fun _=>goI (fun _=>goI (fun _=>ay trivial) fun _=>goI (fun _=>ay trivial) fun _=>ay trivial) fun _=>goI (fun _=>ay trivial) fun _=>ay trivial) fun _=>goI (fun _=>ay trivial) fun _=>ay trivial
     ·exact goI (fun _=>pU fun _ _=>ay ⟨_,_,rfl⟩) fun _=>ay ⟨_,_,rfl⟩
   subst e
   refine goB _ (Dh hg hf n k (by omega) _ x4 x6 a b lo2 (by omega)) fun y ⟨a,b,s1,lo3,e,c1,c2,c3⟩ => ?_
   subst e
   refine goB _ (Dh hg hf n k (by omega) _ x5 x7 a b lo3 (by omega)) fun y ⟨a,b,s2,lo4,e,d1,d2,d3⟩ => ?_
   subst e
   refine goC (by unfold bG;simp;omega) (ay ⟨⟨q+1,a,b,rs++[dI.mk x.kind x.line x.name ar s1 s2],lo4,?_,by omega,?_,fun s h => ?_,by omega⟩,?_⟩)
   ·show (bW ((q:Int)+1),_)=_
    rw [aK (by omega)];rfl
   ·simp;exact e2
   ·rcases List.mem_append.1 h with h | h
    ·exact e3 s h
    ·rw [List.mem_singleton] at h;subst h
     exact ⟨by simp only;omega,fun h=>by have:=x2 h;simp only;omega,f2,⟨by simp only;omega,by simp only;omega⟩,c2,d2⟩
   ·show ((ss.length:Int)-bW ((q:Int)+1)).toNat<((ss.length:Int)-q).toNat
    rw [aK (by omega)];omega
end
theorem uK {m h:Nat}:Src m h [] []:=⟨by simp,by simp,fun f h=>(by cases h),fun f h=>by cases h⟩
theorem TU {g:List aJ} {fs:List au} (h:Src 3 3 g fs):Ok (f41 g fs) fun y=>Src 4 4 y.2.2.1 y.2.2.2:=by
 have hg:=h.g;have hf:=h.f
 unfold f41
 refine goB (fun _=>True) ?_ fun s5 _=>goI (fun _=>ay uK) fun _ => ?_
 ·exact goI (fun _=>ay trivial) fun _=>ay trivial
 refine goB (fun _=>True) ?_ fun s5 _=>goI (fun _=>ay uK) fun _ => ?_
 ·refine goI (fun _=>ay trivial) fun hc => ?_
  have hin:inB (0:Int) fs.length=true:=aA.2 ⟨by omega,by simp at hc;cases fs with
   |nil=>exact absurd rfl hc
   |cons a l=>simp⟩
  exact goC hin (goI (fun _=>ay trivial) fun _=>goC hin (ay trivial))
 refine pR (fun _=>True) (jJ g.length (by omega) (fun i h0 h1=>goT (decide_eq_true h1) (goC (aA.2 ⟨h0,h1⟩) (goB _ (uJ (by omega)) fun _ _=>goI (fun _=>ay uK) fun _=>ay rfl))) (Ee (decide_eq_false (by omega)) (ay trivial))) fun _ _ => ?_
 refine pR (fun _=>True) (jJ fs.length (by omega) (fun i h0 h1=>goT (decide_eq_true h1) (goB (fun _=>True) ?_ fun s _=>goI (fun _=>goC (aA.2 ⟨h0,h1⟩) (ay uK)) fun _=>ay rfl)) (Ee (decide_eq_false (by omega)) (ay trivial))) fun _ _ => ?_
 ·exact goC (aA.2 ⟨h0,h1⟩) (goB _ (uJ (by omega)) fun _ _=>goI (fun _=>ay trivial) fun _=>goC (aA.2 ⟨h0,h1⟩) (goB _ (Fz (by omega)) fun _ _=>ay trivial))
 refine goC (by unfold bG;simp;omega) (pR (fun rs=>rs.length≤100∧(∀f∈rs,f.params.length≤2)∧∀f∈rs,f.body.length≤10∧∀s∈f.body,WS 4 4 3 s) ?_ fun rs ⟨r1,r2,r3⟩=>ay ⟨by simpa using hg,r1,r2,r3⟩)
 refine aZ (fun s:Int×List au=>(0≤s.1∧s.1≤fs.length)∧(s.2.length:Int)=s.1∧(∀f∈s.2,f.params.length≤2)∧∀f∈s.2,f.body.length≤10∧∀s∈f.body,WS 4 4 3 s) (fun s=>(fs.length-s.1).toNat) ⟨⟨by simp,by simp⟩,rfl,fun f h=>(by cases h),fun f h=>by cases h⟩ fun ⟨q,rs⟩ ⟨⟨e1,e2⟩,e3,e4,e5⟩ => ?_
 simp only at e1 e2 e3 e4 e5
 refine goI (fun hc => ?_) fun _=>ay ⟨by simp only;omega,e4,e5⟩
 have hc:q<fs.length:=by simpa using hc
 have hx:=jD fK e1 hc
 have hp:=h.ps _ hx
 obtain ⟨hb,hw⟩:=h.ws _ hx
 obtain ⟨f,hfe⟩ :∃f,fs.getD q.toNat fK=f:=⟨_,rfl⟩
 rw [hfe] at hx hp hb hw
 simp only [hfe]
 have hcap:(true&&decide ((List.length jH+f.params.length)*16≤140737488355328))=true:=by simp;omega
 refine goC (aA.2 ⟨e1,hc⟩) (goB (fun _=>True) ?_ fun _ _=>goI (fun _=>ay uK) fun _=>pR (fun _=>True) (jJ f.params.length (by omega) (fun i h0 h1=>goT (decide_eq_true h1) (goB (fun _=>True) ?_ fun s _=>goI (fun _=>ay uK) fun _=>ay rfl)) (Ee (decide_eq_false (by omega)) (ay trivial))) fun _ _ => ?_)
 ·refine goI (fun _=>ay trivial) fun _=>goB (fun _=>True) ?_ fun _ _=>goI (fun _=>ay trivial) fun _=>goB _ (ND 3 1048576 (by omega) _ hb hw) fun _ _=>ay trivial
  unfold f35
  exact goC hcap (goB _ (FB 3 1048576 (by omega) _ hb hw _ (by simp [V];omega)) fun _ _=>ay trivial)
 ·exact goC (AY.2 ⟨⟨by omega,h0⟩,by omega⟩) (goC (aA.2 ⟨h0,h1⟩) (goB _ (aa0 (by simp;omega)) fun _ _=>goI (fun _=>ay trivial) fun _=>goC (aA.2 ⟨h0,h1⟩) (goB _ (Qx (by omega) (by omega)) fun _ _=>ay trivial)))
 ·refine goC hcap (goB _ (Dh (by omega) (by omega) 3 1048576 (by omega) _ hb hw 0 0 _ (by simp [V];omega)) fun y ⟨a,b,ss,lo',e,c1,c2,c3⟩ => ?_)
  subst e
  refine goI (fun _=>ay uK) fun _=>goC hcap (goC (by unfold bG;simp;omega) (ay ⟨⟨?_,?_,fun f hf => ?_,fun f hf => ?_⟩,?_⟩))
  ·simp only [aK (x:=q+1) (by omega)];omega
  ·simp only [aK (x:=q+1) (by omega)];simp;omega
  ·rcases List.mem_append.1 hf with h | h
   ·exact e4 f h
   ·rw [List.mem_singleton] at h;subst h;simpa using hp
  ·rcases List.mem_append.1 hf with h | h
   ·exact e5 f h
   ·rw [List.mem_singleton] at h;subst h;exact ⟨by simp only;omega,c2⟩
  ·simp only [aK (x:=q+1) (by omega)];omega
end Go.Fg.Ytmgfidfcioiedaa

