/-
  Chapter 11, plain: statements are drawn.
-/
import Derived.Test.YtmgfidfcioiedaaLm
namespace Go.Fg.Ytmgfidfcioiedaa
open Go.Fw
set_option linter.unusedVariables false
set_option linter.unusedSimpArgs false
def WS (m h:Nat):Nat→dH→Prop
 |0,_=>False
 |n+1,x=>x.exprs.length≤2∧(x.kind=5→1≤x.exprs.length)∧(∀y∈x.exprs,WE m h y)∧(x.then'.length≤10∧x.else'.length≤10)∧(∀y∈x.then',WS m h n y)∧∀y∈x.else',WS m h n y
theorem Np {α:Type} {P:α→Prop} {x:α} (h:P x) :∀y∈[x],P y:=fun y hy=>by rw [List.mem_singleton] at hy;subst hy;exact h
theorem adY {α:Type} {P:α→Prop} {x z:α} (h:P x) (h':P z) :∀y∈[x,z],P y:=fun y hy=>by
 rcases List.mem_cons.1 hy with e | e
 ·subst e;exact h
 ·exact Np h' y e
theorem Q_ {n:Nat} {k i:Int} {nm:List UInt8} {x:aU} {th el:List dH} (hx:WE 3 3 x) (h1:th.length≤10) (h2:el.length≤10) (h3 :∀y∈th,WS 3 3 n y) (h4 :∀y∈el,WS 3 3 n y):WS 3 3 (n+1) (dH.mk k i nm [x] th el):=
 ⟨by simp,fun _=>by simp,Np hx,⟨h1,h2⟩,h3,h4⟩
theorem JD {n:Nat} {k i:Int} {nm:List UInt8} {x:aU} (hx:WE 3 3 x):WS 3 3 (n+1) (dH.mk k i nm [x] [] []):=Q_ hx (by simp) (by simp) (fun y h=>by cases h) (fun y h=>by cases h)
structure Tv (k:Int) (l:List Int) (g:List aI) (fs:List aj):Prop where
 b:Bytes l
 g:g.length≤100
 f0:0<fs.length
 f1:fs.length≤100
 fp :∀f∈fs,f.params.length≤2
 k:k≤100
section
variable {kk:Int} {l:List Int} {g:List aI} {fs:List aj}
theorem Tv.env (h:Tv kk l g fs) {lo:List (List UInt8)} (hl:(lo.length:Int)≤kk):Env l g fs lo:=⟨h.b,h.g,h.f0,h.f1,h.fp,by have:=h.k;omega⟩
def PS (n:Nat) (kk:Int) (l:List Int) (g:List aI) (fs:List aj) (y:Int×Int×List UInt8×Int×List Int×Int×List aI×List aj×List aU×List dH×List dH×List (List UInt8)):Prop:=
 ∃k i nm es th el b j lo,y=(k,i,nm,b,l,j,g,fs,es,th,el,lo)∧0≤j∧(0≤b∧lo.length+b≤kk)∧WS 3 3 n (dH.mk k i nm es th el)
def PL (n:Nat) (kk:Int) (l:List Int) (g:List aI) (fs:List aj) (y:Int×Int×List UInt8×Int×List Int×Int×List aI×List aj×List aU×List dH×List (List UInt8)):Prop:=
 ∃k i nm es th b j lo,y=(k,i,nm,b,l,j,g,fs,es,th,lo)∧0≤j∧(0≤b∧lo.length+b≤kk)∧WS 3 3 n (dH.mk k i nm es th [])
def PB (n:Nat) (m kk:Int) (l:List Int) (g:List aI) (fs:List aj) (y:Int×List Int×Int×List aI×List aj×List dH×List (List UInt8)):Prop:=
 ∃ss b j lo,y=(b,l,j,g,fs,ss,lo)∧0≤j∧(0≤b∧lo.length+b≤kk)∧(ss.length≤10∧ss.length≤m)∧∀s∈ss,WS 3 3 n s
theorem agM {n:Nat} {p m m' b i:Int} {lo r} (h:Ok r (PB n m kk l g fs)):Ok (k55 p m' b l i g fs lo r) (PB n m kk l g fs):=
 goB _ h fun y ⟨ss,b,j,lo,e,h⟩=>by subst e;exact goK rfl (goK rfl (aA ⟨ss,b,j,lo,rfl,h⟩))
theorem agN {n:Nat} {p b i:Int} {lo r} (h:Ok r (PS n kk l g fs)):Ok (k78 p b l i g fs lo r) (PS n kk l g fs):=
 goB _ h fun y ⟨k,i,nm,es,th,el,b,j,lo,e,h⟩=>by subst e;exact goK rfl (goK rfl (aA ⟨k,i,nm,es,th,el,b,j,lo,rfl,h⟩))
theorem agO {n:Nat} {p b i:Int} {lo r} (h:Ok r (PL n kk l g fs)):Ok (k97 p b l i g fs lo r) (PL n kk l g fs):=
 goB _ h fun y ⟨k,i,nm,es,th,b,j,lo,e,h⟩=>by subst e;exact goK rfl (goK rfl (aA ⟨k,i,nm,es,th,b,j,lo,rfl,h⟩))
theorem adZ {β:Type} {rec:T55} {d n:Nat} (h :∀m b i lo,m≤4→0≤b→lo.length+b≤kk→0≤i→Ok (rec d m b l i g fs lo) (PB n (max m 0) kk l g fs)) {q m b i:Int} {lo f} {Q:β→Prop} (hq:q=d) (hm:m≤4) (hb:0≤b) (hl:lo.length+b≤kk) (hi:0≤i)
  (k :∀ss b' j lo',0≤j→0≤b'→lo'.length+b'≤kk→ss.length≤4→(∀s∈ss,WS 3 3 n s)→Ok (f (b',l,j,g,fs,ss,lo')) Q):Ok (Option.bind (rec q m b l i g fs lo) f) Q:=by
 subst hq
 exact goB _ (h m b i lo hm hb hl hi) fun y ⟨ss,b,j,lo,e,h1,h2,h3,h4⟩=>by subst e;exact k ss b j lo h1 h2.1 h2.2 (by omega) h4
theorem Qn {β:Type} {lo:List (List UInt8)} (h:Env l g fs lo) {b i:Int} {f} {Q:β→Prop} (hi:0≤i)
  (k :∀k o v i nm ar j,0≤j→WE 3 3 (aU.mk k o v i nm ar)→Ok (f (k,o,v,i,nm,ar,b,l,j,g,fs,lo)) Q):Ok (Option.bind (f95 2 b l i g fs lo) f) Q:=
 XR (rec:=f95) (d:=2) (fun b i hi=>(xk h 2 (by omega) 1048576 (by omega)).1 b i hi) rfl hi k
theorem ank {β:Type} {lo:List (List UInt8)} (h:Env l g fs lo) {b i:Int} {f} {Q:β→Prop} (hi:0≤i)
  (k :∀k o v i nm ar j,0≤j→WE 3 3 (aU.mk k o v i nm ar)→Ok (f (k,o,v,i,nm,ar,b,l,j,g,fs,lo)) Q):Ok (Option.bind (f95 1 b l i g fs lo) f) Q:=
 XR (rec:=f95) (d:=1) (fun b i hi=>(xk h 1 (by omega) 1048576 (by omega)).1 b i hi) rfl hi fun k' o v i nm ar j hj hx=>k k' o v i nm ar j hj (hx.up (by omega))
theorem anl {β:Type} {lo:List (List UInt8)} (h:Env l g fs lo) {b i:Int} {f} {Q:β→Prop} (hi:0≤i)
  (k :∀k o v i nm ar j,0≤j→WE 3 3 (aU.mk k o v i nm ar)→Ok (f (k,o,v,i,nm,b,l,j,g,fs,lo,ar)) Q):Ok (Option.bind (f98 2 b l i g fs lo) f) Q:=
 ajL (rec:=f98) (d:=2) (fun b i hi=>(xk h 2 (by omega) 1048576 (by omega)).2 1 rfl b i hi) rfl hi k
theorem aaO {b i:Int} {lo:List (List UInt8)} (hl:lo.length≤100):Ok (f93 b l i g fs lo) fun y =>∃nm t,y=(nm,t,b,l,i,g,fs,lo):=by
 refine goB (fun y =>∃nm t,y=(nm,t,b,l,i,g,fs,lo)) ?_ fun y ⟨nm,t,e⟩=>by subst e;exact goK rfl (goK rfl (goK rfl (aA ⟨nm,t,rfl⟩)))
 unfold agC
 refine goB (fun y =>∃nm t,y=(nm,t,b,l,i,g,fs,lo)) ?_ fun y ⟨nm,t,e⟩=>by subst e;exact goC (by simp) (goC (by simp) (goC (by simp) (aA ⟨nm,t,rfl⟩)))
 refine xP (y:=[[97],[98],[99],[100],[101],[102],[105],[107]]) rfl ?_
 refine qZ (fun _=>True) ?_ fun _ _=>aA ⟨_,_,rfl⟩
 refine bf (fun s:Int=>0≤s∧s≤8) (fun s=>(8-s).toNat) ⟨by simp,by simp⟩ fun s ⟨h1,h2⟩ => ?_
 refine goI (fun hc => ?_) fun _=>aA trivial
 have hc:s<8:=by simpa using hc
 refine goB (fun _=>True) ?_ fun y _ => ?_
 ·refine bf (fun t:Bool×Int=>0≤t.2∧t.2≤lo.length) (fun t=>(lo.length-t.2).toNat) ⟨by simp,by simp⟩ fun ⟨u,t⟩ ⟨h1,h2⟩ => ?_
  simp only at h1 h2
  refine goI (fun hc' => ?_) fun _=>aA trivial
  have hc':t<lo.length:=by simpa using hc'
  refine goB (fun _=>True) ?_ fun y _=>aA ⟨?_,?_⟩
  ·exact goI (fun _=>aA trivial) fun _=>goC (au.2 ⟨h1,hc'⟩) (goC (au.2 ⟨by assumption,by simpa using hc⟩) (aA trivial))
  all_goals simp only [aJ (x:=t+1) (by omega)];omega
 ·refine goI (fun _=>goC (au.2 ⟨h1,by simpa using hc⟩) (aA ⟨_,_,rfl⟩)) fun _=>aA ⟨?_,?_⟩
  all_goals simp only [aJ (x:=s+1) (by omega)];omega
theorem Tz {rec:T55} {rec':T78} {sK:T97} {d:Int} {n:Nat} (h:Tv kk l g fs) (hr :∀b i lo,0≤b→lo.length+b+1≤kk→0≤i→Ok (rec' d b l i g fs lo) (PS n kk l g fs))
  {m b i:Int} {lo} (hm:m≤4) (hb:0≤b) (hl:lo.length+b≤kk) (hi:0≤i):Ok (ady rec rec' sK d m b l i g fs lo) (PB n (max m 0) kk l g fs):=by
 unfold ady
 refine goB (PB n (max m 0) kk l g fs) ?_ fun y ⟨ss,b,j,lo,e,h⟩=>by subst e;exact goC (by simp) (goC (by simp) (aA ⟨ss,b,j,lo,rfl,h⟩))
 refine goB (fun y =>∃b j ss lo,y=(b,l,j,ss,lo)∧0≤j∧(0≤b∧lo.length+b≤kk)∧((ss.length:Int)≤max m 0)∧∀s∈ss,WS 3 3 n s) ?_ fun y ⟨b,j,ss,lo,e,h1,h2,h3,h4⟩=>by subst e;exact aA ⟨ss,b,j,lo,rfl,h1,h2,⟨by omega,h3⟩,h4⟩
 refine bf (fun s:Int×Int×List Int×Int×List dH×List (List UInt8) =>∃q b j ss lo,s=(q,b,l,j,ss,lo)∧0≤j∧(0≤b∧lo.length+b≤kk)∧(ss.length:Int)=q∧q≤max m 0∧∀s∈ss,WS 3 3 n s) (fun s=>(max m 0-s.1).toNat)
  ⟨0,b,i,[],lo,rfl,hi,⟨hb,hl⟩,rfl,by omega,fun s h=>by cases h⟩ fun s ⟨q,b,j,ss,lo,e,h1,⟨h2,h3⟩,h4,h5,h6⟩ => ?_
 subst e
 refine goB (fun t=>t=true→q<m∧0<b) ?_ fun t ht=>goI (fun e => ?_) fun _=>aA ⟨b,j,ss,lo,rfl,h1,⟨h2,h3⟩,by omega,h6⟩
 ·exact goI (fun h=>aA fun h'=>⟨by simpa using h,by simpa using h'⟩) fun _=>aA fun h=>by cases h
 obtain ⟨t1,t2⟩:=ht e
 rw [show bW (b-1)=b-1 from aJ (by have:=h.k;omega)]
 refine goB _ (hr (b-1) j lo (by omega) (by omega) h1) fun y ⟨k,i',nm,es,th,el,b',j',lo',e,c1,c2,c3⟩ => ?_
 subst e
 have hk:=h.k
 refine goC (by unfold bG;simp;omega) (aA ⟨⟨_,b',j',_,lo',rfl,c1,c2,?_,?_,fun s hs => ?_⟩,?_⟩)
 all_goals try simp only [aJ (x:=q+1) (by omega)]
 ·simp;omega
 ·omega
 ·rcases List.mem_append.1 hs with hs | hs
  ·exact h6 s hs
  ·rw [List.mem_singleton] at hs;subst hs;exact c3
 ·omega
theorem XC {rec:T55} {rec':T78} {sK:T97} {d n:Nat} (h:Tv kk l g fs) (hd:d≤100) (hr :∀m b i lo,m≤4→0≤b→lo.length+b≤kk→0≤i→Ok (rec d m b l i g fs lo) (PB (n+1) (max m 0) kk l g fs))
  {b i:Int} {lo} (hb:0≤b) (hl:lo.length+b≤kk) (hi:0≤i):Ok (adA rec rec' sK (d+1:Nat) b l i g fs lo) (PL (n+2) kk l g fs):=by
 have hw:bW (((d+1:Nat):Int)-1)=d:=by rw [aJ (by omega)];omega
 have hE:=h.env (lo:=lo) (by omega)
 have hlo:=hE.lo
 unfold adA
 refine goB (PL (n+2) kk l g fs) ?_ fun y ⟨k,i,nm,es,th,b,j,lo,e,h⟩=>by subst e;exact goC (by simp) (goC (by simp) (aA ⟨k,i,nm,es,th,b,j,lo,rfl,h⟩))
 refine goP hE hi fun nm t j0 h0=>goB (fun y =>∃u j,0≤j∧(u=true→0<lo.length)∧y=(u,l,j)) ?_ fun y ⟨u,j,hj,hu,e⟩ => ?_
 ·refine goI (fun hc=>goN h.b h0 (by omega) fun x j hj _ _=>aA ⟨_,_,hj,fun _=>by simpa using hc,rfl⟩) fun _=>aA ⟨_,_,h0,fun h=>(by cases h),rfl⟩
 subst e
 refine goB (fun y =>∃nm t j,0≤j∧y=(nm,t,l,j)) ?_ fun y ⟨nm,t,j,hj,e⟩ => ?_
 ·exact goI (fun hc=>goN h.b hj (by omega) fun x j hj a1 a2=>goC (au.2 ⟨a1,a2 (by have:=hu hc;omega)⟩) (aA ⟨_,_,_,hj,rfl⟩)) fun _=>aA ⟨_,_,_,hj,rfl⟩
 subst e
 refine goB (fun y =>∃t j,0≤j∧y=(t,l,j)) ?_ fun y ⟨t,j,hj,e⟩ => ?_
 ·exact goI (fun _=>aA ⟨_,_,hj,rfl⟩) fun _=>goN h.b hj (by omega) fun x j hj _ _=>aA ⟨_,_,hj,rfl⟩
 subst e
 refine goI (fun _=>Qn hE hj fun _ _ _ _ _ _ j hj hx=>xP rfl (goN h.b hj (by omega) fun x j hj a1 a2=>adZ hr hw ?_ hb hl hj fun ss b' j lo' c1 c2 c3 c4 c5=>aA ⟨5,_,_,[_],ss,b',j,lo',rfl,c1,⟨c2,c3⟩,Q_ hx (by omega) (by simp) c5 fun y h=>by cases h⟩)) fun _ => ?_
 ·have a2:=a2 (by omega)
  show bW (1+x)≤4
  rw [aJ (by omega)];omega
 refine goN h.b hj (by omega) fun x j hj _ _=>xP rfl (xP rfl (goN h.b hj (by omega) fun x2 j2 h2 _ b2=>adZ hr hw (by have:=b2 (by omega);omega) hb hl h2 fun ss b' j lo' c1 c2 c3 c4 c5=>xP rfl (xP rfl (goC (by unfold bG;simp;omega) (aA ⟨5,_,_,[_],ss++[_],b',j,lo',rfl,c1,⟨c2,c3⟩,Q_ (we2 (we0 (by simp) (by simp) (by simp)) (we0 (by simp) (by simp) (by simp)) (by omega)) (by simp;omega) (by simp) (fun y hy => ?_) fun y h=>by cases h⟩)))))
 rcases List.mem_append.1 hy with hy | hy
 ·exact c5 y hy
 ·rw [List.mem_singleton] at hy;subst hy
  exact JD (we2 (we0 (by simp) (by simp) (by simp)) (we0 (by simp) (by simp) (by simp)) (by omega))
end
end Go.Fg.Ytmgfidfcioiedaa

