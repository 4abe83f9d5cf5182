/-
  Chapter 11, plain: statements are drawn.
-/
import Derived.Test.YtmgfidfcioiedaaLm
namespace Go.Fg.Ytmgfidfcioiedaa
open Go.Fw
set_option linter.unusedVariables false
set_option linter.unusedSimpArgs false
def WS (m h:Nat):Nat→dI→Prop
 |0,_=>False
 |n+1,x=>x.exprs.length≤2∧(x.kind=5→1≤x.exprs.length)∧(∀y∈x.exprs,WE m h y)∧(x.then'.length≤10∧x.else'.length≤10)∧(∀y∈x.then',WS m h n y)∧∀y∈x.else',WS m h n y
theorem Ny {α:Type} {P:α→Prop} {x:α} (h:P x) :∀y∈[x],P y:=fun y hy=>by rw [List.mem_singleton] at hy;subst hy;exact h
theorem ad_ {α:Type} {P:α→Prop} {x z:α} (h:P x) (h':P z) :∀y∈[x,z],P y:=fun y hy=>by
 rcases List.mem_cons.1 hy with e | e
 ·subst e;exact h
 ·exact Ny h' y e
theorem Rq {n:Nat} {k i:Int} {nm:List UInt8} {x:aV} {th el:List dI} (hx:WE 3 3 x) (h1:th.length≤10) (h2:el.length≤10) (h3 :∀y∈th,WS 3 3 n y) (h4 :∀y∈el,WS 3 3 n y):WS 3 3 (n+1) (dI.mk k i nm [x] th el):=
 ⟨by simp,fun _=>by simp,Ny hx,⟨h1,h2⟩,h3,h4⟩
theorem JJ {n:Nat} {k i:Int} {nm:List UInt8} {x:aV} (hx:WE 3 3 x):WS 3 3 (n+1) (dI.mk k i nm [x] [] []):=Rq hx (by simp) (by simp) (fun y h=>by cases h) (fun y h=>by cases h)
structure TM (k:Int) (l:List Int) (g:List aJ) (fs:List au):Prop where
 b:Bytes l
 g:g.length≤100
 f0:0<fs.length
 f1:fs.length≤100
 fp :∀f∈fs,f.params.length≤2
 k:k≤100
section
variable {kk:Int} {l:List Int} {g:List aJ} {fs:List au}
theorem TM.env (h:TM kk l g fs) {lo:List (List UInt8)} (hl:(lo.length:Int)≤kk):Env l g fs lo:=⟨h.b,h.g,h.f0,h.f1,h.fp,by have:=h.k;omega⟩
def PS (n:Nat) (kk:Int) (l:List Int) (g:List aJ) (fs:List au) (y:Int×Int×List UInt8×Int×List Int×Int×List aJ×List au×List aV×List dI×List dI×List (List UInt8)):Prop:=
 ∃k i nm es th el b j lo,y=(k,i,nm,b,l,j,g,fs,es,th,el,lo)∧0≤j∧(0≤b∧lo.length+b≤kk)∧WS 3 3 n (dI.mk k i nm es th el)
def PL (n:Nat) (kk:Int) (l:List Int) (g:List aJ) (fs:List au) (y:Int×Int×List UInt8×Int×List Int×Int×List aJ×List au×List aV×List dI×List (List UInt8)):Prop:=
 ∃k i nm es th b j lo,y=(k,i,nm,b,l,j,g,fs,es,th,lo)∧0≤j∧(0≤b∧lo.length+b≤kk)∧WS 3 3 n (dI.mk k i nm es th [])
def PB (n:Nat) (m kk:Int) (l:List Int) (g:List aJ) (fs:List au) (y:Int×List Int×Int×List aJ×List au×List dI×List (List UInt8)):Prop:=
 ∃ss b j lo,y=(b,l,j,g,fs,ss,lo)∧0≤j∧(0≤b∧lo.length+b≤kk)∧(ss.length≤10∧ss.length≤m)∧∀s∈ss,WS 3 3 n s
theorem agV {n:Nat} {p m m' b i:Int} {lo r} (h:Ok r (PB n m kk l g fs)):Ok (k55 p m' b l i g fs lo r) (PB n m kk l g fs):=
 goB _ h fun y ⟨ss,b,j,lo,e,h⟩=>by subst e;exact goK rfl (goK rfl (ay ⟨ss,b,j,lo,rfl,h⟩))
theorem agW {n:Nat} {p b i:Int} {lo r} (h:Ok r (PS n kk l g fs)):Ok (k78 p b l i g fs lo r) (PS n kk l g fs):=
 goB _ h fun y ⟨k,i,nm,es,th,el,b,j,lo,e,h⟩=>by subst e;exact goK rfl (goK rfl (ay ⟨k,i,nm,es,th,el,b,j,lo,rfl,h⟩))
theorem agX {n:Nat} {p b i:Int} {lo r} (h:Ok r (PL n kk l g fs)):Ok (k97 p b l i g fs lo r) (PL n kk l g fs):=
 goB _ h fun y ⟨k,i,nm,es,th,b,j,lo,e,h⟩=>by subst e;exact goK rfl (goK rfl (ay ⟨k,i,nm,es,th,b,j,lo,rfl,h⟩))
theorem aea {β:Type} {rec:T55} {d n:Nat} (h :∀m b i lo,m≤4→0≤b→lo.length+b≤kk→0≤i→Ok (rec d m b l i g fs lo) (PB n (max m 0) kk l g fs)) {q m b i:Int} {lo f} {Q:β→Prop} (hq:q=d) (hm:m≤4) (hb:0≤b) (hl:lo.length+b≤kk) (hi:0≤i)
  (k :∀ss b' j lo',0≤j→0≤b'→lo'.length+b'≤kk→ss.length≤4→(∀s∈ss,WS 3 3 n s)→Ok (f (b',l,j,g,fs,ss,lo')) Q):Ok (Option.bind (rec q m b l i g fs lo) f) Q:=by
 subst hq
 exact goB _ (h m b i lo hm hb hl hi) fun y ⟨ss,b,j,lo,e,h1,h2,h3,h4⟩=>by subst e;exact k ss b j lo h1 h2.1 h2.2 (by omega) h4
theorem Qv {β:Type} {lo:List (List UInt8)} (h:Env l g fs lo) {b i:Int} {f} {Q:β→Prop} (hi:0≤i)
  (k :∀k o v i nm ar j,0≤j→WE 3 3 (aV.mk k o v i nm ar)→Ok (f (k,o,v,i,nm,ar,b,l,j,g,fs,lo)) Q):Ok (Option.bind (f95 2 b l i g fs lo) f) Q:=
 XZ (rec:=f95) (d:=2) (fun b i hi=>(xB h 2 (by omega) 1048576 (by omega)).1 b i hi) rfl hi k
theorem anz {β:Type} {lo:List (List UInt8)} (h:Env l g fs lo) {b i:Int} {f} {Q:β→Prop} (hi:0≤i)
  (k :∀k o v i nm ar j,0≤j→WE 3 3 (aV.mk k o v i nm ar)→Ok (f (k,o,v,i,nm,ar,b,l,j,g,fs,lo)) Q):Ok (Option.bind (f95 1 b l i g fs lo) f) Q:=
 XZ (rec:=f95) (d:=1) (fun b i hi=>(xB h 1 (by omega) 1048576 (by omega)).1 b i hi) rfl hi fun k' o v i nm ar j hj hx=>k k' o v i nm ar j hj (hx.up (by omega))
theorem anA {β:Type} {lo:List (List UInt8)} (h:Env l g fs lo) {b i:Int} {f} {Q:β→Prop} (hi:0≤i)
  (k :∀k o v i nm ar j,0≤j→WE 3 3 (aV.mk k o v i nm ar)→Ok (f (k,o,v,i,nm,b,l,j,g,fs,lo,ar)) Q):Ok (Option.bind (f98 2 b l i g fs lo) f) Q:=
 ajU (rec:=f98) (d:=2) (fun b i hi=>(xB h 2 (by omega) 1048576 (by omega)).2 1 rfl b i hi) rfl hi k
theorem aaW {b i:Int} {lo:List (List UInt8)} (hl:lo.length≤100):Ok (f93 b l i g fs lo) fun y =>∃nm t,y=(nm,t,b,l,i,g,fs,lo):=by
 refine goB (fun y =>∃nm t,y=(nm,t,b,l,i,g,fs,lo)) ?_ fun y ⟨nm,t,e⟩=>by subst e;exact goK rfl (goK rfl (goK rfl (ay ⟨nm,t,rfl⟩)))
 unfold agJ
 refine goB (fun y =>∃nm t,y=(nm,t,b,l,i,g,fs,lo)) ?_ fun y ⟨nm,t,e⟩=>by subst e;exact goC (by simp) (goC (by simp) (goC (by simp) (ay ⟨nm,t,rfl⟩)))
 refine vk (y:=[[97],[98],[99],[100],[101],[102],[105],[107]]) rfl ?_
 refine pR (fun _=>True) ?_ fun _ _=>ay ⟨_,_,rfl⟩
 refine aZ (fun s:Int=>0≤s∧s≤8) (fun s=>(8-s).toNat) ⟨by simp,by simp⟩ fun s ⟨h1,h2⟩ => ?_
 refine goI (fun hc => ?_) fun _=>ay trivial
 have hc:s<8:=by simpa using hc
 refine goB (fun _=>True) ?_ fun y _ => ?_
 ·refine aZ (fun t:Bool×Int=>0≤t.2∧t.2≤lo.length) (fun t=>(lo.length-t.2).toNat) ⟨by simp,by simp⟩ fun ⟨u,t⟩ ⟨h1,h2⟩ => ?_
  simp only at h1 h2
  refine goI (fun hc' => ?_) fun _=>ay trivial
  have hc':t<lo.length:=by simpa using hc'
  refine goB (fun _=>True) ?_ fun y _=>ay ⟨?_,?_⟩
  ·exact goI (fun _=>ay trivial) fun _=>goC (aA.2 ⟨h1,hc'⟩) (goC (aA.2 ⟨by assumption,by simpa using hc⟩) (ay trivial))
  all_goals simp only [aK (x:=t+1) (by omega)];omega
 ·refine goI (fun _=>goC (aA.2 ⟨h1,by simpa using hc⟩) (ay ⟨_,_,rfl⟩)) fun _=>ay ⟨?_,?_⟩
  all_goals simp only [aK (x:=s+1) (by omega)];omega
theorem TN {rec:T55} {rec':T78} {sQ:T97} {d:Int} {n:Nat} (h:TM kk l g fs) (hr :∀b i lo,0≤b→lo.length+b+1≤kk→0≤i→Ok (rec' d b l i g fs lo) (PS n kk l g fs))
  {m b i:Int} {lo} (hm:m≤4) (hb:0≤b) (hl:lo.length+b≤kk) (hi:0≤i):Ok (adI rec rec' sQ d m b l i g fs lo) (PB n (max m 0) kk l g fs):=by
 unfold adI
 refine goB (PB n (max m 0) kk l g fs) ?_ fun y ⟨ss,b,j,lo,e,h⟩=>by subst e;exact goC (by simp) (goC (by simp) (ay ⟨ss,b,j,lo,rfl,h⟩))
 refine goB (fun y =>∃b j ss lo,y=(b,l,j,ss,lo)∧0≤j∧(0≤b∧lo.length+b≤kk)∧((ss.length:Int)≤max m 0)∧∀s∈ss,WS 3 3 n s) ?_ fun y ⟨b,j,ss,lo,e,h1,h2,h3,h4⟩=>by subst e;exact ay ⟨ss,b,j,lo,rfl,h1,h2,⟨by omega,h3⟩,h4⟩
 refine aZ (fun s:Int×Int×List Int×Int×List dI×List (List UInt8) =>∃q b j ss lo,s=(q,b,l,j,ss,lo)∧0≤j∧(0≤b∧lo.length+b≤kk)∧(ss.length:Int)=q∧q≤max m 0∧∀s∈ss,WS 3 3 n s) (fun s=>(max m 0-s.1).toNat)
  ⟨0,b,i,[],lo,rfl,hi,⟨hb,hl⟩,rfl,by omega,fun s h=>by cases h⟩ fun s ⟨q,b,j,ss,lo,e,h1,⟨h2,h3⟩,h4,h5,h6⟩ => ?_
 subst e
 refine goB (fun t=>t=true→q<m∧0<b) ?_ fun t ht=>goI (fun e => ?_) fun _=>ay ⟨b,j,ss,lo,rfl,h1,⟨h2,h3⟩,by omega,h6⟩
 ·exact goI (fun h=>ay fun h'=>⟨by simpa using h,by simpa using h'⟩) fun _=>ay fun h=>by cases h
 obtain ⟨t1,t2⟩:=ht e
 rw [show bW (b-1)=b-1 from aK (by have:=h.k;omega)]
 refine goB _ (hr (b-1) j lo (by omega) (by omega) h1) fun y ⟨k,i',nm,es,th,el,b',j',lo',e,c1,c2,c3⟩ => ?_
 subst e
 have hk:=h.k
 refine goC (by unfold bG;simp;omega) (ay ⟨⟨_,b',j',_,lo',rfl,c1,c2,?_,?_,fun s hs => ?_⟩,?_⟩)
 all_goals try simp only [aK (x:=q+1) (by omega)]
 ·simp;omega
 ·omega
 ·rcases List.mem_append.1 hs with hs | hs
  ·exact h6 s hs
  ·rw [List.mem_singleton] at hs;subst hs;exact c3
 ·omega
theorem XJ {rec:T55} {rec':T78} {sQ:T97} {d n:Nat} (h:TM kk l g fs) (hd:d≤100) (hr :∀m b i lo,m≤4→0≤b→lo.length+b≤kk→0≤i→Ok (rec d m b l i g fs lo) (PB (n+1) (max m 0) kk l g fs))
  {b i:Int} {lo} (hb:0≤b) (hl:lo.length+b≤kk) (hi:0≤i):Ok (adK rec rec' sQ (d+1:Nat) b l i g fs lo) (PL (n+2) kk l g fs):=by
 have hw:bW (((d+1:Nat):Int)-1)=d:=by rw [aK (by omega)];omega
 have hE:=h.env (lo:=lo) (by omega)
 have hlo:=hE.lo
 unfold adK
 refine goB (PL (n+2) kk l g fs) ?_ fun y ⟨k,i,nm,es,th,b,j,lo,e,h⟩=>by subst e;exact goC (by simp) (goC (by simp) (ay ⟨k,i,nm,es,th,b,j,lo,rfl,h⟩))
 refine goP hE hi fun nm t j0 h0=>goB (fun y =>∃u j,0≤j∧(u=true→0<lo.length)∧y=(u,l,j)) ?_ fun y ⟨u,j,hj,hu,e⟩ => ?_
 ·refine goI (fun hc=>goN h.b h0 (by omega) fun x j hj _ _=>ay ⟨_,_,hj,fun _=>by simpa using hc,rfl⟩) fun _=>ay ⟨_,_,h0,fun h=>(by cases h),rfl⟩
 subst e
 refine goB (fun y =>∃nm t j,0≤j∧y=(nm,t,l,j)) ?_ fun y ⟨nm,t,j,hj,e⟩ => ?_
 ·exact goI (fun hc=>goN h.b hj (by omega) fun x j hj a1 a2=>goC (aA.2 ⟨a1,a2 (by have:=hu hc;omega)⟩) (ay ⟨_,_,_,hj,rfl⟩)) fun _=>ay ⟨_,_,_,hj,rfl⟩
 subst e
 refine goB (fun y =>∃t j,0≤j∧y=(t,l,j)) ?_ fun y ⟨t,j,hj,e⟩ => ?_
 ·exact goI (fun _=>ay ⟨_,_,hj,rfl⟩) fun _=>goN h.b hj (by omega) fun x j hj _ _=>ay ⟨_,_,hj,rfl⟩
 subst e
 refine goI (fun _=>Qv hE hj fun _ _ _ _ _ _ j hj hx=>vk rfl (goN h.b hj (by omega) fun x j hj a1 a2=>aea hr hw ?_ hb hl hj fun ss b' j lo' c1 c2 c3 c4 c5=>ay ⟨5,_,_,[_],ss,b',j,lo',rfl,c1,⟨c2,c3⟩,Rq hx (by omega) (by simp) c5 fun y h=>by cases h⟩)) fun _ => ?_
 ·have a2:=a2 (by omega)
  show bW (1+x)≤4
  rw [aK (by omega)];omega
 refine goN h.b hj (by omega) fun x j hj _ _=>vk rfl (vk rfl (goN h.b hj (by omega) fun x2 j2 h2 _ b2=>aea hr hw (by have:=b2 (by omega);omega) hb hl h2 fun ss b' j lo' c1 c2 c3 c4 c5=>vk rfl (vk rfl (goC (by unfold bG;simp;omega) (ay ⟨5,_,_,[_],ss++[_],b',j,lo',rfl,c1,⟨c2,c3⟩,Rq (we2 (we0 (by simp) (by simp) (by simp)) (we0 (by simp) (by simp) (by simp)) (by omega)) (by simp;omega) (by simp) (fun y hy => ?_) fun y h=>by cases h⟩)))))
 rcases List.mem_append.1 hy with hy | hy
 ·exact c5 y hy
 ·rw [List.mem_singleton] at hy;subst hy
  exact JJ (we2 (we0 (by simp) (by simp) (by simp)) (we0 (by simp) (by simp) (by simp)) (by omega))
end
end Go.Fg.Ytmgfidfcioiedaa

