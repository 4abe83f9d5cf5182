/-
  Chapter 11, plain: names are looked up, expressions are resolved.
-/
import Derived.Test.YtmgfidfcioiedaaLo
namespace Go.Fg.Ytmgfidfcioiedaa
open Go.Fw
set_option linter.unusedVariables false
set_option linter.unusedSimpArgs false
theorem jJ {R:Type} {body:Int→Option (Int ⊕ R)} {Q:R→Prop} (n:Nat) (hn:n≤4000000000) (h :∀i:Int,0≤i→i<n→Ok (body i) (Js (fun j=>j=bW (i+1)) Q)) (he:Ok (body n) (Js (fun _=>False) Q)):Ok (aY body 0) Q:=by
 refine aZ (fun i:Int=>0≤i∧i≤n) (fun i=>(n-i).toNat) ⟨by simp,by omega⟩ fun i ⟨h1,h2⟩ => ?_
 by_cases hi:i<n
 ·refine ku (h i h1 hi) fun y hy => ?_
  cases y with
  |inl j=>have e:j=bW (i+1):=hy;rw [aK (by omega)] at e;exact ⟨⟨by omega,by omega⟩,by omega⟩
  |inr r=>exact hy
 ·have e:i=n:=by omega
  subst e
  refine ku he fun y hy => ?_
  cases y with
  |inl j=>exact hy.elim
  |inr r=>exact hy
section
variable {g:List aJ} {fs:List au} {lo:List (List UInt8)}
theorem uJ {nm:List UInt8} (hg:g.length≤1000000):Ok (f49 g fs nm) fun y=>-1≤y∧y<g.length:=by
 unfold f49
 refine pR (fun _=>True) (jJ g.length (by omega) (fun i h0 h1=>goT (decide_eq_true h1) (goC (aA.2 ⟨h0,h1⟩) (goI (fun _=>ay ⟨by omega,h1⟩) fun _=>ay rfl))) (Ee (decide_eq_false (by omega)) (ay trivial))) fun _ _=>ay ⟨by omega,by omega⟩
theorem Fz {nm:List UInt8} (hg:fs.length≤1000000):Ok (f50 g fs nm) fun y=>-1≤y∧y<fs.length:=by
 unfold f50
 refine pR (fun _=>True) (jJ fs.length (by omega) (fun i h0 h1=>goT (decide_eq_true h1) (goC (aA.2 ⟨h0,h1⟩) (goI (fun _=>ay ⟨by omega,h1⟩) fun _=>ay rfl))) (Ee (decide_eq_false (by omega)) (ay trivial))) fun _ _=>ay ⟨by omega,by omega⟩
theorem aa0 {nm:List UInt8} (hg:lo.length≤1000000):Ok (f52 lo nm) fun _=>True:=by
 unfold f52
 refine pR (fun _=>True) (jJ lo.length (by omega) (fun i h0 h1=>goT (decide_eq_true h1) (goC (aA.2 ⟨h0,h1⟩) (goI (fun _=>ay trivial) fun _=>ay rfl))) (Ee (decide_eq_false (by omega)) (ay trivial))) fun _ _=>ay trivial
structure Sc (g:List aJ) (fs:List au) (lo:List (List UInt8)):Prop where
 g:g.length≤1000000
 f:fs.length≤1000000
 lo:lo.length≤1000000
theorem Qx {nm:List UInt8} (hg:g.length≤1000000) (hf:fs.length≤1000000):Ok (f53 g fs nm) fun y=>y=4→Ok (f50 g fs nm) fun i=>0≤i∧i<fs.length:=by
 unfold f53
 refine goB _ (uJ hg) fun c ⟨h1,h2⟩=>goI (fun h=>goC (aA.2 ⟨by simpa using h,h2⟩) (goI (fun _=>ay fun h=>absurd h (by simp)) fun _=>ay fun h=>absurd h (by simp))) fun _ => ?_
 obtain ⟨c,hc,h3,h4⟩:=Fz (g:=g) (nm:=nm) hf
 exact vk hc (goI (fun h=>ay fun _=>⟨c,hc,by simpa using h,h4⟩) fun _=>ay fun h=>absurd h (by simp))
theorem aeb {nm:List UInt8} (h:Sc g fs lo) {a b:Int}:Ok (f77 nm g fs a b lo) fun y =>∃k,y=(k,g,fs,a,b,lo)∧(k=4→Ok (f50 g fs nm) fun i=>0≤i∧i<fs.length):=by
 refine goB (fun y =>∃k,y=(k,g,fs,a,b,lo)∧(k=4→Ok (f50 g fs nm) fun i=>0≤i∧i<fs.length)) ?_ fun y ⟨k,e,h⟩=>by subst e;exact goK rfl (ay ⟨k,rfl,h⟩)
 unfold agv
 refine goB (fun y =>∃k,y=(k,g,fs,a,b,lo)∧(k=4→Ok (f50 g fs nm) fun i=>0≤i∧i<fs.length)) ?_ fun y ⟨k,e,h⟩=>by subst e;exact goC (by simp) (ay ⟨k,rfl,h⟩)
 exact goB _ (aa0 h.lo) fun _ _=>goI (fun _=>ay ⟨1,rfl,fun h=>absurd h (by simp)⟩) fun _=>goB _ (Qx h.g h.f) fun c hc=>ay ⟨c,rfl,hc⟩
theorem aec {p q a b:Int}:Ok (f75 p q g fs a b lo) fun y =>∃a b,y=(g,fs,a,b,lo):=by
 refine goB (fun y =>∃a b,y=(g,fs,a,b,lo)) ?_ fun y ⟨a,b,e⟩=>by subst e;exact goK rfl (ay ⟨a,b,rfl⟩)
 unfold agu
 refine goB (fun y =>∃a b,y=(g,fs,a,b,lo)) ?_ fun y ⟨a,b,e⟩=>by subst e;exact goC (by simp) (ay ⟨a,b,rfl⟩)
 exact goB (fun y =>∃a b,y=(g,fs,a,b)) (goI (fun _=>ay ⟨_,_,rfl⟩) fun _=>ay ⟨_,_,rfl⟩) fun y ⟨a,b,e⟩=>by subst e;exact ay ⟨_,_,rfl⟩
theorem pU {β:Type} {p q a b:Int} {f:List aJ×List au×Int×Int×List (List UInt8)→Option β} {Q:β→Prop} (k :∀a b,Ok (f (g,fs,a,b,lo)) Q):Ok (Option.bind (f75 p q g fs a b lo) f) Q:=
 goB _ aec fun y ⟨a,b,e⟩=>by subst e;exact k a b
theorem Nz {β:Type} {nm:List UInt8} (h:Sc g fs lo) {a b:Int} {f} {Q:β→Prop} (k :∀q,(q=4→Ok (f50 g fs nm) fun i=>0≤i∧i<fs.length)→Ok (f (q,g,fs,a,b,lo)) Q):Ok (Option.bind (f77 nm g fs a b lo) f) Q:=
 goB _ (aeb h) fun y ⟨q,e,h⟩=>by subst e;exact k q h
theorem aed (h:Sc g fs lo) {k o v i:Int} {nm:List UInt8} {ar:List aV} {p q a b:Int}:Ok (f90 k o v i nm ar p q g fs a b lo) fun y =>∃a b,y=(g,fs,a,b,lo):=by
 refine goB (fun y =>∃a b,y=(g,fs,a,b,lo)) ?_ fun y ⟨a,b,e⟩=>by subst e;exact goK rfl (ay ⟨a,b,rfl⟩)
 unfold agz
 refine goB (fun y =>∃a b,y=(g,fs,a,b,lo)) ?_ fun y ⟨a,b,e⟩=>by subst e;exact goC (by simp) (ay ⟨a,b,rfl⟩)
 refine Nz h fun q _=>goB (fun y =>∃a b,y=(g,fs,a,b)) ?_ fun y ⟨a,b,e⟩=>by subst e;exact ay ⟨_,_,rfl⟩
 refine goI (fun _=>pU fun _ _=>ay ⟨_,_,rfl⟩) fun _=>goB (fun _=>True) ?_ fun _ _=>goB (fun y =>∃a b,y=(g,fs,a,b)) ?_ fun y ⟨a,b,e⟩=>by subst e;exact ay ⟨_,_,rfl⟩
 ·exact goI (fun _=>ay trivial) fun _=>ay trivial
 ·exact goI (fun _=>pU fun _ _=>ay ⟨_,_,rfl⟩) fun _=>ay ⟨_,_,rfl⟩
theorem TQ {β:Type} (h:Sc g fs lo) {k o v i:Int} {nm:List UInt8} {ar:List aV} {p q a b:Int} {f} {Q:β→Prop} (k' :∀a b,Ok (f (g,fs,a,b,lo)) Q):Ok (Option.bind (f90 k o v i nm ar p q g fs a b lo) f) Q:=
 goB _ (aed h) fun y ⟨a,b,e⟩=>by subst e;exact k' a b
theorem aa1 (h:Sc g fs lo) {i a b:Int} {nm:List UInt8}:Ok (f91 nm i g fs a b lo) fun y =>∃k,(k=2∨k=3)∧y=(k,0,0,i,nm,g,fs,a,b,lo):=by
 refine goB (fun y =>∃k,(k=2∨k=3)∧y=(k,0,0,i,nm,g,fs,a,b,lo)) ?_ fun y ⟨k,hk,e⟩=>by subst e;exact goK rfl (ay ⟨k,hk,rfl⟩)
 unfold agA
 refine goB (fun y =>∃k,(k=2∨k=3)∧y=(k,0,0,i,nm,g,fs,a,b,lo)) ?_ fun y ⟨k,hk,e⟩=>by subst e;exact goC (by simp) (ay ⟨k,hk,rfl⟩)
 exact Nz h fun q _=>goB (fun k=>k=2∨k=3) (goI (fun _=>ay (by simp)) fun _=>ay (by simp)) fun k hk=>ay ⟨k,hk,rfl⟩
theorem VN {β:Type} (h:Sc g fs lo) {i a b:Int} {nm:List UInt8} {f} {Q:β→Prop} (k' :∀k,(k=2∨k=3)→Ok (f (k,0,0,i,nm,g,fs,a,b,lo)) Q):Ok (Option.bind (f91 nm i g fs a b lo) f) Q:=
 goB _ (aa1 h) fun y ⟨k,hk,e⟩=>by subst e;exact k' k hk
def PX (n:Nat) (g:List aJ) (fs:List au) (lo:List (List UInt8)) (y:Int×Int×Int×Int×List UInt8×List aJ×List au×Int×Int×List (List UInt8)×List aV):Prop:=
 ∃k o v i nm a b ar,y=(k,o,v,i,nm,g,fs,a,b,lo,ar)∧WE 4 n (aV.mk k o v i nm ar)
def PXs (n m:Nat) (g:List aJ) (fs:List au) (lo:List (List UInt8)) (y:List aJ×List au×Int×Int×List (List UInt8)×List aV):Prop:=
 ∃a b ar,y=(g,fs,a,b,lo,ar)∧ar.length=m∧∀x∈ar,WE 4 n x
theorem TR {rec:T76} {rec':T92} {n:Nat} {ls:List aV} (hl:ls.length≤10) (hr :∀x∈ls,∀a b,Ok (rec x.kind x.op x.value x.line x.name x.args g fs a b lo) (PX n g fs lo)) {a b:Int} :
  Ok (adh rec rec' ls g fs a b lo) (PXs n ls.length g fs lo):=by
 unfold adh
 refine goB (PXs n ls.length g fs lo) ?_ fun y ⟨a,b,ar,e,h⟩=>by subst e;exact goC (by simp) (ay ⟨a,b,ar,rfl,h⟩)
 refine goB (fun y =>∃a b ar,y=(g,fs,a,b,ar)∧ar.length=ls.length∧∀x∈ar,WE 4 n x) ?_ fun y ⟨a,b,ar,e,h⟩=>by subst e;exact ay ⟨a,b,ar,rfl,h⟩
 refine aZ (fun s:Int×List aJ×List au×Int×Int×List aV =>∃q a b ar,s=(q,g,fs,a,b,ar)∧(ar.length:Int)=q∧ar.length≤ls.length∧∀x∈ar,WE 4 n x) (fun s=>(ls.length-s.1).toNat) ⟨0,a,b,[],rfl,rfl,by simp,fun x h=>by cases h⟩ fun s ⟨q,a,b,ar,e,h1,h2,h3⟩ => ?_
 subst e;subst h1
 refine goI (fun hc => ?_) fun hc=>ay ⟨a,b,ar,rfl,?_,h3⟩
 ·have hc:ar.length<ls.length:=by simp at hc;omega
  refine goC (aA.2 ⟨by simp only;omega,by simp only;omega⟩) (goB _ (hr _ (by rw [getD_at _ (by simpa using hc)];exact List.getElem_mem _) a b) fun y ⟨k,o,v,i,nm,a,b,ar',e,hx⟩ => ?_)
  subst e
  refine goC (by unfold bG;simp;omega) (ay ⟨⟨_,a,b,_,rfl,?_,?_,fun x hx' => ?_⟩,?_⟩)
  all_goals try simp only [aK (x:=(ar.length:Int)+1) (by omega)]
  ·simp
  ·simp;omega
  ·rcases List.mem_append.1 hx' with h | h
   ·exact h3 x h
   ·rw [List.mem_singleton] at h;subst h;exact hx
  ·omega
 ·have hc:¬ (ar.length:Int)<ls.length:=by simpa using hc
  omega
theorem aa2 {rec:T76} {rec':T92} {n:Nat} (h:Sc g fs lo) {k o v i a b:Int} {nm:List UInt8} {ar:List aV} (hx:WE 3 (n+1) (aV.mk k o v i nm ar)) (hr :∀a b,Ok (rec' ar g fs a b lo) (PXs (n+1) ar.length g fs lo)) :
  Ok (adg rec rec' k o v i nm ar g fs a b lo) (PX (n+2) g fs lo):=by
 obtain ⟨w1,w2,w3,w4⟩:=hx
 unfold adg
 refine goB (PX (n+2) g fs lo) ?_ fun y ⟨k,o,v,i,nm,a,b,ar,e,h⟩=>by subst e;exact goC (by simp) (ay ⟨k,o,v,i,nm,a,b,ar,rfl,h⟩)
 refine goI (fun _=>TQ h fun a b=>VN h fun k hk=>ay ⟨k,0,0,i,nm,a,b,[],rfl,we0 (by omega) (by omega) (by omega)⟩) fun _ => ?_
 have fin :∀y:List aJ×List au×Int×Int,(∃a b,y=(g,fs,a,b))→Ok (Option.bind (rec' ar y.1 y.2.1 y.2.2.1 y.2.2.2 lo) fun c40=>some (k,o,v,i,nm,c40.1,c40.2.1,c40.2.2.1,c40.2.2.2.1,lo,c40.2.2.2.2.2)) (PX (n+2) g fs lo):=fun y ⟨a,b,e⟩=>by
  subst e
  refine goB _ (hr a b) fun y ⟨a,b,ar',e,h1,h2⟩ => ?_
  subst e
  exact ay ⟨k,o,v,i,nm,a,b,ar',rfl,⟨by simp only at w1 ⊢;omega,fun h=>by have:=w2 h;simp only at this ⊢;omega,fun h=>by have:=w3 h;simp only at this ⊢;omega,h2⟩⟩
 refine pR (fun y =>∃a b,y=(g,fs,a,b)) ?_ fin
 refine goI (fun _=>TQ h fun a b=>ay ⟨_,_,rfl⟩) fun _=>pR (fun y =>∃a b,y=(g,fs,a,b)) ?_ fun y ⟨a,b,e⟩=>by subst e;exact ay ⟨_,_,rfl⟩
 refine goI (fun _=>TQ h fun a b=>ay ⟨_,_,rfl⟩) fun _=>pR (fun y =>∃a b,y=(g,fs,a,b)) ?_ fun y ⟨a,b,e⟩=>by subst e;exact ay ⟨_,_,rfl⟩
 refine goI (fun _=>Nz h fun q hq=>pR (fun y =>∃a b,y=(g,fs,a,b)) ?_ fun y ⟨a,b,e⟩=>by subst e;exact ay ⟨_,_,rfl⟩) fun _=>goB (fun y =>∃a b,y=(g,fs,a,b)) ?_ fun y ⟨a,b,e⟩=>by subst e;exact ay ⟨_,_,rfl⟩
 ·refine goI (fun _=>pU fun a b=>ay ⟨_,_,rfl⟩) fun _=>pR (fun y =>∃a b,y=(g,fs,a,b)) ?_ fun y ⟨a,b,e⟩=>by subst e;exact ay ⟨_,_,rfl⟩
  refine goI (fun _=>pU fun a b=>ay ⟨_,_,rfl⟩) fun _=>goI (fun h4=>goB _ (hq (by simpa using h4)) fun c hc=>goC (aA.2 hc) (goB (fun y =>∃a b,y=(g,fs,a,b)) ?_ fun y ⟨a,b,e⟩=>by subst e;exact ay ⟨_,_,rfl⟩)) fun _=>goB (fun y =>∃a b,y=(g,fs,a,b)) ?_ fun y ⟨a,b,e⟩ => ?_
  ·exact goI (fun _=>pU fun a b=>ay ⟨_,_,rfl⟩) fun _=>ay ⟨_,_,rfl⟩
  ·exact goI (fun _=>pU fun a b=>ay ⟨_,_,rfl⟩) fun _=>ay ⟨_,_,rfl⟩
  ·subst e
   refine VN h fun k hk=>goB _ (hr a b) fun y ⟨a,b,ar',e,h1,h2⟩ => ?_
   subst e
   refine goC (by unfold bG;simp at w1 ⊢;omega) (ay ⟨10,0,0,i,cO,a,b,_,rfl,⟨by simp at w1 ⊢;omega,fun h=>absurd h (by simp),fun h=>by simp,fun z hz => ?_⟩⟩)
   rcases List.mem_append.1 hz with hz | hz
   ·rw [List.mem_singleton] at hz;subst hz;exact we0 (by omega) (by omega) (by omega)
   ·exact h2 z hz
 ·refine goI (fun _=>goB (fun y =>∃a b,y=(g,fs,a,b)) ?_ fun y ⟨a,b,e⟩=>by subst e;exact ay ⟨_,_,rfl⟩) fun _=>ay ⟨_,_,rfl⟩
  exact goI (fun _=>pU fun a b=>ay ⟨_,_,rfl⟩) fun _=>ay ⟨_,_,rfl⟩
theorem aa3 (n:Nat):(rF (n+1)).1=adg (adi n) (ajm n):=rfl
theorem aa4 (n:Nat):(rF (n+1)).2=adh (adi n) (ajm n):=rfl
theorem KN (h:Sc g fs lo) :∀n:Nat,∀k,2*n≤k→∀x,WE 3 n x→∀a b,Ok (adi k x.kind x.op x.value x.line x.name x.args g fs a b lo) (PX (n+1) g fs lo)
 |0,_,_=>fun _ h=>h.elim
 |n+1,0,hk=>by omega
 |n+1,1,hk=>by omega
 |n+1,k+2,hk=>fun x hx a b=>by
  have ih:=KN h n k (by omega)
  obtain ⟨x1,x2,x3,x4,x5,x6⟩:=x
  refine goB (PX (n+2) g fs lo) ?_ fun y ⟨k,o,v,i,nm,a,b,ar,e,h⟩=>by subst e;exact goK rfl (ay ⟨k,o,v,i,nm,a,b,ar,rfl,h⟩)
  rw [aa3]
  refine aa2 h hx fun a b => ?_
  refine goB (PXs (n+1) x6.length g fs lo) ?_ fun y ⟨a,b,ar,e,h⟩=>by subst e;exact goK rfl (ay ⟨a,b,ar,rfl,h⟩)
  rw [aa4]
  exact TR (Nat.le_trans hx.1 (by omega)) fun z hz a b=>ih z (hx.2.2.2 z hz) a b
theorem KO {m:Nat} (hm:m≤10) :∀n k:Nat,n≤k→∀x,WE m n x→Ok (agt k x.kind x.op x.value x.line x.name x.args) fun _=>True
 |0,_,_,_,h=>h.elim
 |n+1,0,hk,_,_=>by omega
 |n+1,k+1,hk,x,h=>by
  have ih:=KO hm n k (by omega)
  show Ok (ags (agt k) x.kind x.op x.value x.line x.name x.args) _
  unfold ags
  refine goB (fun _=>True) ?_ fun _ _=>ay trivial
  have hl:=h.1
  refine aZ (fun s:Int×Int=>0≤s.2∧s.2≤x.args.length) (fun s=>(x.args.length-s.2).toNat) ⟨by simp,by simp⟩ fun ⟨z,q⟩ ⟨h1,h2⟩=>goI (fun hc => ?_) fun _=>ay trivial
  have hc:q<x.args.length:=by simpa using hc
  simp only at h1 h2
  refine goC (aA.2 ⟨h1,hc⟩) (goB _ (ih _ (h.2.2.2 _ (by rw [getD_at _ (by simp only;omega)];exact List.getElem_mem _))) fun _ _=>ay ⟨⟨?_,?_⟩,?_⟩)
  all_goals simp only [aK (x:=q+1) (by omega)];omega
end
end Go.Fg.Ytmgfidfcioiedaa

