/-
  Chapter 21, plain: names are looked up, expressions are resolved.
-/
import Derived.Test.YtfklooeiipkijaaLo
namespace Go.Fg.Ytfklooeiipkijaa
open Go.Fw
set_option linter.unusedVariables false
set_option linter.unusedSimpArgs false
theorem m_ {R:Type} {body:Int→Option (Int ⊕ R)} {Q:R→Prop} (n:Nat) (hn:n≤4000000000) (h :∀i:Int,0≤i→i<n→Ok (body i) (IY (fun j=>j=dI (i+1)) Q)) (he:Ok (body n) (IY (fun _=>False) Q)):Ok (bn body 0) Q:=by
 refine bQ (fun i:Int=>0≤i∧i≤n) (fun i=>(n-i).toNat) ⟨by simp,by omega⟩ fun i ⟨h1,h2⟩ => ?_
 by_cases hi:i<n
 ·refine kU (h i h1 hi) fun y hy => ?_
  cases y with
  |inl j=>have e:j=dI (i+1):=hy;rw [aP (by omega)] at e;exact ⟨⟨by omega,by omega⟩,by omega⟩
  |inr r=>exact hy
 ·have e:i=n:=by omega
  subst e
  refine kU he fun y hy => ?_
  cases y with
  |inl j=>exact hy.elim
  |inr r=>exact hy
section
variable {g:List ah} {fs:List au} {lo:List (List UInt8)}
theorem uq {nm:List UInt8} (hg:g.length≤1000000):Ok (f53 g fs nm) fun y=>-1≤y∧y<g.length:=by
 unfold f53
 refine rW (fun _=>True) (m_ g.length (by omega) (fun i h0 h1=>goT (decide_eq_true h1) (goC (aG.2 ⟨h0,h1⟩) (goI (fun _=>aC ⟨by omega,h1⟩) fun _=>aC rfl))) (DF (decide_eq_false (by omega)) (aC trivial))) fun _ _=>aC ⟨by omega,by omega⟩
theorem EN {nm:List UInt8} (hg:fs.length≤1000000):Ok (f54 g fs nm) fun y=>-1≤y∧y<fs.length:=by
 unfold f54
 refine rW (fun _=>True) (m_ fs.length (by omega) (fun i h0 h1=>goT (decide_eq_true h1) (goC (aG.2 ⟨h0,h1⟩) (goI (fun _=>aC ⟨by omega,h1⟩) fun _=>aC rfl))) (DF (decide_eq_false (by omega)) (aC trivial))) fun _ _=>aC ⟨by omega,by omega⟩
theorem aai {nm:List UInt8} (hg:lo.length≤1000000):Ok (f56 lo nm) fun _=>True:=by
 unfold f56
 refine rW (fun _=>True) (m_ lo.length (by omega) (fun i h0 h1=>goT (decide_eq_true h1) (goC (aG.2 ⟨h0,h1⟩) (goI (fun _=>aC trivial) fun _=>aC rfl))) (DF (decide_eq_false (by omega)) (aC trivial))) fun _ _=>aC trivial
structure Sc (g:List ah) (fs:List au) (lo:List (List UInt8)):Prop where
 g:g.length≤1000000
 f:fs.length≤1000000
 lo:lo.length≤1000000
theorem Qc {nm:List UInt8} (hg:g.length≤1000000) (hf:fs.length≤1000000):Ok (f57 g fs nm) fun y=>y=4→Ok (f54 g fs nm) fun i=>0≤i∧i<fs.length:=by
 unfold f57
 refine goB _ (uq hg) fun c ⟨h1,h2⟩=>goI (fun h=>goC (aG.2 ⟨by simpa using h,h2⟩) (goI (fun _=>aC fun h=>absurd h (by simp)) fun _=>aC fun h=>absurd h (by simp))) fun _ => ?_
 obtain ⟨c,hc,h3,h4⟩:=EN (g:=g) (nm:=nm) hf
 exact yg hc (goI (fun h=>aC fun _=>⟨c,hc,by simpa using h,h4⟩) fun _=>aC fun h=>absurd h (by simp))
theorem adC {nm:List UInt8} (h:Sc g fs lo) {a b:Int}:Ok (f71 nm g fs a b lo) fun y =>∃k,y=(k,g,fs,a,b,lo)∧(k=4→Ok (f54 g fs nm) fun i=>0≤i∧i<fs.length):=by
 refine goB (fun y =>∃k,y=(k,g,fs,a,b,lo)∧(k=4→Ok (f54 g fs nm) fun i=>0≤i∧i<fs.length)) ?_ fun y ⟨k,e,h⟩=>by subst e;exact goK rfl (aC ⟨k,rfl,h⟩)
 unfold afH
 refine goB (fun y =>∃k,y=(k,g,fs,a,b,lo)∧(k=4→Ok (f54 g fs nm) fun i=>0≤i∧i<fs.length)) ?_ fun y ⟨k,e,h⟩=>by subst e;exact goC (by simp) (aC ⟨k,rfl,h⟩)
 exact goB _ (aai h.lo) fun _ _=>goI (fun _=>aC ⟨1,rfl,fun h=>absurd h (by simp)⟩) fun _=>goB _ (Qc h.g h.f) fun c hc=>aC ⟨c,rfl,hc⟩
theorem adD {p q a b:Int}:Ok (f69 p q g fs a b lo) fun y =>∃a b,y=(g,fs,a,b,lo):=by
 refine goB (fun y =>∃a b,y=(g,fs,a,b,lo)) ?_ fun y ⟨a,b,e⟩=>by subst e;exact goK rfl (aC ⟨a,b,rfl⟩)
 unfold afG
 refine goB (fun y =>∃a b,y=(g,fs,a,b,lo)) ?_ fun y ⟨a,b,e⟩=>by subst e;exact goC (by simp) (aC ⟨a,b,rfl⟩)
 exact goB (fun y =>∃a b,y=(g,fs,a,b)) (goI (fun _=>aC ⟨_,_,rfl⟩) fun _=>aC ⟨_,_,rfl⟩) fun y ⟨a,b,e⟩=>by subst e;exact aC ⟨_,_,rfl⟩
theorem pz {β:Type} {p q a b:Int} {f:List ah×List au×Int×Int×List (List UInt8)→Option β} {Q:β→Prop} (k :∀a b,Ok (f (g,fs,a,b,lo)) Q):Ok (Option.bind (f69 p q g fs a b lo) f) Q:=
 goB _ adD fun y ⟨a,b,e⟩=>by subst e;exact k a b
theorem MR {β:Type} {nm:List UInt8} (h:Sc g fs lo) {a b:Int} {f} {Q:β→Prop} (k :∀q,(q=4→Ok (f54 g fs nm) fun i=>0≤i∧i<fs.length)→Ok (f (q,g,fs,a,b,lo)) Q):Ok (Option.bind (f71 nm g fs a b lo) f) Q:=
 goB _ (adC h) fun y ⟨q,e,h⟩=>by subst e;exact k q h
theorem adE (h:Sc g fs lo) {k o v i:Int} {nm:List UInt8} {ar:List aI} {p q a b:Int}:Ok (f78 k o v i nm ar p q g fs a b lo) fun y =>∃a b,y=(g,fs,a,b,lo):=by
 refine goB (fun y =>∃a b,y=(g,fs,a,b,lo)) ?_ fun y ⟨a,b,e⟩=>by subst e;exact goK rfl (aC ⟨a,b,rfl⟩)
 unfold afL
 refine goB (fun y =>∃a b,y=(g,fs,a,b,lo)) ?_ fun y ⟨a,b,e⟩=>by subst e;exact goC (by simp) (aC ⟨a,b,rfl⟩)
 refine MR h fun q _=>goB (fun y =>∃a b,y=(g,fs,a,b)) ?_ fun y ⟨a,b,e⟩=>by subst e;exact aC ⟨_,_,rfl⟩
 refine goI (fun _=>pz fun _ _=>aC ⟨_,_,rfl⟩) fun _=>goB (fun _=>True) ?_ fun _ _=>goB (fun y =>∃a b,y=(g,fs,a,b)) ?_ fun y ⟨a,b,e⟩=>by subst e;exact aC ⟨_,_,rfl⟩
 ·exact goI (fun _=>aC trivial) fun _=>aC trivial
 ·exact goI (fun _=>pz fun _ _=>aC ⟨_,_,rfl⟩) fun _=>aC ⟨_,_,rfl⟩
theorem SG {β:Type} (h:Sc g fs lo) {k o v i:Int} {nm:List UInt8} {ar:List aI} {p q a b:Int} {f} {Q:β→Prop} (k' :∀a b,Ok (f (g,fs,a,b,lo)) Q):Ok (Option.bind (f78 k o v i nm ar p q g fs a b lo) f) Q:=
 goB _ (adE h) fun y ⟨a,b,e⟩=>by subst e;exact k' a b
theorem aaj (h:Sc g fs lo) {i a b:Int} {nm:List UInt8}:Ok (f79 nm i g fs a b lo) fun y =>∃k,(k=2∨k=3)∧y=(k,0,0,i,nm,g,fs,a,b,lo):=by
 refine goB (fun y =>∃k,(k=2∨k=3)∧y=(k,0,0,i,nm,g,fs,a,b,lo)) ?_ fun y ⟨k,hk,e⟩=>by subst e;exact goK rfl (aC ⟨k,hk,rfl⟩)
 unfold afM
 refine goB (fun y =>∃k,(k=2∨k=3)∧y=(k,0,0,i,nm,g,fs,a,b,lo)) ?_ fun y ⟨k,hk,e⟩=>by subst e;exact goC (by simp) (aC ⟨k,hk,rfl⟩)
 exact MR h fun q _=>goB (fun k=>k=2∨k=3) (goI (fun _=>aC (by simp)) fun _=>aC (by simp)) fun k hk=>aC ⟨k,hk,rfl⟩
theorem Vd {β:Type} (h:Sc g fs lo) {i a b:Int} {nm:List UInt8} {f} {Q:β→Prop} (k' :∀k,(k=2∨k=3)→Ok (f (k,0,0,i,nm,g,fs,a,b,lo)) Q):Ok (Option.bind (f79 nm i g fs a b lo) f) Q:=
 goB _ (aaj h) fun y ⟨k,hk,e⟩=>by subst e;exact k' k hk
def PX (n:Nat) (g:List ah) (fs:List au) (lo:List (List UInt8)) (y:Int×Int×Int×Int×List UInt8×List ah×List au×Int×Int×List (List UInt8)×List aI):Prop:=
 ∃k o v i nm a b ar,y=(k,o,v,i,nm,g,fs,a,b,lo,ar)∧WE 4 n (aI.mk k o v i nm ar)
def PXs (n m:Nat) (g:List ah) (fs:List au) (lo:List (List UInt8)) (y:List ah×List au×Int×Int×List (List UInt8)×List aI):Prop:=
 ∃a b ar,y=(g,fs,a,b,lo,ar)∧ar.length=m∧∀x∈ar,WE 4 n x
theorem SH {rec:T70} {rec':T80} {n:Nat} {ls:List aI} (hl:ls.length≤10) (hr :∀x∈ls,∀a b,Ok (rec x.kind x.op x.value x.line x.name x.args g fs a b lo) (PX n g fs lo)) {a b:Int} :
  Ok (acL rec rec' ls g fs a b lo) (PXs n ls.length g fs lo):=by
 unfold acL
 refine goB (PXs n ls.length g fs lo) ?_ fun y ⟨a,b,ar,e,h⟩=>by subst e;exact goC (by simp) (aC ⟨a,b,ar,rfl,h⟩)
 refine goB (fun y =>∃a b ar,y=(g,fs,a,b,ar)∧ar.length=ls.length∧∀x∈ar,WE 4 n x) ?_ fun y ⟨a,b,ar,e,h⟩=>by subst e;exact aC ⟨a,b,ar,rfl,h⟩
 refine bQ (fun s:Int×List ah×List au×Int×Int×List aI =>∃q a b ar,s=(q,g,fs,a,b,ar)∧(ar.length:Int)=q∧ar.length≤ls.length∧∀x∈ar,WE 4 n x) (fun s=>(ls.length-s.1).toNat) ⟨0,a,b,[],rfl,rfl,by simp,fun x h=>by cases h⟩ fun s ⟨q,a,b,ar,e,h1,h2,h3⟩ => ?_
 subst e;subst h1
 refine goI (fun hc => ?_) fun hc=>aC ⟨a,b,ar,rfl,?_,h3⟩
 ·have hc:ar.length<ls.length:=by simp at hc;omega
  refine goC (aG.2 ⟨by simp only;omega,by simp only;omega⟩) (goB _ (hr _ (by rw [getD_at _ (by simpa using hc)];exact List.getElem_mem _) a b) fun y ⟨k,o,v,i,nm,a,b,ar',e,hx⟩ => ?_)
  subst e
  refine goC (by unfold bF;simp;omega) (aC ⟨⟨_,a,b,_,rfl,?_,?_,fun x hx' => ?_⟩,?_⟩)
  all_goals try simp only [aP (x:=(ar.length:Int)+1) (by omega)]
  ·simp
  ·simp;omega
  ·rcases List.mem_append.1 hx' with h | h
   ·exact h3 x h
   ·rw [List.mem_singleton] at h;subst h;exact hx
  ·omega
 ·have hc:¬ (ar.length:Int)<ls.length:=by simpa using hc
  omega
theorem aak {rec:T70} {rec':T80} {n:Nat} (h:Sc g fs lo) {k o v i a b:Int} {nm:List UInt8} {ar:List aI} (hx:WE 3 (n+1) (aI.mk k o v i nm ar)) (hr :∀a b,Ok (rec' ar g fs a b lo) (PXs (n+1) ar.length g fs lo)) :
  Ok (acK rec rec' k o v i nm ar g fs a b lo) (PX (n+2) g fs lo):=by
 obtain ⟨w1,w2,w3,w4⟩:=hx
 unfold acK
 refine goB (PX (n+2) g fs lo) ?_ fun y ⟨k,o,v,i,nm,a,b,ar,e,h⟩=>by subst e;exact goC (by simp) (aC ⟨k,o,v,i,nm,a,b,ar,rfl,h⟩)
 refine goI (fun _=>SG h fun a b=>Vd h fun k hk=>aC ⟨k,0,0,i,nm,a,b,[],rfl,we0 (by omega) (by omega) (by omega)⟩) fun _ => ?_
 have fin :∀y:List ah×List au×Int×Int,(∃a b,y=(g,fs,a,b))→Ok (Option.bind (rec' ar y.1 y.2.1 y.2.2.1 y.2.2.2 lo) fun c40=>some (k,o,v,i,nm,c40.1,c40.2.1,c40.2.2.1,c40.2.2.2.1,lo,c40.2.2.2.2.2)) (PX (n+2) g fs lo):=fun y ⟨a,b,e⟩=>by
  subst e
  refine goB _ (hr a b) fun y ⟨a,b,ar',e,h1,h2⟩ => ?_
  subst e
  exact aC ⟨k,o,v,i,nm,a,b,ar',rfl,⟨by simp only at w1 ⊢;omega,fun h=>by have:=w2 h;simp only at this ⊢;omega,fun h=>by have:=w3 h;simp only at this ⊢;omega,h2⟩⟩
 refine rW (fun y =>∃a b,y=(g,fs,a,b)) ?_ fin
 refine goI (fun _=>SG h fun a b=>aC ⟨_,_,rfl⟩) fun _=>rW (fun y =>∃a b,y=(g,fs,a,b)) ?_ fun y ⟨a,b,e⟩=>by subst e;exact aC ⟨_,_,rfl⟩
 refine goI (fun _=>SG h fun a b=>aC ⟨_,_,rfl⟩) fun _=>rW (fun y =>∃a b,y=(g,fs,a,b)) ?_ fun y ⟨a,b,e⟩=>by subst e;exact aC ⟨_,_,rfl⟩
 refine goI (fun _=>MR h fun q hq=>rW (fun y =>∃a b,y=(g,fs,a,b)) ?_ fun y ⟨a,b,e⟩=>by subst e;exact aC ⟨_,_,rfl⟩) fun _=>goB (fun y =>∃a b,y=(g,fs,a,b)) ?_ fun y ⟨a,b,e⟩=>by subst e;exact aC ⟨_,_,rfl⟩
 ·refine goI (fun _=>pz fun a b=>aC ⟨_,_,rfl⟩) fun _=>rW (fun y =>∃a b,y=(g,fs,a,b)) ?_ fun y ⟨a,b,e⟩=>by subst e;exact aC ⟨_,_,rfl⟩
  refine goI (fun _=>pz fun a b=>aC ⟨_,_,rfl⟩) fun _=>goI (fun h4=>goB _ (hq (by simpa using h4)) fun c hc=>goC (aG.2 hc) (goB (fun y =>∃a b,y=(g,fs,a,b)) ?_ fun y ⟨a,b,e⟩=>by subst e;exact aC ⟨_,_,rfl⟩)) fun _=>goB (fun y =>∃a b,y=(g,fs,a,b)) ?_ fun y ⟨a,b,e⟩ => ?_
  ·exact goI (fun _=>pz fun a b=>aC ⟨_,_,rfl⟩) fun _=>aC ⟨_,_,rfl⟩
  ·exact goI (fun _=>pz fun a b=>aC ⟨_,_,rfl⟩) fun _=>aC ⟨_,_,rfl⟩
  ·subst e
   refine Vd h fun k hk=>goB _ (hr a b) fun y ⟨a,b,ar',e,h1,h2⟩ => ?_
   subst e
   refine goC (by unfold bF;simp at w1 ⊢;omega) (aC ⟨10,0,0,i,dA,a,b,_,rfl,⟨by simp at w1 ⊢;omega,fun h=>absurd h (by simp),fun h=>by simp,fun z hz => ?_⟩⟩)
   rcases List.mem_append.1 hz with hz | hz
   ·rw [List.mem_singleton] at hz;subst hz;exact we0 (by omega) (by omega) (by omega)
   ·exact h2 z hz
 ·refine goI (fun _=>goB (fun y =>∃a b,y=(g,fs,a,b)) ?_ fun y ⟨a,b,e⟩=>by subst e;exact aC ⟨_,_,rfl⟩) fun _=>aC ⟨_,_,rfl⟩
  exact goI (fun _=>pz fun a b=>aC ⟨_,_,rfl⟩) fun _=>aC ⟨_,_,rfl⟩
theorem aal (n:Nat):(qQ (n+1)).1=acK (acM n) (ahS n):=rfl
theorem aam (n:Nat):(qQ (n+1)).2=acL (acM n) (ahS n):=rfl
theorem J7 (h:Sc g fs lo) :∀n:Nat,∀k,2*n≤k→∀x,WE 3 n x→∀a b,Ok (acM k x.kind x.op x.value x.line x.name x.args g fs a b lo) (PX (n+1) g fs lo)
 |0,_,_=>fun _ h=>h.elim
 |n+1,0,hk=>by omega
 |n+1,1,hk=>by omega
 |n+1,k+2,hk=>fun x hx a b=>by
  have ih:=J7 h n k (by omega)
  obtain ⟨x1,x2,x3,x4,x5,x6⟩:=x
  refine goB (PX (n+2) g fs lo) ?_ fun y ⟨k,o,v,i,nm,a,b,ar,e,h⟩=>by subst e;exact goK rfl (aC ⟨k,o,v,i,nm,a,b,ar,rfl,h⟩)
  rw [aal]
  refine aak h hx fun a b => ?_
  refine goB (PXs (n+1) x6.length g fs lo) ?_ fun y ⟨a,b,ar,e,h⟩=>by subst e;exact goK rfl (aC ⟨a,b,ar,rfl,h⟩)
  rw [aam]
  exact SH (Nat.le_trans hx.1 (by omega)) fun z hz a b=>ih z (hx.2.2.2 z hz) a b
theorem J8 {m:Nat} (hm:m≤10) :∀n k:Nat,n≤k→∀x,WE m n x→Ok (afF k x.kind x.op x.value x.line x.name x.args) fun _=>True
 |0,_,_,_,h=>h.elim
 |n+1,0,hk,_,_=>by omega
 |n+1,k+1,hk,x,h=>by
  have ih:=J8 hm n k (by omega)
  show Ok (afE (afF k) x.kind x.op x.value x.line x.name x.args) _
  unfold afE
  refine goB (fun _=>True) ?_ fun _ _=>aC trivial
  have hl:=h.1
  refine bQ (fun s:Int×Int=>0≤s.2∧s.2≤x.args.length) (fun s=>(x.args.length-s.2).toNat) ⟨by simp,by simp⟩ fun ⟨z,q⟩ ⟨h1,h2⟩=>goI (fun hc => ?_) fun _=>aC trivial
  have hc:q<x.args.length:=by simpa using hc
  simp only at h1 h2
  refine goC (aG.2 ⟨h1,hc⟩) (goB _ (ih _ (h.2.2.2 _ (by rw [getD_at _ (by simp only;omega)];exact List.getElem_mem _))) fun _ _=>aC ⟨⟨?_,?_⟩,?_⟩)
  all_goals simp only [aP (x:=q+1) (by omega)];omega
end
end Go.Fg.Ytfklooeiipkijaa

