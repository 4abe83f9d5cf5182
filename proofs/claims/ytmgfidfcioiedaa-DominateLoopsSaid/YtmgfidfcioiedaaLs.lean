/-
  Chapter 11, plain: statements are lowered.
-/
import Derived.Test.YtmgfidfcioiedaaLr
namespace Go.Fg.Ytmgfidfcioiedaa
open Go.Fw
set_option linter.unusedVariables false
set_option linter.unusedSimpArgs false
def CS:Nat→Nat
 |0=>0
 |n+1=>20*CS n+1030
section
variable {g:List aJ} {fs:List au} {lo:List (List UInt8)} {nu:Int}
def PW (k m:Nat) (g:List aJ) (fs:List au) (lo:List (List UInt8)) (nu:Int) (y:Bool×List aJ×List au×List (List UInt8)×Int×Int×Int×List aH):Prop:=
 ∃t re a bl,y=(t,g,fs,lo,nu,re,a,bl)∧m≤bl.length∧Bd k a bl
theorem ajW {β:Type} {x:aV} {t a re:Int} {k:Nat} {bl:List aH} {f} {Q:β→Prop} (hS:Sc g fs lo) (hx:WE 4 4 x) (h:Bd k a bl) (hk:k+510≤1000000000) (q :∀re' a' gY,bl.length≤gY.length→Bd (k+510) a' gY→Ok (f (g,fs,lo,nu,re',a',gY)) Q) :
  Ok (Option.bind (f68 x.kind x.op x.value x.line x.name x.args t g fs lo nu re a bl) f) Q:=
 goV (rec:=f68) (c:=510) (fun t re a bl k h hk=>VP hS 4 1048576 (by omega) x hx t re a bl k h hk) h hk q
theorem agY {β:Type} {rec:XY} {c:Nat} {ss:List dI} {a re:Int} {k:Nat} {bl:List aH} {f} {Q:β→Prop} (hr :∀re a bl k,Bd k a bl→k+c≤1000000000→Ok (rec ss g fs lo nu re a bl) (PW (k+c) bl.length g fs lo nu))
  (h:Bd k a bl) (hk:k+c≤1000000000) (q :∀t re' a' gY,bl.length≤gY.length→Bd (k+c) a' gY→Ok (f (t,g,fs,lo,nu,re',a',gY)) Q):Ok (Option.bind (rec ss g fs lo nu re a bl) f) Q:=
 goB _ (hr re a bl k h hk) fun y ⟨t,re',a',gY,e,h1,h2⟩=>by subst e;exact q t re' a' gY h1 h2
theorem T_ {rec:XY} {rec':T47} {Qz:T67} {QA:T70} {c:Nat} {p0 p1 t re a:Int} {nm:List UInt8} {es:List aV} {th el:List dI} (hS:Sc g fs lo) (he:1≤es.length) (hw :∀x∈es,WE 4 4 x)
  (hr :∀re a bl k,Bd k a bl→k+c≤1000000000→Ok (rec th g fs lo nu re a bl) (PW (k+c) bl.length g fs lo nu)) {bl:List aH} {k:Nat} (h:Bd k a bl) (hk:k+c+520≤1000000000) :
  Ok (adt rec rec' Qz QA p0 p1 nm es th el t g fs lo nu re a bl) (PV (k+c+520) bl.length g fs lo nu):=by
 have m0:es.getD (Int.toNat 0) gG∈es:=jD gG (by omega) (by omega)
 have ha:=h.QN;have ha0:=h.at0
 unfold adt
 refine mG h (by omega) fun b1 l1 h1=>pV h1 ha0 (by simp only;omega) fun b2 l2 h2=>goC (aA.2 ⟨by omega,by omega⟩) (ajW hS (hw _ m0) h2 (by omega) fun re3 a3 b3 l3 h3=>mG h3 (by omega) fun b4 l4 h4=>agY hr h4 (by omega) fun u re5 a5 b5 l5 h5 => ?_)
 have e1:=h3.at0;have e2:=h3.QN
 simp only at l2 l3 l4 l5
 refine goB (fun y =>∃gY,y=(g,fs,lo,nu,re5,a5,gY)∧gY.length=b5.length∧Bd (k+1+510+1+c) a5 gY) ?_ fun y ⟨b6,e,l6,h6⟩ => ?_
 ·exact goI (fun _=>pV h5 h5.at0 h5.QN fun b l h=>ay ⟨b,rfl,l,h⟩) fun _=>ay ⟨b5,rfl,rfl,h5⟩
 subst e
 exact mG h6 (by omega) fun b7 l7 h7=>pV h7 e1 (by simp only at l7 ⊢;omega) fun b8 l8 h8=>ay ⟨_,_,b8,rfl,by simp only at l7 l8;omega,h8.up (by omega)⟩
theorem QB {rec:XY} {rec':T47} {Qz:T67} {QA:T70} {c:Nat} {p0 p1 t re a:Int} {nm:List UInt8} {es:List aV} {th el:List dI}
  (hr :∀re a bl k,Bd k a bl→k+c≤1000000000→Ok (rec th g fs lo nu re a bl) (PW (k+c) bl.length g fs lo nu)) (hr' :∀re a bl k,Bd k a bl→k+c≤1000000000→Ok (rec el g fs lo nu re a bl) (PW (k+c) bl.length g fs lo nu))
  {bl:List aH} {k:Nat} (h:Bd k a bl) (hk:k+c+c+3≤1000000000):Ok (adu rec rec' Qz QA p0 p1 nm es th el t g fs lo nu re a bl) (PW (k+c+c+3) bl.length g fs lo nu):=by
 have ha:=h.QN;have ha0:=h.at0
 unfold adu
 refine mG h (by omega) fun b1 l1 h1=>agY hr h1 (by omega) fun u re2 a2 b2 l2 h2 => ?_
 have e1:=h2.at0;have e2:=h2.QN
 simp only at l1 l2
 refine goI (fun _=>mG h2 (by omega) fun b3 l3 h3=>pV h3 ha0 (by simp only at l3 ⊢;omega) fun b4 l4 h4 => ?_) fun _=>mG h2 (by omega) fun b3 l3 h3=>pV h3 ha0 (by simp only at l3 ⊢;omega) fun b4 l4 h4=>agY hr' h4 (by omega) fun u' re5 a5 b5 l5 h5 => ?_
 ·simp only at l3 l4
  refine goB (PV (k+c+c+3) bl.length g fs lo nu) ?_ fun y ⟨re,a,b,e,l,h⟩=>by subst e;exact ay ⟨true,re,a,b,rfl,l,h⟩
  exact goI (fun _=>pV h4 e1 (by simp only;omega) fun b l h=>ay ⟨_,_,b,rfl,by simp only at l;omega,h.up (by omega)⟩) fun _=>ay ⟨_,_,b4,rfl,by omega,h4.up (by omega)⟩
 ·have e3:=h5.at0;have e4:=h5.QN
  simp only at l3 l4 l5
  refine goB (fun _=>True) ?_ fun s _=>goI (fun _=>ay ⟨false,_,_,b5,rfl,by omega,h5.up (by omega)⟩) fun _=>mG h5 (by omega) fun b6 l6 h6 => ?_
  ·exact goI (fun _=>ay trivial) fun _=>ay trivial
  simp only at l6
  refine goB (fun y =>∃gY,y=(g,fs,lo,nu,re5,(b5.length:Int),gY)∧gY.length=b6.length∧Bd (k+1+c+1+c+1) b5.length gY) ?_ fun y ⟨b7,e,l7,h7⟩ => ?_
  ·exact goI (fun _=>pV h6 e1 (by simp only;omega) fun b l h=>ay ⟨b,rfl,l,h⟩) fun _=>ay ⟨b6,rfl,rfl,h6⟩
  subst e
  refine goB (PV (k+c+c+3) bl.length g fs lo nu) ?_ fun y ⟨re,a,b,e,l,h⟩=>by subst e;exact ay ⟨true,re,a,b,rfl,l,h⟩
  exact goI (fun _=>pV h7 e3 (by simp only;omega) fun b l h=>ay ⟨_,_,b,rfl,by simp only at l;omega,h.up (by omega)⟩) fun _=>ay ⟨_,_,b7,rfl,by omega,h7.up (by omega)⟩
theorem Ua {rec:XY} {rec':T47} {Qz:T67} {QA:T70} {c:Nat} {x:dI} {re a:Int} (hS:Sc g fs lo) (he:x.exprs.length≤2) (hw :∀z∈x.exprs,WE 4 4 z) {bl:List aH} {k:Nat} (h:Bd k a bl) (hk:k+c+1030≤1000000000)
  (h5:x.kind=5→∀t,Ok (Qz x.kind x.line x.name x.exprs x.then' x.else' t g fs lo nu re a bl) (PV (k+c+1030) bl.length g fs lo nu))
  (h4 :∀t re a b,bl.length≤b.length→Bd (k+1020) a b→Ok (QA x.kind x.line x.name x.exprs x.then' x.else' t g fs lo nu re a b) (PW (k+c+1030) bl.length g fs lo nu)) :
  Ok (ads rec rec' Qz QA x.kind x.line x.name x.exprs x.then' x.else' g fs lo nu re a bl) (PW (k+c+1030) bl.length g fs lo nu):=by
 unfold ads
 refine goI (fun e=>goB _ (h5 (by simpa using e) _) fun y ⟨re,a,b,e,l,h⟩=>by subst e;exact ay ⟨true,re,a,b,rfl,l,h⟩) fun _=>goB (PV (k+1020) bl.length g fs lo nu) ?_ fun y ⟨re,a,b,e,l,h⟩ => ?_
 ·refine aZ (fun s:Int×List aJ×List au×List (List UInt8)×Int×Int×Int×List aH =>∃q:Nat,∃re a b,s=((q:Int),g,fs,lo,nu,re,a,b)∧q≤x.exprs.length∧bl.length≤b.length∧Bd (k+q*510) a b) (fun s=>(x.exprs.length-s.1).toNat)
   ⟨0,re,a,bl,rfl,by omega,Nat.le_refl _,h.up (by omega)⟩ fun s ⟨q,re,a,b,e,h1,h2,h3⟩ => ?_
  subst e
  refine goI (fun hc => ?_) fun _=>ay ⟨re,a,b,rfl,h2,h3.up (by omega)⟩
  have hc:(q:Int)<x.exprs.length:=by simpa using hc
  refine goC (aA.2 ⟨by simp only;omega,hc⟩) (ajW hS (hw _ (jD gG (by omega) hc)) h3 (by omega) fun re' a' b' l' h'=>ay ⟨⟨q+1,re',a',b',?_,by omega,by simp only at l';omega,h'.up (by omega)⟩,?_⟩)
  ·show (bW ((q:Int)+1),_)=_
   rw [aK (by omega)];rfl
  ·show ((x.exprs.length:Int)-bW ((q:Int)+1)).toNat<((x.exprs.length:Int)-q).toNat
   rw [aK (by omega)];omega
 subst e
 have hq:=fun (re:Int) (b':List aH) (l':b'.length=b.length) (h':Bd (k+1020+1) a b')=>show PV (k+c+1030) bl.length g fs lo nu (g,fs,lo,nu,re,a,b') from ⟨re,a,b',rfl,by omega,h'.up (by omega)⟩
 have hk':k+1020≤1000000000:=by omega
 refine goB (fun _=>True) ?_ fun _ _=>pR (PV (k+c+1030) bl.length g fs lo nu) ?_ fun y ⟨re,a,b,e,l,h⟩=>by subst e;exact ay ⟨true,re,a,b,rfl,l,h⟩
 ·exact goI (fun _=>ay trivial) fun _=>ay trivial
 refine goI (fun _=>VO hS.lo fun q=>goB (PV (k+c+1030) bl.length g fs lo nu) ?_ fun y ⟨re,a,b,e,l,h⟩=>by subst e;exact ay ⟨re,a,b,rfl,l,h⟩) fun _=>pR (PV (k+c+1030) bl.length g fs lo nu) ?_ fun y ⟨re,a,b,e,l,h⟩=>by subst e;exact ay ⟨re,a,b,rfl,l,h⟩
 ·exact goI (fun _=>EI h hk' (by simp) fun b' l' h'=>ay (hq _ b' l' h')) fun _=>goB _ (uJ hS.g) fun _ _=>EI h hk' (by simp) fun b' l' h'=>ay (hq _ b' l' h')
 refine goI (fun _=>goB _ (uJ hS.g) fun _ _=>EI h hk' (by simp) fun b' l' h'=>ay (hq _ b' l' h')) fun _ => ?_
 refine goI (fun _=>pV h h.at0 h.QN fun b' l' h'=>ay ⟨false,_,_,b',rfl,by simp only at l';omega,h'.up (by omega)⟩) fun _=>pR (PV (k+c+1030) bl.length g fs lo nu) ?_ fun y ⟨re,a,b,e,l,h⟩=>by subst e;exact ay ⟨re,a,b,rfl,l,h⟩
 exact goI (fun _=>EI h hk' (by simp) fun b' l' h'=>ay (hq _ b' l' h')) fun _=>goI (fun _=>goB _ (h4 _ re a b l h) fun y ⟨t,re,a,b,e,l,h⟩=>by subst e;exact ay ⟨t,re,a,b,rfl,l,h⟩) fun _=>ay ⟨re,a,b,rfl,l,h.up (by omega)⟩
theorem EJ {rec:XY} {rec':T47} {Qz:T67} {QA:T70} {c:Nat} {ss:List dI} (hs:ss.length≤10)
  (hr :∀x∈ss,∀re a bl k,Bd k a bl→k+c≤1000000000→Ok (rec' x.kind x.line x.name x.exprs x.then' x.else' g fs lo nu re a bl) (PW (k+c) bl.length g fs lo nu)) {re a:Int} {bl:List aH} {k:Nat} (h:Bd k a bl) (hk:k+10*c≤1000000000) :
  Ok (adr rec rec' Qz QA ss g fs lo nu re a bl) (PW (k+10*c) bl.length g fs lo nu):=by
 unfold adr
 refine pR (PV (k+10*c) bl.length g fs lo nu) ?_ fun y ⟨re,a,b,e,l,h⟩=>by subst e;exact ay ⟨true,re,a,b,rfl,l,h⟩
 refine aZ (fun s:Int×List aJ×List au×List (List UInt8)×Int×Int×Int×List aH =>∃q:Nat,∃re a b,s=((q:Int),g,fs,lo,nu,re,a,b)∧q≤ss.length∧bl.length≤b.length∧Bd (k+q*c) a b) (fun s=>(ss.length-s.1).toNat)
  ⟨0,re,a,bl,rfl,by omega,Nat.le_refl _,h.up (by omega)⟩ fun s ⟨q,re,a,b,e,h1,h2,h3⟩ => ?_
 subst e
 refine goI (fun hc => ?_) fun _=>ay ⟨re,a,b,rfl,h2,h3.up (Nat.add_le_add_left (Nat.mul_le_mul_right _ (by omega)) _)⟩
 have hc:(q:Int)<ss.length:=by simpa using hc
 have hm:=NC c (show q<10 by omega)
 refine goC (aA.2 ⟨by simp only;omega,hc⟩) (goB _ (hr _ (jD jI (by omega) hc) re a b _ h3 (by omega)) fun y ⟨t,re',a',b',e,l',h'⟩ => ?_)
 subst e
 refine goI (fun _=>ay ⟨false,re',a',b',rfl,by omega,h'.up (by omega)⟩) fun _=>ay ⟨⟨q+1,re',a',b',?_,by omega,by omega,h'.up (by omega)⟩,?_⟩
 ·show (bW ((q:Int)+1),_)=_
  rw [aK (by omega)];rfl
 ·show ((ss.length:Int)-bW ((q:Int)+1)).toNat<((ss.length:Int)-q).toNat
  rw [aK (by omega)];omega
theorem QC (n:Nat):(dZ (n+1)).1=adr (XB n) (adv n) (adw n) (adx n):=rfl
theorem aa8 (n:Nat):(dZ (n+1)).2.1=ads (XB n) (adv n) (adw n) (adx n):=rfl
theorem aa9 (n:Nat):(dZ (n+1)).2.2.1=adt (XB n) (adv n) (adw n) (adx n):=rfl
theorem aa_ (n:Nat):(dZ (n+1)).2.2.2=adu (XB n) (adv n) (adw n) (adx n):=rfl
theorem VQ (hS:Sc g fs lo) :∀n k:Nat,3*n+1≤k→∀ss:List dI,ss.length≤10→(∀s∈ss,WS 4 4 n s)→∀re a bl q,Bd q a bl→q+10*CS n≤1000000000→Ok (XB k ss g fs lo nu re a bl) (PW (q+10*CS n) bl.length g fs lo nu)
 |_,0,hk=>by omega
 |0,k+1,hk=>fun ss hs hw re a bl q hb hq=>by
  show Ok ((dZ (k+1)).1 ss g fs lo nu re a bl) _
  rw [QC]
  exact EJ hs (fun x hx=>(hw x hx).elim) hb hq
 |n+1,1,hk=>by omega
 |n+1,2,hk=>by omega
 |n+1,k+3,hk=>fun ss hs hw re a bl q hb hq=>by
  have ih:=VQ hS n k (by omega)
  have hc:CS (n+1)=20*CS n+1030:=rfl
  show Ok ((dZ (k+3)).1 ss g fs lo nu re a bl) _
  rw [QC]
  refine EJ hs (fun x hx re a bl q hb hq => ?_) hb hq
  obtain ⟨x1,x2,x3,⟨x4,x5⟩,x6,x7⟩:=hw x hx
  show Ok ((dZ (k+2)).2.1 x.kind x.line x.name x.exprs x.then' x.else' g fs lo nu re a bl) _
  rw [aa8,hc,←Nat.add_assoc]
  refine Ua hS x1 x3 hb (by omega) (fun h5 t => ?_) fun t re a b hl hb' => ?_
  ·show Ok ((dZ (k+1)).2.2.1 x.kind x.line x.name x.exprs x.then' x.else' t g fs lo nu re a bl) _
   rw [aa9]
   exact ku (T_ hS (x2 h5) x3 (c:=10*CS n) (fun re a bl q hb hq=>ih _ x4 x6 re a bl q hb hq) hb (by omega)) fun y ⟨re,a,b,e,l,h⟩=>⟨re,a,b,e,l,h.up (by omega)⟩
  ·show Ok ((dZ (k+1)).2.2.2 x.kind x.line x.name x.exprs x.then' x.else' t g fs lo nu re a b) _
   rw [aa_]
   exact ku (QB (c:=10*CS n) (fun re a bl q hb hq=>ih _ x4 x6 re a bl q hb hq) (fun re a bl q hb hq=>ih _ x5 x7 re a bl q hb hq) hb' (by omega)) fun y ⟨t,re,a,b,e,l,h⟩=>⟨t,re,a,b,e,by omega,h.up (by omega)⟩
end
end Go.Fg.Ytmgfidfcioiedaa

