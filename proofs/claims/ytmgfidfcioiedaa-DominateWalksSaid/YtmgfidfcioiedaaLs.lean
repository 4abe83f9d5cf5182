/-
  Chapter 11, plain: statements are lowered.
-/
import Derived.Test.YtmgfidfcioiedaaLr
namespace Go.Fg.Ytmgfidfcioiedaa
open Go.Fw
set_option linter.unusedVariables false
set_option linter.unusedSimpArgs false
def CS:Nat→Nat
 |0=>0
 |n+1=>20*CS n+1030
section
variable {g:List aI} {fs:List aj} {lo:List (List UInt8)} {nu:Int}
def PW (k m:Nat) (g:List aI) (fs:List aj) (lo:List (List UInt8)) (nu:Int) (y:Bool×List aI×List aj×List (List UInt8)×Int×Int×Int×List aG):Prop:=
 ∃t re a bl,y=(t,g,fs,lo,nu,re,a,bl)∧m≤bl.length∧Bd k a bl
theorem ajN {β:Type} {x:aU} {t a re:Int} {k:Nat} {bl:List aG} {f} {Q:β→Prop} (hS:Sc g fs lo) (hx:WE 4 4 x) (h:Bd k a bl) (hk:k+510≤1000000000) (q :∀re' a' gX,bl.length≤gX.length→Bd (k+510) a' gX→Ok (f (g,fs,lo,nu,re',a',gX)) Q) :
  Ok (Option.bind (f68 x.kind x.op x.value x.line x.name x.args t g fs lo nu re a bl) f) Q:=
 goV (rec:=f68) (c:=510) (fun t re a bl k h hk=>VI hS 4 1048576 (by omega) x hx t re a bl k h hk) h hk q
theorem agP {β:Type} {rec:XP} {c:Nat} {ss:List dH} {a re:Int} {k:Nat} {bl:List aG} {f} {Q:β→Prop} (hr :∀re a bl k,Bd k a bl→k+c≤1000000000→Ok (rec ss g fs lo nu re a bl) (PW (k+c) bl.length g fs lo nu))
  (h:Bd k a bl) (hk:k+c≤1000000000) (q :∀t re' a' gX,bl.length≤gX.length→Bd (k+c) a' gX→Ok (f (t,g,fs,lo,nu,re',a',gX)) Q):Ok (Option.bind (rec ss g fs lo nu re a bl) f) Q:=
 goB _ (hr re a bl k h hk) fun y ⟨t,re',a',gX,e,h1,h2⟩=>by subst e;exact q t re' a' gX h1 h2
theorem TJ {rec:XP} {rec':T47} {Qr:T67} {Qs:T70} {c:Nat} {p0 p1 t re a:Int} {nm:List UInt8} {es:List aU} {th el:List dH} (hS:Sc g fs lo) (he:1≤es.length) (hw :∀x∈es,WE 4 4 x)
  (hr :∀re a bl k,Bd k a bl→k+c≤1000000000→Ok (rec th g fs lo nu re a bl) (PW (k+c) bl.length g fs lo nu)) {bl:List aG} {k:Nat} (h:Bd k a bl) (hk:k+c+520≤1000000000) :
  Ok (adh rec rec' Qr Qs p0 p1 nm es th el t g fs lo nu re a bl) (PV (k+c+520) bl.length g fs lo nu):=by
 have m0:es.getD (Int.toNat 0) gB∈es:=jC gB (by omega) (by omega)
 have ha:=h.QF;have ha0:=h.at0
 unfold adh
 refine mg h (by omega) fun b1 l1 h1=>pK h1 ha0 (by simp only;omega) fun b2 l2 h2=>goC (au.2 ⟨by omega,by omega⟩) (ajN hS (hw _ m0) h2 (by omega) fun re3 a3 b3 l3 h3=>mg h3 (by omega) fun b4 l4 h4=>agP hr h4 (by omega) fun u re5 a5 b5 l5 h5 => ?_)
 have e1:=h3.at0;have e2:=h3.QF
 simp only at l2 l3 l4 l5
 refine goB (fun y =>∃gX,y=(g,fs,lo,nu,re5,a5,gX)∧gX.length=b5.length∧Bd (k+1+510+1+c) a5 gX) ?_ fun y ⟨b6,e,l6,h6⟩ => ?_
 ·exact goI (fun _=>pK h5 h5.at0 h5.QF fun b l h=>aA ⟨b,rfl,l,h⟩) fun _=>aA ⟨b5,rfl,rfl,h5⟩
 subst e
 exact mg h6 (by omega) fun b7 l7 h7=>pK h7 e1 (by simp only at l7 ⊢;omega) fun b8 l8 h8=>aA ⟨_,_,b8,rfl,by simp only at l7 l8;omega,h8.up (by omega)⟩
theorem Qu {rec:XP} {rec':T47} {Qr:T67} {Qs:T70} {c:Nat} {p0 p1 t re a:Int} {nm:List UInt8} {es:List aU} {th el:List dH}
  (hr :∀re a bl k,Bd k a bl→k+c≤1000000000→Ok (rec th g fs lo nu re a bl) (PW (k+c) bl.length g fs lo nu)) (hr' :∀re a bl k,Bd k a bl→k+c≤1000000000→Ok (rec el g fs lo nu re a bl) (PW (k+c) bl.length g fs lo nu))
  {bl:List aG} {k:Nat} (h:Bd k a bl) (hk:k+c+c+3≤1000000000):Ok (adi rec rec' Qr Qs p0 p1 nm es th el t g fs lo nu re a bl) (PW (k+c+c+3) bl.length g fs lo nu):=by
 have ha:=h.QF;have ha0:=h.at0
 unfold adi
 refine mg h (by omega) fun b1 l1 h1=>agP hr h1 (by omega) fun u re2 a2 b2 l2 h2 => ?_
 have e1:=h2.at0;have e2:=h2.QF
 simp only at l1 l2
 refine goI (fun _=>mg h2 (by omega) fun b3 l3 h3=>pK h3 ha0 (by simp only at l3 ⊢;omega) fun b4 l4 h4 => ?_) fun _=>mg h2 (by omega) fun b3 l3 h3=>pK h3 ha0 (by simp only at l3 ⊢;omega) fun b4 l4 h4=>agP hr' h4 (by omega) fun u' re5 a5 b5 l5 h5 => ?_
 ·simp only at l3 l4
  refine goB (PV (k+c+c+3) bl.length g fs lo nu) ?_ fun y ⟨re,a,b,e,l,h⟩=>by subst e;exact aA ⟨true,re,a,b,rfl,l,h⟩
  exact goI (fun _=>pK h4 e1 (by simp only;omega) fun b l h=>aA ⟨_,_,b,rfl,by simp only at l;omega,h.up (by omega)⟩) fun _=>aA ⟨_,_,b4,rfl,by omega,h4.up (by omega)⟩
 ·have e3:=h5.at0;have e4:=h5.QF
  simp only at l3 l4 l5
  refine goB (fun _=>True) ?_ fun s _=>goI (fun _=>aA ⟨false,_,_,b5,rfl,by omega,h5.up (by omega)⟩) fun _=>mg h5 (by omega) fun b6 l6 h6 => ?_
  ·exact goI (fun _=>aA trivial) fun _=>aA trivial
  simp only at l6
  refine goB (fun y =>∃gX,y=(g,fs,lo,nu,re5,(b5.length:Int),gX)∧gX.length=b6.length∧Bd (k+1+c+1+c+1) b5.length gX) ?_ fun y ⟨b7,e,l7,h7⟩ => ?_
  ·exact goI (fun _=>pK h6 e1 (by simp only;omega) fun b l h=>aA ⟨b,rfl,l,h⟩) fun _=>aA ⟨b6,rfl,rfl,h6⟩
  subst e
  refine goB (PV (k+c+c+3) bl.length g fs lo nu) ?_ fun y ⟨re,a,b,e,l,h⟩=>by subst e;exact aA ⟨true,re,a,b,rfl,l,h⟩
  exact goI (fun _=>pK h7 e3 (by simp only;omega) fun b l h=>aA ⟨_,_,b,rfl,by simp only at l;omega,h.up (by omega)⟩) fun _=>aA ⟨_,_,b7,rfl,by omega,h7.up (by omega)⟩
theorem TL {rec:XP} {rec':T47} {Qr:T67} {Qs:T70} {c:Nat} {x:dH} {re a:Int} (hS:Sc g fs lo) (he:x.exprs.length≤2) (hw :∀z∈x.exprs,WE 4 4 z) {bl:List aG} {k:Nat} (h:Bd k a bl) (hk:k+c+1030≤1000000000)
  (h5:x.kind=5→∀t,Ok (Qr x.kind x.line x.name x.exprs x.then' x.else' t g fs lo nu re a bl) (PV (k+c+1030) bl.length g fs lo nu))
  (h4 :∀t re a b,bl.length≤b.length→Bd (k+1020) a b→Ok (Qs x.kind x.line x.name x.exprs x.then' x.else' t g fs lo nu re a b) (PW (k+c+1030) bl.length g fs lo nu)) :
  Ok (adg rec rec' Qr Qs x.kind x.line x.name x.exprs x.then' x.else' g fs lo nu re a bl) (PW (k+c+1030) bl.length g fs lo nu):=by
 unfold adg
 refine goI (fun e=>goB _ (h5 (by simpa using e) _) fun y ⟨re,a,b,e,l,h⟩=>by subst e;exact aA ⟨true,re,a,b,rfl,l,h⟩) fun _=>goB (PV (k+1020) bl.length g fs lo nu) ?_ fun y ⟨re,a,b,e,l,h⟩ => ?_
 ·refine bf (fun s:Int×List aI×List aj×List (List UInt8)×Int×Int×Int×List aG =>∃q:Nat,∃re a b,s=((q:Int),g,fs,lo,nu,re,a,b)∧q≤x.exprs.length∧bl.length≤b.length∧Bd (k+q*510) a b) (fun s=>(x.exprs.length-s.1).toNat)
   ⟨0,re,a,bl,rfl,by omega,Nat.le_refl _,h.up (by omega)⟩ fun s ⟨q,re,a,b,e,h1,h2,h3⟩ => ?_
  subst e
  refine goI (fun hc => ?_) fun _=>aA ⟨re,a,b,rfl,h2,h3.up (by omega)⟩
  have hc:(q:Int)<x.exprs.length:=by simpa using hc
  refine goC (au.2 ⟨by simp only;omega,hc⟩) (ajN hS (hw _ (jC gB (by omega) hc)) h3 (by omega) fun re' a' b' l' h'=>aA ⟨⟨q+1,re',a',b',?_,by omega,by simp only at l';omega,h'.up (by omega)⟩,?_⟩)
  ·show (bW ((q:Int)+1),_)=_
   rw [aJ (by omega)];rfl
  ·show ((x.exprs.length:Int)-bW ((q:Int)+1)).toNat<((x.exprs.length:Int)-q).toNat
   rw [aJ (by omega)];omega
 subst e
 have hq:=fun (re:Int) (b':List aG) (l':b'.length=b.length) (h':Bd (k+1020+1) a b')=>show PV (k+c+1030) bl.length g fs lo nu (g,fs,lo,nu,re,a,b') from ⟨re,a,b',rfl,by omega,h'.up (by omega)⟩
 have hk':k+1020≤1000000000:=by omega
 refine goB (fun _=>True) ?_ fun _ _=>qZ (PV (k+c+1030) bl.length g fs lo nu) ?_ fun y ⟨re,a,b,e,l,h⟩=>by subst e;exact aA ⟨true,re,a,b,rfl,l,h⟩
 ·exact goI (fun _=>aA trivial) fun _=>aA trivial
 refine goI (fun _=>VH hS.lo fun q=>goB (PV (k+c+1030) bl.length g fs lo nu) ?_ fun y ⟨re,a,b,e,l,h⟩=>by subst e;exact aA ⟨re,a,b,rfl,l,h⟩) fun _=>qZ (PV (k+c+1030) bl.length g fs lo nu) ?_ fun y ⟨re,a,b,e,l,h⟩=>by subst e;exact aA ⟨re,a,b,rfl,l,h⟩
 ·exact goI (fun _=>Ez h hk' (by simp) fun b' l' h'=>aA (hq _ b' l' h')) fun _=>goB _ (uH hS.g) fun _ _=>Ez h hk' (by simp) fun b' l' h'=>aA (hq _ b' l' h')
 refine goI (fun _=>goB _ (uH hS.g) fun _ _=>Ez h hk' (by simp) fun b' l' h'=>aA (hq _ b' l' h')) fun _ => ?_
 refine goI (fun _=>pK h h.at0 h.QF fun b' l' h'=>aA ⟨false,_,_,b',rfl,by simp only at l';omega,h'.up (by omega)⟩) fun _=>qZ (PV (k+c+1030) bl.length g fs lo nu) ?_ fun y ⟨re,a,b,e,l,h⟩=>by subst e;exact aA ⟨re,a,b,rfl,l,h⟩
 exact goI (fun _=>Ez h hk' (by simp) fun b' l' h'=>aA (hq _ b' l' h')) fun _=>goI (fun _=>goB _ (h4 _ re a b l h) fun y ⟨t,re,a,b,e,l,h⟩=>by subst e;exact aA ⟨t,re,a,b,rfl,l,h⟩) fun _=>aA ⟨re,a,b,rfl,l,h.up (by omega)⟩
theorem EC {rec:XP} {rec':T47} {Qr:T67} {Qs:T70} {c:Nat} {ss:List dH} (hs:ss.length≤10)
  (hr :∀x∈ss,∀re a bl k,Bd k a bl→k+c≤1000000000→Ok (rec' x.kind x.line x.name x.exprs x.then' x.else' g fs lo nu re a bl) (PW (k+c) bl.length g fs lo nu)) {re a:Int} {bl:List aG} {k:Nat} (h:Bd k a bl) (hk:k+10*c≤1000000000) :
  Ok (adf rec rec' Qr Qs ss g fs lo nu re a bl) (PW (k+10*c) bl.length g fs lo nu):=by
 unfold adf
 refine qZ (PV (k+10*c) bl.length g fs lo nu) ?_ fun y ⟨re,a,b,e,l,h⟩=>by subst e;exact aA ⟨true,re,a,b,rfl,l,h⟩
 refine bf (fun s:Int×List aI×List aj×List (List UInt8)×Int×Int×Int×List aG =>∃q:Nat,∃re a b,s=((q:Int),g,fs,lo,nu,re,a,b)∧q≤ss.length∧bl.length≤b.length∧Bd (k+q*c) a b) (fun s=>(ss.length-s.1).toNat)
  ⟨0,re,a,bl,rfl,by omega,Nat.le_refl _,h.up (by omega)⟩ fun s ⟨q,re,a,b,e,h1,h2,h3⟩ => ?_
 subst e
 refine goI (fun hc => ?_) fun _=>aA ⟨re,a,b,rfl,h2,h3.up (Nat.add_le_add_left (Nat.mul_le_mul_right _ (by omega)) _)⟩
 have hc:(q:Int)<ss.length:=by simpa using hc
 have hm:=Nr c (show q<10 by omega)
 refine goC (au.2 ⟨by simp only;omega,hc⟩) (goB _ (hr _ (jC jH (by omega) hc) re a b _ h3 (by omega)) fun y ⟨t,re',a',b',e,l',h'⟩ => ?_)
 subst e
 refine goI (fun _=>aA ⟨false,re',a',b',rfl,by omega,h'.up (by omega)⟩) fun _=>aA ⟨⟨q+1,re',a',b',?_,by omega,by omega,h'.up (by omega)⟩,?_⟩
 ·show (bW ((q:Int)+1),_)=_
  rw [aJ (by omega)];rfl
 ·show ((ss.length:Int)-bW ((q:Int)+1)).toNat<((ss.length:Int)-q).toNat
  rw [aJ (by omega)];omega
theorem Qv (n:Nat):(dY (n+1)).1=adf (Xt n) (adk n) (adl n) (adn n):=rfl
theorem aa0 (n:Nat):(dY (n+1)).2.1=adg (Xt n) (adk n) (adl n) (adn n):=rfl
theorem aa1 (n:Nat):(dY (n+1)).2.2.1=adh (Xt n) (adk n) (adl n) (adn n):=rfl
theorem aa2 (n:Nat):(dY (n+1)).2.2.2=adi (Xt n) (adk n) (adl n) (adn n):=rfl
theorem VJ (hS:Sc g fs lo) :∀n k:Nat,3*n+1≤k→∀ss:List dH,ss.length≤10→(∀s∈ss,WS 4 4 n s)→∀re a bl q,Bd q a bl→q+10*CS n≤1000000000→Ok (Xt k ss g fs lo nu re a bl) (PW (q+10*CS n) bl.length g fs lo nu)
 |_,0,hk=>by omega
 |0,k+1,hk=>fun ss hs hw re a bl q hb hq=>by
  show Ok ((dY (k+1)).1 ss g fs lo nu re a bl) _
  rw [Qv]
  exact EC hs (fun x hx=>(hw x hx).elim) hb hq
 |n+1,1,hk=>by omega
 |n+1,2,hk=>by omega
 |n+1,k+3,hk=>fun ss hs hw re a bl q hb hq=>by
  have ih:=VJ hS n k (by omega)
  have hc:CS (n+1)=20*CS n+1030:=rfl
  show Ok ((dY (k+3)).1 ss g fs lo nu re a bl) _
  rw [Qv]
  refine EC hs (fun x hx re a bl q hb hq => ?_) hb hq
  obtain ⟨x1,x2,x3,⟨x4,x5⟩,x6,x7⟩:=hw x hx
  show Ok ((dY (k+2)).2.1 x.kind x.line x.name x.exprs x.then' x.else' g fs lo nu re a bl) _
  rw [aa0,hc,←Nat.add_assoc]
  refine TL hS x1 x3 hb (by omega) (fun h5 t => ?_) fun t re a b hl hb' => ?_
  ·show Ok ((dY (k+1)).2.2.1 x.kind x.line x.name x.exprs x.then' x.else' t g fs lo nu re a bl) _
   rw [aa1]
   exact jZ (TJ hS (x2 h5) x3 (c:=10*CS n) (fun re a bl q hb hq=>ih _ x4 x6 re a bl q hb hq) hb (by omega)) fun y ⟨re,a,b,e,l,h⟩=>⟨re,a,b,e,l,h.up (by omega)⟩
  ·show Ok ((dY (k+1)).2.2.2 x.kind x.line x.name x.exprs x.then' x.else' t g fs lo nu re a b) _
   rw [aa2]
   exact jZ (Qu (c:=10*CS n) (fun re a bl q hb hq=>ih _ x4 x6 re a bl q hb hq) (fun re a bl q hb hq=>ih _ x5 x7 re a bl q hb hq) hb' (by omega)) fun y ⟨t,re,a,b,e,l,h⟩=>⟨t,re,a,b,e,by omega,h.up (by omega)⟩
end
end Go.Fg.Ytmgfidfcioiedaa

