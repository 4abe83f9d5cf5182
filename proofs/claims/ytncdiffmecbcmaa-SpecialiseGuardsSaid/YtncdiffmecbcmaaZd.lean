/-
  The framework (a machine on plain data that answers as the program does), part 4.
-/
import Derived.Below
import Derived.Test.YtncdiffmecbcmaaZc
set_option linter.unusedSimpArgs false
set_option linter.unusedVariables false
set_option linter.unusedSectionVars false
namespace Go.Fg
open Go.Fw
section
variable [RE] {o:Nat→TO}
theorem uK :∀{gs:List Nat} {caps:List TW} {r:List (Nat×Nat)},l9 gs caps=some r→kN gs (kQ caps)=some r
 | [],[],r,h=>h
 | [],_::_,r,h=>by simp [l9] at h
 |_::_,[],r,h=>by simp [l9] at h
 |g::gs,c::cs,r,h=>by
  cases c with
  |box g' off=>
   simp only [l9] at h
   obtain ⟨hb,h⟩:=aW h
   have hb:=Q4 hb
   subst hb
   split at h
   ·rename_i r' hr
    simp only [kQ,bf,kN,uK hr]
    exact h
   ·cases h
  |_=>simp [l9] at h
theorem Mc {k:jT} {x:TW} {us:List Wd} {c:Bool×Bool} {gs:List Nat} {r:List (Nat×Nat)} (h:Ht o k x=some (us,c,gs,r)) :
  dP (aZ o) k.er (bf x)=some (us.map bQ,c,gs,r)∧us.map (·.t)=k.tys:=by
 unfold Ht at h
 split at h
 ·rename_i a i t x
  split at h
  ·rename_i y a' i' gs' hx
   simp only [Q0,Q1] at h
   obtain ⟨rfl,rfl,rfl,rfl⟩:=h
   exact ⟨by simp only [jT.er,dP,Jk hx,Qt,UB],rfl⟩
  ·cases h
 ·simp only [Q0,Q1] at h
  obtain ⟨rfl,rfl,rfl,rfl⟩:=h
  exact ⟨rfl,rfl⟩
 ·rename_i g' off' g off
  obtain ⟨hb,h⟩:=aW h
  simp only [Q0,Q1] at h
  obtain ⟨rfl,rfl,rfl,rfl⟩:=h
  obtain ⟨h1,h2⟩:=fO hb
  have h1:=Q4 h1
  have h2:=Q4 h2
  subst h1;subst h2
  exact ⟨rfl,rfl⟩
 ·rename_i f gs0 f' caps
  obtain ⟨hb,h⟩:=aW h
  split at h
  ·rename_i r' hr
   simp only [Q0,Q1] at h
   obtain ⟨rfl,rfl,rfl,rfl⟩:=h
   refine ⟨?_,rfl⟩
   simp only [jT.er,bf,dP,uK hr]
   rw [if_pos (Q4 hb)];rfl
  ·cases h
 ·cases h
theorem HY :∀{ks:List jT} {xs:List TW} {us:List Wd} {c:Bool×Bool} {gs:List Nat} {r:List (Nat×Nat)},mQ o ks xs=some (us,c,gs,r)→
  iD (aZ o) (ks.map jT.er) (xs.map bf)=some (us.map bQ,c,gs,r)∧us.map (·.t)=ks.flatMap jT.tys
 | [],[],us,c,gs,r,h=>by
  simp only [mQ,Q0,Q1] at h
  obtain ⟨rfl,rfl,rfl,rfl⟩:=h
  exact ⟨rfl,rfl⟩
 | [],x::xs,us,c,gs,r,h=>by simp [mQ] at h
 |k::ks,[],us,c,gs,r,h=>by simp [mQ] at h
 |k::ks,x::xs,us,c,gs,r,h=>by
  simp only [mQ] at h
  split at h
  ·rename_i h1 h2
   simp only [Q0,Q1] at h
   obtain ⟨rfl,rfl,rfl,rfl⟩:=h
   obtain ⟨a1,a2⟩:=Mc h1
   obtain ⟨b1,b2⟩:=HY h2
   exact ⟨by simp only [Qt,iD,a1,b1,XS],by simp only [XS,a2,b2,Ys]⟩
  ·cases h
theorem VA {k:lS} {x:TS} {us:List Wd} {c:Bool×Bool} {gs:List Nat} {r:List (Nat×Nat)} (h:PN o k x=some (us,c,gs,r)) :
  lF (aZ o) k.er (aP x)=some (us.map bQ,c,gs,r)∧us.map (·.t)=k.tys:=by
 unfold PN at h
 split at h
 ·exact Mc h
 ·exact HY h
 ·cases h
theorem H6 (args:List TS) (t:Nat):(args.map aP).getD t .no=aP (args.getD t .no):=by
 simp only [Q6,Xs]
 cases args[t]?<;>rfl
theorem zA {args:List TS} :∀{l:List (Nat×lS)} {us:List Wd} {c:Bool×Bool} {gs:List Nat} {r:List (Nat×Nat)},kF o args l=some (us,c,gs,r)→
  dD (aZ o) (args.map aP) (l.map fun p=>(p.1,p.2.er))=some (us.map bQ,c,gs,r)∧us.map (·.t)=l.flatMap fun p=>p.2.tys
 | [],us,c,gs,r,h=>by
  simp only [kF,Q0,Q1] at h
  obtain ⟨rfl,rfl,rfl,rfl⟩:=h
  exact ⟨rfl,rfl⟩
 |(t,k)::l,us,c,gs,r,h=>by
  simp only [kF] at h
  split at h
  ·rename_i h1 h2
   simp only [Q0,Q1] at h
   obtain ⟨rfl,rfl,rfl,rfl⟩:=h
   obtain ⟨a1,a2⟩:=VA h1
   obtain ⟨b1,b2⟩:=zA h2
   rw [←H6] at a1
   exact ⟨by simp only [Qt,dD,a1,b1,XS],by simp only [XS,a2,b2,Ys]⟩
  ·cases h
theorem Xw {k:jT} {x:TW} {us:List Wd} {c:Bool×Bool} {r:List (Nat×Nat)} (h:ZO k x=some (us,c,r)):Nj k.er (bf x)=some (us.map bQ,c,r)∧us.map (·.t)=k.tys:=by
 unfold ZO at h
 split at h
 ·rename_i a' i' t a i w
  split at h
  ·rename_i y hy
   simp only [Q0,Q1] at h
   obtain ⟨rfl,rfl,rfl⟩:=h
   rw [eU hy]
   exact ⟨rfl,rfl⟩
  ·cases h
 ·split at h
  ·simp only [Q0,Q1] at h
   obtain ⟨rfl,rfl,rfl⟩:=h
   exact ⟨rfl,rfl⟩
  ·cases h
 ·simp only [Q0,Q1] at h
  obtain ⟨rfl,rfl,rfl⟩:=h
  exact ⟨rfl,rfl⟩
 ·rename_i g' off' g off
  obtain ⟨hb,h⟩:=aW h
  simp only [Qf] at hb
  have e1:=Q4 hb.1
  have e2:=Q4 hb.2
  subst e1
  subst e2
  injection h with h
  injection h with h1 h
  injection h with h2 h3
  subst h1 h2 h3
  exact ⟨rfl,rfl⟩
 ·rename_i f gs0 f' caps
  obtain ⟨hb,h⟩:=aW h
  split at h
  ·rename_i r' hr
   simp only [Q0,Q1] at h
   obtain ⟨rfl,rfl,rfl⟩:=h
   refine ⟨?_,rfl⟩
   simp only [jT.er,bf,Nj,uK hr]
   rw [if_pos (Q4 hb)];rfl
  ·cases h
 ·cases h
theorem Me :∀{ks:List jT} {xs:List TW} {us:List Wd} {c:Bool×Bool} {r:List (Nat×Nat)},EF ks xs=some (us,c,r)→
  IY (ks.map jT.er) (xs.map bf)=some (us.map bQ,c,r)∧us.map (·.t)=ks.flatMap jT.tys
 | [],[],us,c,r,h=>by
  simp only [EF,Q0,Q1] at h
  obtain ⟨rfl,rfl,rfl⟩:=h
  exact ⟨rfl,rfl⟩
 | [],x::xs,us,c,r,h=>by simp [EF] at h
 |k::ks,[],us,c,r,h=>by simp [EF] at h
 |k::ks,x::xs,us,c,r,h=>by
  simp only [EF] at h
  split at h
  ·rename_i h1 h2
   simp only [Q0,Q1] at h
   obtain ⟨rfl,rfl,rfl⟩:=h
   obtain ⟨a1,a2⟩:=Xw h1
   obtain ⟨b1,b2⟩:=Me h2
   exact ⟨by simp only [Qt,IY,a1,b1,XS],by simp only [XS,a2,b2,Ys]⟩
  ·cases h
theorem rQ :∀{l:List (Nat×kY)} {ren ren':List (Nat×Nat)} {us:List Wd} {c:Bool×Bool},rJ o ren l=some (us,c,ren')→
  iw (aZ o) ren (l.map fun p=>(p.1,p.2.er))=some (us.map bQ,c,ren')∧us.map (·.t)=l.flatMap fun p=>p.2.tys
 | [],ren,ren',us,c,h=>by
  simp only [rJ,Q0,Q1] at h
  obtain ⟨rfl,rfl,rfl⟩:=h
  exact ⟨rfl,rfl⟩
 |(g',k)::l,ren,ren',us,c,h=>by
  simp only [rJ] at h
  split at h
  ·rename_i g hg
   split at h
   ·rename_i ks ws hog
    split at h
    ·rename_i u c1 r1 h1
     split at h
     ·rename_i u' c2 r2 h2
      simp only [Q0,Q1] at h
      obtain ⟨rfl,rfl,rfl⟩:=h
      obtain ⟨a1,a2⟩:=Me h1
      obtain ⟨b1,b2⟩:=rQ h2
      have hk:(kY.box ks).er=.box (ks.map jT.er):=rfl
      exact ⟨by simp only [Qt,iw,hg,hk,lK hog,a1,b1,XS],by simp only [XS,a2,b2,Ys];rfl⟩
     ·cases h
    ·cases h
   ·rename_i fz a0 i0 e a i e' l' hog
    split at h
    ·rename_i l2 hl
     split at h
     ·rename_i u' c2 r2 h2
      simp only [Q0,Q1] at h
      obtain ⟨rfl,rfl,rfl⟩:=h
      obtain ⟨b1,b2⟩:=rQ h2
      obtain ⟨ee,hl⟩:=lN hl
      cases ee
      subst hl
      refine ⟨?_,by simp only [Qt,b2,Ys];rfl⟩
      have hk:(kY.arr fz a0 i0 e).er=.arr fz a0 i0 (size e):=rfl
      simp only [Qt,iw,hg,hk,fB hog,if_true,b1]
      rfl
     ·cases h
    ·cases h
   ·rename_i a0 i0 e ak a i e' fD l' hole hog
    split at h
    ·rename_i l2 hl hcb
     split at h
     ·rename_i u' c2 r2 h2
      simp only [Q0,Q1] at h
      obtain ⟨rfl,rfl,rfl⟩:=h
      obtain ⟨b1,b2⟩:=rQ h2
      obtain ⟨ee,hl⟩:=lN hl
      cases ee
      subst hl
      have:=lQ hcb
      subst this
      refine ⟨?_,by simp only [Qt,b2,Ys];rfl⟩
      have hk:(kY.ay a0 i0 e ak).er=.ay a0 i0 (size e) (fM ak):=rfl
      have hg':aZ o g=.ay a i (size e) (fM ak) (aB e l2) none:=by simp only [aZ,hog,cu]
      simp only [Qt,iw,hg,hk,hg',and_self,if_true,b1]
      rfl
     ·cases h
    ·cases h
   ·cases h
  ·cases h
theorem Qc {k:jT} {x:TW} {us:List Wd} {c:Bool×Bool} {gs:List Nat} {r:List (Nat×Nat)} (h:Ht o k x=some (us,c,gs,r)):Pl o gs:=by
 unfold Ht at h
 split at h
 ·split at h
  ·rename_i hx
   simp only [Q0,Q1] at h
   obtain ⟨_,_,rfl,_⟩:=h
   exact Oi hx
  ·cases h
 ·simp only [Q0,Q1] at h
  obtain ⟨_,_,rfl,_⟩:=h;exact Pl.nil
 ·obtain ⟨hb,h⟩:=aW h
  simp only [Q0,Q1] at h
  obtain ⟨_,_,rfl,_⟩:=h;exact Pl.nil
 ·obtain ⟨hb,h⟩:=aW h
  split at h
  ·simp only [Q0,Q1] at h
   obtain ⟨_,_,rfl,_⟩:=h;exact Pl.nil
  ·cases h
 ·cases h
theorem MB :∀{ks:List jT} {xs:List TW} {us:List Wd} {c:Bool×Bool} {gs:List Nat} {r:List (Nat×Nat)},mQ o ks xs=some (us,c,gs,r)→Pl o gs
 | [],[],us,c,gs,r,h=>by
  simp only [mQ,Q0,Q1] at h
  obtain ⟨_,_,rfl,_⟩:=h;exact Pl.nil
 | [],x::xs,us,c,gs,r,h=>by simp [mQ] at h
 |k::ks,[],us,c,gs,r,h=>by simp [mQ] at h
 |k::ks,x::xs,us,c,gs,r,h=>by
  simp only [mQ] at h
  split at h
  ·rename_i h1 h2
   simp only [Q0,Q1] at h
   obtain ⟨_,_,rfl,_⟩:=h
   exact (Qc h1).append (MB h2)
  ·cases h
theorem BQ {args:List TS} :∀{l:List (Nat×lS)} {us:List Wd} {c:Bool×Bool} {gs:List Nat} {r:List (Nat×Nat)},kF o args l=some (us,c,gs,r)→Pl o gs
 | [],us,c,gs,r,h=>by
  simp only [kF,Q0,Q1] at h
  obtain ⟨_,_,rfl,_⟩:=h;exact Pl.nil
 |(t,k)::l,us,c,gs,r,h=>by
  simp only [kF] at h
  split at h
  ·rename_i h1 h2
   simp only [Q0,Q1] at h
   obtain ⟨_,_,rfl,_⟩:=h
   refine Pl.append ?_ (BQ h2)
   unfold PN at h1
   split at h1
   ·exact Qc h1
   ·exact MB h1
   ·cases h1
  ·cases h
theorem Sz {s:dU} {args:List TS} {c:CJ} (h:vC s o args=some c):Pl o c.qK:=by
 unfold vC at h
 split at h
 ·rename_i h1
  split at h
  ·simp only [Q0] at h;subst h
   exact BQ h1
  ·cases h
 ·cases h
theorem EW {s:dU} {args:List TS} {c:CJ} (h:vC s o args=some c):fU s.er (aZ o) (args.map aP)=some c.er∧c.ins.map (·.t)=s.pin.tys:=by
 unfold vC at h
 split at h
 ·rename_i u A gs r h1
  split at h
  ·rename_i u' I r' h2
   simp only [Q0] at h;subst h
   obtain ⟨a1,a2⟩:=zA h1
   obtain ⟨b1,b2⟩:=rQ h2
   refine ⟨?_,by simp only [XS,a2,b2,Ju.tys]⟩
   unfold fU
   have a1:dD (aZ o) (args.map aP) s.er.pin.slots=_:=a1
   have b1:iw (aZ o) r s.er.pin.aN=_:=b1
   rw [a1]
   simp only
   rw [b1]
   simp only [CJ.er,XS]
  ·cases h
 ·cases h
theorem BR (f:Nat→Nat) :∀(caps:List TW),kQ (uF f caps)=je f (kQ caps)
 | []=>rfl
 |c::cs=>by cases c<;>simp only [uF,kQ,bf,je,BR f cs]
theorem Qd (A I:Bool×Bool) (f:Nat→Nat) (x:TW):bf (Sm A I f x)=Nk A I f (bf x):=by cases x<;>simp only [Sm,bf,Nk,BR]
theorem MC (A I:Bool×Bool) (f:Nat→Nat) (xs:List TW):(xs.map (Sm A I f)).map bf=(xs.map bf).map (Nk A I f):=by
 simp only [WK];exact Z0 fun x _=>Qd A I f x
theorem Xx (A I:Bool×Bool) (f:Nat→Nat) (x:TV):iF (ZP A I f x)=reV A I f (iF x):=by
 cases x<;>simp only [ZP,iF,reV,Qd,MC]
theorem Xy (A I:Bool×Bool) (f:Nat→Nat) (x:TS):iF (Vb A I f x)=O7 A I f (aP x):=by
 cases x with
 |v x=>exact Xx A I f x
 |jK xs=>simp only [Vb,aP,O7,iF,bf]
 |no=>simp only [Vb,aP,O7,iF,bf]
theorem JI (A I:Bool×Bool) (f:Nat→Nat) (x:TO):cu (Jv A I f x)=sO A I f (cu x):=by
 cases x<;>simp only [Jv,cu,sO,MC]
theorem VB (vs:List TV):aP (Vd vs)=QZ (vs.map iF):=by
 match vs with
 | []=>rfl
 | [x]=>rfl
 |x::y::vs=>rfl
theorem Qe {α β:Type} (g:α→β) (b:Bool) (x y:α):g (bif b then x else y)=if b=true then g x else g y:=by cases b<;>rfl
theorem MF {s:dU} {d:Nat} {c:CJ} {bI:List Wd} (h:bI.map (·.t)=s.aQ.tys) (hpl:Pl o c.qK):(qA s d o c bI).er=jf s.er d (aZ o) c.er (bI.map bQ):=by
 have hm:=uJ h
 have hs :∀k,aP ((mkT s.aQ bI).gs k)=(mk s.aQ.er (bI.map bQ)).s k:=fun k=>by rw [←hm];rfl
 have ho :∀k,cu ((mkT s.aQ bI).go k)=(mk s.aQ.er (bI.map bQ)).o k:=fun k=>by rw [←hm];rfl
 have e1:s.er.aQ=s.aQ.er:=rfl
 have e2:s.er.aY=s.aY:=rfl
 have e3:s.er.aU=s.aU:=rfl
 have e4:s.er.dL=s.dL:=rfl
 have c1:c.er.A=c.A:=rfl
 have c2:c.er.I=c.I:=rfl
 have c3:c.er.qK=c.qK:=rfl
 have c4:c.er.ren=c.ren:=rfl
 unfold qA jf h_.er
 rw [e1,e2,e3,e4,c1,c2,c3,c4]
 generalize mk s.aQ.er (bI.map bQ)=M at hs ho
 generalize mkT s.aQ bI=X at hs ho
 generalize s.er.jR=L
 have k1:aP (Vd ((List.range s.dL).map fun k=>Vb c.A c.I (callName d s.er c.ren) (X.gs k)))=QZ ((List.range s.dL).map fun k=>O7 c.A c.I (callName d s.er c.ren) (M.s k)):=by
  rw [VB,WK]
  congr 1
  refine Z0 fun k _ => ?_
  simp only [Function.comp,Xy,hs]
 have k2:fH (bif L then c.qK.map (jG o) else [])=if L=true then c.qK.map (Fw.aH (aZ o)) else []:=by
  rw [Qe fH,l7 hpl];rfl
 have k3:fH (c.ren.map fun p=>(p.2,bif s.aY.contains p.1 then Jv c.A c.I (callName d s.er c.ren) (X.go p.1) else .none))=c.ren.map fun p=>(p.2,if s.aY.contains p.1=true then sO c.A c.I (callName d s.er c.ren) (M.o p.1) else .none):=by
  simp only [fH,WK]
  refine Z0 fun p _ => ?_
  simp only [Function.comp,Qe cu,JI,ho]
  rfl
 have k4:fH (s.aU.map fun g=>(callName d s.er c.ren g,Jv c.A c.I (callName d s.er c.ren) (X.go g)))=s.aU.map fun g=>(callName d s.er c.ren g,sO c.A c.I (callName d s.er c.ren) (M.o g)):=by
  simp only [fH,WK]
  refine Z0 fun p _ => ?_
  simp only [Function.comp,JI,ho]
 simp only [jy,k1,k2,k3,k4]
theorem Df (ts:List Ty) :∀{ws:List Wd} {x:Tup ts},Tup.ofL ts ws=some x→Tup.kX ts x=ws:=by
 induction ts with
 |nil=>
  intro ws x h
  cases ws with
  |nil=>rfl
  |cons w ws=>cases h
 |cons t ts ih=>
  cases ts with
  |nil=>
   intro ws x h
   cases ws with
   |nil=>cases h
   |cons w ws=>
    cases ws with
    |nil=>
     have h:w.yt t=some x:=h
     rw [eU h];rfl
    |cons u ws=>cases h
  |cons u ts=>
   intro ws x h
   cases ws with
   |nil=>cases h
   |cons w ws=>
    have h:(match w.yt t,Tup.ofL (u::ts) ws with | some x,some xs=>some (x,xs) | _,_=>none)=some x:=h
    split at h
    ·rename_i y ys h1 h2
     cases h
     show (⟨t,y⟩:Wd)::Tup.kX (u::ts) ys=w::ws
     rw [ih h2,eU h1]
    ·cases h
theorem rU :∀(ts:List Ty) (x:Tup ts),(Tup.kX ts x).map (·.t)=ts
 | [],x=>rfl
 | [t],x=>rfl
 |t::u::ts,x=>by simp only [Tup.kX,Qt,rU (u::ts)]
def bT.er (s:bT):Fw.Spec:={ sig:=s.sig.er,R:=fun ins bI =>∃x y,s.ff x=some y∧ins=(Tup.kX s.sig.pin.tys x).map bQ∧bI=(Tup.kX s.sig.aQ.tys y).map bQ }
theorem MG {A R:Type} {x y:A} {r:Option R} {z:R} (h:ckE x y r=some z):x=y∧r=some z:=by
 unfold ckE at h
 split at h
 ·rename_i e;exact ⟨e,h⟩
 ·cases h
theorem xP {R:Type} {a b:Nat→TO} {r z:R} :∀{gs:List Nat},zi a b r gs=some z→r=z∧∀g∈gs,oH (cu (b g))=oH (cu (a g))
 | [],h=>by simp only [zi,Q0] at h;exact ⟨h,fun g hg=>by cases hg⟩
 |g::gs,h=>by
  simp only [zi] at h
  split at h
  ·rename_i e l _ _ e' l' h1 h2
   split at h
   ·rename_i l'' hl
    obtain ⟨e1,h⟩:=MG h
    obtain ⟨q1,q2⟩:=xP h
    refine ⟨q1,fun g' hg => ?_⟩
    rcases QQ.1 hg with rfl | hg
    ·rw [h1,h2]
     subst e1
     obtain ⟨ee,hl⟩:=lN hl
     cases ee
     subst hl
     rfl
    ·exact q2 g' hg
   ·cases h
  ·rename_i e ak l _ _ e' fD l' h1 h2
   split at h
   ·rename_i l'' hl hcb
    obtain ⟨e1,h⟩:=MG h
    obtain ⟨q1,q2⟩:=xP h
    refine ⟨q1,fun g' hg => ?_⟩
    rcases QQ.1 hg with rfl | hg
    ·rw [h1,h2]
     subst e1
     obtain ⟨ee,hl⟩:=lN hl
     cases ee
     subst hl
     have:=lQ hcb
     subst this
     rfl
    ·exact q2 g' hg
   ·cases h
  ·cases h
theorem Qg {s:bT} {x:Tup s.sig.pin.tys} {y:Tup s.sig.aQ.tys} (h:s.ff x=some y):s.f x=some y∧∀g∈s.sig.kept,oH (cu ((mkT s.sig.aQ (Tup.kX s.sig.aQ.tys y)).go g))=oH (cu ((mkT s.sig.pin (Tup.kX s.sig.pin.tys x)).go g)):=by
 obtain ⟨⟨na,pin,aQ,nr,aY,aU,kept⟩,f⟩:=s
 cases kept with
 |nil=>exact ⟨h,fun g hg=>by cases hg⟩
 |cons g0 gs=>
  have h:(f x).bind (fun y=>zi (mkT pin (Tup.kX pin.tys x)).go (mkT aQ (Tup.kX aQ.tys y)).go y (g0::gs))=some y:=h
  cases hf:f x with
  |none=>rw [hf] at h;cases h
  |some z=>
   rw [hf] at h
   obtain ⟨e,h2⟩:=xP h
   subst e
   exact ⟨hf,h2⟩
theorem H7 (same:List Nat) :∀(l:List (Nat×TO)),fH (Hu same l)=(fH l).filter fun p=>!same.contains p.1
 | []=>rfl
 |(g,x)::r=>by
  have ih:=H7 same r
  simp only [Hu]
  have e:fH ((g,x)::r)=(g,cu x)::fH r:=rfl
  rw [e,KV,←aV]
  cases h:dM g same with
  |true=>simp only [Bool.not_true,Zs,if_false];exact ih
  |false=>
   simp only [Kx,if_true]
   show (g,cu x)::fH (Hu same r)=_
   rw [ih]
def EX (s:dU) (d:Nat) (o:Nat→TO) (c:CJ) (bI:List Wd):List Nat:=match s.kept with
 | []=>[]
 |_::_=>zk s o (fun g'=>Jv c.A c.I (callName d s.er c.ren) ((mkT s.aQ bI).go g')) c.ren
theorem JJ {s:dU} {d:Nat} {o:Nat→TO} {c:CJ} {bI:List Wd}:(vF s d o c bI).er=yL (EX s d o c bI) (qA s d o c bI).er:=by
 obtain ⟨na,pin,aQ,nr,aY,aU,kept⟩:=s
 cases kept with
 |nil=>
  show (qA _ d o c bI).er=yL [] _
  have :∀(e:Eff),e=yL [] e:=fun e=>by
   unfold yL
   have:e.aA.filter (fun p=>!([]:List Nat).contains p.1)=e.aA:=List.filter_eq_self.2 fun p _=>rfl
   rw [this]
  exact this _
 |cons g0 gs=>
  unfold vF yL EX h_.er
  simp only [H7]
theorem H8 {a b:Bool} (h:ZQ a b=true):a=b:=by cases a<;>cases b<;>first | rfl | cases h
theorem BU {x:TO} {a i:Bool} (h:OC x=some (a,i)):pI (cu x)=(a,i)∧NP (cu x)=true:=by
 cases x with
 |arr fz a' i' e l=>cases fz<;>cases h;exact ⟨rfl,rfl⟩
 |ay a' i' e ak l hole=>cases hole<;>cases h;exact ⟨rfl,rfl⟩
 |_=>cases h
theorem EY {s:dU} {o f:Nat→TO} {g:Nat} :∀{r:List (Nat×Nat)},g∈zk s o f r→∃g',(g',g)∈r∧g'∈s.kept∧s.aY.contains g'=true∧pI (cu (f g'))=pI (cu (o g))∧NP (cu (o g))=true
 | [],h=>by cases h
 |(g1',g1)::r,h=>by
  simp only [zk] at h
  have old:g∈zk s o f r→∃g',(g',g)∈(g1',g1)::r∧g'∈s.kept∧s.aY.contains g'=true∧pI (cu (f g'))=pI (cu (o g))∧NP (cu (o g))=true:=fun h=>
   let ⟨g',h1,h2⟩:=EY h
   ⟨g',WF _ h1,h2⟩
  split at h
  ·rename_i a i a' i' k1 k2 k3
   split at h
   ·rename_i k4
    rcases QQ.1 h with rfl | h
    ·obtain ⟨e1,e2⟩:=fO k4
     have e1:=H8 e1
     have e2:=H8 e2
     subst e1;subst e2
     obtain ⟨m1,m2⟩:=fO k1
     obtain ⟨f1,f2⟩:=BU k2
     obtain ⟨f3,_⟩:=BU k3
     rw [aV] at m1
     exact ⟨g1',by simp,by simpa using m1,m2,by rw [f1,f3],f2⟩
    ·exact old h
   ·exact old h
  ·exact old h
theorem MH {sp:bT} (hok:sp.sig.er.ok=true) {d:Nat} {o:Nat→TO} {args:List S} {c:CJ} (hc:fU sp.sig.er (aZ o) args=some c.er) (hf:c.er.fine sp.sig.er=true) {x:Tup sp.sig.pin.tys} {y:Tup sp.sig.aQ.tys} (hx:Tup.kX sp.sig.pin.tys x=c.ins) (hy:sp.ff x=some y) :
  ∀g∈EX sp.sig d o c (Tup.kX sp.sig.aQ.tys y),g∈c.er.ren.map (·.2)∧(jf sp.sig.er d (aZ o) c.er ((Tup.kX sp.sig.aQ.tys y).map bQ)).aA.lookup g=some (aZ o g):=by
 intro g hg
 have hg:g∈zk sp.sig o (fun g'=>Jv c.A c.I (callName d sp.sig.er c.ren) ((mkT sp.sig.aQ (Tup.kX sp.sig.aQ.tys y)).go g')) c.ren:=by
  unfold EX at hg
  split at hg
  ·cases hg
  ·exact hg
 obtain ⟨g',h1,h2,h3,h4,h5⟩:=EY hg
 have hp:(g',g)∈c.er.ren:=h1
 refine ⟨QP.2 ⟨(g',g),hp,rfl⟩,?_⟩
 have e1:cu ((mkT sp.sig.aQ (Tup.kX sp.sig.aQ.tys y)).go g')=(Fw.mk sp.sig.er.aQ ((Tup.kX sp.sig.aQ.tys y).map bQ)).o g':=congrArg (fun s=>s.o g') (uJ (rU _ y))
 have e2:cu ((mkT sp.sig.pin (Tup.kX sp.sig.pin.tys x)).go g')=(Fw.mk sp.sig.er.pin c.er.ins).o g':=by
  have:=congrArg (fun s=>s.o g') (uJ (rU _ x))
  rw [hx] at this ⊢
  exact this
 refine Rj hok hc hf hp h3 ?_ h5 ?_
 ·rw [←e1,←e2]
  exact (Qg hy).2 g' h2
 ·rw [JI] at h4
  rw [←e1]
  exact h4
def jM (T:dw):Tab:=fun f=>(T f).map bT.er
theorem uM (l:List (Nat×TO)) :∀(u:List (Nat×TO)) (g:Nat),iC .none (zl l u) g=match u.lookup g with | some x=>x | none=>iC .none l g
 | [],g=>rfl
 |(k,x)::u,g=>by
  simp only [zl,nH,List.lookup,Dc,uM l u g]
  cases h:Nat.beq g k<;>rfl
theorem H9 (q:iG) (dst:Option Tmp) (e:h_):aI (q.eff dst e).st=(aI q.st).eff dst e.er:=by
 have ho :∀g,cu (iC .none (zl q.st.o e.aA) g)=match (fH e.aA).lookup g with | some x=>x | none=>cu (iC .none q.st.o g):=fun g=>by
  rw [uM]
  have:(fH e.aA).lookup g=(e.aA.lookup g).map cu:=mD cu g e.aA
  rw [this]
  cases e.aA.lookup g<;>rfl
 have hu :∀g,dM g (e.new++q.st.u)=(e.new.contains g||dM g q.st.u):=fun g=>by simp [aV]
 cases dst with
 |none=>
  refine St.ext' (fun t=>rfl) (fun g => ?_) fun g => ?_
  ·exact ho g
  ·exact hu g
 |some d=>
  refine St.ext' (fun t => ?_) (fun g => ?_) fun g => ?_
  ·show aP (iC .no (uj d e.x q.st.s) t)=bif Nat.beq t d then aP e.x else aP (iC .no q.st.s t)
   rw [nH]
   cases Nat.beq t d<;>rfl
  ·exact ho g
  ·exact hu g
end
end Go.Fg

namespace Go.Fg
open Go.Fw
section
variable [dB]
theorem Aw {T:Tab} {tt:TT} {N:Nat} {ops:Array Oper} {o:Oper} {st:St} {K K':Eff→Prop} (hK :∀e,K e→K' e) (h:stepW T tt N ops o st K):stepW T tt N ops o st K':=by
 unfold stepW at *
 refine ⟨h.1,?_⟩
 have h:=h.2
 split at h
 ·exact lG (fun e he=>⟨he.1,hK e he.2⟩) h
 ·split at h
  ·rename_i b hb
   cases b with
   |true=>
    simp only [cond_true] at h ⊢
    exact lG (fun e he=>⟨he.1,hK e he.2⟩) h
   |false=>exact hK _ h
  ·exact h
theorem EZ {T:Tab} {tt:TT} {N:Nat} {ops:Array Oper} {o:Oper} {st:St} {K K':Eff→Prop} (hK :∀e,K e→K' e) (h:yU T tt N ops o st K):yU T tt N ops o st K':=by
 unfold yU at *
 split at h
 ·exact ⟨h.1,fun b hb=>hK _ (h.2 b hb)⟩
 ·split at h
  ·exact ⟨h.1,fun hb=>hK _ (h.2.1 hb),fun hb=>hK _ (h.2.2 hb)⟩
  ·exact Aw hK h
end
theorem Xz {R:Type} {b:Bool} {x:Option R} {r:R} (h:ck b x=some r):b=true∧x=some r:=by
 cases b
 ·cases h
 ·exact ⟨rfl,h⟩
theorem SA {R:Type} {x y:Option R} {r:R} (h:both x y=some r):x=some r∧y=some r:=by
 unfold both at h
 split at h
 ·rename_i e;exact ⟨h,e▸h⟩
 ·cases h
section
variable [RE]
theorem Qh {R:Type} {b:Bool} {x:Prog R} {r:R} (h:(Prog.chk b x).run=some r):b=true∧x.run=some r:=Xz h
theorem VD {A B R:Type} {n:Nat} {f:A→Option B} {a:A} {k:B→Prog R} {r:R} (h:(Prog.call n f a k).run=some r) :∃y,f a=some y∧(k y).run=some r:=by
 have h:(f a).bind (fun z=>(k z).run)=some r:=h
 cases hf:f a with
 |none=>rw [hf] at h;cases h
 |some y=>rw [hf] at h;exact ⟨y,rfl,h⟩
theorem bn {R:Type} {n:Nat} {r:R} (h:(Prog.stuck n:Prog R).run=some r):False:=by cases h
theorem zB (st:gU):(aI st).bC=fun x=>aP (st.bC x):=funext (jw st)
theorem VE (x:TS):abz (aP x)=Vg x:=by
 cases x with
 |v x=>cases x with
  |one x=>cases x<;>rfl
  |agg xs=>rfl
 |jK xs=>rfl
 |no=>rfl
theorem H_ :∀l:List TS,O8 (l.map aP)=EG l
 | []=>rfl
 |x::l=>by
  simp only [Qt,O8,EG,VE x,H_ l]
  cases Vg x<;>rfl
theorem E5 {T:dw} {fn:Nat} {st:gU} {args:List Operand}:pick (jM T) fn (args.map (aI st).bC)=(PO T fn (args.map st.bC)).map bT.er:=by
 have e:args.map (aI st).bC=(args.map st.bC).map aP:=by rw [zB,WK];rfl
 have ek:KF fn ((args.map st.bC).map aP)=Ap fn (args.map st.bC):=by
  unfold KF Ap;rw [H_]
  cases EG (args.map st.bC)<;>rfl
 rw [e]
 unfold pick PO
 rw [ek]
 cases Nat.blt fn 1000000 with
 |false=>rfl
 |true=>
  simp only [jM]
  cases T (Ap fn (args.map st.bC))<;>rfl
theorem Qi {x:TS} {fn:FuncId} {caps:List TW} (h:x=.v (.one (.clo fn caps))):aP x=.v (.one (.clo fn (caps.map bf))):=by
 subst h;simp only [aP,iF,bf,vg]
theorem E8 (st:gU) (args:List Operand) (caps:List TW) :
  (args.map (aI st).bC)++(caps.map bf).map (fun x=>S.v (.one x))=((args.map st.bC)++caps.map fun x=>TS.v (.one x)).map aP:=by
 simp only [XS,WK,zB]
 rfl
theorem Ia {o:Nat→TO} {g d:Nat} {a i:Bool} {e:Ty} {ak:List (Nat×Ty)} {l:List (Dt e)} (h1:LW (o g)=some d) (h2:sG o g=some ⟨a,i,e,ak,l⟩):Fw.iV (aZ o) g=fH [(g,.ay a i e ak l none),(d,.none)]:=by
 unfold sG at h2
 cases ho:o g with
 |ay a0 i0 e0 jd l0 hole=>
  rw [ho] at h1 h2
  have hg:aZ o g=.ay a0 i0 (size e0) (fM jd) (aB e0 l0) hole:=by simp [aZ,ho,cu]
  rcases hole with _ | ⟨n,c,d'⟩
  ·cases h1
  ·simp only [LW,Q0] at h1;subst h1
   simp only at h2
   cases hd:o d' with
   |arr fz a' i' e' l'=>
    rw [hd] at h2
    cases fz with
    |true=>cases h2
    |false=>
     simp only at h2
     split at h2
     ·rename_i hc
      cases h2
      obtain ⟨k1,k2,k3⟩:=qo hc
      simp only [Fw.iV,hg,fB hd]
      rw [if_pos ⟨k1,k3⟩,←xG k2];rfl
     ·cases h2
   |_=>rw [hd] at h2;cases h2
 |_=>rw [ho] at h1;cases h1
theorem E_ (st:gU) (u:List (Nat×TO)):aI { st with o:=zl st.o u }=(aI st).aA (fH u) []:=by
 refine St.ext' (fun t=>rfl) (fun g => ?_) fun g=>by simp [aI,St.aA]
 show cu (iC .none (zl st.o u) g)=match (fH u).lookup g with | some x=>x | none=>cu (iC .none st.o g)
 rw [uM]
 have:(fH u).lookup g=(u.lookup g).map cu:=mD cu g u
 rw [this]
 cases u.lookup g<;>rfl
theorem dS {α β:Type} {f g:α→List β} :∀{l:List α},(∀x∈l,f x=g x)→l.flatMap f=l.flatMap g
 | [],_=>rfl
 |x::l,h=>by simp only [Ys,h x (by simp),dS (l:=l) fun y hy=>h y (by simp [hy])]
theorem pW (f:FuncId) (caps:List W):(W.clo f caps).names=caps.flatMap W.names:=by
 rw [W.names]
 have :∀(l:List {x // x∈caps}),(l.flatMap fun x=>x.1.names)=(l.map (·.1)).flatMap W.names:=fun l=>by rw [q9]
 rw [this,List.attach_map_subtype_val]
theorem BX :∀(caps:List TW),uG caps=(kQ caps).flatMap W.names
 | []=>rfl
 |c::cs=>by cases c<;>simp [uG,kQ,bf,W.names,BX cs]
theorem xQ (x:TW):W.namesT x=(bf x).names:=by
 cases x with
 |clo f caps=>simp only [W.namesT,bf,pW,BX]
 |_=>simp only [W.namesT,bf,W.names]
theorem Fa (x:TV):V.namesT x=(iF x).names:=by
 cases x with
 |one x=>exact xQ x
 |agg xs=>
  simp only [V.namesT,iF,V.names,q9]
  exact dS fun x _=>xQ x
theorem rV (x:TS):S.namesT x=(aP x).names:=by
 cases x with
 |v x=>exact Fa x
 |jK xs=>
  simp only [S.namesT,aP,S.names,q9]
  exact dS fun x _=>Fa x
 |no=>rfl
theorem Ib {R:Type} {T:dw} {tt:TT} {ety:TypeId→Option Ty} {d:Nat} {st:gU} {o:Oper} {K:h_→Prog R} {r:R} (h:(PS T tt ety d st o K).run=some r) :
  iT (jM T) tt d (aI st) o fun e =>∃te:h_,e=te.er∧(K te).run=some r:=by
 have plain :∀op,(match g_ tt ety d st.go st.bC op o.type with
   |some r=>Prog.chk r.pre (.let_ r.val fun z=>K { x:=r.dst z,aA:=r.aA z,new:=r.new })
   |none=>match b_ tt ety d st.go st.bC op o.type with
    |some r=>Prog.chk r.pre (.let_ r.val fun z=>K { x:=r.dst z,aA:=r.aA z,new:=r.new })
    |none=>.stuck 16).run=some r→(∃dc r',bV tt dc d (aI st).o (aI st).bC op o.type=some r'∧r'.pre∧F8 r'.val fun z =>∃te:h_,({ x:=r'.dst z,aA:=r'.aA z,new:=r'.new }:Eff)=te.er∧(K te).run=some r)∨(match kernel tt d (aI st).o (aI st).bC op o.type with
   |some r'=>r'.pre∧bif Bg op then F8 r'.val fun z=>(∃te:h_,({ x:=r'.dst z,aA:=r'.aA z,new:=r'.new }:Eff)=te.er∧(K te).run=some r) else (∃te:h_,({ x:=r'.dst r'.val,aA:=r'.aA r'.val,new:=r'.new }:Eff)=te.er∧(K te).run=some r)
   |none=>False):=by
  intro op h
  split at h
  ·rename_i rr hk
   obtain ⟨h1,h2⟩:=Qh h
   obtain ⟨dc,r',hk',hs⟩:=LU op rr hk
   refine .inl ⟨dc,r',by rw [zB];exact hk',hs.pre h1,F8.iff.2 ⟨{ x:=rr.dst rr.val,aA:=rr.aA rr.val,new:=rr.new },?_,h2⟩⟩
   simp only [h_.er,hs.dst,hs.aA,hs.new]
  refine .inr ?_
  split at h
  ·rename_i rr hk
   obtain ⟨h1,h2⟩:=Qh h
   obtain ⟨r',hk',hs,hn⟩:=Ov op rr hk
   have hs:=hs h1
   have hk':kernel tt d (aI st).o (aI st).bC op o.type=some r':=by rw [zB];exact hk'
   rw [hk']
   refine ⟨hs.pre h1,?_⟩
   have key :∃te:h_,({ x:=r'.dst r'.val,aA:=r'.aA r'.val,new:=r'.new }:Eff)=te.er∧(K te).run=some r:=
    ⟨{ x:=rr.dst rr.val,aA:=rr.aA rr.val,new:=rr.new },by simp only [h_.er,hs.dst,hs.aA,hn],h2⟩
   cases Bg op with
   |true=>exact F8.iff.2 key
   |false=>exact key
  ·exact (bn h).elim
 unfold PS at h
 unfold iT
 split at h
 ·rename_i f args ts hop
  rw [hop]
  simp only
  split at h
  ·rename_i fn caps hf
   have hf':=Qi hf
   rw [jw,hf']
   simp only
   split at h
   ·rename_i sp hT
    have hT':pick (jM T) fn (args.toList.map (aI st).bC)=some sp.er:=by rw [E5,hT];rfl
    rw [hT']
    simp only
    split at h
    ·rename_i c hc
     obtain ⟨k1,k2⟩:=EW hc
     have k1:fU sp.er.sig (aI st).o ((args.toList.map (aI st).bC)++(caps.map bf).map fun x=>S.v (.one x))=some c.er:=by
      rw [E8];exact k1
     rw [k1]
     simp only
     split at h
     ·rename_i Pv
      split at h
      ·rename_i x hx
       split at h
       rotate_left
       ·exact (bn h).elim
       rename_i adM
       obtain ⟨y,hy,h⟩:=VD h
       obtain ⟨f1,f2⟩:=fO Pv
       refine ⟨?_,(Tup.kX sp.sig.aQ.tys y).map bQ,EX sp.sig d st.go c (Tup.kX sp.sig.aQ.tys y),⟨x,y,hy,?_,rfl⟩,MH adM k1 f1 (Df _ hx) hy,vF sp.sig d st.go c (Tup.kX sp.sig.aQ.tys y),?_,h⟩
       ·have f2:=Q4 f2
        simp only [Qf,decide_eq_true_eq,W0]
        exact ⟨f1,f2⟩
       ·rw [Df _ hx];rfl
       ·rw [JJ];exact congrArg _ (MF (rU _ _) (Sz hc)).symm
      ·exact (bn h).elim
     ·exact (bn h).elim
    ·exact (bn h).elim
   ·exact (bn h).elim
  ·exact (bn h).elim
 ·rename_i hno
  have h:=plain _ h
  split
  ·rename_i f args ts hop
   exact (hno _ _ _ hop).elim
  ·exact h
theorem Az (x:TO):(cu x).hn=gu x:=by
 cases x with
 |ay a i e ak l hole=>cases hole<;>rfl
 |_=>rfl
theorem JK (x:TO):tJ (cu x)=Aq x:=by
 cases x with
 |box ws=>
  show (ws.map bf).flatMap W.names=ws.flatMap W.namesT
  rw [q9]
  exact dS fun x _=>(xQ x).symm
 |_=>rfl
theorem BZ (st:gU) :∀(n:Nat) (gs:List Nat),lX (aI st).o n gs=zn st.go n gs
 |0,_=>rfl
 |n+1,gs=>by
  have e:(gs.flatMap fun g=>tJ ((aI st).o g))=gs.flatMap fun g=>Aq (st.go g):=dS fun g _=>JK (st.go g)
  simp only [lX,zn,e,BZ st n]
theorem zC (st:gU) (o:Oper):argNames (aI st) o=vG st o:=by
 unfold argNames vG
 generalize o.op=op
 cases op with
 |call c=>
  obtain ⟨callee,args,ats⟩:=c
  cases callee with
  |value f=>
   refine dS fun x _ => ?_
   rw [jw,rV]
  |_=>rfl
 |slice t x lo hi mx=>
  show ((aI st).bC x).names=S.namesT (st.bC x)
  rw [jw,rV]
 |_=>rfl
theorem Fb (st:gU) (o:Oper):pG (aI st) o=C9 st o:=by
 unfold pG C9
 rw [zC,BZ]
theorem Fe (st:gU) (o:Oper):gK (aI st) o=C_ st o:=by
 unfold gK C_
 rw [Fb,zC]
 refine List.filter_congr fun g _ => ?_
 have:((aI st).o g).hn=gu (st.go g):=Az _
 rw [this]
 cases gu (st.go g) with
 |nil=>rfl
 |cons d _=>simp only [aV]
theorem vH :∀{gs:List Nat} {st st1:gU},EH gs st=some st1→aI st1=Fw.shuts gs (aI st)
 | [],st,st1,h=>by simp only [EH,Q0] at h;subst h;rfl
 |g::gs,st,st1,h=>by
  simp only [EH] at h
  split at h
  ·rename_i d a i e ak l h1 h2
   rw [vH h,E_]
   have:=Ia h1 h2
   have this:Fw.iV (aI st).o g=_:=this
   simp only [Fw.shuts]
   rw [this]
  ·cases h
theorem SB {hs:List Nat} {st st1:gU} (h:EH hs st=some st1):wI hs (aI st)=fH (OD hs st st1):=by
 have e:=vH h
 unfold wI OD fH
 rw [←e,List.map_flatMap]
 refine dS fun g _ => ?_
 have:((aI st).o g).hn=gu (st.go g):=Az _
 rw [this,Qt,WK];rfl
theorem VF {R:Type} {T:dw} {tt:TT} {ety:TypeId→Option Ty} {d:Nat} {st:gU} {o:Oper} {K:h_→Prog R} {r:R} (h:(Sr T tt ety d st o K).run=some r) :
  gQ (jM T) tt d (aI st) o fun e =>∃te:h_,e=te.er∧(K te).run=some r:=by
 unfold Sr at h
 unfold gQ
 rw [Fe]
 split at h
 ·rename_i hcs
  rw [hcs]
  exact Ib h
 ·rename_i g gs hcs
  rw [hcs]
  split at h
  ·rename_i st1 h1
   have:=Ib h
   rw [vH h1] at this
   refine oJ ?_ this
   rintro e ⟨te,rfl,h⟩
   refine ⟨_,?_,h⟩
   simp only [yM,h_.er,SB h1]
   simp only [fH,XS]
  ·exact (bn h).elim
structure oP (q q':iG):Prop where
 s :∀t,hasK t q'.st.s=true→dM t q'.ds=false→hasK t q.st.s=true∧dM t q.ds=false∧q'.st.gs t=q.st.gs t
 o :∀g,hasK g q'.st.o=true→dM g q'.od=false→hasK g q.st.o=true∧dM g q.od=false∧q'.st.go g=q.st.go g
theorem oP.refl (q:iG):oP q q:=⟨fun t h1 h2=>⟨h1,h2,rfl⟩,fun t h1 h2=>⟨h1,h2,rfl⟩⟩
theorem oP.trans {a b c:iG} (h1:oP a b) (h2:oP b c):oP a c:=
 ⟨fun t k1 k2=>let ⟨x1,x2,x3⟩:=h2.s t k1 k2;let ⟨y1,y2,y3⟩:=h1.s t x1 x2;⟨y1,y2,x3.trans y3⟩,
  fun t k1 k2=>let ⟨x1,x2,x3⟩:=h2.o t k1 k2;let ⟨y1,y2,y3⟩:=h1.o t x1 x2;⟨y1,y2,x3.trans y3⟩⟩
theorem qE {α:Type} (k:Nat) (v:α) (t:Nat) :∀(l:List (Nat×α)),hasK t (uj k v l)=(Nat.beq t k||hasK t l)
 | []=>by simp [uj,hasK]
 |(k',v')::r=>by
  simp only [uj]
  cases h:Nat.beq k k' with
  |true=>
   have e:=Q4 h
   subst e
   simp only [cond_true,hasK]
   cases Nat.beq t k<;>simp
  |false=>
   simp only [cond_false,hasK,qE k v t r]
   cases Nat.beq t k<;>cases Nat.beq t k'<;>simp
theorem qF {α:Type} (d:α) :∀(l:List (Nat×α)) (t:Nat),hasK t l=false→iC d l t=d
 | [],t,_=>rfl
 |(k,v)::r,t,h=>by
  simp only [hasK,Vc] at h
  simp only [iC,h.1,cond_false]
  exact qF d r t h.2
theorem MI (l:List (Nat×TO)) (g:Nat) :∀(u:List (Nat×TO)),hasK g (zl l u)=(dM g (u.map (·.1))||hasK g l)
 | []=>rfl
 |(k,x)::u=>by simp only [zl,qE,MI l g u,Qt,dM,Bool.or_assoc]
theorem sK {α:Type} (g:Nat) :∀{u:List (Nat×α)},dM g (u.map (·.1))=false→u.lookup g=none
 | [],_=>rfl
 |(k,x)::u,h=>by
  simp only [Qt,dM,Vc] at h
  simp only [List.lookup,Dc,h.1]
  exact sK g h.2
theorem oP.eff (q:iG) (dst:Option Tmp) (e:h_):oP q (q.eff dst e):=by
 refine ⟨fun t h1 h2 => ?_,fun g h1 h2 => ?_⟩
 ·cases dst with
  |none=>exact ⟨h1,h2,rfl⟩
  |some d=>
   have h2:dM t (d::q.ds)=false:=h2
   have h1:hasK t (uj d e.x q.st.s)=true:=h1
   simp only [dM,Vc] at h2
   rw [qE,h2.1,VM] at h1
   refine ⟨h1,h2.2,?_⟩
   show iC .no (uj d e.x q.st.s) t=iC .no q.st.s t
   rw [nH,h2.1];rfl
 ·have h1:hasK g (zl q.st.o e.aA)=true:=h1
  have h2:dM g (e.aA.map (·.1)++q.od)=false:=h2
  rw [aV] at h2
  simp only [Ke,Vc] at h2
  rw [←aV,←aV] at h2
  rw [MI,h2.1,VM] at h1
  refine ⟨h1,h2.2,?_⟩
  show iC .none (zl q.st.o e.aA) g=iC .none q.st.o g
  rw [uM,sK g h2.1]
theorem Qj {q:iG} {t:Tmp} {a i b:Bool} (h:q.st.gs t=.v (.one (.p a i (gB b)))) (u:Nat):(q.know t a i b).st.gs u=q.st.gs u:=by
 show iC .no (uj t (.v (.one (.p a i (gB b)))) q.st.s) u=iC .no q.st.s u
 rw [nH]
 cases hb:Nat.beq u t with
 |false=>rfl
 |true=>
  have e:=Q4 hb
  subst e
  exact h.symm
theorem VG {q:iG} {t:Tmp} {a i b:Bool} (h:q.st.gs t=.v (.one (.p a i (gB b)))) (u:Nat):hasK u (q.know t a i b).st.s=hasK u q.st.s:=by
 show hasK u (uj t (.v (.one (.p a i (gB b)))) q.st.s)=hasK u q.st.s
 rw [qE]
 cases hb:Nat.beq u t with
 |false=>rfl
 |true=>
  have e:=Q4 hb
  subst e
  cases hk:hasK u q.st.s with
  |true=>rfl
  |false=>
   have:=qF TS.no q.st.s u hk
   rw [gU.gs] at h
   rw [this] at h;cases h
theorem uN {q:iG} {t:Tmp} {a i b:Bool} (h:q.st.gs t=.v (.one (.p a i (gB b)))):aI (q.know t a i b).st=aI q.st:=
 St.ext' (fun u=>by show aP _=aP _;rw [Qj h]) (fun g=>rfl) fun g=>rfl
theorem uO {q:iG} {t:Tmp} {a i b:Bool} (h:q.st.gs t=.v (.one (.p a i (gB b)))):oP q (q.know t a i b):=
 ⟨fun u h1 h2=>⟨by rw [←VG h];exact h1,h2,Qj h u⟩,fun g h1 h2=>⟨h1,h2,rfl⟩⟩
theorem MJ {q:iG} {t:Tmp} {a i:Bool} {k:IntKind} {n:Int} (h:q.st.gs t=.v (.one (.p a i (gq k n)))) (u:Nat):(q.LX t a i k n).st.gs u=q.st.gs u:=by
 show iC .no (uj t (.v (.one (.p a i (gq k n)))) q.st.s) u=iC .no q.st.s u
 rw [nH]
 cases hb:Nat.beq u t with
 |false=>rfl
 |true=>
  have e:=Q4 hb
  subst e
  exact h.symm
theorem SC {q:iG} {t:Tmp} {a i:Bool} {k:IntKind} {n:Int} (h:q.st.gs t=.v (.one (.p a i (gq k n)))) (u:Nat):hasK u (q.LX t a i k n).st.s=hasK u q.st.s:=by
 show hasK u (uj t (.v (.one (.p a i (gq k n)))) q.st.s)=hasK u q.st.s
 rw [qE]
 cases hb:Nat.beq u t with
 |false=>rfl
 |true=>
  have e:=Q4 hb
  subst e
  cases hk:hasK u q.st.s with
  |true=>rfl
  |false=>
   have:=qF TS.no q.st.s u hk
   rw [gU.gs] at h
   rw [this] at h;cases h
theorem SE {q:iG} {t:Tmp} {a i:Bool} {k:IntKind} {n:Int} (h:q.st.gs t=.v (.one (.p a i (gq k n)))):aI (q.LX t a i k n).st=aI q.st:=
 St.ext' (fun u=>by show aP _=aP _;rw [MJ h]) (fun g=>rfl) fun g=>rfl
theorem SG {q:iG} {t:Tmp} {a i:Bool} {k:IntKind} {n:Int} (h:q.st.gs t=.v (.one (.p a i (gq k n)))):oP q (q.LX t a i k n):=
 ⟨fun u h1 h2=>⟨by rw [←SC h];exact h1,h2,MJ h u⟩,fun g h1 h2=>⟨h1,h2,rfl⟩⟩
theorem MK {R:Type} {v:Int} {k:Int→Prog R} {r:R} :∀(n m:Nat),(PV v k m n).run=some r→(k v).run=some r
 |0,_,h=>(bn h).elim
 |1,m,h=>by
  have h:ck (Wy v (Int.ofNat m)) (k (Int.ofNat m)).run=some r:=h
  cases hb:Wy v (Int.ofNat m) with
  |true=>
   rw [hb] at h
   have e:v=Int.ofNat m:=of_decide_eq_true hb
   rw [e];exact h
  |false=>rw [hb] at h;cases h
 |n+2,m,h=>by
  have h:(bif Wy v (Int.ofNat m) then (k (Int.ofNat m)).run else (PV v k (m+1) (n+1)).run)=some r:=h
  cases hb:Wy v (Int.ofNat m) with
  |true=>
   rw [hb] at h
   have e:v=Int.ofNat m:=of_decide_eq_true hb
   rw [e];exact h
  |false=>rw [hb] at h;exact MK (n+1) (m+1) h
theorem VH {tt:TT} {st:gU} {t:TypeId} {x:Operand} {j:Tmp} {a i:Bool} {k:IntKind} {v:Int} {n:Nat} (h:Vh tt st t x j=some (a,i,k,v,n)):st.gs j=.v (.one (.p a i (gq k v))):=by
 have key :∀{y:TS} {m:Nat},(match y with
   |.v (.one (.p a i ⟨.int k,v⟩))=>bif Nat.ble m 4 then some (a,i,k,v,m) else none
   |_=>none)=some (a,i,k,v,n)→y=.v (.one (.p a i (gq k v))):=by
  intro y m h
  split at h
  ·cases hb:Nat.ble m 4 with
   |true=>
    rw [hb] at h
    simp only [cond_true,Q0,Q1] at h
    obtain ⟨rfl,rfl,rfl,rfl,rfl⟩:=h
    rfl
   |false=>rw [hb] at h;cases h
  ·cases h
 unfold Vh at h
 split at h
 ·split at h
  ·exact key h
  ·exact key h
  ·exact key h
  ·cases h
 ·cases h
theorem XA {tt:TT} {st:gU} {o:Oper} {t:Tmp} {a i:Bool} {k:IntKind} {v:Int} {n:Nat} (h:ZR tt st o=some (t,a,i,k,v,n)):st.gs t=.v (.one (.p a i (gq k v))):=by
 unfold ZR at h
 split at h
 ·split at h
  ·rename_i r hr
   simp only [Q0,Q1] at h
   obtain ⟨rfl,rfl⟩:=h
   exact VH hr
  ·cases h
 ·cases h
theorem Fh {u:List Nat} :∀{gs:List Nat},xK u gs=true→(gs.all fun g=>!dM g u)=true
 | [],_=>rfl
 |g::gs,h=>by
  simp only [xK,Qf] at h
  simp only [List.all_cons,Qf]
  exact ⟨h.1,Fh h.2⟩
theorem xR {N:Nat} :∀(dst:Option Tmp),PU N dst=true→(match dst with | some d=>decide (d<N) | none=>true)=true
 |none,_=>rfl
 |some d,h=>decide_eq_true (Z6 h)
def Qk {R:Type} (q:iG) (K:iG→h_→Prog R) (r:R) (e:Eff):Prop :=∃(q':iG) (te:h_),e=te.er∧aI q'.st=aI q.st∧oP q q'∧(K q' te).run=some r
theorem JL {R:Type} {T:dw} {tt:TT} {ety:TypeId→Option Ty} {d:Nat} {q0 q:iG} {o:Oper} {K:iG→h_→Prog R} {r:R} (he:aI q.st=aI q0.st) (hr:oP q0 q)
  (h:(Sr T tt ety d q.st o fun e=>match xK q.st.u e.new with | true=>K q e | false=>.stuck 21).run=some r) :
  gQ (jM T) tt d (aI q0.st) o fun e=>(e.new.all fun g=>!(aI q0.st).used g)=true∧Qk q0 K r e:=by
 have h:=VF h
 rw [he] at h
 refine lG ?_ h
 rintro e ⟨te,rfl,h⟩
 split at h
 ·rename_i hf
  refine ⟨?_,q,te,rfl,he,hr,h⟩
  rw [←he]
  exact Fh hf
 ·exact (bn h).elim
theorem ML {R:Type} {T:dw} {tt:TT} {ety:TypeId→Option Ty} {N:Nat} {ops:Array Oper} {o:Oper} {q:iG} {K:iG→h_→Prog R} {r:R} (h:(stepT T tt ety N ops o q K).run=some r) :
  stepW (jM T) tt N ops o (aI q.st) (Qk q K r):=by
 unfold stepT at h
 split at h
 ·exact (bn h).elim
 ·rename_i hd
  unfold stepW
  refine ⟨xR _ hd,?_⟩
  split at h
  ·rename_i hg
   rw [hg]
   split at h
   ·exact JL rfl (oP.refl q) h
   ·rename_i t a i k v n hs
    have h:=MK _ _ h
    simp only [pR] at h
    have hgs:=XA hs
    exact JL (SE hgs) (SG hgs) h
  ·rename_i j want hg
   rw [hg]
   simp only
   split at h
   ·exact (bn h).elim
   ·rename_i t ht
    have:guardOf ops (aI q.st) j want=some false:=by
     unfold OE at ht
     split at ht
     ·rename_i t' ht'
      split at ht
      ·cases ht
      ·rename_i hs
       simp only [guardOf,ht']
       show (match aP (q.st.gs t') with | .v (.one (.p _ _ (.bool b)))=>_ | .jK []=>_ | _=>_)=_
       rw [hs];rfl
      ·cases ht
     ·cases ht
    rw [this]
    exact ⟨q,h_.skip,rfl,rfl,oP.refl q,h⟩
   ·rename_i t a i b ht
    have hb:q.st.gs t=.v (.one (.p a i (gB b)))∧guardOf ops (aI q.st) j want=some (bif want then b else !b):=by
     unfold OE at ht
     split at ht
     ·rename_i t' ht'
      split at ht
      ·rename_i a' i' b' hs
       simp only [Q0,Q1] at ht
       obtain ⟨rfl,rfl,rfl,rfl⟩:=ht
       refine ⟨hs,?_⟩
       simp only [guardOf,ht']
       show (match aP (q.st.gs t') with | .v (.one (.p _ _ (.bool b)))=>_ | .jK []=>_ | _=>_)=_
       rw [hs];rfl
      ·cases ht
      ·cases ht
     ·cases ht
    obtain ⟨hgs,hgd⟩:=hb
    rw [hgd]
    simp only
    have h:(bif b then _ else _:Option R)=some r:=h
    cases b with
    |true=>
     have h:(frX (q.know t a i true) fun q=>bif want then _ else K q h_.skip).run=some r:=h
     rw [pR] at h
     cases want with
     |true=>exact JL (uN hgs) (uO hgs) h
     |false=>exact ⟨_,h_.skip,rfl,uN hgs,uO hgs,h⟩
    |false=>
     have h:(frX (q.know t a i false) fun q=>bif want then K q h_.skip else _).run=some r:=h
     rw [pR] at h
     cases want with
     |true=>exact ⟨_,h_.skip,rfl,uN hgs,uO hgs,h⟩
     |false=>exact JL (uN hgs) (uO hgs) h
end
end Go.Fg

namespace Go.Fg
open Go.Fw
section
variable [dB]
theorem uP {T:Tab} {tt:TT} {N:Nat} {ops:Array Oper} {K K':St→Prop} (hK :∀st,K st→K' st) :∀{is:List Nat} {st:St},rG T tt N ops is st K→rG T tt N ops is st K'
 | [],st,h=>hK st h
 |i::is,st,h=>by
  simp only [rG] at h ⊢
  split at h
  ·exact EZ (fun e he=>uP hK he) h
  ·exact h
theorem rW {T:Tab} {tt:TT} {N:Nat} {ops:Array Oper} {K K':St→List pK→Prop} (hK :∀st fs,K st fs→K' st fs) :∀{is:List Nat} {st:St} {fs:List pK},lU T tt N ops is st fs K→lU T tt N ops is st fs K'
 | [],st,fs,h=>hK st fs h
 |i::is,st,fs,h=>by
  simp only [lU] at h ⊢
  split at h
  ·exact Aw (fun e he=>rW hK he) h
  ·exact h
end
section
variable [RE]
def Jy.ok (c:Jy) (b:Bool):Prop:=match c with
 |.yes=>b=true
 |.no=>b=false
 |.may e=>e=false→b=false
def MN (a:Option Jy) (b:Option (Bool→Prop)):Prop:=(a=none→b=none)∧∀c,a=some c→∃p,b=some p∧∀b,p b→c.ok b
theorem MN.none:MN none none:=⟨fun _=>rfl,fun _ h=>(nomatch h)⟩
theorem MN.some {c:Jy} {p:Bool→Prop} (h :∀b,p b→c.ok b):MN (some c) (some p):=⟨fun h=>(nomatch h),fun c' e=>⟨p,rfl,by cases e;exact h⟩⟩
theorem SH {o:Nat→TO} {x:TS}:MN (EI o x) (G7 (aZ o) (aP x)):=by
 cases x with
 |v x=>
  cases x with
  |one x=>
   cases x with
   |p a i w=>
    obtain ⟨t,x⟩:=w
    cases t with
    |sl e=>
     change List (Dt e) at x
     cases x with
     |nil=>exact .some fun b hb h=>by simp at h
     |cons y ys=>exact .some fun b hb h=>hb (by intro h;cases h)
    |_=>exact .none
   |own g=>
    cases hg:o g with
    |arr fz a i e l=>
     have hd:(aZ o g).dim=some (size e,l.length):=lZ (by simp only [Gm,hg])
     simp only [EI,hg,aP,iF,bf,G7,hd]
     refine .some fun b hb h=>hb fun h' => ?_
     cases l with
     |nil=>simp at h
     |cons y ys=>cases h'
    |ay a i e ak l hole=>
     have hd:(aZ o g).dim=some (size e,l.length):=lZ (by simp only [Gm,hg])
     simp only [EI,hg,aP,iF,bf,G7,hd]
     refine .some fun b hb h=>hb fun h' => ?_
     cases l with
     |nil=>simp at h
     |cons y ys=>cases h'
    |_=>simp only [EI,hg,aP,iF,bf,G7,aZ,cu,O.dim];exact .none
   |bM=>exact .some fun b hb=>hb
   |_=>exact .none
  |agg xs=>exact .none
 |_=>exact .none
theorem SI {o:Nat→TO} {x:TS}:MN (EJ o x) (BD (aZ o) (aP x)):=by
 cases x with
 |v x=>
  cases x with
  |one x=>
   cases x with
   |p a i w=>
    obtain ⟨t,x⟩:=w
    cases t with
    |opq=>
     change Value at x
     unfold EJ
     split
     ·rename_i h;cases h
     ·rename_i h
      cases h
      exact .some fun b hb=>hb
     ·rename_i h1 h2
      have:BD (aZ o) (aP (.v (.one (.p a i ⟨.opq,x⟩))))=Option.none:=by
       show BD (aZ o) (.v (.one (.p a i (.opq x))))=Option.none
       unfold BD
       split
       ·rename_i h;cases h
       ·rename_i h
        cases h
        exact (h2 _ _ rfl).elim
       ·rfl
      rw [this];exact .none
    |sl e=>
     change List (Dt e) at x
     cases x<;>exact .none
    |_=>exact .none
   |box g off=>
    cases hg:o g with
    |box ws=>
     simp only [EJ,hg,aP,iF,bf,BD,lK hg]
     exact .some fun b hb=>hb
    |_=>simp only [EJ,hg,aP,iF,bf,BD,aZ,cu];exact .none
   |_=>exact .none
  |agg xs=>exact .none
 |_=>exact .none
theorem SK {o:Nat→TO} {x:TS} {k:Fw.TK} {c:Value}:MN (Jz o x k c) (t_ (aZ o) (aP x) k c):=by
 unfold Jz
 split
 ·exact SH
 ·exact SI
 ·rename_i h1 h2
  have:t_ (aZ o) (aP x) k c=Option.none:=by
   unfold t_
   split
   ·exact (h1 _ rfl rfl).elim
   ·exact (h2 rfl rfl).elim
   ·rfl
  rw [this];exact .none
def VI (a:Option (Bool×Jy)) (b:Option (Bool×(Bool→Prop))):Prop:=(a=none→b=none)∧∀pos c,a=some (pos,c)→∃p,b=some (pos,p)∧∀b,p b→c.ok b
theorem VI.none:VI none none:=⟨fun _=>rfl,fun _ _ h=>(nomatch h)⟩
theorem XB {tt:TT} {st:gU} {o:Oper}:VI (ZT tt st o) (Jb tt (aI st) o):=by
 unfold ZT Jb
 cases hgd:o.guard with
 |some g=>exact .none
 |none=>
  simp only
  cases hop:o.op with
  |binOp op t x y u=>
   cases y with
   |const c=>
    simp only
    cases ht:tt t with
    |none=>exact .none
    |some i=>
     simp only
     have hs:=SK (o:=st.go) (x:=st.bC x) (k:=i.k) (c:=c)
     rw [←jw] at hs
     change MN _ (t_ (aI st).o ((aI st).bC x) i.k c) at hs
     generalize Jz st.go (st.bC x) i.k c=A at hs ⊢
     generalize t_ (aI st).o ((aI st).bC x) i.k c=B at hs ⊢
     cases A with
     |none=>
      have:=hs.1 rfl
      subst this
      cases op<;>exact .none
     |some c'=>
      obtain ⟨p,rfl,hp⟩:=hs.2 c' rfl
      cases op<;>first
       |exact .none
       |(
         refine ⟨fun h=>(nomatch h),fun pos c'' h => ?_⟩
         simp only [Q0,Q1] at h
         obtain ⟨rfl,rfl⟩:=h
         exact ⟨p,rfl,hp⟩)
   |_=>exact .none
  |_=>exact .none
theorem run_any {R:Type} {x y:Prog R} {r:R} (h:(Prog.any x y).run=some r):x.run=some r∧y.run=some r:=SA h
theorem adN (pos b:Bool):({ x:=scalar (.bool (bif pos then b else !b)),aA:=[],new:=[] }:Eff)=(nV (bif pos then b else !b)).er:=rfl
theorem VJ {st:gU} {o:Oper}:Jc (aI st) o=(Vj st o).map fun x=>(x.1,P.str ⟨x.2.1.toArray⟩,P.int .i64 x.2.2):=by
 unfold Jc Vj
 cases o.guard with
 |some g=>rfl
 |none=>
  simp only
  cases o.op with
  |next x b=>
   cases b with
   |false=>rfl
   |true=>
    simp only [jw]
    cases st.bC x with
    |v x=>
     cases x with
     |one x=>
      cases x with
      |kH g=>
       simp only [aP,iF,bf]
       have e:(aI st).o g=cu (st.go g):=rfl
       rw [e]
       cases st.go g<;>rfl
      |_=>rfl
     |agg xs=>rfl
    |_=>rfl
  |_=>rfl
theorem itE (g:Nat) (s:List UInt8) (n:Int):D9 g (.str ⟨s.toArray⟩) (.int .i64 n)=(JA g s n).er:=rfl
theorem SL {R:Type} {T:dw} {tt:TT} {ety:TypeId→Option Ty} {N:Nat} {ops:Array Oper} {o:Oper} {q:iG} {K:iG→h_→Prog R} {r:R} (h:(OH T tt ety N ops o q K).run=some r) :
  yU (jM T) tt N ops o (aI q.st) (Qk q K r):=by
 unfold OH at h
 have hn:=XB (tt:=tt) (st:=q.st) (o:=o)
 split at h
 ·rename_i pos c hc
  obtain ⟨p,hp,hok⟩:=hn.2 pos c hc
  unfold yU
  rw [hp]
  simp only
  split at h
  ·exact (bn h).elim
  ·rename_i hd
   refine ⟨xR _ hd,fun b hb => ?_⟩
   have hok:=hok b hb
   rw [adN]
   have done:(K q (nV (bif pos then b else !b))).run=some r→Qk q K r (nV (bif pos then b else !b)).er:=fun h=>⟨q,_,rfl,rfl,oP.refl q,h⟩
   refine done ?_
   cases c with
   |yes=>
    have hok:b=true:=hok
    subst hok
    cases pos<;>exact h
   |no=>
    have hok:b=false:=hok
    subst hok
    cases pos<;>exact h
   |may e=>
    have h:(bif e then (Prog.any (K q (nV true)) (K q (nV false))).run else (K q (nV (!pos))).run)=some r:=h
    cases e with
    |true=>
     obtain ⟨h1,h2⟩:=run_any h
     cases (bif pos then b else !b) with
     |true=>exact h1
     |false=>exact h2
    |false=>
     have hok:b=false:=hok rfl
     subst hok
     cases pos<;>exact h
 ·rename_i hc
  unfold yU
  rw [hn.1 hc,VJ]
  simp only
  split at h
  ·rename_i g s n hnx
   rw [hnx]
   simp only [YY]
   split at h
   ·exact (bn h).elim
   ·rename_i hd
    have h:(bif Xn s n then (K q (JA g s n)).run else (K q OG).run)=some r:=h
    have hb:La (.str ⟨s.toArray⟩) (.int .i64 n)=Xn s n:=by
     unfold La Xn
     have:(P.str ⟨s.toArray⟩).bytes.size=s.length:=by show s.toArray.size=_;simp
     rw [this];rfl
    rw [hb]
    refine ⟨xR _ hd,fun e => ?_,fun e => ?_⟩
    ·rw [e] at h
     exact ⟨q,JA g s n,itE g s n,rfl,oP.refl q,h⟩
    ·rw [e] at h
     exact ⟨q,OG,rfl,rfl,oP.refl q,h⟩
  ·rename_i hnx
   rw [hnx]
   exact ML h
theorem Ql {R:Type} {T:dw} {tt:TT} {ety:TypeId→Option Ty} {N:Nat} {ops:Array Oper} {r:R} {K:iG→Prog R} :∀{l:List Oper} {i:Nat} {q:iG},l=ops.toList.drop i→(runT T tt ety N ops l q K).run=some r→
  rG (jM T) tt N ops (List.range' i l.length) (aI q.st) fun st' =>∃q':iG,st'=aI q'.st∧oP q q'∧(K q').run=some r
 | [],i,q,hl,h=>⟨q,rfl,oP.refl q,h⟩
 |o::os,i,q,hl,h=>by
  have h0:ops[i]?=some o:=by
   have:=congrArg (·[0]?) hl
   simpa using this.symm
  have h1:os=ops.toList.drop (i+1):=by
   have:=congrArg List.tail hl
   simpa using this
  simp only [Kb,K4,rG,h0]
  refine EZ ?_ (SL h)
  rintro e ⟨q',te,rfl,he,hr,h⟩
  simp only [pR] at h
  have ih:=Ql h1 h
  rw [←he,←H9]
  refine uP ?_ ih
  rintro st' ⟨q'',rfl,hr',h⟩
  exact ⟨q'',rfl,(hr.trans (oP.eff q' o.dst te)).trans hr',h⟩
end
end Go.Fg

namespace Go.Fg
open Go.Fw
section
variable [RE]
theorem VK {x:TS} {fn:FuncId} {caps:List W} (h:aP x=.v (.one (.clo fn caps))) :∃cs,x=.v (.one (.clo fn cs))∧caps=cs.map bf:=by
 cases x with
 |v x=>
  cases x with
  |one x=>
   cases x with
   |clo f cs=>
    simp only [aP,iF,bf,S.v.injEq,V.one.injEq,W.clo.injEq,vg] at h
    obtain ⟨rfl,rfl⟩:=h
    exact ⟨cs,rfl,rfl⟩
   |_=>simp [aP,iF,bf] at h
  |agg xs=>simp [aP,iF] at h
 |_=>simp [aP] at h
theorem Ic {o:Nat→O} {args:List TS} :∀{l:List (Nat×lS)},PW args l=true→dD o (args.map aP) (l.map fun p=>(p.1,p.2.er))=none
 | [],h=>by cases h
 |(t,k)::rest,h=>by
  unfold PW at h
  simp only [Qt,dD]
  split at h
  ·rename_i hn
   have e:(args.map aP).getD t .no=.no:=by
    simp only [Q6,Xs] at hn ⊢
    cases hz:args[t]? with
    |none=>simp
    |some z=>rw [hz] at hn;simp at hn;subst hn;rfl
   rw [e]
   cases k.er<;>simp [lF]
  ·rename_i ys hn
   have e :∃zs,(args.map aP).getD t .no=.jK zs:=by
    simp only [Q6,Xs] at hn ⊢
    cases hz:args[t]? with
    |none=>rw [hz] at hn;simp at hn
    |some z=>rw [hz] at hn;simp at hn;subst hn;exact ⟨_,rfl⟩
   obtain ⟨zs,e⟩:=e
   rw [e]
   cases k.er<;>simp [lF]
  ·rw [Ic h]
   split
   ·rename_i h1 h2;cases h2
   ·rfl
theorem SN {T:dw} {st:gU} {o:Oper} {l:List Nat} (h:OI T st o=some l):KY (jM T) (aI st) o=l:=by
 unfold OI at h
 unfold KY
 split at h
 ·rename_i f args ts hop
  rw [hop]
  simp only
  rw [jw]
  split at h
  ·rename_i fn caps hf
   rw [Qi hf]
   simp only
   split at h
   ·rename_i sp hT
    have hT':pick (jM T) fn (args.toList.map (aI st).bC)=some sp.er:=by rw [E5,hT];rfl
    rw [hT']
    simp only
    split at h
    ·rename_i c hc
     simp only [Q0] at h;subst h
     obtain ⟨k1,k2⟩:=EW hc
     have k1:fU sp.er.sig (aI st).o ((args.toList.map (aI st).bC)++(caps.map bf).map fun x=>S.v (.one x))=some c.er:=by
      rw [E8];exact k1
     rw [k1];rfl
    ·obtain ⟨hm,h⟩:=aW h
     simp only [Q0] at h;subst h
     have k1:fU sp.er.sig (aI st).o ((args.toList.map (aI st).bC)++(caps.map bf).map fun x=>S.v (.one x))=none:=by
      rw [E8]
      unfold fU
      have e:dD (aI st).o (List.map aP (List.map st.bC args.toList++List.map (fun x=>TS.v (TV.one x)) caps)) sp.er.sig.pin.slots=none:=Ic hm
      rw [e]
     rw [k1]
   ·rename_i hT
    simp only [Q0] at h;subst h
    have hT':pick (jM T) fn (args.toList.map (aI st).bC)=none:=by rw [E5,hT];rfl
    rw [hT']
  ·rename_i hno
   simp only [Q0] at h;subst h
   split
   ·rename_i fn caps hf
    obtain ⟨cs,hx,_⟩:=VK hf
    exact (hno _ _ hx).elim
   ·rfl
 ·rename_i hno
  simp only [Q0] at h;subst h
  split
  ·rename_i f args ts hop
   exact (hno _ _ _ hop).elim
  ·rfl
theorem SQ {T:dw} {st:gU} {o:Oper} {l:List Nat} (h:OJ T st o=some l):yT (jM T) (aI st) o=l:=by
 unfold OJ at h
 split at h
 ·rename_i r hr
  simp only [Q0] at h;subst h
  unfold yT
  rw [SN hr]
  congr 1
  congr 1
  refine dS fun x _ => ?_
  rw [jw,←rV]
  refine dS fun g _ => ?_
  have:((aI st).o g).hn=gu (st.go g):=by
   show (cu (st.go g)).hn=_
   cases st.go g with
   |ay a i e ak l hole=>cases hole<;>rfl
   |_=>rfl
  rw [this]
 ·cases h
theorem VL {T:dw} {st:gU} {o:Oper} {l:List Nat} (h:Vk T st o=some l):pJ (jM T) (aI st) o=l:=by
 unfold Vk at h
 split at h
 ·rename_i st1 h1
  split at h
  ·rename_i l' h2
   simp only [Q0] at h;subst h
   unfold pJ
   rw [Fe,←vH h1,SQ h2,Fb]
   congr 1
   refine dS fun g _ => ?_
   have:((aI st).o g).hn=gu (st.go g):=Az _
   rw [this]
  ·cases h
 ·cases h
theorem Fj (l:List (Nat×TO)):(fH l).map (·.1)=l.map (·.1):=by simp only [fH,WK];rfl
theorem SV (x y:TW):Ut (bf x) (bf y)=Vl x y:=by cases x<;>cases y<;>rfl
theorem Ie (g:Nat) :∀(j:Nat) (xs ys:List TW),yV g j (xs.map bf) (ys.map bf)=Ar g j xs ys
 |_,[],[]=>rfl
 |_,[],y::ys=>rfl
 |_,x::xs,[]=>rfl
 |j,x::xs,y::ys=>by
  simp only [Qt,yV,Ar,Ie g (j+1) xs ys,SV]
  cases Ar g (j+1) xs ys<;>rfl
theorem SX (g:Nat) (x:TO) (y:Option TO):Lc g (cu x) (y.map cu)=OL g x y:=by
 cases x with
 |box ws=>
  cases y with
  |none=>rfl
  |some y=>
   cases y with
   |box ws'=>
    simp only [cu,YY,Lc,OL,Ie]
    cases Ar g 0 ws ws'<;>rfl
   |_=>rfl
 |_=>cases y<;>rfl
theorem uQ (g:Nat) :∀(l:List (Nat×TO)),(fH l).lookup g=(l.lookup g).map cu
 | []=>rfl
 |(k,x)::r=>by
  show (List.lookup g ((k,cu x)::fH r))=_
  simp only [List.lookup]
  cases hb:g==k with
  |true=>rfl
  |false=>exact uQ g r
theorem SY {g:Nat} (x:TO) (y:Option TO):keepR g (cu x) (y.map cu)=Vm g x y:=by
 cases x<;>cases y<;>first | rfl | skip
 all_goals
  rename_i y
  cases y<;>rfl
theorem Z8 {st:gU} {o:Oper} {e:h_}:Jd (aI st) o e.er=kpT st o e.aA:=by
 unfold Jd kpT
 congr 1
 ·have:(fun x=>((aI st).bC x).names)=fun x=>S.namesT (st.bC x):=by
   funext x
   rw [jw]
   exact (rV _).symm
  rw [this]
 ·show ((fH e.aA).map (·.1)).flatMap _=_
  rw [Fj]
  refine dS fun g _ => ?_
  show Lc g (cu (st.go g)) ((fH e.aA).lookup g)++(bif D_ o.op then keepR g (cu (st.go g)) ((fH e.aA).lookup g) else [])=_
  rw [uQ,SX,SY]
theorem VN (x:TO):kindOf (cu x)=Vo x:=by cases x<;>rfl
theorem qG {α β:Type} {f g:α→Option β} :∀{l:List α},(∀x∈l,f x=g x)→l.filterMap f=l.filterMap g
 | [],_=>rfl
 |x::l,h=>by
  have ih:l.filterMap f=l.filterMap g:=qG fun y hy=>h y (WF _ hy)
  simp only [List.filterMap_cons,h x (by simp),ih]
theorem Z9 {st:gU} {e:h_}:N7 (aI st) e.er=kdT st e.aA:=by
 unfold N7 kdT
 show ((fH e.aA).map (·.1)).filterMap _=_
 rw [Fj]
 refine qG fun g _ => ?_
 show (match (fH e.aA).lookup g with
  |some x=>bif Nat.beq (kindOf x) (kindOf (cu (st.go g))) then some g else none
  |none=>none)=_
 rw [uQ]
 cases e.aA.lookup g with
 |none=>rfl
 |some x=>simp only [YY,VN]
theorem Z_ {tt:TT} {st:gU} {o:Oper}:Gi tt (aI st) o=ldT tt st o:=by
 unfold Gi ldT
 cases o.op with
 |load t x=>
  simp only [jw]
  cases tt t with
  |none=>rfl
  |some i=>
   cases st.bC x with
   |v x=>
    cases x with
    |one x=>
     cases x with
     |ep g n off=>
      show (match cu (st.go g) with
       |.ay _ _ _ ak _ _=>bif (gI ak off i.size).isEmpty then some (g,5000000,1) else none
       |_=>none)=_
      cases hg:st.go g<;>simp only [cu,hg]
     |_=>rfl
    |agg xs=>rfl
   |_=>rfl
 |_=>rfl
theorem MO {R:Type} {T:dw} {tt:TT} {ety:TypeId→Option Ty} {N:Nat} {ops:Array Oper} {r:R} {K:iG→List pK→Prog R} :∀{l:List Oper} {i:Nat} {q:iG} {fs:List pK},l=ops.toList.drop i→(runNT T tt ety N ops l q fs K).run=some r→
  lU (jM T) tt N ops (List.range' i l.length) (aI q.st) fs fun st' fs' =>∃q':iG,st'=aI q'.st∧oP q q'∧(K q' fs').run=some r
 | [],i,q,fs,hl,h=>⟨q,rfl,oP.refl q,h⟩
 |o::os,i,q,fs,hl,h=>by
  have h0:ops[i]?=some o:=by
   have:=congrArg (·[0]?) hl
   simpa using this.symm
  have h1:os=ops.toList.drop (i+1):=by
   have:=congrArg List.tail hl
   simpa using this
  simp only [Kb,K4,lU,h0]
  unfold runNT at h
  split at h
  ·exact (bn h).elim
  ·rename_i rd hrd
   refine Aw ?_ (ML h)
   rintro e ⟨q',te,rfl,he,hr,h⟩
   simp only [pR,Z7] at h
   have ih:=MO h1 h
   rw [←Z_,←Z8,←Z9,←he] at ih
   rw [VL hrd,←he,←H9]
   have e1:te.er.aA.map (·.1)=te.aA.map (·.1):=Fj te.aA
   have e2:te.er.new=te.new:=rfl
   rw [e1,e2]
   refine rW ?_ ih
   rintro st' fs' ⟨q'',rfl,hr',h⟩
   exact ⟨q'',rfl,(hr.trans (oP.eff q' o.dst te)).trans hr',h⟩
theorem Fp {R:Type} {T:dw} {tt:TT} {ety:TypeId→Option Ty} {N:Nat} {ops:Array Oper} {draw:Bool} {r:R} {K:iG→Prog R} {q:iG} {Kp:St→Prop} (h:(rM T tt ety N ops draw q K).run=some r)
  (hK :∀q',oP q q'→(K q').run=some r→Kp (aI q'.st)):oK (jM T) tt N ops draw (aI q.st) Kp:=by
 unfold rM at h
 unfold oK
 cases draw with
 |false=>
  have:=Ql (i:=0) (by simp) h
  rw [←Ka,Array.length_toList] at this
  refine uP ?_ this
  rintro st' ⟨q',rfl,hr,h⟩
  exact hK q' hr h
 |true=>
  have:=MO (i:=0) (by simp) h
  rw [←Ka,Array.length_toList] at this
  refine rW ?_ this
  rintro st' fs ⟨q',rfl,hr,h⟩
  split at h
  ·rename_i hf
   exact ⟨hf,hK q' hr h⟩
  ·exact (bn h).elim
theorem VO {A R:Type} {x:Prog A} {k:A→Prog R} {r:R} (h:(Prog.join x k).run=some r) :∃a,x.run=some a∧(k a).run=some r:=by
 have h:x.run.bind (fun z=>(k z).run)=some r:=h
 cases hx:x.run with
 |none=>rw [hx] at h;cases h
 |some a=>rw [hx] at h;exact ⟨a,rfl,h⟩
theorem S9 {A R:Type} {x:Prog (A ⊕ R)} {k:A→Prog R} {r:R} (h:(Prog.BM x k).run=some r):(∃a,x.run=some (.inl a)∧(k a).run=some r)∨x.run=some (.inr r):=by
 have h:fQ x.run (fun z=>(k z).run)=some r:=h
 cases hx:x.run with
 |none=>rw [hx] at h;cases h
 |some a=>
  rw [hx] at h
  cases a with
  |inl a=>exact .inl ⟨a,rfl,h⟩
  |inr r'=>
   have h:some r'=some r:=h
   cases h;exact .inr rfl
theorem OT {A R:Type} {body:A→Option (A ⊕ R)} {a:A} {r:R} (h:BN body a=some r) :∃n,iY body n a=some r:=by
 unfold BN at h
 split at h
 ·exact ⟨_,h⟩
 ·cases h
theorem VP {A R:Type} {a:A} {body:A→Prog (A ⊕ R)} {r:R} (h:(Prog.loop a body).run=some r) :∃n,iY (fun z=>(body z).run) n a=some r:=OT h
theorem xU {A R:Type} {body:A→Option (A ⊕ R)} :∀{n m:Nat} {a:A} {r:R},n≤m→iY body n a=some r→iY body m a=some r
 |0,m,a,r,_,h=>by cases h
 |n+1,0,a,r,hm,h=>by omega
 |n+1,m+1,a,r,hm,h=>by
  simp only [iY] at h ⊢
  cases hb:body a with
  |none=>rw [hb] at h;cases h
  |some v=>
   rw [hb] at h
   cases v with
   |inl a'=>exact xU (n:=n) (by omega) h
   |inr r'=>exact h
theorem Fq {A R:Type} {body:A→Option (A ⊕ R)} {n:Nat} {a:A} {r:R} (h:iY body n a=some r):BN body a=some r:=by
 have hex :∃n r,iY body n a=some r:=⟨n,r,h⟩
 unfold BN
 rw [dif_pos hex]
 obtain ⟨r',h'⟩:=Classical.choose_spec hex
 rw [h']
 rcases Nat.le_total n (Classical.choose hex) with hle | hle
 ·have:=xU hle h
  rw [this] at h';exact h'.symm
 ·have:=xU hle h'
  rw [this] at h;exact h
theorem Qm {A R R':Type} {f:R→R'} (hf :∀a b,f a=f b→a=b) :∀a b:A ⊕ R,Sum.map id f a=Sum.map id f b→a=b
 |.inl a,.inl b,h=>by cases h;rfl
 |.inl a,.inr b,h=>by cases h
 |.inr a,.inl b,h=>by cases h
 |.inr a,.inr b,h=>by
  have h:(Sum.inr (f a):A ⊕ R')=.inr (f b):=h
  simp only [Sum.inr.injEq] at h
  rw [hf _ _ h]
theorem run_map {R R':Type} (f:R→R') (hf :∀a b,f a=f b→a=b) (p:Prog R):(p.map f).run=p.run.map f:=by
 induction p generalizing R' with
 |ret r=>rfl
 |stuck n=>rfl
 |cond b x y PE ihy=>
  show (bif b then (x.map f).run else (y.map f).run)=(bif b then x.run else y.run).map f
  rw [PE f hf,ihy f hf];cases b<;>rfl
 |chk b x ih=>
  show ck b (x.map f).run=(ck b x.run).map f
  rw [ih f hf];cases b<;>rfl
 |any x y PE ihy=>
  show both (x.map f).run (y.map f).run=(both x.run y.run).map f
  rw [PE f hf,ihy f hf]
  unfold both
  by_cases e:x.run=y.run
  ·rw [if_pos e,if_pos (by rw [e])]
  ·rw [if_neg e,if_neg]
   ·rfl
   ·intro h
    apply e
    cases hx:x.run with
    |none=>
     cases hy:y.run with
     |none=>rfl
     |some b=>rw [hx,hy] at h;cases h
    |some a=>
     cases hy:y.run with
     |none=>rw [hx,hy] at h;cases h
     |some b=>
      rw [hx,hy] at h
      simp only [YY,Q0] at h
      rw [hf a b h]
 |let_ x k ih=>exact ih x f hf
 |join x k PE ihk=>
  show x.run.bind (fun z=>((k z).map f).run)=(x.run.bind fun z=>(k z).run).map f
  cases x.run with
  |none=>rfl
  |some a=>exact ihk a f hf
 |BM x k PE ihk=>
  show fQ (x.map (Sum.map id f)).run (fun z=>((k z).map f).run)=(fQ x.run fun z=>(k z).run).map f
  rw [PE _ (Qm hf)]
  cases x.run with
  |none=>rfl
  |some a=>
   cases a with
   |inl a=>exact ihk a f hf
   |inr r=>rfl
 |loop a body ih=>
  show BN (fun z=>((body z).map (Sum.map id f)).run) a=(BN (fun z=>(body z).run) a).map f
  have e:(fun z=>((body z).map (Sum.map id f)).run)=fun z=>(body z).run.map (Sum.map id f):=funext fun z=>ih z _ (Qm hf)
  rw [e]
  have key :∀n a,iY (fun z=>(body z).run.map (Sum.map id f)) n a=(iY (fun z=>(body z).run) n a).map f:=by
   intro n
   induction n with
   |zero=>intro a;rfl
   |succ n ihn=>
    intro a
    simp only [iY]
    cases (body a).run with
    |none=>rfl
    |some v=>
     cases v with
     |inl a'=>exact ihn a'
     |inr r=>rfl
  have hiff:(∃n r,iY (fun z=>(body z).run.map (Sum.map id f)) n a=some r)↔∃n r,iY (fun z=>(body z).run) n a=some r:=by
   constructor
   ·rintro ⟨n,r,h⟩
    rw [key] at h
    cases hx:iY (fun z=>(body z).run) n a with
    |none=>rw [hx] at h;cases h
    |some r'=>exact ⟨n,r',hx⟩
   ·rintro ⟨n,r,h⟩
    exact ⟨n,f r,by rw [key,h];rfl⟩
  by_cases hex :∃n r,iY (fun z=>(body z).run) n a=some r
  ·obtain ⟨n,r,hn⟩:=hex
   have u1:=Fq hn
   have u2:iY (fun z=>(body z).run.map (Sum.map id f)) n a=some (f r):=by rw [key,hn];rfl
   rw [u1,Fq u2];rfl
  ·have hex':=fun h=>hex (hiff.1 h)
   unfold BN
   rw [dif_neg hex,dif_neg hex'];rfl
 |call n g a k ih=>
  show (g a).bind (fun z=>((k z).map f).run)=((g a).bind fun z=>(k z).run).map f
  cases g a with
  |none=>rfl
  |some y=>exact ih y f hf
end
end Go.Fg

namespace Go.Fg
open Go.Fw
section
variable [RE] {m:Ren}
theorem wO :∀{caps:List TW} {gs:List Nat},zo caps=some gs→Aj gs=caps
 | [],gs,h=>by simp only [zo,Q0] at h;subst h;rfl
 |c::cs,gs,h=>by
  cases c with
  |box g off=>
   unfold zo at h
   obtain ⟨hb,h⟩:=aW h
   have hb:=Q4 hb
   subst hb
   split at h
   ·rename_i gs' hg
    cases h
    simp only [Aj,wO hg]
   ·cases h
  |_=>cases h
theorem Qn {x:TW} {k:jT} {u u':List Wd} (h:LZ x=some (k,u)) (hc:Ak m k x=some u'):u'=u∧u.length=k.tys.length:=by
 cases x<;>try simp only [LZ,Q0,Q1,reduceCtorEq] at h
 case p a i w=>
  obtain ⟨rfl,rfl⟩:=h
  simp only [Ak] at hc
  split at hc
  ·obtain ⟨_,rfl⟩:=zy hc;exact ⟨rfl,rfl⟩
  ·cases hc
 case bM=>obtain ⟨rfl,rfl⟩:=h;simp only [Ak,Q0] at hc;subst hc;exact ⟨rfl,rfl⟩
 case own g=>
  obtain ⟨rfl,rfl⟩:=h
  simp only [Ak] at hc
  split at hc
  ·cases hc;exact ⟨rfl,rfl⟩
  ·cases hc
 case box g off=>
  obtain ⟨rfl,rfl⟩:=h
  simp only [Ak] at hc
  split at hc
  ·cases hc;exact ⟨rfl,rfl⟩
  ·cases hc
 case clo f caps=>
  split at h
  ·simp only [Q0,Q1] at h
   obtain ⟨rfl,rfl⟩:=h
   simp only [Ak] at hc
   obtain ⟨_,rfl⟩:=zy hc;exact ⟨rfl,rfl⟩
  ·cases h
 case vw g lo hi=>
  obtain ⟨rfl,rfl⟩:=h
  simp only [Ak] at hc
  split at hc
  ·cases hc;exact ⟨rfl,rfl⟩
  ·cases hc
 case ep g n off=>
  obtain ⟨rfl,rfl⟩:=h
  simp only [Ak] at hc
  split at hc
  ·cases hc;exact ⟨rfl,rfl⟩
  ·cases hc
 case kH g=>
  obtain ⟨rfl,rfl⟩:=h
  simp only [Ak] at hc
  split at hc
  ·cases hc;exact ⟨rfl,rfl⟩
  ·cases hc
theorem Fv :∀{xs:List TW} {ks:List jT} {u u':List Wd},sH xs=some (ks,u)→uD m ks xs=some u'→u'=u∧u.length=(ks.flatMap jT.tys).length
 | [],ks,u,u',h,hc=>by
  simp only [sH,Q0,Q1] at h
  obtain ⟨rfl,rfl⟩:=h
  simp only [uD,Q0] at hc;subst hc;exact ⟨rfl,rfl⟩
 |x::xs,ks,u,u',h,hc=>by
  simp only [sH] at h
  split at h
  ·rename_i h1 h2
   simp only [Q0,Q1] at h
   obtain ⟨rfl,rfl⟩:=h
   simp only [uD] at hc
   split at hc
   ·rename_i h3 h4
    simp only [Q0] at hc;subst hc
    obtain ⟨rfl,e1⟩:=Qn h1 h3
    obtain ⟨rfl,e2⟩:=Fv h2 h4
    exact ⟨rfl,by simp only [W3,Ys,e1,e2]⟩
   ·cases hc
  ·cases h
theorem XC {x:TS} {k:lS} {u u':List Wd} (h:JB x=some (k,u)) (hc:Xj m k x=some u'):u'=u∧u.length=k.tys.length:=by
 unfold JB at h
 split at h
 ·split at h
  ·rename_i h1
   simp only [Q0,Q1] at h
   obtain ⟨rfl,rfl⟩:=h
   exact Qn h1 hc
  ·cases h
 ·split at h
  ·rename_i h1
   simp only [Q0,Q1] at h
   obtain ⟨rfl,rfl⟩:=h
   exact Fv h1 hc
  ·cases h
 ·cases h
theorem XD {x:TO} {k:kY} {u u':List Wd} (h:sQ x=some (k,u)) (hc:OB m k x=some u'):u'=u∧u.length=k.tys.length:=by
 cases x with
 |none=>cases h
 |box ws=>
  simp only [sQ] at h
  split at h
  ·rename_i h1
   simp only [Q0,Q1] at h
   obtain ⟨rfl,rfl⟩:=h
   exact Fv h1 hc
  ·cases h
 |arr fz a i e l=>
  simp only [sQ,Q0,Q1] at h
  obtain ⟨rfl,rfl⟩:=h
  simp only [OB] at hc
  split at hc
  ·rename_i l' hl
   split at hc
   ·simp only [Q0] at hc;subst hc
    have:=eU hl
    exact ⟨congrArg (fun w=>[w]) this.symm,rfl⟩
   ·cases hc
  ·cases hc
 |it s n=>
  simp only [sQ,Q0,Q1] at h
  obtain ⟨rfl,rfl⟩:=h
  simp only [OB,Q0] at hc
  exact ⟨hc.symm,rfl⟩
 |ay a i e ak l hole=>
  simp only [sQ] at h
  split at h
  ·simp only [Q0,Q1] at h
   obtain ⟨rfl,rfl⟩:=h
   simp only [OB] at hc
   split at hc
   ·rename_i l' hl _
    split at hc
    ·simp only [Q0] at hc;subst hc
     have:=eU hl
     exact ⟨congrArg (fun w=>[w]) this.symm,rfl⟩
    ·cases hc
   ·cases hc
  ·cases h
theorem Qo {x:TW} {k:jT} {u vs:List Wd} {n:Nat} (h:LZ x=some (k,u)) (ha :∀(j:Nat) w,u[j]?=some w→vs[n+j]?=some w):(xJ vs n k).1=x∧u.length=k.tys.length:=by
 cases x<;>try simp only [LZ,Q0,Q1,reduceCtorEq] at h
 case p a i w=>
  obtain ⟨rfl,rfl⟩:=h
  have:=ha 0 w rfl
  refine ⟨?_,rfl⟩
  show TW.p a i (vs.getD n xI)=.p a i w
  rw [Q6,show vs[n]?=some w from this];rfl
 case vw g lo hi=>
  obtain ⟨rfl,rfl⟩:=h
  refine ⟨?_,rfl⟩
  have h0:=ha 0 (gq .i64 lo) rfl
  have h1:=ha 1 (gq .i64 hi) rfl
  have e0:vs.getD n xI=gq .i64 lo:=by rw [Q6,show vs[n]?=some (gq .i64 lo) from h0];rfl
  have e1:vs.getD (n+1) xI=gq .i64 hi:=by rw [Q6,show vs[n+1]?=some (gq .i64 hi) from h1];rfl
  show TW.vw g ((vs.getD n xI).as (.int .i64)) ((vs.getD (n+1) xI).as (.int .i64))=.vw g lo hi
  rw [e0,e1]
  have a0:TP.as (.int .i64) (gq .i64 lo)=lo:=oL (.int .i64) lo
  have a1:TP.as (.int .i64) (gq .i64 hi)=hi:=oL (.int .i64) hi
  rw [a0,a1]
 case ep g q off=>
  obtain ⟨rfl,rfl⟩:=h
  refine ⟨?_,rfl⟩
  have h0:=ha 0 (gq .i64 q) rfl
  have e0:vs.getD n xI=gq .i64 q:=by rw [Q6,show vs[n]?=some (gq .i64 q) from h0];rfl
  show TW.ep g ((vs.getD n xI).as (.int .i64)) off=.ep g q off
  rw [e0]
  have a0:TP.as (.int .i64) (gq .i64 q)=q:=oL (.int .i64) q
  rw [a0]
 case clo f caps=>
  split at h
  ·rename_i gs hgs
   simp only [Q0,Q1] at h
   obtain ⟨rfl,rfl⟩:=h
   exact ⟨by simp only [xJ,wO hgs],rfl⟩
  ·cases h
 all_goals (obtain ⟨rfl,rfl⟩:=h;exact ⟨rfl,rfl⟩)
theorem XE {α:Type} {vs a b:List α} {n:Nat} (h :∀(j:Nat) w,(a++b)[j]?=some w→vs[n+j]?=some w) :∀(j:Nat) w,a[j]?=some w→vs[n+j]?=some w:=fun j w hw=>h j w (by rw [Wl (Q3.1 hw).1];exact hw)
theorem VQ {α:Type} {vs a b:List α} {n:Nat} (h :∀(j:Nat) w,(a++b)[j]?=some w→vs[n+j]?=some w) :∀(j:Nat) w,b[j]?=some w→vs[n+a.length+j]?=some w:=fun j w hw=>by
 rw [VC]
 exact h (a.length+j) w (by rw [Wf (by omega)];simpa using hw)
theorem Fz :∀{xs:List TW} {ks:List jT} {u vs:List Wd} {n:Nat},sH xs=some (ks,u)→(∀(j:Nat) w,u[j]?=some w→vs[n+j]?=some w)→(qy vs n ks).1=xs∧u.length=(ks.flatMap jT.tys).length
 | [],ks,u,vs,n,h,ha=>by
  simp only [sH,Q0,Q1] at h
  obtain ⟨rfl,rfl⟩:=h
  exact ⟨rfl,rfl⟩
 |x::xs,ks,u,vs,n,h,ha=>by
  simp only [sH] at h
  split at h
  ·rename_i k1 u1 ks1 Ue h1 h2
   simp only [Q0,Q1] at h
   obtain ⟨rfl,rfl⟩:=h
   obtain ⟨a1,a2⟩:=Qo h1 (XE ha)
   obtain ⟨b1,b2⟩:=Fz (n:=n+u1.length) h2 (VQ ha)
   refine ⟨?_,by simp only [W3,Ys,a2,b2]⟩
   simp only [qy,a1,zu]
   rw [←a2,b1]
  ·cases h
theorem XF {x:TS} {k:lS} {u vs:List Wd} {n:Nat} (h:JB x=some (k,u)) (ha :∀(j:Nat) w,u[j]?=some w→vs[n+j]?=some w):(CG vs n k).1=x∧u.length=k.tys.length:=by
 unfold JB at h
 split at h
 ·split at h
  ·rename_i h1
   simp only [Q0,Q1] at h
   obtain ⟨rfl,rfl⟩:=h
   obtain ⟨a1,a2⟩:=Qo h1 ha
   exact ⟨by simp only [CG,a1],a2⟩
  ·cases h
 ·split at h
  ·rename_i h1
   simp only [Q0,Q1] at h
   obtain ⟨rfl,rfl⟩:=h
   obtain ⟨a1,a2⟩:=Fz h1 ha
   exact ⟨by simp only [CG,a1],a2⟩
  ·cases h
 ·cases h
theorem XG {x:TO} {k:kY} {u vs:List Wd} {n:Nat} (h:sQ x=some (k,u)) (ha :∀(j:Nat) w,u[j]?=some w→vs[n+j]?=some w):(Am vs n k).1=x∧u.length=k.tys.length:=by
 cases x with
 |none=>cases h
 |box ws=>
  simp only [sQ] at h
  split at h
  ·rename_i h1
   simp only [Q0,Q1] at h
   obtain ⟨rfl,rfl⟩:=h
   obtain ⟨a1,a2⟩:=Fz h1 ha
   exact ⟨by simp only [Am,a1],a2⟩
  ·cases h
 |arr fz a i e l=>
  simp only [sQ,Q0,Q1] at h
  obtain ⟨rfl,rfl⟩:=h
  refine ⟨?_,rfl⟩
  have:=ha 0 (ql e l) rfl
  have e1:vs.getD n xI=ql e l:=by rw [Q6,show vs[n]?=some (ql e l) from this];rfl
  show TO.arr fz a i e ((vs.getD n xI).as (.sl e))=.arr fz a i e l
  rw [e1]
  congr 1
  exact oL (.sl e) l
 |it s p=>
  simp only [sQ,Q0,Q1] at h
  obtain ⟨rfl,rfl⟩:=h
  refine ⟨?_,rfl⟩
  have h0:=ha 0 (Lu s) rfl
  have h1:=ha 1 (gq .i64 p) rfl
  have e0:vs.getD n xI=Lu s:=by rw [Q6,show vs[n]?=some (Lu s) from h0];rfl
  have e1:vs.getD (n+1) xI=gq .i64 p:=by rw [Q6,show vs[n+1]?=some (gq .i64 p) from h1];rfl
  show TO.it ((vs.getD n xI).as .str) ((vs.getD (n+1) xI).as (.int .i64))=.it s p
  rw [e0,e1]
  have a0:TP.as .str (Lu s)=s:=oL .str s
  have a1:TP.as (.int .i64) (gq .i64 p)=p:=oL (.int .i64) p
  rw [a0,a1]
 |ay a i e ak l hole=>
  simp only [sQ] at h
  split at h
  ·simp only [Q0,Q1] at h
   obtain ⟨rfl,rfl⟩:=h
   refine ⟨?_,rfl⟩
   have:=ha 0 (ql e l) rfl
   have e1:vs.getD n xI=ql e l:=by rw [Q6,show vs[n]?=some (ql e l) from this];rfl
   show TO.ay a i e ak ((vs.getD n xI).as (.sl e)) none=.ay a i e ak l none
   rw [e1]
   congr 1
   exact oL (.sl e) l
  ·cases h
theorem Qp {x:TW} {k:jT} {u:List Wd} (h:LZ x=some (k,u)):u.map (·.t)=k.tys:=by
 cases x<;>try simp only [LZ,Q0,Q1,reduceCtorEq] at h
 case clo f caps=>
  split at h
  ·simp only [Q0,Q1] at h
   obtain ⟨rfl,rfl⟩:=h;rfl
  ·cases h
 all_goals (obtain ⟨rfl,rfl⟩:=h;rfl)
theorem FB :∀{xs:List TW} {ks:List jT} {u:List Wd},sH xs=some (ks,u)→u.map (·.t)=ks.flatMap jT.tys
 | [],ks,u,h=>by
  simp only [sH,Q0,Q1] at h
  obtain ⟨rfl,rfl⟩:=h;rfl
 |x::xs,ks,u,h=>by
  simp only [sH] at h
  split at h
  ·rename_i h1 h2
   simp only [Q0,Q1] at h
   obtain ⟨rfl,rfl⟩:=h
   simp only [XS,Ys,Qp h1,FB h2]
  ·cases h
theorem Qq {x:TS} {k:lS} {u:List Wd} (h:JB x=some (k,u)):u.map (·.t)=k.tys:=by
 unfold JB at h
 split at h
 ·split at h
  ·rename_i h1
   simp only [Q0,Q1] at h
   obtain ⟨rfl,rfl⟩:=h
   exact Qp h1
  ·cases h
 ·split at h
  ·rename_i h1
   simp only [Q0,Q1] at h
   obtain ⟨rfl,rfl⟩:=h
   exact FB h1
  ·cases h
 ·cases h
theorem XH {x:TO} {k:kY} {u:List Wd} (h:sQ x=some (k,u)):u.map (·.t)=k.tys:=by
 cases x with
 |none=>cases h
 |box ws=>
  simp only [sQ] at h
  split at h
  ·rename_i h1
   simp only [Q0,Q1] at h
   obtain ⟨rfl,rfl⟩:=h
   exact FB h1
  ·cases h
 |arr fz a i e l=>
  simp only [sQ,Q0,Q1] at h
  obtain ⟨rfl,rfl⟩:=h
  rfl
 |it s n=>
  simp only [sQ,Q0,Q1] at h
  obtain ⟨rfl,rfl⟩:=h
  rfl
 |ay a i e ak l hole=>
  simp only [sQ] at h
  split at h
  ·simp only [Q0,Q1] at h
   obtain ⟨rfl,rfl⟩:=h
   rfl
  ·cases h
def MP (s:Nat→TS) (l:List (Nat×lS×Option (List Wd))):Prop :=∀t k u,(t,k,some u)∈l→JB (s t)=some (k,u)
def Qr (s:Nat→TO) (l:List (Nat×kY×Option (List Wd))):Prop :=∀t k u,(t,k,some u)∈l→sQ (s t)=some (k,u)
theorem uS {s:Nat→TS} :∀{l:List (Nat×Md)} {r:List (Nat×lS×Option (List Wd))},xM s l=some r→MP s r
 | [],r,h=>by simp only [xM,Q0] at h;subst h;intro t k u hm;cases hm
 |(t,.keep)::l,r,h=>by
  simp only [xM] at h
  split at h
  ·rename_i h1 h2
   simp only [Q0] at h;subst h
   intro t' k u hm
   rcases QQ.1 hm with hm | hm
   ·cases hm;exact h1
   ·exact uS h2 t' k u hm
  ·cases h
 |(t,.sl k0)::l,r,h=>by
  simp only [xM] at h
  split at h
  ·rename_i h2
   simp only [Q0] at h;subst h
   intro t' k u hm
   rcases QQ.1 hm with hm | hm
   ·cases hm
   ·exact uS h2 t' k u hm
  ·cases h
theorem xW {s:Nat→TO} :∀{l:List (Nat×Mo)} {r:List (Nat×kY×Option (List Wd))},EK s l=some r→Qr s r
 | [],r,h=>by simp only [EK,Q0] at h;subst h;intro t k u hm;cases hm
 |(t,.keep)::l,r,h=>by
  simp only [EK] at h
  split at h
  ·rename_i h1 h2
   simp only [Q0] at h;subst h
   intro t' k u hm
   rcases QQ.1 hm with hm | hm
   ·cases hm;exact h1
   ·exact xW h2 t' k u hm
  ·cases h
 |(t,.ob k0)::l,r,h=>by
  simp only [EK] at h
  split at h
  ·rename_i h2
   simp only [Q0] at h;subst h
   intro t' k u hm
   rcases QQ.1 hm with hm | hm
   ·cases hm
   ·exact xW h2 t' k u hm
  ·cases h
theorem zD {s s':Nat→TS} :∀{l:List (Nat×lS×Option (List Wd))} {us rest jB:List Wd},MP s l→(∀t k u,(t,k,some u)∈l→s' t=s t)→kT m s' (l.map fun p=>(p.1,p.2.1))=some us→
  ∃e,JC l (us++rest)=(e,rest)∧jU l (e++jB)=(us,jB)∧e.map (·.t)=iE l
 | [],us,rest,jB,hk,hs,h=>by
  simp only [UB,kT,Q0] at h;subst h
  exact ⟨[],rfl,rfl,rfl⟩
 |(t,k,some u)::l,us,rest,jB,hk,hs,h=>by
  simp only [Qt,kT] at h
  split at h
  ·rename_i u1 v h1 h2
   simp only [Q0] at h;subst h
   rw [hs t k u (by simp)] at h1
   obtain ⟨rfl,hl⟩:=XC (hk t k u (by simp)) h1
   obtain ⟨e,e1,e2,e3⟩:=zD (rest:=rest) (jB:=jB) (fun t k u hm=>hk t k u (by simp [hm])) (fun t k u hm=>hs t k u (by simp [hm])) h2
   refine ⟨e,?_,?_,by simp only [iE,e3]⟩
   ·simp only [JC,W6,V0,e1]
   ·simp only [jU,e2]
  ·cases h
 |(t,k,none)::l,us,rest,jB,hk,hs,h=>by
  simp only [Qt,kT] at h
  split at h
  ·rename_i u1 v h1 h2
   simp only [Q0] at h;subst h
   have hty:=(Qa h1).2
   have hl:u1.length=k.tys.length:=by rw [←hty,W0]
   obtain ⟨e,e1,e2,e3⟩:=zD (rest:=rest) (jB:=jB) (fun t k u hm=>hk t k u (by simp [hm])) (fun t k u hm=>hs t k u (by simp [hm])) h2
   refine ⟨u1++e,?_,?_,by simp only [XS,hty,iE,e3]⟩
   ·simp only [JC,W6,←hl,J1,V0,e1]
   ·simp only [jU,W6,←hl,J1,V0,e2]
  ·cases h
theorem zF {s s':Nat→TO} :∀{l:List (Nat×kY×Option (List Wd))} {us rest jB:List Wd},Qr s l→(∀t k u,(t,k,some u)∈l→s' t=s t∧m.lookup t=some (some t))→mY m s' (l.map fun p=>(p.1,p.2.1))=some us→
  ∃e,L6 l (us++rest)=(e,rest)∧nX l (e++jB)=(us,jB)∧e.map (·.t)=mg l
 | [],us,rest,jB,hk,hs,h=>by
  simp only [UB,mY,Q0] at h;subst h
  exact ⟨[],rfl,rfl,rfl⟩
 |(t,k,some u)::l,us,rest,jB,hk,hs,h=>by
  simp only [Qt,mY] at h
  split at h
  ·rename_i u1 v h1 h2
   simp only [Q0] at h;subst h
   obtain ⟨hs1,hm1⟩:=hs t k u (by simp)
   rw [hm1] at h1
   simp only at h1
   rw [hs1] at h1
   obtain ⟨rfl,hl⟩:=XD (hk t k u (by simp)) h1
   obtain ⟨e,e1,e2,e3⟩:=zF (rest:=rest) (jB:=jB) (fun t k u hm=>hk t k u (by simp [hm])) (fun t k u hm=>hs t k u (by simp [hm])) h2
   refine ⟨e,?_,?_,by simp only [mg,e3]⟩
   ·simp only [L6,W6,V0,e1]
   ·simp only [nX,e2]
  ·cases h
 |(t,k,none)::l,us,rest,jB,hk,hs,h=>by
  simp only [Qt,mY] at h
  split at h
  ·rename_i u1 v h1 h2
   simp only [Q0] at h;subst h
   have hty:u1.map (·.t)=k.tys:=by
    cases hg:m.lookup t with
    |none=>rw [hg] at h1;cases h1
    |some og=>
     rw [hg] at h1
     cases og with
     |some g=>exact (Qb h1).2
     |none=>
      simp only at h1
      split at h1
      ·cases h1;rfl
      ·cases h1;rfl
      ·cases h1
   have hl:u1.length=k.tys.length:=by rw [←hty,W0]
   obtain ⟨e,e1,e2,e3⟩:=zF (rest:=rest) (jB:=jB) (fun t k u hm=>hk t k u (by simp [hm])) (fun t k u hm=>hs t k u (by simp [hm])) h2
   refine ⟨u1++e,?_,?_,by simp only [XS,hty,mg,e3]⟩
   ·simp only [L6,W6,←hl,J1,V0,e1]
   ·simp only [nX,W6,←hl,J1,V0,e2]
  ·cases h
theorem xX {s:List (Nat×TS)} {ds:List Nat} :∀{l:List (Nat×lS×Option (List Wd))},L8 s ds l=true→∀t k u,(t,k,some u)∈l→hasK t s=true∧dM t ds=false
 | [],h,t,k,u,hm=>by cases hm
 |(t0,k0,some u0)::l,h,t,k,u,hm=>by
  simp only [L8,Qf,Wc] at h
  rcases QQ.1 hm with hm | hm
  ·cases hm;exact h.1
  ·exact xX h.2 t k u hm
 |(t0,k0,none)::l,h,t,k,u,hm=>by
  rcases QQ.1 hm with hm | hm
  ·cases hm
  ·exact xX (l:=l) h t k u hm
theorem xY {s:List (Nat×TO)} {ds:List Nat} :∀{l:List (Nat×kY×Option (List Wd))},L9 s ds l=true→∀t k u,(t,k,some u)∈l→hasK t s=true∧dM t ds=false
 | [],h,t,k,u,hm=>by cases hm
 |(t0,k0,some u0)::l,h,t,k,u,hm=>by
  simp only [L9,Qf,Wc] at h
  rcases QQ.1 hm with hm | hm
  ·cases hm;exact h.1
  ·exact xY h.2 t k u hm
 |(t0,k0,none)::l,h,t,k,u,hm=>by
  rcases QQ.1 hm with hm | hm
  ·cases hm
  ·exact xY (l:=l) h t k u hm
end
end Go.Fg

namespace Go.Fw
variable [dB]
def ab2:TypeDesc→TK
 |.int k=>.int k
 |.bool=>.bool
 |.string=>.str
 |.slice e=>.slice e
 |.pointer _=>.ptr
 |.struct gs=>.struct (gs.toList.map fun f=>(f.offset,f.type))
 |.array n e=>.arr n e
 |_=>.other
theorem mO.of {Pg:Program} {t:TypeId} {i:TI} (h1:(Pg.info? t).map (fun x=>(x.size,x.bytes,x.zero.map (·.cells.toList),x.zero.map fun z=>match z with | .agg _=>true | _=>false))=some (i.size,i.bytes,some i.zero,some i.agg))
  (h2:i.zero.all (·.oneCell')=true) (h3:i.zero.length=i.size) (hk:(Pg.underlying t).map ab2=some i.k)
  (he:(!i.eq||(!Pg.stoodInHeld t&&!Pg.eqGuardType Pg.depth t&&(Pg.fieldsOf t).toList.all fun f=>!(f.name == "_")))=true):mO Pg t i:=by
 refine ⟨h1,h2,h3,?_,fun h => ?_⟩
 rotate_left
 ·rw [h] at he
  simp only [Bool.not_true,VM,Qf,Wc,X2] at he
  exact ⟨he.1.1,he.1.2,fun f hf e=>by have:=he.2 f hf;rw [e] at this;simp at this⟩
 cases hu:Pg.underlying t with
 |none=>rw [hu] at hk;cases hk
 |some d=>
  rw [hu] at hk
  simp only [YY,Q0] at hk
  rw [←hk]
  cases d<;>simp [ab2,lu,hu]
def YS (Pg:Program):List (Nat×TI)→Prop
 | []=>True
 |p::r=>mO Pg p.1 p.2∧YS Pg r
theorem XI {Pg:Program} (rows:List (Nat×TI)) (h:YS Pg rows):fP Pg fun t=>rows.lookup t:=by
 intro t i ht
 induction rows with
 |nil=>cases ht
 |cons p r ih=>
  obtain ⟨h1,h2⟩:=h
  simp only [List.lookup] at ht
  split at ht
  ·rename_i e
   have e:t=p.1:=by simpa using e
   simp only [Q0] at ht
   subst ht;subst e;exact h1
  ·exact ih h2 ht
theorem wrap64 {x:Int} (h1:-9223372036854775808≤x) (h2:x≤9223372036854775807):IntKind.i64.wrap x=x:=by
 have e:IntKind.i64.wrap x=if x % 18446744073709551616≥9223372036854775808 then x % 18446744073709551616-18446744073709551616 else x % 18446744073709551616:=by
  simp [IntKind.wrap,IntKind.bits,IntKind.signed]
 rw [e]
 split<;>omega
end Go.Fw

namespace Go.Fg
open Go.Fw
section
variable [RE]
theorem rX :∀{l:List (Nat×kY×Option (List Wd))} {r:Ren} {t:Nat} {k:kY} {u:List Wd},(t,k,some u)∈l→(Hw l++r).lookup t=some (some t)
 | [],r,t,k,u,h=>by cases h
 |(t0,k0,some u0)::l,r,t,k,u,h=>by
  simp only [Hw,J0,List.lookup,Dc]
  cases hb:Nat.beq t t0 with
  |true=>have:=Q4 hb;subst this;rfl
  |false=>
   rcases QQ.1 h with h | h
   ·cases h;simp at hb
   ·exact rX h
 |(t0,k0,none)::l,r,t,k,u,h=>by
  rcases QQ.1 h with h | h
  ·cases h
  ·exact rX (l:=l) h
structure WB (st:gU) (j:JF):Prop where
 s:MP st.gs j.slots
 o:Qr st.go j.aN
 ds :∀t k u,(t,k,some u)∈j.slots→dM t (newS j.slots)=false
 dO :∀t k u,(t,k,some u)∈j.aN→dM t (qB j.aN)=false
theorem AA {nw:List Nat} :∀{l:List (Nat×lS×Option (List Wd))},Vs nw l=true→∀t k u,(t,k,some u)∈l→dM t nw=false
 | [],h,t,k,u,hm=>by cases hm
 |(t0,k0,some u0)::l,h,t,k,u,hm=>by
  simp only [Vs,Qf,Wc] at h
  rcases QQ.1 hm with hm | hm
  ·cases hm;exact h.1
  ·exact AA h.2 t k u hm
 |(t0,k0,none)::l,h,t,k,u,hm=>by
  rcases QQ.1 hm with hm | hm
  ·cases hm
  ·exact AA (l:=l) h t k u hm
theorem AB {nw:List Nat} :∀{l:List (Nat×kY×Option (List Wd))},Vt nw l=true→∀t k u,(t,k,some u)∈l→dM t nw=false
 | [],h,t,k,u,hm=>by cases hm
 |(t0,k0,some u0)::l,h,t,k,u,hm=>by
  simp only [Vt,Qf,Wc] at h
  rcases QQ.1 hm with hm | hm
  ·cases hm;exact h.1
  ·exact AB h.2 t k u hm
 |(t0,k0,none)::l,h,t,k,u,hm=>by
  rcases QQ.1 hm with hm | hm
  ·cases hm
  ·exact AB (l:=l) h t k u hm
theorem VR {st:gU} {jt:JT} {j:JF} (h:jOf st jt=some j):WB st j:=by
 unfold jOf at h
 split at h
 ·rename_i h1 h2
  split at h
  ·rename_i hd
   simp only [Q0] at h;subst h
   simp only [Qf] at hd
   exact ⟨uS h1,xW h2,AA hd.1,AB hd.2⟩
  ·cases h
 ·cases h
theorem OU {st:gU} {j:JF} (hj:WB st j) (x:Tup j.tys):(j.pay (Tup.kX j.tys x)).map (·.t)=j.sh.tys:=by
 have slots :∀(l:List (Nat×lS×Option (List Wd))) (hk :∀t k u,(t,k,some u)∈l→u.map (·.t)=k.tys) (ws rest:List Wd),ws.map (·.t)=iE l→(jU l (ws++rest)).1.map (·.t)=(l.map fun p=>(p.1,p.2.1)).flatMap (fun p=>p.2.tys)∧(jU l (ws++rest)).2=rest:=by
  intro l
  induction l with
  |nil=>intro hk ws rest h;simp only [iE,List.map_eq_nil_iff] at h;subst h;exact ⟨rfl,rfl⟩
  |cons p l ih=>
   intro hk ws rest h
   obtain ⟨t,k,ou⟩:=p
   cases ou with
   |some u=>
    obtain ⟨a1,a2⟩:=ih (fun t k u hm=>hk t k u (by simp [hm])) ws rest h
    exact ⟨by simp only [jU,XS,Qt,Ys,a1,hk t k u (by simp)],a2⟩
   |none=>
    simp only [iE] at h
    have hl:k.tys.length≤ws.length:=by
     have:=congrArg List.length h
     simp only [W0,W3] at this;omega
    have h1:(ws.take k.tys.length).map (·.t)=k.tys:=by rw [Wm,h,J1]
    have h2:(ws.drop k.tys.length).map (·.t)=iE l:=by rw [W8,h,V0]
    have e1:(ws++rest).take k.tys.length=ws.take k.tys.length:=Uv hl
    have e2:(ws++rest).drop k.tys.length=ws.drop k.tys.length++rest:=Vv hl
    obtain ⟨a1,a2⟩:=ih (fun t k u hm=>hk t k u (by simp [hm])) _ rest h2
    simp only [jU,e1,e2]
    exact ⟨by simp only [XS,Qt,Ys,a1,h1],a2⟩
 have aN :∀(l:List (Nat×kY×Option (List Wd))) (hk :∀t k u,(t,k,some u)∈l→u.map (·.t)=k.tys) (ws rest:List Wd),ws.map (·.t)=mg l→(nX l (ws++rest)).1.map (·.t)=(l.map fun p=>(p.1,p.2.1)).flatMap (fun p=>p.2.tys)∧(nX l (ws++rest)).2=rest:=by
  intro l
  induction l with
  |nil=>intro hk ws rest h;simp only [mg,List.map_eq_nil_iff] at h;subst h;exact ⟨rfl,rfl⟩
  |cons p l ih=>
   intro hk ws rest h
   obtain ⟨t,k,ou⟩:=p
   cases ou with
   |some u=>
    obtain ⟨a1,a2⟩:=ih (fun t k u hm=>hk t k u (by simp [hm])) ws rest h
    exact ⟨by simp only [nX,XS,Qt,Ys,a1,hk t k u (by simp)],a2⟩
   |none=>
    simp only [mg] at h
    have hl:k.tys.length≤ws.length:=by
     have:=congrArg List.length h
     simp only [W0,W3] at this;omega
    have h1:(ws.take k.tys.length).map (·.t)=k.tys:=by rw [Wm,h,J1]
    have h2:(ws.drop k.tys.length).map (·.t)=mg l:=by rw [W8,h,V0]
    have e1:(ws++rest).take k.tys.length=ws.take k.tys.length:=Uv hl
    have e2:(ws++rest).drop k.tys.length=ws.drop k.tys.length++rest:=Vv hl
    obtain ⟨a1,a2⟩:=ih (fun t k u hm=>hk t k u (by simp [hm])) _ rest h2
    simp only [nX,e1,e2]
    exact ⟨by simp only [XS,Qt,Ys,a1,h1],a2⟩
 have hS :∀t k u,(t,k,some u)∈j.slots→u.map (·.t)=k.tys:=fun t k u hm=>Qq (hj.s t k u hm)
 have hO :∀t k u,(t,k,some u)∈j.aN→u.map (·.t)=k.tys:=fun t k u hm=>XH (hj.o t k u hm)
 have hx:(Tup.kX j.tys x).map (·.t)=iE j.slots++mg j.aN:=rU _ _
 generalize Tup.kX j.tys x=ws at hx
 obtain ⟨w1,w2,rfl,h1,h2⟩ :∃w1 w2,ws=w1++w2∧w1.map (·.t)=iE j.slots∧w2.map (·.t)=mg j.aN:=by
  refine ⟨ws.take (iE j.slots).length,ws.drop (iE j.slots).length,(Uq _ _).symm,?_,?_⟩
  ·rw [Wm,hx,J1]
  ·rw [W8,hx,V0]
 obtain ⟨a1,a2⟩:=slots j.slots hS w1 w2 h1
 have ob:=aN j.aN hO w2 [] h2
 rw [Kj] at ob
 unfold JF.pay
 rw [a2,XS,a1,ob.1]
 rfl
theorem AL {s:Nat→TS} :∀{l:List (Nat×lS×Option (List Wd))} {pre post ws rest:List Wd} {t:Nat},MP s l→ws.map (·.t)=iE l→hasK t (dY (pre++(jU l (ws++rest)).1++post) pre.length (l.map fun p=>(p.1,p.2.1))).1=true→dM t (newS l)=false→
  iC .no (dY (pre++(jU l (ws++rest)).1++post) pre.length (l.map fun p=>(p.1,p.2.1))).1 t=s t∧∃k u,(t,k,some u)∈l
 | [],pre,post,ws,rest,t,hk,hw,h,hn=>by cases h
 |(t0,k,some u)::l,pre,post,ws,rest,t,hk,hw,h,hn=>by
  have hu:=hk t0 k u (by simp)
  have hmk:=XF (vs:=pre++(u++(jU l (ws++rest)).1)++post) (n:=pre.length) hu (fun j w hj=>by
   rw [W6,Wf (by omega),K7,W6,Wl (Q3.1 hj).1];exact hj)
  simp only [jU,Qt,dY,hmk.1,zx,←hmk.2] at h ⊢
  have e:pre++(u++(jU l (ws++rest)).1)++post=(pre++u)++(jU l (ws++rest)).1++post:=by simp only [W6]
  rw [e] at h ⊢
  have en:pre.length+u.length=(pre++u).length:=by rw [W3]
  rw [en] at h ⊢
  simp only [hasK,iC] at h ⊢
  cases hb:Nat.beq t t0 with
  |true=>
   have:=Q4 hb
   subst this
   exact ⟨rfl,k,u,by simp⟩
  |false=>
   rw [hb,VM] at h
   obtain ⟨a1,k',u',a2⟩:=AL (l:=l) (pre:=pre++u) (fun t k u hm=>hk t k u (by simp [hm])) hw h hn
   exact ⟨a1,k',u',by simp [a2]⟩
 |(t0,k,none)::l,pre,post,ws,rest,t,hk,hw,h,hn=>by
  simp only [iE] at hw
  simp only [newS,dM,Vc] at hn
  have hl:k.tys.length≤ws.length:=by
   have:=congrArg List.length hw
   simp only [W0,W3] at this;omega
  have h2:(ws.drop k.tys.length).map (·.t)=iE l:=by rw [W8,hw,V0]
  have e1:(ws++rest).take k.tys.length=ws.take k.tys.length:=Uv hl
  have e2:(ws++rest).drop k.tys.length=ws.drop k.tys.length++rest:=Vv hl
  have hlen:(ws.take k.tys.length).length=k.tys.length:=by rw [Vi];omega
  simp only [jU,Qt,dY,zx,e1,e2] at h ⊢
  have e:pre++(ws.take k.tys.length++(jU l (ws.drop k.tys.length++rest)).1)++post=(pre++ws.take k.tys.length)++(jU l (ws.drop k.tys.length++rest)).1++post:=by simp only [W6]
  rw [e] at h ⊢
  have en:pre.length+k.tys.length=(pre++ws.take k.tys.length).length:=by rw [W3,hlen]
  rw [en] at h ⊢
  simp only [hasK,iC,hn.1,VM,cond_false] at h ⊢
  obtain ⟨a1,k',u',a2⟩:=AL (pre:=pre++ws.take k.tys.length) (fun t k u hm=>hk t k u (by simp [hm])) h2 h hn.2
  exact ⟨a1,k',u',by simp [a2]⟩
theorem FC {s:Nat→TO} :∀{l:List (Nat×kY×Option (List Wd))} {pre post ws rest:List Wd} {t:Nat},Qr s l→ws.map (·.t)=mg l→hasK t (iH (pre++(nX l (ws++rest)).1++post) pre.length (l.map fun p=>(p.1,p.2.1))).1=true→dM t (qB l)=false→
  iC .none (iH (pre++(nX l (ws++rest)).1++post) pre.length (l.map fun p=>(p.1,p.2.1))).1 t=s t∧∃k u,(t,k,some u)∈l
 | [],pre,post,ws,rest,t,hk,hw,h,hn=>by cases h
 |(t0,k,some u)::l,pre,post,ws,rest,t,hk,hw,h,hn=>by
  have hu:=hk t0 k u (by simp)
  have hmk:=XG (vs:=pre++(u++(nX l (ws++rest)).1)++post) (n:=pre.length) hu (fun j w hj=>by
   rw [W6,Wf (by omega),K7,W6,Wl (Q3.1 hj).1];exact hj)
  simp only [nX,Qt,iH,hmk.1,EO,←hmk.2] at h ⊢
  have e:pre++(u++(nX l (ws++rest)).1)++post=(pre++u)++(nX l (ws++rest)).1++post:=by simp only [W6]
  rw [e] at h ⊢
  have en:pre.length+u.length=(pre++u).length:=by rw [W3]
  rw [en] at h ⊢
  simp only [hasK,iC] at h ⊢
  cases hb:Nat.beq t t0 with
  |true=>
   have:=Q4 hb
   subst this
   exact ⟨rfl,k,u,by simp⟩
  |false=>
   rw [hb,VM] at h
   obtain ⟨a1,k',u',a2⟩:=FC (l:=l) (pre:=pre++u) (fun t k u hm=>hk t k u (by simp [hm])) hw h hn
   exact ⟨a1,k',u',by simp [a2]⟩
 |(t0,k,none)::l,pre,post,ws,rest,t,hk,hw,h,hn=>by
  simp only [mg] at hw
  simp only [qB,dM,Vc] at hn
  have hl:k.tys.length≤ws.length:=by
   have:=congrArg List.length hw
   simp only [W0,W3] at this;omega
  have h2:(ws.drop k.tys.length).map (·.t)=mg l:=by rw [W8,hw,V0]
  have e1:(ws++rest).take k.tys.length=ws.take k.tys.length:=Uv hl
  have e2:(ws++rest).drop k.tys.length=ws.drop k.tys.length++rest:=Vv hl
  have hlen:(ws.take k.tys.length).length=k.tys.length:=by rw [Vi];omega
  simp only [nX,Qt,iH,EO,e1,e2] at h ⊢
  have e:pre++(ws.take k.tys.length++(nX l (ws.drop k.tys.length++rest)).1)++post=(pre++ws.take k.tys.length)++(nX l (ws.drop k.tys.length++rest)).1++post:=by simp only [W6]
  rw [e] at h ⊢
  have en:pre.length+k.tys.length=(pre++ws.take k.tys.length).length:=by rw [W3,hlen]
  rw [en] at h ⊢
  simp only [hasK,iC,hn.1,VM,cond_false] at h ⊢
  obtain ⟨a1,k',u',a2⟩:=FC (pre:=pre++ws.take k.tys.length) (fun t k u hm=>hk t k u (by simp [hm])) h2 h hn.2
  exact ⟨a1,k',u',by simp [a2]⟩
end
end Go.Fg

namespace Go.Fg
open Go.Fw
section
variable [RE]
theorem S_ {st:gU} {j:JF} (x:Tup j.tys) :∃w1 w2,Tup.kX j.tys x=w1++w2∧w1.map (·.t)=iE j.slots∧w2.map (·.t)=mg j.aN:=by
 have hx:(Tup.kX j.tys x).map (·.t)=iE j.slots++mg j.aN:=rU _ _
 generalize Tup.kX j.tys x=ws at hx
 exact ⟨ws.take (iE j.slots).length,ws.drop (iE j.slots).length,(Uq _ _).symm,by rw [Wm,hx,J1],by rw [W8,hx,V0]⟩
theorem AO :∀{l:List (Nat×lS×Option (List Wd))} {ws rest:List Wd},ws.map (·.t)=iE l→(jU l (ws++rest)).2=rest
 | [],ws,rest,h=>by simp only [iE,List.map_eq_nil_iff] at h;subst h;rfl
 |(t,k,some u)::l,ws,rest,h=>AO (l:=l) h
 |(t,k,none)::l,ws,rest,h=>by
  simp only [iE] at h
  have hl:k.tys.length≤ws.length:=by
   have:=congrArg List.length h
   simp only [W0,W3] at this;omega
  have h2:(ws.drop k.tys.length).map (·.t)=iE l:=by rw [W8,h,V0]
  have e2:(ws++rest).drop k.tys.length=ws.drop k.tys.length++rest:=Vv hl
  simp only [jU,e2]
  exact AO h2
theorem AP {st:gU} {j:JF} (hj:WB st j) (x:Tup j.tys):(∀t,hasK t (uH j x).s=true→dM t (newS j.slots)=false→(uH j x).gs t=st.gs t∧∃k u,(t,k,some u)∈j.slots)∧
  ∀g,hasK g (uH j x).o=true→dM g (qB j.aN)=false→(uH j x).go g=st.go g∧∃k u,(g,k,some u)∈j.aN:=by
 obtain ⟨w1,w2,hw,h1,h2⟩:=S_ (st:=st) x
 have hr:=AO (rest:=w2) h1
 have hp:j.pay (Tup.kX j.tys x)=(jU j.slots (w1++w2)).1++(nX j.aN w2).1:=by rw [hw];unfold JF.pay;rw [hr]
 have hs:=fun t a b=>AL (pre:=[]) (post:=(nX j.aN w2).1) (rest:=w2) (t:=t) hj.s h1 a b
 have ho:=fun t a b=>FC (pre:=(jU j.slots (w1++w2)).1) (post:=[]) (rest:=[]) (t:=t) hj.o h2 a b
 simp only [K8,List.length_nil] at hs
 simp only [Kj] at ho
 rw [←hp] at hs ho
 have hty:=OU hj x
 have hn:(dY (j.pay (Tup.kX j.tys x)) 0 j.sh.slots).2=(jU j.slots (w1++w2)).1.length:=by
  rw [rP,Wb]
  rw [hp] at hty
  have hS :∀(l:List (Nat×lS×Option (List Wd))) (hk:MP st.gs l) (ws rest:List Wd),ws.map (·.t)=iE l→(jU l (ws++rest)).1.length=((l.map fun p=>(p.1,p.2.1)).flatMap fun p=>p.2.tys).length:=by
   intro l
   induction l with
   |nil=>intro hk ws rest h;rfl
   |cons p l ih=>
    intro hk ws rest h
    obtain ⟨t,k,ou⟩:=p
    cases ou with
    |some u=>
     have e:=Qq (hk t k u (by simp))
     have e:=congrArg List.length e
     rw [W0] at e
     simp only [jU,W3,Qt,Ys,e]
     rw [ih (fun t k u hm=>hk t k u (by simp [hm])) ws rest h]
    |none=>
     simp only [iE] at h
     have hl:k.tys.length≤ws.length:=by
      have:=congrArg List.length h
      simp only [W0,W3] at this;omega
     have h2:(ws.drop k.tys.length).map (·.t)=iE l:=by rw [W8,h,V0]
     have e1:(ws++rest).take k.tys.length=ws.take k.tys.length:=Uv hl
     have e2:(ws++rest).drop k.tys.length=ws.drop k.tys.length++rest:=Vv hl
     simp only [jU,e1,e2,W3,Qt,Ys,Vi]
     rw [ih (fun t k u hm=>hk t k u (by simp [hm])) _ rest h2]
     omega
  exact (hS j.slots hj.s w1 w2 h1).symm
 refine ⟨fun t a b=>hs t a b,fun g a b => ?_⟩
 have e1:(uH j x).o=(iH (j.pay (Tup.kX j.tys x)) (jU j.slots (w1++w2)).1.length (j.aN.map fun p=>(p.1,p.2.1))).1:=by
  rw [←hn];rfl
 have e2:(uH j x).go g=iC .none (iH (j.pay (Tup.kX j.tys x)) (jU j.slots (w1++w2)).1.length (j.aN.map fun p=>(p.1,p.2.1))).1 g:=by
  rw [←hn];rfl
 rw [e1] at a
 rw [e2]
 exact ho g a b
theorem JM {gs:List Nat} {o:Nat→TO} (hp:Pl o gs) (x:TW):bf (Vp gs o x)=PD gs (aZ o) (bf x):=by
 cases x with
 |own g=>
  simp only [Vp,bf,PD,aV]
  cases hc:gs.contains g with
  |false=>rfl
  |true=>
   obtain ⟨⟨a,i,e,l⟩,hg⟩:=hp g (by simpa using hc)
   simp only [cond_true,if_true,hg,(lM hg).1];rfl
 |vw g lo hi=>
  simp only [Vp,bf,PD,aV]
  cases hc:gs.contains g with
  |false=>rfl
  |true=>
   obtain ⟨⟨a,i,e,l⟩,hg⟩:=hp g (by simpa using hc)
   simp only [cond_true,if_true,hg,(lM hg).1,oN];rfl
 |_=>simp only [Vp,bf,PD]
theorem Qs {gs:List Nat} {o:Nat→TO} (hp:Pl o gs) (x:TV):iF (Xp gs o x)=UA gs (aZ o) (iF x):=by
 cases x with
 |one x=>simp only [Xp,iF,UA,JM hp]
 |agg xs=>
  simp only [Xp,iF,UA,WK,V.agg.injEq]
  exact Z0 fun x _=>JM hp x
theorem XJ {gs:List Nat} {o:Nat→TO} (hp:Pl o gs) (x:TS):aP (Xq gs o x)=UC gs (aZ o) (aP x):=by
 cases x with
 |v x=>simp only [Xq,aP,UC,Qs hp]
 |jK xs=>
  simp only [Xq,aP,UC,WK,S.jK.injEq]
  exact Z0 fun x _=>Qs hp x
 |no=>rfl
theorem FD {α:Type} (d:α) (f:Nat→α→α) (hd :∀t,f t d=d) :∀(l:List (Nat×α)) (t:Nat),iC d (l.map fun p=>(p.1,f p.1 p.2)) t=f t (iC d l t)
 | [],t=>(hd t).symm
 |(k,v)::r,t=>by
  simp only [Qt,iC]
  cases hb:Nat.beq t k with
  |true=>have:=Q4 hb;subst this;rfl
  |false=>exact FD d f hd r t
theorem Qu (gs:List Nat) (st:gU) (t:Nat):(Gt gs st).gs t=match gs with | []=>st.gs t | g::r=>Xq (g::r) st.go (st.gs t):=by
 cases gs with
 |nil=>rfl
 |cons g r=>exact FD .no (fun _ x=>Xq (g::r) st.go x) (fun _=>rfl) st.s t
theorem Qv (gs:List Nat) (st:gU) (t:Nat):(Gt gs st).go t=match gs with | []=>st.go t | g::r=>tpO (g::r) st.go t (st.go t):=by
 cases gs with
 |nil=>rfl
 |cons g r=>exact FD .none (fun t x=>tpO (g::r) st.go t x) (fun _=>rfl) st.o t
theorem JO (o:Nat→O) (x:W):PD [] o x=x:=by
 unfold PD
 split<;>first | rfl | simp
theorem Qw (o:Nat→O) (x:V):UA [] o x=x:=by
 cases x with
 |one x=>simp only [UA,JO]
 |agg xs=>
  simp only [UA,V.agg.injEq]
  conv=>rhs;rw [←List.map_id xs]
  exact Z0 fun x _=>JO o x
theorem JQ (st:St):dF [] st=st:=by
 refine St.ext' (fun t => ?_) (fun g => ?_) fun g=>rfl
 ·show UC [] st.o (st.s t)=st.s t
  cases st.s t with
  |v x=>simp only [UC,Qw]
  |jK xs=>
   simp only [UC,S.jK.injEq]
   conv=>rhs;rw [←List.map_id xs]
   exact Z0 fun x _=>Qw _ x
  |no=>rfl
 ·show Tv [] st.o g=st.o g
  unfold Tv
  cases st.o g with
  |box ws=>
   simp only [O.box.injEq]
   conv=>rhs;rw [←List.map_id ws]
   exact Z0 fun x _=>JO _ x
  |_=>simp
theorem MQ {gs:List Nat} {st:gU} (hp:Pl st.go gs):aI (Gt gs st)=dF gs (aI st):=by
 cases gs with
 |nil=>rw [JQ];rfl
 |cons g r=>
  refine St.ext' (fun t => ?_) (fun k => ?_) fun k=>rfl
  ·show aP ((Gt (g::r) st).gs t)=UC (g::r) (aZ st.go) (aP (st.gs t))
   rw [Qu];exact XJ hp _
  ·show cu ((Gt (g::r) st).go k)=Tv (g::r) (aZ st.go) k
   rw [Qv]
   simp only
   have hk:aZ st.go k=cu (st.go k):=rfl
   cases ho:st.go k with
   |none=>
    have hd:aZ st.go k=.none:=by rw [hk,ho];rfl
    simp only [tpO,Tv,hd]
    split
    ·simp [Fw.aH,plainO,hd,cu]
    ·rfl
   |box ws=>
    simp only [tpO,Tv,lK ho,cu,WK,O.box.injEq]
    exact Z0 fun x _=>JM hp x
   |arr fz a i e l=>
    simp only [tpO,Tv,fB ho,cu,aV]
    cases hc:(g::r).contains k with
    |false=>simp
    |true=>simp [Fw.aH,plainO,fB ho]
   |it s n=>
    have hd:aZ st.go k=.it (.str ⟨s.toArray⟩) (.int .i64 n):=by rw [hk,ho];rfl
    simp only [tpO,Tv,hd]
    split
    ·simp [Fw.aH,plainO,hd,cu]
    ·rfl
   |ay a i e ak l hole=>
    have hd:aZ st.go k=.ay a i (size e) (fM ak) (aB e l) hole:=by rw [hk,ho];rfl
    simp only [tpO,Tv,hd,aV]
    cases hc:(g::r).contains k with
    |false=>simp only [cond_false,Zs,if_false];rfl
    |true=>
     simp only [cond_true,if_true]
     have:=Es (hp k (by simpa using hc))
     rw [this]
theorem VT {gs:List Nat} {o:Nat→TO} {x:TW} (h:(W.namesT x).all (fun g=>!dM g gs)=true):Vp gs o x=x:=by
 cases x with
 |own g=>
  have h:dM g gs=false:=by simpa [W.namesT] using h
  simp only [Vp,h,cond_false]
 |vw g lo hi=>
  have h:dM g gs=false:=by simpa [W.namesT] using h
  simp only [Vp,h,cond_false]
 |_=>rfl
theorem JR {gs:List Nat} {o:Nat→TO} :∀{xs:List TW},((xs.flatMap W.namesT).all fun g=>!dM g gs)=true→xs.map (Vp gs o)=xs
 | [],_=>rfl
 |x::xs,h=>by
  simp only [Ys,List.all_append,Qf] at h
  simp only [Qt,VT h.1,JR h.2]
theorem VU {gs:List Nat} {o:Nat→TO} {x:TV} (h:((V.namesT x).all fun g=>!dM g gs)=true):Xp gs o x=x:=by
 cases x with
 |one x=>simp only [Xp,VT (x:=x) h]
 |agg xs=>simp only [Xp,JR (xs:=xs) h]
theorem MR {gs:List Nat} {o:Nat→TO} {x:TS} (h:OO gs x=true):Xq gs o x=x:=by
 cases x with
 |v x=>simp only [Xq,VU (x:=x) h]
 |jK xs=>
  simp only [Xq,TS.jK.injEq]
  have :∀(xs:List TV),((xs.flatMap V.namesT).all fun g=>!dM g gs)=true→xs.map (Xp gs o)=xs:=by
   intro xs
   induction xs with
   |nil=>intro _;rfl
   |cons x xs ih=>
    intro h
    simp only [Ys,List.all_append,Qf] at h
    simp only [Qt,VU h.1,ih h.2]
  exact this xs h
 |no=>rfl
theorem MS {gs:List Nat} {o:Nat→TO} {g:Nat} {x:TO} (h:EL gs g x=true):tpO gs o g x=x:=by
 cases x with
 |none=>rfl
 |box ws=>simp only [tpO,JR (xs:=ws) h]
 |arr fz a i e l=>
  have h:dM g gs=false:=by simpa [EL] using h
  simp only [tpO,h,Bool.or_false]
 |it s n=>rfl
 |ay a i e ak l hole=>
  have h:dM g gs=false:=by simpa [EL] using h
  simp only [tpO,h,cond_false]
theorem AQ {gs:List Nat} {s:Nat→TS} :∀{l:List (Nat×lS×Option (List Wd))},Vq gs s l=true→∀t k u,(t,k,some u)∈l→OO gs (s t)=true
 | [],h,t,k,u,hm=>by cases hm
 |(t0,k0,some u0)::l,h,t,k,u,hm=>by
  simp only [Vq,Qf] at h
  rcases QQ.1 hm with hm | hm
  ·cases hm;exact h.1
  ·exact AQ h.2 t k u hm
 |(t0,k0,none)::l,h,t,k,u,hm=>by
  rcases QQ.1 hm with hm | hm
  ·cases hm
  ·exact AQ (l:=l) h t k u hm
theorem AU {gs:List Nat} {s:Nat→TO} :∀{l:List (Nat×kY×Option (List Wd))},Vr gs s l=true→∀t k u,(t,k,some u)∈l→EL gs t (s t)=true
 | [],h,t,k,u,hm=>by cases hm
 |(t0,k0,some u0)::l,h,t,k,u,hm=>by
  simp only [Vr,Qf] at h
  rcases QQ.1 hm with hm | hm
  ·cases hm;exact h.1
  ·exact AU h.2 t k u hm
 |(t0,k0,none)::l,h,t,k,u,hm=>by
  rcases QQ.1 hm with hm | hm
  ·cases hm
  ·exact AU (l:=l) h t k u hm
theorem Qx {gs:List Nat} {st:gU} (h:ZV st.go gs=true):W9 (aI st).o gs=true∧Pl st.go gs:=by
 have hp:Pl st.go gs:=fun g hg=>by
  have:=(X2.1 h) g hg
  simp only [plB,Qf] at this
  cases hx:kR st.go g with
  |some p=>exact ⟨p,rfl⟩
  |none=>rw [hx] at this;cases this.1
 refine ⟨X2.2 fun g hg => ?_,hp⟩
 obtain ⟨⟨a,i,e,l⟩,hx⟩:=hp g hg
 have:=(X2.1 h) g hg
 simp only [Qf] at this
 obtain ⟨k1,k2⟩:=lM hx
 have k1:plainO (aI st).o g=_:=k1
 have k2:((aI st).o g).names=_:=k2
 rw [k1,k2]
 simp only [Option.isSome_some,Bool.true_and]
 have h2:=this.2
 simp only [aV] at h2
 exact h2
theorem lT (keep:List Nat) :∀(hs:List Nat) (st:gU),aI (kU keep hs st).2=Fw.shuts (kU keep hs st).1 (aI st)
 | [],st=>rfl
 |g::gs,st=>by
  simp only [kU]
  split
  ·rename_i d a i e ak l h1 h2
   split
   ·simp only [Fw.shuts]
    rw [lT keep gs,E_]
    have:=Ia h1 h2
    have this:Fw.iV (aI st).o g=_:=this
    rw [this]
   ·exact lT keep gs st
  ·exact lT keep gs st
theorem oQ {keep:List Nat} {t:Nat} (ht:dM t keep=true) :∀(hs:List Nat) (st:gU),(kU keep hs st).2.go t=st.go t
 | [],st=>rfl
 |g::gs,st=>by
  simp only [kU]
  split
  ·rename_i d a i e ak l h1 h2
   split
   ·rename_i hk
    obtain ⟨k1,k2⟩:=fO hk
    rw [oQ ht gs]
    show iC .none (zl st.o [(g,.ay a i e ak l none),(d,.none)]) t=iC .none st.o t
    rw [uM]
    have e1:(t==g)=false:=by
     simp only [beq_eq_false_iff_ne];intro e;subst e;rw [ht] at k1;cases k1
    have e2:(t==d)=false:=by
     simp only [beq_eq_false_iff_ne];intro e;subst e;rw [ht] at k2;cases k2
    simp only [List.lookup,e1,e2]
   ·exact oQ ht gs st
  ·exact oQ ht gs st
theorem zG (keep:List Nat) :∀(hs:List Nat) (st:gU),(kU keep hs st).2.s=st.s
 | [],st=>rfl
 |g::gs,st=>by
  simp only [kU]
  split
  ·split
   ·rw [zG keep gs]
   ·exact zG keep gs st
  ·exact zG keep gs st
theorem AV :∀{l:List (Nat×kY×Option (List Wd))} {t:Nat} {k:kY} {u:List Wd},(t,k,some u)∈l→dM t (wM l)=true
 | [],t,k,u,h=>by cases h
 |(t0,k0,some u0)::l,t,k,u,h=>by
  simp only [wM,dM,VV]
  rcases QQ.1 h with h | h
  ·cases h;exact .inl (by simp)
  ·exact .inr (AV h)
 |(t0,k0,none)::l,t,k,u,h=>by
  rcases QQ.1 h with h | h
  ·cases h
  ·exact AV (l:=l) h
theorem mF {R:Type} {aY:List Nat} {j:JF} {q0 q:iG} {K:Tup j.tys→Prog R} {r:R} (hj:WB q0.st j) (hr:oP q0 q) (h:(sJ aY j q K).run=some r) :
  ∃x,(K x).run=some r∧Back aY j.sh.er (aI q.st) fun vs=>vs=(j.pay (Tup.kX j.tys x)).map bQ:=by
 unfold sJ at h
 simp only at h
 split at h
 ·exact (bn h).elim
 ·rename_i hk
  obtain ⟨hk,h6⟩:=fO hk
  obtain ⟨hk,h5⟩:=fO hk
  obtain ⟨hk,h4⟩:=fO hk
  obtain ⟨hk,h3⟩:=fO hk
  obtain ⟨h1,h2⟩:=fO hk
  have henc:=lT (wM j.aN) (JD q.st.o) q.st
  have hkeep:=fun t (ht:dM t (wM j.aN)=true)=>oQ ht (JD q.st.o) q.st
  have hss:=zG (wM j.aN) (JD q.st.o) q.st
  generalize (kU (wM j.aN) (JD q.st.o) q.st).1=hs0 at henc
  generalize (kU (wM j.aN) (JD q.st.o) q.st).2=st0 at h h3 h4 h5 h6 henc hkeep hss
  generalize hgs:ZX aY j.sh st0=gs at h h3 h4 h5 h6
  split at h
  ·exact (bn h).elim
  ·rename_i vs hvs
   split at h
   ·exact (bn h).elim
   ·rename_i x hx
    refine ⟨x,h,?_⟩
    have hpay:j.pay (Tup.kX j.tys x)=vs:=by
     rw [Df _ hx]
     unfold zh at hvs
     split at hvs
     ·split at hvs
      ·rename_i u v hu hv
       simp only [Q0] at hvs;subst hvs
       have kS :∀t k u,(t,k,some u)∈j.slots→(Gt gs st0).gs t=q0.st.gs t:=fun t k u hm=>by
        obtain ⟨a1,a2⟩:=xX h1 t k u hm
        have a3:=AQ h5 t k u hm
        have a4:st0.gs t=q.st.gs t:=by unfold gU.gs;rw [hss]
        rw [←(hr.s t a1 a2).2.2,Qu,←a4]
        cases gs with
        |nil=>rfl
        |cons g r=>exact MR a3
       have kO :∀t k u,(t,k,some u)∈j.aN→(Gt gs st0).go t=q0.st.go t∧(Hw j.aN++derive aY j.sh (Gt gs st0)).lookup t=some (some t):=fun t k u hm=>by
        obtain ⟨a1,a2⟩:=xY h2 t k u hm
        have a3:=AU h6 t k u hm
        refine ⟨?_,rX hm⟩
        rw [←(hr.o t a1 a2).2.2,Qv,←hkeep t (AV hm)]
        cases gs with
        |nil=>rfl
        |cons g r=>exact MS a3
       obtain ⟨e,e1,_,e3⟩:=zD (rest:=v) (jB:=[]) hj.s kS hu
       obtain ⟨e',e1',_,e3'⟩:=zF (rest:=[]) (jB:=[]) hj.o kO hv
       obtain ⟨e2,e12,e22,_⟩:=zD (rest:=v) (jB:=e') hj.s kS hu
       rw [e1] at e12
       have:e=e2:=(Prod.mk.inj e12).1
       subst this
       obtain ⟨e4,e14,e24,_⟩:=zF (rest:=[]) (jB:=[]) hj.o kO hv
       rw [e1'] at e14
       have:e'=e4:=(Prod.mk.inj e14).1
       subst this
       rw [Kj] at e1' e24
       unfold JF.ext
       rw [e1]
       simp only
       rw [e1']
       unfold JF.pay
       simp only
       rw [e22]
       simp only
       rw [e24]
      ·cases hvs
     ·cases hvs
    rw [hpay]
    obtain ⟨c1,c2⟩:=EU hvs
    obtain ⟨f1,f2⟩:=Qx h4
    rw [MQ f2,henc] at c1
    rw [henc] at f1
    exact .mk hs0 gs _ _ f1 h3 c1 rfl
theorem oP.fresh {q q':iG} (h:oP q.fresh q'):oP q (q'.since q):=by
 refine ⟨fun t h1 h2 => ?_,fun g h1 h2 => ?_⟩
 ·have h2:dM t (q'.ds++q.ds)=false:=h2
  rw [aV] at h2
  simp only [Ke,Vc] at h2
  rw [←aV,←aV] at h2
  obtain ⟨a1,a2,a3⟩:=h.s t h1 h2.1
  exact ⟨a1,h2.2,a3⟩
 ·have h2:dM g (q'.od++q.od)=false:=h2
  rw [aV] at h2
  simp only [Ke,Vc] at h2
  rw [←aV,←aV] at h2
  obtain ⟨a1,a2,a3⟩:=h.o g h1 h2.1
  exact ⟨a1,h2.2,a3⟩
theorem qH {t:Nat} {a b:List Nat} (h:dM t (a++b)=false):dM t a=false∧dM t b=false:=by
 rw [aV] at h
 simp only [Ke,Vc] at h
 rw [←aV,←aV] at h
 exact h
theorem VW {st:gU} {t:Nat} (h:st.gs t≠.no):hasK t st.s=true:=by
 cases hk:hasK t st.s with
 |true=>rfl
 |false=>exact absurd (qF TS.no st.s t hk) h
theorem VX {st:gU} {t:Nat} (h:st.go t≠.none):hasK t st.o=true:=by
 cases hk:hasK t st.o with
 |true=>rfl
 |false=>exact absurd (qF TO.none st.o t hk) h
theorem Qy {x:TS} {y:lS×List Wd} (h:JB x=some y):x≠.no:=by intro e;subst e;cases h
theorem Qz {x:TO} {y:kY×List Wd} (h:sQ x=some y):x≠.none:=by intro e;subst e;cases h
theorem XK {q:iG} {j:JF} (hj:WB q.st j) (x:Tup j.tys):oP q ⟨uH j x,newS j.slots++q.ds,qB j.aN++q.od⟩:=by
 obtain ⟨hs,ho⟩:=AP hj x
 refine ⟨fun t h1 h2 => ?_,fun g h1 h2 => ?_⟩
 ·obtain ⟨n1,n2⟩:=qH (a:=newS j.slots) (b:=q.ds) h2
  obtain ⟨a1,k,u,hm⟩:=hs t h1 n1
  exact ⟨VW (Qy (hj.s t k u hm)),n2,a1⟩
 ·obtain ⟨n1,n2⟩:=qH (a:=qB j.aN) (b:=q.od) h2
  obtain ⟨a1,k,u,hm⟩:=ho g h1 n1
  exact ⟨VX (Qz (hj.o g k u hm)),n2,a1⟩
theorem Ig {q q':iG} {j:JF} (hj:WB q.st j) {x:Tup j.tys} (h:oP ⟨uH j x,[],[]⟩ q'):oP q (q'.since ⟨q'.st,newS j.slots++q.ds,qB j.aN++q.od⟩):=by
 obtain ⟨hs,ho⟩:=AP hj x
 refine ⟨fun t h1 h2 => ?_,fun g h1 h2 => ?_⟩
 ·obtain ⟨n1,n2⟩:=qH (a:=q'.ds) (b:=newS j.slots++q.ds) h2
  obtain ⟨n2,n3⟩:=qH n2
  obtain ⟨a1,a2,a3⟩:=h.s t h1 n1
  obtain ⟨b1,k,u,hm⟩:=hs t a1 n2
  exact ⟨VW (Qy (hj.s t k u hm)),n3,a3.trans b1⟩
 ·obtain ⟨n1,n2⟩:=qH (a:=q'.od) (b:=qB j.aN++q.od) h2
  obtain ⟨n2,n3⟩:=qH n2
  obtain ⟨a1,a2,a3⟩:=h.o g h1 n1
  obtain ⟨b1,k,u,hm⟩:=ho g a1 n2
  exact ⟨VX (Qz (hj.o g k u hm)),n3,a3.trans b1⟩
theorem B_ (vs:List Wd) (t:Nat) :∀(n:Nat) (l:List (Nat×lS)),hasK t (dY vs n l).1=hasK t l
 |n,[]=>rfl
 |n,(t0,k)::l=>by simp only [dY,hasK,B_ vs t]
theorem Cb (vs:List Wd) (t:Nat) :∀(n:Nat) (l:List (Nat×kY)),hasK t (iH vs n l).1=hasK t l
 |n,[]=>rfl
 |n,(t0,k)::l=>by simp only [iH,hasK,Cb vs t]
theorem FH {α:Type} {t:Nat} {x:α} :∀{l:List (Nat×α)},(t,x)∈l→hasK t l=true
 | [],h=>by cases h
 |(t0,y)::l,h=>by
  simp only [hasK,VV]
  rcases QQ.1 h with h | h
  ·cases h;exact .inl (by simp)
  ·exact .inr (FH h)
theorem XL {st:gU} {j:JF} (hj:WB st j) (x:Tup j.tys):WB (uH j x) j:=by
 obtain ⟨hs,ho⟩:=AP hj x
 refine ⟨fun t k u hm => ?_,fun t k u hm => ?_,hj.ds,hj.dO⟩
 ·have hh:hasK t (uH j x).s=true:=by
   show hasK t (dY _ 0 j.sh.slots).1=true
   rw [B_]
   exact FH (x:=k) (QP.2 ⟨(t,k,some u),hm,rfl⟩)
  rw [(hs t hh (hj.ds t k u hm)).1]
  exact hj.s t k u hm
 ·have hh:hasK t (uH j x).o=true:=by
   show hasK t (iH _ _ j.sh.aN).1=true
   rw [Cb]
   exact FH (x:=k) (QP.2 ⟨(t,k,some u),hm,rfl⟩)
  rw [(ho t hh (hj.dO t k u hm)).1]
  exact hj.o t k u hm
structure KSm {R:Type} (q:iG) (K:TK R) (r:R) (Kp:yZ):Prop where
 n :∀q',oP q q'→(K.n q').run=some r→Kp.n (aI q'.st)
 x :∀id q',oP q q'→(K.x id q').run=some r→Kp.x id (aI q'.st)
 r :∀q',oP q q'→(K.r q').run=some r→Kp.r (aI q'.st)
theorem KSm.from {R:Type} {q q1:iG} {K:TK R} {r:R} {Kp:yZ} (h:KSm q K r Kp) (hr:oP q q1):KSm q1 K r Kp:=
 ⟨fun q' a b=>h.n q' (hr.trans a) b,fun id q' a b=>h.x id q' (hr.trans a) b,fun q' a b=>h.r q' (hr.trans a) b⟩
theorem Dh {R R':Type} {p:Prog R} {r:R} (h:(p.map (Sum.inr:R→R' ⊕ R)).run=some (.inr r)):p.run=some r:=by
 rw [run_map _ (fun a b e=>Sum.inr.inj e)] at h
 cases hp:p.run with
 |none=>rw [hp] at h;cases h
 |some a=>rw [hp] at h;cases h;rfl
theorem rY {R R':Type} {p:Prog R} {x:R'} (h:(p.map (Sum.inr:R→R' ⊕ R)).run=some (.inl x)):False:=by
 rw [run_map _ (fun a b e=>Sum.inr.inj e)] at h
 cases hp:p.run with
 |none=>rw [hp] at h;cases h
 |some a=>rw [hp] at h;cases h
theorem FK {R:Type} {aY:List Nat} {early:Bool} {jt:JT} {here:Nat→Bool} {q:iG} {inner:(R':Type)→iG→TK R'→Prog R'} {K:TK R} {r:R} {E:St→yZ→Prop} {Kp:yZ}
  (hin :∀(R':Type) (q':iG) (K':TK R') (r':R') (Kp':yZ),(inner R' q' K').run=some r'→KSm q' K' r' Kp'→E (aI q'.st) Kp')
  (h:(Hy aY early jt here q inner K).run=some r) (hK:KSm q K r Kp):E (aI q.st) { n:=Wk aY Kp.n,x:=fun id st=>bif here id then Wk aY Kp.n st else Kp.x id st,r:=Kp.r }:=by
 unfold Hy at h
 split at h
 ·exact (bn h).elim
 ·rename_i j hjo
  have hj:=VR hjo
  have YT:WB q.fresh.st j:=hj
  have fin :∀(x:Tup j.tys),(frX ⟨uH j x,newS j.slots++q.ds,qB j.aN++q.od⟩ K.n).run=some r→∀q':iG,Back aY j.sh.er (aI q'.st) (fun vs=>vs=(j.pay (Tup.kX j.tys x)).map bQ)→Wk aY Kp.n (aI q'.st):=by
   intro x hx q' hb
   rw [pR] at hx
   have hn:=hK.n _ (XK hj x) hx
   refine .back j.sh.er ?_
   obtain ⟨hs,gs,m,vs,h0,h1,h2,rfl⟩:=hb
   refine ⟨hs,gs,m,_,h0,h1,h2,?_⟩
   have e:=uJ (OU hj x)
   have hn:Kp.n (aI (mkT j.sh (j.pay (Tup.kX j.tys x)))):=hn
   rw [e] at hn
   exact hn
  split at h
  ·obtain ⟨x,hi,hx⟩:=VO h
   refine hin _ q.fresh _ x _ hi ⟨fun q' hr hq => ?_,fun id q' hr hq => ?_,fun q' hr hq=>(bn hq).elim⟩
   ·obtain ⟨y,hy,hb⟩:=mF YT hr hq
    have hy:some y=some x:=hy
    cases hy
    exact fin _ hx q' hb
   ·show (bif here id then Wk aY Kp.n (aI q'.st) else Kp.x id (aI q'.st))
    have hq:(bif here id then sJ aY j q' .ret else .stuck 41:Prog _).run=some x:=hq
    cases hh:here id with
    |true=>
     rw [hh] at hq
     obtain ⟨y,hy,hb⟩:=mF YT hr hq
     have hy:some y=some x:=hy
     cases hy
     exact fin _ hx q' hb
    |false=>rw [hh] at hq;exact (bn hq).elim
  ·rcases S9 h with ⟨x,hi,hx⟩ | hi
   ·refine hin _ q.fresh _ (Sum.inl x) _ hi ⟨fun q' hr hq => ?_,fun id q' hr hq => ?_,fun q' hr hq=>(rY hq).elim⟩
    ·obtain ⟨y,hy,hb⟩:=mF YT hr hq
     have hy:some (Sum.inl y:Tup j.tys ⊕ R)=some (.inl x):=hy
     cases hy
     exact fin _ hx q' hb
    ·show (bif here id then Wk aY Kp.n (aI q'.st) else Kp.x id (aI q'.st))
     have hq:(bif here id then sJ aY j q' (fun x=>.ret (.inl x)) else (K.x id (q'.since q)).map .inr:Prog (Tup j.tys ⊕ R)).run=some (.inl x):=hq
     cases hh:here id with
     |true=>
      rw [hh] at hq
      obtain ⟨y,hy,hb⟩:=mF YT hr hq
      have hy:some (Sum.inl y:Tup j.tys ⊕ R)=some (.inl x):=hy
      cases hy
      exact fin _ hx q' hb
     |false=>rw [hh] at hq;exact (rY hq).elim
   ·refine hin _ q.fresh _ (Sum.inr r) _ hi ⟨fun q' hr hq => ?_,fun id q' hr hq => ?_,fun q' hr hq => ?_⟩
    ·obtain ⟨y,hy,hb⟩:=mF YT hr hq
     have hy:some (Sum.inl y:Tup j.tys ⊕ R)=some (.inr r):=hy
     cases hy
    ·show (bif here id then Wk aY Kp.n (aI q'.st) else Kp.x id (aI q'.st))
     have hq:(bif here id then sJ aY j q' (fun x=>.ret (.inl x)) else (K.x id (q'.since q)).map .inr:Prog (Tup j.tys ⊕ R)).run=some (.inr r):=hq
     cases hh:here id with
     |true=>
      rw [hh] at hq
      obtain ⟨y,hy,hb⟩:=mF YT hr hq
      have hy:some (Sum.inl y:Tup j.tys ⊕ R)=some (.inr r):=hy
      cases hy
     |false=>
      rw [hh] at hq
      exact hK.x id (q'.since q) (oP.fresh hr) (Dh hq)
    ·exact hK.r (q'.since q) (oP.fresh hr) (Dh hq)
theorem least {p:Nat→Prop}:(∃n,p n)→∃n,p n∧∀k,k<n→¬ p k:=by
 rintro ⟨n,hn⟩
 induction n using Nat.strongRecOn with
 |ind n ih=>
  by_cases h :∃k,k<n∧p k
  ·obtain ⟨k,hk,hp⟩:=h
   exact ih k hk hp
  ·exact ⟨n,hn,fun k hk hp=>h ⟨k,hk,hp⟩⟩
open Classical in
noncomputable def FM (p:Nat→Prop):Nat:=if h :∃n,p n then Classical.choose (least h) else 0
theorem Cc {p:Nat→Prop} (h :∃n,p n):p (FM p)∧∀k,p k→FM p≤k:=by
 unfold FM
 rw [dif_pos h]
 obtain ⟨h1,h2⟩:=Classical.choose_spec (least h)
 exact ⟨h1,fun k hk=>Kd fun hlt=>h2 k hlt hk⟩
theorem Tc {T:dw} {tt:TT} {ety:TypeId→Option Ty} {N:Nat} :∀(c:Code) {aY:List Nat} {R:Type} {a:jJ} {q:iG} {K:TK R} {r:R} {Kp:yZ},(kV T tt ety N aY c R a q K).run=some r→KSm q K r Kp→
  exec (jM T) tt N aY c (aI q.st) Kp:=by
 intro c
 induction c with
 |skip=>intro aY R a q K r Kp h hK;exact hK.n q (oP.refl q) h
 |region id ops draw=>
  intro aY R a q K r Kp h hK
  show oK (jM T) tt N ops draw (aI q.st) (Wk aY Kp.n)
  have h:(match a with
   |.meet e j _=>Hy aY e j (fun _=>false) q (fun _ q K=>rM T tt ety N ops draw q K.n) K
   |_=>rM T tt ety N ops draw q K.n).run=some r:=h
  have plain:(rM T tt ety N ops draw q K.n).run=some r→oK (jM T) tt N ops draw (aI q.st) (Wk aY Kp.n):=fun h=>Fp h fun q' hr hq=>.now (hK.n q' hr hq)
  cases a with
  |meet e j a=>
   exact FK (E:=fun st K=>oK (jM T) tt N ops draw st K.n) (fun R' q' K' r' Kp' h hK'=>Fp h fun q'' hr hq=>hK'.n q'' hr hq) h hK
  |_=>exact plain h
 |seq x y PE ihy=>
  intro aY R a q K r Kp h hK
  refine PE h ⟨fun q' hr hq=>ihy hq (hK.from hr),hK.x,hK.r⟩
 |cond c x y PE ihy=>
  intro aY R a q K r Kp h hK
  have body :∀(R:Type) (a:jJ) (q:iG) (K:TK R) (r:R) (Kp:yZ),(PY c q (fun q=>kV T tt ety N aY x R a.fst q K) fun q=>kV T tt ety N aY y R a.snd q K).run=some r→KSm q K r Kp→(match (aI q.st).bC c with
    |.v (.one (.p _ _ (.bool b)))=>bif b then exec (jM T) tt N aY x (aI q.st) Kp else exec (jM T) tt N aY y (aI q.st) Kp
    |_=>False):=by
   intro R a q K r Kp h hK
   unfold PY at h
   split at h
   ·rename_i a' i' b hb
    change Bool at b
    have hb':(aI q.st).bC c=.v (.one (.p a' i' (.bool b))):=by rw [jw,hb];rfl
    rw [hb']
    simp only
    have kn:aI (ZY c a' i' b q).st=aI q.st∧oP q (ZY c a' i' b q):=by
     unfold ZY
     cases c with
     |tmp t=>
      have hb:q.st.gs t=.v (.one (.p a' i' (gB b))):=hb
      exact ⟨uN hb,uO hb⟩
     |_=>exact ⟨rfl,oP.refl q⟩
    cases b with
    |true=>
     have h:(frX (ZY c a' i' true q) fun q=>kV T tt ety N aY x R a.fst q K).run=some r:=h
     rw [pR] at h
     have:=PE h (hK.from kn.2)
     rw [kn.1] at this
     exact this
    |false=>
     have h:(frX (ZY c a' i' false q) fun q=>kV T tt ety N aY y R a.snd q K).run=some r:=h
     rw [pR] at h
     have:=ihy h (hK.from kn.2)
     rw [kn.1] at this
     exact this
   ·exact (bn h).elim
  cases a with
  |meet e j a=>
   exact FK (E:=fun st K=>match st.bC c with
    |.v (.one (.p _ _ (.bool b)))=>bif b then exec (jM T) tt N aY x st K else exec (jM T) tt N aY y st K
    |_=>False) (fun R' q' K' r' Kp' h hK'=>body R' a q' K' r' Kp' h hK') h hK
  |nil=>exact body R .nil q K r { n:=Wk aY Kp.n,x:=Kp.x,r:=Kp.r } h ⟨fun q' a b=>.now (hK.n q' a b),hK.x,hK.r⟩
  |seq a b=>exact body R (.seq a b) q K r { n:=Wk aY Kp.n,x:=Kp.x,r:=Kp.r } h ⟨fun q' a b=>.now (hK.n q' a b),hK.x,hK.r⟩
  |range j s a=>exact body R (.range j s a) q K r { n:=Wk aY Kp.n,x:=Kp.x,r:=Kp.r } h ⟨fun q' a b=>.now (hK.n q' a b),hK.x,hK.r⟩
  |loop j a=>exact body R (.loop j a) q K r { n:=Wk aY Kp.n,x:=Kp.x,r:=Kp.r } h ⟨fun q' a b=>.now (hK.n q' a b),hK.x,hK.r⟩
 |block id c ih=>
  intro aY R a q K r Kp h hK
  have plain :∀(a:jJ),(kV T tt ety N aY c R a q { n:=K.n,x:=fun id' q'=>bif Nat.beq id' id then K.n q' else K.x id' q',r:=K.r }).run=some r→exec (jM T) tt N aY (.block id c) (aI q.st) Kp:=by
   intro a h
   refine ih h ⟨fun q' hr hq=>.now (hK.n q' hr hq),fun id' q' hr hq => ?_,hK.r⟩
   show (bif Nat.beq id' id then Wk aY Kp.n (aI q'.st) else Kp.x id' (aI q'.st))
   have hq:(bif Nat.beq id' id then K.n q' else K.x id' q').run=some r:=hq
   cases hb:Nat.beq id' id with
   |true=>rw [hb] at hq;exact .now (hK.n q' hr hq)
   |false=>rw [hb] at hq;exact hK.x id' q' hr hq
  cases a with
  |meet e j a=>
   have:=FK (E:=fun st K=>exec (jM T) tt N aY c st K) (fun R' q' K' r' Kp' h hK'=>ih h hK') h hK
   have e :∀id',Nat.beq id id'=Nat.beq id' id:=fun id'=>by rw [Bool.eq_iff_iff];simp;exact ⟨fun h=>h.symm,fun h=>h.symm⟩
   show exec (jM T) tt N aY c (aI q.st) { n:=Wk aY Kp.n,x:=fun id' st'=>bif Nat.beq id' id then Wk aY Kp.n st' else Kp.x id' st',r:=Kp.r }
   simp only [e] at this
   exact this
  |nil=>exact plain _ h
  |seq a b=>exact plain _ h
  |loop j a=>exact plain _ h
  |range j s a=>exact plain _ h
 |loop c ih=>
  intro aY R a q K r Kp h hK
  cases a with
  |loop jt a=>
   unfold kV at h
   simp only at h
   split at h
   ·exact (bn h).elim
   ·rename_i j hjo
    have hj:=VR hjo
    have YT:WB q.fresh.st j:=hj
    obtain ⟨x0,hx0,hb0⟩:=mF YT (oP.refl q.fresh) h
    obtain ⟨n0,hn0⟩:=VP hx0
    generalize hB:(fun z=>(frX ⟨uH j z,[],[]⟩ fun q'=>kV T tt ety N aY c (Tup j.tys ⊕ R) a q'
      { n:=fun q'=>sJ aY j q' fun x=>.ret (.inl x),x:=fun id q'=>(K.x id (q'.since ⟨q'.st,newS j.slots++q.ds,qB j.aN++q.od⟩)).map .inr,r:=fun q'=>(K.r (q'.since ⟨q'.st,newS j.slots++q.ds,qB j.aN++q.od⟩)).map .inr }).run)=B at hn0
    let P:List P→Nat→Prop:=fun vs n =>∃x,vs=(j.pay (Tup.kX j.tys x)).map bQ∧iY B n x=some r
    refine .mk j.sh.er (fun vs =>∃n,P vs n) (fun vs=>FM (P vs)) ?_ ?_
    ·obtain ⟨hs,gs,m,vs,h0,h1,h2,rfl⟩:=hb0
     exact ⟨hs,gs,m,_,h0,h1,h2,n0,x0,rfl,hn0⟩
    ·intro us hI
     obtain ⟨⟨x,hus,hl⟩,hmin⟩:=Cc hI
     generalize hn:FM (P us)=n at hl hmin
     cases n with
     |zero=>cases hl
     |succ n=>
      simp only [iY] at hl
      cases hb:B x with
      |none=>rw [hb] at hl;cases hl
      |some v=>
       rw [hb] at hl
       have hb2:=hb
       rw [←hB] at hb2
       simp only [pR] at hb2
       have e:=uJ (OU hj x)
       rw [←hus] at e
       rw [←e]
       refine ih hb2 ⟨fun q' hr hq => ?_,fun id q' hr hq => ?_,fun q' hr hq => ?_⟩
       ·obtain ⟨y,hy,hbk⟩:=mF (q0:=⟨uH j x,[],[]⟩) (XL hj x) hr hq
        have hy:some (Sum.inl y:Tup j.tys ⊕ R)=some v:=hy
        cases hy
        have hl:iY B n y=some r:=hl
        obtain ⟨hs,gs,m,vs,h0,h1,h2,rfl⟩:=hbk
        have hP:P ((j.pay (Tup.kX j.tys y)).map bQ) n:=⟨y,rfl,hl⟩
        refine ⟨hs,gs,m,_,h0,h1,h2,⟨n,hP⟩,?_⟩
        have:=(Cc ⟨n,hP⟩).2 n hP
        omega
       ·cases v with
        |inl y=>exact (rY hq).elim
        |inr r'=>
         have hl:some r'=some r:=hl
         cases hl
         exact hK.x id (q'.since ⟨q'.st,newS j.slots++q.ds,qB j.aN++q.od⟩) (Ig hj hr) (Dh hq)
       ·cases v with
        |inl y=>exact (rY hq).elim
        |inr r'=>
         have hl:some r'=some r:=hl
         cases hl
         exact hK.r (q'.since ⟨q'.st,newS j.slots++q.ds,qB j.aN++q.od⟩) (Ig hj hr) (Dh hq)
  |nil=>exact (bn h).elim
  |seq a b=>exact (bn h).elim
  |meet e j a=>exact (bn h).elim
  |range j s a=>exact (bn h).elim
 |exit id=>intro aY R a q K r Kp h hK;exact hK.x id q (oP.refl q) h
 |ret=>intro aY R a q K r Kp h hK;exact hK.r q (oP.refl q) h
 |label l=>intro aY R a q K r Kp h hK;exact hK.n q (oP.refl q) h
 |scope c ih=>intro aY R a q K r Kp h hK;exact ih h hK
 |_=>intro aY R a q K r Kp h;exact (bn h).elim
end
end Go.Fg

namespace Go.Fg
open Go.Fw
section
variable [RE]
theorem VY {tt:TT} {st:gU} {r:ResultVar} {x:TS} (h:PZ tt st r=some x):RJ tt (aI st) r=some (aP x):=by
 cases r with
 |tmp t=>simp only [PZ,Q0] at h;subst h;rfl
 |cell a t=>
  simp only [PZ] at h
  split at h
  ·rename_i i g off ht hs
   split at h
   ·rename_i ws hg
    obtain ⟨hb,h⟩:=aW h
    simp only [Q0] at h;subst h
    obtain ⟨h1,h2⟩:=fO hb
    have hs':(aI st).s a=.v (.one (.box g off)):=by show aP (st.gs a)=_;rw [hs];rfl
    have hg':(aI st).o g=.box (ws.map bf):=lK hg
    simp only [RJ,ht,hs',hg',W0]
    rw [if_pos ⟨Z6 h1,Ey h2⟩,jv,Wm,W8]
   ·cases h
  ·cases h
theorem Ih {tt:TT} {st:gU} :∀{rs:List ResultVar} {xs:List TS},EM tt st rs=some xs→BI tt (aI st) rs=some (xs.map aP)
 | [],xs,h=>by simp only [EM,Q0] at h;subst h;rfl
 |r::rs,xs,h=>by
  simp only [EM] at h
  split at h
  ·rename_i h1 h2
   simp only [Q0] at h;subst h
   simp only [BI,VY h1,Ih h2,Qt]
  ·cases h
theorem MV :∀(xs:List TS) (n k:Nat),iC .no (OQ n xs) (n+k)=xs.getD k .no
 | [],n,k=>rfl
 |x::xs,n,0=>by simp [OQ,iC]
 |x::xs,n,k+1=>by
  have:Nat.beq (n+(k+1)) n=false:=by
   cases h:Nat.beq (n+(k+1)) n with
   |false=>rfl
   |true=>have:=Q4 h;omega
  simp only [OQ,iC,this,cond_false,List.getD_cons_succ]
  have e:n+(k+1)=(n+1)+k:=by omega
  rw [e];exact MV xs (n+1) k
theorem QA {tt:TT} {sp:dU} {ts:List ResultVar} {q:iG} {y:Tup sp.aQ.tys} (h:(Xr tt sp ts q).run=some y):Fw.Fin tt sp.er ts ((Tup.kX sp.aQ.tys y).map bQ) (aI q.st):=by
 unfold Xr at h
 split at h
 ·exact (bn h).elim
 ·rename_i xs hxs
  simp only at h
  split at h
  ·exact (bn h).elim
  ·rename_i hk
   obtain ⟨hk,hk2⟩:=fO hk
   split at h
   ·exact (bn h).elim
   ·rename_i vs hvs
    split at h
    ·exact (bn h).elim
    ·rename_i x hx
     have h:some x=some y:=h
     cases h
     unfold Fw.Fin
     rw [Ih hxs]
     simp only
     obtain ⟨c1,c2⟩:=EU hvs
     have e:aI { s:=OQ 0 xs,o:=q.st.o,u:=q.st.u }=Lr (xs.map aP) (aI q.st):=by
      refine St.ext' (fun t => ?_) (fun g=>rfl) fun g=>rfl
      show aP (iC .no (OQ 0 xs) t)=(xs.map aP).getD t .no
      have:=MV xs 0 t
      rw [Wb] at this
      rw [this,H6]
     obtain ⟨f1,f2⟩:=Qx hk2
     rw [MQ f2,lT,e] at c1
     rw [lT,e] at f1
     refine .mk _ _ _ _ f1 hk c1 ?_
     rw [Df _ hx]
def bg (Pg:Program) (f:FuncId) (sp:bT):Prop:=Sound Pg f sp.er
def dw.of (l:List (Nat×bT)):dw:=fun f=>l.lookup f
def fC (Pg:Program):List (Nat×bT)→Prop
 | []=>True
 |p::r=>bg Pg (p.1 % 1000000) p.2∧fC Pg r
theorem fC.sound {Pg:Program} :∀{l:List (Nat×bT)},fC Pg l→∀f sp,jM (dw.of l) f=some sp→Sound Pg (f % 1000000) sp
 | [],_,f,sp,h=>by cases h
 |(g,s)::l,⟨h1,h2⟩,f,sp,h=>by
  simp only [jM,dw.of,List.lookup] at h
  split at h
  ·rename_i e
   have e:f=g:=by simpa using e
   subst e
   cases h
   exact h1
  ·exact fC.sound h2 f sp h
theorem rZ (e:Ty) (l:List (Dt e)):(aB e l).length=List.length (α:=Dt e) l:=by simp [aB]
theorem AX {R:Type} {a b:Nat→TO} {K:Prog R} {y:R} :∀{gs:List Nat},(xO a b K gs).run=some y→K.run=some y∧∀g∈gs,(cu (a g)).like (cu (b g))
 | [],h=>⟨h,fun g hg=>by cases hg⟩
 |g::gs,h=>by
  unfold xO at h
  have key :∀{x y:TO},L_ x y=.yes→(cu x).like (cu y):=by
   intro x y hxy
   cases x<;>cases y<;>simp only [L_] at hxy<;>first | trivial | (cases hxy) | (exfalso;revert hxy;cases Nat.beq _ _<;>intro hxy<;>cases hxy)
  have key2 :∀{x y:TO} {n m:Nat},L_ x y=.len n m→n=m→(cu x).like (cu y):=by
   intro x y n m hxy hnm
   cases x<;>cases y<;>simp only [L_] at hxy<;>first | (cases hxy) | skip
   ·rename_i e l _ _ _ e' l'
    cases hb:Nat.beq (size e) (size e') with
    |false=>rw [hb] at hxy;cases hxy
    |true=>
     rw [hb] at hxy;cases hxy
     exact ⟨Q4 hb,by rw [rZ,rZ];exact hnm⟩
   ·rename_i e _ l _ _ _ e' _ l' _
    cases hb:Nat.beq (size e) (size e') with
    |false=>rw [hb] at hxy;cases hxy
    |true=>
     rw [hb] at hxy;cases hxy
     exact ⟨Q4 hb,by rw [rZ,rZ];exact hnm⟩
  split at h
  ·rename_i hc
   obtain ⟨h1,h2⟩:=AX h
   refine ⟨h1,fun g' hg => ?_⟩
   rcases QQ.1 hg with rfl | hg
   ·exact key hc
   ·exact h2 g' hg
  ·exact (bn h).elim
  ·rename_i n m hc
   have h:ck (decide (n=m)) (xO a b K gs).run=some y:=h
   unfold ck at h
   cases hd:decide (n=m) with
   |false=>rw [hd] at h;cases h
   |true=>
    rw [hd] at h
    obtain ⟨h1,h2⟩:=AX (gs:=gs) h
    refine ⟨h1,fun g' hg => ?_⟩
    rcases QQ.1 hg with rfl | hg
    ·exact key2 hc (of_decide_eq_true hd)
    ·exact h2 g' hg
theorem qI {Pg:Program} {tt:TT} {T:dw} {ety:TypeId→Option Ty} {f:FuncId} {fn:Func} {c:Code} {sp:bT} (ts:List ResultVar) (a:jJ) (hf:Pg.funcs[f]?=some fn) (hb:fn.body=some c) (hname:(fn.name == "runtime.NumGoroutine")=false) (hres:fn.results=ts.toArray)
  (hok:sp.sig.er.ok=true) (CX:(sp.sig.aY.all fun g=>sp.sig.pin.er.nms.contains g)=true) (hn:sp.sig.aO≤fn.ntmps) (hnr:ts.length=sp.sig.dL)
  (hT :∀f sp,jM T f=some sp→Sound Pg (f % 1000000) sp) (htt:fP Pg tt) (hm:Fit Pg)
  (h :∀x,(P5 T tt ety fn.ntmps sp.sig ts c a x).run=sp.f x):bg Pg f sp:=by
 have hcase :∀x y,sp.ff x=some y→(tfun T tt ety fn.ntmps sp.sig ts c a x).run=some y∧∀g∈sp.sig.er.aY,((Fw.mk sp.sig.pin.er ((Tup.kX sp.sig.pin.tys x).map bQ)).o g).like ((Fw.mk sp.sig.aQ.er ((Tup.kX sp.sig.aQ.tys y).map bQ)).o g):=by
  intro x y hy0
  have hy:=(Qg hy0).1
  have hx:=h x
  rw [hy] at hx
  unfold P5 at hx
  cases hbx:sp.sig.er.Zj with
  |true=>
   rw [hbx] at hx
   exact ⟨hx,wH.Rf hbx⟩
  |false=>
   rw [hbx] at hx
   have hx:(tfun T tt ety fn.ntmps sp.sig ts c a x).run.bind (fun z=>(xO (mkT sp.sig.pin (Tup.kX sp.sig.pin.tys x)).go (mkT sp.sig.aQ (Tup.kX sp.sig.aQ.tys z)).go (.ret z) sp.sig.aY).run)=some y:=hx
   cases hr:(tfun T tt ety fn.ntmps sp.sig ts c a x).run with
   |none=>rw [hr] at hx;cases hx
   |some z=>
    rw [hr] at hx
    obtain ⟨h1,h2⟩:=AX (R:=Tup sp.sig.aQ.tys) (K:=.ret z) hx
    have h1:some z=some y:=h1
    cases h1
    refine ⟨rfl,fun g hg => ?_⟩
    have e1:=congrArg (fun s=>s.o g) (uJ (rU _ x))
    have e2:=congrArg (fun s=>s.o g) (uJ (rU _ y))
    rw [←e1,←e2]
    exact h2 g hg
 refine UH (T:=jM T) (tt:=tt) (c:=c) ts hf hb hname hres hok CX (fun ins bI ⟨x,y,hy,hi,ho⟩=>by subst hi;subst ho;exact (hcase x y hy).2) hn hnr hT htt hm ?_
 rintro ins bI ⟨x,y,hy,rfl,rfl⟩
 have hx:=(hcase x y hy).1
 unfold tfun at hx
 rw [pR] at hx
 have e:=uJ (rU _ x)
 have hx:=Tc c hx (Kp:=ZA tt sp.sig.er ts ((Tup.kX sp.sig.aQ.tys y).map bQ)) ⟨fun q' _ hq=>QA hq,fun id q' _ hq=>(bn hq).elim,fun q' _ hq=>QA hq⟩
 have hx:exec (jM T) tt fn.ntmps sp.sig.er.aY c (aI (mkT sp.sig.pin (Tup.kX sp.sig.pin.tys x))) (ZA tt sp.sig.er ts ((Tup.kX sp.sig.aQ.tys y).map bQ)):=hx
 rw [e] at hx
 exact hx
end
end Go.Fg

namespace Go.Fg
open Go.Fw
def ab3:Nat:=1000000
def jV {A R:Type} (body:A→Option (A ⊕ R)) (a:A):Option R:=iY body ab3 a
def Prog.CO:{R:Type}→Prog R→Option R
 |_,.ret r=>some r
 |_,.stuck _=>none
 |_,.cond b x y=>bif b then x.CO else y.CO
 |_,.chk b x=>ck b x.CO
 |_,.any x y=>none
 |_,.let_ x k=>(k x).CO
 |_,.join x k=>x.CO.bind fun z=>(k z).CO
 |_,.BM x k=>fQ x.CO fun z=>(k z).CO
 |_,.loop a body=>jV (fun z=>(body z).CO) a
 |_,.call _ g a k=>(g a).bind fun z=>(k z).CO
theorem MW {A R:Type} {b b':A→Option (A ⊕ R)} (h :∀z r,b z=some r→b' z=some r) :∀{n:Nat} {a:A} {r:R},iY b n a=some r→iY b' n a=some r
 |0,_,_,e=>by cases e
 |n+1,a,r,e=>by
  simp only [iY] at e ⊢
  cases hb:b a with
  |none=>rw [hb] at e;cases e
  |some z=>
   rw [hb] at e
   rw [h _ _ hb]
   cases z with
   |inl a'=>exact MW h e
   |inr r'=>exact e
theorem Di {α β:Type} {x x':Option α} {k k':α→Option β} {y:β} (hx :∀z,x=some z→x'=some z) (hk :∀z,k z=some y→k' z=some y) (h:x.bind k=some y):x'.bind k'=some y:=by
 cases e:x with
 |none=>rw [e] at h;cases h
 |some z=>rw [e] at h;rw [hx z e];exact hk z h
section
variable [RE]
theorem Prog.jC :∀{R:Type} (p:Prog R) {y:R},p.CO=some y→p.run=some y
 |_,.ret r,y,h=>h
 |_,.stuck _,y,h=>h
 |_,.cond b p q,y,h=>by
  cases b with
  |true=>exact jC p h
  |false=>exact jC q h
 |_,.chk b p,y,h=>by
  cases b with
  |true=>exact jC p h
  |false=>cases h
 |_,.any p q,y,h=>by cases h
 |_,.let_ x k,y,h=>jC (k x) h
 |_,.join p k,y,h=>Di (fun _ e=>jC p e) (fun z e=>jC (k z) e) h
 |_,.BM p k,y,h=>by
  refine Di (fun _ e=>jC p e) (fun z e => ?_) h
  cases z with
  |inl z=>exact jC (k z) e
  |inr r=>exact e
 |_,.loop a body,y,h=>Fq (MW (fun z r e=>jC (body z) e) h)
 |_,.call _ g a k,y,h=>Di (fun _ e=>e) (fun z e=>jC (k z) e) h
theorem bg.le {Pg:Program} {f:FuncId} {sg:dU} {F F':Tup sg.pin.tys→Option (Tup sg.aQ.tys)} (h:bg Pg f ⟨sg,F'⟩) (hle :∀x y,F x=some y→F' x=some y):bg Pg f ⟨sg,F⟩:=by
 obtain ⟨h1,h2,h3⟩:=h
 refine ⟨h1,h2,fun E w vals gh ins bI ⟨x,y,hy,hi,ho⟩=>h3 E w vals gh ins bI ⟨x,y,?_,hi,ho⟩⟩
 have key :∀(K:List Nat),(match K with
  | []=>F
  |g::gs=>fun x=>(F x).bind fun y=>zi (mkT sg.pin (Tup.kX sg.pin.tys x)).go (mkT sg.aQ (Tup.kX sg.aQ.tys y)).go y (g::gs)) x=some y→(match K with
  | []=>F'
  |g::gs=>fun x=>(F' x).bind fun y=>zi (mkT sg.pin (Tup.kX sg.pin.tys x)).go (mkT sg.aQ (Tup.kX sg.aQ.tys y)).go y (g::gs)) x=some y:=by
  intro K hK
  cases K with
  |nil=>exact hle x y hK
  |cons g gs=>exact Di (fun z e=>hle x z e) (fun _ e=>e) hK
 exact key sg.kept hy
theorem aJ {Pg:Program} {tt:TT} {T:dw} {ety:TypeId→Option Ty} {f:FuncId} {fn:Func} {c:Code} {sp:bT} (ts:List ResultVar) (a:jJ) (hf:Pg.funcs[f]?=some fn) (hb:fn.body=some c) (hname:(fn.name == "runtime.NumGoroutine")=false) (hres:fn.results=ts.toArray)
  (hok:sp.sig.er.ok=true) (CX:(sp.sig.aY.all fun g=>sp.sig.pin.er.nms.contains g)=true) (hn:sp.sig.aO≤fn.ntmps) (hnr:ts.length=sp.sig.dL)
  (hT :∀f sp,jM T f=some sp→Sound Pg (f % 1000000) sp) (htt:fP Pg tt) (hm:Fit Pg)
  (h :∀x,(P5 T tt ety fn.ntmps sp.sig ts c a x).CO=sp.f x):bg Pg f sp:=
 bg.le (qI (sp:=⟨sp.sig,fun x=>(P5 T tt ety fn.ntmps sp.sig ts c a x).run⟩) ts a hf hb hname hres hok CX hn hnr hT htt hm fun _=>rfl) fun x y hy=>Prog.jC _ ((h x).trans hy)
end
end Go.Fg

namespace Go.Fw
open Go.RowKit
variable [dB]
def JU (w:World):Prop :=∀g sz rows,dB.gt g=some (sz,rows)→g<w.heap.size∧∀(n:Nat) x,rows[n]?=some x→x.length=sz∧∀(j:Nat) y,x[j]?=some y→∃u,w.cell? ⟨g,n*sz+j,none⟩=some u∧bD w (fun _=>False) y u
theorem MX (h :∀g,dB.gt g=none) (w:World):JU w:=fun g sz rows hg=>by rw [h] at hg;cases hg
def E0 (w:World) (hw:JU w):Env:={ FA:=fun _=>True,FI:=fun _=>False,B0:=w.heap.size,w0:=w,Wr:=fun _=>False,hg:=fun g sz rows hg=>⟨(hw g sz rows hg).1,fun h=>h,(hw g sz rows hg).2⟩ }
def G0:Nat→Gh:=fun _=>Gh.nil
theorem Td {Pg:Program} {f:FuncId} {sp:Spec} (hs:Sound Pg f sp) (Ui:sp.sig.pin.aN=[]) (hnr:sp.sig.dL=1) (Pj:sp.sig.aQ=⟨[(0,.one (.p false false))],[]⟩) {vals:List Value} (hlen:vals.length=sp.sig.aO) {w:World} (hw:JU w) {ins:List P}
  (hR:sp.R ins [.bool true]) (nO :∀t,bP (E0 w hw) (Fw.mk sp.sig.pin ins) G0 w ((Fw.mk sp.sig.pin ins).s t) (vals.getD t undef)) :
  Calls Pg f vals.toArray w fun e w'=>e=.returned (.bool true)∧Below w.heap.size w w':=by
 obtain ⟨hok,_,hS⟩:=hs
 have hno :∀g,(Fw.mk sp.sig.pin ins).o g=.none:=fun g=>Q_ (by simp [Shape.nms,Ui])
 have hok':=hok
 simp only [wH.ok,Qf] at hok'
 have hus:=YC hok'.1.1.1.1.1.1.1.1 ins
 have hrel:Rel (E0 w hw) (Fw.mk sp.sig.pin ins) G0 (fun k=>vals.getD k undef) w:=
  ⟨nO,fun g=>by rw [hno];trivial,fun g g' a (h:((Fw.mk sp.sig.pin ins).o g).aX=true)=>(by rw [hno] at h;cases h),fun g a (h:((Fw.mk sp.sig.pin ins).o g).aX=true)=>(by rw [hno] at h;cases h),fun g i b (h:((Fw.mk sp.sig.pin ins).o g).inner=some i)=>(by rw [hno] at h;cases h),fun g (h:((Fw.mk sp.sig.pin ins).o g).aX=true)=>(by rw [hno] at h;cases h),fun b hb=>hb.elim,fun b _ _=>rfl,W4 _,rfl,rfl,rfl,hus.1,hus.2.1,hus.2.2⟩
 refine Calls.mono (hS (E0 w hw) w vals G0 ins [.bool true] hR rfl rfl hrel hlen) fun e w' he => ?_
 obtain ⟨rs,aT,hrl,rfl,hx,_⟩:=he
 rw [hnr] at hrl
 match rs,hrl with
 | [v],_=>
 refine ⟨?_,⟨hx.os,hx.tape,hx.output,hx.size,fun b hb=>hx.frame b hb (fun h=>h)⟩⟩
 have h0:=hx.slots 0
 rw [Pj] at h0
 have h1:bP (E0 w hw) (Fw.mk ⟨[(0,.one (.p false false))],[]⟩ [.bool true]) aT w' (.v (.one (.p false false (.bool true)))) v:=h0
 rw [show v=.bool true from h1.dK.kK];rfl
end Go.Fw
namespace Go.Fg
open Go.Fw Go.RowKit
section
variable [RE]
end
end Go.Fg

namespace Go.Fg
open Go.Fw
section
variable [RE]
end
theorem aad {x:Int} (h:-9223372036854775808≤x∧x≤9223372036854775807):jW x=x:=@wrap64 ⟨fun _=>none,fun _ _ _ _=>False,fun _ h=>h⟩ x h.1 h.2
end Go.Fg

namespace Go.Fg
open Go.Fw
section
variable [RE]
end
end Go.Fg

namespace Go.Fg
open Go.Fw Go.RowKit
section
variable {H:Type} {enc:TypeId×Value→H} {P:Program} {w:World} {base:Nat} {spare:Nat→Bool} {held:Bool}
end
section
variable [RE]
theorem VZ {w:World} {ok:Nat→Prop} (k:IntKind) (n:Int):bD w ok (bQ ⟨.int k,n⟩) (.int k n):=.int k n
end
end Go.Fg

