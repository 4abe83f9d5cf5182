/-
  The framework (a machine on plain data that answers as the program does), part 4.
-/
import Derived.Shelf.Slices.Cells
import Derived.Shelf.Slices.Empties
import Derived.Shelf.Slices.Delete
import Derived.Shelf.Spec.SlicesInsertGrow
import Derived.Shelf.Sort.Plain
import Derived.Shelf.Slices.In.SortNone
import Derived.Lib.RowBridge
import Derived.Below
import Derived.OpenShut
import Derived.FnData
import Derived.LaidMore
import Derived.Test.YtapemkmlinejmaaGreatDoorZc
set_option linter.unusedSimpArgs false
set_option linter.unusedVariables false
set_option linter.unusedSectionVars false
namespace Go.Fg
open Go.Fw
section
variable [RE] {o:Nat->TO}
theorem yI :∀{gs:List Nat} {caps:List TW} {r:List (Nat×Nat)},pI gs caps=some r->nP gs (nT caps)=some r
 | [],[],r,h=>h
 | [],_::_,r,h=>by simp [pI] at h
 |_::_,[],r,h=>by simp [pI] at h
 |g::gs,c::cs,r,h=>by
  cases c with
  |box g' off=>
   simp only [pI] at h;obtain ⟨hb,h⟩:=bQ h;have hb:=Q4 hb;subst hb;split at h
   .rename_i r' hr;simp only [nT,bU,nP,yI hr];exact h
   .cases h
  |_=>simp [pI] at h
theorem RY {k:kC} {x:TW} {us:List Wd} {c:Bool×Bool} {gs:List Nat} {r:List (Nat×Nat)} (h:MG o k x=some (us,c,gs,r)) :
  fK (bV o) k.er (bU x)=some (us.map bZ,c,gs,r)/\us.map (·.t)=k.tys:=by
 unfold MG at h;split at h
 .rename_i a i t x;split at h
  .rename_i y a' i' gs' hx;simp only [Q0,Q1] at h;obtain ⟨rfl,rfl,rfl,rfl⟩:=h;exact ⟨by simp only [kC.er,fK,OC hx,Qf,Vv],rfl⟩
  .cases h
 .simp only [Q0,Q1] at h;obtain ⟨rfl,rfl,rfl,rfl⟩:=h;exact ⟨rfl,rfl⟩
 .rename_i g' off' g off;obtain ⟨hb,h⟩:=bQ h;simp only [Q0,Q1] at h;obtain ⟨rfl,rfl,rfl,rfl⟩:=h;obtain ⟨h1,h2⟩:=gV hb;have h1:=Q4 h1;have h2:=Q4 h2;subst h1;subst h2;exact ⟨rfl,rfl⟩
 .rename_i f gs0 f' caps;obtain ⟨hb,h⟩:=bQ h;split at h
  .rename_i r' hr;simp only [Q0,Q1] at h;obtain ⟨rfl,rfl,rfl,rfl⟩:=h;refine ⟨?_,rfl⟩;simp only [kC.er,bU,fK,yI hr];rw [if_pos (Q4 hb)];rfl
  .cases h
 .cases h
theorem MN :∀{ks:List kC} {xs:List TW} {us:List Wd} {c:Bool×Bool} {gs:List Nat} {r:List (Nat×Nat)},pX o ks xs=some (us,c,gs,r)->
  jJ (bV o) (ks.map kC.er) (xs.map bU)=some (us.map bZ,c,gs,r)/\us.map (·.t)=ks.flatMap kC.tys
 | [],[],us,c,gs,r,h=>by
  simp only [pX,Q0,Q1] at h;obtain ⟨rfl,rfl,rfl,rfl⟩:=h;exact ⟨rfl,rfl⟩
 | [],x::xs,us,c,gs,r,h=>by simp [pX] at h
 |k::ks,[],us,c,gs,r,h=>by simp [pX] at h
 |k::ks,x::xs,us,c,gs,r,h=>by
  simp only [pX] at h;split at h
  .rename_i h1 h2;simp only [Q0,Q1] at h;obtain ⟨rfl,rfl,rfl,rfl⟩:=h;obtain ⟨a1,a2⟩:=RY h1;obtain ⟨b1,b2⟩:=MN h2;exact ⟨by simp only [Qf,jJ,a1,b1,XX],by simp only [XX,a2,b2,Z6]⟩
  .cases h
theorem acO {k:kN} {x:TS} {us:List Wd} {c:Bool×Bool} {gs:List Nat} {r:List (Nat×Nat)} (h:Xl o k x=some (us,c,gs,r)) :
  oH (bV o) k.er (bn x)=some (us.map bZ,c,gs,r)/\us.map (·.t)=k.tys:=by
 unfold Xl at h;split at h
 .exact RY h
 .exact MN h
 .cases h
theorem MO (args:List TS) (t:Nat):(args.map bn).getD t .no=bn (args.getD t .no):=by
 simp only [List.getD_eq_getElem?_getD,XN];cases args[t]?<;>rfl
theorem CW {args:List TS} :∀{l:List (Nat×kN)} {us:List Wd} {c:Bool×Bool} {gs:List Nat} {r:List (Nat×Nat)},nC o args l=some (us,c,gs,r)->
  eY (bV o) (args.map bn) (l.map fun p=>(p.1,p.2.er))=some (us.map bZ,c,gs,r)/\us.map (·.t)=l.flatMap fun p=>p.2.tys
 | [],us,c,gs,r,h=>by
  simp only [nC,Q0,Q1] at h;obtain ⟨rfl,rfl,rfl,rfl⟩:=h;exact ⟨rfl,rfl⟩
 |(t,k)::l,us,c,gs,r,h=>by
  simp only [nC] at h;split at h
  .rename_i h1 h2;simp only [Q0,Q1] at h;obtain ⟨rfl,rfl,rfl,rfl⟩:=h;obtain ⟨a1,a2⟩:=acO h1;obtain ⟨b1,b2⟩:=CW h2;rw [<-MO] at a1;exact ⟨by simp only [Qf,eY,a1,b1,XX],by simp only [XX,a2,b2,Z6]⟩
  .cases h
theorem afR {k:kC} {x:TW} {us:List Wd} {c:Bool×Bool} {r:List (Nat×Nat)} (h:ajA k x=some (us,c,r)):Ur k.er (bU x)=some (us.map bZ,c,r)/\us.map (·.t)=k.tys:=by
 unfold ajA at h;split at h
 .rename_i a' i' t a i w;split at h
  .rename_i y hy;simp only [Q0,Q1] at h;obtain ⟨rfl,rfl,rfl⟩:=h;rw [gW hy];exact ⟨rfl,rfl⟩
  .cases h
 .split at h
  .simp only [Q0,Q1] at h;obtain ⟨rfl,rfl,rfl⟩:=h;exact ⟨rfl,rfl⟩
  .cases h
 .simp only [Q0,Q1] at h;obtain ⟨rfl,rfl,rfl⟩:=h;exact ⟨rfl,rfl⟩
 .rename_i g' off' g off;obtain ⟨hb,h⟩:=bQ h;simp only [Q6] at hb;have e1:=Q4 hb.1;have e2:=Q4 hb.2;subst e1;subst e2;injection h with h
  injection h with h1 h
  injection h with h2 h3
  subst h1 h2 h3;exact ⟨rfl,rfl⟩
 .rename_i f gs0 f' caps;obtain ⟨hb,h⟩:=bQ h;split at h
  .rename_i r' hr;simp only [Q0,Q1] at h;obtain ⟨rfl,rfl,rfl⟩:=h;refine ⟨?_,rfl⟩;simp only [kC.er,bU,Ur,yI hr];rw [if_pos (Q4 hb)];rfl
  .cases h
 .cases h
theorem RZ :∀{ks:List kC} {xs:List TW} {us:List Wd} {c:Bool×Bool} {r:List (Nat×Nat)},Jm ks xs=some (us,c,r)->
  Oc (ks.map kC.er) (xs.map bU)=some (us.map bZ,c,r)/\us.map (·.t)=ks.flatMap kC.tys
 | [],[],us,c,r,h=>by
  simp only [Jm,Q0,Q1] at h;obtain ⟨rfl,rfl,rfl⟩:=h;exact ⟨rfl,rfl⟩
 | [],x::xs,us,c,r,h=>by simp [Jm] at h
 |k::ks,[],us,c,r,h=>by simp [Jm] at h
 |k::ks,x::xs,us,c,r,h=>by
  simp only [Jm] at h;split at h
  .rename_i h1 h2;simp only [Q0,Q1] at h;obtain ⟨rfl,rfl,rfl⟩:=h;obtain ⟨a1,a2⟩:=afR h1;obtain ⟨b1,b2⟩:=RZ h2;exact ⟨by simp only [Qf,Oc,a1,b1,XX],by simp only [XX,a2,b2,Z6]⟩
  .cases h
theorem wF :∀{l:List (Nat×iM)} {ren ren':List (Nat×Nat)} {us:List Wd} {c:Bool×Bool},wu o ren l=some (us,c,ren')->
  jG (bV o) ren (l.map fun p=>(p.1,p.2.er))=some (us.map bZ,c,ren')/\us.map (·.t)=l.flatMap fun p=>p.2.tys
 | [],ren,ren',us,c,h=>by
  simp only [wu,Q0,Q1] at h;obtain ⟨rfl,rfl,rfl⟩:=h;exact ⟨rfl,rfl⟩
 |(g',k)::l,ren,ren',us,c,h=>by
  simp only [wu] at h;split at h
  .rename_i g hg;split at h
   .rename_i ks ws hog;split at h
    .rename_i u c1 r1 h1;split at h
     .rename_i u' c2 r2 h2;simp only [Q0,Q1] at h;obtain ⟨rfl,rfl,rfl⟩:=h;obtain ⟨a1,a2⟩:=RZ h1;obtain ⟨b1,b2⟩:=wF h2;have hk:(iM.box ks).er=.box (ks.map kC.er):=rfl;exact ⟨by simp only [Qf,jG,hg,hk,oN hog,a1,b1,XX],by simp only [XX,a2,b2,Z6];rfl⟩
     .cases h
    .cases h
   .rename_i fz a0 i0 e a i e' l' hog;split at h
    .rename_i l2 hl;split at h
     .rename_i u' c2 r2 h2;simp only [Q0,Q1] at h;obtain ⟨rfl,rfl,rfl⟩:=h;obtain ⟨b1,b2⟩:=wF h2;obtain ⟨ee,hl⟩:=oP hl;cases ee;subst hl;refine ⟨?_,by simp only [Qf,b2,Z6];rfl⟩;have hk:(iM.arr fz a0 i0 e).er=.arr fz a0 i0 (size e):=rfl;simp only [Qf,jG,hg,hk,h_ hog,if_true,b1];rfl
     .cases h
    .cases h
   .rename_i a0 i0 e aj a i e' kG l' hole hog;split at h
    .rename_i l2 hl hcb;split at h
     .rename_i u' c2 r2 h2;simp only [Q0,Q1] at h;obtain ⟨rfl,rfl,rfl⟩:=h;obtain ⟨b1,b2⟩:=wF h2;obtain ⟨ee,hl⟩:=oP hl;cases ee;subst hl;have:=oQ hcb;subst this;refine ⟨?_,by simp only [Qf,b2,Z6];rfl⟩;have hk:(iM.aO a0 i0 e aj).er=.aO a0 i0 (size e) (iQ aj):=rfl;have hg':bV o g=.aO a i (size e) (iQ aj) (aG e l2) none:=by simp only [bV,hog,d_]
      simp only [Qf,jG,hg,hk,hg',and_self,if_true,b1];rfl
     .cases h
    .cases h
   .cases h
  .cases h
theorem XC {k:kC} {x:TW} {us:List Wd} {c:Bool×Bool} {gs:List Nat} {r:List (Nat×Nat)} (h:MG o k x=some (us,c,gs,r)):Pl o gs:=by
 unfold MG at h;split at h
 .split at h
  .rename_i hx;simp only [Q0,Q1] at h;obtain ⟨_,_,rfl,_⟩:=h;exact Ve hx
  .cases h
 .simp only [Q0,Q1] at h;obtain ⟨_,_,rfl,_⟩:=h;exact Pl.nil
 .obtain ⟨hb,h⟩:=bQ h;simp only [Q0,Q1] at h;obtain ⟨_,_,rfl,_⟩:=h;exact Pl.nil
 .obtain ⟨hb,h⟩:=bQ h;split at h
  .simp only [Q0,Q1] at h;obtain ⟨_,_,rfl,_⟩:=h;exact Pl.nil
  .cases h
 .cases h
theorem R_ :∀{ks:List kC} {xs:List TW} {us:List Wd} {c:Bool×Bool} {gs:List Nat} {r:List (Nat×Nat)},pX o ks xs=some (us,c,gs,r)->Pl o gs
 | [],[],us,c,gs,r,h=>by
  simp only [pX,Q0,Q1] at h;obtain ⟨_,_,rfl,_⟩:=h;exact Pl.nil
 | [],x::xs,us,c,gs,r,h=>by simp [pX] at h
 |k::ks,[],us,c,gs,r,h=>by simp [pX] at h
 |k::ks,x::xs,us,c,gs,r,h=>by
  simp only [pX] at h;split at h
  .rename_i h1 h2;simp only [Q0,Q1] at h;obtain ⟨_,_,rfl,_⟩:=h;exact (XC h1).append (R_ h2)
  .cases h
theorem FK {args:List TS} :∀{l:List (Nat×kN)} {us:List Wd} {c:Bool×Bool} {gs:List Nat} {r:List (Nat×Nat)},nC o args l=some (us,c,gs,r)->Pl o gs
 | [],us,c,gs,r,h=>by
  simp only [nC,Q0,Q1] at h;obtain ⟨_,_,rfl,_⟩:=h;exact Pl.nil
 |(t,k)::l,us,c,gs,r,h=>by
  simp only [nC] at h;split at h
  .rename_i h1 h2;simp only [Q0,Q1] at h;obtain ⟨_,_,rfl,_⟩:=h;refine Pl.append ?_ (FK h2);unfold Xl at h1;split at h1
   .exact XC h1
   .exact R_ h1
   .cases h1
  .cases h
theorem MP {s:dB} {args:List TS} {c:Gu} (h:wz s o args=some c):Pl o c.u_:=by
 unfold wz at h;split at h
 .rename_i h1;split at h
  .simp only [Q0] at h;subst h;exact FK h1
  .cases h
 .cases h
theorem AL {s:dB} {args:List TS} {c:Gu} (h:wz s o args=some c):g_ s.er (bV o) (args.map bn)=some c.er/\c.ins.map (·.t)=s.pin.tys:=by
 unfold wz at h;split at h
 .rename_i u A gs r h1;split at h
  .rename_i u' I r' h2;simp only [Q0] at h;subst h;obtain ⟨a1,a2⟩:=CW h1;obtain ⟨b1,b2⟩:=wF h2;refine ⟨?_,by simp only [XX,a2,b2,MF.tys]⟩;unfold g_;have a1:eY (bV o) (args.map bn) s.er.pin.slots=_:=a1;have b1:jG (bV o) r s.er.pin.bg=_:=b1;rw [a1];simp only;rw [b1];simp only [Gu.er,XX]
  .cases h
 .cases h
theorem FM (f:Nat->Nat) :∀(caps:List TW),nT (yE f caps)=kR f (nT caps)
 | []=>rfl
 |c::cs=>by cases c<;>simp only [yE,nT,bU,kR,FM f cs]
theorem XD (A I:Bool×Bool) (f:Nat->Nat) (x:TW):bU (ZM A I f x)=Us A I f (bU x):=by cases x<;>simp only [ZM,bU,Us,FM]
theorem Si (A I:Bool×Bool) (f:Nat->Nat) (xs:List TW):(xs.map (ZM A I f)).map bU=(xs.map bU).map (Us A I f):=by
 simp only [VV];exact Wa fun x _=>XD A I f x
theorem afS (A I:Bool×Bool) (f:Nat->Nat) (x:TV):jL (ajB A I f x)=reV A I f (jL x):=by
 cases x<;>simp only [ajB,jL,reV,XD,Si]
theorem afT (A I:Bool×Bool) (f:Nat->Nat) (x:TS):jL (acs A I f x)=WR A I f (bn x):=by
 cases x with
 |v x=>exact afS A I f x
 |jM xs=>simp only [acs,bn,WR,jL,bU]
 |no=>simp only [acs,bn,WR,jL,bU]
theorem O6 (A I:Bool×Bool) (f:Nat->Nat) (x:TO):d_ (OO A I f x)=xk A I f (d_ x):=by
 cases x<;>simp only [OO,d_,xk,Si]
theorem acP (vs:List TV):bn (acu vs)=Zb (vs.map jL):=by
 match vs with
 | []=>rfl
 | [x]=>rfl
 |x::y::vs=>rfl
theorem XE {α β:Type} (g:α->β) (b:Bool) (x y:α):g (bif b then x else y)=if b=true then g x else g y:=by cases b<;>rfl
theorem FP {s:dB} {d:Nat} {c:Gu} {bW:List Wd} (h:bW.map (·.t)=s.aQ.tys) (hpl:Pl o c.u_):(kJ s d o c bW).er=iJ s.er d (bV o) c.er (bW.map bZ):=by
 have hm:=qR h;have hs :∀k,bn ((mkT s.aQ bW).gs k)=(mk s.aQ.er (bW.map bZ)).s k:=fun k=>by rw [<-hm];rfl
 have ho :∀k,d_ ((mkT s.aQ bW).go k)=(mk s.aQ.er (bW.map bZ)).o k:=fun k=>by rw [<-hm];rfl
 have e1:s.er.aQ=s.aQ.er:=rfl;have e2:s.er.aY=s.aY:=rfl;have e3:s.er.aV=s.aV:=rfl;have e4:s.er.dA=s.dA:=rfl;have c1:c.er.A=c.A:=rfl;have c2:c.er.I=c.I:=rfl;have c3:c.er.u_=c.u_:=rfl;have c4:c.er.ren=c.ren:=rfl;unfold kJ iJ jZ.er;rw [e1,e2,e3,e4,c1,c2,c3,c4];generalize mk s.aQ.er (bW.map bZ)=M at hs ho;generalize mkT s.aQ bW=X at hs ho;generalize s.er.mF=L;have k1:bn (acu ((List.range s.dA).map fun k=>acs c.A c.I (callName d s.er c.ren) (X.gs k)))=Zb ((List.range s.dA).map fun k=>WR c.A c.I (callName d s.er c.ren) (M.s k)):=by
  rw [acP,VV];congr 1;refine Wa fun k _ => ?_;simp only [Function.comp,afT,hs]
 have k2:iL (bif L then c.u_.map (lK o) else [])=if L=true then c.u_.map (Fw.aU (bV o)) else []:=by
  rw [XE iL,pG hpl];rfl
 have k3:iL (c.ren.map fun p=>(p.2,bif s.aY.contains p.1 then OO c.A c.I (callName d s.er c.ren) (X.go p.1) else .none))=c.ren.map fun p=>(p.2,if s.aY.contains p.1=true then xk c.A c.I (callName d s.er c.ren) (M.o p.1) else .none):=by
  simp only [iL,VV];refine Wa fun p _ => ?_;simp only [Function.comp,XE d_,O6,ho];rfl
 have k4:iL (s.aV.map fun g=>(callName d s.er c.ren g,OO c.A c.I (callName d s.er c.ren) (X.go g)))=s.aV.map fun g=>(callName d s.er c.ren g,xk c.A c.I (callName d s.er c.ren) (M.o g)):=by
  simp only [iL,VV];refine Wa fun p _ => ?_;simp only [Function.comp,O6,ho]
 simp only [lu,k1,k2,k3,k4]
theorem zq (ts:List Ty) :∀{ws:List Wd} {x:Tup ts},Tup.ofL ts ws=some x->Tup.kE ts x=ws:=by
 induction ts with
 |nil=>
  intro ws x h;cases ws with
  |nil=>rfl
  |cons w ws=>cases h
 |cons t ts ih=>
  cases ts with
  |nil=>
   intro ws x h;cases ws with
   |nil=>cases h
   |cons w ws=>
    cases ws with
    |nil=>
     have h:w.Bh t=some x:=h;rw [gW h];rfl
    |cons u ws=>cases h
  |cons u ts=>
   intro ws x h;cases ws with
   |nil=>cases h
   |cons w ws=>
    have h:(match w.Bh t,Tup.ofL (u::ts) ws with | some x,some xs=>some (x,xs) | _,_=>none)=some x:=h;split at h
    .rename_i y ys h1 h2;cases h;show (⟨t,y⟩:Wd)::Tup.kE (u::ts) ys=w::ws;rw [ih h2,gW h1]
    .cases h
theorem qU :∀(ts:List Ty) (x:Tup ts),(Tup.kE ts x).map (·.t)=ts
 | [],x=>rfl
 | [t],x=>rfl
 |t::u::ts,x=>by simp only [Tup.kE,Qf,qU (u::ts)]
def aW.er (s:aW):Fw.Spec:={ sig:=s.sig.er,R:=fun ins bW =>∃x y,s.ff x=some y/\ins=(Tup.kE s.sig.pin.tys x).map bZ/\bW=(Tup.kE s.sig.aQ.tys y).map bZ }
theorem Sj {A R:Type} {x y:A} {r:Option R} {z:R} (h:yD x y r=some z):x=y/\r=some z:=by
 unfold yD at h;split at h
 .rename_i e;exact ⟨e,h⟩
 .cases h
theorem AO {R:Type} {a b:Nat->TO} {r z:R} :∀{gs:List Nat},Jl a b r gs=some z->r=z/\∀g∈gs,rV (d_ (b g))=rV (d_ (a g))
 | [],h=>by simp only [Jl,Q0] at h;exact ⟨h,fun g hg=>by cases hg⟩
 |g::gs,h=>by
  simp only [Jl] at h;split at h
  .rename_i e l _ _ e' l' h1 h2;split at h
   .rename_i l'' hl;obtain ⟨e1,h⟩:=Sj h;obtain ⟨q1,q2⟩:=AO h;refine ⟨q1,fun g' hg => ?_⟩;rcases QP.1 hg with rfl | hg
    .rw [h1,h2];subst e1;obtain ⟨ee,hl⟩:=oP hl;cases ee;subst hl;rfl
    .exact q2 g' hg
   .cases h
  .rename_i e aj l _ _ e' kG l' h1 h2;split at h
   .rename_i l'' hl hcb;obtain ⟨e1,h⟩:=Sj h;obtain ⟨q1,q2⟩:=AO h;refine ⟨q1,fun g' hg => ?_⟩;rcases QP.1 hg with rfl | hg
    .rw [h1,h2];subst e1;obtain ⟨ee,hl⟩:=oP hl;cases ee;subst hl;have:=oQ hcb;subst this;rfl
    .exact q2 g' hg
   .cases h
  .cases h
theorem O7 {s:aW} {x:Tup s.sig.pin.tys} {y:Tup s.sig.aQ.tys} (h:s.ff x=some y):s.f x=some y/\∀g∈s.sig.kept,rV (d_ ((mkT s.sig.aQ (Tup.kE s.sig.aQ.tys y)).go g))=rV (d_ ((mkT s.sig.pin (Tup.kE s.sig.pin.tys x)).go g)):=by
 obtain ⟨⟨na,pin,aQ,nr,aY,aV,kept⟩,f⟩:=s;cases kept with
 |nil=>exact ⟨h,fun g hg=>by cases hg⟩
 |cons g0 gs=>
  have h:(f x).bind (fun y=>Jl (mkT pin (Tup.kE pin.tys x)).go (mkT aQ (Tup.kE aQ.tys y)).go y (g0::gs))=some y:=h;cases hf:f x with
  |none=>rw [hf] at h;cases h
  |some z=>
   rw [hf] at h;obtain ⟨e,h2⟩:=AO h;subst e;exact ⟨hf,h2⟩
theorem MQ (same:List Nat) :∀(l:List (Nat×TO)),iL (MH same l)=(iL l).filter fun p=>!same.contains p.1
 | []=>rfl
 |(g,x)::r=>by
  have ih:=MQ same r;simp only [MH];have e:iL ((g,x)::r)=(g,d_ x)::iL r:=rfl;rw [e,vl,<-bT];cases h:fM g same with
  |true=>simp only [Bool.not_true,W4,if_false];exact ih
  |false=>
   simp only [ve,if_true];show (g,d_ x)::iL (MH same r)=_;rw [ih]
def JC (s:dB) (d:Nat) (o:Nat->TO) (c:Gu) (bW:List Wd):List Nat:=match s.kept with
 | []=>[]
 |_::_=>CO s o (fun g'=>OO c.A c.I (callName d s.er c.ren) ((mkT s.aQ bW).go g')) c.ren
theorem O8 {s:dB} {d:Nat} {o:Nat->TO} {c:Gu} {bW:List Wd}:(zo s d o c bW).er=BP (JC s d o c bW) (kJ s d o c bW).er:=by
 obtain ⟨na,pin,aQ,nr,aY,aV,kept⟩:=s;cases kept with
 |nil=>
  show (kJ _ d o c bW).er=BP [] _;have :∀(e:Eff),e=BP [] e:=fun e=>by
   unfold BP;have:e.aJ.filter (fun p=>!([]:List Nat).contains p.1)=e.aJ:=List.filter_eq_self.2 fun p _=>rfl;rw [this]
  exact this _
 |cons g0 gs=>
  unfold zo BP JC jZ.er;simp only [MQ]
theorem MR {a b:Bool} (h:ajC a b=true):a=b:=by cases a<;>cases b<;>first | rfl | cases h
theorem FQ {x:TO} {a i:Bool} (h:Vu x=some (a,i)):tu (d_ x)=(a,i)/\UN (d_ x)=true:=by
 cases x with
 |arr fz a' i' e l=>cases fz<;>cases h;exact ⟨rfl,rfl⟩
 |aO a' i' e aj l hole=>cases hole<;>cases h;exact ⟨rfl,rfl⟩
 |_=>cases h
theorem JD {s:dB} {o f:Nat->TO} {g:Nat} :∀{r:List (Nat×Nat)},g∈CO s o f r->∃g',(g',g)∈r/\g'∈s.kept/\s.aY.contains g'=true/\tu (d_ (f g'))=tu (d_ (o g))/\UN (d_ (o g))=true
 | [],h=>by cases h
 |(g1',g1)::r,h=>by
  simp only [CO] at h;have old:g∈CO s o f r->∃g',(g',g)∈(g1',g1)::r/\g'∈s.kept/\s.aY.contains g'=true/\tu (d_ (f g'))=tu (d_ (o g))/\UN (d_ (o g))=true:=fun h=>
   let ⟨g',h1,h2⟩:=JD h
   ⟨g',Vi _ h1,h2⟩
  split at h
  .rename_i a i a' i' k1 k2 k3;split at h
   .rename_i k4;rcases QP.1 h with rfl | h
    .obtain ⟨e1,e2⟩:=gV k4;have e1:=MR e1;have e2:=MR e2;subst e1;subst e2;obtain ⟨m1,m2⟩:=gV k1;obtain ⟨f1,f2⟩:=FQ k2;obtain ⟨f3,_⟩:=FQ k3;rw [bT] at m1;exact ⟨g1',by simp,by simpa using m1,m2,by rw [f1,f3],f2⟩
    .exact old h
   .exact old h
  .exact old h
theorem Sl {sp:aW} (hok:sp.sig.er.ok=true) {d:Nat} {o:Nat->TO} {args:List S} {c:Gu} (hc:g_ sp.sig.er (bV o) args=some c.er) (hf:c.er.fine sp.sig.er=true) {x:Tup sp.sig.pin.tys} {y:Tup sp.sig.aQ.tys} (hx:Tup.kE sp.sig.pin.tys x=c.ins) (hy:sp.ff x=some y) :
  ∀g∈JC sp.sig d o c (Tup.kE sp.sig.aQ.tys y),g∈c.er.ren.map (·.2)/\(iJ sp.sig.er d (bV o) c.er ((Tup.kE sp.sig.aQ.tys y).map bZ)).aJ.lookup g=some (bV o g):=by
 intro g hg;have hg:g∈CO sp.sig o (fun g'=>OO c.A c.I (callName d sp.sig.er c.ren) ((mkT sp.sig.aQ (Tup.kE sp.sig.aQ.tys y)).go g')) c.ren:=by
  unfold JC at hg;split at hg
  .cases hg
  .exact hg
 obtain ⟨g',h1,h2,h3,h4,h5⟩:=JD hg;have hp:(g',g)∈c.er.ren:=h1;refine ⟨QQ.2 ⟨(g',g),hp,rfl⟩,?_⟩;have e1:d_ ((mkT sp.sig.aQ (Tup.kE sp.sig.aQ.tys y)).go g')=(Fw.mk sp.sig.er.aQ ((Tup.kE sp.sig.aQ.tys y).map bZ)).o g':=congrArg (fun s=>s.o g') (qR (qU _ y));have e2:d_ ((mkT sp.sig.pin (Tup.kE sp.sig.pin.tys x)).go g')=(Fw.mk sp.sig.er.pin c.er.ins).o g':=by
  have:=congrArg (fun s=>s.o g') (qR (qU _ x));rw [hx] at this ⊢;exact this
 refine Zi hok hc hf hp h3 ?_ h5 ?_
 .rw [<-e1,<-e2];exact (O7 hy).2 g' h2
 .rw [O6] at h4;rw [<-e1];exact h4
def nI (T:mJ):Tab:=fun f=>(T f).map aW.er
theorem yJ (l:List (Nat×TO)) :∀(u:List (Nat×TO)) (g:Nat),jm .none (Ei l u) g=match u.lookup g with | some x=>x | none=>jm .none l g
 | [],g=>rfl
 |(k,x)::u,g=>by
  simp only [Ei,oU,List.lookup,GX,yJ l u g];cases h:Nat.beq g k<;>rfl
theorem Eo (q:jg) (dst:Option Tmp) (e:jZ):aT (q.eff dst e).st=(aT q.st).eff dst e.er:=by
 have ho :∀g,d_ (jm .none (Ei q.st.o e.aJ) g)=match (iL e.aJ).lookup g with | some x=>x | none=>d_ (jm .none q.st.o g):=fun g=>by
  rw [yJ];have:(iL e.aJ).lookup g=(e.aJ.lookup g).map d_:=pK d_ g e.aJ;rw [this];cases e.aJ.lookup g<;>rfl
 have hu :∀g,fM g (e.new++q.st.u)=(e.new.contains g||fM g q.st.u):=fun g=>by simp [bT]
 cases dst with
 |none=>
  refine St.ext' (fun t=>rfl) (fun g => ?_) fun g => ?_
  .exact ho g
  .exact hu g
 |some d=>
  refine St.ext' (fun t => ?_) (fun g => ?_) fun g => ?_
  .show bn (jm .no (xq d e.x q.st.s) t)=bif Nat.beq t d then bn e.x else bn (jm .no q.st.s t)
   rw [oU];cases Nat.beq t d<;>rfl
  .exact ho g
  .exact hu g
end
end Go.Fg

namespace Go.Fg
open Go.Fw
section
variable [eP]
theorem Ep {T:Tab} {tt:TT} {N:Nat} {ops:Array Oper} {o:Oper} {st:St} {K K':Eff->Prop} (hK :∀e,K e->K' e) (h:stepW T tt N ops o st K):stepW T tt N ops o st K':=by
 unfold stepW at *;refine ⟨h.1,?_⟩;have h:=h.2;split at h
 .exact oI (fun e he=>⟨he.1,hK e he.2⟩) h
 .split at h
  .rename_i b hb;cases b with
   |true=>
    simp only [cond_true] at h ⊢;exact oI (fun e he=>⟨he.1,hK e he.2⟩) h
   |false=>exact hK _ h
  .exact h
theorem JE {T:Tab} {tt:TT} {N:Nat} {ops:Array Oper} {o:Oper} {st:St} {K K':Eff->Prop} (hK :∀e,K e->K' e) (h:B_ T tt N ops o st K):B_ T tt N ops o st K':=by
 unfold B_ at *;split at h
 .exact ⟨h.1,fun b hb=>hK _ (h.2 b hb)⟩
 .split at h
  .exact ⟨h.1,fun hb=>hK _ (h.2.1 hb),fun hb=>hK _ (h.2.2 hb)⟩
  .exact Ep hK h
end
theorem afU {R:Type} {b:Bool} {x:Option R} {r:R} (h:ck b x=some r):b=true/\x=some r:=by
 cases b
 .cases h
 .exact ⟨rfl,h⟩
theorem ZO {R:Type} {x y:Option R} {r:R} (h:both x y=some r):x=some r/\y=some r:=by
 unfold both at h;split at h
 .rename_i e;exact ⟨h,e▸h⟩
 .cases h
section
variable [RE]
theorem XF {R:Type} {b:Bool} {x:Prog R} {r:R} (h:(Prog.chk b x).run=some r):b=true/\x.run=some r:=afU h
theorem acQ {A B R:Type} {n:Nat} {f:A->Option B} {a:A} {k:B->Prog R} {r:R} (h:(Prog.call n f a k).run=some r) :∃y,f a=some y/\(k y).run=some r:=by
 have h:(f a).bind (fun z=>(k z).run)=some r:=h;cases hf:f a with
 |none=>rw [hf] at h;cases h
 |some y=>rw [hf] at h;exact ⟨y,rfl,h⟩
theorem bf {R:Type} {n:Nat} {r:R} (h:(Prog.stuck n:Prog R).run=some r):False:=by cases h
theorem CX (st:jH):(aT st).dJ=fun x=>bn (st.dJ x):=funext (nV st)
theorem acR (x:TS):alz (bn x)=acy x:=by
 cases x with
 |v x=>cases x with
  |one x=>cases x<;>rfl
  |agg xs=>rfl
 |jM xs=>rfl
 |no=>rfl
theorem MS :∀l:List TS,WT (l.map bn)=Jo l
 | []=>rfl
 |x::l=>by
  simp only [Qf,WT,Jo,acR x,MS l];cases acy x<;>rfl
theorem JG {T:mJ} {fn:Nat} {st:jH} {args:List Operand}:pick (nI T) fn (args.map (aT st).dJ)=(Xm T fn (args.map st.dJ)).map aW.er:=by
 have e:args.map (aT st).dJ=(args.map st.dJ).map bn:=by rw [CX,VV];rfl
 have ek:QC fn ((args.map st.dJ).map bn)=Ej fn (args.map st.dJ):=by
  unfold QC Ej;rw [MS];cases Jo (args.map st.dJ)<;>rfl
 rw [e];unfold pick Xm;rw [ek];cases Nat.blt fn 1000000 with
 |false=>rfl
 |true=>
  simp only [nI];cases T (Ej fn (args.map st.dJ))<;>rfl
theorem XG {x:TS} {fn:FuncId} {caps:List TW} (h:x=.v (.one (.clo fn caps))):bn x=.v (.one (.clo fn (caps.map bU))):=by
 subst h;simp only [bn,jL,bU,zi]
theorem JH (st:jH) (args:List Operand) (caps:List TW) :
  (args.map (aT st).dJ)++(caps.map bU).map (fun x=>S.v (.one x))=((args.map st.dJ)++caps.map fun x=>TS.v (.one x)).map bn:=by
 simp only [XX,VV,CX];rfl
theorem acS {R:Type} {T:mJ} {tt:TT} {ety:TypeId->Option Ty} {d:Nat} {st:jH} {o:Oper} {K:jZ->Prog R} {r:R} (h:(ZN T tt ety d st o K).run=some r) :
  jk (nI T) tt d (aT st) o fun e =>∃te:jZ,e=te.er/\(K te).run=some r:=by
 have plain :∀op,(match jC tt ety d st.go st.dJ op o.type with
   |some r=>Prog.chk r.pre (.let_ r.val fun z=>K { x:=r.dst z,aJ:=r.aJ z,new:=r.new })
   |none=>match dU tt ety d st.go st.dJ op o.type with
    |some r=>Prog.chk r.pre (.let_ r.val fun z=>K { x:=r.dst z,aJ:=r.aJ z,new:=r.new })
    |none=>.stuck 16).run=some r->(∃dc r',dW tt dc d (aT st).o (aT st).dJ op o.type=some r'/\r'.pre/\Qd r'.val fun z =>∃te:jZ,({ x:=r'.dst z,aJ:=r'.aJ z,new:=r'.new }:Eff)=te.er/\(K te).run=some r)\/(match kernel tt d (aT st).o (aT st).dJ op o.type with
   |some r'=>r'.pre/\bif EY op then Qd r'.val fun z=>(∃te:jZ,({ x:=r'.dst z,aJ:=r'.aJ z,new:=r'.new }:Eff)=te.er/\(K te).run=some r) else (∃te:jZ,({ x:=r'.dst r'.val,aJ:=r'.aJ r'.val,new:=r'.new }:Eff)=te.er/\(K te).run=some r)
   |none=>False):=by
  intro op h;split at h
  .rename_i rr hk;obtain ⟨h1,h2⟩:=XF h;obtain ⟨dc,r',hk',hs⟩:=RD op rr hk;refine .inl ⟨dc,r',by rw [CX];exact hk',hs.pre h1,Qd.iff.2 ⟨{ x:=rr.dst rr.val,aJ:=rr.aJ rr.val,new:=rr.new },?_,h2⟩⟩;simp only [jZ.er,hs.dst,hs.aJ,hs.new]
  refine .inr ?_;split at h
  .rename_i rr hk;obtain ⟨h1,h2⟩:=XF h;obtain ⟨r',hk',hs,hn⟩:=Vo op rr hk;have hs:=hs h1;have hk':kernel tt d (aT st).o (aT st).dJ op o.type=some r':=by rw [CX];exact hk'
   rw [hk'];refine ⟨hs.pre h1,?_⟩;have key :∃te:jZ,({ x:=r'.dst r'.val,aJ:=r'.aJ r'.val,new:=r'.new }:Eff)=te.er/\(K te).run=some r:=
    ⟨{ x:=rr.dst rr.val,aJ:=rr.aJ rr.val,new:=rr.new },by simp only [jZ.er,hs.dst,hs.aJ,hn],h2⟩
   cases EY op with
   |true=>exact Qd.iff.2 key
   |false=>exact key
  .exact (bf h).elim
 unfold ZN at h;unfold jk;split at h
 .rename_i f args ts hop;rw [hop];simp only;split at h
  .rename_i fn caps hf;have hf':=XG hf;rw [nV,hf'];simp only;split at h
   .rename_i sp hT;have hT':pick (nI T) fn (args.toList.map (aT st).dJ)=some sp.er:=by rw [JG,hT];rfl
    rw [hT'];simp only;split at h
    .rename_i c hc;obtain ⟨k1,k2⟩:=AL hc;have k1:g_ sp.er.sig (aT st).o ((args.toList.map (aT st).dJ)++(caps.map bU).map fun x=>S.v (.one x))=some c.er:=by
      rw [JH];exact k1
     rw [k1];simp only;split at h
     .rename_i Xc;split at h
      .rename_i x hx;split at h
       rotate_left
       .exact (bf h).elim
       rename_i apL;obtain ⟨y,hy,h⟩:=acQ h;obtain ⟨f1,f2⟩:=gV Xc;refine ⟨?_,(Tup.kE sp.sig.aQ.tys y).map bZ,JC sp.sig d st.go c (Tup.kE sp.sig.aQ.tys y),⟨x,y,hy,?_,rfl⟩,Sl apL k1 f1 (zq _ hx) hy,zo sp.sig d st.go c (Tup.kE sp.sig.aQ.tys y),?_,h⟩
       .have f2:=Q4 f2;simp only [Q6,decide_eq_true_eq,W2];exact ⟨f1,f2⟩
       .rw [zq _ hx];rfl
       .rw [O8];exact congrArg _ (FP (qU _ _) (MP hc)).symm
      .exact (bf h).elim
     .exact (bf h).elim
    .exact (bf h).elim
   .exact (bf h).elim
  .exact (bf h).elim
 .rename_i hno;have h:=plain _ h;split
  .rename_i f args ts hop;exact (hno _ _ _ hop).elim
  .exact h
structure qV (q q':jg):Prop where
 s :∀t,hasK t q'.st.s=true->fM t q'.ds=false->hasK t q.st.s=true/\fM t q.ds=false/\q'.st.gs t=q.st.gs t
 o :∀g,hasK g q'.st.o=true->fM g q'.od=false->hasK g q.st.o=true/\fM g q.od=false/\q'.st.go g=q.st.go g
theorem qV.refl (q:jg):qV q q:=⟨fun t h1 h2=>⟨h1,h2,rfl⟩,fun t h1 h2=>⟨h1,h2,rfl⟩⟩
theorem qV.trans {a b c:jg} (h1:qV a b) (h2:qV b c):qV a c:=
 ⟨fun t k1 k2=>let ⟨x1,x2,x3⟩:=h2.s t k1 k2;let ⟨y1,y2,y3⟩:=h1.s t x1 x2;⟨y1,y2,x3.trans y3⟩,
  fun t k1 k2=>let ⟨x1,x2,x3⟩:=h2.o t k1 k2;let ⟨y1,y2,y3⟩:=h1.o t x1 x2;⟨y1,y2,x3.trans y3⟩⟩
theorem uN {α:Type} (k:Nat) (v:α) (t:Nat) :∀(l:List (Nat×α)),hasK t (xq k v l)=(Nat.beq t k||hasK t l)
 | []=>by simp [xq,hasK]
 |(k',v')::r=>by
  simp only [xq];cases h:Nat.beq k k' with
  |true=>
   have e:=Q4 h;subst e;simp only [cond_true,hasK];cases Nat.beq t k<;>simp
  |false=>
   simp only [cond_false,hasK,uN k v t r];cases Nat.beq t k<;>cases Nat.beq t k'<;>simp
theorem uO {α:Type} (d:α) :∀(l:List (Nat×α)) (t:Nat),hasK t l=false->jm d l t=d
 | [],t,_=>rfl
 |(k,v)::r,t,h=>by
  simp only [hasK,Vn] at h;simp only [jm,h.1,cond_false];exact uO d r t h.2
theorem Sm (l:List (Nat×TO)) (g:Nat) :∀(u:List (Nat×TO)),hasK g (Ei l u)=(fM g (u.map (·.1))||hasK g l)
 | []=>rfl
 |(k,x)::u=>by simp only [Ei,uN,Sm l g u,Qf,fM,Bool.or_assoc]
theorem wU {α:Type} (g:Nat) :∀{u:List (Nat×α)},fM g (u.map (·.1))=false->u.lookup g=none
 | [],_=>rfl
 |(k,x)::u,h=>by
  simp only [Qf,fM,Vn] at h;simp only [List.lookup,GX,h.1];exact wU g h.2
theorem qV.eff (q:jg) (dst:Option Tmp) (e:jZ):qV q (q.eff dst e):=by
 refine ⟨fun t h1 h2 => ?_,fun g h1 h2 => ?_⟩
 .cases dst with
  |none=>exact ⟨h1,h2,rfl⟩
  |some d=>
   have h2:fM t (d::q.ds)=false:=h2;have h1:hasK t (xq d e.x q.st.s)=true:=h1;simp only [fM,Vn] at h2;rw [uN,h2.1,J1] at h1;refine ⟨h1,h2.2,?_⟩;show jm .no (xq d e.x q.st.s) t=jm .no q.st.s t;rw [oU,h2.1];rfl
 .have h1:hasK g (Ei q.st.o e.aJ)=true:=h1;have h2:fM g (e.aJ.map (·.1)++q.od)=false:=h2;rw [bT] at h2;simp only [qq,Vn] at h2;rw [<-bT,<-bT] at h2;rw [Sm,h2.1,J1] at h1;refine ⟨h1,h2.2,?_⟩;show jm .none (Ei q.st.o e.aJ) g=jm .none q.st.o g;rw [yJ,wU g h2.1]
theorem XH {q:jg} {t:Tmp} {a i b:Bool} (h:q.st.gs t=.v (.one (.p a i (iU b)))) (u:Nat):(q.know t a i b).st.gs u=q.st.gs u:=by
 show jm .no (xq t (.v (.one (.p a i (iU b)))) q.st.s) u=jm .no q.st.s u;rw [oU];cases hb:Nat.beq u t with
 |false=>rfl
 |true=>
  have e:=Q4 hb;subst e;exact h.symm
theorem acT {q:jg} {t:Tmp} {a i b:Bool} (h:q.st.gs t=.v (.one (.p a i (iU b)))) (u:Nat):hasK u (q.know t a i b).st.s=hasK u q.st.s:=by
 show hasK u (xq t (.v (.one (.p a i (iU b)))) q.st.s)=hasK u q.st.s;rw [uN];cases hb:Nat.beq u t with
 |false=>rfl
 |true=>
  have e:=Q4 hb;subst e;cases hk:hasK u q.st.s with
  |true=>rfl
  |false=>
   have:=uO TS.no q.st.s u hk;rw [jH.gs] at h;rw [this] at h;cases h
theorem yK {q:jg} {t:Tmp} {a i b:Bool} (h:q.st.gs t=.v (.one (.p a i (iU b)))):aT (q.know t a i b).st=aT q.st:=
 St.ext' (fun u=>by show bn _=bn _;rw [XH h]) (fun g=>rfl) fun g=>rfl
theorem yL {q:jg} {t:Tmp} {a i b:Bool} (h:q.st.gs t=.v (.one (.p a i (iU b)))):qV q (q.know t a i b):=
 ⟨fun u h1 h2=>⟨by rw [<-acT h];exact h1,h2,XH h u⟩,fun g h1 h2=>⟨h1,h2,rfl⟩⟩
theorem Sr {q:jg} {t:Tmp} {a i:Bool} {k:IntKind} {n:Int} (h:q.st.gs t=.v (.one (.p a i (iR k n)))) (u:Nat):(q.RH t a i k n).st.gs u=q.st.gs u:=by
 show jm .no (xq t (.v (.one (.p a i (iR k n)))) q.st.s) u=jm .no q.st.s u;rw [oU];cases hb:Nat.beq u t with
 |false=>rfl
 |true=>
  have e:=Q4 hb;subst e;exact h.symm
theorem ZP {q:jg} {t:Tmp} {a i:Bool} {k:IntKind} {n:Int} (h:q.st.gs t=.v (.one (.p a i (iR k n)))) (u:Nat):hasK u (q.RH t a i k n).st.s=hasK u q.st.s:=by
 show hasK u (xq t (.v (.one (.p a i (iR k n)))) q.st.s)=hasK u q.st.s;rw [uN];cases hb:Nat.beq u t with
 |false=>rfl
 |true=>
  have e:=Q4 hb;subst e;cases hk:hasK u q.st.s with
  |true=>rfl
  |false=>
   have:=uO TS.no q.st.s u hk;rw [jH.gs] at h;rw [this] at h;cases h
theorem ZQ {q:jg} {t:Tmp} {a i:Bool} {k:IntKind} {n:Int} (h:q.st.gs t=.v (.one (.p a i (iR k n)))):aT (q.RH t a i k n).st=aT q.st:=
 St.ext' (fun u=>by show bn _=bn _;rw [Sr h]) (fun g=>rfl) fun g=>rfl
theorem ZR {q:jg} {t:Tmp} {a i:Bool} {k:IntKind} {n:Int} (h:q.st.gs t=.v (.one (.p a i (iR k n)))):qV q (q.RH t a i k n):=
 ⟨fun u h1 h2=>⟨by rw [<-ZP h];exact h1,h2,Sr h u⟩,fun g h1 h2=>⟨h1,h2,rfl⟩⟩
theorem Sv {R:Type} {v:Int} {k:Int->Prog R} {r:R} :∀(n m:Nat),(Xo v k m n).run=some r->(k v).run=some r
 |0,_,h=>(bf h).elim
 |1,m,h=>by
  have h:ck (eqI v (Int.ofNat m)) (k (Int.ofNat m)).run=some r:=h;cases hb:eqI v (Int.ofNat m) with
  |true=>
   rw [hb] at h;have e:v=Int.ofNat m:=of_decide_eq_true hb;rw [e];exact h
  |false=>rw [hb] at h;cases h
 |n+2,m,h=>by
  have h:(bif eqI v (Int.ofNat m) then (k (Int.ofNat m)).run else (Xo v k (m+1) (n+1)).run)=some r:=h;cases hb:eqI v (Int.ofNat m) with
  |true=>
   rw [hb] at h;have e:v=Int.ofNat m:=of_decide_eq_true hb;rw [e];exact h
  |false=>rw [hb] at h;exact Sv (n+1) (m+1) h
theorem acU {tt:TT} {st:jH} {t:TypeId} {x:Operand} {j:Tmp} {a i:Bool} {k:IntKind} {v:Int} {n:Nat} (h:acz tt st t x j=some (a,i,k,v,n)):st.gs j=.v (.one (.p a i (iR k v))):=by
 have key :∀{y:TS} {m:Nat},(match y with
   |.v (.one (.p a i ⟨.int k,v⟩))=>bif Nat.ble m 4 then some (a,i,k,v,m) else none
   |_=>none)=some (a,i,k,v,n)->y=.v (.one (.p a i (iR k v))):=by
  intro y m h;split at h
  .cases hb:Nat.ble m 4 with
   |true=>
    rw [hb] at h;simp only [cond_true,Q0,Q1] at h;obtain ⟨rfl,rfl,rfl,rfl,rfl⟩:=h;rfl
   |false=>rw [hb] at h;cases h
  .cases h
 unfold acz at h;split at h
 .split at h
  .exact key h
  .exact key h
  .exact key h
  .cases h
 .cases h
theorem afV {tt:TT} {st:jH} {o:Oper} {t:Tmp} {a i:Bool} {k:IntKind} {v:Int} {n:Nat} (h:ajD tt st o=some (t,a,i,k,v,n)):st.gs t=.v (.one (.p a i (iR k v))):=by
 unfold ajD at h;split at h
 .split at h
  .rename_i r hr;simp only [Q0,Q1] at h;obtain ⟨rfl,rfl⟩:=h;exact acU hr
  .cases h
 .cases h
theorem AP {u:List Nat} :∀{gs:List Nat},yF u gs=true->(gs.all fun g=>!fM g u)=true
 | [],_=>rfl
 |g::gs,h=>by
  simp only [yF,Q6] at h;simp only [List.all_cons,Q6];exact ⟨h.1,AP h.2⟩
theorem AQ {N:Nat} :∀(dst:Option Tmp),Xn N dst=true->(match dst with | some d=>decide (d<N) | none=>true)=true
 |none,_=>rfl
 |some d,h=>decide_eq_true (W3 h)
def XI {R:Type} (q:jg) (K:jg->jZ->Prog R) (r:R) (e:Eff):Prop :=∃(q':jg) (te:jZ),e=te.er/\aT q'.st=aT q.st/\qV q q'/\(K q' te).run=some r
theorem O9 {R:Type} {T:mJ} {tt:TT} {ety:TypeId->Option Ty} {d:Nat} {q0 q:jg} {o:Oper} {K:jg->jZ->Prog R} {r:R} (he:aT q.st=aT q0.st) (hr:qV q0 q)
  (h:(ZN T tt ety d q.st o fun e=>match yF q.st.u e.new with | true=>K q e | false=>.stuck 21).run=some r) :
  jk (nI T) tt d (aT q0.st) o fun e=>(e.new.all fun g=>!(aT q0.st).used g)=true/\XI q0 K r e:=by
 have h:=acS h;rw [he] at h;refine oI ?_ h;rintro e ⟨te,rfl,h⟩;split at h
 .rename_i hf;refine ⟨?_,q,te,rfl,he,hr,h⟩;rw [<-he];exact AP hf
 .exact (bf h).elim
theorem Sz {R:Type} {T:mJ} {tt:TT} {ety:TypeId->Option Ty} {N:Nat} {ops:Array Oper} {o:Oper} {q:jg} {K:jg->jZ->Prog R} {r:R} (h:(stepT T tt ety N ops o q K).run=some r) :
  stepW (nI T) tt N ops o (aT q.st) (XI q K r):=by
 unfold stepT at h;split at h
 .exact (bf h).elim
 .rename_i hd;unfold stepW;refine ⟨AQ _ hd,?_⟩;split at h
  .rename_i hg;rw [hg];split at h
   .exact O9 rfl (qV.refl q) h
   .rename_i t a i k v n hs;have h:=Sv _ _ h;simp only [oV] at h;have hgs:=afV hs;exact O9 (ZQ hgs) (ZR hgs) h
  .rename_i j want hg;rw [hg];simp only;split at h
   .exact (bf h).elim
   .rename_i t ht;have:guardOf ops (aT q.st) j want=some false:=by
     unfold Vx at ht;split at ht
     .rename_i t' ht';split at ht
      .cases ht
      .rename_i hs;simp only [guardOf,ht'];show (match bn (q.st.gs t') with | .v (.one (.p _ _ (.bool b)))=>_ | .jM []=>_ | _=>_)=_;rw [hs];rfl
      .cases ht
     .cases ht
    rw [this];exact ⟨q,jZ.skip,rfl,rfl,qV.refl q,h⟩
   .rename_i t a i b ht;have hb:q.st.gs t=.v (.one (.p a i (iU b)))/\guardOf ops (aT q.st) j want=some (bif want then b else !b):=by
     unfold Vx at ht;split at ht
     .rename_i t' ht';split at ht
      .rename_i a' i' b' hs;simp only [Q0,Q1] at ht;obtain ⟨rfl,rfl,rfl,rfl⟩:=ht;refine ⟨hs,?_⟩;simp only [guardOf,ht'];show (match bn (q.st.gs t') with | .v (.one (.p _ _ (.bool b)))=>_ | .jM []=>_ | _=>_)=_;rw [hs];rfl
      .cases ht
      .cases ht
     .cases ht
    obtain ⟨hgs,hgd⟩:=hb;rw [hgd];simp only;have h:(bif b then _ else _:Option R)=some r:=h;cases b with
    |true=>
     have h:(frX (q.know t a i true) fun q=>bif want then _ else K q jZ.skip).run=some r:=h;rw [oV] at h;cases want with
     |true=>exact O9 (yK hgs) (yL hgs) h
     |false=>exact ⟨_,jZ.skip,rfl,yK hgs,yL hgs,h⟩
    |false=>
     have h:(frX (q.know t a i false) fun q=>bif want then K q jZ.skip else _).run=some r:=h;rw [oV] at h;cases want with
     |true=>exact ⟨_,jZ.skip,rfl,yK hgs,yL hgs,h⟩
     |false=>exact O9 (yK hgs) (yL hgs) h
end
end Go.Fg

namespace Go.Fg
open Go.Fw
section
variable [eP]
theorem yM {T:Tab} {tt:TT} {N:Nat} {ops:Array Oper} {K K':St->Prop} (hK :∀st,K st->K' st) :∀{is:List Nat} {st:St},vW T tt N ops is st K->vW T tt N ops is st K'
 | [],st,h=>hK st h
 |i::is,st,h=>by
  simp only [vW] at h ⊢;split at h
  .exact JE (fun e he=>yM hK he) h
  .exact h
theorem wG {T:Tab} {tt:TT} {N:Nat} {ops:Array Oper} {K K':St->List tC->Prop} (hK :∀st fs,K st fs->K' st fs) :∀{is:List Nat} {st:St} {fs:List tC},oZ T tt N ops is st fs K->oZ T tt N ops is st fs K'
 | [],st,fs,h=>hK st fs h
 |i::is,st,fs,h=>by
  simp only [oZ] at h ⊢;split at h
  .exact Ep (fun e he=>wG hK he) h
  .exact h
end
section
variable [RE]
def OT.ok (c:OT) (b:Bool):Prop:=match c with
 |.yes=>b=true
 |.no=>b=false
 |.may e=>e=false->b=false
def SA (a:Option OT) (b:Option (Bool->Prop)):Prop:=(a=none->b=none)/\∀c,a=some c->∃p,b=some p/\∀b,p b->c.ok b
theorem SA.none:SA none none:=⟨fun _=>rfl,fun _ h=>(nomatch h)⟩
theorem SA.some {c:OT} {p:Bool->Prop} (h :∀b,p b->c.ok b):SA (some c) (some p):=⟨fun h=>(nomatch h),fun c' e=>⟨p,rfl,by cases e;exact h⟩⟩
theorem ZT {o:Nat->TO} {x:TS}:SA (Jp o x) (LW (bV o) (bn x)):=by
 cases x with
 |v x=>
  cases x with
  |one x=>
   cases x with
   |p a i w=>
    obtain ⟨t,x⟩:=w;cases t with
    |sl e=>
     change List (Dt e) at x;cases x with
     |nil=>exact .some fun b hb h=>by simp at h
     |cons y ys=>exact .some fun b hb h=>hb (by intro h;cases h)
    |_=>exact .none
   |own g=>
    cases hg:o g with
    |arr fz a i e l=>
     have hd:(bV o g).dim=some (size e,l.length):=pF (by simp only [K_,hg]);simp only [Jp,hg,bn,jL,bU,LW,hd];refine .some fun b hb h=>hb fun h' => ?_;cases l with
     |nil=>simp at h
     |cons y ys=>cases h'
    |aO a i e aj l hole=>
     have hd:(bV o g).dim=some (size e,l.length):=pF (by simp only [K_,hg]);simp only [Jp,hg,bn,jL,bU,LW,hd];refine .some fun b hb h=>hb fun h' => ?_;cases l with
     |nil=>simp at h
     |cons y ys=>cases h'
    |_=>simp only [Jp,hg,bn,jL,bU,LW,bV,d_,O.dim];exact .none
   |dF=>exact .some fun b hb=>hb
   |_=>exact .none
  |agg xs=>exact .none
 |_=>exact .none
theorem ZU {o:Nat->TO} {x:TS}:SA (Jq o x) (Fh (bV o) (bn x)):=by
 cases x with
 |v x=>
  cases x with
  |one x=>
   cases x with
   |p a i w=>
    obtain ⟨t,x⟩:=w;cases t with
    |opq=>
     change Value at x;unfold Jq;split
     .rename_i h;cases h
     .rename_i h;cases h;exact .some fun b hb=>hb
     .rename_i h1 h2;have:Fh (bV o) (bn (.v (.one (.p a i ⟨.opq,x⟩))))=Option.none:=by
       show Fh (bV o) (.v (.one (.p a i (.opq x))))=Option.none;unfold Fh;split
       .rename_i h;cases h
       .rename_i h;cases h;exact (h2 _ _ rfl).elim
       .rfl
      rw [this];exact .none
    |sl e=>
     change List (Dt e) at x;cases x<;>exact .none
    |_=>exact .none
   |box g off=>
    cases hg:o g with
    |box ws=>
     simp only [Jq,hg,bn,jL,bU,Fh,oN hg];exact .some fun b hb=>hb
    |_=>simp only [Jq,hg,bn,jL,bU,Fh,bV,d_];exact .none
   |_=>exact .none
  |agg xs=>exact .none
 |_=>exact .none
theorem ZV {o:Nat->TO} {x:TS} {k:Fw.TK} {c:Value}:SA (OU o x k c) (x9 (bV o) (bn x) k c):=by
 unfold OU;split
 .exact ZT
 .exact ZU
 .rename_i h1 h2;have:x9 (bV o) (bn x) k c=Option.none:=by
   unfold x9;split
   .exact (h1 _ rfl rfl).elim
   .exact (h2 rfl rfl).elim
   .rfl
  rw [this];exact .none
def acV (a:Option (Bool×OT)) (b:Option (Bool×(Bool->Prop))):Prop:=(a=none->b=none)/\∀pos c,a=some (pos,c)->∃p,b=some (pos,p)/\∀b,p b->c.ok b
theorem acV.none:acV none none:=⟨fun _=>rfl,fun _ _ h=>(nomatch h)⟩
theorem afW {tt:TT} {st:jH} {o:Oper}:acV (ajE tt st o) (Oo tt (aT st) o):=by
 unfold ajE Oo;cases hgd:o.guard with
 |some g=>exact .none
 |none=>
  simp only;cases hop:o.op with
  |binOp op t x y u=>
   cases y with
   |const c=>
    simp only;cases ht:tt t with
    |none=>exact .none
    |some i=>
     simp only;have hs:=ZV (o:=st.go) (x:=st.dJ x) (k:=i.k) (c:=c);rw [<-nV] at hs;change SA _ (x9 (aT st).o ((aT st).dJ x) i.k c) at hs;generalize OU st.go (st.dJ x) i.k c=A at hs ⊢;generalize x9 (aT st).o ((aT st).dJ x) i.k c=B at hs ⊢;cases A with
     |none=>
      have:=hs.1 rfl;subst this;cases op<;>exact .none
     |some c'=>
      obtain ⟨p,rfl,hp⟩:=hs.2 c' rfl;cases op<;>first
       |exact .none
       |(
         refine ⟨fun h=>(nomatch h),fun pos c'' h => ?_⟩;simp only [Q0,Q1] at h;obtain ⟨rfl,rfl⟩:=h;exact ⟨p,rfl,hp⟩)
   |_=>exact .none
  |_=>exact .none
theorem run_any {R:Type} {x y:Prog R} {r:R} (h:(Prog.any x y).run=some r):x.run=some r/\y.run=some r:=ZO h
theorem apM (pos b:Bool):({ x:=scalar (.bool (bif pos then b else !b)),aJ:=[],new:=[] }:Eff)=(qN (bif pos then b else !b)).er:=rfl
theorem acW {st:jH} {o:Oper}:Oq (aT st) o=(acA st o).map fun x=>(x.1,P.str ⟨x.2.1.toArray⟩,P.int .i64 x.2.2):=by
 unfold Oq acA;cases o.guard with
 |some g=>rfl
 |none=>
  simp only;cases o.op with
  |next x b=>
   cases b with
   |false=>rfl
   |true=>
    simp only [nV];cases st.dJ x with
    |v x=>
     cases x with
     |one x=>
      cases x with
      |nH g=>
       simp only [bn,jL,bU];have e:(aT st).o g=d_ (st.go g):=rfl;rw [e];cases st.go g<;>rfl
      |_=>rfl
     |agg xs=>rfl
    |_=>rfl
  |_=>rfl
theorem itE (g:Nat) (s:List UInt8) (n:Int):IG g (.str ⟨s.toArray⟩) (.int .i64 n)=(OV g s n).er:=rfl
theorem ZW {R:Type} {T:mJ} {tt:TT} {ety:TypeId->Option Ty} {N:Nat} {ops:Array Oper} {o:Oper} {q:jg} {K:jg->jZ->Prog R} {r:R} (h:(Vz T tt ety N ops o q K).run=some r) :
  B_ (nI T) tt N ops o (aT q.st) (XI q K r):=by
 unfold Vz at h;have hn:=afW (tt:=tt) (st:=q.st) (o:=o);split at h
 .rename_i pos c hc;obtain ⟨p,hp,hok⟩:=hn.2 pos c hc;unfold B_;rw [hp];simp only;split at h
  .exact (bf h).elim
  .rename_i hd;refine ⟨AQ _ hd,fun b hb => ?_⟩;have hok:=hok b hb;rw [apM];have done:(K q (qN (bif pos then b else !b))).run=some r->XI q K r (qN (bif pos then b else !b)).er:=fun h=>⟨q,_,rfl,rfl,qV.refl q,h⟩;refine done ?_;cases c with
   |yes=>
    have hok:b=true:=hok;subst hok;cases pos<;>exact h
   |no=>
    have hok:b=false:=hok;subst hok;cases pos<;>exact h
   |may e=>
    have h:(bif e then (Prog.any (K q (qN true)) (K q (qN false))).run else (K q (qN (!pos))).run)=some r:=h;cases e with
    |true=>
     obtain ⟨h1,h2⟩:=run_any h;cases (bif pos then b else !b) with
     |true=>exact h1
     |false=>exact h2
    |false=>
     have hok:b=false:=hok rfl;subst hok;cases pos<;>exact h
 .rename_i hc;unfold B_;rw [hn.1 hc,acW];simp only;split at h
  .rename_i g s n hnx;rw [hnx];simp only [Z3];split at h
   .exact (bf h).elim
   .rename_i hd;have h:(bif RI s n then (K q (OV g s n)).run else (K q Vy).run)=some r:=h;have hb:QW (.str ⟨s.toArray⟩) (.int .i64 n)=RI s n:=by
     unfold QW RI;have:(P.str ⟨s.toArray⟩).bytes.size=s.length:=by show s.toArray.size=_;simp
     rw [this];rfl
    rw [hb];refine ⟨AQ _ hd,fun e => ?_,fun e => ?_⟩
    .rw [e] at h;exact ⟨q,OV g s n,itE g s n,rfl,qV.refl q,h⟩
    .rw [e] at h;exact ⟨q,Vy,rfl,rfl,qV.refl q,h⟩
  .rename_i hnx;rw [hnx];exact Sz h
theorem XJ {R:Type} {T:mJ} {tt:TT} {ety:TypeId->Option Ty} {N:Nat} {ops:Array Oper} {r:R} {K:jg->Prog R} :∀{l:List Oper} {i:Nat} {q:jg},l=ops.toList.drop i->(runT T tt ety N ops l q K).run=some r->
  vW (nI T) tt N ops (List.range' i l.length) (aT q.st) fun st' =>∃q':jg,st'=aT q'.st/\qV q q'/\(K q').run=some r
 | [],i,q,hl,h=>⟨q,rfl,qV.refl q,h⟩
 |o::os,i,q,hl,h=>by
  have h0:ops[i]?=some o:=by
   have:=congrArg (·[0]?) hl;simpa using this.symm
  have h1:os=ops.toList.drop (i+1):=by
   have:=congrArg List.tail hl;simpa using this
  simp only [WF,Km,vW,h0];refine JE ?_ (ZW h);rintro e ⟨q',te,rfl,he,hr,h⟩;simp only [oV] at h;have ih:=XJ h1 h;rw [<-he,<-Eo];refine yM ?_ ih;rintro st' ⟨q'',rfl,hr',h⟩;exact ⟨q'',rfl,(hr.trans (qV.eff q' o.dst te)).trans hr',h⟩
theorem jX {α β:Type} {f g:α->List β} :∀{l:List α},(∀x∈l,f x=g x)->l.flatMap f=l.flatMap g
 | [],_=>rfl
 |x::l,h=>by simp only [Z6,h x (by simp),jX (l:=l) fun y hy=>h y (by simp [hy])]
theorem uj (f:FuncId) (caps:List W):(W.clo f caps).names=caps.flatMap W.names:=by
 rw [W.names];have :∀(l:List {x // x∈caps}),(l.flatMap fun x=>x.1.names)=(l.map (·.1)).flatMap W.names:=fun l=>by rw [List.flatMap_map]
 rw [this,List.attach_map_subtype_val]
theorem FT :∀(caps:List TW),yG caps=(nT caps).flatMap W.names
 | []=>rfl
 |c::cs=>by cases c<;>simp [yG,nT,bU,W.names,FT cs]
theorem JI (x:TW):W.namesT x=(bU x).names:=by
 cases x with
 |clo f caps=>simp only [W.namesT,bU,uj,FT]
 |_=>simp only [W.namesT,bU,W.names]
theorem JJ (x:TV):V.namesT x=(jL x).names:=by
 cases x with
 |one x=>exact JI x
 |agg xs=>
  simp only [V.namesT,jL,V.names,List.flatMap_map];exact jX fun x _=>JI x
theorem VG (x:TS):S.namesT x=(bn x).names:=by
 cases x with
 |v x=>exact JJ x
 |jM xs=>
  simp only [S.namesT,bn,S.names,List.flatMap_map];exact jX fun x _=>JJ x
 |no=>rfl
end
end Go.Fg

namespace Go.Fg
open Go.Fw
section
variable [RE]
theorem acX {x:TS} {fn:FuncId} {caps:List W} (h:bn x=.v (.one (.clo fn caps))) :∃cs,x=.v (.one (.clo fn cs))/\caps=cs.map bU:=by
 cases x with
 |v x=>
  cases x with
  |one x=>
   cases x with
   |clo f cs=>
    simp only [bn,jL,bU,S.v.injEq,V.one.injEq,W.clo.injEq,zi] at h;obtain ⟨rfl,rfl⟩:=h;exact ⟨cs,rfl,rfl⟩
   |_=>simp [bn,jL,bU] at h
  |agg xs=>simp [bn,jL] at h
 |_=>simp [bn] at h
theorem MV {o:Nat->O} {args:List TS} :∀{l:List (Nat×kN)},Xp args l=true->eY o (args.map bn) (l.map fun p=>(p.1,p.2.er))=none
 | [],h=>by cases h
 |(t,k)::rest,h=>by
  unfold Xp at h;simp only [Qf,eY];split at h
  .rename_i hn;have e:(args.map bn).getD t .no=.no:=by
    simp only [List.getD_eq_getElem?_getD,XN] at hn ⊢;cases hz:args[t]? with
    |none=>simp
    |some z=>rw [hz] at hn;simp at hn;subst hn;rfl
   rw [e];cases k.er<;>simp [oH]
  .rename_i ys hn;have e :∃zs,(args.map bn).getD t .no=.jM zs:=by
    simp only [List.getD_eq_getElem?_getD,XN] at hn ⊢;cases hz:args[t]? with
    |none=>rw [hz] at hn;simp at hn
    |some z=>rw [hz] at hn;simp at hn;subst hn;exact ⟨_,rfl⟩
   obtain ⟨zs,e⟩:=e;rw [e];cases k.er<;>simp [oH]
  .rw [MV h];split
   .rename_i h1 h2;cases h2
   .rfl
theorem ZX {T:mJ} {st:jH} {o:Oper} {l:List Nat} (h:VA T st o=some l):QU (nI T) (aT st) o=l:=by
 unfold VA at h;unfold QU;split at h
 .rename_i f args ts hop;rw [hop];simp only;rw [nV];split at h
  .rename_i fn caps hf;rw [XG hf];simp only;split at h
   .rename_i sp hT;have hT':pick (nI T) fn (args.toList.map (aT st).dJ)=some sp.er:=by rw [JG,hT];rfl
    rw [hT'];simp only;split at h
    .rename_i c hc;simp only [Q0] at h;subst h;obtain ⟨k1,k2⟩:=AL hc;have k1:g_ sp.er.sig (aT st).o ((args.toList.map (aT st).dJ)++(caps.map bU).map fun x=>S.v (.one x))=some c.er:=by
      rw [JH];exact k1
     rw [k1];rfl
    .obtain ⟨hm,h⟩:=bQ h;simp only [Q0] at h;subst h;have k1:g_ sp.er.sig (aT st).o ((args.toList.map (aT st).dJ)++(caps.map bU).map fun x=>S.v (.one x))=none:=by
      rw [JH];unfold g_;have e:eY (aT st).o (List.map bn (List.map st.dJ args.toList++List.map (fun x=>TS.v (TV.one x)) caps)) sp.er.sig.pin.slots=none:=MV hm;rw [e]
     rw [k1]
   .rename_i hT;simp only [Q0] at h;subst h;have hT':pick (nI T) fn (args.toList.map (aT st).dJ)=none:=by rw [JG,hT];rfl
    rw [hT']
  .rename_i hno;simp only [Q0] at h;subst h;split
   .rename_i fn caps hf;obtain ⟨cs,hx,_⟩:=acX hf;exact (hno _ _ hx).elim
   .rfl
 .rename_i hno;simp only [Q0] at h;subst h;split
  .rename_i f args ts hop;exact (hno _ _ _ hop).elim
  .rfl
theorem acY {T:mJ} {st:jH} {o:Oper} {l:List Nat} (h:acB T st o=some l):qJ (nI T) (aT st) o=l:=by
 unfold acB at h;split at h
 .rename_i r hr;simp only [Q0] at h;subst h;unfold qJ;rw [ZX hr];congr 1;congr 1;refine jX fun x _ => ?_;rw [nV,<-VG];refine jX fun g _ => ?_;have:((aT st).o g).hn=lW (st.go g):=by
   show (d_ (st.go g)).hn=_;cases st.go g with
   |aO a i e aj l hole=>cases hole<;>rfl
   |_=>rfl
  rw [this]
 .cases h
theorem JK (l:List (Nat×TO)):(iL l).map (·.1)=l.map (·.1):=by simp only [iL,VV];rfl
theorem ZY (x y:TW):abH (bU x) (bU y)=acC x y:=by cases x<;>cases y<;>rfl
theorem MW (g:Nat) :∀(j:Nat) (xs ys:List TW),Cb g j (xs.map bU) (ys.map bU)=Em g j xs ys
 |_,[],[]=>rfl
 |_,[],y::ys=>rfl
 |_,x::xs,[]=>rfl
 |j,x::xs,y::ys=>by
  simp only [Qf,Cb,Em,MW g (j+1) xs ys,ZY];cases Em g (j+1) xs ys<;>rfl
theorem Z4 (g:Nat) (x:TO) (y:Option TO):QY g (d_ x) (y.map d_)=VB g x y:=by
 cases x with
 |box ws=>
  cases y with
  |none=>rfl
  |some y=>
   cases y with
   |box ws'=>
    simp only [d_,Z3,QY,VB,MW];cases Em g 0 ws ws'<;>rfl
   |_=>rfl
 |_=>cases y<;>rfl
theorem yN (g:Nat) :∀(l:List (Nat×TO)),(iL l).lookup g=(l.lookup g).map d_
 | []=>rfl
 |(k,x)::r=>by
  show (List.lookup g ((k,d_ x)::iL r))=_;simp only [List.lookup];cases hb:g==k with
  |true=>rfl
  |false=>exact yN g r
theorem ajK {st:jH} {e:jZ}:U2 (aT st) e.er=kpT st e.aJ:=by
 unfold U2 kpT;show ((iL e.aJ).map (·.1)).flatMap _=_;rw [JK];refine jX fun g _ => ?_;show QY g (d_ (st.go g)) ((iL e.aJ).lookup g)=_;rw [yN,Z4]
theorem acZ (x:TO):kindOf (d_ x)=acD x:=by cases x<;>rfl
theorem uP {α β:Type} {f g:α->Option β} :∀{l:List α},(∀x∈l,f x=g x)->l.filterMap f=l.filterMap g
 | [],_=>rfl
 |x::l,h=>by
  have ih:l.filterMap f=l.filterMap g:=uP fun y hy=>h y (Vi _ hy);simp only [List.filterMap_cons,h x (by simp),ih]
theorem ajL {st:jH} {e:jZ}:U3 (aT st) e.er=kdT st e.aJ:=by
 unfold U3 kdT;show ((iL e.aJ).map (·.1)).filterMap _=_;rw [JK];refine uP fun g _ => ?_;show (match (iL e.aJ).lookup g with
  |some x=>bif Nat.beq (kindOf x) (kindOf (d_ (st.go g))) then some g else none
  |none=>none)=_
 rw [yN];cases e.aJ.lookup g with
 |none=>rfl
 |some x=>simp only [Z3,acZ]
theorem ajM {tt:TT} {st:jH} {o:Oper}:II tt (aT st) o=ldT tt st o:=by
 unfold II ldT;cases o.op with
 |load t x=>
  simp only [nV];cases tt t with
  |none=>rfl
  |some i=>
   cases st.dJ x with
   |v x=>
    cases x with
    |one x=>cases x<;>rfl
    |agg xs=>rfl
   |_=>rfl
 |_=>rfl
theorem SB {R:Type} {T:mJ} {tt:TT} {ety:TypeId->Option Ty} {N:Nat} {ops:Array Oper} {r:R} {K:jg->List tC->Prog R} :∀{l:List Oper} {i:Nat} {q:jg} {fs:List tC},l=ops.toList.drop i->(runNT T tt ety N ops l q fs K).run=some r->
  oZ (nI T) tt N ops (List.range' i l.length) (aT q.st) fs fun st' fs' =>∃q':jg,st'=aT q'.st/\qV q q'/\(K q' fs').run=some r
 | [],i,q,fs,hl,h=>⟨q,rfl,qV.refl q,h⟩
 |o::os,i,q,fs,hl,h=>by
  have h0:ops[i]?=some o:=by
   have:=congrArg (·[0]?) hl;simpa using this.symm
  have h1:os=ops.toList.drop (i+1):=by
   have:=congrArg List.tail hl;simpa using this
  simp only [WF,Km,oZ,h0];unfold runNT at h;split at h
  .exact (bf h).elim
  .rename_i rd hrd;refine Ep ?_ (Sz h);rintro e ⟨q',te,rfl,he,hr,h⟩;simp only [oV,ajJ] at h;have ih:=SB h1 h;rw [<-ajM,<-ajK,<-ajL,<-he] at ih;rw [acY hrd,<-he,<-Eo];have e1:te.er.aJ.map (·.1)=te.aJ.map (·.1):=JK te.aJ;have e2:te.er.new=te.new:=rfl;rw [e1,e2];refine wG ?_ ih;rintro st' fs' ⟨q'',rfl,hr',h⟩;exact ⟨q'',rfl,(hr.trans (qV.eff q' o.dst te)).trans hr',h⟩
theorem JL {R:Type} {T:mJ} {tt:TT} {ety:TypeId->Option Ty} {N:Nat} {ops:Array Oper} {draw:Bool} {r:R} {K:jg->Prog R} {q:jg} {Kp:St->Prop} (h:(wB T tt ety N ops draw q K).run=some r)
  (hK :∀q',qV q q'->(K q').run=some r->Kp (aT q'.st)):qh (nI T) tt N ops draw (aT q.st) Kp:=by
 unfold wB at h;unfold qh;cases draw with
 |false=>
  have:=XJ (i:=0) (by simp) h;rw [<-qi,qu] at this;refine yM ?_ this;rintro st' ⟨q',rfl,hr,h⟩;exact hK q' hr h
 |true=>
  have:=SB (i:=0) (by simp) h;rw [<-qi,qu] at this;refine wG ?_ this;rintro st' fs ⟨q',rfl,hr,h⟩;split at h
  .rename_i hf;exact ⟨hf,hK q' hr h⟩
  .exact (bf h).elim
theorem SC {A R:Type} {x:Prog A} {k:A->Prog R} {r:R} (h:(Prog.join x k).run=some r) :∃a,x.run=some a/\(k a).run=some r:=by
 have h:x.run.bind (fun z=>(k z).run)=some r:=h;cases hx:x.run with
 |none=>rw [hx] at h;cases h
 |some a=>rw [hx] at h;exact ⟨a,rfl,h⟩
theorem Z5 {A R:Type} {x:Prog (A ⊕ R)} {k:A->Prog R} {r:R} (h:(Prog.MC x k).run=some r):(∃a,x.run=some (.inl a)/\(k a).run=some r)\/x.run=some (.inr r):=by
 have h:dL x.run (fun z=>(k z).run)=some r:=h;cases hx:x.run with
 |none=>rw [hx] at h;cases h
 |some a=>
  rw [hx] at h;cases a with
  |inl a=>exact .inl ⟨a,rfl,h⟩
  |inr r'=>
   have h:some r'=some r:=h;cases h;exact .inr rfl
theorem VH {A R:Type} {body:A->Option (A ⊕ R)} {a:A} {r:R} (h:bK body a=some r) :∃n,iV body n a=some r:=by
 unfold bK at h;split at h
 .exact ⟨_,h⟩
 .cases h
theorem SE {A R:Type} {a:A} {body:A->Prog (A ⊕ R)} {r:R} (h:(Prog.loop a body).run=some r) :∃n,iV (fun z=>(body z).run) n a=some r:=VH h
theorem AU {A R:Type} {body:A->Option (A ⊕ R)} :∀{n m:Nat} {a:A} {r:R},n<=m->iV body n a=some r->iV body m a=some r
 |0,m,a,r,_,h=>by cases h
 |n+1,0,a,r,hm,h=>by omega
 |n+1,m+1,a,r,hm,h=>by
  simp only [iV] at h ⊢;cases hb:body a with
  |none=>rw [hb] at h;cases h
  |some v=>
   rw [hb] at h;cases v with
   |inl a'=>exact AU (n:=n) (by omega) h
   |inr r'=>exact h
theorem yO {A R:Type} {body:A->Option (A ⊕ R)} {n:Nat} {a:A} {r:R} (h:iV body n a=some r):bK body a=some r:=by
 have hex :∃n r,iV body n a=some r:=⟨n,r,h⟩;unfold bK;rw [dif_pos hex];obtain ⟨r',h'⟩:=Classical.choose_spec hex;rw [h'];rcases Nat.le_total n (Classical.choose hex) with hle | hle
 .have:=AU hle h;rw [this] at h';exact h'.symm
 .have:=AU hle h';rw [this] at h;exact h
theorem AV {A R:Type} (body:A->Option (A ⊕ R)) (a:A):bK body a=(body a).bind fun
  |.inl a'=>bK body a'
  |.inr r=>some r:=by
 cases hb:body a with
 |none=>
  have:¬∃n r,iV body n a=some r:=by
   rintro ⟨n,r,h⟩;cases n with
   |zero=>cases h
   |succ n=>simp only [iV,hb] at h;cases h
  unfold bK;rw [dif_neg this];rfl
 |some v=>
  cases v with
  |inr r=>exact yO (n:=1) (by simp only [iV,hb];rfl)
  |inl a'=>
   show bK body a=bK body a';by_cases hex :∃n r,iV body n a'=some r
   .obtain ⟨n,r,hn⟩:=hex;rw [yO hn];exact yO (n:=n+1) (by simp only [iV,hb];exact hn)
   .have hex':¬∃n r,iV body n a=some r:=by
     rintro ⟨n,r,h⟩;cases n with
     |zero=>cases h
     |succ n=>simp only [iV,hb] at h;exact hex ⟨n,r,h⟩
    unfold bK;rw [dif_neg hex,dif_neg hex']
theorem XK {A R R':Type} {f:R->R'} (hf :∀a b,f a=f b->a=b) :∀a b:A ⊕ R,Sum.map id f a=Sum.map id f b->a=b
 |.inl a,.inl b,h=>by cases h;rfl
 |.inl a,.inr b,h=>by cases h
 |.inr a,.inl b,h=>by cases h
 |.inr a,.inr b,h=>by
  have h:(Sum.inr (f a):A ⊕ R')=.inr (f b):=h;simp only [Sum.inr.injEq] at h;rw [hf _ _ h]
theorem run_map {R R':Type} (f:R->R') (hf :∀a b,f a=f b->a=b) (p:Prog R):(p.map f).run=p.run.map f:=by
 induction p generalizing R' with
 |ret r=>rfl
 |stuck n=>rfl
 |cond b x y GH ihy=>
  show (bif b then (x.map f).run else (y.map f).run)=(bif b then x.run else y.run).map f;rw [GH f hf,ihy f hf];cases b<;>rfl
 |chk b x ih=>
  show ck b (x.map f).run=(ck b x.run).map f;rw [ih f hf];cases b<;>rfl
 |any x y GH ihy=>
  show both (x.map f).run (y.map f).run=(both x.run y.run).map f;rw [GH f hf,ihy f hf];unfold both;by_cases e:x.run=y.run
  .rw [if_pos e,if_pos (by rw [e])]
  .rw [if_neg e,if_neg]
   .rfl
   .intro h;apply e;cases hx:x.run with
    |none=>
     cases hy:y.run with
     |none=>rfl
     |some b=>rw [hx,hy] at h;cases h
    |some a=>
     cases hy:y.run with
     |none=>rw [hx,hy] at h;cases h
     |some b=>
      rw [hx,hy] at h;simp only [Z3,Q0] at h;rw [hf a b h]
 |let_ x k ih=>exact ih x f hf
 |join x k GH ihk=>
  show x.run.bind (fun z=>((k z).map f).run)=(x.run.bind fun z=>(k z).run).map f;cases x.run with
  |none=>rfl
  |some a=>exact ihk a f hf
 |MC x k GH ihk=>
  show dL (x.map (Sum.map id f)).run (fun z=>((k z).map f).run)=(dL x.run fun z=>(k z).run).map f;rw [GH _ (XK hf)];cases x.run with
  |none=>rfl
  |some a=>
   cases a with
   |inl a=>exact ihk a f hf
   |inr r=>rfl
 |loop a body ih=>
  show bK (fun z=>((body z).map (Sum.map id f)).run) a=(bK (fun z=>(body z).run) a).map f;have e:(fun z=>((body z).map (Sum.map id f)).run)=fun z=>(body z).run.map (Sum.map id f):=funext fun z=>ih z _ (XK hf);rw [e];have key :∀n a,iV (fun z=>(body z).run.map (Sum.map id f)) n a=(iV (fun z=>(body z).run) n a).map f:=by
   intro n
   induction n with
   |zero=>intro a;rfl
   |succ n ihn=>
    intro a;simp only [iV];cases (body a).run with
    |none=>rfl
    |some v=>
     cases v with
     |inl a'=>exact ihn a'
     |inr r=>rfl
  have hiff:(∃n r,iV (fun z=>(body z).run.map (Sum.map id f)) n a=some r)↔∃n r,iV (fun z=>(body z).run) n a=some r:=by
   constructor
   .rintro ⟨n,r,h⟩;rw [key] at h;cases hx:iV (fun z=>(body z).run) n a with
    |none=>rw [hx] at h;cases h
    |some r'=>exact ⟨n,r',hx⟩
   .rintro ⟨n,r,h⟩;exact ⟨n,f r,by rw [key,h];rfl⟩
  by_cases hex :∃n r,iV (fun z=>(body z).run) n a=some r
  .obtain ⟨n,r,hn⟩:=hex;have u1:=yO hn;have u2:iV (fun z=>(body z).run.map (Sum.map id f)) n a=some (f r):=by rw [key,hn];rfl
   rw [u1,yO u2];rfl
  .have hex':=fun h=>hex (hiff.1 h);unfold bK;rw [dif_neg hex,dif_neg hex'];rfl
 |call n g a k ih=>
  show (g a).bind (fun z=>((k z).map f).run)=((g a).bind fun z=>(k z).run).map f;cases g a with
  |none=>rfl
  |some y=>exact ih y f hf
end
end Go.Fg

namespace Go.Fg
open Go.Fw
section
variable [RE] {m:Ren}
theorem zQ :∀{caps:List TW} {gs:List Nat},CP caps=some gs->Ee gs=caps
 | [],gs,h=>by simp only [CP,Q0] at h;subst h;rfl
 |c::cs,gs,h=>by
  cases c with
  |box g off=>
   unfold CP at h;obtain ⟨hb,h⟩:=bQ h;have hb:=Q4 hb;subst hb;split at h
   .rename_i gs' hg;cases h;simp only [Ee,zQ hg]
   .cases h
  |_=>cases h
theorem XL {x:TW} {k:kC} {u u':List Wd} (h:RN x=some (k,u)) (hc:Ef m k x=some u'):u'=u/\u.length=k.tys.length:=by
 cases x<;>try simp only [RN,Q0,Q1,reduceCtorEq] at h
 case p a i w=>
  obtain ⟨rfl,rfl⟩:=h;simp only [Ef] at hc;split at hc
  .obtain ⟨_,rfl⟩:=CV hc;exact ⟨rfl,rfl⟩
  .cases hc
 case dF=>obtain ⟨rfl,rfl⟩:=h;simp only [Ef,Q0] at hc;subst hc;exact ⟨rfl,rfl⟩
 case own g=>
  obtain ⟨rfl,rfl⟩:=h;simp only [Ef] at hc;split at hc
  .cases hc;exact ⟨rfl,rfl⟩
  .cases hc
 case box g off=>
  obtain ⟨rfl,rfl⟩:=h;simp only [Ef] at hc;split at hc
  .cases hc;exact ⟨rfl,rfl⟩
  .cases hc
 case clo f caps=>
  split at h
  .simp only [Q0,Q1] at h;obtain ⟨rfl,rfl⟩:=h;simp only [Ef] at hc;obtain ⟨_,rfl⟩:=CV hc;exact ⟨rfl,rfl⟩
  .cases h
 case vw g lo hi=>
  obtain ⟨rfl,rfl⟩:=h;simp only [Ef] at hc;split at hc
  .cases hc;exact ⟨rfl,rfl⟩
  .cases hc
 case ep g n off=>
  obtain ⟨rfl,rfl⟩:=h;simp only [Ef] at hc;split at hc
  .cases hc;exact ⟨rfl,rfl⟩
  .cases hc
 case nH g=>
  obtain ⟨rfl,rfl⟩:=h;simp only [Ef] at hc;split at hc
  .cases hc;exact ⟨rfl,rfl⟩
  .cases hc
theorem JM :∀{xs:List TW} {ks:List kC} {u u':List Wd},wS xs=some (ks,u)->yC m ks xs=some u'->u'=u/\u.length=(ks.flatMap kC.tys).length
 | [],ks,u,u',h,hc=>by
  simp only [wS,Q0,Q1] at h;obtain ⟨rfl,rfl⟩:=h;simp only [yC,Q0] at hc;subst hc;exact ⟨rfl,rfl⟩
 |x::xs,ks,u,u',h,hc=>by
  simp only [wS] at h;split at h
  .rename_i h1 h2;simp only [Q0,Q1] at h;obtain ⟨rfl,rfl⟩:=h;simp only [yC] at hc;split at hc
   .rename_i h3 h4;simp only [Q0] at hc;subst hc;obtain ⟨rfl,e1⟩:=XL h1 h3;obtain ⟨rfl,e2⟩:=JM h2 h4;exact ⟨rfl,by simp only [YY,Z6,e1,e2]⟩
   .cases hc
  .cases h
theorem afX {x:TS} {k:kN} {u u':List Wd} (h:OW x=some (k,u)) (hc:afE m k x=some u'):u'=u/\u.length=k.tys.length:=by
 unfold OW at h;split at h
 .split at h
  .rename_i h1;simp only [Q0,Q1] at h;obtain ⟨rfl,rfl⟩:=h;exact XL h1 hc
  .cases h
 .split at h
  .rename_i h1;simp only [Q0,Q1] at h;obtain ⟨rfl,rfl⟩:=h;exact JM h1 hc
  .cases h
 .cases h
theorem afY {x:TO} {k:iM} {u u':List Wd} (h:xu x=some (k,u)) (hc:Vt m k x=some u'):u'=u/\u.length=k.tys.length:=by
 cases x with
 |none=>cases h
 |box ws=>
  simp only [xu] at h;split at h
  .rename_i h1;simp only [Q0,Q1] at h;obtain ⟨rfl,rfl⟩:=h;exact JM h1 hc
  .cases h
 |arr fz a i e l=>
  simp only [xu,Q0,Q1] at h;obtain ⟨rfl,rfl⟩:=h;simp only [Vt] at hc;split at hc
  .rename_i l' hl;split at hc
   .simp only [Q0] at hc;subst hc;have:=gW hl;exact ⟨congrArg (fun w=>[w]) this.symm,rfl⟩
   .cases hc
  .cases hc
 |it s n=>
  simp only [xu,Q0,Q1] at h;obtain ⟨rfl,rfl⟩:=h;simp only [Vt,Q0] at hc;exact ⟨hc.symm,rfl⟩
 |aO a i e aj l hole=>
  simp only [xu] at h;split at h
  .simp only [Q0,Q1] at h;obtain ⟨rfl,rfl⟩:=h;simp only [Vt] at hc;split at hc
   .rename_i l' hl _;split at hc
    .simp only [Q0] at hc;subst hc;have:=gW hl;exact ⟨congrArg (fun w=>[w]) this.symm,rfl⟩
    .cases hc
   .cases hc
  .cases h
theorem XM {x:TW} {k:kC} {u vs:List Wd} {n:Nat} (h:RN x=some (k,u)) (ha :∀(j:Nat) w,u[j]?=some w->vs[n+j]?=some w):(Aw vs n k).1=x/\u.length=k.tys.length:=by
 cases x<;>try simp only [RN,Q0,Q1,reduceCtorEq] at h
 case p a i w=>
  obtain ⟨rfl,rfl⟩:=h;have:=ha 0 w rfl;refine ⟨?_,rfl⟩;show TW.p a i (vs.getD n Au)=.p a i w;rw [List.getD_eq_getElem?_getD,show vs[n]?=some w from this];rfl
 case vw g lo hi=>
  obtain ⟨rfl,rfl⟩:=h;refine ⟨?_,rfl⟩;have h0:=ha 0 (iR .i64 lo) rfl;have h1:=ha 1 (iR .i64 hi) rfl;have e0:vs.getD n Au=iR .i64 lo:=by rw [List.getD_eq_getElem?_getD,show vs[n]?=some (iR .i64 lo) from h0];rfl
  have e1:vs.getD (n+1) Au=iR .i64 hi:=by rw [List.getD_eq_getElem?_getD,show vs[n+1]?=some (iR .i64 hi) from h1];rfl
  show TW.vw g ((vs.getD n Au).as (.int .i64)) ((vs.getD (n+1) Au).as (.int .i64))=.vw g lo hi;rw [e0,e1];have a0:TP.as (.int .i64) (iR .i64 lo)=lo:=rX (.int .i64) lo;have a1:TP.as (.int .i64) (iR .i64 hi)=hi:=rX (.int .i64) hi;rw [a0,a1]
 case ep g q off=>
  obtain ⟨rfl,rfl⟩:=h;refine ⟨?_,rfl⟩;have h0:=ha 0 (iR .i64 q) rfl;have e0:vs.getD n Au=iR .i64 q:=by rw [List.getD_eq_getElem?_getD,show vs[n]?=some (iR .i64 q) from h0];rfl
  show TW.ep g ((vs.getD n Au).as (.int .i64)) off=.ep g q off;rw [e0];have a0:TP.as (.int .i64) (iR .i64 q)=q:=rX (.int .i64) q;rw [a0]
 case clo f caps=>
  split at h
  .rename_i gs hgs;simp only [Q0,Q1] at h;obtain ⟨rfl,rfl⟩:=h;exact ⟨by simp only [Aw,zQ hgs],rfl⟩
  .cases h
 all_goals (obtain ⟨rfl,rfl⟩:=h;exact ⟨rfl,rfl⟩)
theorem afZ {α:Type} {vs a b:List α} {n:Nat} (h :∀(j:Nat) w,(a++b)[j]?=some w->vs[n+j]?=some w) :∀(j:Nat) w,a[j]?=some w->vs[n+j]?=some w:=fun j w hw=>h j w (by rw [Wc (Q3.1 hw).1];exact hw)
theorem ac0 {α:Type} {vs a b:List α} {n:Nat} (h :∀(j:Nat) w,(a++b)[j]?=some w->vs[n+j]?=some w) :∀(j:Nat) w,b[j]?=some w->vs[n+a.length+j]?=some w:=fun j w hw=>by
 rw [Uv];exact h (a.length+j) w (by rw [W7 (by omega)];simpa using hw)
theorem JO :∀{xs:List TW} {ks:List kC} {u vs:List Wd} {n:Nat},wS xs=some (ks,u)->(∀(j:Nat) w,u[j]?=some w->vs[n+j]?=some w)->(uJ vs n ks).1=xs/\u.length=(ks.flatMap kC.tys).length
 | [],ks,u,vs,n,h,ha=>by
  simp only [wS,Q0,Q1] at h;obtain ⟨rfl,rfl⟩:=h;exact ⟨rfl,rfl⟩
 |x::xs,ks,u,vs,n,h,ha=>by
  simp only [wS] at h;split at h
  .rename_i k1 u1 ks1 us1 h1 h2;simp only [Q0,Q1] at h;obtain ⟨rfl,rfl⟩:=h;obtain ⟨a1,a2⟩:=XM h1 (afZ ha);obtain ⟨b1,b2⟩:=JO (n:=n+u1.length) h2 (ac0 ha);refine ⟨?_,by simp only [YY,Z6,a2,b2]⟩;simp only [uJ,a1,CS];rw [<-a2,b1]
  .cases h
theorem af0 {x:TS} {k:kN} {u vs:List Wd} {n:Nat} (h:OW x=some (k,u)) (ha :∀(j:Nat) w,u[j]?=some w->vs[n+j]?=some w):(Gt vs n k).1=x/\u.length=k.tys.length:=by
 unfold OW at h;split at h
 .split at h
  .rename_i h1;simp only [Q0,Q1] at h;obtain ⟨rfl,rfl⟩:=h;obtain ⟨a1,a2⟩:=XM h1 ha;exact ⟨by simp only [Gt,a1],a2⟩
  .cases h
 .split at h
  .rename_i h1;simp only [Q0,Q1] at h;obtain ⟨rfl,rfl⟩:=h;obtain ⟨a1,a2⟩:=JO h1 ha;exact ⟨by simp only [Gt,a1],a2⟩
  .cases h
 .cases h
theorem af2 {x:TO} {k:iM} {u vs:List Wd} {n:Nat} (h:xu x=some (k,u)) (ha :∀(j:Nat) w,u[j]?=some w->vs[n+j]?=some w):(Eh vs n k).1=x/\u.length=k.tys.length:=by
 cases x with
 |none=>cases h
 |box ws=>
  simp only [xu] at h;split at h
  .rename_i h1;simp only [Q0,Q1] at h;obtain ⟨rfl,rfl⟩:=h;obtain ⟨a1,a2⟩:=JO h1 ha;exact ⟨by simp only [Eh,a1],a2⟩
  .cases h
 |arr fz a i e l=>
  simp only [xu,Q0,Q1] at h;obtain ⟨rfl,rfl⟩:=h;refine ⟨?_,rfl⟩;have:=ha 0 (uz e l) rfl;have e1:vs.getD n Au=uz e l:=by rw [List.getD_eq_getElem?_getD,show vs[n]?=some (uz e l) from this];rfl
  show TO.arr fz a i e ((vs.getD n Au).as (.sl e))=.arr fz a i e l;rw [e1];congr 1;exact rX (.sl e) l
 |it s p=>
  simp only [xu,Q0,Q1] at h;obtain ⟨rfl,rfl⟩:=h;refine ⟨?_,rfl⟩;have h0:=ha 0 (Rj s) rfl;have h1:=ha 1 (iR .i64 p) rfl;have e0:vs.getD n Au=Rj s:=by rw [List.getD_eq_getElem?_getD,show vs[n]?=some (Rj s) from h0];rfl
  have e1:vs.getD (n+1) Au=iR .i64 p:=by rw [List.getD_eq_getElem?_getD,show vs[n+1]?=some (iR .i64 p) from h1];rfl
  show TO.it ((vs.getD n Au).as .str) ((vs.getD (n+1) Au).as (.int .i64))=.it s p;rw [e0,e1];have a0:TP.as .str (Rj s)=s:=rX .str s;have a1:TP.as (.int .i64) (iR .i64 p)=p:=rX (.int .i64) p;rw [a0,a1]
 |aO a i e aj l hole=>
  simp only [xu] at h;split at h
  .simp only [Q0,Q1] at h;obtain ⟨rfl,rfl⟩:=h;refine ⟨?_,rfl⟩;have:=ha 0 (uz e l) rfl;have e1:vs.getD n Au=uz e l:=by rw [List.getD_eq_getElem?_getD,show vs[n]?=some (uz e l) from this];rfl
   show TO.aO a i e aj ((vs.getD n Au).as (.sl e)) none=.aO a i e aj l none;rw [e1];congr 1;exact rX (.sl e) l
  .cases h
theorem XO {x:TW} {k:kC} {u:List Wd} (h:RN x=some (k,u)):u.map (·.t)=k.tys:=by
 cases x<;>try simp only [RN,Q0,Q1,reduceCtorEq] at h
 case clo f caps=>
  split at h
  .simp only [Q0,Q1] at h;obtain ⟨rfl,rfl⟩:=h;rfl
  .cases h
 all_goals (obtain ⟨rfl,rfl⟩:=h;rfl)
theorem JQ :∀{xs:List TW} {ks:List kC} {u:List Wd},wS xs=some (ks,u)->u.map (·.t)=ks.flatMap kC.tys
 | [],ks,u,h=>by
  simp only [wS,Q0,Q1] at h;obtain ⟨rfl,rfl⟩:=h;rfl
 |x::xs,ks,u,h=>by
  simp only [wS] at h;split at h
  .rename_i h1 h2;simp only [Q0,Q1] at h;obtain ⟨rfl,rfl⟩:=h;simp only [XX,Z6,XO h1,JQ h2]
  .cases h
theorem XP {x:TS} {k:kN} {u:List Wd} (h:OW x=some (k,u)):u.map (·.t)=k.tys:=by
 unfold OW at h;split at h
 .split at h
  .rename_i h1;simp only [Q0,Q1] at h;obtain ⟨rfl,rfl⟩:=h;exact XO h1
  .cases h
 .split at h
  .rename_i h1;simp only [Q0,Q1] at h;obtain ⟨rfl,rfl⟩:=h;exact JQ h1
  .cases h
 .cases h
theorem af4 {x:TO} {k:iM} {u:List Wd} (h:xu x=some (k,u)):u.map (·.t)=k.tys:=by
 cases x with
 |none=>cases h
 |box ws=>
  simp only [xu] at h;split at h
  .rename_i h1;simp only [Q0,Q1] at h;obtain ⟨rfl,rfl⟩:=h;exact JQ h1
  .cases h
 |arr fz a i e l=>
  simp only [xu,Q0,Q1] at h;obtain ⟨rfl,rfl⟩:=h;rfl
 |it s n=>
  simp only [xu,Q0,Q1] at h;obtain ⟨rfl,rfl⟩:=h;rfl
 |aO a i e aj l hole=>
  simp only [xu] at h;split at h
  .simp only [Q0,Q1] at h;obtain ⟨rfl,rfl⟩:=h;rfl
  .cases h
def SG (s:Nat->TS) (l:List (Nat×kN×Option (List Wd))):Prop :=∀t k u,(t,k,some u)∈l->OW (s t)=some (k,u)
def XQ (s:Nat->TO) (l:List (Nat×iM×Option (List Wd))):Prop :=∀t k u,(t,k,some u)∈l->xu (s t)=some (k,u)
theorem yP {s:Nat->TS} :∀{l:List (Nat×Md)} {r:List (Nat×kN×Option (List Wd))},Az s l=some r->SG s r
 | [],r,h=>by simp only [Az,Q0] at h;subst h;intro t k u hm;cases hm
 |(t,.keep)::l,r,h=>by
  simp only [Az] at h;split at h
  .rename_i h1 h2;simp only [Q0] at h;subst h;intro t' k u hm;rcases QP.1 hm with hm | hm
   .cases hm;exact h1
   .exact yP h2 t' k u hm
  .cases h
 |(t,.sl k0)::l,r,h=>by
  simp only [Az] at h;split at h
  .rename_i h2;simp only [Q0] at h;subst h;intro t' k u hm;rcases QP.1 hm with hm | hm
   .cases hm
   .exact yP h2 t' k u hm
  .cases h
theorem AX {s:Nat->TO} :∀{l:List (Nat×Mo)} {r:List (Nat×iM×Option (List Wd))},Jr s l=some r->XQ s r
 | [],r,h=>by simp only [Jr,Q0] at h;subst h;intro t k u hm;cases hm
 |(t,.keep)::l,r,h=>by
  simp only [Jr] at h;split at h
  .rename_i h1 h2;simp only [Q0] at h;subst h;intro t' k u hm;rcases QP.1 hm with hm | hm
   .cases hm;exact h1
   .exact AX h2 t' k u hm
  .cases h
 |(t,.ob k0)::l,r,h=>by
  simp only [Jr] at h;split at h
  .rename_i h2;simp only [Q0] at h;subst h;intro t' k u hm;rcases QP.1 hm with hm | hm
   .cases hm
   .exact AX h2 t' k u hm
  .cases h
theorem CY {s s':Nat->TS} :∀{l:List (Nat×kN×Option (List Wd))} {us rest lD:List Wd},SG s l->(∀t k u,(t,k,some u)∈l->s' t=s t)->nY m s' (l.map fun p=>(p.1,p.2.1))=some us->
  ∃e,OX l (us++rest)=(e,rest)/\mM l (e++lD)=(us,lD)/\e.map (·.t)=jK l
 | [],us,rest,lD,hk,hs,h=>by
  simp only [Vv,nY,Q0] at h;subst h;exact ⟨[],rfl,rfl,rfl⟩
 |(t,k,some u)::l,us,rest,lD,hk,hs,h=>by
  simp only [Qf,nY] at h;split at h
  .rename_i u1 v h1 h2;simp only [Q0] at h;subst h;rw [hs t k u (by simp)] at h1;obtain ⟨rfl,hl⟩:=afX (hk t k u (by simp)) h1;obtain ⟨e,e1,e2,e3⟩:=CY (rest:=rest) (lD:=lD) (fun t k u hm=>hk t k u (by simp [hm])) (fun t k u hm=>hs t k u (by simp [hm])) h2;refine ⟨e,?_,?_,by simp only [jK,e3]⟩
   .simp only [OX,Wf,Uq,e1]
   .simp only [mM,e2]
  .cases h
 |(t,k,none)::l,us,rest,lD,hk,hs,h=>by
  simp only [Qf,nY] at h;split at h
  .rename_i u1 v h1 h2;simp only [Q0] at h;subst h;have hty:=(XA h1).2;have hl:u1.length=k.tys.length:=by rw [<-hty,W2]
   obtain ⟨e,e1,e2,e3⟩:=CY (rest:=rest) (lD:=lD) (fun t k u hm=>hk t k u (by simp [hm])) (fun t k u hm=>hs t k u (by simp [hm])) h2;refine ⟨u1++e,?_,?_,by simp only [XX,hty,jK,e3]⟩
   .simp only [OX,Wf,<-hl,K5,Uq,e1]
   .simp only [mM,Wf,<-hl,K5,Uq,e2]
  .cases h
theorem CZ {s s':Nat->TO} :∀{l:List (Nat×iM×Option (List Wd))} {us rest lD:List Wd},XQ s l->(∀t k u,(t,k,some u)∈l->s' t=s t/\m.lookup t=some (some t))->ql m s' (l.map fun p=>(p.1,p.2.1))=some us->
  ∃e,RP l (us++rest)=(e,rest)/\qO l (e++lD)=(us,lD)/\e.map (·.t)=pJ l
 | [],us,rest,lD,hk,hs,h=>by
  simp only [Vv,ql,Q0] at h;subst h;exact ⟨[],rfl,rfl,rfl⟩
 |(t,k,some u)::l,us,rest,lD,hk,hs,h=>by
  simp only [Qf,ql] at h;split at h
  .rename_i u1 v h1 h2;simp only [Q0] at h;subst h;obtain ⟨hs1,hm1⟩:=hs t k u (by simp);rw [hm1] at h1;simp only at h1;rw [hs1] at h1;obtain ⟨rfl,hl⟩:=afY (hk t k u (by simp)) h1;obtain ⟨e,e1,e2,e3⟩:=CZ (rest:=rest) (lD:=lD) (fun t k u hm=>hk t k u (by simp [hm])) (fun t k u hm=>hs t k u (by simp [hm])) h2;refine ⟨e,?_,?_,by simp only [pJ,e3]⟩
   .simp only [RP,Wf,Uq,e1]
   .simp only [qO,e2]
  .cases h
 |(t,k,none)::l,us,rest,lD,hk,hs,h=>by
  simp only [Qf,ql] at h;split at h
  .rename_i u1 v h1 h2;simp only [Q0] at h;subst h;have hty:u1.map (·.t)=k.tys:=by
    cases hg:m.lookup t with
    |none=>rw [hg] at h1;cases h1
    |some og=>
     rw [hg] at h1;cases og with
     |some g=>exact (XB h1).2
     |none=>
      simp only at h1;split at h1
      .cases h1;rfl
      .cases h1;rfl
      .cases h1
   have hl:u1.length=k.tys.length:=by rw [<-hty,W2]
   obtain ⟨e,e1,e2,e3⟩:=CZ (rest:=rest) (lD:=lD) (fun t k u hm=>hk t k u (by simp [hm])) (fun t k u hm=>hs t k u (by simp [hm])) h2;refine ⟨u1++e,?_,?_,by simp only [XX,hty,pJ,e3]⟩
   .simp only [RP,Wf,<-hl,K5,Uq,e1]
   .simp only [qO,Wf,<-hl,K5,Uq,e2]
  .cases h
theorem AY {s:List (Nat×TS)} {ds:List Nat} :∀{l:List (Nat×kN×Option (List Wd))},RQ s ds l=true->∀t k u,(t,k,some u)∈l->hasK t s=true/\fM t ds=false
 | [],h,t,k,u,hm=>by cases hm
 |(t0,k0,some u0)::l,h,t,k,u,hm=>by
  simp only [RQ,Q6,W6] at h;rcases QP.1 hm with hm | hm
  .cases hm;exact h.1
  .exact AY h.2 t k u hm
 |(t0,k0,none)::l,h,t,k,u,hm=>by
  rcases QP.1 hm with hm | hm
  .cases hm
  .exact AY (l:=l) h t k u hm
theorem AZ {s:List (Nat×TO)} {ds:List Nat} :∀{l:List (Nat×iM×Option (List Wd))},RU s ds l=true->∀t k u,(t,k,some u)∈l->hasK t s=true/\fM t ds=false
 | [],h,t,k,u,hm=>by cases hm
 |(t0,k0,some u0)::l,h,t,k,u,hm=>by
  simp only [RU,Q6,W6] at h;rcases QP.1 hm with hm | hm
  .cases hm;exact h.1
  .exact AZ h.2 t k u hm
 |(t0,k0,none)::l,h,t,k,u,hm=>by
  rcases QP.1 hm with hm | hm
  .cases hm
  .exact AZ (l:=l) h t k u hm
end
end Go.Fg

namespace Go.Fw
variable [eP]
def alX:TypeDesc->TK
 |.int k=>.int k
 |.bool=>.bool
 |.string=>.str
 |.slice e=>.slice e
 |.pointer _=>.ptr
 |.struct gs=>.struct (gs.toList.map fun f=>(f.offset,f.type))
 |.array n e=>.arr n e
 |_=>.other
theorem pU.of {Pg:Program} {t:TypeId} {i:TI} (h1:(Pg.info? t).map (fun x=>(x.size,x.bytes,x.zero.map (·.cells.toList),x.zero.map fun z=>match z with | .agg _=>true | _=>false))=some (i.size,i.bytes,some i.zero,some i.agg))
  (h2:i.zero.all (·.oneCell')=true) (h3:i.zero.length=i.size) (hk:(Pg.underlying t).map alX=some i.k)
  (he:(!i.eq||(!Pg.stoodInHeld t&&!Pg.eqGuardType Pg.depth t&&(Pg.fieldsOf t).toList.all fun f=>!(f.name == "_")))=true):pU Pg t i:=by
 refine ⟨h1,h2,h3,?_,fun h => ?_⟩
 rotate_left
 .rw [h] at he;simp only [Bool.not_true,J1,Q6,W6,X2] at he;exact ⟨he.1.1,he.1.2,fun f hf e=>by have:=he.2 f hf;rw [e] at this;simp at this⟩
 cases hu:Pg.underlying t with
 |none=>rw [hu] at hk;cases hk
 |some d=>
  rw [hu] at hk;simp only [Z3,Q0] at hk;rw [<-hk];cases d<;>simp [alX,oD,hu]
def ah3 (Pg:Program):List (Nat×TI)->Prop
 | []=>True
 |p::r=>pU Pg p.1 p.2/\ah3 Pg r
theorem af5 {Pg:Program} (rows:List (Nat×TI)) (h:ah3 Pg rows):iC Pg fun t=>rows.lookup t:=by
 intro t i ht
 induction rows with
 |nil=>cases ht
 |cons p r ih=>
  obtain ⟨h1,h2⟩:=h;simp only [List.lookup] at ht;split at ht
  .rename_i e;have e:t=p.1:=by simpa using e
   simp only [Q0] at ht;subst ht;subst e;exact h1
  .exact ih h2 ht
theorem wrap64 {x:Int} (h1:-9223372036854775808<=x) (h2:x<=9223372036854775807):IntKind.i64.wrap x=x:=by
 have e:IntKind.i64.wrap x=if x % 18446744073709551616≥9223372036854775808 then x % 18446744073709551616-18446744073709551616 else x % 18446744073709551616:=by
  simp [IntKind.wrap,IntKind.bits,IntKind.signed]
 rw [e];split<;>omega
end Go.Fw

namespace Go.Fg
open Go.Fw
section
variable [RE]
theorem wH :∀{l:List (Nat×iM×Option (List Wd))} {r:Ren} {t:Nat} {k:iM} {u:List Wd},(t,k,some u)∈l->(MJ l++r).lookup t=some (some t)
 | [],r,t,k,u,h=>by cases h
 |(t0,k0,some u0)::l,r,t,k,u,h=>by
  simp only [MJ,K4,List.lookup,GX];cases hb:Nat.beq t t0 with
  |true=>have:=Q4 hb;subst this;rfl
  |false=>
   rcases QP.1 h with h | h
   .cases h;simp at hb
   .exact wH h
 |(t0,k0,none)::l,r,t,k,u,h=>by
  rcases QP.1 h with h | h
  .cases h
  .exact wH (l:=l) h
structure JOk (st:jH) (j:JF):Prop where
 s:SG st.gs j.slots
 o:XQ st.go j.bg
 ds :∀t k u,(t,k,some u)∈j.slots->fM t (newS j.slots)=false
 dO :∀t k u,(t,k,some u)∈j.bg->fM t (rH j.bg)=false
theorem Es {nw:List Nat} :∀{l:List (Nat×kN×Option (List Wd))},acH nw l=true->∀t k u,(t,k,some u)∈l->fM t nw=false
 | [],h,t,k,u,hm=>by cases hm
 |(t0,k0,some u0)::l,h,t,k,u,hm=>by
  simp only [acH,Q6,W6] at h;rcases QP.1 hm with hm | hm
  .cases hm;exact h.1
  .exact Es h.2 t k u hm
 |(t0,k0,none)::l,h,t,k,u,hm=>by
  rcases QP.1 hm with hm | hm
  .cases hm
  .exact Es (l:=l) h t k u hm
theorem Et {nw:List Nat} :∀{l:List (Nat×iM×Option (List Wd))},acI nw l=true->∀t k u,(t,k,some u)∈l->fM t nw=false
 | [],h,t,k,u,hm=>by cases hm
 |(t0,k0,some u0)::l,h,t,k,u,hm=>by
  simp only [acI,Q6,W6] at h;rcases QP.1 hm with hm | hm
  .cases hm;exact h.1
  .exact Et h.2 t k u hm
 |(t0,k0,none)::l,h,t,k,u,hm=>by
  rcases QP.1 hm with hm | hm
  .cases hm
  .exact Et (l:=l) h t k u hm
theorem VI {st:jH} {jt:JT} {j:JF} (h:jOf st jt=some j):JOk st j:=by
 unfold jOf at h;split at h
 .rename_i h1 h2;split at h
  .rename_i hd;simp only [Q0] at h;subst h;simp only [Q6] at hd;exact ⟨yP h1,AX h2,Es hd.1,Et hd.2⟩
  .cases h
 .cases h
theorem JR {st:jH} {j:JF} (hj:JOk st j) (x:Tup j.tys):(j.pay (Tup.kE j.tys x)).map (·.t)=j.sh.tys:=by
 have slots :∀(l:List (Nat×kN×Option (List Wd))) (hk :∀t k u,(t,k,some u)∈l->u.map (·.t)=k.tys) (ws rest:List Wd),ws.map (·.t)=jK l->(mM l (ws++rest)).1.map (·.t)=(l.map fun p=>(p.1,p.2.1)).flatMap (fun p=>p.2.tys)/\(mM l (ws++rest)).2=rest:=by
  intro l
  induction l with
  |nil=>intro hk ws rest h;simp only [jK,List.map_eq_nil_iff] at h;subst h;exact ⟨rfl,rfl⟩
  |cons p l ih=>
   intro hk ws rest h;obtain ⟨t,k,ou⟩:=p;cases ou with
   |some u=>
    obtain ⟨a1,a2⟩:=ih (fun t k u hm=>hk t k u (by simp [hm])) ws rest h;exact ⟨by simp only [mM,XX,Qf,Z6,a1,hk t k u (by simp)],a2⟩
   |none=>
    simp only [jK] at h;have hl:k.tys.length<=ws.length:=by
     have:=congrArg List.length h;simp only [W2,YY] at this;omega
    have h1:(ws.take k.tys.length).map (·.t)=k.tys:=by rw [V1,h,K5]
    have h2:(ws.drop k.tys.length).map (·.t)=jK l:=by rw [WK,h,Uq]
    have e1:(ws++rest).take k.tys.length=ws.take k.tys.length:=K0 hl;have e2:(ws++rest).drop k.tys.length=ws.drop k.tys.length++rest:=J0 hl;obtain ⟨a1,a2⟩:=ih (fun t k u hm=>hk t k u (by simp [hm])) _ rest h2;simp only [mM,e1,e2];exact ⟨by simp only [XX,Qf,Z6,a1,h1],a2⟩
 have bg :∀(l:List (Nat×iM×Option (List Wd))) (hk :∀t k u,(t,k,some u)∈l->u.map (·.t)=k.tys) (ws rest:List Wd),ws.map (·.t)=pJ l->(qO l (ws++rest)).1.map (·.t)=(l.map fun p=>(p.1,p.2.1)).flatMap (fun p=>p.2.tys)/\(qO l (ws++rest)).2=rest:=by
  intro l
  induction l with
  |nil=>intro hk ws rest h;simp only [pJ,List.map_eq_nil_iff] at h;subst h;exact ⟨rfl,rfl⟩
  |cons p l ih=>
   intro hk ws rest h;obtain ⟨t,k,ou⟩:=p;cases ou with
   |some u=>
    obtain ⟨a1,a2⟩:=ih (fun t k u hm=>hk t k u (by simp [hm])) ws rest h;exact ⟨by simp only [qO,XX,Qf,Z6,a1,hk t k u (by simp)],a2⟩
   |none=>
    simp only [pJ] at h;have hl:k.tys.length<=ws.length:=by
     have:=congrArg List.length h;simp only [W2,YY] at this;omega
    have h1:(ws.take k.tys.length).map (·.t)=k.tys:=by rw [V1,h,K5]
    have h2:(ws.drop k.tys.length).map (·.t)=pJ l:=by rw [WK,h,Uq]
    have e1:(ws++rest).take k.tys.length=ws.take k.tys.length:=K0 hl;have e2:(ws++rest).drop k.tys.length=ws.drop k.tys.length++rest:=J0 hl;obtain ⟨a1,a2⟩:=ih (fun t k u hm=>hk t k u (by simp [hm])) _ rest h2;simp only [qO,e1,e2];exact ⟨by simp only [XX,Qf,Z6,a1,h1],a2⟩
 have hS :∀t k u,(t,k,some u)∈j.slots->u.map (·.t)=k.tys:=fun t k u hm=>XP (hj.s t k u hm);have hO :∀t k u,(t,k,some u)∈j.bg->u.map (·.t)=k.tys:=fun t k u hm=>af4 (hj.o t k u hm);have hx:(Tup.kE j.tys x).map (·.t)=jK j.slots++pJ j.bg:=qU _ _;generalize Tup.kE j.tys x=ws at hx;obtain ⟨w1,w2,rfl,h1,h2⟩ :∃w1 w2,ws=w1++w2/\w1.map (·.t)=jK j.slots/\w2.map (·.t)=pJ j.bg:=by
  refine ⟨ws.take (jK j.slots).length,ws.drop (jK j.slots).length,(Jn _ _).symm,?_,?_⟩
  .rw [V1,hx,K5]
  .rw [WK,hx,Uq]
 obtain ⟨a1,a2⟩:=slots j.slots hS w1 w2 h1;have ob:=bg j.bg hO w2 [] h2;rw [Kg] at ob;unfold JF.pay;rw [a2,XX,a1,ob.1];rfl
theorem Eu {s:Nat->TS} :∀{l:List (Nat×kN×Option (List Wd))} {pre post ws rest:List Wd} {t:Nat},SG s l->ws.map (·.t)=jK l->hasK t (gB (pre++(mM l (ws++rest)).1++post) pre.length (l.map fun p=>(p.1,p.2.1))).1=true->fM t (newS l)=false->
  jm .no (gB (pre++(mM l (ws++rest)).1++post) pre.length (l.map fun p=>(p.1,p.2.1))).1 t=s t/\∃k u,(t,k,some u)∈l
 | [],pre,post,ws,rest,t,hk,hw,h,hn=>by cases h
 |(t0,k,some u)::l,pre,post,ws,rest,t,hk,hw,h,hn=>by
  have hu:=hk t0 k u (by simp);have hmk:=af0 (vs:=pre++(u++(mM l (ws++rest)).1)++post) (n:=pre.length) hu (fun j w hj=>by
   rw [Wf,W7 (by omega),KK,Wf,Wc (Q3.1 hj).1];exact hj)
  simp only [mM,Qf,gB,hmk.1,CU,<-hmk.2] at h ⊢;have e:pre++(u++(mM l (ws++rest)).1)++post=(pre++u)++(mM l (ws++rest)).1++post:=by simp only [Wf]
  rw [e] at h ⊢;have en:pre.length+u.length=(pre++u).length:=by rw [YY]
  rw [en] at h ⊢;simp only [hasK,jm] at h ⊢;cases hb:Nat.beq t t0 with
  |true=>
   have:=Q4 hb;subst this;exact ⟨rfl,k,u,by simp⟩
  |false=>
   rw [hb,J1] at h;obtain ⟨a1,k',u',a2⟩:=Eu (l:=l) (pre:=pre++u) (fun t k u hm=>hk t k u (by simp [hm])) hw h hn;exact ⟨a1,k',u',by simp [a2]⟩
 |(t0,k,none)::l,pre,post,ws,rest,t,hk,hw,h,hn=>by
  simp only [jK] at hw;simp only [newS,fM,Vn] at hn;have hl:k.tys.length<=ws.length:=by
   have:=congrArg List.length hw;simp only [W2,YY] at this;omega
  have h2:(ws.drop k.tys.length).map (·.t)=jK l:=by rw [WK,hw,Uq]
  have e1:(ws++rest).take k.tys.length=ws.take k.tys.length:=K0 hl;have e2:(ws++rest).drop k.tys.length=ws.drop k.tys.length++rest:=J0 hl;have hlen:(ws.take k.tys.length).length=k.tys.length:=by rw [UP];omega
  simp only [mM,Qf,gB,CU,e1,e2] at h ⊢;have e:pre++(ws.take k.tys.length++(mM l (ws.drop k.tys.length++rest)).1)++post=(pre++ws.take k.tys.length)++(mM l (ws.drop k.tys.length++rest)).1++post:=by simp only [Wf]
  rw [e] at h ⊢;have en:pre.length+k.tys.length=(pre++ws.take k.tys.length).length:=by rw [YY,hlen]
  rw [en] at h ⊢;simp only [hasK,jm,hn.1,J1,cond_false] at h ⊢;obtain ⟨a1,k',u',a2⟩:=Eu (pre:=pre++ws.take k.tys.length) (fun t k u hm=>hk t k u (by simp [hm])) h2 h hn.2;exact ⟨a1,k',u',by simp [a2]⟩
theorem JU {s:Nat->TO} :∀{l:List (Nat×iM×Option (List Wd))} {pre post ws rest:List Wd} {t:Nat},XQ s l->ws.map (·.t)=pJ l->hasK t (jP (pre++(qO l (ws++rest)).1++post) pre.length (l.map fun p=>(p.1,p.2.1))).1=true->fM t (rH l)=false->
  jm .none (jP (pre++(qO l (ws++rest)).1++post) pre.length (l.map fun p=>(p.1,p.2.1))).1 t=s t/\∃k u,(t,k,some u)∈l
 | [],pre,post,ws,rest,t,hk,hw,h,hn=>by cases h
 |(t0,k,some u)::l,pre,post,ws,rest,t,hk,hw,h,hn=>by
  have hu:=hk t0 k u (by simp);have hmk:=af2 (vs:=pre++(u++(qO l (ws++rest)).1)++post) (n:=pre.length) hu (fun j w hj=>by
   rw [Wf,W7 (by omega),KK,Wf,Wc (Q3.1 hj).1];exact hj)
  simp only [qO,Qf,jP,hmk.1,Jw,<-hmk.2] at h ⊢;have e:pre++(u++(qO l (ws++rest)).1)++post=(pre++u)++(qO l (ws++rest)).1++post:=by simp only [Wf]
  rw [e] at h ⊢;have en:pre.length+u.length=(pre++u).length:=by rw [YY]
  rw [en] at h ⊢;simp only [hasK,jm] at h ⊢;cases hb:Nat.beq t t0 with
  |true=>
   have:=Q4 hb;subst this;exact ⟨rfl,k,u,by simp⟩
  |false=>
   rw [hb,J1] at h;obtain ⟨a1,k',u',a2⟩:=JU (l:=l) (pre:=pre++u) (fun t k u hm=>hk t k u (by simp [hm])) hw h hn;exact ⟨a1,k',u',by simp [a2]⟩
 |(t0,k,none)::l,pre,post,ws,rest,t,hk,hw,h,hn=>by
  simp only [pJ] at hw;simp only [rH,fM,Vn] at hn;have hl:k.tys.length<=ws.length:=by
   have:=congrArg List.length hw;simp only [W2,YY] at this;omega
  have h2:(ws.drop k.tys.length).map (·.t)=pJ l:=by rw [WK,hw,Uq]
  have e1:(ws++rest).take k.tys.length=ws.take k.tys.length:=K0 hl;have e2:(ws++rest).drop k.tys.length=ws.drop k.tys.length++rest:=J0 hl;have hlen:(ws.take k.tys.length).length=k.tys.length:=by rw [UP];omega
  simp only [qO,Qf,jP,Jw,e1,e2] at h ⊢;have e:pre++(ws.take k.tys.length++(qO l (ws.drop k.tys.length++rest)).1)++post=(pre++ws.take k.tys.length)++(qO l (ws.drop k.tys.length++rest)).1++post:=by simp only [Wf]
  rw [e] at h ⊢;have en:pre.length+k.tys.length=(pre++ws.take k.tys.length).length:=by rw [YY,hlen]
  rw [en] at h ⊢;simp only [hasK,jm,hn.1,J1,cond_false] at h ⊢;obtain ⟨a1,k',u',a2⟩:=JU (pre:=pre++ws.take k.tys.length) (fun t k u hm=>hk t k u (by simp [hm])) h2 h hn.2;exact ⟨a1,k',u',by simp [a2]⟩
end
end Go.Fg

namespace Go.Fg
open Go.Fw
section
variable [RE]
theorem Z7 {st:jH} {j:JF} (x:Tup j.tys) :∃w1 w2,Tup.kE j.tys x=w1++w2/\w1.map (·.t)=jK j.slots/\w2.map (·.t)=pJ j.bg:=by
 have hx:(Tup.kE j.tys x).map (·.t)=jK j.slots++pJ j.bg:=qU _ _;generalize Tup.kE j.tys x=ws at hx;exact ⟨ws.take (jK j.slots).length,ws.drop (jK j.slots).length,(Jn _ _).symm,by rw [V1,hx,K5],by rw [WK,hx,Uq]⟩
theorem Ew :∀{l:List (Nat×kN×Option (List Wd))} {ws rest:List Wd},ws.map (·.t)=jK l->(mM l (ws++rest)).2=rest
 | [],ws,rest,h=>by simp only [jK,List.map_eq_nil_iff] at h;subst h;rfl
 |(t,k,some u)::l,ws,rest,h=>Ew (l:=l) h
 |(t,k,none)::l,ws,rest,h=>by
  simp only [jK] at h;have hl:k.tys.length<=ws.length:=by
   have:=congrArg List.length h;simp only [W2,YY] at this;omega
  have h2:(ws.drop k.tys.length).map (·.t)=jK l:=by rw [WK,h,Uq]
  have e2:(ws++rest).drop k.tys.length=ws.drop k.tys.length++rest:=J0 hl;simp only [mM,e2];exact Ew h2
theorem Ey {st:jH} {j:JF} (hj:JOk st j) (x:Tup j.tys):(∀t,hasK t (qQ j x).s=true->fM t (newS j.slots)=false->(qQ j x).gs t=st.gs t/\∃k u,(t,k,some u)∈j.slots)/\
  ∀g,hasK g (qQ j x).o=true->fM g (rH j.bg)=false->(qQ j x).go g=st.go g/\∃k u,(g,k,some u)∈j.bg:=by
 obtain ⟨w1,w2,hw,h1,h2⟩:=Z7 (st:=st) x;have hr:=Ew (rest:=w2) h1;have hp:j.pay (Tup.kE j.tys x)=(mM j.slots (w1++w2)).1++(qO j.bg w2).1:=by rw [hw];unfold JF.pay;rw [hr]
 have hs:=fun t a b=>Eu (pre:=[]) (post:=(qO j.bg w2).1) (rest:=w2) (t:=t) hj.s h1 a b;have ho:=fun t a b=>JU (pre:=(mM j.slots (w1++w2)).1) (post:=[]) (rest:=[]) (t:=t) hj.o h2 a b;simp only [KV,Jx] at hs;simp only [Kg] at ho;rw [<-hp] at hs ho;have hty:=JR hj x;have hn:(gB (j.pay (Tup.kE j.tys x)) 0 j.sh.slots).2=(mM j.slots (w1++w2)).1.length:=by
  rw [wE,WD];rw [hp] at hty;have hS :∀(l:List (Nat×kN×Option (List Wd))) (hk:SG st.gs l) (ws rest:List Wd),ws.map (·.t)=jK l->(mM l (ws++rest)).1.length=((l.map fun p=>(p.1,p.2.1)).flatMap fun p=>p.2.tys).length:=by
   intro l
   induction l with
   |nil=>intro hk ws rest h;rfl
   |cons p l ih=>
    intro hk ws rest h;obtain ⟨t,k,ou⟩:=p;cases ou with
    |some u=>
     have e:=XP (hk t k u (by simp));have e:=congrArg List.length e;rw [W2] at e;simp only [mM,YY,Qf,Z6,e];rw [ih (fun t k u hm=>hk t k u (by simp [hm])) ws rest h]
    |none=>
     simp only [jK] at h;have hl:k.tys.length<=ws.length:=by
      have:=congrArg List.length h;simp only [W2,YY] at this;omega
     have h2:(ws.drop k.tys.length).map (·.t)=jK l:=by rw [WK,h,Uq]
     have e1:(ws++rest).take k.tys.length=ws.take k.tys.length:=K0 hl;have e2:(ws++rest).drop k.tys.length=ws.drop k.tys.length++rest:=J0 hl;simp only [mM,e1,e2,YY,Qf,Z6,UP];rw [ih (fun t k u hm=>hk t k u (by simp [hm])) _ rest h2];omega
  exact (hS j.slots hj.s w1 w2 h1).symm
 refine ⟨fun t a b=>hs t a b,fun g a b => ?_⟩;have e1:(qQ j x).o=(jP (j.pay (Tup.kE j.tys x)) (mM j.slots (w1++w2)).1.length (j.bg.map fun p=>(p.1,p.2.1))).1:=by
  rw [<-hn];rfl
 have e2:(qQ j x).go g=jm .none (jP (j.pay (Tup.kE j.tys x)) (mM j.slots (w1++w2)).1.length (j.bg.map fun p=>(p.1,p.2.1))).1 g:=by
  rw [<-hn];rfl
 rw [e1] at a;rw [e2];exact ho g a b
theorem O_ {gs:List Nat} {o:Nat->TO} (hp:Pl o gs) (x:TW):bU (tpW gs o x)=Xf gs (bV o) (bU x):=by
 cases x with
 |own g=>
  simp only [tpW,bU,Xf,bT];cases hc:gs.contains g with
  |false=>rfl
  |true=>
   obtain ⟨⟨a,i,e,l⟩,hg⟩:=hp g (by simpa using hc);simp only [cond_true,if_true,hg,(oO hg).1];rfl
 |vw g lo hi=>
  simp only [tpW,bU,Xf,bT];cases hc:gs.contains g with
  |false=>rfl
  |true=>
   obtain ⟨⟨a,i,e,l⟩,hg⟩:=hp g (by simpa using hc);simp only [cond_true,if_true,hg,(oO hg).1,rZ];rfl
 |_=>simp only [tpW,bU,Xf]
theorem XR {gs:List Nat} {o:Nat->TO} (hp:Pl o gs) (x:TV):jL (tpV gs o x)=plV gs (bV o) (jL x):=by
 cases x with
 |one x=>simp only [tpV,jL,plV,O_ hp]
 |agg xs=>
  simp only [tpV,jL,plV,VV,V.agg.injEq];exact Wa fun x _=>O_ hp x
theorem af6 {gs:List Nat} {o:Nat->TO} (hp:Pl o gs) (x:TS):bn (tpS gs o x)=plS gs (bV o) (bn x):=by
 cases x with
 |v x=>simp only [tpS,bn,plS,XR hp]
 |jM xs=>
  simp only [tpS,bn,plS,VV,S.jM.injEq];exact Wa fun x _=>XR hp x
 |no=>rfl
theorem JV {α:Type} (d:α) (f:Nat->α->α) (hd :∀t,f t d=d) :∀(l:List (Nat×α)) (t:Nat),jm d (l.map fun p=>(p.1,f p.1 p.2)) t=f t (jm d l t)
 | [],t=>(hd t).symm
 |(k,v)::r,t=>by
  simp only [Qf,jm];cases hb:Nat.beq t k with
  |true=>have:=Q4 hb;subst this;rfl
  |false=>exact JV d f hd r t
theorem XT (gs:List Nat) (st:jH) (t:Nat):(Js gs st).gs t=match gs with | []=>st.gs t | g::r=>tpS (g::r) st.go (st.gs t):=by
 cases gs with
 |nil=>rfl
 |cons g r=>exact JV .no (fun _ x=>tpS (g::r) st.go x) (fun _=>rfl) st.s t
theorem XU (gs:List Nat) (st:jH) (t:Nat):(Js gs st).go t=match gs with | []=>st.go t | g::r=>tpO (g::r) st.go t (st.go t):=by
 cases gs with
 |nil=>rfl
 |cons g r=>exact JV .none (fun t x=>tpO (g::r) st.go t x) (fun _=>rfl) st.o t
theorem Ph (o:Nat->O) (x:W):Xf [] o x=x:=by
 unfold Xf;split<;>first | rfl | simp
theorem XV (o:Nat->O) (x:V):plV [] o x=x:=by
 cases x with
 |one x=>simp only [plV,Ph]
 |agg xs=>
  simp only [plV,V.agg.injEq]
  conv=>rhs;rw [<-List.map_id xs]
  exact Wa fun x _=>Ph o x
theorem Pj (st:St):fA [] st=st:=by
 refine St.ext' (fun t => ?_) (fun g => ?_) fun g=>rfl
 .show plS [] st.o (st.s t)=st.s t;cases st.s t with
  |v x=>simp only [plS,XV]
  |jM xs=>
   simp only [plS,S.jM.injEq]
   conv=>rhs;rw [<-List.map_id xs]
   exact Wa fun x _=>XV _ x
  |no=>rfl
 .show plO [] st.o g=st.o g;unfold plO;cases st.o g with
  |box ws=>
   simp only [O.box.injEq]
   conv=>rhs;rw [<-List.map_id ws]
   exact Wa fun x _=>Ph _ x
  |_=>simp
theorem JW {gs:List Nat} {st:jH} (hp:Pl st.go gs):aT (Js gs st)=fA gs (aT st):=by
 cases gs with
 |nil=>rw [Pj];rfl
 |cons g r=>
  refine St.ext' (fun t => ?_) (fun k => ?_) fun k=>rfl
  .show bn ((Js (g::r) st).gs t)=plS (g::r) (bV st.go) (bn (st.gs t));rw [XT];exact af6 hp _
  .show d_ ((Js (g::r) st).go k)=plO (g::r) (bV st.go) k;rw [XU];simp only;have hk:bV st.go k=d_ (st.go k):=rfl;cases ho:st.go k with
   |none=>
    have hd:bV st.go k=.none:=by rw [hk,ho];rfl
    simp only [tpO,plO,hd];split
    .simp [Fw.aU,plainO,hd,d_]
    .rfl
   |box ws=>
    simp only [tpO,plO,oN ho,d_,VV,O.box.injEq];exact Wa fun x _=>O_ hp x
   |arr fz a i e l=>
    simp only [tpO,plO,h_ ho,d_,bT];cases hc:(g::r).contains k with
    |false=>simp
    |true=>simp [Fw.aU,plainO,h_ ho]
   |it s n=>
    have hd:bV st.go k=.it (.str ⟨s.toArray⟩) (.int .i64 n):=by rw [hk,ho];rfl
    simp only [tpO,plO,hd];split
    .simp [Fw.aU,plainO,hd,d_]
    .rfl
   |aO a i e aj l hole=>
    have hd:bV st.go k=.aO a i (size e) (iQ aj) (aG e l) hole:=by rw [hk,ho];rfl
    simp only [tpO,plO,hd,bT];cases hc:(g::r).contains k with
    |false=>simp only [cond_false,W4,if_false];rfl
    |true=>
     simp only [cond_true,if_true];have:=Jd (hp k (by simpa using hc));rw [this]
theorem ac2 {gs:List Nat} {o:Nat->TO} {x:TW} (h:(W.namesT x).all (fun g=>!fM g gs)=true):tpW gs o x=x:=by
 cases x with
 |own g=>
  have h:fM g gs=false:=by simpa [W.namesT] using h
  simp only [tpW,h,cond_false]
 |vw g lo hi=>
  have h:fM g gs=false:=by simpa [W.namesT] using h
  simp only [tpW,h,cond_false]
 |_=>rfl
theorem Pm {gs:List Nat} {o:Nat->TO} :∀{xs:List TW},((xs.flatMap W.namesT).all fun g=>!fM g gs)=true->xs.map (tpW gs o)=xs
 | [],_=>rfl
 |x::xs,h=>by
  simp only [Z6,List.all_append,Q6] at h;simp only [Qf,ac2 h.1,Pm h.2]
theorem ac3 {gs:List Nat} {o:Nat->TO} {x:TV} (h:((V.namesT x).all fun g=>!fM g gs)=true):tpV gs o x=x:=by
 cases x with
 |one x=>simp only [tpV,ac2 (x:=x) h]
 |agg xs=>simp only [tpV,Pm (xs:=xs) h]
theorem SH {gs:List Nat} {o:Nat->TO} {x:TS} (h:VE gs x=true):tpS gs o x=x:=by
 cases x with
 |v x=>simp only [tpS,ac3 (x:=x) h]
 |jM xs=>
  simp only [tpS,TS.jM.injEq];have :∀(xs:List TV),((xs.flatMap V.namesT).all fun g=>!fM g gs)=true->xs.map (tpV gs o)=xs:=by
   intro xs
   induction xs with
   |nil=>intro _;rfl
   |cons x xs ih=>
    intro h;simp only [Z6,List.all_append,Q6] at h;simp only [Qf,ac3 h.1,ih h.2]
  exact this xs h
 |no=>rfl
theorem SI {gs:List Nat} {o:Nat->TO} {g:Nat} {x:TO} (h:Jt gs g x=true):tpO gs o g x=x:=by
 cases x with
 |none=>rfl
 |box ws=>simp only [tpO,Pm (xs:=ws) h]
 |arr fz a i e l=>
  have h:fM g gs=false:=by simpa [Jt] using h
  simp only [tpO,h,Bool.or_false]
 |it s n=>rfl
 |aO a i e aj l hole=>
  have h:fM g gs=false:=by simpa [Jt] using h
  simp only [tpO,h,cond_false]
theorem Ez {gs:List Nat} {s:Nat->TS} :∀{l:List (Nat×kN×Option (List Wd))},acF gs s l=true->∀t k u,(t,k,some u)∈l->VE gs (s t)=true
 | [],h,t,k,u,hm=>by cases hm
 |(t0,k0,some u0)::l,h,t,k,u,hm=>by
  simp only [acF,Q6] at h;rcases QP.1 hm with hm | hm
  .cases hm;exact h.1
  .exact Ez h.2 t k u hm
 |(t0,k0,none)::l,h,t,k,u,hm=>by
  rcases QP.1 hm with hm | hm
  .cases hm
  .exact Ez (l:=l) h t k u hm
theorem EC {gs:List Nat} {s:Nat->TO} :∀{l:List (Nat×iM×Option (List Wd))},acG gs s l=true->∀t k u,(t,k,some u)∈l->Jt gs t (s t)=true
 | [],h,t,k,u,hm=>by cases hm
 |(t0,k0,some u0)::l,h,t,k,u,hm=>by
  simp only [acG,Q6] at h;rcases QP.1 hm with hm | hm
  .cases hm;exact h.1
  .exact EC h.2 t k u hm
 |(t0,k0,none)::l,h,t,k,u,hm=>by
  rcases QP.1 hm with hm | hm
  .cases hm
  .exact EC (l:=l) h t k u hm
theorem Pn {gs:List Nat} {st:jH} (h:afL st.go gs=true):afr (aT st).o gs=true/\Pl st.go gs:=by
 have hp:Pl st.go gs:=fun g hg=>by
  have:=(X2.1 h) g hg;simp only [plB,Q6] at this;cases hx:nU st.go g with
  |some p=>exact ⟨p,rfl⟩
  |none=>rw [hx] at this;cases this.1
 refine ⟨X2.2 fun g hg => ?_,hp⟩;obtain ⟨⟨a,i,e,l⟩,hx⟩:=hp g hg;have:=(X2.1 h) g hg;simp only [Q6] at this;obtain ⟨k1,k2⟩:=oO hx;have k1:plainO (aT st).o g=_:=k1;have k2:((aT st).o g).names=_:=k2;rw [k1,k2];simp only [Option.isSome_some,Bool.true_and];have h2:=this.2;simp only [bT] at h2;exact h2
theorem Z8 {o:Nat->TO} {g d:Nat} {a i:Bool} {e:Ty} {aj:List (Nat×Ty)} {l:List (Dt e)} (h1:Xq (o g)=some d) (h2:yB o g=some ⟨a,i,e,aj,l⟩):Fw.xO (bV o) g=iL [(g,.aO a i e aj l none),(d,.none)]:=by
 unfold yB at h2;cases ho:o g with
 |aO a0 i0 e0 kQ l0 hole=>
  rw [ho] at h1 h2;have hg:bV o g=.aO a0 i0 (size e0) (iQ kQ) (aG e0 l0) hole:=by simp [bV,ho,d_]
  rcases hole with _ | ⟨n,c,d'⟩
  .cases h1
  .simp only [Xq,Q0] at h1;subst h1;simp only at h2;cases hd:o d' with
   |arr fz a' i' e' l'=>
    rw [hd] at h2;cases fz with
    |true=>cases h2
    |false=>
     simp only at h2;split at h2
     .rename_i hc;cases h2;obtain ⟨k1,k2,k3⟩:=uF hc;simp only [Fw.xO,hg,h_ hd];rw [if_pos ⟨k1,k3⟩,<-Aq k2];rfl
     .cases h2
   |_=>rw [hd] at h2;cases h2
 |_=>rw [ho] at h1;cases h1
theorem VJ (st:jH) (u:List (Nat×TO)):aT { st with o:=Ei st.o u }=(aT st).aJ (iL u) []:=by
 refine St.ext' (fun t=>rfl) (fun g => ?_) fun g=>by simp [aT,St.aJ]
 show d_ (jm .none (Ei st.o u) g)=match (iL u).lookup g with | some x=>x | none=>d_ (jm .none st.o g)
 rw [yJ];have:(iL u).lookup g=(u.lookup g).map d_:=pK d_ g u;rw [this];cases u.lookup g<;>rfl
theorem lF (keep:List Nat) :∀(hs:List Nat) (st:jH),aT (mZ keep hs st).2=Fw.shuts (mZ keep hs st).1 (aT st)
 | [],st=>rfl
 |g::gs,st=>by
  simp only [mZ];split
  .rename_i d a i e aj l h1 h2;split
   .simp only [Fw.shuts];rw [lF keep gs,VJ];have:=Z8 h1 h2;have this:Fw.xO (aT st).o g=_:=this;rw [this]
   .exact lF keep gs st
  .exact lF keep gs st
theorem su {keep:List Nat} {t:Nat} (ht:fM t keep=true) :∀(hs:List Nat) (st:jH),(mZ keep hs st).2.go t=st.go t
 | [],st=>rfl
 |g::gs,st=>by
  simp only [mZ];split
  .rename_i d a i e aj l h1 h2;split
   .rename_i hk;obtain ⟨k1,k2⟩:=gV hk;rw [su ht gs];show jm .none (Ei st.o [(g,.aO a i e aj l none),(d,.none)]) t=jm .none st.o t;rw [yJ];have e1:(t==g)=false:=by
     simp only [beq_eq_false_iff_ne];intro e;subst e;rw [ht] at k1;cases k1
    have e2:(t==d)=false:=by
     simp only [beq_eq_false_iff_ne];intro e;subst e;rw [ht] at k2;cases k2
    simp only [List.lookup,e1,e2]
   .exact su ht gs st
  .exact su ht gs st
theorem C9 (keep:List Nat) :∀(hs:List Nat) (st:jH),(mZ keep hs st).2.s=st.s
 | [],st=>rfl
 |g::gs,st=>by
  simp only [mZ];split
  .split
   .rw [C9 keep gs]
   .exact C9 keep gs st
  .exact C9 keep gs st
theorem ED :∀{l:List (Nat×iM×Option (List Wd))} {t:Nat} {k:iM} {u:List Wd},(t,k,some u)∈l->fM t (zO l)=true
 | [],t,k,u,h=>by cases h
 |(t0,k0,some u0)::l,t,k,u,h=>by
  simp only [zO,fM,UX];rcases QP.1 h with h | h
  .cases h;exact .inl (by simp)
  .exact .inr (ED h)
 |(t0,k0,none)::l,t,k,u,h=>by
  rcases QP.1 h with h | h
  .cases h
  .exact ED (l:=l) h
theorem mO {R:Type} {aY:List Nat} {j:JF} {q0 q:jg} {K:Tup j.tys->Prog R} {r:R} (hj:JOk q0.st j) (hr:qV q0 q) (h:(qP aY j q K).run=some r) :
  ∃x,(K x).run=some r/\Back aY j.sh.er (aT q.st) fun vs=>vs=(j.pay (Tup.kE j.tys x)).map bZ:=by
 unfold qP at h;simp only at h;split at h
 .exact (bf h).elim
 .rename_i hk;obtain ⟨hk,h6⟩:=gV hk;obtain ⟨hk,h5⟩:=gV hk;obtain ⟨hk,h4⟩:=gV hk;obtain ⟨hk,h3⟩:=gV hk;obtain ⟨h1,h2⟩:=gV hk;have henc:=lF (zO j.bg) (Lh q.st.o) q.st;have hkeep:=fun t (ht:fM t (zO j.bg)=true)=>su ht (Lh q.st.o) q.st;have hss:=C9 (zO j.bg) (Lh q.st.o) q.st;generalize (mZ (zO j.bg) (Lh q.st.o) q.st).1=hs0 at henc;generalize (mZ (zO j.bg) (Lh q.st.o) q.st).2=st0 at h h3 h4 h5 h6 henc hkeep hss;generalize hgs:afM aY j.sh st0=gs at h h3 h4 h5 h6;split at h
  .exact (bf h).elim
  .rename_i vs hvs;split at h
   .exact (bf h).elim
   .rename_i x hx;refine ⟨x,h,?_⟩;have hpay:j.pay (Tup.kE j.tys x)=vs:=by
     rw [zq _ hx];unfold zn at hvs;split at hvs
     .split at hvs
      .rename_i u v hu hv;simp only [Q0] at hvs;subst hvs;have kS :∀t k u,(t,k,some u)∈j.slots->(Js gs st0).gs t=q0.st.gs t:=fun t k u hm=>by
        obtain ⟨a1,a2⟩:=AY h1 t k u hm;have a3:=Ez h5 t k u hm;have a4:st0.gs t=q.st.gs t:=by unfold jH.gs;rw [hss]
        rw [<-(hr.s t a1 a2).2.2,XT,<-a4];cases gs with
        |nil=>rfl
        |cons g r=>exact SH a3
       have kO :∀t k u,(t,k,some u)∈j.bg->(Js gs st0).go t=q0.st.go t/\(MJ j.bg++derive aY j.sh (Js gs st0)).lookup t=some (some t):=fun t k u hm=>by
        obtain ⟨a1,a2⟩:=AZ h2 t k u hm;have a3:=EC h6 t k u hm;refine ⟨?_,wH hm⟩;rw [<-(hr.o t a1 a2).2.2,XU,<-hkeep t (ED hm)];cases gs with
        |nil=>rfl
        |cons g r=>exact SI a3
       obtain ⟨e,e1,_,e3⟩:=CY (rest:=v) (lD:=[]) hj.s kS hu;obtain ⟨e',e1',_,e3'⟩:=CZ (rest:=[]) (lD:=[]) hj.o kO hv;obtain ⟨e2,e12,e22,_⟩:=CY (rest:=v) (lD:=e') hj.s kS hu;rw [e1] at e12;have:e=e2:=(Prod.mk.inj e12).1;subst this;obtain ⟨e4,e14,e24,_⟩:=CZ (rest:=[]) (lD:=[]) hj.o kO hv;rw [e1'] at e14;have:e'=e4:=(Prod.mk.inj e14).1;subst this;rw [Kg] at e1' e24;unfold JF.ext;rw [e1];simp only;rw [e1'];unfold JF.pay;simp only;rw [e22];simp only;rw [e24]
      .cases hvs
     .cases hvs
    rw [hpay];obtain ⟨c1,c2⟩:=AB hvs;obtain ⟨f1,f2⟩:=Pn h4;rw [JW f2,henc] at c1;rw [henc] at f1;exact .mk hs0 gs _ _ f1 h3 c1 rfl
theorem qV.fresh {q q':jg} (h:qV q.fresh q'):qV q (q'.since q):=by
 refine ⟨fun t h1 h2 => ?_,fun g h1 h2 => ?_⟩
 .have h2:fM t (q'.ds++q.ds)=false:=h2;rw [bT] at h2;simp only [qq,Vn] at h2;rw [<-bT,<-bT] at h2;obtain ⟨a1,a2,a3⟩:=h.s t h1 h2.1;exact ⟨a1,h2.2,a3⟩
 .have h2:fM g (q'.od++q.od)=false:=h2;rw [bT] at h2;simp only [qq,Vn] at h2;rw [<-bT,<-bT] at h2;obtain ⟨a1,a2,a3⟩:=h.o g h1 h2.1;exact ⟨a1,h2.2,a3⟩
theorem uQ {t:Nat} {a b:List Nat} (h:fM t (a++b)=false):fM t a=false/\fM t b=false:=by
 rw [bT] at h;simp only [qq,Vn] at h;rw [<-bT,<-bT] at h;exact h
theorem ac4 {st:jH} {t:Nat} (h:st.gs t≠.no):hasK t st.s=true:=by
 cases hk:hasK t st.s with
 |true=>rfl
 |false=>exact absurd (uO TS.no st.s t hk) h
theorem ac5 {st:jH} {t:Nat} (h:st.go t≠.none):hasK t st.o=true:=by
 cases hk:hasK t st.o with
 |true=>rfl
 |false=>exact absurd (uO TO.none st.o t hk) h
theorem XW {x:TS} {y:kN×List Wd} (h:OW x=some y):x≠.no:=by intro e;subst e;cases h
theorem XY {x:TO} {y:iM×List Wd} (h:xu x=some y):x≠.none:=by intro e;subst e;cases h
theorem XZ {q:jg} {j:JF} (hj:JOk q.st j) (x:Tup j.tys):qV q ⟨qQ j x,newS j.slots++q.ds,rH j.bg++q.od⟩:=by
 obtain ⟨hs,ho⟩:=Ey hj x;refine ⟨fun t h1 h2 => ?_,fun g h1 h2 => ?_⟩
 .obtain ⟨n1,n2⟩:=uQ (a:=newS j.slots) (b:=q.ds) h2;obtain ⟨a1,k,u,hm⟩:=hs t h1 n1;exact ⟨ac4 (XW (hj.s t k u hm)),n2,a1⟩
 .obtain ⟨n1,n2⟩:=uQ (a:=rH j.bg) (b:=q.od) h2;obtain ⟨a1,k,u,hm⟩:=ho g h1 n1;exact ⟨ac5 (XY (hj.o g k u hm)),n2,a1⟩
theorem MX {q q':jg} {j:JF} (hj:JOk q.st j) {x:Tup j.tys} (h:qV ⟨qQ j x,[],[]⟩ q'):qV q (q'.since ⟨q'.st,newS j.slots++q.ds,rH j.bg++q.od⟩):=by
 obtain ⟨hs,ho⟩:=Ey hj x;refine ⟨fun t h1 h2 => ?_,fun g h1 h2 => ?_⟩
 .obtain ⟨n1,n2⟩:=uQ (a:=q'.ds) (b:=newS j.slots++q.ds) h2;obtain ⟨n2,n3⟩:=uQ n2;obtain ⟨a1,a2,a3⟩:=h.s t h1 n1;obtain ⟨b1,k,u,hm⟩:=hs t a1 n2;exact ⟨ac4 (XW (hj.s t k u hm)),n3,a3.trans b1⟩
 .obtain ⟨n1,n2⟩:=uQ (a:=q'.od) (b:=rH j.bg++q.od) h2;obtain ⟨n2,n3⟩:=uQ n2;obtain ⟨a1,a2,a3⟩:=h.o g h1 n1;obtain ⟨b1,k,u,hm⟩:=ho g a1 n2;exact ⟨ac5 (XY (hj.o g k u hm)),n3,a3.trans b1⟩
theorem FU (vs:List Wd) (t:Nat) :∀(n:Nat) (l:List (Nat×kN)),hasK t (gB vs n l).1=hasK t l
 |n,[]=>rfl
 |n,(t0,k)::l=>by simp only [gB,hasK,FU vs t]
theorem FV (vs:List Wd) (t:Nat) :∀(n:Nat) (l:List (Nat×iM)),hasK t (jP vs n l).1=hasK t l
 |n,[]=>rfl
 |n,(t0,k)::l=>by simp only [jP,hasK,FV vs t]
theorem JX {α:Type} {t:Nat} {x:α} :∀{l:List (Nat×α)},(t,x)∈l->hasK t l=true
 | [],h=>by cases h
 |(t0,y)::l,h=>by
  simp only [hasK,UX];rcases QP.1 h with h | h
  .cases h;exact .inl (by simp)
  .exact .inr (JX h)
theorem X0 {st:jH} {j:JF} (hj:JOk st j) (x:Tup j.tys):JOk (qQ j x) j:=by
 obtain ⟨hs,ho⟩:=Ey hj x;refine ⟨fun t k u hm => ?_,fun t k u hm => ?_,hj.ds,hj.dO⟩
 .have hh:hasK t (qQ j x).s=true:=by
   show hasK t (gB _ 0 j.sh.slots).1=true;rw [FU];exact JX (x:=k) (QQ.2 ⟨(t,k,some u),hm,rfl⟩)
  rw [(hs t hh (hj.ds t k u hm)).1];exact hj.s t k u hm
 .have hh:hasK t (qQ j x).o=true:=by
   show hasK t (jP _ _ j.sh.bg).1=true;rw [FV];exact JX (x:=k) (QQ.2 ⟨(t,k,some u),hm,rfl⟩)
  rw [(ho t hh (hj.dO t k u hm)).1];exact hj.o t k u hm
structure KSm {R:Type} (q:jg) (K:TK R) (r:R) (Kp:vX):Prop where
 n :∀q',qV q q'->(K.n q').run=some r->Kp.n (aT q'.st)
 x :∀id q',qV q q'->(K.x id q').run=some r->Kp.x id (aT q'.st)
 r :∀q',qV q q'->(K.r q').run=some r->Kp.r (aT q'.st)
theorem KSm.from {R:Type} {q q1:jg} {K:TK R} {r:R} {Kp:vX} (h:KSm q K r Kp) (hr:qV q q1):KSm q1 K r Kp:=
 ⟨fun q' a b=>h.n q' (hr.trans a) b,fun id q' a b=>h.x id q' (hr.trans a) b,fun q' a b=>h.r q' (hr.trans a) b⟩
theorem C_ {R R':Type} {p:Prog R} {r:R} (h:(p.map (Sum.inr:R->R' ⊕ R)).run=some (.inr r)):p.run=some r:=by
 rw [run_map _ (fun a b e=>Sum.inr.inj e)] at h;cases hp:p.run with
 |none=>rw [hp] at h;cases h
 |some a=>rw [hp] at h;cases h;rfl
theorem qW {R R':Type} {p:Prog R} {x:R'} (h:(p.map (Sum.inr:R->R' ⊕ R)).run=some (.inl x)):False:=by
 rw [run_map _ (fun a b e=>Sum.inr.inj e)] at h;cases hp:p.run with
 |none=>rw [hp] at h;cases h
 |some a=>rw [hp] at h;cases h
theorem JY {R:Type} {aY:List Nat} {early:Bool} {jt:JT} {here:Nat->Bool} {q:jg} {inner:(R':Type)->jg->TK R'->Prog R'} {K:TK R} {r:R} {E:St->vX->Prop} {Kp:vX}
  (hin :∀(R':Type) (q':jg) (K':TK R') (r':R') (Kp':vX),(inner R' q' K').run=some r'->KSm q' K' r' Kp'->E (aT q'.st) Kp')
  (h:(MK aY early jt here q inner K).run=some r) (hK:KSm q K r Kp):E (aT q.st) { n:=Wk aY Kp.n,x:=fun id st=>bif here id then Wk aY Kp.n st else Kp.x id st,r:=Kp.r }:=by
 unfold MK at h;split at h
 .exact (bf h).elim
 .rename_i j hjo;have hj:=VI hjo;have hjf:JOk q.fresh.st j:=hj;have fin :∀(x:Tup j.tys),(frX ⟨qQ j x,newS j.slots++q.ds,rH j.bg++q.od⟩ K.n).run=some r->∀q':jg,Back aY j.sh.er (aT q'.st) (fun vs=>vs=(j.pay (Tup.kE j.tys x)).map bZ)->Wk aY Kp.n (aT q'.st):=by
   intro x hx q' hb;rw [oV] at hx;have hn:=hK.n _ (XZ hj x) hx;refine .back j.sh.er ?_;obtain ⟨hs,gs,m,vs,h0,h1,h2,rfl⟩:=hb;refine ⟨hs,gs,m,_,h0,h1,h2,?_⟩;have e:=qR (JR hj x);have hn:Kp.n (aT (mkT j.sh (j.pay (Tup.kE j.tys x)))):=hn;rw [e] at hn;exact hn
  split at h
  .obtain ⟨x,hi,hx⟩:=SC h;refine hin _ q.fresh _ x _ hi ⟨fun q' hr hq => ?_,fun id q' hr hq => ?_,fun q' hr hq=>(bf hq).elim⟩
   .obtain ⟨y,hy,hb⟩:=mO hjf hr hq;have hy:some y=some x:=hy;cases hy;exact fin _ hx q' hb
   .show (bif here id then Wk aY Kp.n (aT q'.st) else Kp.x id (aT q'.st));have hq:(bif here id then qP aY j q' .ret else .stuck 41:Prog _).run=some x:=hq;cases hh:here id with
    |true=>
     rw [hh] at hq;obtain ⟨y,hy,hb⟩:=mO hjf hr hq;have hy:some y=some x:=hy;cases hy;exact fin _ hx q' hb
    |false=>rw [hh] at hq;exact (bf hq).elim
  .rcases Z5 h with ⟨x,hi,hx⟩ | hi
   .refine hin _ q.fresh _ (Sum.inl x) _ hi ⟨fun q' hr hq => ?_,fun id q' hr hq => ?_,fun q' hr hq=>(qW hq).elim⟩
    .obtain ⟨y,hy,hb⟩:=mO hjf hr hq;have hy:some (Sum.inl y:Tup j.tys ⊕ R)=some (.inl x):=hy;cases hy;exact fin _ hx q' hb
    .show (bif here id then Wk aY Kp.n (aT q'.st) else Kp.x id (aT q'.st));have hq:(bif here id then qP aY j q' (fun x=>.ret (.inl x)) else (K.x id (q'.since q)).map .inr:Prog (Tup j.tys ⊕ R)).run=some (.inl x):=hq;cases hh:here id with
     |true=>
      rw [hh] at hq;obtain ⟨y,hy,hb⟩:=mO hjf hr hq;have hy:some (Sum.inl y:Tup j.tys ⊕ R)=some (.inl x):=hy;cases hy;exact fin _ hx q' hb
     |false=>rw [hh] at hq;exact (qW hq).elim
   .refine hin _ q.fresh _ (Sum.inr r) _ hi ⟨fun q' hr hq => ?_,fun id q' hr hq => ?_,fun q' hr hq => ?_⟩
    .obtain ⟨y,hy,hb⟩:=mO hjf hr hq;have hy:some (Sum.inl y:Tup j.tys ⊕ R)=some (.inr r):=hy;cases hy
    .show (bif here id then Wk aY Kp.n (aT q'.st) else Kp.x id (aT q'.st));have hq:(bif here id then qP aY j q' (fun x=>.ret (.inl x)) else (K.x id (q'.since q)).map .inr:Prog (Tup j.tys ⊕ R)).run=some (.inr r):=hq;cases hh:here id with
     |true=>
      rw [hh] at hq;obtain ⟨y,hy,hb⟩:=mO hjf hr hq;have hy:some (Sum.inl y:Tup j.tys ⊕ R)=some (.inr r):=hy;cases hy
     |false=>
      rw [hh] at hq;exact hK.x id (q'.since q) (qV.fresh hr) (C_ hq)
    .exact hK.r (q'.since q) (qV.fresh hr) (C_ hq)
theorem least {p:Nat->Prop}:(∃n,p n)->∃n,p n/\∀k,k<n->¬ p k:=by
 rintro ⟨n,hn⟩
 induction n using Nat.strongRecOn with
 |ind n ih=>
  by_cases h :∃k,k<n/\p k
  .obtain ⟨k,hk,hp⟩:=h;exact ih k hk hp
  .exact ⟨n,hn,fun k hk hp=>h ⟨k,hk,hp⟩⟩
open Classical in
noncomputable def JZ (p:Nat->Prop):Nat:=if h :∃n,p n then Classical.choose (least h) else 0
theorem FW {p:Nat->Prop} (h :∃n,p n):p (JZ p)/\∀k,p k->JZ p<=k:=by
 unfold JZ;rw [dif_pos h];obtain ⟨h1,h2⟩:=Classical.choose_spec (least h);exact ⟨h1,fun k hk=>qn fun hlt=>h2 k hlt hk⟩
theorem MZ (st:jH) (d:Tmp) (x:TS):aT (st.put (some d) x)=(aT st).put (some d) (bn x):=by
 refine St.ext' (fun t => ?_) (fun g=>rfl) fun g=>rfl;show bn (jm .no (xq d x st.s) t)=bif Nat.beq t d then bn x else bn (jm .no st.s t)
 rw [oU];cases Nat.beq t d<;>rfl
theorem ac6 {N:Nat} :∀(x:Code) {st st':jH},OY N x st=some st'->wQ N x (aT st)=some (aT st'):=by
 intro x
 induction x with
 |skip=>intro st st' h;simp only [OY,Q0] at h;subst h;rfl
 |region id ops draw=>
  intro st st' h;cases draw with
  |true=>simp [OY] at h
  |false=>
   simp only [OY] at h;split at h
   .rename_i o hops;split at h
    .rename_i d t hg hd ht;split at h
     .rename_i hlt;simp only [Q0] at h;subst h;simp only [wQ,hops,hg,hd,ht];rw [if_pos (by simpa using hlt),MZ];rfl
     .cases h
    .cases h
   .cases h
 |seq x y GH ihy=>
  intro st st' h;simp only [OY] at h;split at h
  .rename_i st1 h1;simp only [wQ,GH h1];exact ihy h
  .cases h
 |_=>intro st st' h;simp [OY] at h
theorem SK :∀(ps:List Tmp) (ws:List Wd) (st:jH),aT (rowT ps ws st)=yj ps (ws.map bZ) (aT st)
 |p::ps,x::xs,st=>by
  simp only [rowT,Qf,yj];rw [SK ps xs,MZ];rfl
 | [],ws,st=>by simp only [rowT,yj]
 |p::ps,[],st=>by simp only [rowT,Vv,yj]
theorem af7 {w:Wd} (h:Ty.lit w.t=true):(bZ w).lit=true:=by
 obtain ⟨t,x⟩:=w;cases t<;>first | rfl | cases h
theorem ac7 {sg:dB} {q:jg} {y:Tup sg.aQ.tys} (h:(outT sg q).run=some y):Back sg.aY sg.aQ.er (I4 (aT q.st)) fun vs=>vs=(Tup.kE sg.aQ.tys y).map bZ:=by
 unfold outT at h;simp only at h;split at h
 .exact (bf h).elim
 .rename_i hk;obtain ⟨hk,hk2⟩:=gV hk;split at h
  .exact (bf h).elim
  .rename_i vs hvs;split at h
   .exact (bf h).elim
   .rename_i x hx;have h:some x=some y:=h;cases h;obtain ⟨c1,c2⟩:=AB hvs;have e:aT { s:=[],o:=q.st.o,u:=q.st.u }=I4 (aT q.st):=St.ext' (fun t=>rfl) (fun g=>rfl) fun g=>rfl;obtain ⟨f1,f2⟩:=Pn hk2;rw [JW f2,lF,e] at c1;rw [lF,e] at f1;refine .mk _ _ _ _ f1 hk c1 ?_;rw [zq _ hx]
theorem Z9 {R:Type} {N:Nat} {sg:dB} {body:jg->TK (Tup sg.aQ.tys)->Prog (Tup sg.aQ.tys)} {ps:Array Tmp} {x:Code} {ws:List Wd} {q:jg} {K:jg->Prog R} {r:R} {B:List Nat->St->vX->Prop} {Kp:St->Prop}
  (hB :∀(qb:jg) (Kb:TK (Tup sg.aQ.tys)) (rb:Tup sg.aQ.tys) (Kq:vX),(body qb Kb).run=some rb->KSm qb Kb rb Kq->B sg.aY (aT qb.st) Kq)
  (h:(OZ N sg body ps x ws q K).run=some r) (hK :∀q',qV q q'->(K q').run=some r->Kp (aT q'.st)):abW N B ps.toList x (ws.map bZ) (aT q.st) Kp:=by
 unfold OZ at h;split at h
 .exact (bf h).elim
 rename_i st1 h1;split at h
 .exact (bf h).elim
 rename_i c hc;split at h
 .exact (bf h).elim
 rename_i hok;obtain ⟨hok,h5⟩:=gV hok;obtain ⟨hok,h4⟩:=gV hok;obtain ⟨h2,h3⟩:=gV hok;split at h
 .exact (bf h).elim
 rename_i z hz;obtain ⟨bW,ho,h⟩:=SC h;split at h
 rotate_left
 .exact (bf h).elim
 rename_i hfr;rw [oV] at ho h;have e1:=ac6 x h1;rw [SK] at e1;obtain ⟨k1,k2⟩:=AL hc;have e2:g_ sg.er (aT q.st).o ((List.range N).map (aT st1).s)=some c.er:=by
  have:((List.range N).map st1.gs).map bn=(List.range N).map (aT st1).s:=by rw [VV];rfl
  rw [<-this];exact k1
 have e3:(kJ sg (ps.getD 0 0) q.st.go c (Tup.kE sg.aQ.tys bW)).er=iJ sg.er (ps.getD 0 0) (aT q.st).o c.er ((Tup.kE sg.aQ.tys bW).map bZ):=FP (qU sg.aQ.tys bW) (MP hc);refine ⟨sg.er,_,_,(Tup.kE sg.aQ.tys bW).map bZ,ps.getD 0 0,h2,h3,Q4 h4,e1,e2,h5,?_,?_,?_⟩
 .have:=hB _ _ _ { n:=fun st2=>Back sg.er.aY sg.er.aQ (I4 st2) fun vs=>vs=(Tup.kE sg.aQ.tys bW).map bZ,x:=fun _ _=>False,r:=fun _=>False } ho ⟨fun q' _ hq=>ac7 hq,fun id q' _ hq=>(bf hq).elim,fun q' _ hq=>(bf hq).elim⟩;have e:=qR (j:=sg.pin) (qU _ z);simp only at this;rw [e,zq _ hz] at this;exact this
 .have hnew:=AP hfr;rw [<-e3];intro g hg;have:=X2.1 hnew g hg;simpa [aT] using this
 .have:=hK _ (qV.eff q none _) h;rw [Eo] at this;have e4:(aT q.st).eff none (kJ sg (ps.getD 0 0) q.st.go c (Tup.kE sg.aQ.tys bW)).er=(aT q.st).aJ (kJ sg (ps.getD 0 0) q.st.go c (Tup.kE sg.aQ.tys bW)).er.aJ (kJ sg (ps.getD 0 0) q.st.go c (Tup.kE sg.aQ.tys bW)).er.new:=rfl;rw [e4,e3] at this;exact this
theorem Z_ {T:mJ} {tt:TT} {ety:TypeId->Option Ty} {N:Nat} :∀(c:Code) {aY:List Nat} {R:Type} {a:fV} {q:jg} {K:TK R} {r:R} {Kp:vX},(lT T tt ety N aY c R a q K).run=some r->KSm q K r Kp->
  exec (nI T) tt N aY c (aT q.st) Kp:=by
 intro c
 induction c with
 |skip=>intro aY R a q K r Kp h hK;exact hK.n q (qV.refl q) h
 |region id ops draw=>
  intro aY R a q K r Kp h hK;show qh (nI T) tt N ops draw (aT q.st) (Wk aY Kp.n);have h:(match a with
   |.meet e j _=>MK aY e j (fun _=>false) q (fun _ q K=>wB T tt ety N ops draw q K.n) K
   |_=>wB T tt ety N ops draw q K.n).run=some r:=h
  have plain:(wB T tt ety N ops draw q K.n).run=some r->qh (nI T) tt N ops draw (aT q.st) (Wk aY Kp.n):=fun h=>JL h fun q' hr hq=>.now (hK.n q' hr hq);cases a with
  |meet e j a=>
   exact JY (E:=fun st K=>qh (nI T) tt N ops draw st K.n) (fun R' q' K' r' Kp' h hK'=>JL h fun q'' hr hq=>hK'.n q'' hr hq) h hK
  |_=>exact plain h
 |seq x y GH ihy=>
  intro aY R a q K r Kp h hK;refine GH h ⟨fun q' hr hq=>ihy hq (hK.from hr),hK.x,hK.r⟩
 |cond c x y GH ihy=>
  intro aY R a q K r Kp h hK;have body :∀(R:Type) (a:fV) (q:jg) (K:TK R) (r:R) (Kp:vX),(Xt c q (fun q=>lT T tt ety N aY x R a.fst q K) fun q=>lT T tt ety N aY y R a.snd q K).run=some r->KSm q K r Kp->(match (aT q.st).dJ c with
    |.v (.one (.p _ _ (.bool b)))=>bif b then exec (nI T) tt N aY x (aT q.st) Kp else exec (nI T) tt N aY y (aT q.st) Kp
    |_=>False):=by
   intro R a q K r Kp h hK;unfold Xt at h;split at h
   .rename_i a' i' b hb;change Bool at b;have hb':(aT q.st).dJ c=.v (.one (.p a' i' (.bool b))):=by rw [nV,hb];rfl
    rw [hb'];simp only;have kn:aT (knT c a' i' b q).st=aT q.st/\qV q (knT c a' i' b q):=by
     unfold knT;cases c with
     |tmp t=>
      have hb:q.st.gs t=.v (.one (.p a' i' (iU b))):=hb;exact ⟨yK hb,yL hb⟩
     |_=>exact ⟨rfl,qV.refl q⟩
    cases b with
    |true=>
     have h:(frX (knT c a' i' true q) fun q=>lT T tt ety N aY x R a.fst q K).run=some r:=h;rw [oV] at h;have:=GH h (hK.from kn.2);rw [kn.1] at this;exact this
    |false=>
     have h:(frX (knT c a' i' false q) fun q=>lT T tt ety N aY y R a.snd q K).run=some r:=h;rw [oV] at h;have:=ihy h (hK.from kn.2);rw [kn.1] at this;exact this
   .exact (bf h).elim
  cases a with
  |meet e j a=>
   exact JY (E:=fun st K=>match st.dJ c with
    |.v (.one (.p _ _ (.bool b)))=>bif b then exec (nI T) tt N aY x st K else exec (nI T) tt N aY y st K
    |_=>False) (fun R' q' K' r' Kp' h hK'=>body R' a q' K' r' Kp' h hK') h hK
  |nil=>exact body R .nil q K r { n:=Wk aY Kp.n,x:=Kp.x,r:=Kp.r } h ⟨fun q' a b=>.now (hK.n q' a b),hK.x,hK.r⟩
  |seq a b=>exact body R (.seq a b) q K r { n:=Wk aY Kp.n,x:=Kp.x,r:=Kp.r } h ⟨fun q' a b=>.now (hK.n q' a b),hK.x,hK.r⟩
  |range j s a=>exact body R (.range j s a) q K r { n:=Wk aY Kp.n,x:=Kp.x,r:=Kp.r } h ⟨fun q' a b=>.now (hK.n q' a b),hK.x,hK.r⟩
  |loop j a=>exact body R (.loop j a) q K r { n:=Wk aY Kp.n,x:=Kp.x,r:=Kp.r } h ⟨fun q' a b=>.now (hK.n q' a b),hK.x,hK.r⟩
 |block id c ih=>
  intro aY R a q K r Kp h hK;have plain :∀(a:fV),(lT T tt ety N aY c R a q { n:=K.n,x:=fun id' q'=>bif Nat.beq id' id then K.n q' else K.x id' q',r:=K.r }).run=some r->exec (nI T) tt N aY (.block id c) (aT q.st) Kp:=by
   intro a h;refine ih h ⟨fun q' hr hq=>.now (hK.n q' hr hq),fun id' q' hr hq => ?_,hK.r⟩;show (bif Nat.beq id' id then Wk aY Kp.n (aT q'.st) else Kp.x id' (aT q'.st));have hq:(bif Nat.beq id' id then K.n q' else K.x id' q').run=some r:=hq;cases hb:Nat.beq id' id with
   |true=>rw [hb] at hq;exact .now (hK.n q' hr hq)
   |false=>rw [hb] at hq;exact hK.x id' q' hr hq
  cases a with
  |meet e j a=>
   have:=JY (E:=fun st K=>exec (nI T) tt N aY c st K) (fun R' q' K' r' Kp' h hK'=>ih h hK') h hK;have e :∀id',Nat.beq id id'=Nat.beq id' id:=fun id'=>by rw [vp];simp;exact ⟨fun h=>h.symm,fun h=>h.symm⟩
   show exec (nI T) tt N aY c (aT q.st) { n:=Wk aY Kp.n,x:=fun id' st'=>bif Nat.beq id' id then Wk aY Kp.n st' else Kp.x id' st',r:=Kp.r };simp only [e] at this;exact this
  |nil=>exact plain _ h
  |seq a b=>exact plain _ h
  |loop j a=>exact plain _ h
  |range j s a=>exact plain _ h
 |loop c ih=>
  intro aY R a q K r Kp h hK;cases a with
  |loop jt a=>
   unfold lT at h;simp only at h;split at h
   .exact (bf h).elim
   .rename_i j hjo;have hj:=VI hjo;have hjf:JOk q.fresh.st j:=hj;obtain ⟨x0,hx0,hb0⟩:=mO hjf (qV.refl q.fresh) h;obtain ⟨n0,hn0⟩:=SE hx0;generalize hB:(fun z=>(frX ⟨qQ j z,[],[]⟩ fun q'=>lT T tt ety N aY c (Tup j.tys ⊕ R) a q'
      { n:=fun q'=>qP aY j q' fun x=>.ret (.inl x),x:=fun id q'=>(K.x id (q'.since ⟨q'.st,newS j.slots++q.ds,rH j.bg++q.od⟩)).map .inr,r:=fun q'=>(K.r (q'.since ⟨q'.st,newS j.slots++q.ds,rH j.bg++q.od⟩)).map .inr }).run)=B at hn0
    let P:List P->Nat->Prop:=fun vs n =>∃x,vs=(j.pay (Tup.kE j.tys x)).map bZ/\iV B n x=some r
    refine .mk j.sh.er (fun vs =>∃n,P vs n) (fun vs=>JZ (P vs)) ?_ ?_
    .obtain ⟨hs,gs,m,vs,h0,h1,h2,rfl⟩:=hb0;exact ⟨hs,gs,m,_,h0,h1,h2,n0,x0,rfl,hn0⟩
    .intro us hI;obtain ⟨⟨x,hus,hl⟩,hmin⟩:=FW hI;generalize hn:JZ (P us)=n at hl hmin;cases n with
     |zero=>cases hl
     |succ n=>
      simp only [iV] at hl;cases hb:B x with
      |none=>rw [hb] at hl;cases hl
      |some v=>
       rw [hb] at hl;have hb2:=hb;rw [<-hB] at hb2;simp only [oV] at hb2;have e:=qR (JR hj x);rw [<-hus] at e;rw [<-e];refine ih hb2 ⟨fun q' hr hq => ?_,fun id q' hr hq => ?_,fun q' hr hq => ?_⟩
       .obtain ⟨y,hy,hbk⟩:=mO (q0:=⟨qQ j x,[],[]⟩) (X0 hj x) hr hq;have hy:some (Sum.inl y:Tup j.tys ⊕ R)=some v:=hy;cases hy;have hl:iV B n y=some r:=hl;obtain ⟨hs,gs,m,vs,h0,h1,h2,rfl⟩:=hbk;have hP:P ((j.pay (Tup.kE j.tys y)).map bZ) n:=⟨y,rfl,hl⟩;refine ⟨hs,gs,m,_,h0,h1,h2,⟨n,hP⟩,?_⟩;have:=(FW ⟨n,hP⟩).2 n hP;omega
       .cases v with
        |inl y=>exact (qW hq).elim
        |inr r'=>
         have hl:some r'=some r:=hl;cases hl;exact hK.x id (q'.since ⟨q'.st,newS j.slots++q.ds,rH j.bg++q.od⟩) (MX hj hr) (C_ hq)
       .cases v with
        |inl y=>exact (qW hq).elim
        |inr r'=>
         have hl:some r'=some r:=hl;cases hl;exact hK.r (q'.since ⟨q'.st,newS j.slots++q.ds,rH j.bg++q.od⟩) (MX hj hr) (C_ hq)
  |nil=>exact (bf h).elim
  |seq a b=>exact (bf h).elim
  |meet e j a=>exact (bf h).elim
  |range j s a=>exact (bf h).elim
 |rangeFunc g ps x y GH ihy=>
  intro aY R a q K r Kp h hK;cases a with
  |range jt sg a=>
   unfold lT at h;simp only at h;split at h
   rotate_left
   .exact (bf h).elim
   rename_i ai ii e rows hcm hop;change List (Dt e) at rows;split at h
   rotate_left
   .exact (bf h).elim
   rename_i hok;obtain ⟨hok,hps⟩:=gV hok;obtain ⟨hlit,hlen⟩:=gV hok;split at h
   .exact (bf h).elim
   rename_i j hjo;have hj:=VI hjo;have hjf:JOk q.fresh.st j:=hj;obtain ⟨x0,hx0,hb0⟩:=mO hjf (qV.refl q.fresh) h;obtain ⟨n0,hn0⟩:=SE hx0;have hop':(aT q.st).dJ g=.v (.one (.p ai ii (.seq (List.map (jW e) rows)))):=by rw [nV,hop];rfl
   refine ⟨hcm,?_⟩;rw [hop'];simp only;have hrl :∀z:Dt e,(jW e z).length=ps.size/\(jW e z).all P.lit=true:=fun z=>by
    refine ⟨by rw [I_,<-jB];exact Q4 hlen,?_⟩;rw [gK,List.all_map,X2];intro w hw;refine af7 ?_;have:w.t∈iW e:=by rw [<-qK e z];exact QQ.2 ⟨w,hw,rfl⟩
    exact X2.1 hlit _ this
   refine ⟨?_,hps,?_⟩
   .rw [X2];intro row hm;obtain ⟨z,_,rfl⟩:=QQ.1 hm;simp only [Q6];exact ⟨by rw [(hrl z).1];simp,(hrl z).2⟩
   generalize hB:(fun zk:Tup j.tys×Nat=>(Prog.cond (Nat.blt zk.2 (List.length rows))
        (frX ⟨qQ j zk.1,[],[]⟩ fun q'=>OZ N sg (fun q K=>lT T tt ety N sg.aY y (Tup sg.aQ.tys) a q K) ps x (fH e (List.getD rows zk.2 (dflt e))) q' fun q''=>qP aY j q'' fun z'=>.ret (.inl (z',zk.2+1)))
        (frX ⟨qQ j zk.1,newS j.slots++q.ds,rH j.bg++q.od⟩ fun q'=>(K.n q').map .inr):Prog ((Tup j.tys×Nat) ⊕ R)).run)=B at hn0
   refine .mk j.sh.er (fun k us =>∃z,us=(j.pay (Tup.kE j.tys z)).map bZ/\∃n,iV B n (z,k)=some r) ?_ ?_ ?_
   .obtain ⟨hs,gs,m,vs,h0,h1,h2,rfl⟩:=hb0;exact ⟨hs,gs,m,_,h0,h1,h2,x0,rfl,n0,hn0⟩
   .rintro k row us hrow ⟨z,rfl,n,hl⟩;rw [XN] at hrow;obtain ⟨v,hv,rfl⟩:=ZD.1 hrow;have hk:k<List.length rows:=(Q3.1 hv).1;cases n with
    |zero=>cases hl
    |succ n=>
     simp only [iV] at hl;cases hb:B (z,k) with
     |none=>rw [hb] at hl;cases hl
     |some o=>
      rw [hb] at hl;have hb2:=hb;rw [<-hB] at hb2;simp only [Prog.run] at hb2;have hlt:Nat.blt k (List.length rows)=true:=by simpa using hk
      rw [hlt] at hb2;simp only [cond_true,oV] at hb2;have hg:List.getD rows k (dflt e)=v:=by rw [List.getD_eq_getElem?_getD,hv];rfl
      rw [hg] at hb2;have e1:=qR (JR hj z);have e2:jW e v=(fH e v).map bZ:=gK e v;rw [<-e1,e2];refine Z9 (q:=⟨qQ j z,[],[]⟩) (fun qb Kb rb Kq hb hKb=>ihy hb hKb) hb2 fun q' hr hq => ?_;obtain ⟨z',hz',hbk⟩:=mO (q0:=⟨qQ j z,[],[]⟩) (X0 hj z) hr hq;have hz':some (Sum.inl (z',k+1):(Tup j.tys×Nat) ⊕ R)=some o:=hz';cases hz';have hl:iV B n (z',k+1)=some r:=hl;obtain ⟨hs,gs,m,vs,h0,h1,h2,rfl⟩:=hbk;exact ⟨hs,gs,m,_,h0,h1,h2,z',rfl,n,hl⟩
   .rintro us ⟨z,rfl,n,hl⟩;cases n with
    |zero=>cases hl
    |succ n=>
     simp only [iV] at hl;cases hb:B (z,(List.map (jW e) rows).length) with
     |none=>rw [hb] at hl;cases hl
     |some o=>
      rw [hb] at hl;have hb2:=hb;rw [<-hB] at hb2;simp only [Prog.run] at hb2;have hlt:Nat.blt (List.map (jW e) rows).length (List.length rows)=false:=by
       rw [W2];cases hh:Nat.blt (List.length rows) (List.length rows) with
       |false=>rfl
       |true=>simp at hh
      rw [hlt] at hb2;simp only [cond_false,oV] at hb2;cases o with
      |inl y=>exact (qW hb2).elim
      |inr r'=>
       have hl:some r'=some r:=hl;cases hl;have:=hK.n _ (XZ hj z) (C_ hb2);have e1:=qR (JR hj z);rw [<-e1];exact .now this
  |nil=>exact (bf h).elim
  |seq a b=>exact (bf h).elim
  |meet e j a=>exact (bf h).elim
  |loop j a=>exact (bf h).elim
 |exit id=>intro aY R a q K r Kp h hK;exact hK.x id q (qV.refl q) h
 |ret=>intro aY R a q K r Kp h hK;exact hK.r q (qV.refl q) h
 |label l=>intro aY R a q K r Kp h hK;exact hK.n q (qV.refl q) h
 |scope c ih=>intro aY R a q K r Kp h hK;exact ih h hK
 |_=>intro aY R a q K r Kp h;exact (bf h).elim
end
end Go.Fg

namespace Go.Fg
open Go.Fw
section
variable [RE]
theorem ac8 {tt:TT} {st:jH} {r:ResultVar} {x:TS} (h:Xu tt st r=some x):Zy tt (aT st) r=some (bn x):=by
 cases r with
 |tmp t=>simp only [Xu,Q0] at h;subst h;rfl
 |cell a t=>
  simp only [Xu] at h;split at h
  .rename_i i g off ht hs;split at h
   .rename_i ws hg;obtain ⟨hb,h⟩:=bQ h;simp only [Q0] at h;subst h;obtain ⟨h1,h2⟩:=gV hb;have hs':(aT st).s a=.v (.one (.box g off)):=by show bn (st.gs a)=_;rw [hs];rfl
    have hg':(aT st).o g=.box (ws.map bU):=oN hg;simp only [Zy,ht,hs',hg',W2];rw [if_pos ⟨W3 h1,Jh h2⟩,lq,V1,WK]
   .cases h
  .cases h
theorem M_ {tt:TT} {st:jH} :∀{rs:List ResultVar} {xs:List TS},Ju tt st rs=some xs->Fv tt (aT st) rs=some (xs.map bn)
 | [],xs,h=>by simp only [Ju,Q0] at h;subst h;rfl
 |r::rs,xs,h=>by
  simp only [Ju] at h;split at h
  .rename_i h1 h2;simp only [Q0] at h;subst h;simp only [Fv,ac8 h1,M_ h2,Qf]
  .cases h
theorem SL :∀(xs:List TS) (n k:Nat),jm .no (VF n xs) (n+k)=xs.getD k .no
 | [],n,k=>rfl
 |x::xs,n,0=>by simp [VF,jm]
 |x::xs,n,k+1=>by
  have:Nat.beq (n+(k+1)) n=false:=by
   cases h:Nat.beq (n+(k+1)) n with
   |false=>rfl
   |true=>have:=Q4 h;omega
  simp only [VF,jm,this,cond_false,List.getD_cons_succ];have e:n+(k+1)=(n+1)+k:=by omega
  rw [e];exact SL xs (n+1) k
theorem X3 {tt:TT} {sp:dB} {ts:List ResultVar} {q:jg} {y:Tup sp.aQ.tys} (h:(afN tt sp ts q).run=some y):Fw.Fin tt sp.er ts ((Tup.kE sp.aQ.tys y).map bZ) (aT q.st):=by
 unfold afN at h;split at h
 .exact (bf h).elim
 .rename_i xs hxs;simp only at h;split at h
  .exact (bf h).elim
  .rename_i hk;obtain ⟨hk,hk2⟩:=gV hk;split at h
   .exact (bf h).elim
   .rename_i vs hvs;split at h
    .exact (bf h).elim
    .rename_i x hx;have h:some x=some y:=h;cases h;unfold Fw.Fin;rw [M_ hxs];simp only;obtain ⟨c1,c2⟩:=AB hvs;have e:aT { s:=VF 0 xs,o:=q.st.o,u:=q.st.u }=Ri (xs.map bn) (aT q.st):=by
      refine St.ext' (fun t => ?_) (fun g=>rfl) fun g=>rfl;show bn (jm .no (VF 0 xs) t)=(xs.map bn).getD t .no;have:=SL xs 0 t;rw [WD] at this;rw [this,MO]
     obtain ⟨f1,f2⟩:=Pn hk2;rw [JW f2,lF,e] at c1;rw [lF,e] at f1;refine .mk _ _ _ _ f1 hk c1 ?_;rw [zq _ hx]
def aA (Pg:Program) (f:FuncId) (sp:aW):Prop:=Sound Pg f sp.er
def mJ.of (l:List (Nat×aW)):mJ:=fun f=>l.lookup f
def aac (Pg:Program):List (Nat×aW)->Prop
 | []=>True
 |p::r=>aA Pg (p.1 % 1000000) p.2/\aac Pg r
theorem aac.sound {Pg:Program} :∀{l:List (Nat×aW)},aac Pg l->∀f sp,nI (mJ.of l) f=some sp->Sound Pg (f % 1000000) sp
 | [],_,f,sp,h=>by cases h
 |(g,s)::l,⟨h1,h2⟩,f,sp,h=>by
  simp only [nI,mJ.of,List.lookup] at h;split at h
  .rename_i e;have e:f=g:=by simpa using e
   subst e;cases h;exact h1
  .exact aac.sound h2 f sp h
theorem dV {Pg:Program} {f:FuncId} {fn:Func} {c:Code} {sp:aW} (hf:Pg.funcs[f]?=some fn) (hb:fn.body=some c) (hname:(fn.name == "runtime.NumGoroutine")=false) (hok:sp.sig.er.ok=true) (h :∀x,sp.f x=none):aA Pg f sp:=by
 refine ⟨hok,fun args w => ?_,fun E w vals gh ins bW hR => ?_⟩
 .have hname':¬ fn.name = "runtime.NumGoroutine" := by simpa using hname
  simp [callFunc,hf,hname',hb]
 .obtain ⟨x,y,hy,_⟩:=hR;have hy:=(O7 hy).1;rw [h x] at hy;cases hy
theorem wI (e:Ty) (l:List (Dt e)):(aG e l).length=List.length (α:=Dt e) l:=by simp [aG]
theorem EF {R:Type} {a b:Nat->TO} {K:Prog R} {y:R} :∀{gs:List Nat},(AA a b K gs).run=some y->K.run=some y/\∀g∈gs,(d_ (a g)).like (d_ (b g))
 | [],h=>⟨h,fun g hg=>by cases hg⟩
 |g::gs,h=>by
  unfold AA at h;have key :∀{x y:TO},RV x y=.yes->(d_ x).like (d_ y):=by
   intro x y hxy;cases x<;>cases y<;>simp only [RV] at hxy<;>first | trivial | (cases hxy) | (exfalso;revert hxy;cases Nat.beq _ _<;>intro hxy<;>cases hxy)
  have key2 :∀{x y:TO} {n m:Nat},RV x y=.len n m->n=m->(d_ x).like (d_ y):=by
   intro x y n m hxy hnm;cases x<;>cases y<;>simp only [RV] at hxy<;>first | (cases hxy) | skip
   .rename_i e l _ _ _ e' l';cases hb:Nat.beq (size e) (size e') with
    |false=>rw [hb] at hxy;cases hxy
    |true=>
     rw [hb] at hxy;cases hxy;exact ⟨Q4 hb,by rw [wI,wI];exact hnm⟩
   .rename_i e _ l _ _ _ e' _ l' _;cases hb:Nat.beq (size e) (size e') with
    |false=>rw [hb] at hxy;cases hxy
    |true=>
     rw [hb] at hxy;cases hxy;exact ⟨Q4 hb,by rw [wI,wI];exact hnm⟩
  split at h
  .rename_i hc;obtain ⟨h1,h2⟩:=EF h;refine ⟨h1,fun g' hg => ?_⟩;rcases QP.1 hg with rfl | hg
   .exact key hc
   .exact h2 g' hg
  .exact (bf h).elim
  .rename_i n m hc;have h:ck (decide (n=m)) (AA a b K gs).run=some y:=h;unfold ck at h;cases hd:decide (n=m) with
   |false=>rw [hd] at h;cases h
   |true=>
    rw [hd] at h;obtain ⟨h1,h2⟩:=EF (gs:=gs) h;refine ⟨h1,fun g' hg => ?_⟩;rcases QP.1 hg with rfl | hg
    .exact key2 hc (of_decide_eq_true hd)
    .exact h2 g' hg
theorem aad {Pg:Program} {tt:TT} {T:mJ} {ety:TypeId->Option Ty} {f:FuncId} {fn:Func} {c:Code} {sp:aW} (ts:List ResultVar) (a:fV) (hf:Pg.funcs[f]?=some fn) (hb:fn.body=some c) (hname:(fn.name == "runtime.NumGoroutine")=false) (hres:fn.results=ts.toArray)
  (hok:sp.sig.er.ok=true) (E_:(sp.sig.aY.all fun g=>sp.sig.pin.er.nms.contains g)=true) (hn:sp.sig.bD<=fn.ntmps) (hnr:ts.length=sp.sig.dA)
  (hT :∀f sp,nI T f=some sp->Sound Pg (f % 1000000) sp) (htt:iC Pg tt) (hm:Fit Pg)
  (h :∀x,(acJ T tt ety fn.ntmps sp.sig ts c a x).run=sp.f x):aA Pg f sp:=by
 have hcase :∀x y,sp.ff x=some y->(tfun T tt ety fn.ntmps sp.sig ts c a x).run=some y/\∀g∈sp.sig.er.aY,((Fw.mk sp.sig.pin.er ((Tup.kE sp.sig.pin.tys x).map bZ)).o g).like ((Fw.mk sp.sig.aQ.er ((Tup.kE sp.sig.aQ.tys y).map bZ)).o g):=by
  intro x y hy0;have hy:=(O7 hy0).1;have hx:=h x;rw [hy] at hx;unfold acJ at hx;cases hbx:sp.sig.er.abx with
  |true=>
   rw [hbx] at hx;exact ⟨hx,y9.LP hbx⟩
  |false=>
   rw [hbx] at hx;have hx:(tfun T tt ety fn.ntmps sp.sig ts c a x).run.bind (fun z=>(AA (mkT sp.sig.pin (Tup.kE sp.sig.pin.tys x)).go (mkT sp.sig.aQ (Tup.kE sp.sig.aQ.tys z)).go (.ret z) sp.sig.aY).run)=some y:=hx;cases hr:(tfun T tt ety fn.ntmps sp.sig ts c a x).run with
   |none=>rw [hr] at hx;cases hx
   |some z=>
    rw [hr] at hx;obtain ⟨h1,h2⟩:=EF (R:=Tup sp.sig.aQ.tys) (K:=.ret z) hx;have h1:some z=some y:=h1;cases h1;refine ⟨rfl,fun g hg => ?_⟩;have e1:=congrArg (fun s=>s.o g) (qR (qU _ x));have e2:=congrArg (fun s=>s.o g) (qR (qU _ y));rw [<-e1,<-e2];exact h2 g hg
 refine abY (T:=nI T) (tt:=tt) (c:=c) ts hf hb hname hres hok E_ (fun ins bW ⟨x,y,hy,hi,ho⟩=>by subst hi;subst ho;exact (hcase x y hy).2) hn hnr hT htt hm ?_;rintro ins bW ⟨x,y,hy,rfl,rfl⟩;have hx:=(hcase x y hy).1;unfold tfun at hx;rw [oV] at hx;have e:=qR (qU _ x);have hx:=Z_ c hx (Kp:=ajo tt sp.sig.er ts ((Tup.kE sp.sig.aQ.tys y).map bZ)) ⟨fun q' _ hq=>X3 hq,fun id q' _ hq=>(bf hq).elim,fun q' _ hq=>X3 hq⟩;have hx:exec (nI T) tt fn.ntmps sp.sig.er.aY c (aT (mkT sp.sig.pin (Tup.kE sp.sig.pin.tys x))) (ajo tt sp.sig.er ts ((Tup.kE sp.sig.aQ.tys y).map bZ)):=hx;rw [e] at hx;exact hx
end
end Go.Fg

namespace Go.Fg
open Go.Fw Go.Proofs
def Po (w:World) (l:List Int) (G:Gh):Prop:=
 (G.ad=none/\G.cap=0/\l=[])\/
 ∃b o c e,G.ad=some ⟨b,o,none⟩ /\w.heap[b]?=some (.cells c e (0,0))/\o+G.cap<=c.size/\(l.length<=G.cap/\G.cap<=9223372036854775807)/\
  ∀(n:Nat) x,l[n]?=some x->c[o+n]?=some (.int .i64 x)
section
variable [RE]
theorem nD (l:List Int):aG (.int .i64) l=l.map fun x=>[P.int .i64 x]:=rfl
theorem af8 {E:Env} {st:St} {gh:Nat->Gh} {w:World} {a i:Bool} {l:List Int} {G:Gh} (h:iI E st gh w a i 1 (aG (.int .i64) l) G):Po w l G:=by
 rcases h with ⟨h1,h2,h3⟩ | ⟨ad,c,e,h1,h2,h3,h4,h5,h6,h7⟩
 .refine .inl ⟨h1,h2,?_⟩;rw [nD] at h3;simpa using h3
 .obtain ⟨b,o,sp⟩:=ad;simp only at h2 h3 h4 h7;subst h2;refine .inr ⟨b,o,c,e,h1,h3,by omega,by simpa [nD] using h5,fun n x hx => ?_⟩;have hx':(aG (.int .i64) l)[n]?=some [P.int .i64 x]:=by
   rw [nD,XN,hx];rfl
  obtain ⟨v,hv,hr⟩:=h7 n _ hx' 0 (P.int .i64 x) rfl;rw [hr.eU] at hv;rw [<-hv];congr 1;omega
theorem af9 {E:Env} {st:St} {gh:Nat->Gh} {w:World} {a i:Bool} {l:List Int} {G:Gh} (h:Po w l G):iI E st gh w a i 1 (aG (.int .i64) l) G:=by
 rcases h with ⟨h1,h2,h3⟩ | ⟨b,o,c,e,h1,h3,h4,h5,h7⟩
 .exact .inl ⟨h1,h2,by rw [h3];rfl⟩
 .refine .inr ⟨⟨b,o,none⟩,c,e,h1,rfl,h3,by simpa using h4,by simpa [nD] using h5,fun x hx => ?_,fun n x hx j y hy => ?_⟩
  .rw [nD,QQ] at hx;obtain ⟨z,_,rfl⟩:=hx;rfl
  .rw [nD,XN] at hx;cases hl:l[n]? with
   |none=>rw [hl] at hx;cases hx
   |some z=>
    rw [hl] at hx;simp only [Z3,Q0] at hx;subst hx;cases j with
    |succ j=>simp at hy
    |zero=>
     simp only [UT,Q0] at hy;subst hy;refine ⟨_,?_,.int .i64 z⟩;rw [<-h7 n z hl];congr 1;simp
end
theorem heap_setCell (w:World) (b o:Nat) (v:Value) (c:Array Value) (e:TypeId) (h:w.heap[b]?=some (.cells c e (0,0))) :
  (w.setCell ⟨b,o,none⟩ v).heap[b]?=some (.cells (c.setIfInBounds o v) e (0,0))/\∀b',b'≠b->(w.setCell ⟨b,o,none⟩ v).heap[b']?=w.heap[b']?:=by
 refine ⟨?_,fun b' hb => ?_⟩
 .simp [World.setCell,qf,h]
 .simp [World.setCell,qf,Ne.symm hb]
theorem zS (b:Nat) (e:TypeId) :∀(vs:List Value) (o:Nat) (w:World) (c:Array Value),w.heap[b]?=some (.cells c e (0,0))->o+vs.length<=c.size->
  ∃c',(w.setCells b o vs).heap[b]?=some (.cells c' e (0,0))/\c'.size=c.size/\(∀k,c'[k]?=if o<=k/\k<o+vs.length then vs[k-o]? else c[k]?)/\
   (∀b',b'≠b->(w.setCells b o vs).heap[b']?=w.heap[b']?)/\(w.setCells b o vs).heap.size=w.heap.size
 | [],o,w,c,h,hs=>⟨c,h,rfl,fun k=>by rw [if_neg (by simp)],fun _ _=>rfl,rfl⟩
 |v::vs,o,w,c,h,hs=>by
  simp only [WF] at hs;obtain ⟨h1,h2⟩:=heap_setCell w b o v c e h;obtain ⟨c',k1,k2,k3,k4,k5⟩:=zS b e vs (o+1) (w.setCell ⟨b,o,none⟩ v) (c.setIfInBounds o v) h1 (by simp;omega);refine ⟨c',k1,by simpa using k2,fun k => ?_,fun b' hb=>(k4 b' hb).trans (h2 b' hb),k5.trans (by simp [World.setCell])⟩;rw [k3];simp only [WF];by_cases e1:k=o
  .subst e1;rw [if_neg (by omega),if_pos (by omega)];simp [Kd];omega
  .by_cases e2:o+1<=k/\k<o+1+vs.length
   .rw [if_pos e2,if_pos (by omega)];rw [show k-o=(k-(o+1))+1 by omega,Vc]
   .rw [if_neg e2,if_neg (by omega)];simp [Kd,Ne.symm e1]
theorem FX (b:Nat) :∀(vs:List Value) (o:Nat) (w:World),(w.setCells b o vs).os=w.os/\(w.setCells b o vs).tape=w.tape/\(w.setCells b o vs).output=w.output
 | [],_,_=>⟨rfl,rfl,rfl⟩
 |_::vs,o,w=>FX b vs (o+1) _
theorem enters_of {Pg:Program} {f:FuncId} {fn:Func} {c:Code} (hf:Pg.funcs[f]?=some fn) (hb:fn.body=some c) (hname:(fn.name == "runtime.NumGoroutine")=false):Fw.Enters Pg f:=fun args w=>by
 have hname':¬ fn.name = "runtime.NumGoroutine" := by simpa using hname
 simp [callFunc,hf,hname',hb]
section
variable [RE]
end
end Go.Fg

namespace Go.Fg
open Go.Fw Go.Proofs
section
variable [RE]
def qX:MF:=⟨[],[(70000,.arr false false true (.int .i64))]⟩
theorem ac9 {E:Env} {st:St} {gh:Nat->Gh} {val:Nat->Value} {w w':World} (h:Rel E st gh val w) (hB:E.B0=w.heap.size) (l:List Int) (G:Gh) (hG:Po w' l G)
  (hsz:w.heap.size<=w'.heap.size) (hfr :∀b,b<w.heap.size->¬ E.Wr b->w'.heap[b]?=w.heap[b]?)
  (hin :∀ad,G.ad=some ad->(w.heap.size<=ad.block\/E.Wr ad.block)/\ad.block<w'.heap.size) (hos:w'.os=w.os/\w'.tape=w.tape/\w'.output=w.output) (bM:Nat->Gh) (hgh:bM 70000=G) (hsub :∀b,G.sub b=none:=by first | exact fun _=>rfl | assumption) :
  Rel E (Fw.mk qX.er ((Tup.kE qX.tys l).map bZ)) bM (fun k=>([]:List Value).getD k undef) w':=by
 have hs1 :∀t,(Fw.mk qX.er ((Tup.kE qX.tys l).map bZ)).s t=.no:=fun t=>rfl;have ho:(Fw.mk qX.er ((Tup.kE qX.tys l).map bZ)).o 70000=.arr false false true 1 (aG (.int .i64) l):=by
  exact congrArg (O.arr false false true 1) (jr (.int .i64) l)
 have hon :∀g,g≠70000->(Fw.mk qX.er ((Tup.kE qX.tys l).map bZ)).o g=.none:=fun g hg=>by
  have e1:(g==70000)=false:=by simpa using hg
  show (match List.lookup g [(70000,_)] with | some x=>x | none=>O.none)=_;simp only [List.lookup,e1]
 have hu:(Fw.mk qX.er ((Tup.kE qX.tys l).map bZ)).used 70000=true:=rfl;have hown :∀g,((Fw.mk qX.er ((Tup.kE qX.tys l).map bZ)).o g).bP=true->g=70000:=fun g hg=>by
  by_cases e:g=70000
  .exact e
  .rw [hon g e] at hg;simp [O.bP] at hg
 generalize Fw.mk qX.er ((Tup.kE qX.tys l).map bZ)=s at *;exact {
  slots:=fun t=>by rw [hs1];exact .no _
  bg:=fun g=>by
   by_cases e:g=70000
   .subst e;rw [ho,hgh];exact af9 hG
   .rw [hon g e];trivial
  inj:=fun g g' _ h1 h2 _ _=>(hown g h1).trans (hown g' h2).symm
  wr:=fun g a h1 h2=>by
   have:=hown g h1;subst this;rw [hgh] at h2;rw [hB];rcases h2 with ⟨ad,q1,q2⟩ | q
   .rw [<-q2];exact hin ad q1
   .rw [hsub a] at q;cases q
  wi:=fun g i b h1 h2 h3=>by
   by_cases e:g=70000
   .subst e;rw [ho] at h1;cases h1;rfl
   .rw [hon g e] at h1;cases h1
  ns:=fun g h1 _ b=>by
   have:=hown g h1;subst this;rw [hgh];exact hsub b
  wb:=h.wb
  frame:=fun b hb hw=>by
   rw [hfr b (by omega) hw];exact h.frame b hb hw
  size:=by rw [hB];exact hsz
  os:=hos.1.trans h.os
  tape:=hos.2.1.trans h.tape
  output:=hos.2.2.trans h.output
  us:=fun t g hg=>by rw [hs1] at hg;simp [S.names] at hg
  uo:=fun g g' hg=>by
   by_cases e:g=70000
   .subst e;rw [ho] at hg;simp [O.names] at hg
   .rw [hon g e] at hg;simp [O.names] at hg
  ul:=fun g hg=>by
   by_cases e:g=70000
   .subst e;exact hu
   .exact absurd (hon g e) hg }
def uS:dB:={ bD:=1,pin:=⟨[(0,.one (.own 70000))],[(70000,.arr false false true (.int .i64))]⟩,aQ:=qX,dA:=0,aY:=[70000],aV:=[] }
def aae (l:List Int):Option (List Int):=match decide (l.length<4611686018427387904) with
 |true=>some (l.mergeSort fun x y=>decide (x<=y))
 |false=>none
def X4:aW:=⟨uS,fun x=>aae x⟩
theorem aaf {Pg:Program} {f:FuncId} (apN:Fw.Enters Pg f)
  (hD :∀(b off c:Nat) (zs:List Int) (w:World),Go.Sort.Holds (Value.int .i64) w b off zs.toArray->b<w.heap.size->zs.length<4611686018427387904->
   Calls Pg f #[.slice (some ⟨b,off,none⟩) zs.length c] w fun e w'=>e=.returned (.tuple #[])/\∃n os,w'=Go.Sort.grow (Go.Sort.putRow (Value.int .i64) (Go.Sort.ahead w n) b off (zs.mergeSort fun x y=>decide (x<=y)).toArray) os)
  (hE :∀(a:Option Addr) (c:Nat) (w:World),Calls Pg f #[.slice a 0 c] w fun e w'=>e=.returned (.tuple #[])/\w'=w):aA Pg f X4:=by
 refine ⟨rfl,apN,fun E w vals gh ins bW hR hB hw0 KT hlen => ?_⟩;obtain ⟨l,y,hy,rfl,rfl⟩:=hR;change List Int at l;change List Int at y;have hy:aae l=some y:=hy;unfold aae at hy;split at hy
 .rename_i hc;simp only [decide_eq_true_eq] at hc;simp only [Q0] at hy;subst hy;have ho:(Fw.mk uS.pin.er ((Tup.kE uS.pin.tys l).map bZ)).o 70000=.arr false false true 1 (aG (.int .i64) l):=by
   exact congrArg (O.arr false false true 1) (jr (.int .i64) l)
  have ho2:(Fw.mk uS.aQ.er ((Tup.kE uS.aQ.tys (l.mergeSort fun x y=>decide (x<=y))).map bZ)).o 70000=.arr false false true 1 (aG (.int .i64) (l.mergeSort fun x y=>decide (x<=y))):=by
   exact congrArg (O.arr false false true 1) (jr (.int .i64) (l.mergeSort fun x y=>decide (x<=y)))
  have r0:vals.getD 0 undef=.slice (gh 70000).ad l.length (gh 70000).cap:=by
   have h0:=(KT.slots 0).dH;cases h0 with
   |own _ _ hv hx=>exact (hx _ _ (O.jO ho)).trans (congrArg (fun n=>Value.slice (gh 70000).ad n (gh 70000).cap) (fG (.int .i64) l))
  have alY:vals.toArray=#[.slice (gh 70000).ad l.length (gh 70000).cap]:=by
   have hl3:vals.length=1:=hlen
   match vals,hl3 with
   | [a],_=>simp at r0;simp [r0]
  rw [alY];have apO :∀b,(gh 70000).sub b=none:=KT.ns 70000 rfl rfl;have hA:Po w l (gh 70000):=by
   have h0:=KT.bg 70000;have h1:lU E _ gh w (.arr false false true 1 (aG (.int .i64) l)) (gh 70000):=ho▸h0;exact af8 h1
  have EO:((Fw.mk uS.pin.er ((Tup.kE uS.pin.tys l).map bZ)).o 70000).like ((Fw.mk uS.aQ.er ((Tup.kE uS.aQ.tys (l.mergeSort fun x y=>decide (x<=y))).map bZ)).o 70000):=by
   rw [ho,ho2];refine ⟨rfl,?_⟩;exact (fG (.int .i64) l).trans ((List.length_mergeSort l).symm.trans (fG (.int .i64) (l.mergeSort fun x y=>decide (x<=y))).symm)
  have UW :∀(bM:Nat->Gh),bM 70000=gh 70000->∀g∈X4.er.sig.aY,((bM g).ad=(gh g).ad/\(bM g).cap=(gh g).cap)/\((Fw.mk uS.pin.er ((Tup.kE uS.pin.tys l).map bZ)).o g).like ((Fw.mk uS.aQ.er ((Tup.kE uS.aQ.tys (l.mergeSort fun x y=>decide (x<=y))).map bZ)).o g):=fun bM e g hg=>by
   have:g=70000:=Qt.1 hg;subst this;exact ⟨⟨by rw [e],by rw [e]⟩,EO⟩
  rcases hA with ⟨h1,h2,h3⟩ | ⟨b,o,c,e,h1,h3,h4,h5,h7⟩
  .subst h3;refine (hE (gh 70000).ad (gh 70000).cap w).mono fun e w' ⟨he,hw⟩ => ?_;subst hw;refine ⟨[],gh,rfl,by rw [he];rfl,?_,UW gh rfl⟩;have:([]:List Int).mergeSort (fun x y=>decide (x<=y))=[]:=by simp
   rw [this];exact ac9 KT hB [] (gh 70000) (.inl ⟨h1,h2,rfl⟩) (Ys _) (fun _ _ _=>rfl) (fun ad had=>by rw [h1] at had;cases had) ⟨rfl,rfl,rfl⟩ _ rfl
  .rw [h1];have hwr:=KT.wr 70000 b rfl (Gh.jS h1);have hcell :∀k,k<l.length->w.cell? ⟨b,o+k,none⟩=some (.int .i64 (l.getD k 0)):=fun k hk=>by
    have:=h7 k l[k] (Q2 hk);simp [World.cell?,h3,this,hk]
   have hH:Go.Sort.Holds (Value.int .i64) w b o l.toArray:=by
    have:=Lib.holds_of_ints (n:=l.length) (Ys _) hcell (fun k hk=>by simp [World.frozen?,h3])
    rwa [JN] at this
   refine (hD b o (gh 70000).cap l w hH hwr.2 hc).mono fun e' w' ⟨he,q,os,hw⟩ => ?_;rw [Lib.putRow_eq_setCells (Value.int .i64) w b o l.toArray _ q hH (by simp)] at hw;generalize hm:(l.mergeSort fun x y=>decide (x<=y))=m at *;have hlen2:m.length=l.length:=by rw [<-hm];exact List.length_mergeSort l
   obtain ⟨c',k1,k2,k3,k4,k5⟩:=zS b e (m.map (Value.int .i64)) o (w.drewN q) c h3 (by rw [W2];omega);have hos:=FX b (m.map (Value.int .i64)) o (w.drewN q);generalize (w.drewN q).setCells b o (m.map (Value.int .i64))=w1 at *;have hlt :∀b',b'<w.heap.size->w'.heap[b']?=w1.heap[b']?:=fun b' hb'=>by
    subst hw;show (w1.heap++os)[b']?=_;exact JP (by rw [k5];exact hb')
   have hsz:w.heap.size<=w'.heap.size:=by
    subst hw;show _<=(w1.heap++os).size;rw [vi,k5];exact Nat.le_add_right _ _
   have apP:w'.os=w.os/\w'.tape=w.tape/\w'.output=w.output:=by subst hw;exact hos
   have hwr2:=hwr.2;refine ⟨[],gh,rfl,by rw [he];rfl,?_,UW gh rfl⟩;refine ac9 KT hB _ (gh 70000) (.inr ⟨b,o,c',e,h1,by rw [hlt b hwr2];exact k1,by rw [k2];exact h4,⟨by omega,h5.2⟩,fun n x hx => ?_⟩)
    hsz (fun b' hb' hnw=>(hlt b' hb').trans (k4 b' fun eb => ?_)) (fun ad had => ?_) apP _ rfl
   .have hn:=(Q3.1 hx).1;rw [k3,if_pos (by simp;omega)];simp [hx]
   .subst eb;rcases hwr.1 with hq | hq
    .rw [hB] at hq;omega
    .exact hnw hq
   .rw [h1] at had;cases had;refine ⟨?_,Wz hwr2 hsz⟩;have:=hwr.1;rw [hB] at this;exact this
 .cases hy
end
end Go.Fg

namespace Go.Fw
open Go.RowKit
variable [eP]
def EG (w:World):Prop :=∀g sz rows,eP.gt g=some (sz,rows)->g<w.heap.size/\∀(n:Nat) x,rows[n]?=some x->x.length=sz/\∀(j:Nat) y,x[j]?=some y->∃u,w.cell? ⟨g,n*sz+j,none⟩=some u/\dh w (fun _=>False) y u
def E0 (w:World) (hw:EG w):Env:={ FA:=fun _=>True,FI:=fun _=>False,B0:=w.heap.size,w0:=w,Wr:=fun _=>False,hg:=fun g sz rows hg=>⟨(hw g sz rows hg).1,fun h=>h,(hw g sz rows hg).2⟩ }
def G0:Nat->Gh:=fun _=>Gh.nil
theorem aag {Pg:Program} {f:FuncId} {sp:Spec} (hs:Sound Pg f sp) (abz:sp.sig.pin.bg=[]) (hnr:sp.sig.dA=1) (WY:sp.sig.aQ=⟨[(0,.one (.p false false))],[]⟩) {vals:List Value} (hlen:vals.length=sp.sig.bD) {w:World} (hw:EG w) {ins:List P}
  (hR:sp.R ins [.bool true]) (sZ :∀t,dI (E0 w hw) (Fw.mk sp.sig.pin ins) G0 w ((Fw.mk sp.sig.pin ins).s t) (vals.getD t undef)) :
  Calls Pg f vals.toArray w fun e w'=>e=.returned (.bool true)/\Below w.heap.size w w':=by
 obtain ⟨hok,_,hS⟩:=hs;have hno :∀g,(Fw.mk sp.sig.pin ins).o g=.none:=fun g=>LM (by simp [Shape.nms,abz]);have hok':=hok;simp only [y9.ok,Q6] at hok';have hus:=ahM hok'.1.1.1.1.1.1.1.1 ins;have hrel:Rel (E0 w hw) (Fw.mk sp.sig.pin ins) G0 (fun k=>vals.getD k undef) w:=
  ⟨sZ,fun g=>by rw [hno];trivial,fun g g' a (h:((Fw.mk sp.sig.pin ins).o g).bP=true)=>(by rw [hno] at h;cases h),fun g a (h:((Fw.mk sp.sig.pin ins).o g).bP=true)=>(by rw [hno] at h;cases h),fun g i b (h:((Fw.mk sp.sig.pin ins).o g).inner=some i)=>(by rw [hno] at h;cases h),fun g (h:((Fw.mk sp.sig.pin ins).o g).bP=true)=>(by rw [hno] at h;cases h),fun b hb=>hb.elim,fun b _ _=>rfl,Ys _,rfl,rfl,rfl,hus.1,hus.2.1,hus.2.2⟩
 refine Calls.mono (hS (E0 w hw) w vals G0 ins [.bool true] hR rfl rfl hrel hlen) fun e w' he => ?_;obtain ⟨rs,bM,hrl,rfl,hx,_⟩:=he;rw [hnr] at hrl
 match rs,hrl with
 | [v],_=>
 refine ⟨?_,⟨hx.os,hx.tape,hx.output,hx.size,fun b hb=>hx.frame b hb (fun h=>h)⟩⟩;have h0:=hx.slots 0;rw [WY] at h0;have h1:dI (E0 w hw) (Fw.mk ⟨[(0,.one (.p false false))],[]⟩ [.bool true]) bM w' (.v (.one (.p false false (.bool true)))) v:=h0;rw [show v=.bool true from h1.fF.mg];rfl
theorem af_ {w:World} {k:IntKind} {a:Option Addr} {len cap:Nat} {zs:List Int} {ok:Nat->Prop} (hok :∀b,b<w.heap.size->ok b)
  (h:(a=none/\len=0/\cap=0/\zs=[])\/∃x,a=some x/\len<=cap/\zs.length=cap/\∀i,i<zs.length->w.cell? (x.add i)=some (.int k (zs.getD i 0))) :
  dh w ok (.sl 1 ((zs.take len).map fun z=>[.int k z])) (.slice a len cap):=by
 rcases h with ⟨rfl,rfl,rfl,rfl⟩ | ⟨x,rfl,hl,hz,hc⟩
 .exact .nil _ _ _
 .by_cases h0:len=0
  .subst h0;exact .nil _ _ _
  .have hc0:=hc 0 (by omega);have hs:x.spot=none:=by
    unfold World.cell? Addr.add at hc0;cases hx:x.spot with
    |none=>rfl
    |some s=>
     exfalso;split at hc0
     .simp [hx] at hc0
     .cases hc0
   have hb:x.block<w.heap.size:=by
    unfold World.cell? at hc0;have e:(x.add 0).block=x.block:=by simp [Addr.add]
    rw [e] at hc0;by_cases hlt:x.block<w.heap.size
    .exact hlt
    .rw [Array.getElem?_eq_none (by omega)] at hc0;cases hc0
   have hlen:((zs.take len).map fun z=>[P.int k z]).length=len:=by simp;omega
   have:=dh.sl (w:=w) (ok:=ok) 1 ((zs.take len).map fun z=>[P.int k z]) x cap (fun i _=>.int k (zs.getD i 0)) hs (fun _=>hok _ hb) (by omega) (fun r hr=>by
     obtain ⟨z,_,rfl⟩:=QQ.1 hr;rfl) (fun i r hr j y hj => ?_) (fun i r hr j y hj => ?_)
   .rw [hlen] at this;exact this
   all_goals
    have hi:i<len:=by have:=(Q3.1 hr).1;omega
    rw [XN,Z2,if_pos hi] at hr;obtain ⟨z,hz',rfl⟩:=ZD.1 hr;have hj0:j=0:=by
     cases j with
     |zero=>rfl
     |succ j=>simp at hj
    subst hj0;simp only [UT,Q0] at hj;subst hj
   .have:=hc i (by omega);rw [<-this];have e:x.add i=⟨x.block,x.off+i,none⟩:=by
     obtain ⟨b,o,sp⟩:=x;simp only at hs;subst hs;exact Addr.iD b o i
    rw [e];simp
   .rw [List.getD_eq_getElem?_getD,hz'];exact .int k z
end Go.Fw
namespace Go.Fg
open Go.Fw Go.RowKit
section
variable [RE]
theorem aga {w:World} {k:IntKind} {a:Option Addr} {len cap:Nat} {zs:List Int} {ok:Nat->Prop} (hok :∀b,b<w.heap.size->ok b)
  (h:(a=none/\len=0/\cap=0/\zs=[])\/∃x,a=some x/\len<=cap/\zs.length=cap/\∀i,i<zs.length->w.cell? (x.add i)=some (.int k (zs.getD i 0))) :
  dh w ok (bZ ⟨.sl (.int k),zs.take len⟩) (.slice a len cap):=by
 have h0:=af_ hok h;have e:aG (.int k) (zs.take len)=(zs.take len).map fun z=>[P.int k z]:=rfl;rw [GK,e];have hlen:len=(zs.take len).length:=by
  rcases h with ⟨_,rfl,_,rfl⟩ | ⟨x,_,h1,h2,_⟩
  .rfl
  .simp;omega
 cases hl:zs.take len with
 |nil=>
  rw [hl] at hlen;have hlen:len=0:=hlen;subst hlen;exact .nil _ _ _
 |cons z l=>rw [hl] at h0;exact h0
end
end Go.Fg

namespace Go.Fg
open Go.Fw
def Ok {α:Type} (x:Option α) (Q:α->Prop):Prop :=∃y,x=some y/\Q y
def J3 {α β:Type} (P:α->Prop) (Q:β->Prop):α ⊕ β->Prop
 |.inl a=>P a
 |.inr b=>Q b
theorem zu {α:Type} {y:α} {Q:α->Prop}:Ok (some y) Q↔Q y:=⟨fun ⟨_,h,hq⟩=>by cases h;exact hq,fun h=>⟨_,rfl,h⟩⟩
theorem GY {α β:Type} {x:Option α} {f:α->Option β} {Q:β->Prop}:Ok (Option.bind x f) Q↔Ok x fun y=>Ok (f y) Q:=by
 cases x with
 |none=>exact ⟨fun ⟨_,h,_⟩=>(by cases h),fun ⟨_,h,_⟩=>(by cases h)⟩
 |some z=>rw [zu];rfl
theorem ac_ {α:Type} {b:Bool} {x:Option α} {Q:α->Prop}:Ok (ck b x) Q↔b=true/\Ok x Q:=by
 cases b with
 |false=>exact ⟨fun ⟨_,h,_⟩=>(by cases h),fun ⟨h,_⟩=>(by cases h)⟩
 |true=>exact ⟨fun h=>⟨rfl,h⟩,fun h=>h.2⟩
theorem VK {α:Type} {b:Bool} {x y:Option α} {Q:α->Prop}:Ok (bif b then x else y) Q↔(b=true->Ok x Q)/\(b=false->Ok y Q):=by
 cases b with
 |false=>exact ⟨fun h=>⟨fun e=>(by cases e),fun _=>h⟩,fun h=>h.2 rfl⟩
 |true=>exact ⟨fun h=>⟨fun _=>h,fun e=>(by cases e)⟩,fun h=>h.1 rfl⟩
theorem ada {α β:Type} {x:Option (α ⊕ β)} {f:α->Option β} {Q:β->Prop}:Ok (dL x f) Q↔Ok x (J3 (fun a=>Ok (f a) Q) Q):=by
 unfold dL;refine GY.trans ⟨fun ⟨y,hy,h⟩=>⟨y,hy,?_⟩,fun ⟨y,hy,h⟩=>⟨y,hy,?_⟩⟩
 .cases y with
  |inl a=>exact h
  |inr b=>exact (zu (Q:=Q)).1 h
 .cases y with
  |inl a=>exact h
  |inr b=>exact (zu (Q:=Q)).2 h
theorem jQ {α:Type} {x:Option α} {Q Q':α->Prop} (h:Ok x Q) (hq :∀y,Q y->Q' y):Ok x Q':=let ⟨y,hy,hz⟩:=h;⟨y,hy,hq y hz⟩
theorem ok_eq {α:Type} {x:Option α} {y:α} (h:Ok x fun z=>z=y):x=some y:=let ⟨_,hy,e⟩:=h;e▸hy
section
variable [RE]
theorem cZ {A R:Type} {body:A->Option (A ⊕ R)} {Q:R->Prop} (I:A->Prop) (μ:A->Nat) {a:A} (ha:I a)
  (h :∀a,I a->Ok (body a) (J3 (fun a'=>I a'/\μ a'<μ a) Q)):Ok (bK body a) Q:=by
 have key :∀n a,I a->μ a<n->Ok (bK body a) Q:=by
  intro n
  induction n with
  |zero=>intro a _ hn;omega
  |succ n ih=>
   intro a ha hn;obtain ⟨y,hy,hz⟩:=h a ha;rw [AV,hy];cases y with
   |inl a'=>
    obtain ⟨h1,h2⟩:I a'/\μ a'<μ a:=hz;exact ih a' h1 (by omega)
   |inr r=>exact ⟨r,rfl,hz⟩
 exact key _ a ha (Nat.lt_succ_self _)
end
theorem aH {x:Int} (h:-9223372036854775808<=x/\x<=9223372036854775807):dP x=x:=@wrap64 ⟨fun _=>none,fun _ _ _ _=>False,fun _ h=>h⟩ x h.1 h.2
theorem aK {n:Int} {len:Nat}:inB n len=true↔0<=n/\n<len:=by simp [inB]
theorem J4 {lo hi:Int} {len:Nat}:Gq lo hi len=true↔(0<=lo/\lo<=hi)/\hi<=(len:Int):=by simp [Gq]
theorem J5 {b:Nat} {n c:Int}:La b n c=true↔((0<=n/\n<=c)/\b*c<=281474976710656)/\c<=9223372036854775807:=by simp [La]
theorem X5 {p:Prop} [Decidable p]:(decide p=true)=p:=by simp
theorem SN {p:Prop} [Decidable p]:(decide p=false)=¬p:=by simp
theorem not_iff {b:Bool}:((!b)=true)=(b=false):=by cases b<;>simp
theorem agb (a b:Int):ZC a b=min a b:=by unfold ZC;split<;>omega
theorem GZ (a b:Int):D9 a b=max a b:=by unfold D9;split<;>omega
theorem tmod_lt {a b:Int} (ha:0<=a) (hb:0<b):0<=Int.tmod a b/\Int.tmod a b<b:=⟨Int.tmod_nonneg b ha,Int.tmod_lt_of_pos a hb⟩
theorem getD_at {α:Type} {l:List α} {n:Nat} (d:α) (h:n<l.length):l.getD n d=l[n]:=by
 rw [List.getD_eq_getElem?_getD,Q2 h];rfl
end Go.Fg

namespace Go.Fg
open Go.Fw
theorem take_snoc {α:Type} {l:List α} {i:Nat} (h:i<l.length):l.take (i+1)=l.take i++[l[i]]:=by
 rw [List.take_add_one,Q2 h];rfl
theorem bG {α β:Type} {x:Option α} {f:α->Option β} {Q:β->Prop} (Q':α->Prop) (h:Ok x Q') (k :∀y,Q' y->Ok (f y) Q):Ok (Option.bind x f) Q:=GY.2 (jQ h k)
theorem fU {α β:Type} {x:Option α} {f:α->Option β} {Q:β->Prop} {y:α} (h:x=some y) (k:Ok (f y) Q):Ok (Option.bind x f) Q:=by rw [h];exact k
theorem dM {α:Type} {b:Bool} {x y:Option α} {Q:α->Prop} (h1:b=true->Ok x Q) (h2:b=false->Ok y Q):Ok (bif b then x else y) Q:=VK.2 ⟨h1,h2⟩
theorem cu {α:Type} {b:Bool} {x y:Option α} {Q:α->Prop} (hb:b=false) (h2:Ok y Q):Ok (bif b then x else y) Q:=by rw [hb];exact h2
theorem goT {α:Type} {b:Bool} {x y:Option α} {Q:α->Prop} (hb:b=true) (h2:Ok x Q):Ok (bif b then x else y) Q:=by rw [hb];exact h2
theorem dD {α:Type} {b:Bool} {x:Option α} {Q:α->Prop} (hb:b=true) (h2:Ok x Q):Ok (ck b x) Q:=ac_.2 ⟨hb,h2⟩
theorem iF {α β:Type} {x:Option (α ⊕ β)} {f:α->Option β} {Q:β->Prop} (Q':α->Prop) (h:Ok x (J3 Q' Q)) (k :∀y,Q' y->Ok (f y) Q):Ok (dL x f) Q:=
 ada.2 (jQ h fun y hy=>by cases y with
  |inl a=>exact k a hy
  |inr b=>exact hy)
theorem aF {α:Type} {y:α} {Q:α->Prop} (h:Q y):Ok (some y) Q:=zu.2 h
section
variable [RE]
theorem ajN {A R S E:Type} {body:A->Option (A ⊕ R)} {Q:R->Prop} (l:List E) (st:Int->S->A) (g:S->E->S) (I:Nat->S->Prop) {s0:S} {a0:A} (ha:a0=st 0 s0) (h0:I 0 s0)
  (hs :∀i (h:i<l.length) s,I i s->s=(l.take i).foldl g s0->Ok (body (st i s)) (J3 (fun a=>a=st ((i:Int)+1) (g s l[i])/\I (i+1) (g s l[i])) Q))
  (he :∀s,I l.length s->s=l.foldl g s0->Ok (body (st l.length s)) (J3 (fun _=>False) Q)):Ok (bK body a0) Q:=by
 have key :∀k i s,i<=l.length->l.length-i=k->I i s->s=(l.take i).foldl g s0->Ok (bK body (st i s)) Q:=by
  intro k
  induction k with
  |zero=>
   intro i s hi hk h1 h2;have e:i=l.length:=by omega
   subst e;rw [JN] at h2;obtain ⟨y,hy,hq⟩:=he s h1 h2;rw [AV,hy];cases y with
   |inl a=>exact hq.elim
   |inr r=>exact ⟨r,rfl,hq⟩
  |succ k ih=>
   intro i s hi hk h1 h2;have hlt:i<l.length:=by omega
   obtain ⟨y,hy,hq⟩:=hs i hlt s h1 h2;rw [AV,hy];cases y with
   |inl a=>
    obtain ⟨rfl,h3⟩:a=st ((i:Int)+1) (g s l[i])/\I (i+1) (g s l[i]):=hq;have:=ih (i+1) (g s l[i]) (by omega) (by omega) h3 (by rw [take_snoc hlt,List.foldl_append,<-h2];rfl);exact this
   |inr r=>exact ⟨r,rfl,hq⟩
 rw [ha];exact key l.length 0 s0 (by omega) (by omega) h0 (by simp)
end
end Go.Fg

namespace Go.Fg
open Go.Fw Go.RowKit
section
variable {H:Type} {enc:TypeId×Value->H} {P:Program} {w:World} {base:Nat} {spare:Nat->Bool} {held:Bool}
end
theorem alZ [eP] {pin:Shape} (h:pin.bg=[]) (ins:List P) (w:World) (hw:EG w) :∀b,b<w.heap.size->(E0 w hw).ok (Fw.mk pin ins) G0 w true false b:=by
 intro b hb;refine ⟨.inl ⟨rfl,trivial⟩,hb,fun g ad hg => ?_⟩;rw [LM (by simp [Shape.nms,h])] at ad;cases ad
section
variable [RE]
end
end Go.Fg

namespace Go.Fg
open Go.Fw Go.RowKit
theorem J6 [eP] {P:Program} {w:World} {name:String} {g n:Nat} {t e:TypeId} {bs:List (List UInt8)} (hg:P.globalNamed name=some g) (ht:(P.globals[g]?).map (·.type)=some t)
  (hu:P.underlying t=some (.array n e)) (hs:P.underlying e=some .string) (hc:P.cellsOf e=1) (hn:bs.length=n)
  (hG :∀g' sz rows,eP.gt g'=some (sz,rows)->g'=g/\sz=1/\rows=bs.map fun b=>[Fw.P.str ⟨b.toArray⟩])
  (h:laidMet P [(name,.agg (bs.map fun b=>.lit (.string b)))] w):EG w:=by
 obtain ⟨ps,⟨g1,t1,cs,fuel,p,q,hg1,ht1,hv,hd,_,_⟩,_,_⟩:=h;obtain rfl:=Wb (hg.symm.trans hg1);obtain rfl:=Wb (ht.symm.trans ht1);intro g' sz rows hrow;obtain ⟨rfl,rfl,rfl⟩:=hG g' sz rows hrow;refine ⟨?_,fun i x hx => ?_⟩
 .simp only [World.var?,hg1,Option.bind_some] at hv;have:w.heap[g']?≠none:=by
   intro hnone;rw [hnone] at hv;simp at hv
  rw [ne_eq,Array.getElem?_eq_none_iff] at this;omega
 .obtain ⟨xs,m,_,ex,_,hl,hel⟩:=DataW.trod_array hu hd;have hi:i<bs.length:=by
   rw [XN] at hx;rcases v8 i bs.length with h | h
   .exact h
   .rw [Wt h] at hx;cases hx
  rw [XN,Q2 hi] at hx;obtain rfl:=Wb hx;refine ⟨rfl,fun j y hy => ?_⟩;have hj:j=0:=by
   cases j with
   |zero=>rfl
   |succ j=>cases hy
  subst hj;obtain rfl:=Wb hy;have hE:=hel i (by omega);rw [hc,Nat.mul_one,Q2 (by omega)] at hE;obtain ⟨s,e1,e2,_⟩:=DataW.trod_string hs hE;have e3:(xs.map (·.1))=bs.map fun b=>(DataW.lit (.string b):DataW Unit):=(DataW.agg.inj (Prod.mk.inj ex).1).symm;have e4:(xs.map (·.1))[i]?=(bs.map fun b=>(DataW.lit (.string b):DataW Unit))[i]?:=by rw [e3]
  rw [XN,XN,Q2 (by omega:i<xs.length),Q2 hi,e2] at e4;have e5:s.data.toList=bs[i]:=by
   simp only [Z3,Q0,DataW.lit.injEq,Lit.string.injEq] at e4;exact e4
  have e6:(⟨bs[i].toArray⟩:ByteArray)=s:=by rw [<-e5]
  refine ⟨.string s,?_,by rw [e6];exact .str s⟩;rw [Nat.mul_one,VM,World.var?_cell hg1 hv i];have h0:((cs.toList.drop i).take 1)[0]?=some (.string s):=by rw [e1];rfl
  simpa using h0
end Go.Fg

