/-
  The framework (a machine on plain data that answers as the program does), part 4.
-/
import Derived.Shelf.Slices.Cells
import Derived.Shelf.Slices.Empties
import Derived.Shelf.Slices.Delete
import Derived.Shelf.Spec.SlicesInsertGrow
import Derived.Shelf.Sort.Plain
import Derived.Shelf.Slices.In.SortNone
import Derived.Lib.RowBridge
import Derived.Below
import Derived.OpenShut
import Derived.FnData
import Derived.LaidMore
import Derived.Test.YtapemkmlinejmaaGreatDoorZc
set_option linter.unusedSimpArgs false
set_option linter.unusedVariables false
set_option linter.unusedSectionVars false
namespace Go.Fg
open Go.Fw
section
variable [RE] {o:Nat->TO}
theorem yF :∀{gs:List Nat} {caps:List TW} {r:List (Nat×Nat)},pz gs caps=some r->nM gs (nP caps)=some r
 | [],[],r,h=>h
 | [],_::_,r,h=>by simp [pz] at h
 |_::_,[],r,h=>by simp [pz] at h
 |g::gs,c::cs,r,h=>by
  cases c with
  |box g' off=>
   simp only [pz] at h;obtain ⟨hb,h⟩:=bQ h;have hb:=Q4 hb;subst hb;split at h
   .rename_i r' hr;simp only [nP,bU,nM,yF hr];exact h
   .cases h
  |_=>simp [pz] at h
theorem RP {k:kC} {x:TW} {us:List Wd} {c:Bool×Bool} {gs:List Nat} {r:List (Nat×Nat)} (h:Mc o k x=some (us,c,gs,r)) :
  fJ (bV o) k.er (bU x)=some (us.map b_,c,gs,r)/\us.map (·.t)=k.tys:=by
 unfold Mc at h;split at h
 .rename_i a i t x;split at h
  .rename_i y a' i' gs' hx;simp only [Q0,Q1] at h;obtain ⟨rfl,rfl,rfl,rfl⟩:=h;exact ⟨by simp only [kC.er,fJ,Ox hx,Qf,Vv],rfl⟩
  .cases h
 .simp only [Q0,Q1] at h;obtain ⟨rfl,rfl,rfl,rfl⟩:=h;exact ⟨rfl,rfl⟩
 .rename_i g' off' g off;obtain ⟨hb,h⟩:=bQ h;simp only [Q0,Q1] at h;obtain ⟨rfl,rfl,rfl,rfl⟩:=h;obtain ⟨h1,h2⟩:=gV hb;have h1:=Q4 h1;have h2:=Q4 h2;subst h1;subst h2;exact ⟨rfl,rfl⟩
 .rename_i f gs0 f' caps;obtain ⟨hb,h⟩:=bQ h;split at h
  .rename_i r' hr;simp only [Q0,Q1] at h;obtain ⟨rfl,rfl,rfl,rfl⟩:=h;refine ⟨?_,rfl⟩;simp only [kC.er,bU,fJ,yF hr];rw [if_pos (Q4 hb)];rfl
  .cases h
 .cases h
theorem MG :∀{ks:List kC} {xs:List TW} {us:List Wd} {c:Bool×Bool} {gs:List Nat} {r:List (Nat×Nat)},pR o ks xs=some (us,c,gs,r)->
  jI (bV o) (ks.map kC.er) (xs.map bU)=some (us.map b_,c,gs,r)/\us.map (·.t)=ks.flatMap kC.tys
 | [],[],us,c,gs,r,h=>by
  simp only [pR,Q0,Q1] at h;obtain ⟨rfl,rfl,rfl,rfl⟩:=h;exact ⟨rfl,rfl⟩
 | [],x::xs,us,c,gs,r,h=>by simp [pR] at h
 |k::ks,[],us,c,gs,r,h=>by simp [pR] at h
 |k::ks,x::xs,us,c,gs,r,h=>by
  simp only [pR] at h;split at h
  .rename_i h1 h2;simp only [Q0,Q1] at h;obtain ⟨rfl,rfl,rfl,rfl⟩:=h;obtain ⟨a1,a2⟩:=RP h1;obtain ⟨b1,b2⟩:=MG h2;exact ⟨by simp only [Qf,jI,a1,b1,XX],by simp only [XX,a2,b2,Z6]⟩
  .cases h
theorem acJ {k:kH} {x:TS} {us:List Wd} {c:Bool×Bool} {gs:List Nat} {r:List (Nat×Nat)} (h:Xe o k x=some (us,c,gs,r)) :
  oC (bV o) k.er (bg x)=some (us.map b_,c,gs,r)/\us.map (·.t)=k.tys:=by
 unfold Xe at h;split at h
 .exact RP h
 .exact MG h
 .cases h
theorem MH (args:List TS) (t:Nat):(args.map bg).getD t .no=bg (args.getD t .no):=by
 simp only [List.getD_eq_getElem?_getD,XN];cases args[t]?<;>rfl
theorem CS {args:List TS} :∀{l:List (Nat×kH)} {us:List Wd} {c:Bool×Bool} {gs:List Nat} {r:List (Nat×Nat)},ng o args l=some (us,c,gs,r)->
  eU (bV o) (args.map bg) (l.map fun p=>(p.1,p.2.er))=some (us.map b_,c,gs,r)/\us.map (·.t)=l.flatMap fun p=>p.2.tys
 | [],us,c,gs,r,h=>by
  simp only [ng,Q0,Q1] at h;obtain ⟨rfl,rfl,rfl,rfl⟩:=h;exact ⟨rfl,rfl⟩
 |(t,k)::l,us,c,gs,r,h=>by
  simp only [ng] at h;split at h
  .rename_i h1 h2;simp only [Q0,Q1] at h;obtain ⟨rfl,rfl,rfl,rfl⟩:=h;obtain ⟨a1,a2⟩:=acJ h1;obtain ⟨b1,b2⟩:=CS h2;rw [<-MH] at a1;exact ⟨by simp only [Qf,eU,a1,b1,XX],by simp only [XX,a2,b2,Z6]⟩
  .cases h
theorem afK {k:kC} {x:TW} {us:List Wd} {c:Bool×Bool} {r:List (Nat×Nat)} (h:ajv k x=some (us,c,r)):Ul k.er (bU x)=some (us.map b_,c,r)/\us.map (·.t)=k.tys:=by
 unfold ajv at h;split at h
 .rename_i a' i' t a i w;split at h
  .rename_i y hy;simp only [Q0,Q1] at h;obtain ⟨rfl,rfl,rfl⟩:=h;rw [gW hy];exact ⟨rfl,rfl⟩
  .cases h
 .split at h
  .simp only [Q0,Q1] at h;obtain ⟨rfl,rfl,rfl⟩:=h;exact ⟨rfl,rfl⟩
  .cases h
 .simp only [Q0,Q1] at h;obtain ⟨rfl,rfl,rfl⟩:=h;exact ⟨rfl,rfl⟩
 .rename_i g' off' g off;obtain ⟨hb,h⟩:=bQ h;simp only [Q6] at hb;have e1:=Q4 hb.1;have e2:=Q4 hb.2;subst e1;subst e2;injection h with h
  injection h with h1 h
  injection h with h2 h3
  subst h1 h2 h3;exact ⟨rfl,rfl⟩
 .rename_i f gs0 f' caps;obtain ⟨hb,h⟩:=bQ h;split at h
  .rename_i r' hr;simp only [Q0,Q1] at h;obtain ⟨rfl,rfl,rfl⟩:=h;refine ⟨?_,rfl⟩;simp only [kC.er,bU,Ul,yF hr];rw [if_pos (Q4 hb)];rfl
  .cases h
 .cases h
theorem RQ :∀{ks:List kC} {xs:List TW} {us:List Wd} {c:Bool×Bool} {r:List (Nat×Nat)},Ji ks xs=some (us,c,r)->
  N9 (ks.map kC.er) (xs.map bU)=some (us.map b_,c,r)/\us.map (·.t)=ks.flatMap kC.tys
 | [],[],us,c,r,h=>by
  simp only [Ji,Q0,Q1] at h;obtain ⟨rfl,rfl,rfl⟩:=h;exact ⟨rfl,rfl⟩
 | [],x::xs,us,c,r,h=>by simp [Ji] at h
 |k::ks,[],us,c,r,h=>by simp [Ji] at h
 |k::ks,x::xs,us,c,r,h=>by
  simp only [Ji] at h;split at h
  .rename_i h1 h2;simp only [Q0,Q1] at h;obtain ⟨rfl,rfl,rfl⟩:=h;obtain ⟨a1,a2⟩:=afK h1;obtain ⟨b1,b2⟩:=RQ h2;exact ⟨by simp only [Qf,N9,a1,b1,XX],by simp only [XX,a2,b2,Z6]⟩
  .cases h
theorem wB :∀{l:List (Nat×iM)} {ren ren':List (Nat×Nat)} {us:List Wd} {c:Bool×Bool},vY o ren l=some (us,c,ren')->
  jF (bV o) ren (l.map fun p=>(p.1,p.2.er))=some (us.map b_,c,ren')/\us.map (·.t)=l.flatMap fun p=>p.2.tys
 | [],ren,ren',us,c,h=>by
  simp only [vY,Q0,Q1] at h;obtain ⟨rfl,rfl,rfl⟩:=h;exact ⟨rfl,rfl⟩
 |(g',k)::l,ren,ren',us,c,h=>by
  simp only [vY] at h;split at h
  .rename_i g hg;split at h
   .rename_i ks ws hog;split at h
    .rename_i u c1 r1 h1;split at h
     .rename_i u' c2 r2 h2;simp only [Q0,Q1] at h;obtain ⟨rfl,rfl,rfl⟩:=h;obtain ⟨a1,a2⟩:=RQ h1;obtain ⟨b1,b2⟩:=wB h2;have hk:(iM.box ks).er=.box (ks.map kC.er):=rfl;exact ⟨by simp only [Qf,jF,hg,hk,oK hog,a1,b1,XX],by simp only [XX,a2,b2,Z6];rfl⟩
     .cases h
    .cases h
   .rename_i fz a0 i0 e a i e' l' hog;split at h
    .rename_i l2 hl;split at h
     .rename_i u' c2 r2 h2;simp only [Q0,Q1] at h;obtain ⟨rfl,rfl,rfl⟩:=h;obtain ⟨b1,b2⟩:=wB h2;obtain ⟨ee,hl⟩:=oM hl;cases ee;subst hl;refine ⟨?_,by simp only [Qf,b2,Z6];rfl⟩;have hk:(iM.arr fz a0 i0 e).er=.arr fz a0 i0 (size e):=rfl;simp only [Qf,jF,hg,hk,g_ hog,if_true,b1];rfl
     .cases h
    .cases h
   .rename_i a0 i0 e aj a i e' kF l' hole hog;split at h
    .rename_i l2 hl hcb;split at h
     .rename_i u' c2 r2 h2;simp only [Q0,Q1] at h;obtain ⟨rfl,rfl,rfl⟩:=h;obtain ⟨b1,b2⟩:=wB h2;obtain ⟨ee,hl⟩:=oM hl;cases ee;subst hl;have:=oN hcb;subst this;refine ⟨?_,by simp only [Qf,b2,Z6];rfl⟩;have hk:(iM.aN a0 i0 e aj).er=.aN a0 i0 (size e) (iQ aj):=rfl;have hg':bV o g=.aN a i (size e) (iQ aj) (aF e l2) none:=by simp only [bV,hog,dY]
      simp only [Qf,jF,hg,hk,hg',and_self,if_true,b1];rfl
     .cases h
    .cases h
   .cases h
  .cases h
theorem Xv {k:kC} {x:TW} {us:List Wd} {c:Bool×Bool} {gs:List Nat} {r:List (Nat×Nat)} (h:Mc o k x=some (us,c,gs,r)):Pl o gs:=by
 unfold Mc at h;split at h
 .split at h
  .rename_i hx;simp only [Q0,Q1] at h;obtain ⟨_,_,rfl,_⟩:=h;exact U9 hx
  .cases h
 .simp only [Q0,Q1] at h;obtain ⟨_,_,rfl,_⟩:=h;exact Pl.nil
 .obtain ⟨hb,h⟩:=bQ h;simp only [Q0,Q1] at h;obtain ⟨_,_,rfl,_⟩:=h;exact Pl.nil
 .obtain ⟨hb,h⟩:=bQ h;split at h
  .simp only [Q0,Q1] at h;obtain ⟨_,_,rfl,_⟩:=h;exact Pl.nil
  .cases h
 .cases h
theorem RU :∀{ks:List kC} {xs:List TW} {us:List Wd} {c:Bool×Bool} {gs:List Nat} {r:List (Nat×Nat)},pR o ks xs=some (us,c,gs,r)->Pl o gs
 | [],[],us,c,gs,r,h=>by
  simp only [pR,Q0,Q1] at h;obtain ⟨_,_,rfl,_⟩:=h;exact Pl.nil
 | [],x::xs,us,c,gs,r,h=>by simp [pR] at h
 |k::ks,[],us,c,gs,r,h=>by simp [pR] at h
 |k::ks,x::xs,us,c,gs,r,h=>by
  simp only [pR] at h;split at h
  .rename_i h1 h2;simp only [Q0,Q1] at h;obtain ⟨_,_,rfl,_⟩:=h;exact (Xv h1).append (RU h2)
  .cases h
theorem FC {args:List TS} :∀{l:List (Nat×kH)} {us:List Wd} {c:Bool×Bool} {gs:List Nat} {r:List (Nat×Nat)},ng o args l=some (us,c,gs,r)->Pl o gs
 | [],us,c,gs,r,h=>by
  simp only [ng,Q0,Q1] at h;obtain ⟨_,_,rfl,_⟩:=h;exact Pl.nil
 |(t,k)::l,us,c,gs,r,h=>by
  simp only [ng] at h;split at h
  .rename_i h1 h2;simp only [Q0,Q1] at h;obtain ⟨_,_,rfl,_⟩:=h;refine Pl.append ?_ (FC h2);unfold Xe at h1;split at h1
   .exact Xv h1
   .exact RU h1
   .cases h1
  .cases h
theorem MJ {s:dA} {args:List TS} {c:Gs} (h:vZ s o args=some c):Pl o c.uV:=by
 unfold vZ at h;split at h
 .rename_i h1;split at h
  .simp only [Q0] at h;subst h;exact FC h1
  .cases h
 .cases h
theorem Az {s:dA} {args:List TS} {c:Gs} (h:vZ s o args=some c):gZ s.er (bV o) (args.map bg)=some c.er/\c.ins.map (·.t)=s.pin.tys:=by
 unfold vZ at h;split at h
 .rename_i u A gs r h1;split at h
  .rename_i u' I r' h2;simp only [Q0] at h;subst h;obtain ⟨a1,a2⟩:=CS h1;obtain ⟨b1,b2⟩:=wB h2;refine ⟨?_,by simp only [XX,a2,b2,L_.tys]⟩;unfold gZ;have a1:eU (bV o) (args.map bg) s.er.pin.slots=_:=a1;have b1:jF (bV o) r s.er.pin.bf=_:=b1;rw [a1];simp only;rw [b1];simp only [Gs.er,XX]
  .cases h
 .cases h
theorem FD (f:Nat->Nat) :∀(caps:List TW),nP (yB f caps)=kQ f (nP caps)
 | []=>rfl
 |c::cs=>by cases c<;>simp only [yB,nP,bU,kQ,FD f cs]
theorem Xw (A I:Bool×Bool) (f:Nat->Nat) (x:TW):bU (ZF A I f x)=Um A I f (bU x):=by cases x<;>simp only [ZF,bU,Um,FD]
theorem RV (A I:Bool×Bool) (f:Nat->Nat) (xs:List TW):(xs.map (ZF A I f)).map bU=(xs.map bU).map (Um A I f):=by
 simp only [VV];exact W8 fun x _=>Xw A I f x
theorem afL (A I:Bool×Bool) (f:Nat->Nat) (x:TV):jL (ajw A I f x)=reV A I f (jL x):=by
 cases x<;>simp only [ajw,jL,reV,Xw,RV]
theorem afM (A I:Bool×Bool) (f:Nat->Nat) (x:TS):jL (acj A I f x)=WH A I f (bg x):=by
 cases x with
 |v x=>exact afL A I f x
 |jK xs=>simp only [acj,bg,WH,jL,bU]
 |no=>simp only [acj,bg,WH,jL,bU]
theorem OZ (A I:Bool×Bool) (f:Nat->Nat) (x:TO):dY (OI A I f x)=wZ A I f (dY x):=by
 cases x<;>simp only [OI,dY,wZ,RV]
theorem acK (vs:List TV):bg (acn vs)=Y5 (vs.map jL):=by
 match vs with
 | []=>rfl
 | [x]=>rfl
 |x::y::vs=>rfl
theorem Xx {α β:Type} (g:α->β) (b:Bool) (x y:α):g (bif b then x else y)=if b=true then g x else g y:=by cases b<;>rfl
theorem FH {s:dA} {d:Nat} {c:Gs} {bW:List Wd} (h:bW.map (·.t)=s.aP.tys) (hpl:Pl o c.uV):(kJ s d o c bW).er=iH s.er d (bV o) c.er (bW.map b_):=by
 have hm:=qR h;have hs :∀k,bg ((mkT s.aP bW).gs k)=(mk s.aP.er (bW.map b_)).s k:=fun k=>by rw [<-hm];rfl
 have ho :∀k,dY ((mkT s.aP bW).go k)=(mk s.aP.er (bW.map b_)).o k:=fun k=>by rw [<-hm];rfl
 have e1:s.er.aP=s.aP.er:=rfl;have e2:s.er.aY=s.aY:=rfl;have e3:s.er.aU=s.aU:=rfl;have e4:s.er.dw=s.dw:=rfl;have c1:c.er.A=c.A:=rfl;have c2:c.er.I=c.I:=rfl;have c3:c.er.uV=c.uV:=rfl;have c4:c.er.ren=c.ren:=rfl;unfold kJ iH jY.er;rw [e1,e2,e3,e4,c1,c2,c3,c4];generalize mk s.aP.er (bW.map b_)=M at hs ho;generalize mkT s.aP bW=X at hs ho;generalize s.er.mg=L;have k1:bg (acn ((List.range s.dw).map fun k=>acj c.A c.I (callName d s.er c.ren) (X.gs k)))=Y5 ((List.range s.dw).map fun k=>WH c.A c.I (callName d s.er c.ren) (M.s k)):=by
  rw [acK,VV];congr 1;refine W8 fun k _ => ?_;simp only [Function.comp,afM,hs]
 have k2:iL (bif L then c.uV.map (lI o) else [])=if L=true then c.uV.map (Fw.aT (bV o)) else []:=by
  rw [Xx iL,pq hpl];rfl
 have k3:iL (c.ren.map fun p=>(p.2,bif s.aY.contains p.1 then OI c.A c.I (callName d s.er c.ren) (X.go p.1) else .none))=c.ren.map fun p=>(p.2,if s.aY.contains p.1=true then wZ c.A c.I (callName d s.er c.ren) (M.o p.1) else .none):=by
  simp only [iL,VV];refine W8 fun p _ => ?_;simp only [Function.comp,Xx dY,OZ,ho];rfl
 have k4:iL (s.aU.map fun g=>(callName d s.er c.ren g,OI c.A c.I (callName d s.er c.ren) (X.go g)))=s.aU.map fun g=>(callName d s.er c.ren g,wZ c.A c.I (callName d s.er c.ren) (M.o g)):=by
  simp only [iL,VV];refine W8 fun p _ => ?_;simp only [Function.comp,OZ,ho]
 simp only [lg,k1,k2,k3,k4]
theorem zi (ts:List Ty) :∀{ws:List Wd} {x:Tup ts},Tup.ofL ts ws=some x->Tup.kD ts x=ws:=by
 induction ts with
 |nil=>
  intro ws x h;cases ws with
  |nil=>rfl
  |cons w ws=>cases h
 |cons t ts ih=>
  cases ts with
  |nil=>
   intro ws x h;cases ws with
   |nil=>cases h
   |cons w ws=>
    cases ws with
    |nil=>
     have h:w.Bf t=some x:=h;rw [gW h];rfl
    |cons u ws=>cases h
  |cons u ts=>
   intro ws x h;cases ws with
   |nil=>cases h
   |cons w ws=>
    have h:(match w.Bf t,Tup.ofL (u::ts) ws with | some x,some xs=>some (x,xs) | _,_=>none)=some x:=h;split at h
    .rename_i y ys h1 h2;cases h;show (⟨t,y⟩:Wd)::Tup.kD (u::ts) ys=w::ws;rw [ih h2,gW h1]
    .cases h
theorem qU :∀(ts:List Ty) (x:Tup ts),(Tup.kD ts x).map (·.t)=ts
 | [],x=>rfl
 | [t],x=>rfl
 |t::u::ts,x=>by simp only [Tup.kD,Qf,qU (u::ts)]
def aV.er (s:aV):Fw.Spec:={ sig:=s.sig.er,R:=fun ins bW =>∃x y,s.ff x=some y/\ins=(Tup.kD s.sig.pin.tys x).map b_/\bW=(Tup.kD s.sig.aP.tys y).map b_ }
theorem RY {A R:Type} {x y:A} {r:Option R} {z:R} (h:yA x y r=some z):x=y/\r=some z:=by
 unfold yA at h;split at h
 .rename_i e;exact ⟨e,h⟩
 .cases h
theorem AA {R:Type} {a b:Nat->TO} {r z:R} :∀{gs:List Nat},Jh a b r gs=some z->r=z/\∀g∈gs,rQ (dY (b g))=rQ (dY (a g))
 | [],h=>by simp only [Jh,Q0] at h;exact ⟨h,fun g hg=>by cases hg⟩
 |g::gs,h=>by
  simp only [Jh] at h;split at h
  .rename_i e l _ _ e' l' h1 h2;split at h
   .rename_i l'' hl;obtain ⟨e1,h⟩:=RY h;obtain ⟨q1,q2⟩:=AA h;refine ⟨q1,fun g' hg => ?_⟩;rcases QP.1 hg with rfl | hg
    .rw [h1,h2];subst e1;obtain ⟨ee,hl⟩:=oM hl;cases ee;subst hl;rfl
    .exact q2 g' hg
   .cases h
  .rename_i e aj l _ _ e' kF l' h1 h2;split at h
   .rename_i l'' hl hcb;obtain ⟨e1,h⟩:=RY h;obtain ⟨q1,q2⟩:=AA h;refine ⟨q1,fun g' hg => ?_⟩;rcases QP.1 hg with rfl | hg
    .rw [h1,h2];subst e1;obtain ⟨ee,hl⟩:=oM hl;cases ee;subst hl;have:=oN hcb;subst this;rfl
    .exact q2 g' hg
   .cases h
  .cases h
theorem O1 {s:aV} {x:Tup s.sig.pin.tys} {y:Tup s.sig.aP.tys} (h:s.ff x=some y):s.f x=some y/\∀g∈s.sig.kept,rQ (dY ((mkT s.sig.aP (Tup.kD s.sig.aP.tys y)).go g))=rQ (dY ((mkT s.sig.pin (Tup.kD s.sig.pin.tys x)).go g)):=by
 obtain ⟨⟨na,pin,aP,nr,aY,aU,kept⟩,f⟩:=s;cases kept with
 |nil=>exact ⟨h,fun g hg=>by cases hg⟩
 |cons g0 gs=>
  have h:(f x).bind (fun y=>Jh (mkT pin (Tup.kD pin.tys x)).go (mkT aP (Tup.kD aP.tys y)).go y (g0::gs))=some y:=h;cases hf:f x with
  |none=>rw [hf] at h;cases h
  |some z=>
   rw [hf] at h;obtain ⟨e,h2⟩:=AA h;subst e;exact ⟨hf,h2⟩
theorem MK (same:List Nat) :∀(l:List (Nat×TO)),iL (Me same l)=(iL l).filter fun p=>!same.contains p.1
 | []=>rfl
 |(g,x)::r=>by
  have ih:=MK same r;simp only [Me];have e:iL ((g,x)::r)=(g,dY x)::iL r:=rfl;rw [e,vl,<-bT];cases h:fK g same with
  |true=>simp only [Bool.not_true,W4,if_false];exact ih
  |false=>
   simp only [ve,if_true];show (g,dY x)::iL (Me same r)=_;rw [ih]
def Jy (s:dA) (d:Nat) (o:Nat->TO) (c:Gs) (bW:List Wd):List Nat:=match s.kept with
 | []=>[]
 |_::_=>Cm s o (fun g'=>OI c.A c.I (callName d s.er c.ren) ((mkT s.aP bW).go g')) c.ren
theorem O4 {s:dA} {d:Nat} {o:Nat->TO} {c:Gs} {bW:List Wd}:(zh s d o c bW).er=BM (Jy s d o c bW) (kJ s d o c bW).er:=by
 obtain ⟨na,pin,aP,nr,aY,aU,kept⟩:=s;cases kept with
 |nil=>
  show (kJ _ d o c bW).er=BM [] _;have :∀(e:Eff),e=BM [] e:=fun e=>by
   unfold BM;have:e.aI.filter (fun p=>!([]:List Nat).contains p.1)=e.aI:=List.filter_eq_self.2 fun p _=>rfl;rw [this]
  exact this _
 |cons g0 gs=>
  unfold zh BM Jy jY.er;simp only [MK]
theorem ML {a b:Bool} (h:ajx a b=true):a=b:=by cases a<;>cases b<;>first | rfl | cases h
theorem FK {x:TO} {a i:Bool} (h:Vp x=some (a,i)):tq (dY x)=(a,i)/\UH (dY x)=true:=by
 cases x with
 |arr fz a' i' e l=>cases fz<;>cases h;exact ⟨rfl,rfl⟩
 |aN a' i' e aj l hole=>cases hole<;>cases h;exact ⟨rfl,rfl⟩
 |_=>cases h
theorem Jz {s:dA} {o f:Nat->TO} {g:Nat} :∀{r:List (Nat×Nat)},g∈Cm s o f r->∃g',(g',g)∈r/\g'∈s.kept/\s.aY.contains g'=true/\tq (dY (f g'))=tq (dY (o g))/\UH (dY (o g))=true
 | [],h=>by cases h
 |(g1',g1)::r,h=>by
  simp only [Cm] at h;have old:g∈Cm s o f r->∃g',(g',g)∈(g1',g1)::r/\g'∈s.kept/\s.aY.contains g'=true/\tq (dY (f g'))=tq (dY (o g))/\UH (dY (o g))=true:=fun h=>
   let ⟨g',h1,h2⟩:=Jz h
   ⟨g',Vi _ h1,h2⟩
  split at h
  .rename_i a i a' i' k1 k2 k3;split at h
   .rename_i k4;rcases QP.1 h with rfl | h
    .obtain ⟨e1,e2⟩:=gV k4;have e1:=ML e1;have e2:=ML e2;subst e1;subst e2;obtain ⟨m1,m2⟩:=gV k1;obtain ⟨f1,f2⟩:=FK k2;obtain ⟨f3,_⟩:=FK k3;rw [bT] at m1;exact ⟨g1',by simp,by simpa using m1,m2,by rw [f1,f3],f2⟩
    .exact old h
   .exact old h
  .exact old h
theorem RZ {sp:aV} (hok:sp.sig.er.ok=true) {d:Nat} {o:Nat->TO} {args:List S} {c:Gs} (hc:gZ sp.sig.er (bV o) args=some c.er) (hf:c.er.fine sp.sig.er=true) {x:Tup sp.sig.pin.tys} {y:Tup sp.sig.aP.tys} (hx:Tup.kD sp.sig.pin.tys x=c.ins) (hy:sp.ff x=some y) :
  ∀g∈Jy sp.sig d o c (Tup.kD sp.sig.aP.tys y),g∈c.er.ren.map (·.2)/\(iH sp.sig.er d (bV o) c.er ((Tup.kD sp.sig.aP.tys y).map b_)).aI.lookup g=some (bV o g):=by
 intro g hg;have hg:g∈Cm sp.sig o (fun g'=>OI c.A c.I (callName d sp.sig.er c.ren) ((mkT sp.sig.aP (Tup.kD sp.sig.aP.tys y)).go g')) c.ren:=by
  unfold Jy at hg;split at hg
  .cases hg
  .exact hg
 obtain ⟨g',h1,h2,h3,h4,h5⟩:=Jz hg;have hp:(g',g)∈c.er.ren:=h1;refine ⟨QQ.2 ⟨(g',g),hp,rfl⟩,?_⟩;have e1:dY ((mkT sp.sig.aP (Tup.kD sp.sig.aP.tys y)).go g')=(Fw.mk sp.sig.er.aP ((Tup.kD sp.sig.aP.tys y).map b_)).o g':=congrArg (fun s=>s.o g') (qR (qU _ y));have e2:dY ((mkT sp.sig.pin (Tup.kD sp.sig.pin.tys x)).go g')=(Fw.mk sp.sig.er.pin c.er.ins).o g':=by
  have:=congrArg (fun s=>s.o g') (qR (qU _ x));rw [hx] at this ⊢;exact this
 refine Zb hok hc hf hp h3 ?_ h5 ?_
 .rw [<-e1,<-e2];exact (O1 hy).2 g' h2
 .rw [OZ] at h4;rw [<-e1];exact h4
def nD (T:mF):Tab:=fun f=>(T f).map aV.er
theorem yG (l:List (Nat×TO)) :∀(u:List (Nat×TO)) (g:Nat),jk .none (Ec l u) g=match u.lookup g with | some x=>x | none=>jk .none l g
 | [],g=>rfl
 |(k,x)::u,g=>by
  simp only [Ec,oO,List.lookup,GR,yG l u g];cases h:Nat.beq g k<;>rfl
theorem Eh (q:jg) (dst:Option Tmp) (e:jY):aS (q.eff dst e).st=(aS q.st).eff dst e.er:=by
 have ho :∀g,dY (jk .none (Ec q.st.o e.aI) g)=match (iL e.aI).lookup g with | some x=>x | none=>dY (jk .none q.st.o g):=fun g=>by
  rw [yG];have:(iL e.aI).lookup g=(e.aI.lookup g).map dY:=pG dY g e.aI;rw [this];cases e.aI.lookup g<;>rfl
 have hu :∀g,fK g (e.new++q.st.u)=(e.new.contains g||fK g q.st.u):=fun g=>by simp [bT]
 cases dst with
 |none=>
  refine St.ext' (fun t=>rfl) (fun g => ?_) fun g => ?_
  .exact ho g
  .exact hu g
 |some d=>
  refine St.ext' (fun t => ?_) (fun g => ?_) fun g => ?_
  .show bg (jk .no (w_ d e.x q.st.s) t)=bif Nat.beq t d then bg e.x else bg (jk .no q.st.s t)
   rw [oO];cases Nat.beq t d<;>rfl
  .exact ho g
  .exact hu g
end
end Go.Fg

namespace Go.Fg
open Go.Fw
section
variable [eF]
theorem Ei {T:Tab} {tt:TT} {N:Nat} {ops:Array Oper} {o:Oper} {st:St} {K K':Eff->Prop} (hK :∀e,K e->K' e) (h:stepW T tt N ops o st K):stepW T tt N ops o st K':=by
 unfold stepW at *;refine ⟨h.1,?_⟩;have h:=h.2;split at h
 .exact oD (fun e he=>⟨he.1,hK e he.2⟩) h
 .split at h
  .rename_i b hb;cases b with
   |true=>
    simp only [cond_true] at h ⊢;exact oD (fun e he=>⟨he.1,hK e he.2⟩) h
   |false=>exact hK _ h
  .exact h
theorem JA {T:Tab} {tt:TT} {N:Nat} {ops:Array Oper} {o:Oper} {st:St} {K K':Eff->Prop} (hK :∀e,K e->K' e) (h:BR T tt N ops o st K):BR T tt N ops o st K':=by
 unfold BR at *;split at h
 .exact ⟨h.1,fun b hb=>hK _ (h.2 b hb)⟩
 .split at h
  .exact ⟨h.1,fun hb=>hK _ (h.2.1 hb),fun hb=>hK _ (h.2.2 hb)⟩
  .exact Ei hK h
end
theorem afN {R:Type} {b:Bool} {x:Option R} {r:R} (h:ck b x=some r):b=true/\x=some r:=by
 cases b
 .cases h
 .exact ⟨rfl,h⟩
theorem ZH {R:Type} {x y:Option R} {r:R} (h:both x y=some r):x=some r/\y=some r:=by
 unfold both at h;split at h
 .rename_i e;exact ⟨h,e▸h⟩
 .cases h
section
variable [RE]
theorem Xy {R:Type} {b:Bool} {x:Prog R} {r:R} (h:(Prog.chk b x).run=some r):b=true/\x.run=some r:=afN h
theorem acL {A B R:Type} {n:Nat} {f:A->Option B} {a:A} {k:B->Prog R} {r:R} (h:(Prog.call n f a k).run=some r) :∃y,f a=some y/\(k y).run=some r:=by
 have h:(f a).bind (fun z=>(k z).run)=some r:=h;cases hf:f a with
 |none=>rw [hf] at h;cases h
 |some y=>rw [hf] at h;exact ⟨y,rfl,h⟩
theorem aZ {R:Type} {n:Nat} {r:R} (h:(Prog.stuck n:Prog R).run=some r):False:=by cases h
theorem CU (st:jG):(aS st).dI=fun x=>bg (st.dI x):=funext (nS st)
theorem acM (x:TS):alm (bg x)=acr x:=by
 cases x with
 |v x=>cases x with
  |one x=>cases x<;>rfl
  |agg xs=>rfl
 |jK xs=>rfl
 |no=>rfl
theorem MN :∀l:List TS,WI (l.map bg)=Jj l
 | []=>rfl
 |x::l=>by
  simp only [Qf,WI,Jj,acM x,MN l];cases acr x<;>rfl
theorem JB {T:mF} {fn:Nat} {st:jG} {args:List Operand}:pick (nD T) fn (args.map (aS st).dI)=(Xf T fn (args.map st.dI)).map aV.er:=by
 have e:args.map (aS st).dI=(args.map st.dI).map bg:=by rw [CU,VV];rfl
 have ek:Qy fn ((args.map st.dI).map bg)=Ed fn (args.map st.dI):=by
  unfold Qy Ed;rw [MN];cases Jj (args.map st.dI)<;>rfl
 rw [e];unfold pick Xf;rw [ek];cases Nat.blt fn 1000000 with
 |false=>rfl
 |true=>
  simp only [nD];cases T (Ed fn (args.map st.dI))<;>rfl
theorem Xz {x:TS} {fn:FuncId} {caps:List TW} (h:x=.v (.one (.clo fn caps))):bg x=.v (.one (.clo fn (caps.map bU))):=by
 subst h;simp only [bg,jL,bU,y8]
theorem JC (st:jG) (args:List Operand) (caps:List TW) :
  (args.map (aS st).dI)++(caps.map bU).map (fun x=>S.v (.one x))=((args.map st.dI)++caps.map fun x=>TS.v (.one x)).map bg:=by
 simp only [XX,VV,CU];rfl
theorem acN {R:Type} {T:mF} {tt:TT} {ety:TypeId->Option Ty} {d:Nat} {st:jG} {o:Oper} {K:jY->Prog R} {r:R} (h:(ZG T tt ety d st o K).run=some r) :
  ji (nD T) tt d (aS st) o fun e =>∃te:jY,e=te.er/\(K te).run=some r:=by
 have plain :∀op,(match jA tt ety d st.go st.dI op o.type with
   |some r=>Prog.chk r.pre (.let_ r.val fun z=>K { x:=r.dst z,aI:=r.aI z,new:=r.new })
   |none=>match dR tt ety d st.go st.dI op o.type with
    |some r=>Prog.chk r.pre (.let_ r.val fun z=>K { x:=r.dst z,aI:=r.aI z,new:=r.new })
    |none=>.stuck 16).run=some r->(∃dc r',dU tt dc d (aS st).o (aS st).dI op o.type=some r'/\r'.pre/\P_ r'.val fun z =>∃te:jY,({ x:=r'.dst z,aI:=r'.aI z,new:=r'.new }:Eff)=te.er/\(K te).run=some r)\/(match kernel tt d (aS st).o (aS st).dI op o.type with
   |some r'=>r'.pre/\bif EU op then P_ r'.val fun z=>(∃te:jY,({ x:=r'.dst z,aI:=r'.aI z,new:=r'.new }:Eff)=te.er/\(K te).run=some r) else (∃te:jY,({ x:=r'.dst r'.val,aI:=r'.aI r'.val,new:=r'.new }:Eff)=te.er/\(K te).run=some r)
   |none=>False):=by
  intro op h;split at h
  .rename_i rr hk;obtain ⟨h1,h2⟩:=Xy h;obtain ⟨dc,r',hk',hs⟩:=Rw op rr hk;refine .inl ⟨dc,r',by rw [CU];exact hk',hs.pre h1,P_.iff.2 ⟨{ x:=rr.dst rr.val,aI:=rr.aI rr.val,new:=rr.new },?_,h2⟩⟩;simp only [jY.er,hs.dst,hs.aI,hs.new]
  refine .inr ?_;split at h
  .rename_i rr hk;obtain ⟨h1,h2⟩:=Xy h;obtain ⟨r',hk',hs,hn⟩:=Vh op rr hk;have hs:=hs h1;have hk':kernel tt d (aS st).o (aS st).dI op o.type=some r':=by rw [CU];exact hk'
   rw [hk'];refine ⟨hs.pre h1,?_⟩;have key :∃te:jY,({ x:=r'.dst r'.val,aI:=r'.aI r'.val,new:=r'.new }:Eff)=te.er/\(K te).run=some r:=
    ⟨{ x:=rr.dst rr.val,aI:=rr.aI rr.val,new:=rr.new },by simp only [jY.er,hs.dst,hs.aI,hn],h2⟩
   cases EU op with
   |true=>exact P_.iff.2 key
   |false=>exact key
  .exact (aZ h).elim
 unfold ZG at h;unfold ji;split at h
 .rename_i f args ts hop;rw [hop];simp only;split at h
  .rename_i fn caps hf;have hf':=Xz hf;rw [nS,hf'];simp only;split at h
   .rename_i sp hT;have hT':pick (nD T) fn (args.toList.map (aS st).dI)=some sp.er:=by rw [JB,hT];rfl
    rw [hT'];simp only;split at h
    .rename_i c hc;obtain ⟨k1,k2⟩:=Az hc;have k1:gZ sp.er.sig (aS st).o ((args.toList.map (aS st).dI)++(caps.map bU).map fun x=>S.v (.one x))=some c.er:=by
      rw [JC];exact k1
     rw [k1];simp only;split at h
     .rename_i WW;split at h
      .rename_i x hx;split at h
       rotate_left
       .exact (aZ h).elim
       rename_i apD;obtain ⟨y,hy,h⟩:=acL h;obtain ⟨f1,f2⟩:=gV WW;refine ⟨?_,(Tup.kD sp.sig.aP.tys y).map b_,Jy sp.sig d st.go c (Tup.kD sp.sig.aP.tys y),⟨x,y,hy,?_,rfl⟩,RZ apD k1 f1 (zi _ hx) hy,zh sp.sig d st.go c (Tup.kD sp.sig.aP.tys y),?_,h⟩
       .have f2:=Q4 f2;simp only [Q6,decide_eq_true_eq,W0];exact ⟨f1,f2⟩
       .rw [zi _ hx];rfl
       .rw [O4];exact congrArg _ (FH (qU _ _) (MJ hc)).symm
      .exact (aZ h).elim
     .exact (aZ h).elim
    .exact (aZ h).elim
   .exact (aZ h).elim
  .exact (aZ h).elim
 .rename_i hno;have h:=plain _ h;split
  .rename_i f args ts hop;exact (hno _ _ _ hop).elim
  .exact h
structure qV (q q':jg):Prop where
 s :∀t,hasK t q'.st.s=true->fK t q'.ds=false->hasK t q.st.s=true/\fK t q.ds=false/\q'.st.gs t=q.st.gs t
 o :∀g,hasK g q'.st.o=true->fK g q'.od=false->hasK g q.st.o=true/\fK g q.od=false/\q'.st.go g=q.st.go g
theorem qV.refl (q:jg):qV q q:=⟨fun t h1 h2=>⟨h1,h2,rfl⟩,fun t h1 h2=>⟨h1,h2,rfl⟩⟩
theorem qV.trans {a b c:jg} (h1:qV a b) (h2:qV b c):qV a c:=
 ⟨fun t k1 k2=>let ⟨x1,x2,x3⟩:=h2.s t k1 k2;let ⟨y1,y2,y3⟩:=h1.s t x1 x2;⟨y1,y2,x3.trans y3⟩,
  fun t k1 k2=>let ⟨x1,x2,x3⟩:=h2.o t k1 k2;let ⟨y1,y2,y3⟩:=h1.o t x1 x2;⟨y1,y2,x3.trans y3⟩⟩
theorem uJ {α:Type} (k:Nat) (v:α) (t:Nat) :∀(l:List (Nat×α)),hasK t (w_ k v l)=(Nat.beq t k||hasK t l)
 | []=>by simp [w_,hasK]
 |(k',v')::r=>by
  simp only [w_];cases h:Nat.beq k k' with
  |true=>
   have e:=Q4 h;subst e;simp only [cond_true,hasK];cases Nat.beq t k<;>simp
  |false=>
   simp only [cond_false,hasK,uJ k v t r];cases Nat.beq t k<;>cases Nat.beq t k'<;>simp
theorem uK {α:Type} (d:α) :∀(l:List (Nat×α)) (t:Nat),hasK t l=false->jk d l t=d
 | [],t,_=>rfl
 |(k,v)::r,t,h=>by
  simp only [hasK,Vn] at h;simp only [jk,h.1,cond_false];exact uK d r t h.2
theorem R_ (l:List (Nat×TO)) (g:Nat) :∀(u:List (Nat×TO)),hasK g (Ec l u)=(fK g (u.map (·.1))||hasK g l)
 | []=>rfl
 |(k,x)::u=>by simp only [Ec,uJ,R_ l g u,Qf,fK,Bool.or_assoc]
theorem wR {α:Type} (g:Nat) :∀{u:List (Nat×α)},fK g (u.map (·.1))=false->u.lookup g=none
 | [],_=>rfl
 |(k,x)::u,h=>by
  simp only [Qf,fK,Vn] at h;simp only [List.lookup,GR,h.1];exact wR g h.2
theorem qV.eff (q:jg) (dst:Option Tmp) (e:jY):qV q (q.eff dst e):=by
 refine ⟨fun t h1 h2 => ?_,fun g h1 h2 => ?_⟩
 .cases dst with
  |none=>exact ⟨h1,h2,rfl⟩
  |some d=>
   have h2:fK t (d::q.ds)=false:=h2;have h1:hasK t (w_ d e.x q.st.s)=true:=h1;simp only [fK,Vn] at h2;rw [uJ,h2.1,J1] at h1;refine ⟨h1,h2.2,?_⟩;show jk .no (w_ d e.x q.st.s) t=jk .no q.st.s t;rw [oO,h2.1];rfl
 .have h1:hasK g (Ec q.st.o e.aI)=true:=h1;have h2:fK g (e.aI.map (·.1)++q.od)=false:=h2;rw [bT] at h2;simp only [qt,Vn] at h2;rw [<-bT,<-bT] at h2;rw [R_,h2.1,J1] at h1;refine ⟨h1,h2.2,?_⟩;show jk .none (Ec q.st.o e.aI) g=jk .none q.st.o g;rw [yG,wR g h2.1]
theorem XA {q:jg} {t:Tmp} {a i b:Bool} (h:q.st.gs t=.v (.one (.p a i (iT b)))) (u:Nat):(q.know t a i b).st.gs u=q.st.gs u:=by
 show jk .no (w_ t (.v (.one (.p a i (iT b)))) q.st.s) u=jk .no q.st.s u;rw [oO];cases hb:Nat.beq u t with
 |false=>rfl
 |true=>
  have e:=Q4 hb;subst e;exact h.symm
theorem acO {q:jg} {t:Tmp} {a i b:Bool} (h:q.st.gs t=.v (.one (.p a i (iT b)))) (u:Nat):hasK u (q.know t a i b).st.s=hasK u q.st.s:=by
 show hasK u (w_ t (.v (.one (.p a i (iT b)))) q.st.s)=hasK u q.st.s;rw [uJ];cases hb:Nat.beq u t with
 |false=>rfl
 |true=>
  have e:=Q4 hb;subst e;cases hk:hasK u q.st.s with
  |true=>rfl
  |false=>
   have:=uK TS.no q.st.s u hk;rw [jG.gs] at h;rw [this] at h;cases h
theorem yH {q:jg} {t:Tmp} {a i b:Bool} (h:q.st.gs t=.v (.one (.p a i (iT b)))):aS (q.know t a i b).st=aS q.st:=
 St.ext' (fun u=>by show bg _=bg _;rw [XA h]) (fun g=>rfl) fun g=>rfl
theorem yI {q:jg} {t:Tmp} {a i b:Bool} (h:q.st.gs t=.v (.one (.p a i (iT b)))):qV q (q.know t a i b):=
 ⟨fun u h1 h2=>⟨by rw [<-acO h];exact h1,h2,XA h u⟩,fun g h1 h2=>⟨h1,h2,rfl⟩⟩
theorem Si {q:jg} {t:Tmp} {a i:Bool} {k:IntKind} {n:Int} (h:q.st.gs t=.v (.one (.p a i (iR k n)))) (u:Nat):(q.Ry t a i k n).st.gs u=q.st.gs u:=by
 show jk .no (w_ t (.v (.one (.p a i (iR k n)))) q.st.s) u=jk .no q.st.s u;rw [oO];cases hb:Nat.beq u t with
 |false=>rfl
 |true=>
  have e:=Q4 hb;subst e;exact h.symm
theorem ZI {q:jg} {t:Tmp} {a i:Bool} {k:IntKind} {n:Int} (h:q.st.gs t=.v (.one (.p a i (iR k n)))) (u:Nat):hasK u (q.Ry t a i k n).st.s=hasK u q.st.s:=by
 show hasK u (w_ t (.v (.one (.p a i (iR k n)))) q.st.s)=hasK u q.st.s;rw [uJ];cases hb:Nat.beq u t with
 |false=>rfl
 |true=>
  have e:=Q4 hb;subst e;cases hk:hasK u q.st.s with
  |true=>rfl
  |false=>
   have:=uK TS.no q.st.s u hk;rw [jG.gs] at h;rw [this] at h;cases h
theorem ZJ {q:jg} {t:Tmp} {a i:Bool} {k:IntKind} {n:Int} (h:q.st.gs t=.v (.one (.p a i (iR k n)))):aS (q.Ry t a i k n).st=aS q.st:=
 St.ext' (fun u=>by show bg _=bg _;rw [Si h]) (fun g=>rfl) fun g=>rfl
theorem ZK {q:jg} {t:Tmp} {a i:Bool} {k:IntKind} {n:Int} (h:q.st.gs t=.v (.one (.p a i (iR k n)))):qV q (q.Ry t a i k n):=
 ⟨fun u h1 h2=>⟨by rw [<-ZI h];exact h1,h2,Si h u⟩,fun g h1 h2=>⟨h1,h2,rfl⟩⟩
theorem Sj {R:Type} {v:Int} {k:Int->Prog R} {r:R} :∀(n m:Nat),(Xh v k m n).run=some r->(k v).run=some r
 |0,_,h=>(aZ h).elim
 |1,m,h=>by
  have h:ck (eqI v (Int.ofNat m)) (k (Int.ofNat m)).run=some r:=h;cases hb:eqI v (Int.ofNat m) with
  |true=>
   rw [hb] at h;have e:v=Int.ofNat m:=of_decide_eq_true hb;rw [e];exact h
  |false=>rw [hb] at h;cases h
 |n+2,m,h=>by
  have h:(bif eqI v (Int.ofNat m) then (k (Int.ofNat m)).run else (Xh v k (m+1) (n+1)).run)=some r:=h;cases hb:eqI v (Int.ofNat m) with
  |true=>
   rw [hb] at h;have e:v=Int.ofNat m:=of_decide_eq_true hb;rw [e];exact h
  |false=>rw [hb] at h;exact Sj (n+1) (m+1) h
theorem acP {tt:TT} {st:jG} {t:TypeId} {x:Operand} {j:Tmp} {a i:Bool} {k:IntKind} {v:Int} {n:Nat} (h:acs tt st t x j=some (a,i,k,v,n)):st.gs j=.v (.one (.p a i (iR k v))):=by
 have key :∀{y:TS} {m:Nat},(match y with
   |.v (.one (.p a i ⟨.int k,v⟩))=>bif Nat.ble m 4 then some (a,i,k,v,m) else none
   |_=>none)=some (a,i,k,v,n)->y=.v (.one (.p a i (iR k v))):=by
  intro y m h;split at h
  .cases hb:Nat.ble m 4 with
   |true=>
    rw [hb] at h;simp only [cond_true,Q0,Q1] at h;obtain ⟨rfl,rfl,rfl,rfl,rfl⟩:=h;rfl
   |false=>rw [hb] at h;cases h
  .cases h
 unfold acs at h;split at h
 .split at h
  .exact key h
  .exact key h
  .exact key h
  .cases h
 .cases h
theorem afO {tt:TT} {st:jG} {o:Oper} {t:Tmp} {a i:Bool} {k:IntKind} {v:Int} {n:Nat} (h:ajy tt st o=some (t,a,i,k,v,n)):st.gs t=.v (.one (.p a i (iR k v))):=by
 unfold ajy at h;split at h
 .split at h
  .rename_i r hr;simp only [Q0,Q1] at h;obtain ⟨rfl,rfl⟩:=h;exact acP hr
  .cases h
 .cases h
theorem AB {u:List Nat} :∀{gs:List Nat},yC u gs=true->(gs.all fun g=>!fK g u)=true
 | [],_=>rfl
 |g::gs,h=>by
  simp only [yC,Q6] at h;simp only [List.all_cons,Q6];exact ⟨h.1,AB h.2⟩
theorem AL {N:Nat} :∀(dst:Option Tmp),Xg N dst=true->(match dst with | some d=>decide (d<N) | none=>true)=true
 |none,_=>rfl
 |some d,h=>decide_eq_true (W3 h)
def XB {R:Type} (q:jg) (K:jg->jY->Prog R) (r:R) (e:Eff):Prop :=∃(q':jg) (te:jY),e=te.er/\aS q'.st=aS q.st/\qV q q'/\(K q' te).run=some r
theorem O5 {R:Type} {T:mF} {tt:TT} {ety:TypeId->Option Ty} {d:Nat} {q0 q:jg} {o:Oper} {K:jg->jY->Prog R} {r:R} (he:aS q.st=aS q0.st) (hr:qV q0 q)
  (h:(ZG T tt ety d q.st o fun e=>match yC q.st.u e.new with | true=>K q e | false=>.stuck 21).run=some r) :
  ji (nD T) tt d (aS q0.st) o fun e=>(e.new.all fun g=>!(aS q0.st).used g)=true/\XB q0 K r e:=by
 have h:=acN h;rw [he] at h;refine oD ?_ h;rintro e ⟨te,rfl,h⟩;split at h
 .rename_i hf;refine ⟨?_,q,te,rfl,he,hr,h⟩;rw [<-he];exact AB hf
 .exact (aZ h).elim
theorem Sl {R:Type} {T:mF} {tt:TT} {ety:TypeId->Option Ty} {N:Nat} {ops:Array Oper} {o:Oper} {q:jg} {K:jg->jY->Prog R} {r:R} (h:(stepT T tt ety N ops o q K).run=some r) :
  stepW (nD T) tt N ops o (aS q.st) (XB q K r):=by
 unfold stepT at h;split at h
 .exact (aZ h).elim
 .rename_i hd;unfold stepW;refine ⟨AL _ hd,?_⟩;split at h
  .rename_i hg;rw [hg];split at h
   .exact O5 rfl (qV.refl q) h
   .rename_i t a i k v n hs;have h:=Sj _ _ h;simp only [oP] at h;have hgs:=afO hs;exact O5 (ZJ hgs) (ZK hgs) h
  .rename_i j want hg;rw [hg];simp only;split at h
   .exact (aZ h).elim
   .rename_i t ht;have:guardOf ops (aS q.st) j want=some false:=by
     unfold Vq at ht;split at ht
     .rename_i t' ht';split at ht
      .cases ht
      .rename_i hs;simp only [guardOf,ht'];show (match bg (q.st.gs t') with | .v (.one (.p _ _ (.bool b)))=>_ | .jK []=>_ | _=>_)=_;rw [hs];rfl
      .cases ht
     .cases ht
    rw [this];exact ⟨q,jY.skip,rfl,rfl,qV.refl q,h⟩
   .rename_i t a i b ht;have hb:q.st.gs t=.v (.one (.p a i (iT b)))/\guardOf ops (aS q.st) j want=some (bif want then b else !b):=by
     unfold Vq at ht;split at ht
     .rename_i t' ht';split at ht
      .rename_i a' i' b' hs;simp only [Q0,Q1] at ht;obtain ⟨rfl,rfl,rfl,rfl⟩:=ht;refine ⟨hs,?_⟩;simp only [guardOf,ht'];show (match bg (q.st.gs t') with | .v (.one (.p _ _ (.bool b)))=>_ | .jK []=>_ | _=>_)=_;rw [hs];rfl
      .cases ht
      .cases ht
     .cases ht
    obtain ⟨hgs,hgd⟩:=hb;rw [hgd];simp only;have h:(bif b then _ else _:Option R)=some r:=h;cases b with
    |true=>
     have h:(frX (q.know t a i true) fun q=>bif want then _ else K q jY.skip).run=some r:=h;rw [oP] at h;cases want with
     |true=>exact O5 (yH hgs) (yI hgs) h
     |false=>exact ⟨_,jY.skip,rfl,yH hgs,yI hgs,h⟩
    |false=>
     have h:(frX (q.know t a i false) fun q=>bif want then K q jY.skip else _).run=some r:=h;rw [oP] at h;cases want with
     |true=>exact ⟨_,jY.skip,rfl,yH hgs,yI hgs,h⟩
     |false=>exact O5 (yH hgs) (yI hgs) h
end
end Go.Fg

namespace Go.Fg
open Go.Fw
section
variable [eF]
theorem yJ {T:Tab} {tt:TT} {N:Nat} {ops:Array Oper} {K K':St->Prop} (hK :∀st,K st->K' st) :∀{is:List Nat} {st:St},vT T tt N ops is st K->vT T tt N ops is st K'
 | [],st,h=>hK st h
 |i::is,st,h=>by
  simp only [vT] at h ⊢;split at h
  .exact JA (fun e he=>yJ hK he) h
  .exact h
theorem wC {T:Tab} {tt:TT} {N:Nat} {ops:Array Oper} {K K':St->List tu->Prop} (hK :∀st fs,K st fs->K' st fs) :∀{is:List Nat} {st:St} {fs:List tu},oU T tt N ops is st fs K->oU T tt N ops is st fs K'
 | [],st,fs,h=>hK st fs h
 |i::is,st,fs,h=>by
  simp only [oU] at h ⊢;split at h
  .exact Ei (fun e he=>wC hK he) h
  .exact h
end
section
variable [RE]
def OL.ok (c:OL) (b:Bool):Prop:=match c with
 |.yes=>b=true
 |.no=>b=false
 |.may e=>e=false->b=false
def Sm (a:Option OL) (b:Option (Bool->Prop)):Prop:=(a=none->b=none)/\∀c,a=some c->∃p,b=some p/\∀b,p b->c.ok b
theorem Sm.none:Sm none none:=⟨fun _=>rfl,fun _ h=>(nomatch h)⟩
theorem Sm.some {c:OL} {p:Bool->Prop} (h :∀b,p b->c.ok b):Sm (some c) (some p):=⟨fun h=>(nomatch h),fun c' e=>⟨p,rfl,by cases e;exact h⟩⟩
theorem ZL {o:Nat->TO} {x:TS}:Sm (Jk o x) (LM (bV o) (bg x)):=by
 cases x with
 |v x=>
  cases x with
  |one x=>
   cases x with
   |p a i w=>
    obtain ⟨t,x⟩:=w;cases t with
    |sl e=>
     change List (Dt e) at x;cases x with
     |nil=>exact .some fun b hb h=>by simp at h
     |cons y ys=>exact .some fun b hb h=>hb (by intro h;cases h)
    |_=>exact .none
   |own g=>
    cases hg:o g with
    |arr fz a i e l=>
     have hd:(bV o g).dim=some (size e,l.length):=o_ (by simp only [KU,hg]);simp only [Jk,hg,bg,jL,bU,LM,hd];refine .some fun b hb h=>hb fun h' => ?_;cases l with
     |nil=>simp at h
     |cons y ys=>cases h'
    |aN a i e aj l hole=>
     have hd:(bV o g).dim=some (size e,l.length):=o_ (by simp only [KU,hg]);simp only [Jk,hg,bg,jL,bU,LM,hd];refine .some fun b hb h=>hb fun h' => ?_;cases l with
     |nil=>simp at h
     |cons y ys=>cases h'
    |_=>simp only [Jk,hg,bg,jL,bU,LM,bV,dY,O.dim];exact .none
   |dD=>exact .some fun b hb=>hb
   |_=>exact .none
  |agg xs=>exact .none
 |_=>exact .none
theorem ZM {o:Nat->TO} {x:TS}:Sm (Jl o x) (Fa (bV o) (bg x)):=by
 cases x with
 |v x=>
  cases x with
  |one x=>
   cases x with
   |p a i w=>
    obtain ⟨t,x⟩:=w;cases t with
    |opq=>
     change Value at x;unfold Jl;split
     .rename_i h;cases h
     .rename_i h;cases h;exact .some fun b hb=>hb
     .rename_i h1 h2;have:Fa (bV o) (bg (.v (.one (.p a i ⟨.opq,x⟩))))=Option.none:=by
       show Fa (bV o) (.v (.one (.p a i (.opq x))))=Option.none;unfold Fa;split
       .rename_i h;cases h
       .rename_i h;cases h;exact (h2 _ _ rfl).elim
       .rfl
      rw [this];exact .none
    |sl e=>
     change List (Dt e) at x;cases x<;>exact .none
    |_=>exact .none
   |box g off=>
    cases hg:o g with
    |box ws=>
     simp only [Jl,hg,bg,jL,bU,Fa,oK hg];exact .some fun b hb=>hb
    |_=>simp only [Jl,hg,bg,jL,bU,Fa,bV,dY];exact .none
   |_=>exact .none
  |agg xs=>exact .none
 |_=>exact .none
theorem ZN {o:Nat->TO} {x:TS} {k:Fw.TK} {c:Value}:Sm (OM o x k c) (xX (bV o) (bg x) k c):=by
 unfold OM;split
 .exact ZL
 .exact ZM
 .rename_i h1 h2;have:xX (bV o) (bg x) k c=Option.none:=by
   unfold xX;split
   .exact (h1 _ rfl rfl).elim
   .exact (h2 rfl rfl).elim
   .rfl
  rw [this];exact .none
def acQ (a:Option (Bool×OL)) (b:Option (Bool×(Bool->Prop))):Prop:=(a=none->b=none)/\∀pos c,a=some (pos,c)->∃p,b=some (pos,p)/\∀b,p b->c.ok b
theorem acQ.none:acQ none none:=⟨fun _=>rfl,fun _ _ h=>(nomatch h)⟩
theorem afP {tt:TT} {st:jG} {o:Oper}:acQ (ajz tt st o) (Oi tt (aS st) o):=by
 unfold ajz Oi;cases hgd:o.guard with
 |some g=>exact .none
 |none=>
  simp only;cases hop:o.op with
  |binOp op t x y u=>
   cases y with
   |const c=>
    simp only;cases ht:tt t with
    |none=>exact .none
    |some i=>
     simp only;have hs:=ZN (o:=st.go) (x:=st.dI x) (k:=i.k) (c:=c);rw [<-nS] at hs;change Sm _ (xX (aS st).o ((aS st).dI x) i.k c) at hs;generalize OM st.go (st.dI x) i.k c=A at hs ⊢;generalize xX (aS st).o ((aS st).dI x) i.k c=B at hs ⊢;cases A with
     |none=>
      have:=hs.1 rfl;subst this;cases op<;>exact .none
     |some c'=>
      obtain ⟨p,rfl,hp⟩:=hs.2 c' rfl;cases op<;>first
       |exact .none
       |(
         refine ⟨fun h=>(nomatch h),fun pos c'' h => ?_⟩;simp only [Q0,Q1] at h;obtain ⟨rfl,rfl⟩:=h;exact ⟨p,rfl,hp⟩)
   |_=>exact .none
  |_=>exact .none
theorem run_any {R:Type} {x y:Prog R} {r:R} (h:(Prog.any x y).run=some r):x.run=some r/\y.run=some r:=ZH h
theorem apE (pos b:Bool):({ x:=scalar (.bool (bif pos then b else !b)),aI:=[],new:=[] }:Eff)=(qN (bif pos then b else !b)).er:=rfl
theorem acR {st:jG} {o:Oper}:Oj (aS st) o=(acu st o).map fun x=>(x.1,P.str ⟨x.2.1.toArray⟩,P.int .i64 x.2.2):=by
 unfold Oj acu;cases o.guard with
 |some g=>rfl
 |none=>
  simp only;cases o.op with
  |next x b=>
   cases b with
   |false=>rfl
   |true=>
    simp only [nS];cases st.dI x with
    |v x=>
     cases x with
     |one x=>
      cases x with
      |nC g=>
       simp only [bg,jL,bU];have e:(aS st).o g=dY (st.go g):=rfl;rw [e];cases st.go g<;>rfl
      |_=>rfl
     |agg xs=>rfl
    |_=>rfl
  |_=>rfl
theorem itE (g:Nat) (s:List UInt8) (n:Int):Iz g (.str ⟨s.toArray⟩) (.int .i64 n)=(OO g s n).er:=rfl
theorem ZO {R:Type} {T:mF} {tt:TT} {ety:TypeId->Option Ty} {N:Nat} {ops:Array Oper} {o:Oper} {q:jg} {K:jg->jY->Prog R} {r:R} (h:(Vs T tt ety N ops o q K).run=some r) :
  BR (nD T) tt N ops o (aS q.st) (XB q K r):=by
 unfold Vs at h;have hn:=afP (tt:=tt) (st:=q.st) (o:=o);split at h
 .rename_i pos c hc;obtain ⟨p,hp,hok⟩:=hn.2 pos c hc;unfold BR;rw [hp];simp only;split at h
  .exact (aZ h).elim
  .rename_i hd;refine ⟨AL _ hd,fun b hb => ?_⟩;have hok:=hok b hb;rw [apE];have done:(K q (qN (bif pos then b else !b))).run=some r->XB q K r (qN (bif pos then b else !b)).er:=fun h=>⟨q,_,rfl,rfl,qV.refl q,h⟩;refine done ?_;cases c with
   |yes=>
    have hok:b=true:=hok;subst hok;cases pos<;>exact h
   |no=>
    have hok:b=false:=hok;subst hok;cases pos<;>exact h
   |may e=>
    have h:(bif e then (Prog.any (K q (qN true)) (K q (qN false))).run else (K q (qN (!pos))).run)=some r:=h;cases e with
    |true=>
     obtain ⟨h1,h2⟩:=run_any h;cases (bif pos then b else !b) with
     |true=>exact h1
     |false=>exact h2
    |false=>
     have hok:b=false:=hok rfl;subst hok;cases pos<;>exact h
 .rename_i hc;unfold BR;rw [hn.1 hc,acR];simp only;split at h
  .rename_i g s n hnx;rw [hnx];simp only [Z3];split at h
   .exact (aZ h).elim
   .rename_i hd;have h:(bif Rz s n then (K q (OO g s n)).run else (K q Vr).run)=some r:=h;have hb:QO (.str ⟨s.toArray⟩) (.int .i64 n)=Rz s n:=by
     unfold QO Rz;have:(P.str ⟨s.toArray⟩).bytes.size=s.length:=by show s.toArray.size=_;simp
     rw [this];rfl
    rw [hb];refine ⟨AL _ hd,fun e => ?_,fun e => ?_⟩
    .rw [e] at h;exact ⟨q,OO g s n,itE g s n,rfl,qV.refl q,h⟩
    .rw [e] at h;exact ⟨q,Vr,rfl,rfl,qV.refl q,h⟩
  .rename_i hnx;rw [hnx];exact Sl h
theorem XC {R:Type} {T:mF} {tt:TT} {ety:TypeId->Option Ty} {N:Nat} {ops:Array Oper} {r:R} {K:jg->Prog R} :∀{l:List Oper} {i:Nat} {q:jg},l=ops.toList.drop i->(runT T tt ety N ops l q K).run=some r->
  vT (nD T) tt N ops (List.range' i l.length) (aS q.st) fun st' =>∃q':jg,st'=aS q'.st/\qV q q'/\(K q').run=some r
 | [],i,q,hl,h=>⟨q,rfl,qV.refl q,h⟩
 |o::os,i,q,hl,h=>by
  have h0:ops[i]?=some o:=by
   have:=congrArg (·[0]?) hl;simpa using this.symm
  have h1:os=ops.toList.drop (i+1):=by
   have:=congrArg List.tail hl;simpa using this
  simp only [Wl,Kn,vT,h0];refine JA ?_ (ZO h);rintro e ⟨q',te,rfl,he,hr,h⟩;simp only [oP] at h;have ih:=XC h1 h;rw [<-he,<-Eh];refine yJ ?_ ih;rintro st' ⟨q'',rfl,hr',h⟩;exact ⟨q'',rfl,(hr.trans (qV.eff q' o.dst te)).trans hr',h⟩
theorem jX {α β:Type} {f g:α->List β} :∀{l:List α},(∀x∈l,f x=g x)->l.flatMap f=l.flatMap g
 | [],_=>rfl
 |x::l,h=>by simp only [Z6,h x (by simp),jX (l:=l) fun y hy=>h y (by simp [hy])]
theorem t_ (f:FuncId) (caps:List W):(W.clo f caps).names=caps.flatMap W.names:=by
 rw [W.names];have :∀(l:List {x // x∈caps}),(l.flatMap fun x=>x.1.names)=(l.map (·.1)).flatMap W.names:=fun l=>by rw [List.flatMap_map]
 rw [this,List.attach_map_subtype_val]
theorem FM :∀(caps:List TW),yD caps=(nP caps).flatMap W.names
 | []=>rfl
 |c::cs=>by cases c<;>simp [yD,nP,bU,W.names,FM cs]
theorem JD (x:TW):W.namesT x=(bU x).names:=by
 cases x with
 |clo f caps=>simp only [W.namesT,bU,t_,FM]
 |_=>simp only [W.namesT,bU,W.names]
theorem JE (x:TV):V.namesT x=(jL x).names:=by
 cases x with
 |one x=>exact JD x
 |agg xs=>
  simp only [V.namesT,jL,V.names,List.flatMap_map];exact jX fun x _=>JD x
theorem VA (x:TS):S.namesT x=(bg x).names:=by
 cases x with
 |v x=>exact JE x
 |jK xs=>
  simp only [S.namesT,bg,S.names,List.flatMap_map];exact jX fun x _=>JE x
 |no=>rfl
end
end Go.Fg

namespace Go.Fg
open Go.Fw
section
variable [RE]
theorem acS {x:TS} {fn:FuncId} {caps:List W} (h:bg x=.v (.one (.clo fn caps))) :∃cs,x=.v (.one (.clo fn cs))/\caps=cs.map bU:=by
 cases x with
 |v x=>
  cases x with
  |one x=>
   cases x with
   |clo f cs=>
    simp only [bg,jL,bU,S.v.injEq,V.one.injEq,W.clo.injEq,y8] at h;obtain ⟨rfl,rfl⟩:=h;exact ⟨cs,rfl,rfl⟩
   |_=>simp [bg,jL,bU] at h
  |agg xs=>simp [bg,jL] at h
 |_=>simp [bg] at h
theorem MO {o:Nat->O} {args:List TS} :∀{l:List (Nat×kH)},Xi args l=true->eU o (args.map bg) (l.map fun p=>(p.1,p.2.er))=none
 | [],h=>by cases h
 |(t,k)::rest,h=>by
  unfold Xi at h;simp only [Qf,eU];split at h
  .rename_i hn;have e:(args.map bg).getD t .no=.no:=by
    simp only [List.getD_eq_getElem?_getD,XN] at hn ⊢;cases hz:args[t]? with
    |none=>simp
    |some z=>rw [hz] at hn;simp at hn;subst hn;rfl
   rw [e];cases k.er<;>simp [oC]
  .rename_i ys hn;have e :∃zs,(args.map bg).getD t .no=.jK zs:=by
    simp only [List.getD_eq_getElem?_getD,XN] at hn ⊢;cases hz:args[t]? with
    |none=>rw [hz] at hn;simp at hn
    |some z=>rw [hz] at hn;simp at hn;subst hn;exact ⟨_,rfl⟩
   obtain ⟨zs,e⟩:=e;rw [e];cases k.er<;>simp [oC]
  .rw [MO h];split
   .rename_i h1 h2;cases h2
   .rfl
theorem ZP {T:mF} {st:jG} {o:Oper} {l:List Nat} (h:Vt T st o=some l):QM (nD T) (aS st) o=l:=by
 unfold Vt at h;unfold QM;split at h
 .rename_i f args ts hop;rw [hop];simp only;rw [nS];split at h
  .rename_i fn caps hf;rw [Xz hf];simp only;split at h
   .rename_i sp hT;have hT':pick (nD T) fn (args.toList.map (aS st).dI)=some sp.er:=by rw [JB,hT];rfl
    rw [hT'];simp only;split at h
    .rename_i c hc;simp only [Q0] at h;subst h;obtain ⟨k1,k2⟩:=Az hc;have k1:gZ sp.er.sig (aS st).o ((args.toList.map (aS st).dI)++(caps.map bU).map fun x=>S.v (.one x))=some c.er:=by
      rw [JC];exact k1
     rw [k1];rfl
    .obtain ⟨hm,h⟩:=bQ h;simp only [Q0] at h;subst h;have k1:gZ sp.er.sig (aS st).o ((args.toList.map (aS st).dI)++(caps.map bU).map fun x=>S.v (.one x))=none:=by
      rw [JC];unfold gZ;have e:eU (aS st).o (List.map bg (List.map st.dI args.toList++List.map (fun x=>TS.v (TV.one x)) caps)) sp.er.sig.pin.slots=none:=MO hm;rw [e]
     rw [k1]
   .rename_i hT;simp only [Q0] at h;subst h;have hT':pick (nD T) fn (args.toList.map (aS st).dI)=none:=by rw [JB,hT];rfl
    rw [hT']
  .rename_i hno;simp only [Q0] at h;subst h;split
   .rename_i fn caps hf;obtain ⟨cs,hx,_⟩:=acS hf;exact (hno _ _ hx).elim
   .rfl
 .rename_i hno;simp only [Q0] at h;subst h;split
  .rename_i f args ts hop;exact (hno _ _ _ hop).elim
  .rfl
theorem acT {T:mF} {st:jG} {o:Oper} {l:List Nat} (h:acv T st o=some l):qJ (nD T) (aS st) o=l:=by
 unfold acv at h;split at h
 .rename_i r hr;simp only [Q0] at h;subst h;unfold qJ;rw [ZP hr];congr 1;congr 1;refine jX fun x _ => ?_;rw [nS,<-VA];refine jX fun g _ => ?_;have:((aS st).o g).hn=lV (st.go g):=by
   show (dY (st.go g)).hn=_;cases st.go g with
   |aN a i e aj l hole=>cases hole<;>rfl
   |_=>rfl
  rw [this]
 .cases h
theorem JG (l:List (Nat×TO)):(iL l).map (·.1)=l.map (·.1):=by simp only [iL,VV];rfl
theorem ZQ (x y:TW):abB (bU x) (bU y)=acw x y:=by cases x<;>cases y<;>rfl
theorem MP (g:Nat) :∀(j:Nat) (xs ys:List TW),BU g j (xs.map bU) (ys.map bU)=Ee g j xs ys
 |_,[],[]=>rfl
 |_,[],y::ys=>rfl
 |_,x::xs,[]=>rfl
 |j,x::xs,y::ys=>by
  simp only [Qf,BU,Ee,MP g (j+1) xs ys,ZQ];cases Ee g (j+1) xs ys<;>rfl
theorem ZR (g:Nat) (x:TO) (y:Option TO):QT g (dY x) (y.map dY)=Vu g x y:=by
 cases x with
 |box ws=>
  cases y with
  |none=>rfl
  |some y=>
   cases y with
   |box ws'=>
    simp only [dY,Z3,QT,Vu,MP];cases Ee g 0 ws ws'<;>rfl
   |_=>rfl
 |_=>cases y<;>rfl
theorem yK (g:Nat) :∀(l:List (Nat×TO)),(iL l).lookup g=(l.lookup g).map dY
 | []=>rfl
 |(k,x)::r=>by
  show (List.lookup g ((k,dY x)::iL r))=_;simp only [List.lookup];cases hb:g==k with
  |true=>rfl
  |false=>exact yK g r
theorem ajF {st:jG} {e:jY}:UW (aS st) e.er=kpT st e.aI:=by
 unfold UW kpT;show ((iL e.aI).map (·.1)).flatMap _=_;rw [JG];refine jX fun g _ => ?_;show QT g (dY (st.go g)) ((iL e.aI).lookup g)=_;rw [yK,ZR]
theorem acU (x:TO):kindOf (dY x)=acy x:=by cases x<;>rfl
theorem uM {α β:Type} {f g:α->Option β} :∀{l:List α},(∀x∈l,f x=g x)->l.filterMap f=l.filterMap g
 | [],_=>rfl
 |x::l,h=>by
  have ih:l.filterMap f=l.filterMap g:=uM fun y hy=>h y (Vi _ hy);simp only [List.filterMap_cons,h x (by simp),ih]
theorem ajG {st:jG} {e:jY}:UY (aS st) e.er=kdT st e.aI:=by
 unfold UY kdT;show ((iL e.aI).map (·.1)).filterMap _=_;rw [JG];refine uM fun g _ => ?_;show (match (iL e.aI).lookup g with
  |some x=>bif Nat.beq (kindOf x) (kindOf (dY (st.go g))) then some g else none
  |none=>none)=_
 rw [yK];cases e.aI.lookup g with
 |none=>rfl
 |some x=>simp only [Z3,acU]
theorem ajH {tt:TT} {st:jG} {o:Oper}:IB tt (aS st) o=ldT tt st o:=by
 unfold IB ldT;cases o.op with
 |load t x=>
  simp only [nS];cases tt t with
  |none=>rfl
  |some i=>
   cases st.dI x with
   |v x=>
    cases x with
    |one x=>cases x<;>rfl
    |agg xs=>rfl
   |_=>rfl
 |_=>rfl
theorem Sr {R:Type} {T:mF} {tt:TT} {ety:TypeId->Option Ty} {N:Nat} {ops:Array Oper} {r:R} {K:jg->List tu->Prog R} :∀{l:List Oper} {i:Nat} {q:jg} {fs:List tu},l=ops.toList.drop i->(runNT T tt ety N ops l q fs K).run=some r->
  oU (nD T) tt N ops (List.range' i l.length) (aS q.st) fs fun st' fs' =>∃q':jg,st'=aS q'.st/\qV q q'/\(K q' fs').run=some r
 | [],i,q,fs,hl,h=>⟨q,rfl,qV.refl q,h⟩
 |o::os,i,q,fs,hl,h=>by
  have h0:ops[i]?=some o:=by
   have:=congrArg (·[0]?) hl;simpa using this.symm
  have h1:os=ops.toList.drop (i+1):=by
   have:=congrArg List.tail hl;simpa using this
  simp only [Wl,Kn,oU,h0];unfold runNT at h;split at h
  .exact (aZ h).elim
  .rename_i rd hrd;refine Ei ?_ (Sl h);rintro e ⟨q',te,rfl,he,hr,h⟩;simp only [oP,ajE] at h;have ih:=Sr h1 h;rw [<-ajH,<-ajF,<-ajG,<-he] at ih;rw [acT hrd,<-he,<-Eh];have e1:te.er.aI.map (·.1)=te.aI.map (·.1):=JG te.aI;have e2:te.er.new=te.new:=rfl;rw [e1,e2];refine wC ?_ ih;rintro st' fs' ⟨q'',rfl,hr',h⟩;exact ⟨q'',rfl,(hr.trans (qV.eff q' o.dst te)).trans hr',h⟩
theorem JH {R:Type} {T:mF} {tt:TT} {ety:TypeId->Option Ty} {N:Nat} {ops:Array Oper} {draw:Bool} {r:R} {K:jg->Prog R} {q:jg} {Kp:St->Prop} (h:(wo T tt ety N ops draw q K).run=some r)
  (hK :∀q',qV q q'->(K q').run=some r->Kp (aS q'.st)):pY (nD T) tt N ops draw (aS q.st) Kp:=by
 unfold wo at h;unfold pY;cases draw with
 |false=>
  have:=XC (i:=0) (by simp) h;rw [<-qq,qz] at this;refine yJ ?_ this;rintro st' ⟨q',rfl,hr,h⟩;exact hK q' hr h
 |true=>
  have:=Sr (i:=0) (by simp) h;rw [<-qq,qz] at this;refine wC ?_ this;rintro st' fs ⟨q',rfl,hr,h⟩;split at h
  .rename_i hf;exact ⟨hf,hK q' hr h⟩
  .exact (aZ h).elim
theorem Sv {A R:Type} {x:Prog A} {k:A->Prog R} {r:R} (h:(Prog.join x k).run=some r) :∃a,x.run=some a/\(k a).run=some r:=by
 have h:x.run.bind (fun z=>(k z).run)=some r:=h;cases hx:x.run with
 |none=>rw [hx] at h;cases h
 |some a=>rw [hx] at h;exact ⟨a,rfl,h⟩
theorem ZT {A R:Type} {x:Prog (A ⊕ R)} {k:A->Prog R} {r:R} (h:(Prog.L9 x k).run=some r):(∃a,x.run=some (.inl a)/\(k a).run=some r)\/x.run=some (.inr r):=by
 have h:dL x.run (fun z=>(k z).run)=some r:=h;cases hx:x.run with
 |none=>rw [hx] at h;cases h
 |some a=>
  rw [hx] at h;cases a with
  |inl a=>exact .inl ⟨a,rfl,h⟩
  |inr r'=>
   have h:some r'=some r:=h;cases h;exact .inr rfl
theorem VB {A R:Type} {body:A->Option (A ⊕ R)} {a:A} {r:R} (h:bJ body a=some r) :∃n,iU body n a=some r:=by
 unfold bJ at h;split at h
 .exact ⟨_,h⟩
 .cases h
theorem Sz {A R:Type} {a:A} {body:A->Prog (A ⊕ R)} {r:R} (h:(Prog.loop a body).run=some r) :∃n,iU (fun z=>(body z).run) n a=some r:=VB h
theorem AO {A R:Type} {body:A->Option (A ⊕ R)} :∀{n m:Nat} {a:A} {r:R},n<=m->iU body n a=some r->iU body m a=some r
 |0,m,a,r,_,h=>by cases h
 |n+1,0,a,r,hm,h=>by omega
 |n+1,m+1,a,r,hm,h=>by
  simp only [iU] at h ⊢;cases hb:body a with
  |none=>rw [hb] at h;cases h
  |some v=>
   rw [hb] at h;cases v with
   |inl a'=>exact AO (n:=n) (by omega) h
   |inr r'=>exact h
theorem yL {A R:Type} {body:A->Option (A ⊕ R)} {n:Nat} {a:A} {r:R} (h:iU body n a=some r):bJ body a=some r:=by
 have hex :∃n r,iU body n a=some r:=⟨n,r,h⟩;unfold bJ;rw [dif_pos hex];obtain ⟨r',h'⟩:=Classical.choose_spec hex;rw [h'];rcases Nat.le_total n (Classical.choose hex) with hle | hle
 .have:=AO hle h;rw [this] at h';exact h'.symm
 .have:=AO hle h';rw [this] at h;exact h
theorem AP {A R:Type} (body:A->Option (A ⊕ R)) (a:A):bJ body a=(body a).bind fun
  |.inl a'=>bJ body a'
  |.inr r=>some r:=by
 cases hb:body a with
 |none=>
  have:¬∃n r,iU body n a=some r:=by
   rintro ⟨n,r,h⟩;cases n with
   |zero=>cases h
   |succ n=>simp only [iU,hb] at h;cases h
  unfold bJ;rw [dif_neg this];rfl
 |some v=>
  cases v with
  |inr r=>exact yL (n:=1) (by simp only [iU,hb];rfl)
  |inl a'=>
   show bJ body a=bJ body a';by_cases hex :∃n r,iU body n a'=some r
   .obtain ⟨n,r,hn⟩:=hex;rw [yL hn];exact yL (n:=n+1) (by simp only [iU,hb];exact hn)
   .have hex':¬∃n r,iU body n a=some r:=by
     rintro ⟨n,r,h⟩;cases n with
     |zero=>cases h
     |succ n=>simp only [iU,hb] at h;exact hex ⟨n,r,h⟩
    unfold bJ;rw [dif_neg hex,dif_neg hex']
theorem XD {A R R':Type} {f:R->R'} (hf :∀a b,f a=f b->a=b) :∀a b:A ⊕ R,Sum.map id f a=Sum.map id f b->a=b
 |.inl a,.inl b,h=>by cases h;rfl
 |.inl a,.inr b,h=>by cases h
 |.inr a,.inl b,h=>by cases h
 |.inr a,.inr b,h=>by
  have h:(Sum.inr (f a):A ⊕ R')=.inr (f b):=h;simp only [Sum.inr.injEq] at h;rw [hf _ _ h]
theorem run_map {R R':Type} (f:R->R') (hf :∀a b,f a=f b->a=b) (p:Prog R):(p.map f).run=p.run.map f:=by
 induction p generalizing R' with
 |ret r=>rfl
 |stuck n=>rfl
 |cond b x y Gy ihy=>
  show (bif b then (x.map f).run else (y.map f).run)=(bif b then x.run else y.run).map f;rw [Gy f hf,ihy f hf];cases b<;>rfl
 |chk b x ih=>
  show ck b (x.map f).run=(ck b x.run).map f;rw [ih f hf];cases b<;>rfl
 |any x y Gy ihy=>
  show both (x.map f).run (y.map f).run=(both x.run y.run).map f;rw [Gy f hf,ihy f hf];unfold both;by_cases e:x.run=y.run
  .rw [if_pos e,if_pos (by rw [e])]
  .rw [if_neg e,if_neg]
   .rfl
   .intro h;apply e;cases hx:x.run with
    |none=>
     cases hy:y.run with
     |none=>rfl
     |some b=>rw [hx,hy] at h;cases h
    |some a=>
     cases hy:y.run with
     |none=>rw [hx,hy] at h;cases h
     |some b=>
      rw [hx,hy] at h;simp only [Z3,Q0] at h;rw [hf a b h]
 |let_ x k ih=>exact ih x f hf
 |join x k Gy ihk=>
  show x.run.bind (fun z=>((k z).map f).run)=(x.run.bind fun z=>(k z).run).map f;cases x.run with
  |none=>rfl
  |some a=>exact ihk a f hf
 |L9 x k Gy ihk=>
  show dL (x.map (Sum.map id f)).run (fun z=>((k z).map f).run)=(dL x.run fun z=>(k z).run).map f;rw [Gy _ (XD hf)];cases x.run with
  |none=>rfl
  |some a=>
   cases a with
   |inl a=>exact ihk a f hf
   |inr r=>rfl
 |loop a body ih=>
  show bJ (fun z=>((body z).map (Sum.map id f)).run) a=(bJ (fun z=>(body z).run) a).map f;have e:(fun z=>((body z).map (Sum.map id f)).run)=fun z=>(body z).run.map (Sum.map id f):=funext fun z=>ih z _ (XD hf);rw [e];have key :∀n a,iU (fun z=>(body z).run.map (Sum.map id f)) n a=(iU (fun z=>(body z).run) n a).map f:=by
   intro n
   induction n with
   |zero=>intro a;rfl
   |succ n ihn=>
    intro a;simp only [iU];cases (body a).run with
    |none=>rfl
    |some v=>
     cases v with
     |inl a'=>exact ihn a'
     |inr r=>rfl
  have hiff:(∃n r,iU (fun z=>(body z).run.map (Sum.map id f)) n a=some r)↔∃n r,iU (fun z=>(body z).run) n a=some r:=by
   constructor
   .rintro ⟨n,r,h⟩;rw [key] at h;cases hx:iU (fun z=>(body z).run) n a with
    |none=>rw [hx] at h;cases h
    |some r'=>exact ⟨n,r',hx⟩
   .rintro ⟨n,r,h⟩;exact ⟨n,f r,by rw [key,h];rfl⟩
  by_cases hex :∃n r,iU (fun z=>(body z).run) n a=some r
  .obtain ⟨n,r,hn⟩:=hex;have u1:=yL hn;have u2:iU (fun z=>(body z).run.map (Sum.map id f)) n a=some (f r):=by rw [key,hn];rfl
   rw [u1,yL u2];rfl
  .have hex':=fun h=>hex (hiff.1 h);unfold bJ;rw [dif_neg hex,dif_neg hex'];rfl
 |call n g a k ih=>
  show (g a).bind (fun z=>((k z).map f).run)=((g a).bind fun z=>(k z).run).map f;cases g a with
  |none=>rfl
  |some y=>exact ih y f hf
end
end Go.Fg

namespace Go.Fg
open Go.Fw
section
variable [RE] {m:Ren}
theorem zM :∀{caps:List TW} {gs:List Nat},CB caps=some gs->D_ gs=caps
 | [],gs,h=>by simp only [CB,Q0] at h;subst h;rfl
 |c::cs,gs,h=>by
  cases c with
  |box g off=>
   unfold CB at h;obtain ⟨hb,h⟩:=bQ h;have hb:=Q4 hb;subst hb;split at h
   .rename_i gs' hg;cases h;simp only [D_,zM hg]
   .cases h
  |_=>cases h
theorem XE {x:TW} {k:kC} {u u':List Wd} (h:RF x=some (k,u)) (hc:Ea m k x=some u'):u'=u/\u.length=k.tys.length:=by
 cases x<;>try simp only [RF,Q0,Q1,reduceCtorEq] at h
 case p a i w=>
  obtain ⟨rfl,rfl⟩:=h;simp only [Ea] at hc;split at hc
  .obtain ⟨_,rfl⟩:=CQ hc;exact ⟨rfl,rfl⟩
  .cases hc
 case dD=>obtain ⟨rfl,rfl⟩:=h;simp only [Ea,Q0] at hc;subst hc;exact ⟨rfl,rfl⟩
 case own g=>
  obtain ⟨rfl,rfl⟩:=h;simp only [Ea] at hc;split at hc
  .cases hc;exact ⟨rfl,rfl⟩
  .cases hc
 case box g off=>
  obtain ⟨rfl,rfl⟩:=h;simp only [Ea] at hc;split at hc
  .cases hc;exact ⟨rfl,rfl⟩
  .cases hc
 case clo f caps=>
  split at h
  .simp only [Q0,Q1] at h;obtain ⟨rfl,rfl⟩:=h;simp only [Ea] at hc;obtain ⟨_,rfl⟩:=CQ hc;exact ⟨rfl,rfl⟩
  .cases h
 case vw g lo hi=>
  obtain ⟨rfl,rfl⟩:=h;simp only [Ea] at hc;split at hc
  .cases hc;exact ⟨rfl,rfl⟩
  .cases hc
 case ep g n off=>
  obtain ⟨rfl,rfl⟩:=h;simp only [Ea] at hc;split at hc
  .cases hc;exact ⟨rfl,rfl⟩
  .cases hc
 case nC g=>
  obtain ⟨rfl,rfl⟩:=h;simp only [Ea] at hc;split at hc
  .cases hc;exact ⟨rfl,rfl⟩
  .cases hc
theorem JI :∀{xs:List TW} {ks:List kC} {u u':List Wd},wQ xs=some (ks,u)->yx m ks xs=some u'->u'=u/\u.length=(ks.flatMap kC.tys).length
 | [],ks,u,u',h,hc=>by
  simp only [wQ,Q0,Q1] at h;obtain ⟨rfl,rfl⟩:=h;simp only [yx,Q0] at hc;subst hc;exact ⟨rfl,rfl⟩
 |x::xs,ks,u,u',h,hc=>by
  simp only [wQ] at h;split at h
  .rename_i h1 h2;simp only [Q0,Q1] at h;obtain ⟨rfl,rfl⟩:=h;simp only [yx] at hc;split at hc
   .rename_i h3 h4;simp only [Q0] at hc;subst hc;obtain ⟨rfl,e1⟩:=XE h1 h3;obtain ⟨rfl,e2⟩:=JI h2 h4;exact ⟨rfl,by simp only [Ys,Z6,e1,e2]⟩
   .cases hc
  .cases h
theorem afQ {x:TS} {k:kH} {u u':List Wd} (h:OQ x=some (k,u)) (hc:afx m k x=some u'):u'=u/\u.length=k.tys.length:=by
 unfold OQ at h;split at h
 .split at h
  .rename_i h1;simp only [Q0,Q1] at h;obtain ⟨rfl,rfl⟩:=h;exact XE h1 hc
  .cases h
 .split at h
  .rename_i h1;simp only [Q0,Q1] at h;obtain ⟨rfl,rfl⟩:=h;exact JI h1 hc
  .cases h
 .cases h
theorem afR {x:TO} {k:iM} {u u':List Wd} (h:xg x=some (k,u)) (hc:Vo m k x=some u'):u'=u/\u.length=k.tys.length:=by
 cases x with
 |none=>cases h
 |box ws=>
  simp only [xg] at h;split at h
  .rename_i h1;simp only [Q0,Q1] at h;obtain ⟨rfl,rfl⟩:=h;exact JI h1 hc
  .cases h
 |arr fz a i e l=>
  simp only [xg,Q0,Q1] at h;obtain ⟨rfl,rfl⟩:=h;simp only [Vo] at hc;split at hc
  .rename_i l' hl;split at hc
   .simp only [Q0] at hc;subst hc;have:=gW hl;exact ⟨congrArg (fun w=>[w]) this.symm,rfl⟩
   .cases hc
  .cases hc
 |it s n=>
  simp only [xg,Q0,Q1] at h;obtain ⟨rfl,rfl⟩:=h;simp only [Vo,Q0] at hc;exact ⟨hc.symm,rfl⟩
 |aN a i e aj l hole=>
  simp only [xg] at h;split at h
  .simp only [Q0,Q1] at h;obtain ⟨rfl,rfl⟩:=h;simp only [Vo] at hc;split at hc
   .rename_i l' hl _;split at hc
    .simp only [Q0] at hc;subst hc;have:=gW hl;exact ⟨congrArg (fun w=>[w]) this.symm,rfl⟩
    .cases hc
   .cases hc
  .cases h
theorem XF {x:TW} {k:kC} {u vs:List Wd} {n:Nat} (h:RF x=some (k,u)) (ha :∀(j:Nat) w,u[j]?=some w->vs[n+j]?=some w):(Aq vs n k).1=x/\u.length=k.tys.length:=by
 cases x<;>try simp only [RF,Q0,Q1,reduceCtorEq] at h
 case p a i w=>
  obtain ⟨rfl,rfl⟩:=h;have:=ha 0 w rfl;refine ⟨?_,rfl⟩;show TW.p a i (vs.getD n Ap)=.p a i w;rw [List.getD_eq_getElem?_getD,show vs[n]?=some w from this];rfl
 case vw g lo hi=>
  obtain ⟨rfl,rfl⟩:=h;refine ⟨?_,rfl⟩;have h0:=ha 0 (iR .i64 lo) rfl;have h1:=ha 1 (iR .i64 hi) rfl;have e0:vs.getD n Ap=iR .i64 lo:=by rw [List.getD_eq_getElem?_getD,show vs[n]?=some (iR .i64 lo) from h0];rfl
  have e1:vs.getD (n+1) Ap=iR .i64 hi:=by rw [List.getD_eq_getElem?_getD,show vs[n+1]?=some (iR .i64 hi) from h1];rfl
  show TW.vw g ((vs.getD n Ap).as (.int .i64)) ((vs.getD (n+1) Ap).as (.int .i64))=.vw g lo hi;rw [e0,e1];have a0:TP.as (.int .i64) (iR .i64 lo)=lo:=rV (.int .i64) lo;have a1:TP.as (.int .i64) (iR .i64 hi)=hi:=rV (.int .i64) hi;rw [a0,a1]
 case ep g q off=>
  obtain ⟨rfl,rfl⟩:=h;refine ⟨?_,rfl⟩;have h0:=ha 0 (iR .i64 q) rfl;have e0:vs.getD n Ap=iR .i64 q:=by rw [List.getD_eq_getElem?_getD,show vs[n]?=some (iR .i64 q) from h0];rfl
  show TW.ep g ((vs.getD n Ap).as (.int .i64)) off=.ep g q off;rw [e0];have a0:TP.as (.int .i64) (iR .i64 q)=q:=rV (.int .i64) q;rw [a0]
 case clo f caps=>
  split at h
  .rename_i gs hgs;simp only [Q0,Q1] at h;obtain ⟨rfl,rfl⟩:=h;exact ⟨by simp only [Aq,zM hgs],rfl⟩
  .cases h
 all_goals (obtain ⟨rfl,rfl⟩:=h;exact ⟨rfl,rfl⟩)
theorem afS {α:Type} {vs a b:List α} {n:Nat} (h :∀(j:Nat) w,(a++b)[j]?=some w->vs[n+j]?=some w) :∀(j:Nat) w,a[j]?=some w->vs[n+j]?=some w:=fun j w hw=>h j w (by rw [Wb (Q3.1 hw).1];exact hw)
theorem acV {α:Type} {vs a b:List α} {n:Nat} (h :∀(j:Nat) w,(a++b)[j]?=some w->vs[n+j]?=some w) :∀(j:Nat) w,b[j]?=some w->vs[n+a.length+j]?=some w:=fun j w hw=>by
 rw [Uq];exact h (a.length+j) w (by rw [W6 (by omega)];simpa using hw)
theorem JJ :∀{xs:List TW} {ks:List kC} {u vs:List Wd} {n:Nat},wQ xs=some (ks,u)->(∀(j:Nat) w,u[j]?=some w->vs[n+j]?=some w)->(uG vs n ks).1=xs/\u.length=(ks.flatMap kC.tys).length
 | [],ks,u,vs,n,h,ha=>by
  simp only [wQ,Q0,Q1] at h;obtain ⟨rfl,rfl⟩:=h;exact ⟨rfl,rfl⟩
 |x::xs,ks,u,vs,n,h,ha=>by
  simp only [wQ] at h;split at h
  .rename_i k1 u1 ks1 us1 h1 h2;simp only [Q0,Q1] at h;obtain ⟨rfl,rfl⟩:=h;obtain ⟨a1,a2⟩:=XF h1 (afS ha);obtain ⟨b1,b2⟩:=JJ (n:=n+u1.length) h2 (acV ha);refine ⟨?_,by simp only [Ys,Z6,a2,b2]⟩;simp only [uG,a1,CO];rw [<-a2,b1]
  .cases h
theorem afT {x:TS} {k:kH} {u vs:List Wd} {n:Nat} (h:OQ x=some (k,u)) (ha :∀(j:Nat) w,u[j]?=some w->vs[n+j]?=some w):(Gq vs n k).1=x/\u.length=k.tys.length:=by
 unfold OQ at h;split at h
 .split at h
  .rename_i h1;simp only [Q0,Q1] at h;obtain ⟨rfl,rfl⟩:=h;obtain ⟨a1,a2⟩:=XF h1 ha;exact ⟨by simp only [Gq,a1],a2⟩
  .cases h
 .split at h
  .rename_i h1;simp only [Q0,Q1] at h;obtain ⟨rfl,rfl⟩:=h;obtain ⟨a1,a2⟩:=JJ h1 ha;exact ⟨by simp only [Gq,a1],a2⟩
  .cases h
 .cases h
theorem afU {x:TO} {k:iM} {u vs:List Wd} {n:Nat} (h:xg x=some (k,u)) (ha :∀(j:Nat) w,u[j]?=some w->vs[n+j]?=some w):(Eb vs n k).1=x/\u.length=k.tys.length:=by
 cases x with
 |none=>cases h
 |box ws=>
  simp only [xg] at h;split at h
  .rename_i h1;simp only [Q0,Q1] at h;obtain ⟨rfl,rfl⟩:=h;obtain ⟨a1,a2⟩:=JJ h1 ha;exact ⟨by simp only [Eb,a1],a2⟩
  .cases h
 |arr fz a i e l=>
  simp only [xg,Q0,Q1] at h;obtain ⟨rfl,rfl⟩:=h;refine ⟨?_,rfl⟩;have:=ha 0 (uq e l) rfl;have e1:vs.getD n Ap=uq e l:=by rw [List.getD_eq_getElem?_getD,show vs[n]?=some (uq e l) from this];rfl
  show TO.arr fz a i e ((vs.getD n Ap).as (.sl e))=.arr fz a i e l;rw [e1];congr 1;exact rV (.sl e) l
 |it s p=>
  simp only [xg,Q0,Q1] at h;obtain ⟨rfl,rfl⟩:=h;refine ⟨?_,rfl⟩;have h0:=ha 0 (Q_ s) rfl;have h1:=ha 1 (iR .i64 p) rfl;have e0:vs.getD n Ap=Q_ s:=by rw [List.getD_eq_getElem?_getD,show vs[n]?=some (Q_ s) from h0];rfl
  have e1:vs.getD (n+1) Ap=iR .i64 p:=by rw [List.getD_eq_getElem?_getD,show vs[n+1]?=some (iR .i64 p) from h1];rfl
  show TO.it ((vs.getD n Ap).as .str) ((vs.getD (n+1) Ap).as (.int .i64))=.it s p;rw [e0,e1];have a0:TP.as .str (Q_ s)=s:=rV .str s;have a1:TP.as (.int .i64) (iR .i64 p)=p:=rV (.int .i64) p;rw [a0,a1]
 |aN a i e aj l hole=>
  simp only [xg] at h;split at h
  .simp only [Q0,Q1] at h;obtain ⟨rfl,rfl⟩:=h;refine ⟨?_,rfl⟩;have:=ha 0 (uq e l) rfl;have e1:vs.getD n Ap=uq e l:=by rw [List.getD_eq_getElem?_getD,show vs[n]?=some (uq e l) from this];rfl
   show TO.aN a i e aj ((vs.getD n Ap).as (.sl e)) none=.aN a i e aj l none;rw [e1];congr 1;exact rV (.sl e) l
  .cases h
theorem XG {x:TW} {k:kC} {u:List Wd} (h:RF x=some (k,u)):u.map (·.t)=k.tys:=by
 cases x<;>try simp only [RF,Q0,Q1,reduceCtorEq] at h
 case clo f caps=>
  split at h
  .simp only [Q0,Q1] at h;obtain ⟨rfl,rfl⟩:=h;rfl
  .cases h
 all_goals (obtain ⟨rfl,rfl⟩:=h;rfl)
theorem JK :∀{xs:List TW} {ks:List kC} {u:List Wd},wQ xs=some (ks,u)->u.map (·.t)=ks.flatMap kC.tys
 | [],ks,u,h=>by
  simp only [wQ,Q0,Q1] at h;obtain ⟨rfl,rfl⟩:=h;rfl
 |x::xs,ks,u,h=>by
  simp only [wQ] at h;split at h
  .rename_i h1 h2;simp only [Q0,Q1] at h;obtain ⟨rfl,rfl⟩:=h;simp only [XX,Z6,XG h1,JK h2]
  .cases h
theorem XH {x:TS} {k:kH} {u:List Wd} (h:OQ x=some (k,u)):u.map (·.t)=k.tys:=by
 unfold OQ at h;split at h
 .split at h
  .rename_i h1;simp only [Q0,Q1] at h;obtain ⟨rfl,rfl⟩:=h;exact XG h1
  .cases h
 .split at h
  .rename_i h1;simp only [Q0,Q1] at h;obtain ⟨rfl,rfl⟩:=h;exact JK h1
  .cases h
 .cases h
theorem afV {x:TO} {k:iM} {u:List Wd} (h:xg x=some (k,u)):u.map (·.t)=k.tys:=by
 cases x with
 |none=>cases h
 |box ws=>
  simp only [xg] at h;split at h
  .rename_i h1;simp only [Q0,Q1] at h;obtain ⟨rfl,rfl⟩:=h;exact JK h1
  .cases h
 |arr fz a i e l=>
  simp only [xg,Q0,Q1] at h;obtain ⟨rfl,rfl⟩:=h;rfl
 |it s n=>
  simp only [xg,Q0,Q1] at h;obtain ⟨rfl,rfl⟩:=h;rfl
 |aN a i e aj l hole=>
  simp only [xg] at h;split at h
  .simp only [Q0,Q1] at h;obtain ⟨rfl,rfl⟩:=h;rfl
  .cases h
def SA (s:Nat->TS) (l:List (Nat×kH×Option (List Wd))):Prop :=∀t k u,(t,k,some u)∈l->OQ (s t)=some (k,u)
def XI (s:Nat->TO) (l:List (Nat×iM×Option (List Wd))):Prop :=∀t k u,(t,k,some u)∈l->xg (s t)=some (k,u)
theorem yM {s:Nat->TS} :∀{l:List (Nat×Md)} {r:List (Nat×kH×Option (List Wd))},Ar s l=some r->SA s r
 | [],r,h=>by simp only [Ar,Q0] at h;subst h;intro t k u hm;cases hm
 |(t,.keep)::l,r,h=>by
  simp only [Ar] at h;split at h
  .rename_i h1 h2;simp only [Q0] at h;subst h;intro t' k u hm;rcases QP.1 hm with hm | hm
   .cases hm;exact h1
   .exact yM h2 t' k u hm
  .cases h
 |(t,.sl k0)::l,r,h=>by
  simp only [Ar] at h;split at h
  .rename_i h2;simp only [Q0] at h;subst h;intro t' k u hm;rcases QP.1 hm with hm | hm
   .cases hm
   .exact yM h2 t' k u hm
  .cases h
theorem AQ {s:Nat->TO} :∀{l:List (Nat×Mo)} {r:List (Nat×iM×Option (List Wd))},Jm s l=some r->XI s r
 | [],r,h=>by simp only [Jm,Q0] at h;subst h;intro t k u hm;cases hm
 |(t,.keep)::l,r,h=>by
  simp only [Jm] at h;split at h
  .rename_i h1 h2;simp only [Q0] at h;subst h;intro t' k u hm;rcases QP.1 hm with hm | hm
   .cases hm;exact h1
   .exact AQ h2 t' k u hm
  .cases h
 |(t,.ob k0)::l,r,h=>by
  simp only [Jm] at h;split at h
  .rename_i h2;simp only [Q0] at h;subst h;intro t' k u hm;rcases QP.1 hm with hm | hm
   .cases hm
   .exact AQ h2 t' k u hm
  .cases h
theorem CV {s s':Nat->TS} :∀{l:List (Nat×kH×Option (List Wd))} {us rest lu:List Wd},SA s l->(∀t k u,(t,k,some u)∈l->s' t=s t)->nU m s' (l.map fun p=>(p.1,p.2.1))=some us->
  ∃e,OT l (us++rest)=(e,rest)/\mG l (e++lu)=(us,lu)/\e.map (·.t)=jJ l
 | [],us,rest,lu,hk,hs,h=>by
  simp only [Vv,nU,Q0] at h;subst h;exact ⟨[],rfl,rfl,rfl⟩
 |(t,k,some u)::l,us,rest,lu,hk,hs,h=>by
  simp only [Qf,nU] at h;split at h
  .rename_i u1 v h1 h2;simp only [Q0] at h;subst h;rw [hs t k u (by simp)] at h1;obtain ⟨rfl,hl⟩:=afQ (hk t k u (by simp)) h1;obtain ⟨e,e1,e2,e3⟩:=CV (rest:=rest) (lu:=lu) (fun t k u hm=>hk t k u (by simp [hm])) (fun t k u hm=>hs t k u (by simp [hm])) h2;refine ⟨e,?_,?_,by simp only [jJ,e3]⟩
   .simp only [OT,Wf,Up,e1]
   .simp only [mG,e2]
  .cases h
 |(t,k,none)::l,us,rest,lu,hk,hs,h=>by
  simp only [Qf,nU] at h;split at h
  .rename_i u1 v h1 h2;simp only [Q0] at h;subst h;have hty:=(Xt h1).2;have hl:u1.length=k.tys.length:=by rw [<-hty,W0]
   obtain ⟨e,e1,e2,e3⟩:=CV (rest:=rest) (lu:=lu) (fun t k u hm=>hk t k u (by simp [hm])) (fun t k u hm=>hs t k u (by simp [hm])) h2;refine ⟨u1++e,?_,?_,by simp only [XX,hty,jJ,e3]⟩
   .simp only [OT,Wf,<-hl,K8,Up,e1]
   .simp only [mG,Wf,<-hl,K8,Up,e2]
  .cases h
theorem CW {s s':Nat->TO} :∀{l:List (Nat×iM×Option (List Wd))} {us rest lu:List Wd},XI s l->(∀t k u,(t,k,some u)∈l->s' t=s t/\m.lookup t=some (some t))->qh m s' (l.map fun p=>(p.1,p.2.1))=some us->
  ∃e,RH l (us++rest)=(e,rest)/\qO l (e++lu)=(us,lu)/\e.map (·.t)=pF l
 | [],us,rest,lu,hk,hs,h=>by
  simp only [Vv,qh,Q0] at h;subst h;exact ⟨[],rfl,rfl,rfl⟩
 |(t,k,some u)::l,us,rest,lu,hk,hs,h=>by
  simp only [Qf,qh] at h;split at h
  .rename_i u1 v h1 h2;simp only [Q0] at h;subst h;obtain ⟨hs1,hm1⟩:=hs t k u (by simp);rw [hm1] at h1;simp only at h1;rw [hs1] at h1;obtain ⟨rfl,hl⟩:=afR (hk t k u (by simp)) h1;obtain ⟨e,e1,e2,e3⟩:=CW (rest:=rest) (lu:=lu) (fun t k u hm=>hk t k u (by simp [hm])) (fun t k u hm=>hs t k u (by simp [hm])) h2;refine ⟨e,?_,?_,by simp only [pF,e3]⟩
   .simp only [RH,Wf,Up,e1]
   .simp only [qO,e2]
  .cases h
 |(t,k,none)::l,us,rest,lu,hk,hs,h=>by
  simp only [Qf,qh] at h;split at h
  .rename_i u1 v h1 h2;simp only [Q0] at h;subst h;have hty:u1.map (·.t)=k.tys:=by
    cases hg:m.lookup t with
    |none=>rw [hg] at h1;cases h1
    |some og=>
     rw [hg] at h1;cases og with
     |some g=>exact (Xu h1).2
     |none=>
      simp only at h1;split at h1
      .cases h1;rfl
      .cases h1;rfl
      .cases h1
   have hl:u1.length=k.tys.length:=by rw [<-hty,W0]
   obtain ⟨e,e1,e2,e3⟩:=CW (rest:=rest) (lu:=lu) (fun t k u hm=>hk t k u (by simp [hm])) (fun t k u hm=>hs t k u (by simp [hm])) h2;refine ⟨u1++e,?_,?_,by simp only [XX,hty,pF,e3]⟩
   .simp only [RH,Wf,<-hl,K8,Up,e1]
   .simp only [qO,Wf,<-hl,K8,Up,e2]
  .cases h
theorem AU {s:List (Nat×TS)} {ds:List Nat} :∀{l:List (Nat×kH×Option (List Wd))},RI s ds l=true->∀t k u,(t,k,some u)∈l->hasK t s=true/\fK t ds=false
 | [],h,t,k,u,hm=>by cases hm
 |(t0,k0,some u0)::l,h,t,k,u,hm=>by
  simp only [RI,Q6,Wc] at h;rcases QP.1 hm with hm | hm
  .cases hm;exact h.1
  .exact AU h.2 t k u hm
 |(t0,k0,none)::l,h,t,k,u,hm=>by
  rcases QP.1 hm with hm | hm
  .cases hm
  .exact AU (l:=l) h t k u hm
theorem AV {s:List (Nat×TO)} {ds:List Nat} :∀{l:List (Nat×iM×Option (List Wd))},RJ s ds l=true->∀t k u,(t,k,some u)∈l->hasK t s=true/\fK t ds=false
 | [],h,t,k,u,hm=>by cases hm
 |(t0,k0,some u0)::l,h,t,k,u,hm=>by
  simp only [RJ,Q6,Wc] at h;rcases QP.1 hm with hm | hm
  .cases hm;exact h.1
  .exact AV h.2 t k u hm
 |(t0,k0,none)::l,h,t,k,u,hm=>by
  rcases QP.1 hm with hm | hm
  .cases hm
  .exact AV (l:=l) h t k u hm
end
end Go.Fg

namespace Go.Fw
variable [eF]
def alN:TypeDesc->TK
 |.int k=>.int k
 |.bool=>.bool
 |.string=>.str
 |.slice e=>.slice e
 |.pointer _=>.ptr
 |.struct gs=>.struct (gs.toList.map fun f=>(f.offset,f.type))
 |.array n e=>.arr n e
 |_=>.other
theorem pJ.of {Pg:Program} {t:TypeId} {i:TI} (h1:(Pg.info? t).map (fun x=>(x.size,x.bytes,x.zero.map (·.cells.toList),x.zero.map fun z=>match z with | .agg _=>true | _=>false))=some (i.size,i.bytes,some i.zero,some i.agg))
  (h2:i.zero.all (·.oneCell')=true) (h3:i.zero.length=i.size) (hk:(Pg.underlying t).map alN=some i.k)
  (he:(!i.eq||(!Pg.stoodInHeld t&&!Pg.eqGuardType Pg.depth t&&(Pg.fieldsOf t).toList.all fun f=>!(f.name == "_")))=true):pJ Pg t i:=by
 refine ⟨h1,h2,h3,?_,fun h => ?_⟩
 rotate_left
 .rw [h] at he;simp only [Bool.not_true,J1,Q6,Wc,X2] at he;exact ⟨he.1.1,he.1.2,fun f hf e=>by have:=he.2 f hf;rw [e] at this;simp at this⟩
 cases hu:Pg.underlying t with
 |none=>rw [hu] at hk;cases hk
 |some d=>
  rw [hu] at hk;simp only [Z3,Q0] at hk;rw [<-hk];cases d<;>simp [alN,oq,hu]
def ahX (Pg:Program):List (Nat×TI)->Prop
 | []=>True
 |p::r=>pJ Pg p.1 p.2/\ahX Pg r
theorem afW {Pg:Program} (rows:List (Nat×TI)) (h:ahX Pg rows):iw Pg fun t=>rows.lookup t:=by
 intro t i ht
 induction rows with
 |nil=>cases ht
 |cons p r ih=>
  obtain ⟨h1,h2⟩:=h;simp only [List.lookup] at ht;split at ht
  .rename_i e;have e:t=p.1:=by simpa using e
   simp only [Q0] at ht;subst ht;subst e;exact h1
  .exact ih h2 ht
theorem wrap64 {x:Int} (h1:-9223372036854775808<=x) (h2:x<=9223372036854775807):IntKind.i64.wrap x=x:=by
 have e:IntKind.i64.wrap x=if x % 18446744073709551616≥9223372036854775808 then x % 18446744073709551616-18446744073709551616 else x % 18446744073709551616:=by
  simp [IntKind.wrap,IntKind.bits,IntKind.signed]
 rw [e];split<;>omega
end Go.Fw

namespace Go.Fg
open Go.Fw
section
variable [RE]
theorem wE :∀{l:List (Nat×iM×Option (List Wd))} {r:Ren} {t:Nat} {k:iM} {u:List Wd},(t,k,some u)∈l->(MB l++r).lookup t=some (some t)
 | [],r,t,k,u,h=>by cases h
 |(t0,k0,some u0)::l,r,t,k,u,h=>by
  simp only [MB,K7,List.lookup,GR];cases hb:Nat.beq t t0 with
  |true=>have:=Q4 hb;subst this;rfl
  |false=>
   rcases QP.1 h with h | h
   .cases h;simp at hb
   .exact wE h
 |(t0,k0,none)::l,r,t,k,u,h=>by
  rcases QP.1 h with h | h
  .cases h
  .exact wE (l:=l) h
structure JOk (st:jG) (j:JF):Prop where
 s:SA st.gs j.slots
 o:XI st.go j.bf
 ds :∀t k u,(t,k,some u)∈j.slots->fK t (newS j.slots)=false
 dO :∀t k u,(t,k,some u)∈j.bf->fK t (rF j.bf)=false
theorem Ej {nw:List Nat} :∀{l:List (Nat×kH×Option (List Wd))},acC nw l=true->∀t k u,(t,k,some u)∈l->fK t nw=false
 | [],h,t,k,u,hm=>by cases hm
 |(t0,k0,some u0)::l,h,t,k,u,hm=>by
  simp only [acC,Q6,Wc] at h;rcases QP.1 hm with hm | hm
  .cases hm;exact h.1
  .exact Ej h.2 t k u hm
 |(t0,k0,none)::l,h,t,k,u,hm=>by
  rcases QP.1 hm with hm | hm
  .cases hm
  .exact Ej (l:=l) h t k u hm
theorem Em {nw:List Nat} :∀{l:List (Nat×iM×Option (List Wd))},acD nw l=true->∀t k u,(t,k,some u)∈l->fK t nw=false
 | [],h,t,k,u,hm=>by cases hm
 |(t0,k0,some u0)::l,h,t,k,u,hm=>by
  simp only [acD,Q6,Wc] at h;rcases QP.1 hm with hm | hm
  .cases hm;exact h.1
  .exact Em h.2 t k u hm
 |(t0,k0,none)::l,h,t,k,u,hm=>by
  rcases QP.1 hm with hm | hm
  .cases hm
  .exact Em (l:=l) h t k u hm
theorem VD {st:jG} {jt:JT} {j:JF} (h:jOf st jt=some j):JOk st j:=by
 unfold jOf at h;split at h
 .rename_i h1 h2;split at h
  .rename_i hd;simp only [Q0] at h;subst h;simp only [Q6] at hd;exact ⟨yM h1,AQ h2,Ej hd.1,Em hd.2⟩
  .cases h
 .cases h
theorem JL {st:jG} {j:JF} (hj:JOk st j) (x:Tup j.tys):(j.pay (Tup.kD j.tys x)).map (·.t)=j.sh.tys:=by
 have slots :∀(l:List (Nat×kH×Option (List Wd))) (hk :∀t k u,(t,k,some u)∈l->u.map (·.t)=k.tys) (ws rest:List Wd),ws.map (·.t)=jJ l->(mG l (ws++rest)).1.map (·.t)=(l.map fun p=>(p.1,p.2.1)).flatMap (fun p=>p.2.tys)/\(mG l (ws++rest)).2=rest:=by
  intro l
  induction l with
  |nil=>intro hk ws rest h;simp only [jJ,List.map_eq_nil_iff] at h;subst h;exact ⟨rfl,rfl⟩
  |cons p l ih=>
   intro hk ws rest h;obtain ⟨t,k,ou⟩:=p;cases ou with
   |some u=>
    obtain ⟨a1,a2⟩:=ih (fun t k u hm=>hk t k u (by simp [hm])) ws rest h;exact ⟨by simp only [mG,XX,Qf,Z6,a1,hk t k u (by simp)],a2⟩
   |none=>
    simp only [jJ] at h;have hl:k.tys.length<=ws.length:=by
     have:=congrArg List.length h;simp only [W0,Ys] at this;omega
    have h1:(ws.take k.tys.length).map (·.t)=k.tys:=by rw [V1,h,K8]
    have h2:(ws.drop k.tys.length).map (·.t)=jJ l:=by rw [WF,h,Up]
    have e1:(ws++rest).take k.tys.length=ws.take k.tys.length:=K1 hl;have e2:(ws++rest).drop k.tys.length=ws.drop k.tys.length++rest:=J0 hl;obtain ⟨a1,a2⟩:=ih (fun t k u hm=>hk t k u (by simp [hm])) _ rest h2;simp only [mG,e1,e2];exact ⟨by simp only [XX,Qf,Z6,a1,h1],a2⟩
 have bf :∀(l:List (Nat×iM×Option (List Wd))) (hk :∀t k u,(t,k,some u)∈l->u.map (·.t)=k.tys) (ws rest:List Wd),ws.map (·.t)=pF l->(qO l (ws++rest)).1.map (·.t)=(l.map fun p=>(p.1,p.2.1)).flatMap (fun p=>p.2.tys)/\(qO l (ws++rest)).2=rest:=by
  intro l
  induction l with
  |nil=>intro hk ws rest h;simp only [pF,List.map_eq_nil_iff] at h;subst h;exact ⟨rfl,rfl⟩
  |cons p l ih=>
   intro hk ws rest h;obtain ⟨t,k,ou⟩:=p;cases ou with
   |some u=>
    obtain ⟨a1,a2⟩:=ih (fun t k u hm=>hk t k u (by simp [hm])) ws rest h;exact ⟨by simp only [qO,XX,Qf,Z6,a1,hk t k u (by simp)],a2⟩
   |none=>
    simp only [pF] at h;have hl:k.tys.length<=ws.length:=by
     have:=congrArg List.length h;simp only [W0,Ys] at this;omega
    have h1:(ws.take k.tys.length).map (·.t)=k.tys:=by rw [V1,h,K8]
    have h2:(ws.drop k.tys.length).map (·.t)=pF l:=by rw [WF,h,Up]
    have e1:(ws++rest).take k.tys.length=ws.take k.tys.length:=K1 hl;have e2:(ws++rest).drop k.tys.length=ws.drop k.tys.length++rest:=J0 hl;obtain ⟨a1,a2⟩:=ih (fun t k u hm=>hk t k u (by simp [hm])) _ rest h2;simp only [qO,e1,e2];exact ⟨by simp only [XX,Qf,Z6,a1,h1],a2⟩
 have hS :∀t k u,(t,k,some u)∈j.slots->u.map (·.t)=k.tys:=fun t k u hm=>XH (hj.s t k u hm);have hO :∀t k u,(t,k,some u)∈j.bf->u.map (·.t)=k.tys:=fun t k u hm=>afV (hj.o t k u hm);have hx:(Tup.kD j.tys x).map (·.t)=jJ j.slots++pF j.bf:=qU _ _;generalize Tup.kD j.tys x=ws at hx;obtain ⟨w1,w2,rfl,h1,h2⟩ :∃w1 w2,ws=w1++w2/\w1.map (·.t)=jJ j.slots/\w2.map (·.t)=pF j.bf:=by
  refine ⟨ws.take (jJ j.slots).length,ws.drop (jJ j.slots).length,(Jn _ _).symm,?_,?_⟩
  .rw [V1,hx,K8]
  .rw [WF,hx,Up]
 obtain ⟨a1,a2⟩:=slots j.slots hS w1 w2 h1;have ob:=bf j.bf hO w2 [] h2;rw [Kh] at ob;unfold JF.pay;rw [a2,XX,a1,ob.1];rfl
theorem En {s:Nat->TS} :∀{l:List (Nat×kH×Option (List Wd))} {pre post ws rest:List Wd} {t:Nat},SA s l->ws.map (·.t)=jJ l->hasK t (gy (pre++(mG l (ws++rest)).1++post) pre.length (l.map fun p=>(p.1,p.2.1))).1=true->fK t (newS l)=false->
  jk .no (gy (pre++(mG l (ws++rest)).1++post) pre.length (l.map fun p=>(p.1,p.2.1))).1 t=s t/\∃k u,(t,k,some u)∈l
 | [],pre,post,ws,rest,t,hk,hw,h,hn=>by cases h
 |(t0,k,some u)::l,pre,post,ws,rest,t,hk,hw,h,hn=>by
  have hu:=hk t0 k u (by simp);have hmk:=afT (vs:=pre++(u++(mG l (ws++rest)).1)++post) (n:=pre.length) hu (fun j w hj=>by
   rw [Wf,W6 (by omega),KS,Wf,Wb (Q3.1 hj).1];exact hj)
  simp only [mG,Qf,gy,hmk.1,CP,<-hmk.2] at h ⊢;have e:pre++(u++(mG l (ws++rest)).1)++post=(pre++u)++(mG l (ws++rest)).1++post:=by simp only [Wf]
  rw [e] at h ⊢;have en:pre.length+u.length=(pre++u).length:=by rw [Ys]
  rw [en] at h ⊢;simp only [hasK,jk] at h ⊢;cases hb:Nat.beq t t0 with
  |true=>
   have:=Q4 hb;subst this;exact ⟨rfl,k,u,by simp⟩
  |false=>
   rw [hb,J1] at h;obtain ⟨a1,k',u',a2⟩:=En (l:=l) (pre:=pre++u) (fun t k u hm=>hk t k u (by simp [hm])) hw h hn;exact ⟨a1,k',u',by simp [a2]⟩
 |(t0,k,none)::l,pre,post,ws,rest,t,hk,hw,h,hn=>by
  simp only [jJ] at hw;simp only [newS,fK,Vn] at hn;have hl:k.tys.length<=ws.length:=by
   have:=congrArg List.length hw;simp only [W0,Ys] at this;omega
  have h2:(ws.drop k.tys.length).map (·.t)=jJ l:=by rw [WF,hw,Up]
  have e1:(ws++rest).take k.tys.length=ws.take k.tys.length:=K1 hl;have e2:(ws++rest).drop k.tys.length=ws.drop k.tys.length++rest:=J0 hl;have hlen:(ws.take k.tys.length).length=k.tys.length:=by rw [Uv];omega
  simp only [mG,Qf,gy,CP,e1,e2] at h ⊢;have e:pre++(ws.take k.tys.length++(mG l (ws.drop k.tys.length++rest)).1)++post=(pre++ws.take k.tys.length)++(mG l (ws.drop k.tys.length++rest)).1++post:=by simp only [Wf]
  rw [e] at h ⊢;have en:pre.length+k.tys.length=(pre++ws.take k.tys.length).length:=by rw [Ys,hlen]
  rw [en] at h ⊢;simp only [hasK,jk,hn.1,J1,cond_false] at h ⊢;obtain ⟨a1,k',u',a2⟩:=En (pre:=pre++ws.take k.tys.length) (fun t k u hm=>hk t k u (by simp [hm])) h2 h hn.2;exact ⟨a1,k',u',by simp [a2]⟩
theorem JM {s:Nat->TO} :∀{l:List (Nat×iM×Option (List Wd))} {pre post ws rest:List Wd} {t:Nat},XI s l->ws.map (·.t)=pF l->hasK t (jO (pre++(qO l (ws++rest)).1++post) pre.length (l.map fun p=>(p.1,p.2.1))).1=true->fK t (rF l)=false->
  jk .none (jO (pre++(qO l (ws++rest)).1++post) pre.length (l.map fun p=>(p.1,p.2.1))).1 t=s t/\∃k u,(t,k,some u)∈l
 | [],pre,post,ws,rest,t,hk,hw,h,hn=>by cases h
 |(t0,k,some u)::l,pre,post,ws,rest,t,hk,hw,h,hn=>by
  have hu:=hk t0 k u (by simp);have hmk:=afU (vs:=pre++(u++(qO l (ws++rest)).1)++post) (n:=pre.length) hu (fun j w hj=>by
   rw [Wf,W6 (by omega),KS,Wf,Wb (Q3.1 hj).1];exact hj)
  simp only [qO,Qf,jO,hmk.1,Js,<-hmk.2] at h ⊢;have e:pre++(u++(qO l (ws++rest)).1)++post=(pre++u)++(qO l (ws++rest)).1++post:=by simp only [Wf]
  rw [e] at h ⊢;have en:pre.length+u.length=(pre++u).length:=by rw [Ys]
  rw [en] at h ⊢;simp only [hasK,jk] at h ⊢;cases hb:Nat.beq t t0 with
  |true=>
   have:=Q4 hb;subst this;exact ⟨rfl,k,u,by simp⟩
  |false=>
   rw [hb,J1] at h;obtain ⟨a1,k',u',a2⟩:=JM (l:=l) (pre:=pre++u) (fun t k u hm=>hk t k u (by simp [hm])) hw h hn;exact ⟨a1,k',u',by simp [a2]⟩
 |(t0,k,none)::l,pre,post,ws,rest,t,hk,hw,h,hn=>by
  simp only [pF] at hw;simp only [rF,fK,Vn] at hn;have hl:k.tys.length<=ws.length:=by
   have:=congrArg List.length hw;simp only [W0,Ys] at this;omega
  have h2:(ws.drop k.tys.length).map (·.t)=pF l:=by rw [WF,hw,Up]
  have e1:(ws++rest).take k.tys.length=ws.take k.tys.length:=K1 hl;have e2:(ws++rest).drop k.tys.length=ws.drop k.tys.length++rest:=J0 hl;have hlen:(ws.take k.tys.length).length=k.tys.length:=by rw [Uv];omega
  simp only [qO,Qf,jO,Js,e1,e2] at h ⊢;have e:pre++(ws.take k.tys.length++(qO l (ws.drop k.tys.length++rest)).1)++post=(pre++ws.take k.tys.length)++(qO l (ws.drop k.tys.length++rest)).1++post:=by simp only [Wf]
  rw [e] at h ⊢;have en:pre.length+k.tys.length=(pre++ws.take k.tys.length).length:=by rw [Ys,hlen]
  rw [en] at h ⊢;simp only [hasK,jk,hn.1,J1,cond_false] at h ⊢;obtain ⟨a1,k',u',a2⟩:=JM (pre:=pre++ws.take k.tys.length) (fun t k u hm=>hk t k u (by simp [hm])) h2 h hn.2;exact ⟨a1,k',u',by simp [a2]⟩
end
end Go.Fg

namespace Go.Fg
open Go.Fw
section
variable [RE]
theorem ZU {st:jG} {j:JF} (x:Tup j.tys) :∃w1 w2,Tup.kD j.tys x=w1++w2/\w1.map (·.t)=jJ j.slots/\w2.map (·.t)=pF j.bf:=by
 have hx:(Tup.kD j.tys x).map (·.t)=jJ j.slots++pF j.bf:=qU _ _;generalize Tup.kD j.tys x=ws at hx;exact ⟨ws.take (jJ j.slots).length,ws.drop (jJ j.slots).length,(Jn _ _).symm,by rw [V1,hx,K8],by rw [WF,hx,Up]⟩
theorem Eo :∀{l:List (Nat×kH×Option (List Wd))} {ws rest:List Wd},ws.map (·.t)=jJ l->(mG l (ws++rest)).2=rest
 | [],ws,rest,h=>by simp only [jJ,List.map_eq_nil_iff] at h;subst h;rfl
 |(t,k,some u)::l,ws,rest,h=>Eo (l:=l) h
 |(t,k,none)::l,ws,rest,h=>by
  simp only [jJ] at h;have hl:k.tys.length<=ws.length:=by
   have:=congrArg List.length h;simp only [W0,Ys] at this;omega
  have h2:(ws.drop k.tys.length).map (·.t)=jJ l:=by rw [WF,h,Up]
  have e2:(ws++rest).drop k.tys.length=ws.drop k.tys.length++rest:=J0 hl;simp only [mG,e2];exact Eo h2
theorem Ep {st:jG} {j:JF} (hj:JOk st j) (x:Tup j.tys):(∀t,hasK t (qQ j x).s=true->fK t (newS j.slots)=false->(qQ j x).gs t=st.gs t/\∃k u,(t,k,some u)∈j.slots)/\
  ∀g,hasK g (qQ j x).o=true->fK g (rF j.bf)=false->(qQ j x).go g=st.go g/\∃k u,(g,k,some u)∈j.bf:=by
 obtain ⟨w1,w2,hw,h1,h2⟩:=ZU (st:=st) x;have hr:=Eo (rest:=w2) h1;have hp:j.pay (Tup.kD j.tys x)=(mG j.slots (w1++w2)).1++(qO j.bf w2).1:=by rw [hw];unfold JF.pay;rw [hr]
 have hs:=fun t a b=>En (pre:=[]) (post:=(qO j.bf w2).1) (rest:=w2) (t:=t) hj.s h1 a b;have ho:=fun t a b=>JM (pre:=(mG j.slots (w1++w2)).1) (post:=[]) (rest:=[]) (t:=t) hj.o h2 a b;simp only [qd,Jx] at hs;simp only [Kh] at ho;rw [<-hp] at hs ho;have hty:=JL hj x;have hn:(gy (j.pay (Tup.kD j.tys x)) 0 j.sh.slots).2=(mG j.slots (w1++w2)).1.length:=by
  rw [wz,WD];rw [hp] at hty;have hS :∀(l:List (Nat×kH×Option (List Wd))) (hk:SA st.gs l) (ws rest:List Wd),ws.map (·.t)=jJ l->(mG l (ws++rest)).1.length=((l.map fun p=>(p.1,p.2.1)).flatMap fun p=>p.2.tys).length:=by
   intro l
   induction l with
   |nil=>intro hk ws rest h;rfl
   |cons p l ih=>
    intro hk ws rest h;obtain ⟨t,k,ou⟩:=p;cases ou with
    |some u=>
     have e:=XH (hk t k u (by simp));have e:=congrArg List.length e;rw [W0] at e;simp only [mG,Ys,Qf,Z6,e];rw [ih (fun t k u hm=>hk t k u (by simp [hm])) ws rest h]
    |none=>
     simp only [jJ] at h;have hl:k.tys.length<=ws.length:=by
      have:=congrArg List.length h;simp only [W0,Ys] at this;omega
     have h2:(ws.drop k.tys.length).map (·.t)=jJ l:=by rw [WF,h,Up]
     have e1:(ws++rest).take k.tys.length=ws.take k.tys.length:=K1 hl;have e2:(ws++rest).drop k.tys.length=ws.drop k.tys.length++rest:=J0 hl;simp only [mG,e1,e2,Ys,Qf,Z6,Uv];rw [ih (fun t k u hm=>hk t k u (by simp [hm])) _ rest h2];omega
  exact (hS j.slots hj.s w1 w2 h1).symm
 refine ⟨fun t a b=>hs t a b,fun g a b => ?_⟩;have e1:(qQ j x).o=(jO (j.pay (Tup.kD j.tys x)) (mG j.slots (w1++w2)).1.length (j.bf.map fun p=>(p.1,p.2.1))).1:=by
  rw [<-hn];rfl
 have e2:(qQ j x).go g=jk .none (jO (j.pay (Tup.kD j.tys x)) (mG j.slots (w1++w2)).1.length (j.bf.map fun p=>(p.1,p.2.1))).1 g:=by
  rw [<-hn];rfl
 rw [e1] at a;rw [e2];exact ho g a b
theorem O6 {gs:List Nat} {o:Nat->TO} (hp:Pl o gs) (x:TW):bU (tpW gs o x)=W9 gs (bV o) (bU x):=by
 cases x with
 |own g=>
  simp only [tpW,bU,W9,bT];cases hc:gs.contains g with
  |false=>rfl
  |true=>
   obtain ⟨⟨a,i,e,l⟩,hg⟩:=hp g (by simpa using hc);simp only [cond_true,if_true,hg,(oL hg).1];rfl
 |vw g lo hi=>
  simp only [tpW,bU,W9,bT];cases hc:gs.contains g with
  |false=>rfl
  |true=>
   obtain ⟨⟨a,i,e,l⟩,hg⟩:=hp g (by simpa using hc);simp only [cond_true,if_true,hg,(oL hg).1,rX];rfl
 |_=>simp only [tpW,bU,W9]
theorem XJ {gs:List Nat} {o:Nat->TO} (hp:Pl o gs) (x:TV):jL (tpV gs o x)=plV gs (bV o) (jL x):=by
 cases x with
 |one x=>simp only [tpV,jL,plV,O6 hp]
 |agg xs=>
  simp only [tpV,jL,plV,VV,V.agg.injEq];exact W8 fun x _=>O6 hp x
theorem afX {gs:List Nat} {o:Nat->TO} (hp:Pl o gs) (x:TS):bg (tpS gs o x)=plS gs (bV o) (bg x):=by
 cases x with
 |v x=>simp only [tpS,bg,plS,XJ hp]
 |jK xs=>
  simp only [tpS,bg,plS,VV,S.jK.injEq];exact W8 fun x _=>XJ hp x
 |no=>rfl
theorem JO {α:Type} (d:α) (f:Nat->α->α) (hd :∀t,f t d=d) :∀(l:List (Nat×α)) (t:Nat),jk d (l.map fun p=>(p.1,f p.1 p.2)) t=f t (jk d l t)
 | [],t=>(hd t).symm
 |(k,v)::r,t=>by
  simp only [Qf,jk];cases hb:Nat.beq t k with
  |true=>have:=Q4 hb;subst this;rfl
  |false=>exact JO d f hd r t
theorem XK (gs:List Nat) (st:jG) (t:Nat):(Jo gs st).gs t=match gs with | []=>st.gs t | g::r=>tpS (g::r) st.go (st.gs t):=by
 cases gs with
 |nil=>rfl
 |cons g r=>exact JO .no (fun _ x=>tpS (g::r) st.go x) (fun _=>rfl) st.s t
theorem XL (gs:List Nat) (st:jG) (t:Nat):(Jo gs st).go t=match gs with | []=>st.go t | g::r=>tpO (g::r) st.go t (st.go t):=by
 cases gs with
 |nil=>rfl
 |cons g r=>exact JO .none (fun t x=>tpO (g::r) st.go t x) (fun _=>rfl) st.o t
theorem O7 (o:Nat->O) (x:W):W9 [] o x=x:=by
 unfold W9;split<;>first | rfl | simp
theorem XM (o:Nat->O) (x:V):plV [] o x=x:=by
 cases x with
 |one x=>simp only [plV,O7]
 |agg xs=>
  simp only [plV,V.agg.injEq]
  conv=>rhs;rw [<-List.map_id xs]
  exact W8 fun x _=>O7 o x
theorem O8 (st:St):eX [] st=st:=by
 refine St.ext' (fun t => ?_) (fun g => ?_) fun g=>rfl
 .show plS [] st.o (st.s t)=st.s t;cases st.s t with
  |v x=>simp only [plS,XM]
  |jK xs=>
   simp only [plS,S.jK.injEq]
   conv=>rhs;rw [<-List.map_id xs]
   exact W8 fun x _=>XM _ x
  |no=>rfl
 .show plO [] st.o g=st.o g;unfold plO;cases st.o g with
  |box ws=>
   simp only [O.box.injEq]
   conv=>rhs;rw [<-List.map_id ws]
   exact W8 fun x _=>O7 _ x
  |_=>simp
theorem JQ {gs:List Nat} {st:jG} (hp:Pl st.go gs):aS (Jo gs st)=eX gs (aS st):=by
 cases gs with
 |nil=>rw [O8];rfl
 |cons g r=>
  refine St.ext' (fun t => ?_) (fun k => ?_) fun k=>rfl
  .show bg ((Jo (g::r) st).gs t)=plS (g::r) (bV st.go) (bg (st.gs t));rw [XK];exact afX hp _
  .show dY ((Jo (g::r) st).go k)=plO (g::r) (bV st.go) k;rw [XL];simp only;have hk:bV st.go k=dY (st.go k):=rfl;cases ho:st.go k with
   |none=>
    have hd:bV st.go k=.none:=by rw [hk,ho];rfl
    simp only [tpO,plO,hd];split
    .simp [Fw.aT,plainO,hd,dY]
    .rfl
   |box ws=>
    simp only [tpO,plO,oK ho,dY,VV,O.box.injEq];exact W8 fun x _=>O6 hp x
   |arr fz a i e l=>
    simp only [tpO,plO,g_ ho,dY,bT];cases hc:(g::r).contains k with
    |false=>simp
    |true=>simp [Fw.aT,plainO,g_ ho]
   |it s n=>
    have hd:bV st.go k=.it (.str ⟨s.toArray⟩) (.int .i64 n):=by rw [hk,ho];rfl
    simp only [tpO,plO,hd];split
    .simp [Fw.aT,plainO,hd,dY]
    .rfl
   |aN a i e aj l hole=>
    have hd:bV st.go k=.aN a i (size e) (iQ aj) (aF e l) hole:=by rw [hk,ho];rfl
    simp only [tpO,plO,hd,bT];cases hc:(g::r).contains k with
    |false=>simp only [cond_false,W4,if_false];rfl
    |true=>
     simp only [cond_true,if_true];have:=I_ (hp k (by simpa using hc));rw [this]
theorem acX {gs:List Nat} {o:Nat->TO} {x:TW} (h:(W.namesT x).all (fun g=>!fK g gs)=true):tpW gs o x=x:=by
 cases x with
 |own g=>
  have h:fK g gs=false:=by simpa [W.namesT] using h
  simp only [tpW,h,cond_false]
 |vw g lo hi=>
  have h:fK g gs=false:=by simpa [W.namesT] using h
  simp only [tpW,h,cond_false]
 |_=>rfl
theorem O9 {gs:List Nat} {o:Nat->TO} :∀{xs:List TW},((xs.flatMap W.namesT).all fun g=>!fK g gs)=true->xs.map (tpW gs o)=xs
 | [],_=>rfl
 |x::xs,h=>by
  simp only [Z6,List.all_append,Q6] at h;simp only [Qf,acX h.1,O9 h.2]
theorem acY {gs:List Nat} {o:Nat->TO} {x:TV} (h:((V.namesT x).all fun g=>!fK g gs)=true):tpV gs o x=x:=by
 cases x with
 |one x=>simp only [tpV,acX (x:=x) h]
 |agg xs=>simp only [tpV,O9 (xs:=xs) h]
theorem SB {gs:List Nat} {o:Nat->TO} {x:TS} (h:Vy gs x=true):tpS gs o x=x:=by
 cases x with
 |v x=>simp only [tpS,acY (x:=x) h]
 |jK xs=>
  simp only [tpS,TS.jK.injEq];have :∀(xs:List TV),((xs.flatMap V.namesT).all fun g=>!fK g gs)=true->xs.map (tpV gs o)=xs:=by
   intro xs
   induction xs with
   |nil=>intro _;rfl
   |cons x xs ih=>
    intro h;simp only [Z6,List.all_append,Q6] at h;simp only [Qf,acY h.1,ih h.2]
  exact this xs h
 |no=>rfl
theorem SC {gs:List Nat} {o:Nat->TO} {g:Nat} {x:TO} (h:Jp gs g x=true):tpO gs o g x=x:=by
 cases x with
 |none=>rfl
 |box ws=>simp only [tpO,O9 (xs:=ws) h]
 |arr fz a i e l=>
  have h:fK g gs=false:=by simpa [Jp] using h
  simp only [tpO,h,Bool.or_false]
 |it s n=>rfl
 |aN a i e aj l hole=>
  have h:fK g gs=false:=by simpa [Jp] using h
  simp only [tpO,h,cond_false]
theorem Es {gs:List Nat} {s:Nat->TS} :∀{l:List (Nat×kH×Option (List Wd))},acA gs s l=true->∀t k u,(t,k,some u)∈l->Vy gs (s t)=true
 | [],h,t,k,u,hm=>by cases hm
 |(t0,k0,some u0)::l,h,t,k,u,hm=>by
  simp only [acA,Q6] at h;rcases QP.1 hm with hm | hm
  .cases hm;exact h.1
  .exact Es h.2 t k u hm
 |(t0,k0,none)::l,h,t,k,u,hm=>by
  rcases QP.1 hm with hm | hm
  .cases hm
  .exact Es (l:=l) h t k u hm
theorem Et {gs:List Nat} {s:Nat->TO} :∀{l:List (Nat×iM×Option (List Wd))},acB gs s l=true->∀t k u,(t,k,some u)∈l->Jp gs t (s t)=true
 | [],h,t,k,u,hm=>by cases hm
 |(t0,k0,some u0)::l,h,t,k,u,hm=>by
  simp only [acB,Q6] at h;rcases QP.1 hm with hm | hm
  .cases hm;exact h.1
  .exact Et h.2 t k u hm
 |(t0,k0,none)::l,h,t,k,u,hm=>by
  rcases QP.1 hm with hm | hm
  .cases hm
  .exact Et (l:=l) h t k u hm
theorem O_ {gs:List Nat} {st:jG} (h:afE st.go gs=true):afk (aS st).o gs=true/\Pl st.go gs:=by
 have hp:Pl st.go gs:=fun g hg=>by
  have:=(X2.1 h) g hg;simp only [plB,Q6] at this;cases hx:nR st.go g with
  |some p=>exact ⟨p,rfl⟩
  |none=>rw [hx] at this;cases this.1
 refine ⟨X2.2 fun g hg => ?_,hp⟩;obtain ⟨⟨a,i,e,l⟩,hx⟩:=hp g hg;have:=(X2.1 h) g hg;simp only [Q6] at this;obtain ⟨k1,k2⟩:=oL hx;have k1:plainO (aS st).o g=_:=k1;have k2:((aS st).o g).names=_:=k2;rw [k1,k2];simp only [Option.isSome_some,Bool.true_and];have h2:=this.2;simp only [bT] at h2;exact h2
theorem ZV {o:Nat->TO} {g d:Nat} {a i:Bool} {e:Ty} {aj:List (Nat×Ty)} {l:List (Dt e)} (h1:Xj (o g)=some d) (h2:yw o g=some ⟨a,i,e,aj,l⟩):Fw.xJ (bV o) g=iL [(g,.aN a i e aj l none),(d,.none)]:=by
 unfold yw at h2;cases ho:o g with
 |aN a0 i0 e0 kP l0 hole=>
  rw [ho] at h1 h2;have hg:bV o g=.aN a0 i0 (size e0) (iQ kP) (aF e0 l0) hole:=by simp [bV,ho,dY]
  rcases hole with _ | ⟨n,c,d'⟩
  .cases h1
  .simp only [Xj,Q0] at h1;subst h1;simp only at h2;cases hd:o d' with
   |arr fz a' i' e' l'=>
    rw [hd] at h2;cases fz with
    |true=>cases h2
    |false=>
     simp only at h2;split at h2
     .rename_i hc;cases h2;obtain ⟨k1,k2,k3⟩:=uy hc;simp only [Fw.xJ,hg,g_ hd];rw [if_pos ⟨k1,k3⟩,<-Ak k2];rfl
     .cases h2
   |_=>rw [hd] at h2;cases h2
 |_=>rw [ho] at h1;cases h1
theorem VE (st:jG) (u:List (Nat×TO)):aS { st with o:=Ec st.o u }=(aS st).aI (iL u) []:=by
 refine St.ext' (fun t=>rfl) (fun g => ?_) fun g=>by simp [aS,St.aI]
 show dY (jk .none (Ec st.o u) g)=match (iL u).lookup g with | some x=>x | none=>dY (jk .none st.o g)
 rw [yG];have:(iL u).lookup g=(u.lookup g).map dY:=pG dY g u;rw [this];cases u.lookup g<;>rfl
theorem lC (keep:List Nat) :∀(hs:List Nat) (st:jG),aS (mV keep hs st).2=Fw.shuts (mV keep hs st).1 (aS st)
 | [],st=>rfl
 |g::gs,st=>by
  simp only [mV];split
  .rename_i d a i e aj l h1 h2;split
   .simp only [Fw.shuts];rw [lC keep gs,VE];have:=ZV h1 h2;have this:Fw.xJ (aS st).o g=_:=this;rw [this]
   .exact lC keep gs st
  .exact lC keep gs st
theorem rZ {keep:List Nat} {t:Nat} (ht:fK t keep=true) :∀(hs:List Nat) (st:jG),(mV keep hs st).2.go t=st.go t
 | [],st=>rfl
 |g::gs,st=>by
  simp only [mV];split
  .rename_i d a i e aj l h1 h2;split
   .rename_i hk;obtain ⟨k1,k2⟩:=gV hk;rw [rZ ht gs];show jk .none (Ec st.o [(g,.aN a i e aj l none),(d,.none)]) t=jk .none st.o t;rw [yG];have e1:(t==g)=false:=by
     simp only [beq_eq_false_iff_ne];intro e;subst e;rw [ht] at k1;cases k1
    have e2:(t==d)=false:=by
     simp only [beq_eq_false_iff_ne];intro e;subst e;rw [ht] at k2;cases k2
    simp only [List.lookup,e1,e2]
   .exact rZ ht gs st
  .exact rZ ht gs st
theorem CX (keep:List Nat) :∀(hs:List Nat) (st:jG),(mV keep hs st).2.s=st.s
 | [],st=>rfl
 |g::gs,st=>by
  simp only [mV];split
  .split
   .rw [CX keep gs]
   .exact CX keep gs st
  .exact CX keep gs st
theorem Eu :∀{l:List (Nat×iM×Option (List Wd))} {t:Nat} {k:iM} {u:List Wd},(t,k,some u)∈l->fK t (zL l)=true
 | [],t,k,u,h=>by cases h
 |(t0,k0,some u0)::l,t,k,u,h=>by
  simp only [zL,fK,JN];rcases QP.1 h with h | h
  .cases h;exact .inl (by simp)
  .exact .inr (Eu h)
 |(t0,k0,none)::l,t,k,u,h=>by
  rcases QP.1 h with h | h
  .cases h
  .exact Eu (l:=l) h
theorem mJ {R:Type} {aY:List Nat} {j:JF} {q0 q:jg} {K:Tup j.tys->Prog R} {r:R} (hj:JOk q0.st j) (hr:qV q0 q) (h:(qP aY j q K).run=some r) :
  ∃x,(K x).run=some r/\Back aY j.sh.er (aS q.st) fun vs=>vs=(j.pay (Tup.kD j.tys x)).map b_:=by
 unfold qP at h;simp only at h;split at h
 .exact (aZ h).elim
 .rename_i hk;obtain ⟨hk,h6⟩:=gV hk;obtain ⟨hk,h5⟩:=gV hk;obtain ⟨hk,h4⟩:=gV hk;obtain ⟨hk,h3⟩:=gV hk;obtain ⟨h1,h2⟩:=gV hk;have henc:=lC (zL j.bf) (La q.st.o) q.st;have hkeep:=fun t (ht:fK t (zL j.bf)=true)=>rZ ht (La q.st.o) q.st;have hss:=CX (zL j.bf) (La q.st.o) q.st;generalize (mV (zL j.bf) (La q.st.o) q.st).1=hs0 at henc;generalize (mV (zL j.bf) (La q.st.o) q.st).2=st0 at h h3 h4 h5 h6 henc hkeep hss;generalize hgs:afF aY j.sh st0=gs at h h3 h4 h5 h6;split at h
  .exact (aZ h).elim
  .rename_i vs hvs;split at h
   .exact (aZ h).elim
   .rename_i x hx;refine ⟨x,h,?_⟩;have hpay:j.pay (Tup.kD j.tys x)=vs:=by
     rw [zi _ hx];unfold zf at hvs;split at hvs
     .split at hvs
      .rename_i u v hu hv;simp only [Q0] at hvs;subst hvs;have kS :∀t k u,(t,k,some u)∈j.slots->(Jo gs st0).gs t=q0.st.gs t:=fun t k u hm=>by
        obtain ⟨a1,a2⟩:=AU h1 t k u hm;have a3:=Es h5 t k u hm;have a4:st0.gs t=q.st.gs t:=by unfold jG.gs;rw [hss]
        rw [<-(hr.s t a1 a2).2.2,XK,<-a4];cases gs with
        |nil=>rfl
        |cons g r=>exact SB a3
       have kO :∀t k u,(t,k,some u)∈j.bf->(Jo gs st0).go t=q0.st.go t/\(MB j.bf++derive aY j.sh (Jo gs st0)).lookup t=some (some t):=fun t k u hm=>by
        obtain ⟨a1,a2⟩:=AV h2 t k u hm;have a3:=Et h6 t k u hm;refine ⟨?_,wE hm⟩;rw [<-(hr.o t a1 a2).2.2,XL,<-hkeep t (Eu hm)];cases gs with
        |nil=>rfl
        |cons g r=>exact SC a3
       obtain ⟨e,e1,_,e3⟩:=CV (rest:=v) (lu:=[]) hj.s kS hu;obtain ⟨e',e1',_,e3'⟩:=CW (rest:=[]) (lu:=[]) hj.o kO hv;obtain ⟨e2,e12,e22,_⟩:=CV (rest:=v) (lu:=e') hj.s kS hu;rw [e1] at e12;have:e=e2:=(Prod.mk.inj e12).1;subst this;obtain ⟨e4,e14,e24,_⟩:=CW (rest:=[]) (lu:=[]) hj.o kO hv;rw [e1'] at e14;have:e'=e4:=(Prod.mk.inj e14).1;subst this;rw [Kh] at e1' e24;unfold JF.ext;rw [e1];simp only;rw [e1'];unfold JF.pay;simp only;rw [e22];simp only;rw [e24]
      .cases hvs
     .cases hvs
    rw [hpay];obtain ⟨c1,c2⟩:=Aw hvs;obtain ⟨f1,f2⟩:=O_ h4;rw [JQ f2,henc] at c1;rw [henc] at f1;exact .mk hs0 gs _ _ f1 h3 c1 rfl
theorem qV.fresh {q q':jg} (h:qV q.fresh q'):qV q (q'.since q):=by
 refine ⟨fun t h1 h2 => ?_,fun g h1 h2 => ?_⟩
 .have h2:fK t (q'.ds++q.ds)=false:=h2;rw [bT] at h2;simp only [qt,Vn] at h2;rw [<-bT,<-bT] at h2;obtain ⟨a1,a2,a3⟩:=h.s t h1 h2.1;exact ⟨a1,h2.2,a3⟩
 .have h2:fK g (q'.od++q.od)=false:=h2;rw [bT] at h2;simp only [qt,Vn] at h2;rw [<-bT,<-bT] at h2;obtain ⟨a1,a2,a3⟩:=h.o g h1 h2.1;exact ⟨a1,h2.2,a3⟩
theorem uN {t:Nat} {a b:List Nat} (h:fK t (a++b)=false):fK t a=false/\fK t b=false:=by
 rw [bT] at h;simp only [qt,Vn] at h;rw [<-bT,<-bT] at h;exact h
theorem acZ {st:jG} {t:Nat} (h:st.gs t≠.no):hasK t st.s=true:=by
 cases hk:hasK t st.s with
 |true=>rfl
 |false=>exact absurd (uK TS.no st.s t hk) h
theorem ac0 {st:jG} {t:Nat} (h:st.go t≠.none):hasK t st.o=true:=by
 cases hk:hasK t st.o with
 |true=>rfl
 |false=>exact absurd (uK TO.none st.o t hk) h
theorem XO {x:TS} {y:kH×List Wd} (h:OQ x=some y):x≠.no:=by intro e;subst e;cases h
theorem XP {x:TO} {y:iM×List Wd} (h:xg x=some y):x≠.none:=by intro e;subst e;cases h
theorem XQ {q:jg} {j:JF} (hj:JOk q.st j) (x:Tup j.tys):qV q ⟨qQ j x,newS j.slots++q.ds,rF j.bf++q.od⟩:=by
 obtain ⟨hs,ho⟩:=Ep hj x;refine ⟨fun t h1 h2 => ?_,fun g h1 h2 => ?_⟩
 .obtain ⟨n1,n2⟩:=uN (a:=newS j.slots) (b:=q.ds) h2;obtain ⟨a1,k,u,hm⟩:=hs t h1 n1;exact ⟨acZ (XO (hj.s t k u hm)),n2,a1⟩
 .obtain ⟨n1,n2⟩:=uN (a:=rF j.bf) (b:=q.od) h2;obtain ⟨a1,k,u,hm⟩:=ho g h1 n1;exact ⟨ac0 (XP (hj.o g k u hm)),n2,a1⟩
theorem MQ {q q':jg} {j:JF} (hj:JOk q.st j) {x:Tup j.tys} (h:qV ⟨qQ j x,[],[]⟩ q'):qV q (q'.since ⟨q'.st,newS j.slots++q.ds,rF j.bf++q.od⟩):=by
 obtain ⟨hs,ho⟩:=Ep hj x;refine ⟨fun t h1 h2 => ?_,fun g h1 h2 => ?_⟩
 .obtain ⟨n1,n2⟩:=uN (a:=q'.ds) (b:=newS j.slots++q.ds) h2;obtain ⟨n2,n3⟩:=uN n2;obtain ⟨a1,a2,a3⟩:=h.s t h1 n1;obtain ⟨b1,k,u,hm⟩:=hs t a1 n2;exact ⟨acZ (XO (hj.s t k u hm)),n3,a3.trans b1⟩
 .obtain ⟨n1,n2⟩:=uN (a:=q'.od) (b:=rF j.bf++q.od) h2;obtain ⟨n2,n3⟩:=uN n2;obtain ⟨a1,a2,a3⟩:=h.o g h1 n1;obtain ⟨b1,k,u,hm⟩:=ho g a1 n2;exact ⟨ac0 (XP (hj.o g k u hm)),n3,a3.trans b1⟩
theorem FP (vs:List Wd) (t:Nat) :∀(n:Nat) (l:List (Nat×kH)),hasK t (gy vs n l).1=hasK t l
 |n,[]=>rfl
 |n,(t0,k)::l=>by simp only [gy,hasK,FP vs t]
theorem FQ (vs:List Wd) (t:Nat) :∀(n:Nat) (l:List (Nat×iM)),hasK t (jO vs n l).1=hasK t l
 |n,[]=>rfl
 |n,(t0,k)::l=>by simp only [jO,hasK,FQ vs t]
theorem JR {α:Type} {t:Nat} {x:α} :∀{l:List (Nat×α)},(t,x)∈l->hasK t l=true
 | [],h=>by cases h
 |(t0,y)::l,h=>by
  simp only [hasK,JN];rcases QP.1 h with h | h
  .cases h;exact .inl (by simp)
  .exact .inr (JR h)
theorem XR {st:jG} {j:JF} (hj:JOk st j) (x:Tup j.tys):JOk (qQ j x) j:=by
 obtain ⟨hs,ho⟩:=Ep hj x;refine ⟨fun t k u hm => ?_,fun t k u hm => ?_,hj.ds,hj.dO⟩
 .have hh:hasK t (qQ j x).s=true:=by
   show hasK t (gy _ 0 j.sh.slots).1=true;rw [FP];exact JR (x:=k) (QQ.2 ⟨(t,k,some u),hm,rfl⟩)
  rw [(hs t hh (hj.ds t k u hm)).1];exact hj.s t k u hm
 .have hh:hasK t (qQ j x).o=true:=by
   show hasK t (jO _ _ j.sh.bf).1=true;rw [FQ];exact JR (x:=k) (QQ.2 ⟨(t,k,some u),hm,rfl⟩)
  rw [(ho t hh (hj.dO t k u hm)).1];exact hj.o t k u hm
structure KSm {R:Type} (q:jg) (K:TK R) (r:R) (Kp:vU):Prop where
 n :∀q',qV q q'->(K.n q').run=some r->Kp.n (aS q'.st)
 x :∀id q',qV q q'->(K.x id q').run=some r->Kp.x id (aS q'.st)
 r :∀q',qV q q'->(K.r q').run=some r->Kp.r (aS q'.st)
theorem KSm.from {R:Type} {q q1:jg} {K:TK R} {r:R} {Kp:vU} (h:KSm q K r Kp) (hr:qV q q1):KSm q1 K r Kp:=
 ⟨fun q' a b=>h.n q' (hr.trans a) b,fun id q' a b=>h.x id q' (hr.trans a) b,fun q' a b=>h.r q' (hr.trans a) b⟩
theorem CY {R R':Type} {p:Prog R} {r:R} (h:(p.map (Sum.inr:R->R' ⊕ R)).run=some (.inr r)):p.run=some r:=by
 rw [run_map _ (fun a b e=>Sum.inr.inj e)] at h;cases hp:p.run with
 |none=>rw [hp] at h;cases h
 |some a=>rw [hp] at h;cases h;rfl
theorem qW {R R':Type} {p:Prog R} {x:R'} (h:(p.map (Sum.inr:R->R' ⊕ R)).run=some (.inl x)):False:=by
 rw [run_map _ (fun a b e=>Sum.inr.inj e)] at h;cases hp:p.run with
 |none=>rw [hp] at h;cases h
 |some a=>rw [hp] at h;cases h
theorem JU {R:Type} {aY:List Nat} {early:Bool} {jt:JT} {here:Nat->Bool} {q:jg} {inner:(R':Type)->jg->TK R'->Prog R'} {K:TK R} {r:R} {E:St->vU->Prop} {Kp:vU}
  (hin :∀(R':Type) (q':jg) (K':TK R') (r':R') (Kp':vU),(inner R' q' K').run=some r'->KSm q' K' r' Kp'->E (aS q'.st) Kp')
  (h:(MC aY early jt here q inner K).run=some r) (hK:KSm q K r Kp):E (aS q.st) { n:=Wk aY Kp.n,x:=fun id st=>bif here id then Wk aY Kp.n st else Kp.x id st,r:=Kp.r }:=by
 unfold MC at h;split at h
 .exact (aZ h).elim
 .rename_i j hjo;have hj:=VD hjo;have hjf:JOk q.fresh.st j:=hj;have fin :∀(x:Tup j.tys),(frX ⟨qQ j x,newS j.slots++q.ds,rF j.bf++q.od⟩ K.n).run=some r->∀q':jg,Back aY j.sh.er (aS q'.st) (fun vs=>vs=(j.pay (Tup.kD j.tys x)).map b_)->Wk aY Kp.n (aS q'.st):=by
   intro x hx q' hb;rw [oP] at hx;have hn:=hK.n _ (XQ hj x) hx;refine .back j.sh.er ?_;obtain ⟨hs,gs,m,vs,h0,h1,h2,rfl⟩:=hb;refine ⟨hs,gs,m,_,h0,h1,h2,?_⟩;have e:=qR (JL hj x);have hn:Kp.n (aS (mkT j.sh (j.pay (Tup.kD j.tys x)))):=hn;rw [e] at hn;exact hn
  split at h
  .obtain ⟨x,hi,hx⟩:=Sv h;refine hin _ q.fresh _ x _ hi ⟨fun q' hr hq => ?_,fun id q' hr hq => ?_,fun q' hr hq=>(aZ hq).elim⟩
   .obtain ⟨y,hy,hb⟩:=mJ hjf hr hq;have hy:some y=some x:=hy;cases hy;exact fin _ hx q' hb
   .show (bif here id then Wk aY Kp.n (aS q'.st) else Kp.x id (aS q'.st));have hq:(bif here id then qP aY j q' .ret else .stuck 41:Prog _).run=some x:=hq;cases hh:here id with
    |true=>
     rw [hh] at hq;obtain ⟨y,hy,hb⟩:=mJ hjf hr hq;have hy:some y=some x:=hy;cases hy;exact fin _ hx q' hb
    |false=>rw [hh] at hq;exact (aZ hq).elim
  .rcases ZT h with ⟨x,hi,hx⟩ | hi
   .refine hin _ q.fresh _ (Sum.inl x) _ hi ⟨fun q' hr hq => ?_,fun id q' hr hq => ?_,fun q' hr hq=>(qW hq).elim⟩
    .obtain ⟨y,hy,hb⟩:=mJ hjf hr hq;have hy:some (Sum.inl y:Tup j.tys ⊕ R)=some (.inl x):=hy;cases hy;exact fin _ hx q' hb
    .show (bif here id then Wk aY Kp.n (aS q'.st) else Kp.x id (aS q'.st));have hq:(bif here id then qP aY j q' (fun x=>.ret (.inl x)) else (K.x id (q'.since q)).map .inr:Prog (Tup j.tys ⊕ R)).run=some (.inl x):=hq;cases hh:here id with
     |true=>
      rw [hh] at hq;obtain ⟨y,hy,hb⟩:=mJ hjf hr hq;have hy:some (Sum.inl y:Tup j.tys ⊕ R)=some (.inl x):=hy;cases hy;exact fin _ hx q' hb
     |false=>rw [hh] at hq;exact (qW hq).elim
   .refine hin _ q.fresh _ (Sum.inr r) _ hi ⟨fun q' hr hq => ?_,fun id q' hr hq => ?_,fun q' hr hq => ?_⟩
    .obtain ⟨y,hy,hb⟩:=mJ hjf hr hq;have hy:some (Sum.inl y:Tup j.tys ⊕ R)=some (.inr r):=hy;cases hy
    .show (bif here id then Wk aY Kp.n (aS q'.st) else Kp.x id (aS q'.st));have hq:(bif here id then qP aY j q' (fun x=>.ret (.inl x)) else (K.x id (q'.since q)).map .inr:Prog (Tup j.tys ⊕ R)).run=some (.inr r):=hq;cases hh:here id with
     |true=>
      rw [hh] at hq;obtain ⟨y,hy,hb⟩:=mJ hjf hr hq;have hy:some (Sum.inl y:Tup j.tys ⊕ R)=some (.inr r):=hy;cases hy
     |false=>
      rw [hh] at hq;exact hK.x id (q'.since q) (qV.fresh hr) (CY hq)
    .exact hK.r (q'.since q) (qV.fresh hr) (CY hq)
theorem least {p:Nat->Prop}:(∃n,p n)->∃n,p n/\∀k,k<n->¬ p k:=by
 rintro ⟨n,hn⟩
 induction n using Nat.strongRecOn with
 |ind n ih=>
  by_cases h :∃k,k<n/\p k
  .obtain ⟨k,hk,hp⟩:=h;exact ih k hk hp
  .exact ⟨n,hn,fun k hk hp=>h ⟨k,hk,hp⟩⟩
open Classical in
noncomputable def JV (p:Nat->Prop):Nat:=if h :∃n,p n then Classical.choose (least h) else 0
theorem FT {p:Nat->Prop} (h :∃n,p n):p (JV p)/\∀k,p k->JV p<=k:=by
 unfold JV;rw [dif_pos h];obtain ⟨h1,h2⟩:=Classical.choose_spec (least h);exact ⟨h1,fun k hk=>qr fun hlt=>h2 k hlt hk⟩
theorem MR (st:jG) (d:Tmp) (x:TS):aS (st.put (some d) x)=(aS st).put (some d) (bg x):=by
 refine St.ext' (fun t => ?_) (fun g=>rfl) fun g=>rfl;show bg (jk .no (w_ d x st.s) t)=bif Nat.beq t d then bg x else bg (jk .no st.s t)
 rw [oO];cases Nat.beq t d<;>rfl
theorem ac1 {N:Nat} :∀(x:Code) {st st':jG},OU N x st=some st'->wO N x (aS st)=some (aS st'):=by
 intro x
 induction x with
 |skip=>intro st st' h;simp only [OU,Q0] at h;subst h;rfl
 |region id ops draw=>
  intro st st' h;cases draw with
  |true=>simp [OU] at h
  |false=>
   simp only [OU] at h;split at h
   .rename_i o hops;split at h
    .rename_i d t hg hd ht;split at h
     .rename_i hlt;simp only [Q0] at h;subst h;simp only [wO,hops,hg,hd,ht];rw [if_pos (by simpa using hlt),MR];rfl
     .cases h
    .cases h
   .cases h
 |seq x y Gy ihy=>
  intro st st' h;simp only [OU] at h;split at h
  .rename_i st1 h1;simp only [wO,Gy h1];exact ihy h
  .cases h
 |_=>intro st st' h;simp [OU] at h
theorem SE :∀(ps:List Tmp) (ws:List Wd) (st:jG),aS (rowT ps ws st)=yc ps (ws.map b_) (aS st)
 |p::ps,x::xs,st=>by
  simp only [rowT,Qf,yc];rw [SE ps xs,MR];rfl
 | [],ws,st=>by simp only [rowT,yc]
 |p::ps,[],st=>by simp only [rowT,Vv,yc]
theorem afY {w:Wd} (h:Ty.lit w.t=true):(b_ w).lit=true:=by
 obtain ⟨t,x⟩:=w;cases t<;>first | rfl | cases h
theorem ac2 {sg:dA} {q:jg} {y:Tup sg.aP.tys} (h:(outT sg q).run=some y):Back sg.aY sg.aP.er (IW (aS q.st)) fun vs=>vs=(Tup.kD sg.aP.tys y).map b_:=by
 unfold outT at h;simp only at h;split at h
 .exact (aZ h).elim
 .rename_i hk;obtain ⟨hk,hk2⟩:=gV hk;split at h
  .exact (aZ h).elim
  .rename_i vs hvs;split at h
   .exact (aZ h).elim
   .rename_i x hx;have h:some x=some y:=h;cases h;obtain ⟨c1,c2⟩:=Aw hvs;have e:aS { s:=[],o:=q.st.o,u:=q.st.u }=IW (aS q.st):=St.ext' (fun t=>rfl) (fun g=>rfl) fun g=>rfl;obtain ⟨f1,f2⟩:=O_ hk2;rw [JQ f2,lC,e] at c1;rw [lC,e] at f1;refine .mk _ _ _ _ f1 hk c1 ?_;rw [zi _ hx]
theorem ZW {R:Type} {N:Nat} {sg:dA} {body:jg->TK (Tup sg.aP.tys)->Prog (Tup sg.aP.tys)} {ps:Array Tmp} {x:Code} {ws:List Wd} {q:jg} {K:jg->Prog R} {r:R} {B:List Nat->St->vU->Prop} {Kp:St->Prop}
  (hB :∀(qb:jg) (Kb:TK (Tup sg.aP.tys)) (rb:Tup sg.aP.tys) (Kq:vU),(body qb Kb).run=some rb->KSm qb Kb rb Kq->B sg.aY (aS qb.st) Kq)
  (h:(OV N sg body ps x ws q K).run=some r) (hK :∀q',qV q q'->(K q').run=some r->Kp (aS q'.st)):abR N B ps.toList x (ws.map b_) (aS q.st) Kp:=by
 unfold OV at h;split at h
 .exact (aZ h).elim
 rename_i st1 h1;split at h
 .exact (aZ h).elim
 rename_i c hc;split at h
 .exact (aZ h).elim
 rename_i hok;obtain ⟨hok,h5⟩:=gV hok;obtain ⟨hok,h4⟩:=gV hok;obtain ⟨h2,h3⟩:=gV hok;split at h
 .exact (aZ h).elim
 rename_i z hz;obtain ⟨bW,ho,h⟩:=Sv h;split at h
 rotate_left
 .exact (aZ h).elim
 rename_i hfr;rw [oP] at ho h;have e1:=ac1 x h1;rw [SE] at e1;obtain ⟨k1,k2⟩:=Az hc;have e2:gZ sg.er (aS q.st).o ((List.range N).map (aS st1).s)=some c.er:=by
  have:((List.range N).map st1.gs).map bg=(List.range N).map (aS st1).s:=by rw [VV];rfl
  rw [<-this];exact k1
 have e3:(kJ sg (ps.getD 0 0) q.st.go c (Tup.kD sg.aP.tys bW)).er=iH sg.er (ps.getD 0 0) (aS q.st).o c.er ((Tup.kD sg.aP.tys bW).map b_):=FH (qU sg.aP.tys bW) (MJ hc);refine ⟨sg.er,_,_,(Tup.kD sg.aP.tys bW).map b_,ps.getD 0 0,h2,h3,Q4 h4,e1,e2,h5,?_,?_,?_⟩
 .have:=hB _ _ _ { n:=fun st2=>Back sg.er.aY sg.er.aP (IW st2) fun vs=>vs=(Tup.kD sg.aP.tys bW).map b_,x:=fun _ _=>False,r:=fun _=>False } ho ⟨fun q' _ hq=>ac2 hq,fun id q' _ hq=>(aZ hq).elim,fun q' _ hq=>(aZ hq).elim⟩;have e:=qR (j:=sg.pin) (qU _ z);simp only at this;rw [e,zi _ hz] at this;exact this
 .have hnew:=AB hfr;rw [<-e3];intro g hg;have:=X2.1 hnew g hg;simpa [aS] using this
 .have:=hK _ (qV.eff q none _) h;rw [Eh] at this;have e4:(aS q.st).eff none (kJ sg (ps.getD 0 0) q.st.go c (Tup.kD sg.aP.tys bW)).er=(aS q.st).aI (kJ sg (ps.getD 0 0) q.st.go c (Tup.kD sg.aP.tys bW)).er.aI (kJ sg (ps.getD 0 0) q.st.go c (Tup.kD sg.aP.tys bW)).er.new:=rfl;rw [e4,e3] at this;exact this
theorem ZX {T:mF} {tt:TT} {ety:TypeId->Option Ty} {N:Nat} :∀(c:Code) {aY:List Nat} {R:Type} {a:fV} {q:jg} {K:TK R} {r:R} {Kp:vU},(lN T tt ety N aY c R a q K).run=some r->KSm q K r Kp->
  exec (nD T) tt N aY c (aS q.st) Kp:=by
 intro c
 induction c with
 |skip=>intro aY R a q K r Kp h hK;exact hK.n q (qV.refl q) h
 |region id ops draw=>
  intro aY R a q K r Kp h hK;show pY (nD T) tt N ops draw (aS q.st) (Wk aY Kp.n);have h:(match a with
   |.meet e j _=>MC aY e j (fun _=>false) q (fun _ q K=>wo T tt ety N ops draw q K.n) K
   |_=>wo T tt ety N ops draw q K.n).run=some r:=h
  have plain:(wo T tt ety N ops draw q K.n).run=some r->pY (nD T) tt N ops draw (aS q.st) (Wk aY Kp.n):=fun h=>JH h fun q' hr hq=>.now (hK.n q' hr hq);cases a with
  |meet e j a=>
   exact JU (E:=fun st K=>pY (nD T) tt N ops draw st K.n) (fun R' q' K' r' Kp' h hK'=>JH h fun q'' hr hq=>hK'.n q'' hr hq) h hK
  |_=>exact plain h
 |seq x y Gy ihy=>
  intro aY R a q K r Kp h hK;refine Gy h ⟨fun q' hr hq=>ihy hq (hK.from hr),hK.x,hK.r⟩
 |cond c x y Gy ihy=>
  intro aY R a q K r Kp h hK;have body :∀(R:Type) (a:fV) (q:jg) (K:TK R) (r:R) (Kp:vU),(Xl c q (fun q=>lN T tt ety N aY x R a.fst q K) fun q=>lN T tt ety N aY y R a.snd q K).run=some r->KSm q K r Kp->(match (aS q.st).dI c with
    |.v (.one (.p _ _ (.bool b)))=>bif b then exec (nD T) tt N aY x (aS q.st) Kp else exec (nD T) tt N aY y (aS q.st) Kp
    |_=>False):=by
   intro R a q K r Kp h hK;unfold Xl at h;split at h
   .rename_i a' i' b hb;change Bool at b;have hb':(aS q.st).dI c=.v (.one (.p a' i' (.bool b))):=by rw [nS,hb];rfl
    rw [hb'];simp only;have kn:aS (knT c a' i' b q).st=aS q.st/\qV q (knT c a' i' b q):=by
     unfold knT;cases c with
     |tmp t=>
      have hb:q.st.gs t=.v (.one (.p a' i' (iT b))):=hb;exact ⟨yH hb,yI hb⟩
     |_=>exact ⟨rfl,qV.refl q⟩
    cases b with
    |true=>
     have h:(frX (knT c a' i' true q) fun q=>lN T tt ety N aY x R a.fst q K).run=some r:=h;rw [oP] at h;have:=Gy h (hK.from kn.2);rw [kn.1] at this;exact this
    |false=>
     have h:(frX (knT c a' i' false q) fun q=>lN T tt ety N aY y R a.snd q K).run=some r:=h;rw [oP] at h;have:=ihy h (hK.from kn.2);rw [kn.1] at this;exact this
   .exact (aZ h).elim
  cases a with
  |meet e j a=>
   exact JU (E:=fun st K=>match st.dI c with
    |.v (.one (.p _ _ (.bool b)))=>bif b then exec (nD T) tt N aY x st K else exec (nD T) tt N aY y st K
    |_=>False) (fun R' q' K' r' Kp' h hK'=>body R' a q' K' r' Kp' h hK') h hK
  |nil=>exact body R .nil q K r { n:=Wk aY Kp.n,x:=Kp.x,r:=Kp.r } h ⟨fun q' a b=>.now (hK.n q' a b),hK.x,hK.r⟩
  |seq a b=>exact body R (.seq a b) q K r { n:=Wk aY Kp.n,x:=Kp.x,r:=Kp.r } h ⟨fun q' a b=>.now (hK.n q' a b),hK.x,hK.r⟩
  |range j s a=>exact body R (.range j s a) q K r { n:=Wk aY Kp.n,x:=Kp.x,r:=Kp.r } h ⟨fun q' a b=>.now (hK.n q' a b),hK.x,hK.r⟩
  |loop j a=>exact body R (.loop j a) q K r { n:=Wk aY Kp.n,x:=Kp.x,r:=Kp.r } h ⟨fun q' a b=>.now (hK.n q' a b),hK.x,hK.r⟩
 |block id c ih=>
  intro aY R a q K r Kp h hK;have plain :∀(a:fV),(lN T tt ety N aY c R a q { n:=K.n,x:=fun id' q'=>bif Nat.beq id' id then K.n q' else K.x id' q',r:=K.r }).run=some r->exec (nD T) tt N aY (.block id c) (aS q.st) Kp:=by
   intro a h;refine ih h ⟨fun q' hr hq=>.now (hK.n q' hr hq),fun id' q' hr hq => ?_,hK.r⟩;show (bif Nat.beq id' id then Wk aY Kp.n (aS q'.st) else Kp.x id' (aS q'.st));have hq:(bif Nat.beq id' id then K.n q' else K.x id' q').run=some r:=hq;cases hb:Nat.beq id' id with
   |true=>rw [hb] at hq;exact .now (hK.n q' hr hq)
   |false=>rw [hb] at hq;exact hK.x id' q' hr hq
  cases a with
  |meet e j a=>
   have:=JU (E:=fun st K=>exec (nD T) tt N aY c st K) (fun R' q' K' r' Kp' h hK'=>ih h hK') h hK;have e :∀id',Nat.beq id id'=Nat.beq id' id:=fun id'=>by rw [vo];simp;exact ⟨fun h=>h.symm,fun h=>h.symm⟩
   show exec (nD T) tt N aY c (aS q.st) { n:=Wk aY Kp.n,x:=fun id' st'=>bif Nat.beq id' id then Wk aY Kp.n st' else Kp.x id' st',r:=Kp.r };simp only [e] at this;exact this
  |nil=>exact plain _ h
  |seq a b=>exact plain _ h
  |loop j a=>exact plain _ h
  |range j s a=>exact plain _ h
 |loop c ih=>
  intro aY R a q K r Kp h hK;cases a with
  |loop jt a=>
   unfold lN at h;simp only at h;split at h
   .exact (aZ h).elim
   .rename_i j hjo;have hj:=VD hjo;have hjf:JOk q.fresh.st j:=hj;obtain ⟨x0,hx0,hb0⟩:=mJ hjf (qV.refl q.fresh) h;obtain ⟨n0,hn0⟩:=Sz hx0;generalize hB:(fun z=>(frX ⟨qQ j z,[],[]⟩ fun q'=>lN T tt ety N aY c (Tup j.tys ⊕ R) a q'
      { n:=fun q'=>qP aY j q' fun x=>.ret (.inl x),x:=fun id q'=>(K.x id (q'.since ⟨q'.st,newS j.slots++q.ds,rF j.bf++q.od⟩)).map .inr,r:=fun q'=>(K.r (q'.since ⟨q'.st,newS j.slots++q.ds,rF j.bf++q.od⟩)).map .inr }).run)=B at hn0
    let P:List P->Nat->Prop:=fun vs n =>∃x,vs=(j.pay (Tup.kD j.tys x)).map b_/\iU B n x=some r
    refine .mk j.sh.er (fun vs =>∃n,P vs n) (fun vs=>JV (P vs)) ?_ ?_
    .obtain ⟨hs,gs,m,vs,h0,h1,h2,rfl⟩:=hb0;exact ⟨hs,gs,m,_,h0,h1,h2,n0,x0,rfl,hn0⟩
    .intro us hI;obtain ⟨⟨x,hus,hl⟩,hmin⟩:=FT hI;generalize hn:JV (P us)=n at hl hmin;cases n with
     |zero=>cases hl
     |succ n=>
      simp only [iU] at hl;cases hb:B x with
      |none=>rw [hb] at hl;cases hl
      |some v=>
       rw [hb] at hl;have hb2:=hb;rw [<-hB] at hb2;simp only [oP] at hb2;have e:=qR (JL hj x);rw [<-hus] at e;rw [<-e];refine ih hb2 ⟨fun q' hr hq => ?_,fun id q' hr hq => ?_,fun q' hr hq => ?_⟩
       .obtain ⟨y,hy,hbk⟩:=mJ (q0:=⟨qQ j x,[],[]⟩) (XR hj x) hr hq;have hy:some (Sum.inl y:Tup j.tys ⊕ R)=some v:=hy;cases hy;have hl:iU B n y=some r:=hl;obtain ⟨hs,gs,m,vs,h0,h1,h2,rfl⟩:=hbk;have hP:P ((j.pay (Tup.kD j.tys y)).map b_) n:=⟨y,rfl,hl⟩;refine ⟨hs,gs,m,_,h0,h1,h2,⟨n,hP⟩,?_⟩;have:=(FT ⟨n,hP⟩).2 n hP;omega
       .cases v with
        |inl y=>exact (qW hq).elim
        |inr r'=>
         have hl:some r'=some r:=hl;cases hl;exact hK.x id (q'.since ⟨q'.st,newS j.slots++q.ds,rF j.bf++q.od⟩) (MQ hj hr) (CY hq)
       .cases v with
        |inl y=>exact (qW hq).elim
        |inr r'=>
         have hl:some r'=some r:=hl;cases hl;exact hK.r (q'.since ⟨q'.st,newS j.slots++q.ds,rF j.bf++q.od⟩) (MQ hj hr) (CY hq)
  |nil=>exact (aZ h).elim
  |seq a b=>exact (aZ h).elim
  |meet e j a=>exact (aZ h).elim
  |range j s a=>exact (aZ h).elim
 |rangeFunc g ps x y Gy ihy=>
  intro aY R a q K r Kp h hK;cases a with
  |range jt sg a=>
   unfold lN at h;simp only at h;split at h
   rotate_left
   .exact (aZ h).elim
   rename_i ai ii e rows hcm hop;change List (Dt e) at rows;split at h
   rotate_left
   .exact (aZ h).elim
   rename_i hok;obtain ⟨hok,hps⟩:=gV hok;obtain ⟨hlit,hlen⟩:=gV hok;split at h
   .exact (aZ h).elim
   rename_i j hjo;have hj:=VD hjo;have hjf:JOk q.fresh.st j:=hj;obtain ⟨x0,hx0,hb0⟩:=mJ hjf (qV.refl q.fresh) h;obtain ⟨n0,hn0⟩:=Sz hx0;have hop':(aS q.st).dI g=.v (.one (.p ai ii (.seq (List.map (jW e) rows)))):=by rw [nS,hop];rfl
   refine ⟨hcm,?_⟩;rw [hop'];simp only;have hrl :∀z:Dt e,(jW e z).length=ps.size/\(jW e z).all P.lit=true:=fun z=>by
    refine ⟨by rw [I5,<-jy];exact Q4 hlen,?_⟩;rw [gJ,List.all_map,X2];intro w hw;refine afY ?_;have:w.t∈iW e:=by rw [<-qK e z];exact QQ.2 ⟨w,hw,rfl⟩
    exact X2.1 hlit _ this
   refine ⟨?_,hps,?_⟩
   .rw [X2];intro row hm;obtain ⟨z,_,rfl⟩:=QQ.1 hm;simp only [Q6];exact ⟨by rw [(hrl z).1];simp,(hrl z).2⟩
   generalize hB:(fun zk:Tup j.tys×Nat=>(Prog.cond (Nat.blt zk.2 (List.length rows))
        (frX ⟨qQ j zk.1,[],[]⟩ fun q'=>OV N sg (fun q K=>lN T tt ety N sg.aY y (Tup sg.aP.tys) a q K) ps x (fG e (List.getD rows zk.2 (dflt e))) q' fun q''=>qP aY j q'' fun z'=>.ret (.inl (z',zk.2+1)))
        (frX ⟨qQ j zk.1,newS j.slots++q.ds,rF j.bf++q.od⟩ fun q'=>(K.n q').map .inr):Prog ((Tup j.tys×Nat) ⊕ R)).run)=B at hn0
   refine .mk j.sh.er (fun k us =>∃z,us=(j.pay (Tup.kD j.tys z)).map b_/\∃n,iU B n (z,k)=some r) ?_ ?_ ?_
   .obtain ⟨hs,gs,m,vs,h0,h1,h2,rfl⟩:=hb0;exact ⟨hs,gs,m,_,h0,h1,h2,x0,rfl,n0,hn0⟩
   .rintro k row us hrow ⟨z,rfl,n,hl⟩;rw [XN] at hrow;obtain ⟨v,hv,rfl⟩:=ZD.1 hrow;have hk:k<List.length rows:=(Q3.1 hv).1;cases n with
    |zero=>cases hl
    |succ n=>
     simp only [iU] at hl;cases hb:B (z,k) with
     |none=>rw [hb] at hl;cases hl
     |some o=>
      rw [hb] at hl;have hb2:=hb;rw [<-hB] at hb2;simp only [Prog.run] at hb2;have hlt:Nat.blt k (List.length rows)=true:=by simpa using hk
      rw [hlt] at hb2;simp only [cond_true,oP] at hb2;have hg:List.getD rows k (dflt e)=v:=by rw [List.getD_eq_getElem?_getD,hv];rfl
      rw [hg] at hb2;have e1:=qR (JL hj z);have e2:jW e v=(fG e v).map b_:=gJ e v;rw [<-e1,e2];refine ZW (q:=⟨qQ j z,[],[]⟩) (fun qb Kb rb Kq hb hKb=>ihy hb hKb) hb2 fun q' hr hq => ?_;obtain ⟨z',hz',hbk⟩:=mJ (q0:=⟨qQ j z,[],[]⟩) (XR hj z) hr hq;have hz':some (Sum.inl (z',k+1):(Tup j.tys×Nat) ⊕ R)=some o:=hz';cases hz';have hl:iU B n (z',k+1)=some r:=hl;obtain ⟨hs,gs,m,vs,h0,h1,h2,rfl⟩:=hbk;exact ⟨hs,gs,m,_,h0,h1,h2,z',rfl,n,hl⟩
   .rintro us ⟨z,rfl,n,hl⟩;cases n with
    |zero=>cases hl
    |succ n=>
     simp only [iU] at hl;cases hb:B (z,(List.map (jW e) rows).length) with
     |none=>rw [hb] at hl;cases hl
     |some o=>
      rw [hb] at hl;have hb2:=hb;rw [<-hB] at hb2;simp only [Prog.run] at hb2;have hlt:Nat.blt (List.map (jW e) rows).length (List.length rows)=false:=by
       rw [W0];cases hh:Nat.blt (List.length rows) (List.length rows) with
       |false=>rfl
       |true=>simp at hh
      rw [hlt] at hb2;simp only [cond_false,oP] at hb2;cases o with
      |inl y=>exact (qW hb2).elim
      |inr r'=>
       have hl:some r'=some r:=hl;cases hl;have:=hK.n _ (XQ hj z) (CY hb2);have e1:=qR (JL hj z);rw [<-e1];exact .now this
  |nil=>exact (aZ h).elim
  |seq a b=>exact (aZ h).elim
  |meet e j a=>exact (aZ h).elim
  |loop j a=>exact (aZ h).elim
 |exit id=>intro aY R a q K r Kp h hK;exact hK.x id q (qV.refl q) h
 |ret=>intro aY R a q K r Kp h hK;exact hK.r q (qV.refl q) h
 |label l=>intro aY R a q K r Kp h hK;exact hK.n q (qV.refl q) h
 |scope c ih=>intro aY R a q K r Kp h hK;exact ih h hK
 |_=>intro aY R a q K r Kp h;exact (aZ h).elim
end
end Go.Fg

namespace Go.Fg
open Go.Fw
section
variable [RE]
theorem ac3 {tt:TT} {st:jG} {r:ResultVar} {x:TS} (h:Xm tt st r=some x):Zq tt (aS st) r=some (bg x):=by
 cases r with
 |tmp t=>simp only [Xm,Q0] at h;subst h;rfl
 |cell a t=>
  simp only [Xm] at h;split at h
  .rename_i i g off ht hs;split at h
   .rename_i ws hg;obtain ⟨hb,h⟩:=bQ h;simp only [Q0] at h;subst h;obtain ⟨h1,h2⟩:=gV hb;have hs':(aS st).s a=.v (.one (.box g off)):=by show bg (st.gs a)=_;rw [hs];rfl
    have hg':(aS st).o g=.box (ws.map bU):=oK hg;simp only [Zq,ht,hs',hg',W0];rw [if_pos ⟨W3 h1,Jd h2⟩,kZ,V1,WF]
   .cases h
  .cases h
theorem MS {tt:TT} {st:jG} :∀{rs:List ResultVar} {xs:List TS},Jq tt st rs=some xs->Fj tt (aS st) rs=some (xs.map bg)
 | [],xs,h=>by simp only [Jq,Q0] at h;subst h;rfl
 |r::rs,xs,h=>by
  simp only [Jq] at h;split at h
  .rename_i h1 h2;simp only [Q0] at h;subst h;simp only [Fj,ac3 h1,MS h2,Qf]
  .cases h
theorem SG :∀(xs:List TS) (n k:Nat),jk .no (Vz n xs) (n+k)=xs.getD k .no
 | [],n,k=>rfl
 |x::xs,n,0=>by simp [Vz,jk]
 |x::xs,n,k+1=>by
  have:Nat.beq (n+(k+1)) n=false:=by
   cases h:Nat.beq (n+(k+1)) n with
   |false=>rfl
   |true=>have:=Q4 h;omega
  simp only [Vz,jk,this,cond_false,List.getD_cons_succ];have e:n+(k+1)=(n+1)+k:=by omega
  rw [e];exact SG xs (n+1) k
theorem XT {tt:TT} {sp:dA} {ts:List ResultVar} {q:jg} {y:Tup sp.aP.tys} (h:(afG tt sp ts q).run=some y):Fw.Fin tt sp.er ts ((Tup.kD sp.aP.tys y).map b_) (aS q.st):=by
 unfold afG at h;split at h
 .exact (aZ h).elim
 .rename_i xs hxs;simp only at h;split at h
  .exact (aZ h).elim
  .rename_i hk;obtain ⟨hk,hk2⟩:=gV hk;split at h
   .exact (aZ h).elim
   .rename_i vs hvs;split at h
    .exact (aZ h).elim
    .rename_i x hx;have h:some x=some y:=h;cases h;unfold Fw.Fin;rw [MS hxs];simp only;obtain ⟨c1,c2⟩:=Aw hvs;have e:aS { s:=Vz 0 xs,o:=q.st.o,u:=q.st.u }=Q9 (xs.map bg) (aS q.st):=by
      refine St.ext' (fun t => ?_) (fun g=>rfl) fun g=>rfl;show bg (jk .no (Vz 0 xs) t)=(xs.map bg).getD t .no;have:=SG xs 0 t;rw [WD] at this;rw [this,MH]
     obtain ⟨f1,f2⟩:=O_ hk2;rw [JQ f2,lC,e] at c1;rw [lC,e] at f1;refine .mk _ _ _ _ f1 hk c1 ?_;rw [zi _ hx]
def au (Pg:Program) (f:FuncId) (sp:aV):Prop:=Sound Pg f sp.er
def mF.of (l:List (Nat×aV)):mF:=fun f=>l.lookup f
def ZY (Pg:Program):List (Nat×aV)->Prop
 | []=>True
 |p::r=>au Pg (p.1 % 1000000) p.2/\ZY Pg r
theorem ZY.sound {Pg:Program} :∀{l:List (Nat×aV)},ZY Pg l->∀f sp,nD (mF.of l) f=some sp->Sound Pg (f % 1000000) sp
 | [],_,f,sp,h=>by cases h
 |(g,s)::l,⟨h1,h2⟩,f,sp,h=>by
  simp only [nD,mF.of,List.lookup] at h;split at h
  .rename_i e;have e:f=g:=by simpa using e
   subst e;cases h;exact h1
  .exact ZY.sound h2 f sp h
theorem dS {Pg:Program} {f:FuncId} {fn:Func} {c:Code} {sp:aV} (hf:Pg.funcs[f]?=some fn) (hb:fn.body=some c) (hname:(fn.name == "runtime.NumGoroutine")=false) (hok:sp.sig.er.ok=true) (h :∀x,sp.f x=none):au Pg f sp:=by
 refine ⟨hok,fun args w => ?_,fun E w vals gh ins bW hR => ?_⟩
 .have hname':¬ fn.name = "runtime.NumGoroutine" := by simpa using hname
  simp [callFunc,hf,hname',hb]
 .obtain ⟨x,y,hy,_⟩:=hR;have hy:=(O1 hy).1;rw [h x] at hy;cases hy
theorem wF (e:Ty) (l:List (Dt e)):(aF e l).length=List.length (α:=Dt e) l:=by simp [aF]
theorem Ew {R:Type} {a b:Nat->TO} {K:Prog R} {y:R} :∀{gs:List Nat},(Au a b K gs).run=some y->K.run=some y/\∀g∈gs,(dY (a g)).like (dY (b g))
 | [],h=>⟨h,fun g hg=>by cases hg⟩
 |g::gs,h=>by
  unfold Au at h;have key :∀{x y:TO},RN x y=.yes->(dY x).like (dY y):=by
   intro x y hxy;cases x<;>cases y<;>simp only [RN] at hxy<;>first | trivial | (cases hxy) | (exfalso;revert hxy;cases Nat.beq _ _<;>intro hxy<;>cases hxy)
  have key2 :∀{x y:TO} {n m:Nat},RN x y=.len n m->n=m->(dY x).like (dY y):=by
   intro x y n m hxy hnm;cases x<;>cases y<;>simp only [RN] at hxy<;>first | (cases hxy) | skip
   .rename_i e l _ _ _ e' l';cases hb:Nat.beq (size e) (size e') with
    |false=>rw [hb] at hxy;cases hxy
    |true=>
     rw [hb] at hxy;cases hxy;exact ⟨Q4 hb,by rw [wF,wF];exact hnm⟩
   .rename_i e _ l _ _ _ e' _ l' _;cases hb:Nat.beq (size e) (size e') with
    |false=>rw [hb] at hxy;cases hxy
    |true=>
     rw [hb] at hxy;cases hxy;exact ⟨Q4 hb,by rw [wF,wF];exact hnm⟩
  split at h
  .rename_i hc;obtain ⟨h1,h2⟩:=Ew h;refine ⟨h1,fun g' hg => ?_⟩;rcases QP.1 hg with rfl | hg
   .exact key hc
   .exact h2 g' hg
  .exact (aZ h).elim
  .rename_i n m hc;have h:ck (decide (n=m)) (Au a b K gs).run=some y:=h;unfold ck at h;cases hd:decide (n=m) with
   |false=>rw [hd] at h;cases h
   |true=>
    rw [hd] at h;obtain ⟨h1,h2⟩:=Ew (gs:=gs) h;refine ⟨h1,fun g' hg => ?_⟩;rcases QP.1 hg with rfl | hg
    .exact key2 hc (of_decide_eq_true hd)
    .exact h2 g' hg
theorem Z4 {Pg:Program} {tt:TT} {T:mF} {ety:TypeId->Option Ty} {f:FuncId} {fn:Func} {c:Code} {sp:aV} (ts:List ResultVar) (a:fV) (hf:Pg.funcs[f]?=some fn) (hb:fn.body=some c) (hname:(fn.name == "runtime.NumGoroutine")=false) (hres:fn.results=ts.toArray)
  (hok:sp.sig.er.ok=true) (EZ:(sp.sig.aY.all fun g=>sp.sig.pin.er.nms.contains g)=true) (hn:sp.sig.bD<=fn.ntmps) (hnr:ts.length=sp.sig.dw)
  (hT :∀f sp,nD T f=some sp->Sound Pg (f % 1000000) sp) (htt:iw Pg tt) (hm:Fit Pg)
  (h :∀x,(acE T tt ety fn.ntmps sp.sig ts c a x).run=sp.f x):au Pg f sp:=by
 have hcase :∀x y,sp.ff x=some y->(tfun T tt ety fn.ntmps sp.sig ts c a x).run=some y/\∀g∈sp.sig.er.aY,((Fw.mk sp.sig.pin.er ((Tup.kD sp.sig.pin.tys x).map b_)).o g).like ((Fw.mk sp.sig.aP.er ((Tup.kD sp.sig.aP.tys y).map b_)).o g):=by
  intro x y hy0;have hy:=(O1 hy0).1;have hx:=h x;rw [hy] at hx;unfold acE at hx;cases hbx:sp.sig.er.abr with
  |true=>
   rw [hbx] at hx;exact ⟨hx,yY.LG hbx⟩
  |false=>
   rw [hbx] at hx;have hx:(tfun T tt ety fn.ntmps sp.sig ts c a x).run.bind (fun z=>(Au (mkT sp.sig.pin (Tup.kD sp.sig.pin.tys x)).go (mkT sp.sig.aP (Tup.kD sp.sig.aP.tys z)).go (.ret z) sp.sig.aY).run)=some y:=hx;cases hr:(tfun T tt ety fn.ntmps sp.sig ts c a x).run with
   |none=>rw [hr] at hx;cases hx
   |some z=>
    rw [hr] at hx;obtain ⟨h1,h2⟩:=Ew (R:=Tup sp.sig.aP.tys) (K:=.ret z) hx;have h1:some z=some y:=h1;cases h1;refine ⟨rfl,fun g hg => ?_⟩;have e1:=congrArg (fun s=>s.o g) (qR (qU _ x));have e2:=congrArg (fun s=>s.o g) (qR (qU _ y));rw [<-e1,<-e2];exact h2 g hg
 refine abT (T:=nD T) (tt:=tt) (c:=c) ts hf hb hname hres hok EZ (fun ins bW ⟨x,y,hy,hi,ho⟩=>by subst hi;subst ho;exact (hcase x y hy).2) hn hnr hT htt hm ?_;rintro ins bW ⟨x,y,hy,rfl,rfl⟩;have hx:=(hcase x y hy).1;unfold tfun at hx;rw [oP] at hx;have e:=qR (qU _ x);have hx:=ZX c hx (Kp:=ajj tt sp.sig.er ts ((Tup.kD sp.sig.aP.tys y).map b_)) ⟨fun q' _ hq=>XT hq,fun id q' _ hq=>(aZ hq).elim,fun q' _ hq=>XT hq⟩;have hx:exec (nD T) tt fn.ntmps sp.sig.er.aY c (aS (mkT sp.sig.pin (Tup.kD sp.sig.pin.tys x))) (ajj tt sp.sig.er ts ((Tup.kD sp.sig.aP.tys y).map b_)):=hx;rw [e] at hx;exact hx
end
end Go.Fg

namespace Go.Fg
open Go.Fw Go.Proofs
def Ph (w:World) (l:List Int) (G:Gh):Prop:=
 (G.ad=none/\G.cap=0/\l=[])\/
 ∃b o c e,G.ad=some ⟨b,o,none⟩ /\w.heap[b]?=some (.cells c e (0,0))/\o+G.cap<=c.size/\(l.length<=G.cap/\G.cap<=9223372036854775807)/\
  ∀(n:Nat) x,l[n]?=some x->c[o+n]?=some (.int .i64 x)
section
variable [RE]
theorem ni (l:List Int):aF (.int .i64) l=l.map fun x=>[P.int .i64 x]:=rfl
theorem afZ {E:Env} {st:St} {gh:Nat->Gh} {w:World} {a i:Bool} {l:List Int} {G:Gh} (h:iG E st gh w a i 1 (aF (.int .i64) l) G):Ph w l G:=by
 rcases h with ⟨h1,h2,h3⟩ | ⟨ad,c,e,h1,h2,h3,h4,h5,h6,h7⟩
 .refine .inl ⟨h1,h2,?_⟩;rw [ni] at h3;simpa using h3
 .obtain ⟨b,o,sp⟩:=ad;simp only at h2 h3 h4 h7;subst h2;refine .inr ⟨b,o,c,e,h1,h3,by omega,by simpa [ni] using h5,fun n x hx => ?_⟩;have hx':(aF (.int .i64) l)[n]?=some [P.int .i64 x]:=by
   rw [ni,XN,hx];rfl
  obtain ⟨v,hv,hr⟩:=h7 n _ hx' 0 (P.int .i64 x) rfl;rw [hr.eH] at hv;rw [<-hv];congr 1;omega
theorem af0 {E:Env} {st:St} {gh:Nat->Gh} {w:World} {a i:Bool} {l:List Int} {G:Gh} (h:Ph w l G):iG E st gh w a i 1 (aF (.int .i64) l) G:=by
 rcases h with ⟨h1,h2,h3⟩ | ⟨b,o,c,e,h1,h3,h4,h5,h7⟩
 .exact .inl ⟨h1,h2,by rw [h3];rfl⟩
 .refine .inr ⟨⟨b,o,none⟩,c,e,h1,rfl,h3,by simpa using h4,by simpa [ni] using h5,fun x hx => ?_,fun n x hx j y hy => ?_⟩
  .rw [ni,QQ] at hx;obtain ⟨z,_,rfl⟩:=hx;rfl
  .rw [ni,XN] at hx;cases hl:l[n]? with
   |none=>rw [hl] at hx;cases hx
   |some z=>
    rw [hl] at hx;simp only [Z3,Q0] at hx;subst hx;cases j with
    |succ j=>simp at hy
    |zero=>
     simp only [UT,Q0] at hy;subst hy;refine ⟨_,?_,.int .i64 z⟩;rw [<-h7 n z hl];congr 1;simp
end
theorem heap_setCell (w:World) (b o:Nat) (v:Value) (c:Array Value) (e:TypeId) (h:w.heap[b]?=some (.cells c e (0,0))) :
  (w.setCell ⟨b,o,none⟩ v).heap[b]?=some (.cells (c.setIfInBounds o v) e (0,0))/\∀b',b'≠b->(w.setCell ⟨b,o,none⟩ v).heap[b']?=w.heap[b']?:=by
 refine ⟨?_,fun b' hb => ?_⟩
 .simp [World.setCell,qn,h]
 .simp [World.setCell,qn,Ne.symm hb]
theorem zN (b:Nat) (e:TypeId) :∀(vs:List Value) (o:Nat) (w:World) (c:Array Value),w.heap[b]?=some (.cells c e (0,0))->o+vs.length<=c.size->
  ∃c',(w.setCells b o vs).heap[b]?=some (.cells c' e (0,0))/\c'.size=c.size/\(∀k,c'[k]?=if o<=k/\k<o+vs.length then vs[k-o]? else c[k]?)/\
   (∀b',b'≠b->(w.setCells b o vs).heap[b']?=w.heap[b']?)/\(w.setCells b o vs).heap.size=w.heap.size
 | [],o,w,c,h,hs=>⟨c,h,rfl,fun k=>by rw [if_neg (by simp)],fun _ _=>rfl,rfl⟩
 |v::vs,o,w,c,h,hs=>by
  simp only [Wl] at hs;obtain ⟨h1,h2⟩:=heap_setCell w b o v c e h;obtain ⟨c',k1,k2,k3,k4,k5⟩:=zN b e vs (o+1) (w.setCell ⟨b,o,none⟩ v) (c.setIfInBounds o v) h1 (by simp;omega);refine ⟨c',k1,by simpa using k2,fun k => ?_,fun b' hb=>(k4 b' hb).trans (h2 b' hb),k5.trans (by simp [World.setCell])⟩;rw [k3];simp only [Wl];by_cases e1:k=o
  .subst e1;rw [if_neg (by omega),if_pos (by omega)];simp [Kf];omega
  .by_cases e2:o+1<=k/\k<o+1+vs.length
   .rw [if_pos e2,if_pos (by omega)];rw [show k-o=(k-(o+1))+1 by omega,Vc]
   .rw [if_neg e2,if_neg (by omega)];simp [Kf,Ne.symm e1]
theorem FU (b:Nat) :∀(vs:List Value) (o:Nat) (w:World),(w.setCells b o vs).os=w.os/\(w.setCells b o vs).tape=w.tape/\(w.setCells b o vs).output=w.output
 | [],_,_=>⟨rfl,rfl,rfl⟩
 |_::vs,o,w=>FU b vs (o+1) _
theorem enters_of {Pg:Program} {f:FuncId} {fn:Func} {c:Code} (hf:Pg.funcs[f]?=some fn) (hb:fn.body=some c) (hname:(fn.name == "runtime.NumGoroutine")=false):Fw.Enters Pg f:=fun args w=>by
 have hname':¬ fn.name = "runtime.NumGoroutine" := by simpa using hname
 simp [callFunc,hf,hname',hb]
section
variable [RE]
end
end Go.Fg

namespace Go.Fg
open Go.Fw Go.Proofs
section
variable [RE]
def qX:L_:=⟨[],[(70000,.arr false false true (.int .i64))]⟩
theorem ac4 {E:Env} {st:St} {gh:Nat->Gh} {val:Nat->Value} {w w':World} (h:Rel E st gh val w) (hB:E.B0=w.heap.size) (l:List Int) (G:Gh) (hG:Ph w' l G)
  (hsz:w.heap.size<=w'.heap.size) (hfr :∀b,b<w.heap.size->¬ E.Wr b->w'.heap[b]?=w.heap[b]?)
  (hin :∀ad,G.ad=some ad->(w.heap.size<=ad.block\/E.Wr ad.block)/\ad.block<w'.heap.size) (hos:w'.os=w.os/\w'.tape=w.tape/\w'.output=w.output) (bK:Nat->Gh) (hgh:bK 70000=G) (hsub :∀b,G.sub b=none:=by first | exact fun _=>rfl | assumption) :
  Rel E (Fw.mk qX.er ((Tup.kD qX.tys l).map b_)) bK (fun k=>([]:List Value).getD k undef) w':=by
 have hs1 :∀t,(Fw.mk qX.er ((Tup.kD qX.tys l).map b_)).s t=.no:=fun t=>rfl;have ho:(Fw.mk qX.er ((Tup.kD qX.tys l).map b_)).o 70000=.arr false false true 1 (aF (.int .i64) l):=by
  exact congrArg (O.arr false false true 1) (jo (.int .i64) l)
 have hon :∀g,g≠70000->(Fw.mk qX.er ((Tup.kD qX.tys l).map b_)).o g=.none:=fun g hg=>by
  have e1:(g==70000)=false:=by simpa using hg
  show (match List.lookup g [(70000,_)] with | some x=>x | none=>O.none)=_;simp only [List.lookup,e1]
 have hu:(Fw.mk qX.er ((Tup.kD qX.tys l).map b_)).used 70000=true:=rfl;have hown :∀g,((Fw.mk qX.er ((Tup.kD qX.tys l).map b_)).o g).bP=true->g=70000:=fun g hg=>by
  by_cases e:g=70000
  .exact e
  .rw [hon g e] at hg;simp [O.bP] at hg
 generalize Fw.mk qX.er ((Tup.kD qX.tys l).map b_)=s at *;exact {
  slots:=fun t=>by rw [hs1];exact .no _
  bf:=fun g=>by
   by_cases e:g=70000
   .subst e;rw [ho,hgh];exact af0 hG
   .rw [hon g e];trivial
  inj:=fun g g' _ h1 h2 _ _=>(hown g h1).trans (hown g' h2).symm
  wr:=fun g a h1 h2=>by
   have:=hown g h1;subst this;rw [hgh] at h2;rw [hB];rcases h2 with ⟨ad,q1,q2⟩ | q
   .rw [<-q2];exact hin ad q1
   .rw [hsub a] at q;cases q
  wi:=fun g i b h1 h2 h3=>by
   by_cases e:g=70000
   .subst e;rw [ho] at h1;cases h1;rfl
   .rw [hon g e] at h1;cases h1
  ns:=fun g h1 _ b=>by
   have:=hown g h1;subst this;rw [hgh];exact hsub b
  wb:=h.wb
  frame:=fun b hb hw=>by
   rw [hfr b (by omega) hw];exact h.frame b hb hw
  size:=by rw [hB];exact hsz
  os:=hos.1.trans h.os
  tape:=hos.2.1.trans h.tape
  output:=hos.2.2.trans h.output
  us:=fun t g hg=>by rw [hs1] at hg;simp [S.names] at hg
  uo:=fun g g' hg=>by
   by_cases e:g=70000
   .subst e;rw [ho] at hg;simp [O.names] at hg
   .rw [hon g e] at hg;simp [O.names] at hg
  ul:=fun g hg=>by
   by_cases e:g=70000
   .subst e;exact hu
   .exact absurd (hon g e) hg }
def uO:dA:={ bD:=1,pin:=⟨[(0,.one (.own 70000))],[(70000,.arr false false true (.int .i64))]⟩,aP:=qX,dw:=0,aY:=[70000],aU:=[] }
def Z5 (l:List Int):Option (List Int):=match decide (l.length<4611686018427387904) with
 |true=>some (l.mergeSort fun x y=>decide (x<=y))
 |false=>none
def XU:aV:=⟨uO,fun x=>Z5 x⟩
theorem Z7 {Pg:Program} {f:FuncId} (apF:Fw.Enters Pg f)
  (hD :∀(b off c:Nat) (zs:List Int) (w:World),Go.Sort.Holds (Value.int .i64) w b off zs.toArray->b<w.heap.size->zs.length<4611686018427387904->
   Calls Pg f #[.slice (some ⟨b,off,none⟩) zs.length c] w fun e w'=>e=.returned (.tuple #[])/\∃n os,w'=Go.Sort.grow (Go.Sort.putRow (Value.int .i64) (Go.Sort.ahead w n) b off (zs.mergeSort fun x y=>decide (x<=y)).toArray) os)
  (hE :∀(a:Option Addr) (c:Nat) (w:World),Calls Pg f #[.slice a 0 c] w fun e w'=>e=.returned (.tuple #[])/\w'=w):au Pg f XU:=by
 refine ⟨rfl,apF,fun E w vals gh ins bW hR hB hw0 KO hlen => ?_⟩;obtain ⟨l,y,hy,rfl,rfl⟩:=hR;change List Int at l;change List Int at y;have hy:Z5 l=some y:=hy;unfold Z5 at hy;split at hy
 .rename_i hc;simp only [decide_eq_true_eq] at hc;simp only [Q0] at hy;subst hy;have ho:(Fw.mk uO.pin.er ((Tup.kD uO.pin.tys l).map b_)).o 70000=.arr false false true 1 (aF (.int .i64) l):=by
   exact congrArg (O.arr false false true 1) (jo (.int .i64) l)
  have ho2:(Fw.mk uO.aP.er ((Tup.kD uO.aP.tys (l.mergeSort fun x y=>decide (x<=y))).map b_)).o 70000=.arr false false true 1 (aF (.int .i64) (l.mergeSort fun x y=>decide (x<=y))):=by
   exact congrArg (O.arr false false true 1) (jo (.int .i64) (l.mergeSort fun x y=>decide (x<=y)))
  have r0:vals.getD 0 undef=.slice (gh 70000).ad l.length (gh 70000).cap:=by
   have h0:=(KO.slots 0).dG;cases h0 with
   |own _ _ hv hx=>exact (hx _ _ (O.jM ho)).trans (congrArg (fun n=>Value.slice (gh 70000).ad n (gh 70000).cap) (fF (.int .i64) l))
  have alO:vals.toArray=#[.slice (gh 70000).ad l.length (gh 70000).cap]:=by
   have hl3:vals.length=1:=hlen
   match vals,hl3 with
   | [a],_=>simp at r0;simp [r0]
  rw [alO];have apG :∀b,(gh 70000).sub b=none:=KO.ns 70000 rfl rfl;have hA:Ph w l (gh 70000):=by
   have h0:=KO.bf 70000;have h1:lT E _ gh w (.arr false false true 1 (aF (.int .i64) l)) (gh 70000):=ho▸h0;exact afZ h1
  have EL:((Fw.mk uO.pin.er ((Tup.kD uO.pin.tys l).map b_)).o 70000).like ((Fw.mk uO.aP.er ((Tup.kD uO.aP.tys (l.mergeSort fun x y=>decide (x<=y))).map b_)).o 70000):=by
   rw [ho,ho2];refine ⟨rfl,?_⟩;exact (fF (.int .i64) l).trans ((List.length_mergeSort l).symm.trans (fF (.int .i64) (l.mergeSort fun x y=>decide (x<=y))).symm)
  have UN :∀(bK:Nat->Gh),bK 70000=gh 70000->∀g∈XU.er.sig.aY,((bK g).ad=(gh g).ad/\(bK g).cap=(gh g).cap)/\((Fw.mk uO.pin.er ((Tup.kD uO.pin.tys l).map b_)).o g).like ((Fw.mk uO.aP.er ((Tup.kD uO.aP.tys (l.mergeSort fun x y=>decide (x<=y))).map b_)).o g):=fun bK e g hg=>by
   have:g=70000:=Qt.1 hg;subst this;exact ⟨⟨by rw [e],by rw [e]⟩,EL⟩
  rcases hA with ⟨h1,h2,h3⟩ | ⟨b,o,c,e,h1,h3,h4,h5,h7⟩
  .subst h3;refine (hE (gh 70000).ad (gh 70000).cap w).mono fun e w' ⟨he,hw⟩ => ?_;subst hw;refine ⟨[],gh,rfl,by rw [he];rfl,?_,UN gh rfl⟩;have:([]:List Int).mergeSort (fun x y=>decide (x<=y))=[]:=by simp
   rw [this];exact ac4 KO hB [] (gh 70000) (.inl ⟨h1,h2,rfl⟩) (YY _) (fun _ _ _=>rfl) (fun ad had=>by rw [h1] at had;cases had) ⟨rfl,rfl,rfl⟩ _ rfl
  .rw [h1];have hwr:=KO.wr 70000 b rfl (Gh.jS h1);have hcell :∀k,k<l.length->w.cell? ⟨b,o+k,none⟩=some (.int .i64 (l.getD k 0)):=fun k hk=>by
    have:=h7 k l[k] (Q2 hk);simp [World.cell?,h3,this,hk]
   have hH:Go.Sort.Holds (Value.int .i64) w b o l.toArray:=by
    have:=Lib.holds_of_ints (n:=l.length) (YY _) hcell (fun k hk=>by simp [World.frozen?,h3])
    rwa [UX] at this
   refine (hD b o (gh 70000).cap l w hH hwr.2 hc).mono fun e' w' ⟨he,q,os,hw⟩ => ?_;rw [Lib.putRow_eq_setCells (Value.int .i64) w b o l.toArray _ q hH (by simp)] at hw;generalize hm:(l.mergeSort fun x y=>decide (x<=y))=m at *;have hlen2:m.length=l.length:=by rw [<-hm];exact List.length_mergeSort l
   obtain ⟨c',k1,k2,k3,k4,k5⟩:=zN b e (m.map (Value.int .i64)) o (w.drewN q) c h3 (by rw [W0];omega);have hos:=FU b (m.map (Value.int .i64)) o (w.drewN q);generalize (w.drewN q).setCells b o (m.map (Value.int .i64))=w1 at *;have hlt :∀b',b'<w.heap.size->w'.heap[b']?=w1.heap[b']?:=fun b' hb'=>by
    subst hw;show (w1.heap++os)[b']?=_;exact JP (by rw [k5];exact hb')
   have hsz:w.heap.size<=w'.heap.size:=by
    subst hw;show _<=(w1.heap++os).size;rw [vi,k5];exact Nat.le_add_right _ _
   have apH:w'.os=w.os/\w'.tape=w.tape/\w'.output=w.output:=by subst hw;exact hos
   have hwr2:=hwr.2;refine ⟨[],gh,rfl,by rw [he];rfl,?_,UN gh rfl⟩;refine ac4 KO hB _ (gh 70000) (.inr ⟨b,o,c',e,h1,by rw [hlt b hwr2];exact k1,by rw [k2];exact h4,⟨by omega,h5.2⟩,fun n x hx => ?_⟩)
    hsz (fun b' hb' hnw=>(hlt b' hb').trans (k4 b' fun eb => ?_)) (fun ad had => ?_) apH _ rfl
   .have hn:=(Q3.1 hx).1;rw [k3,if_pos (by simp;omega)];simp [hx]
   .subst eb;rcases hwr.1 with hq | hq
    .rw [hB] at hq;omega
    .exact hnw hq
   .rw [h1] at had;cases had;refine ⟨?_,Wz hwr2 hsz⟩;have:=hwr.1;rw [hB] at this;exact this
 .cases hy
end
end Go.Fg

namespace Go.Fw
open Go.RowKit
variable [eF]
def Ey (w:World):Prop :=∀g sz rows,eF.gt g=some (sz,rows)->g<w.heap.size/\∀(n:Nat) x,rows[n]?=some x->x.length=sz/\∀(j:Nat) y,x[j]?=some y->∃u,w.cell? ⟨g,n*sz+j,none⟩=some u/\dh w (fun _=>False) y u
def E0 (w:World) (hw:Ey w):Env:={ FA:=fun _=>True,FI:=fun _=>False,B0:=w.heap.size,w0:=w,Wr:=fun _=>False,hg:=fun g sz rows hg=>⟨(hw g sz rows hg).1,fun h=>h,(hw g sz rows hg).2⟩ }
def G0:Nat->Gh:=fun _=>Gh.nil
theorem Z8 {Pg:Program} {f:FuncId} {sp:Spec} (hs:Sound Pg f sp) (abu:sp.sig.pin.bf=[]) (hnr:sp.sig.dw=1) (WO:sp.sig.aP=⟨[(0,.one (.p false false))],[]⟩) {vals:List Value} (hlen:vals.length=sp.sig.bD) {w:World} (hw:Ey w) {ins:List P}
  (hR:sp.R ins [.bool true]) (sV :∀t,dH (E0 w hw) (Fw.mk sp.sig.pin ins) G0 w ((Fw.mk sp.sig.pin ins).s t) (vals.getD t undef)) :
  Calls Pg f vals.toArray w fun e w'=>e=.returned (.bool true)/\Below w.heap.size w w':=by
 obtain ⟨hok,_,hS⟩:=hs;have hno :∀g,(Fw.mk sp.sig.pin ins).o g=.none:=fun g=>LD (by simp [Shape.nms,abu]);have hok':=hok;simp only [yY.ok,Q6] at hok';have hus:=ahG hok'.1.1.1.1.1.1.1.1 ins;have hrel:Rel (E0 w hw) (Fw.mk sp.sig.pin ins) G0 (fun k=>vals.getD k undef) w:=
  ⟨sV,fun g=>by rw [hno];trivial,fun g g' a (h:((Fw.mk sp.sig.pin ins).o g).bP=true)=>(by rw [hno] at h;cases h),fun g a (h:((Fw.mk sp.sig.pin ins).o g).bP=true)=>(by rw [hno] at h;cases h),fun g i b (h:((Fw.mk sp.sig.pin ins).o g).inner=some i)=>(by rw [hno] at h;cases h),fun g (h:((Fw.mk sp.sig.pin ins).o g).bP=true)=>(by rw [hno] at h;cases h),fun b hb=>hb.elim,fun b _ _=>rfl,YY _,rfl,rfl,rfl,hus.1,hus.2.1,hus.2.2⟩
 refine Calls.mono (hS (E0 w hw) w vals G0 ins [.bool true] hR rfl rfl hrel hlen) fun e w' he => ?_;obtain ⟨rs,bK,hrl,rfl,hx,_⟩:=he;rw [hnr] at hrl
 match rs,hrl with
 | [v],_=>
 refine ⟨?_,⟨hx.os,hx.tape,hx.output,hx.size,fun b hb=>hx.frame b hb (fun h=>h)⟩⟩;have h0:=hx.slots 0;rw [WO] at h0;have h1:dH (E0 w hw) (Fw.mk ⟨[(0,.one (.p false false))],[]⟩ [.bool true]) bK w' (.v (.one (.p false false (.bool true)))) v:=h0;rw [show v=.bool true from h1.fE.lY];rfl
theorem af2 {w:World} {k:IntKind} {a:Option Addr} {len cap:Nat} {zs:List Int} {ok:Nat->Prop} (hok :∀b,b<w.heap.size->ok b)
  (h:(a=none/\len=0/\cap=0/\zs=[])\/∃x,a=some x/\len<=cap/\zs.length=cap/\∀i,i<zs.length->w.cell? (x.add i)=some (.int k (zs.getD i 0))) :
  dh w ok (.sl 1 ((zs.take len).map fun z=>[.int k z])) (.slice a len cap):=by
 rcases h with ⟨rfl,rfl,rfl,rfl⟩ | ⟨x,rfl,hl,hz,hc⟩
 .exact .nil _ _ _
 .by_cases h0:len=0
  .subst h0;exact .nil _ _ _
  .have hc0:=hc 0 (by omega);have hs:x.spot=none:=by
    unfold World.cell? Addr.add at hc0;cases hx:x.spot with
    |none=>rfl
    |some s=>
     exfalso;split at hc0
     .simp [hx] at hc0
     .cases hc0
   have hb:x.block<w.heap.size:=by
    unfold World.cell? at hc0;have e:(x.add 0).block=x.block:=by simp [Addr.add]
    rw [e] at hc0;by_cases hlt:x.block<w.heap.size
    .exact hlt
    .rw [Array.getElem?_eq_none (by omega)] at hc0;cases hc0
   have hlen:((zs.take len).map fun z=>[P.int k z]).length=len:=by simp;omega
   have:=dh.sl (w:=w) (ok:=ok) 1 ((zs.take len).map fun z=>[P.int k z]) x cap (fun i _=>.int k (zs.getD i 0)) hs (fun _=>hok _ hb) (by omega) (fun r hr=>by
     obtain ⟨z,_,rfl⟩:=QQ.1 hr;rfl) (fun i r hr j y hj => ?_) (fun i r hr j y hj => ?_)
   .rw [hlen] at this;exact this
   all_goals
    have hi:i<len:=by have:=(Q3.1 hr).1;omega
    rw [XN,Z2,if_pos hi] at hr;obtain ⟨z,hz',rfl⟩:=ZD.1 hr;have hj0:j=0:=by
     cases j with
     |zero=>rfl
     |succ j=>simp at hj
    subst hj0;simp only [UT,Q0] at hj;subst hj
   .have:=hc i (by omega);rw [<-this];have e:x.add i=⟨x.block,x.off+i,none⟩:=by
     obtain ⟨b,o,sp⟩:=x;simp only at hs;subst hs;exact Addr.iy b o i
    rw [e];simp
   .rw [List.getD_eq_getElem?_getD,hz'];exact .int k z
end Go.Fw
namespace Go.Fg
open Go.Fw Go.RowKit
section
variable [RE]
theorem af4 {w:World} {k:IntKind} {a:Option Addr} {len cap:Nat} {zs:List Int} {ok:Nat->Prop} (hok :∀b,b<w.heap.size->ok b)
  (h:(a=none/\len=0/\cap=0/\zs=[])\/∃x,a=some x/\len<=cap/\zs.length=cap/\∀i,i<zs.length->w.cell? (x.add i)=some (.int k (zs.getD i 0))) :
  dh w ok (b_ ⟨.sl (.int k),zs.take len⟩) (.slice a len cap):=by
 have h0:=af2 hok h;have e:aF (.int k) (zs.take len)=(zs.take len).map fun z=>[P.int k z]:=rfl;rw [Gz,e];have hlen:len=(zs.take len).length:=by
  rcases h with ⟨_,rfl,_,rfl⟩ | ⟨x,_,h1,h2,_⟩
  .rfl
  .simp;omega
 cases hl:zs.take len with
 |nil=>
  rw [hl] at hlen;have hlen:len=0:=hlen;subst hlen;exact .nil _ _ _
 |cons z l=>rw [hl] at h0;exact h0
end
end Go.Fg

namespace Go.Fg
open Go.Fw
def Ok {α:Type} (x:Option α) (Q:α->Prop):Prop :=∃y,x=some y/\Q y
def JW {α β:Type} (P:α->Prop) (Q:β->Prop):α ⊕ β->Prop
 |.inl a=>P a
 |.inr b=>Q b
theorem zl {α:Type} {y:α} {Q:α->Prop}:Ok (some y) Q↔Q y:=⟨fun ⟨_,h,hq⟩=>by cases h;exact hq,fun h=>⟨_,rfl,h⟩⟩
theorem GV {α β:Type} {x:Option α} {f:α->Option β} {Q:β->Prop}:Ok (Option.bind x f) Q↔Ok x fun y=>Ok (f y) Q:=by
 cases x with
 |none=>exact ⟨fun ⟨_,h,_⟩=>(by cases h),fun ⟨_,h,_⟩=>(by cases h)⟩
 |some z=>rw [zl];rfl
theorem ac5 {α:Type} {b:Bool} {x:Option α} {Q:α->Prop}:Ok (ck b x) Q↔b=true/\Ok x Q:=by
 cases b with
 |false=>exact ⟨fun ⟨_,h,_⟩=>(by cases h),fun ⟨h,_⟩=>(by cases h)⟩
 |true=>exact ⟨fun h=>⟨rfl,h⟩,fun h=>h.2⟩
theorem VF {α:Type} {b:Bool} {x y:Option α} {Q:α->Prop}:Ok (bif b then x else y) Q↔(b=true->Ok x Q)/\(b=false->Ok y Q):=by
 cases b with
 |false=>exact ⟨fun h=>⟨fun e=>(by cases e),fun _=>h⟩,fun h=>h.2 rfl⟩
 |true=>exact ⟨fun h=>⟨fun _=>h,fun e=>(by cases e)⟩,fun h=>h.1 rfl⟩
theorem ac6 {α β:Type} {x:Option (α ⊕ β)} {f:α->Option β} {Q:β->Prop}:Ok (dL x f) Q↔Ok x (JW (fun a=>Ok (f a) Q) Q):=by
 unfold dL;refine GV.trans ⟨fun ⟨y,hy,h⟩=>⟨y,hy,?_⟩,fun ⟨y,hy,h⟩=>⟨y,hy,?_⟩⟩
 .cases y with
  |inl a=>exact h
  |inr b=>exact (zl (Q:=Q)).1 h
 .cases y with
  |inl a=>exact h
  |inr b=>exact (zl (Q:=Q)).2 h
theorem jP {α:Type} {x:Option α} {Q Q':α->Prop} (h:Ok x Q) (hq :∀y,Q y->Q' y):Ok x Q':=let ⟨y,hy,hz⟩:=h;⟨y,hy,hq y hz⟩
theorem ok_eq {α:Type} {x:Option α} {y:α} (h:Ok x fun z=>z=y):x=some y:=let ⟨_,hy,e⟩:=h;e▸hy
section
variable [RE]
theorem cO {A R:Type} {body:A->Option (A ⊕ R)} {Q:R->Prop} (I:A->Prop) (μ:A->Nat) {a:A} (ha:I a)
  (h :∀a,I a->Ok (body a) (JW (fun a'=>I a'/\μ a'<μ a) Q)):Ok (bJ body a) Q:=by
 have key :∀n a,I a->μ a<n->Ok (bJ body a) Q:=by
  intro n
  induction n with
  |zero=>intro a _ hn;omega
  |succ n ih=>
   intro a ha hn;obtain ⟨y,hy,hz⟩:=h a ha;rw [AP,hy];cases y with
   |inl a'=>
    obtain ⟨h1,h2⟩:I a'/\μ a'<μ a:=hz;exact ih a' h1 (by omega)
   |inr r=>exact ⟨r,rfl,hz⟩
 exact key _ a ha (Nat.lt_succ_self _)
end
theorem aH {x:Int} (h:-9223372036854775808<=x/\x<=9223372036854775807):dN x=x:=@wrap64 ⟨fun _=>none,fun _ _ _ _=>False,fun _ h=>h⟩ x h.1 h.2
theorem aJ {n:Int} {len:Nat}:inB n len=true↔0<=n/\n<len:=by simp [inB]
theorem JX {lo hi:Int} {len:Nat}:Gn lo hi len=true↔(0<=lo/\lo<=hi)/\hi<=(len:Int):=by simp [Gn]
theorem JY {b:Nat} {n c:Int}:KW b n c=true↔((0<=n/\n<=c)/\b*c<=281474976710656)/\c<=9223372036854775807:=by simp [KW]
theorem XV {p:Prop} [Decidable p]:(decide p=true)=p:=by simp
theorem SH {p:Prop} [Decidable p]:(decide p=false)=¬p:=by simp
theorem not_iff {b:Bool}:((!b)=true)=(b=false):=by cases b<;>simp
theorem af5 (a b:Int):Zv a b=min a b:=by unfold Zv;split<;>omega
theorem GX (a b:Int):DZ a b=max a b:=by unfold DZ;split<;>omega
theorem tmod_lt {a b:Int} (ha:0<=a) (hb:0<b):0<=Int.tmod a b/\Int.tmod a b<b:=⟨Int.tmod_nonneg b ha,Int.tmod_lt_of_pos a hb⟩
theorem getD_at {α:Type} {l:List α} {n:Nat} (d:α) (h:n<l.length):l.getD n d=l[n]:=by
 rw [List.getD_eq_getElem?_getD,Q2 h];rfl
end Go.Fg

namespace Go.Fg
open Go.Fw
theorem take_snoc {α:Type} {l:List α} {i:Nat} (h:i<l.length):l.take (i+1)=l.take i++[l[i]]:=by
 rw [List.take_add_one,Q2 h];rfl
theorem bG {α β:Type} {x:Option α} {f:α->Option β} {Q:β->Prop} (Q':α->Prop) (h:Ok x Q') (k :∀y,Q' y->Ok (f y) Q):Ok (Option.bind x f) Q:=GV.2 (jP h k)
theorem fP {α β:Type} {x:Option α} {f:α->Option β} {Q:β->Prop} {y:α} (h:x=some y) (k:Ok (f y) Q):Ok (Option.bind x f) Q:=by rw [h];exact k
theorem dM {α:Type} {b:Bool} {x y:Option α} {Q:α->Prop} (h1:b=true->Ok x Q) (h2:b=false->Ok y Q):Ok (bif b then x else y) Q:=VF.2 ⟨h1,h2⟩
theorem cZ {α:Type} {b:Bool} {x y:Option α} {Q:α->Prop} (hb:b=false) (h2:Ok y Q):Ok (bif b then x else y) Q:=by rw [hb];exact h2
theorem goT {α:Type} {b:Bool} {x y:Option α} {Q:α->Prop} (hb:b=true) (h2:Ok x Q):Ok (bif b then x else y) Q:=by rw [hb];exact h2
theorem dB {α:Type} {b:Bool} {x:Option α} {Q:α->Prop} (hb:b=true) (h2:Ok x Q):Ok (ck b x) Q:=ac5.2 ⟨hb,h2⟩
theorem iF {α β:Type} {x:Option (α ⊕ β)} {f:α->Option β} {Q:β->Prop} (Q':α->Prop) (h:Ok x (JW Q' Q)) (k :∀y,Q' y->Ok (f y) Q):Ok (dL x f) Q:=
 ac6.2 (jP h fun y hy=>by cases y with
  |inl a=>exact k a hy
  |inr b=>exact hy)
theorem aC {α:Type} {y:α} {Q:α->Prop} (h:Q y):Ok (some y) Q:=zl.2 h
section
variable [RE]
theorem ajI {A R S E:Type} {body:A->Option (A ⊕ R)} {Q:R->Prop} (l:List E) (st:Int->S->A) (g:S->E->S) (I:Nat->S->Prop) {s0:S} {a0:A} (ha:a0=st 0 s0) (h0:I 0 s0)
  (hs :∀i (h:i<l.length) s,I i s->s=(l.take i).foldl g s0->Ok (body (st i s)) (JW (fun a=>a=st ((i:Int)+1) (g s l[i])/\I (i+1) (g s l[i])) Q))
  (he :∀s,I l.length s->s=l.foldl g s0->Ok (body (st l.length s)) (JW (fun _=>False) Q)):Ok (bJ body a0) Q:=by
 have key :∀k i s,i<=l.length->l.length-i=k->I i s->s=(l.take i).foldl g s0->Ok (bJ body (st i s)) Q:=by
  intro k
  induction k with
  |zero=>
   intro i s hi hk h1 h2;have e:i=l.length:=by omega
   subst e;rw [UX] at h2;obtain ⟨y,hy,hq⟩:=he s h1 h2;rw [AP,hy];cases y with
   |inl a=>exact hq.elim
   |inr r=>exact ⟨r,rfl,hq⟩
  |succ k ih=>
   intro i s hi hk h1 h2;have hlt:i<l.length:=by omega
   obtain ⟨y,hy,hq⟩:=hs i hlt s h1 h2;rw [AP,hy];cases y with
   |inl a=>
    obtain ⟨rfl,h3⟩:a=st ((i:Int)+1) (g s l[i])/\I (i+1) (g s l[i]):=hq;have:=ih (i+1) (g s l[i]) (by omega) (by omega) h3 (by rw [take_snoc hlt,List.foldl_append,<-h2];rfl);exact this
   |inr r=>exact ⟨r,rfl,hq⟩
 rw [ha];exact key l.length 0 s0 (by omega) (by omega) h0 (by simp)
end
end Go.Fg

namespace Go.Fg
open Go.Fw Go.RowKit
section
variable {H:Type} {enc:TypeId×Value->H} {P:Program} {w:World} {base:Nat} {spare:Nat->Bool} {held:Bool}
end
theorem alP [eF] {pin:Shape} (h:pin.bf=[]) (ins:List P) (w:World) (hw:Ey w) :∀b,b<w.heap.size->(E0 w hw).ok (Fw.mk pin ins) G0 w true false b:=by
 intro b hb;refine ⟨.inl ⟨rfl,trivial⟩,hb,fun g ad hg => ?_⟩;rw [LD (by simp [Shape.nms,h])] at ad;cases ad
section
variable [RE]
end
end Go.Fg

namespace Go.Fg
open Go.Fw Go.RowKit
theorem JZ [eF] {P:Program} {w:World} {name:String} {g n:Nat} {t e:TypeId} {bs:List (List UInt8)} (hg:P.globalNamed name=some g) (ht:(P.globals[g]?).map (·.type)=some t)
  (hu:P.underlying t=some (.array n e)) (hs:P.underlying e=some .string) (hc:P.cellsOf e=1) (hn:bs.length=n)
  (hG :∀g' sz rows,eF.gt g'=some (sz,rows)->g'=g/\sz=1/\rows=bs.map fun b=>[Fw.P.str ⟨b.toArray⟩])
  (h:laidMet P [(name,.agg (bs.map fun b=>.lit (.string b)))] w):Ey w:=by
 obtain ⟨ps,⟨g1,t1,cs,fuel,p,q,hg1,ht1,hv,hd,_,_⟩,_,_⟩:=h;obtain rfl:=Wa (hg.symm.trans hg1);obtain rfl:=Wa (ht.symm.trans ht1);intro g' sz rows hrow;obtain ⟨rfl,rfl,rfl⟩:=hG g' sz rows hrow;refine ⟨?_,fun i x hx => ?_⟩
 .simp only [World.var?,hg1,Option.bind_some] at hv;have:w.heap[g']?≠none:=by
   intro hnone;rw [hnone] at hv;simp at hv
  rw [ne_eq,Array.getElem?_eq_none_iff] at this;omega
 .obtain ⟨xs,m,_,ex,_,hl,hel⟩:=DataW.trod_array hu hd;have hi:i<bs.length:=by
   rw [XN] at hx;rcases v8 i bs.length with h | h
   .exact h
   .rw [Wt h] at hx;cases hx
  rw [XN,Q2 hi] at hx;obtain rfl:=Wa hx;refine ⟨rfl,fun j y hy => ?_⟩;have hj:j=0:=by
   cases j with
   |zero=>rfl
   |succ j=>cases hy
  subst hj;obtain rfl:=Wa hy;have hE:=hel i (by omega);rw [hc,Nat.mul_one,Q2 (by omega)] at hE;obtain ⟨s,e1,e2,_⟩:=DataW.trod_string hs hE;have e3:(xs.map (·.1))=bs.map fun b=>(DataW.lit (.string b):DataW Unit):=(DataW.agg.inj (Prod.mk.inj ex).1).symm;have e4:(xs.map (·.1))[i]?=(bs.map fun b=>(DataW.lit (.string b):DataW Unit))[i]?:=by rw [e3]
  rw [XN,XN,Q2 (by omega:i<xs.length),Q2 hi,e2] at e4;have e5:s.data.toList=bs[i]:=by
   simp only [Z3,Q0,DataW.lit.injEq,Lit.string.injEq] at e4;exact e4
  have e6:(⟨bs[i].toArray⟩:ByteArray)=s:=by rw [<-e5]
  refine ⟨.string s,?_,by rw [e6];exact .str s⟩;rw [Nat.mul_one,VM,World.var?_cell hg1 hv i];have h0:((cs.toList.drop i).take 1)[0]?=some (.string s):=by rw [e1];rfl
  simpa using h0
end Go.Fg

