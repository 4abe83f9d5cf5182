/-
  The framework (a machine on plain data that answers as the program does), part 4.
-/
import Derived.Shelf.Slices.Cells
import Derived.Shelf.Slices.Empties
import Derived.Shelf.Slices.Delete
import Derived.Shelf.Spec.SlicesInsertGrow
import Derived.Shelf.Sort.Plain
import Derived.Shelf.Slices.In.SortNone
import Derived.Lib.RowBridge
import Derived.Below
import Derived.Test.YtfakmncecjicbaaGreatZc
set_option linter.unusedSimpArgs false
set_option linter.unusedVariables false
set_option linter.unusedSectionVars false
namespace Go.Fg
open Go.Fw
section
variable [dV]
theorem D5{T:Tab}{tt:TT}{N:Nat}{ops:Array Oper}{o:Oper}{st:St}{K K':Eff->Prop}(hK :∀e,K e->K' e)(h:stepW T tt N ops o st K):stepW T tt N ops o st K':=by
 unfold stepW at *;refine⟨h.1,?_⟩;have h:=h.2;split at h
 .exact nN (λe he=>⟨he.1,hK e he.2⟩) h
 .split at h
  .rename_i b hb;cases b with
   |true=>simp only[cond_true]at h ⊢;exact nN (λe he=>⟨he.1,hK e he.2⟩) h
   |false=>exact hK _ h
  .exact h
theorem Jv{T:Tab}{tt:TT}{N:Nat}{ops:Array Oper}{o:Oper}{st:St}{K K':Eff->Prop}(hK :∀e,K e->K' e)(h:BA T tt N ops o st K):BA T tt N ops o st K':=by
 unfold BA at *;split at h
 .exact ⟨h.1,λb hb=>hK _ (h.2 b hb)⟩
 .split at h
  .exact ⟨h.1,λhb=>hK _ (h.2.1 hb),λhb=>hK _ (h.2.2 hb)⟩
  .exact D5 hK h
end
theorem vN{R:Type}{b:Bool}{x:Option R}{r:R}(h:ck b x=some r):b=true/\x=some r:=by
 cases b
 .cases h
 .exact ⟨rfl,h⟩
theorem Y_{R:Type}{x y:Option R}{r:R}(h:both x y=some r):x=some r/\y=some r:=by
 unfold both at h;split at h
 .rename_i e;exact⟨h,e▸h⟩
 .cases h
section
variable [RE]
theorem W_{R:Type}{b:Bool}{x:Prog R}{r:R}(h:(Prog.chk b x).run=some r):b=true/\x.run=some r:=vN h
theorem abI{A B R:Type}{n:Nat}{f:A->Option B}{a:A}{k:B->Prog R}{r:R}(h:(Prog.call n f a k).run=some r):∃y,f a=some y/\(k y).run=some r:=by
 have h:(f a).bind (λz=>(k z).run)=some r:=h;cases hf:f a with
 |none=>rw[hf]at h;cases h
 |some y=>rw[hf]at h;exact⟨y,rfl,h⟩
theorem bV{R:Type}{n:Nat}{r:R}(h:(Prog.stuck n:Prog R).run=some r):False:=by cases h
theorem Ce(st:iQ):(aP st).bW=λx=>aZ (st.bW x):=funext (kP st)
theorem abJ(x:TS):akE (aZ x)=abn x:=by
 cases x with
 |v x=>cases x with
  |one x=>cases x<;>rfl
  |agg xs=>rfl
 |lq xs=>rfl
 |no=>rfl
theorem MF:∀l:List TS,V3 (l.map aZ)=Jd l
 | []=>rfl
 |x::l=>by simp only[X2,V3,Jd,abJ x,MF l];cases abn x<;>rfl
theorem Jw{T:ku}{fn:Nat}{st:iQ}{args:List Operand}:pick (lN T) fn (args.map (aP st).bW)=(WC T fn (args.map st.bW)).map aS.er:=by
 have e:args.map (aP st).bW=(args.map st.bW).map aZ:=by rw[Ce,Uv];rfl
 have ek:Qh fn ((args.map st.bW).map aZ)=DW fn (args.map st.bW):=by unfold Qh DW;rw[MF];cases Jd (args.map st.bW)<;>rfl
 rw[e];unfold pick WC;rw[ek];cases Nat.blt fn 1000000 with
 |false=>rfl
 |true=>simp only[lN];cases T (DW fn (args.map st.bW))<;>rfl
theorem Xa{x:TS}{fn:FuncId}{caps:List TW}(h:x=.v (.one (.clo fn caps))):aZ x=.v (.one (.clo fn (caps.map bQ))):=by subst h;simp only[aZ,jv,bQ,yH]
theorem Jy(st:iQ)(args:List Operand)(caps:List TW):
  (args.map (aP st).bW)++(caps.map bQ).map (λx=>S.v (.one x))=((args.map st.bW)++caps.map λx=>TS.v (.one x)).map aZ:=by
 simp only[Z6,Uv,Ce];rfl
theorem MG{o:Nat->TO}{g d:Nat}{a i:Bool}{e:Ty}{ah:List (Nat×Ty)}{l:List (Dt e)}(h1:Q7 (o g)=some d)(h2:wE o g=some ⟨a,i,e,ah,l⟩):Fw.jS (bT o) g=gZ [(g,.aF a i e ah l none),(d,.none)]:=by
 unfold wE at h2;cases ho:o g with
 |aF a0 i0 e0 jV l0 hole=>
  rw[ho]at h1 h2;have hg:bT o g=.aF a0 i0 (size e0) (gY jV) (aC e0 l0) hole:=by simp[bT,ho,dJ]
  rcases hole with _|⟨n,c,d'⟩;cases h1;simp only[Q7,Q0]at h1;subst h1;simp only at h2;cases hd:o d' with
  |arr fz a' i' e' l'=>
   rw[hd]at h2;cases fz with
   |true=>cases h2
   |false=>
    simp only at h2;split at h2
    .rename_i hc;cases h2;obtain⟨k1,k2,k3⟩:=tC hc;simp only[Fw.jS,hg,gI hd];rw[Qt ⟨k1,k3⟩,<-zV k2];rfl
    .cases h2
  |_=>rw[hd]at h2;cases h2
 |_=>rw[ho]at h1;cases h1
theorem Jz(st:iQ)(u:List (Nat×TO)):aP { st with o:=BQ st.o u }=(aP st).aB (gZ u) []:=by
 refine St.ext' (λt=>rfl) (λg=>?_) λg=>by simp[aP,St.aB]
 show dJ (jl .none (BQ st.o u) g)=match (gZ u).lookup g with|some x=>x|none=>dJ (jl .none st.o g)
 rw[xZ];have:(gZ u).lookup g=(u.lookup g).map dJ:=oP dJ g u;rw[this];cases u.lookup g<;>rfl
theorem fE{α β:Type}{f g:α->List β}:∀{l:List α},(∀x∈l,f x=g x)->l.flatMap f=l.flatMap g
 | [],_=>rfl
 |x::l,h=>by simp only[W0,h x (by simp),fE (l:=l) λy hy=>h y (by simp[hy])]
theorem sQ(f:FuncId)(caps:List W):(W.clo f caps).names=caps.flatMap W.names:=by
 rw[W.names];have :∀(l:List {x // x∈caps}),(l.flatMap λx=>x.1.names)=(l.map (·.1)).flatMap W.names:=λl=>by rw[zc]
 rw[this,List.attach_map_subtype_val]
theorem Fj:∀(caps:List TW),xR caps=(mZ caps).flatMap W.names
 | []=>rfl
 |c::cs=>by cases c<;>simp[xR,mZ,bQ,W.names,Fj cs]
theorem Ad(x:TW):W.namesT x=(bQ x).names:=by
 cases x with
 |clo f caps=>simp only[W.namesT,bQ,sQ,Fj]
 |_=>simp only[W.namesT,bQ,W.names]
theorem JA(x:TV):V.namesT x=(jv x).names:=by
 cases x with
 |one x=>exact Ad x
 |agg xs=>simp only[V.namesT,jv,V.names,zc];exact fE λx _=>Ad x
theorem vO(x:TS):S.namesT x=(aZ x).names:=by
 cases x with
 |v x=>exact JA x
 |lq xs=>simp only[S.namesT,aZ,S.names,zc];exact fE λx _=>JA x
 |no=>rfl
theorem MH{R:Type}{T:ku}{tt:TT}{ety:TypeId->Option Ty}{d:Nat}{st:iQ}{o:Oper}{K:je->Prog R}{r:R}(h:(WG T tt ety d st o K).run=some r):
  jP (lN T) tt d (aP st) o λe=>∃te:je,e=te.er/\(K te).run=some r:=by
 have plain :∀op,(match jd tt ety d st.go st.bW op o.type with
   |some r=>Prog.chk r.pre (.let_ r.val λz=>K { x:=r.dst z,aB:=r.aB z,new:=r.new })
   |none=>match dK tt ety d st.go st.bW op o.type with
    |some r=>Prog.chk r.pre (.let_ r.val λz=>K { x:=r.dst z,aB:=r.aB z,new:=r.new })
    |none=>.stuck 16).run=some r->(∃dc r',dF tt dc d (aP st).o (aP st).bW op o.type=some r'/\r'.pre/\KF r'.val λz=>∃te:je,({ x:=r'.dst z,aB:=r'.aB z,new:=r'.new }:Eff)=te.er/\(K te).run=some r)\/(match kernel tt d (aP st).o (aP st).bW op o.type with
   |some r'=>r'.pre/\bif EI op then KF r'.val λz=>(∃te:je,({ x:=r'.dst z,aB:=r'.aB z,new:=r'.new }:Eff)=te.er/\(K te).run=some r)else(∃te:je,({ x:=r'.dst r'.val,aB:=r'.aB r'.val,new:=r'.new }:Eff)=te.er/\(K te).run=some r)
   |none=>False):=by
  intro op h;split at h
  .rename_i rr hk;obtain⟨h1,h2⟩:=W_ h;obtain⟨dc,r',hk',hs⟩:=QZ op rr hk;refine .inl ⟨dc,r',by rw[Ce];exact hk',hs.pre h1,KF.iff.2 ⟨{ x:=rr.dst rr.val,aB:=rr.aB rr.val,new:=rr.new },?_,h2⟩⟩;simp only[je.er,hs.dst,hs.aB,hs.new]
  refine .inr ?_;split at h
  rotate_left
  exact(bV h).elim;rename_i rr hk;obtain⟨h1,h2⟩:=W_ h;obtain⟨r',hk',hs,hn⟩:=U1 op rr hk;have hs:=hs h1;have hk':kernel tt d (aP st).o (aP st).bW op o.type=some r':=by rw[Ce];exact hk'
  rw[hk'];refine⟨hs.pre h1,?_⟩;have key :∃te:je,({ x:=r'.dst r'.val,aB:=r'.aB r'.val,new:=r'.new }:Eff)=te.er/\(K te).run=some r:=⟨{ x:=rr.dst rr.val,aB:=rr.aB rr.val,new:=rr.new },by simp only[je.er,hs.dst,hs.aB,hn],h2⟩
  cases EI op with
  |true=>exact KF.iff.2 key
  |false=>exact key
 unfold WG at h;unfold jP;split at h
 .rename_i f args ts hop;rw[hop];simp only;split at h
  rotate_left
  exact(bV h).elim;rename_i fn caps hf;have hf':=Xa hf;rw[kP,hf'];simp only;split at h
  rotate_left
  exact(bV h).elim;rename_i sp hT;have hT':pick (lN T) fn (args.toList.map (aP st).bW)=some sp.er:=by rw[Jw,hT];rfl
  rw[hT'];simp only;split at h
  rotate_left
  exact(bV h).elim;rename_i c hc;obtain⟨k1,k2⟩:=Js hc;have k1:iq sp.er.sig (aP st).o ((args.toList.map (aP st).bW)++(caps.map bQ).map λx=>S.v (.one x))=some c.er:=by rw[Jy];exact k1
  rw[k1];simp only;split at h
  rotate_left
  exact(bV h).elim;rename_i Wi;split at h
  rotate_left
  exact(bV h).elim;rename_i x hx;split at h
  rotate_left
  .exact (bV h).elim
  rename_i aoL;obtain⟨y,hy,h⟩:=abI h;obtain⟨f1,f2⟩:=ig Wi;refine⟨?_,(Tup.lD sp.sig.aO.tys y).map bY,Jt sp.sig d st.go c (Tup.lD sp.sig.aO.tys y),⟨x,y,hy,?_,rfl⟩,Rw aoL k1 f1 (GN _ hx) hy,yK sp.sig d st.go c (Tup.lD sp.sig.aO.tys y),?_,h⟩
  .have f2:=Qf f2;simp only[X1,XX,W5];exact⟨f1,f2⟩
  .rw [GN _ hx];rfl
  .rw [OQ];exact ZS _ (Rt (vM _ _) (Y9 hc)).symm
 .rename_i hno;have h:=plain _ h;split
  .rename_i f args ts hop;exact(hno _ _ _ hop).elim
  .exact h
theorem D6(x:TO):(dJ x).hn=iF x:=by
 cases x with
 |aF a i e ah l hole=>cases hole<;>rfl
 |_=>rfl
theorem OT(x:TO):xg (dJ x)=DX x:=by
 cases x with
 |box ws=>show (ws.map bQ).flatMap W.names=ws.flatMap W.namesT;rw[zc];exact fE λx _=>(Ad x).symm
 |_=>rfl
theorem Fp(st:iQ):∀(n:Nat) (gs:List Nat),oJ (aP st).o n gs=BR st.go n gs
 |0,_=>rfl
 |n+1,gs=>by have e:(gs.flatMap λg=>xg ((aP st).o g))=gs.flatMap λg=>DX (st.go g):=fE λg _=>OT (st.go g);simp only[oJ,BR,e,Fp st n]
theorem Ci(st:iQ)(o:Oper):argNames (aP st) o=yL st o:=by
 unfold argNames yL;generalize o.op=op;cases op with
 |call c=>
  obtain⟨callee,args,ats⟩:=c;cases callee with
  |value f=>refine fE λx _=>?_;rw[kP,vO]
  |_=>rfl
 |slice t x lo hi mx=>show ((aP st).bW x).names=S.namesT (st.bW x);rw[kP,vO]
 |_=>rfl
theorem JB(st:iQ)(o:Oper):rW (aP st) o=GI st o:=by unfold rW GI;rw[Ci,Fp]
theorem JC(st:iQ)(o:Oper):iO (aP st) o=GK st o:=by
 unfold iO GK;rw[JB,Ci];refine List.filter_congr λg _=>?_;have:((aP st).o g).hn=iF (st.go g):=D6 _;rw[this];cases iF (st.go g)with
 |nil=>rfl
 |cons d _=>simp only[bI]
theorem yM:∀{gs:List Nat} {st st1:iQ},Je gs st=some st1->aP st1=Fw.shuts gs (aP st)
 | [],st,st1,h=>by simp only[Je,Q0]at h;subst h;rfl
 |g::gs,st,st1,h=>by
  simp only[Je]at h;split at h
  .rename_i d a i e ah l h1 h2;rw[yM h,Jz];have:=MG h1 h2;have this:Fw.jS (aP st).o g=_:=this;simp only[Fw.shuts];rw[this]
  .cases h
theorem Za{hs:List Nat}{st st1:iQ}(h:Je hs st=some st1):zh hs (aP st)=gZ (U8 hs st st1):=by have e:=yM h;unfold zh U8 gZ;rw[<-e,List.map_flatMap];refine fE λg _=>?_;have:((aP st).o g).hn=iF (st.go g):=D6 _;rw[this,X2,Uv];rfl
theorem abK{R:Type}{T:ku}{tt:TT}{ety:TypeId->Option Ty}{d:Nat}{st:iQ}{o:Oper}{K:je->Prog R}{r:R}(h:(Y7 T tt ety d st o K).run=some r):
  iP (lN T) tt d (aP st) o λe=>∃te:je,e=te.er/\(K te).run=some r:=by
 unfold Y7 at h;unfold iP;rw[JC];split at h
 .rename_i hcs;rw[hcs];exact MH h
 .rename_i g gs hcs;rw[hcs];split at h
  rotate_left
  exact(bV h).elim;rename_i st1 h1;have:=MH h;rw[yM h1]at this;refine qR ?_ this;rintro e ⟨te,rfl,h⟩;refine⟨_,?_,h⟩;simp only[Bg,je.er,Za h1];simp only[gZ,Z6]
structure qY(q q':jw):Prop where
 s :∀t,hasK t q'.st.s=true->eY t q'.ds=false->hasK t q.st.s=true/\eY t q.ds=false/\q'.st.gs t=q.st.gs t
 o :∀g,hasK g q'.st.o=true->eY g q'.od=false->hasK g q.st.o=true/\eY g q.od=false/\q'.st.go g=q.st.go g
theorem qY.refl(q:jw):qY q q:=⟨λt h1 h2=>⟨h1,h2,rfl⟩,λt h1 h2=>⟨h1,h2,rfl⟩⟩
theorem qY.trans{a b c:jw}(h1:qY a b)(h2:qY b c):qY a c:=
 ⟨λt k1 k2=>let ⟨x1,x2,x3⟩:=h2.s t k1 k2;let ⟨y1,y2,y3⟩:=h1.s t x1 x2;⟨y1,y2,x3.trans y3⟩,
  λt k1 k2=>let ⟨x1,x2,x3⟩:=h2.o t k1 k2;let ⟨y1,y2,y3⟩:=h1.o t x1 x2;⟨y1,y2,x3.trans y3⟩⟩
theorem tZ{α:Type}(k:Nat)(v:α)(t:Nat):∀(l:List (Nat×α)),hasK t (xI k v l)=(Nat.beq t k||hasK t l)
 | []=>by simp[xI,hasK]
 |(k',v')::r=>by
  simp only[xI];cases h:Nat.beq k k' with
  |true=>have e:=Qf h;subst e;simp only[cond_true,hasK];cases Nat.beq t k<;>simp
  |false=>simp only[cond_false,hasK,tZ k v t r];cases Nat.beq t k<;>cases Nat.beq t k'<;>simp
theorem t_{α:Type}(d:α):∀(l:List (Nat×α)) (t:Nat),hasK t l=false->jl d l t=d
 | [],t,_=>rfl
 |(k,v)::r,t,h=>by simp only[hasK,UV]at h;simp only[jl,h.1,cond_false];exact t_ d r t h.2
theorem Rx(l:List (Nat×TO))(g:Nat):∀(u:List (Nat×TO)),hasK g (BQ l u)=(eY g (u.map (·.1))||hasK g l)
 | []=>rfl
 |(k,x)::u=>by simp only[BQ,tZ,Rx l g u,X2,eY,Bool.or_assoc]
theorem wH{α:Type}(g:Nat):∀{u:List (Nat×α)},eY g (u.map (·.1))=false->u.lookup g=none
 | [],_=>rfl
 |(k,x)::u,h=>by simp only[X2,eY,UV]at h;simp only[List.lookup,GL,h.1];exact wH g h.2
theorem qY.eff(q:jw)(dst:Option Tmp)(e:je):qY q (q.eff dst e):=by
 refine⟨λt h1 h2=>?_,λg h1 h2=>?_⟩
 .cases dst with
  |none=>exact⟨h1,h2,rfl⟩
  |some d=>have h2:eY t (d::q.ds)=false:=h2;have h1:hasK t (xI d e.x q.st.s)=true:=h1;simp only[eY,UV]at h2;rw[tZ,h2.1,K2]at h1;refine⟨h1,h2.2,?_⟩;show jl .no (xI d e.x q.st.s) t=jl .no q.st.s t;rw[pV,h2.1];rfl
 .have h1:hasK g (BQ q.st.o e.aB)=true:=h1;have h2:eY g (e.aB.map (·.1)++q.od)=false:=h2;rw[bI]at h2;simp only[vm,UV]at h2;rw[<-bI,<-bI]at h2;rw[Rx,h2.1,K2]at h1;refine⟨h1,h2.2,?_⟩;show jl .none (BQ q.st.o e.aB) g=jl .none q.st.o g;rw[xZ,wH g h2.1]
theorem Xb{q:jw}{t:Tmp}{a i b:Bool}(h:q.st.gs t=.v (.one (.p a i (iI b))))(u:Nat):(q.know t a i b).st.gs u=q.st.gs u:=by
 show jl .no (xI t (.v (.one (.p a i (iI b)))) q.st.s) u=jl .no q.st.s u;rw[pV];cases hb:Nat.beq u t with
 |false=>rfl
 |true=>have e:=Qf hb;subst e;exact h.symm
theorem abL{q:jw}{t:Tmp}{a i b:Bool}(h:q.st.gs t=.v (.one (.p a i (iI b))))(u:Nat):hasK u (q.know t a i b).st.s=hasK u q.st.s:=by
 show hasK u (xI t (.v (.one (.p a i (iI b)))) q.st.s)=hasK u q.st.s;rw[tZ];cases hb:Nat.beq u t with
 |false=>rfl
 |true=>
  have e:=Qf hb;subst e;cases hk:hasK u q.st.s with
  |true=>rfl
  |false=>have:=t_ TS.no q.st.s u hk;rw[iQ.gs]at h;rw[this]at h;cases h
theorem x9{q:jw}{t:Tmp}{a i b:Bool}(h:q.st.gs t=.v (.one (.p a i (iI b)))):aP (q.know t a i b).st=aP q.st:=St.ext' (λu=>by show aZ _=aZ _;rw[Xb h]) (λg=>rfl) λg=>rfl
theorem yc{q:jw}{t:Tmp}{a i b:Bool}(h:q.st.gs t=.v (.one (.p a i (iI b)))):qY q (q.know t a i b):=⟨λu h1 h2=>⟨by rw[<-abL h];exact h1,h2,Xb h u⟩,λg h1 h2=>⟨h1,h2,rfl⟩⟩
theorem Ry{q:jw}{t:Tmp}{a i:Bool}{k:IntKind}{n:Int}(h:q.st.gs t=.v (.one (.p a i (iE k n))))(u:Nat):(q.Q8 t a i k n).st.gs u=q.st.gs u:=by
 show jl .no (xI t (.v (.one (.p a i (iE k n)))) q.st.s) u=jl .no q.st.s u;rw[pV];cases hb:Nat.beq u t with
 |false=>rfl
 |true=>have e:=Qf hb;subst e;exact h.symm
theorem Zb{q:jw}{t:Tmp}{a i:Bool}{k:IntKind}{n:Int}(h:q.st.gs t=.v (.one (.p a i (iE k n))))(u:Nat):hasK u (q.Q8 t a i k n).st.s=hasK u q.st.s:=by
 show hasK u (xI t (.v (.one (.p a i (iE k n)))) q.st.s)=hasK u q.st.s;rw[tZ];cases hb:Nat.beq u t with
 |false=>rfl
 |true=>
  have e:=Qf hb;subst e;cases hk:hasK u q.st.s with
  |true=>rfl
  |false=>have:=t_ TS.no q.st.s u hk;rw[iQ.gs]at h;rw[this]at h;cases h
theorem Zc{q:jw}{t:Tmp}{a i:Bool}{k:IntKind}{n:Int}(h:q.st.gs t=.v (.one (.p a i (iE k n)))):aP (q.Q8 t a i k n).st=aP q.st:=St.ext' (λu=>by show aZ _=aZ _;rw[Ry h]) (λg=>rfl) λg=>rfl
theorem Zd{q:jw}{t:Tmp}{a i:Bool}{k:IntKind}{n:Int}(h:q.st.gs t=.v (.one (.p a i (iE k n)))):qY q (q.Q8 t a i k n):=⟨λu h1 h2=>⟨by rw[<-Zb h];exact h1,h2,Ry h u⟩,λg h1 h2=>⟨h1,h2,rfl⟩⟩
theorem Rz{R:Type}{v:Int}{k:Int->Prog R}{r:R}:∀(n m:Nat),(WI v k m n).run=some r->(k v).run=some r
 |0,_,h=>(bV h).elim
 |1,m,h=>by
  have h:ck (eqI v (Int.ofNat m)) (k (Int.ofNat m)).run=some r:=h;cases hb:eqI v (Int.ofNat m)with
  |true=>rw[hb]at h;have e:v=Int.ofNat m:=Wz hb;rw[e];exact h
  |false=>rw[hb]at h;cases h
 |n+2,m,h=>by
  have h:(bif eqI v (Int.ofNat m)then(k (Int.ofNat m)).run else(WI v k (m+1) (n+1)).run)=some r:=h;cases hb:eqI v (Int.ofNat m)with
  |true=>rw[hb]at h;have e:v=Int.ofNat m:=Wz hb;rw[e];exact h
  |false=>rw[hb]at h;exact Rz (n+1) (m+1) h
theorem abM{tt:TT}{st:iQ}{t:TypeId}{x:Operand}{j:Tmp}{a i:Bool}{k:IntKind}{v:Int}{n:Nat}(h:abo tt st t x j=some (a,i,k,v,n)):st.gs j=.v (.one (.p a i (iE k v))):=by
 have key :∀{y:TS} {m:Nat},(match y with
   |.v (.one (.p a i ⟨.int k,v⟩))=>bif Nat.ble m 4 then some (a,i,k,v,m)else none
   |_=>none)=some (a,i,k,v,n)->y=.v (.one (.p a i (iE k v))):=by
  intro y m h;split at h
  rotate_left
  cases h;cases hb:Nat.ble m 4 with
  |true=>rw[hb]at h;simp only[cond_true,Q0,QP]at h;obtain⟨rfl,rfl,rfl,rfl,rfl⟩:=h;rfl
  |false=>rw[hb]at h;cases h
 unfold abo at h;split at h
 .split at h
  .exact key h
  .exact key h
  .exact key h
  .cases h
 .cases h
theorem aeY{tt:TT}{st:iQ}{o:Oper}{t:Tmp}{a i:Bool}{k:IntKind}{v:Int}{n:Nat}(h:ais tt st o=some (t,a,i,k,v,n)):st.gs t=.v (.one (.p a i (iE k v))):=by
 unfold ais at h;split at h
 .split at h
  .rename_i r hr;cases h;exact abM hr
  .cases h
 .cases h
theorem JD{u:List Nat}:∀{gs:List Nat},zZ u gs=true->(gs.all λg=>!eY g u)=true
 | [],_=>rfl
 |g::gs,h=>by simp only[zZ,X1]at h;simp only[List.all_cons,X1];exact⟨h.1,JD h.2⟩
theorem Ae{N:Nat}:∀(dst:Option Tmp),WH N dst=true->(match dst with|some d=>decide (d<N)|none=>true)=true
 |none,_=>rfl
 |some d,h=>Wc (Wf h)
def Xc{R:Type}(q:jw)(K:jw->je->Prog R)(r:R)(e:Eff):Prop :=∃(q':jw) (te:je),e=te.er/\aP q'.st=aP q.st/\qY q q'/\(K q' te).run=some r
theorem OU{R:Type}{T:ku}{tt:TT}{ety:TypeId->Option Ty}{d:Nat}{q0 q:jw}{o:Oper}{K:jw->je->Prog R}{r:R}(he:aP q.st=aP q0.st)(hr:qY q0 q)
  (h:(Y7 T tt ety d q.st o λe=>match zZ q.st.u e.new with|true=>K q e|false=>.stuck 21).run=some r) :
  iP (lN T) tt d (aP q0.st) o λe=>(e.new.all λg=>!(aP q0.st).used g)=true/\Xc q0 K r e:=by
 have h:=abK h;rw[he]at h;refine nN ?_ h;rintro e ⟨te,rfl,h⟩;split at h
 .rename_i hf;refine⟨?_,q,te,rfl,he,hr,h⟩;rw[<-he];exact JD hf
 .exact (bV h).elim
theorem RD{R:Type}{T:ku}{tt:TT}{ety:TypeId->Option Ty}{N:Nat}{ops:Array Oper}{o:Oper}{q:jw}{K:jw->je->Prog R}{r:R}(h:(stepT T tt ety N ops o q K).run=some r):
  stepW (lN T) tt N ops o (aP q.st) (Xc q K r):=by
 unfold stepT at h;split at h;exact(bV h).elim;rename_i hd;unfold stepW;refine⟨Ae _ hd,?_⟩;split at h
 .rename_i hg;rw[hg];split at h;exact OU rfl (qY.refl q) h;rename_i t a i k v n hs;have h:=Rz _ _ h;simp only[sD]at h;have hgs:=aeY hs;exact OU (Zc hgs) (Zd hgs) h
 .rename_i j want hg;rw[hg];simp only;split at h
  .exact (bV h).elim
  .rename_i t ht;have:guardOf ops (aP q.st) j want=some false:=by
    unfold U9 at ht;split at ht
    rotate_left
    cases ht;rename_i t' ht';split at ht
    .cases ht
    .rename_i hs;simp only[guardOf,ht'];show (match aZ (q.st.gs t')with|.v (.one (.p _ _ (.bool b)))=>_|.lq []=>_|_=>_)=_;rw[hs];rfl
    .cases ht
   rw[this];exact⟨q,je.skip,rfl,rfl,qY.refl q,h⟩
  .rename_i t a i b ht;have hb:q.st.gs t=.v (.one (.p a i (iI b)))/\guardOf ops (aP q.st) j want=some (bif want then b else !b):=by
    unfold U9 at ht;split at ht
    rotate_left
    cases ht;rename_i t' ht';split at ht
    rotate_left
    cases ht;cases ht;rename_i a' i' b' hs;simp only[Q0,QP]at ht;obtain⟨rfl,rfl,rfl,rfl⟩:=ht;refine⟨hs,?_⟩;simp only[guardOf,ht'];show (match aZ (q.st.gs t')with|.v (.one (.p _ _ (.bool b)))=>_|.lq []=>_|_=>_)=_;rw[hs];rfl
   obtain⟨hgs,hgd⟩:=hb;rw[hgd];simp only;have h:(bif b then _ else _:Option R)=some r:=h;cases b with
   |true=>
    have h:(frX (q.know t a i true) λq=>bif want then _ else K q je.skip).run=some r:=h;rw[sD]at h;cases want with
    |true=>exact OU (x9 hgs) (yc hgs) h
    |false=>exact⟨_,je.skip,rfl,x9 hgs,yc hgs,h⟩
   |false=>
    have h:(frX (q.know t a i false) λq=>bif want then K q je.skip else _).run=some r:=h;rw[sD]at h;cases want with
    |true=>exact⟨_,je.skip,rfl,x9 hgs,yc hgs,h⟩
    |false=>exact OU (x9 hgs) (yc hgs) h
end
end Go.Fg

namespace Go.Fg
open Go.Fw
section
variable [dV]
theorem yg{T:Tab}{tt:TT}{N:Nat}{ops:Array Oper}{K K':St->Prop}(hK :∀st,K st->K' st):∀{is:List Nat} {st:St},vg T tt N ops is st K->vg T tt N ops is st K'
 | [],st,h=>hK st h
 |i::is,st,h=>by
  simp only[vg]at h ⊢;split at h
  .exact Jv (λe he=>yg hK he) h
  .exact h
theorem vP{T:Tab}{tt:TT}{N:Nat}{ops:Array Oper}{K K':St->List rZ->Prop}(hK :∀st fs,K st fs->K' st fs):∀{is:List Nat} {st:St} {fs:List rZ},oh T tt N ops is st fs K->oh T tt N ops is st fs K'
 | [],st,fs,h=>hK st fs h
 |i::is,st,fs,h=>by
  simp only[oh]at h ⊢;split at h
  .exact D5 (λe he=>vP hK he) h
  .exact h
end
section
variable [RE]
def OA.ok(c:OA)(b:Bool):Prop:=match c with
 |.yes=>b=true
 |.no=>b=false
 |.may e=>e=false->b=false
def RF(a:Option OA)(b:Option (Bool->Prop)):Prop:=(a=none->b=none)/\∀c,a=some c->∃p,b=some p/\∀b,p b->c.ok b
theorem RF.none:RF none none:=⟨λ_=>rfl,λ_ h=>(nomatch h)⟩
theorem RF.some{c:OA}{p:Bool->Prop}(h :∀b,p b->c.ok b):RF (some c) (some p):=⟨λh=>(nomatch h),λc' e=>⟨p,rfl,by cases e;exact h⟩⟩
theorem Ze{o:Nat->TO}{x:TS}:RF (Jf o x) (LC (bT o) (aZ x)):=by
 cases x with
 |v x=>
  cases x with
  |one x=>
   cases x with
   |p a i w=>
    obtain⟨t,x⟩:=w;cases t with
    |sl e=>
     change List (Dt e)at x;cases x with
     |nil=>exact .some λb hb h=>by simp at h
     |cons y ys=>exact .some λb hb h=>hb (by intro h;cases h)
    |_=>exact .none
   |own g=>
    cases hg:o g with
    |arr fz a i e l=>
     have hd:(bT o g).dim=some (size e,l.length):=oL (by simp only[KP,hg]);simp only[Jf,hg,aZ,jv,bQ,LC,hd];refine .some λb hb h=>hb λh'=>?_;cases l with
     |nil=>simp at h
     |cons y ys=>cases h'
    |aF a i e ah l hole=>
     have hd:(bT o g).dim=some (size e,l.length):=oL (by simp only[KP,hg]);simp only[Jf,hg,aZ,jv,bQ,LC,hd];refine .some λb hb h=>hb λh'=>?_;cases l with
     |nil=>simp at h
     |cons y ys=>cases h'
    |_=>simp only[Jf,hg,aZ,jv,bQ,LC,bT,dJ,O.dim];exact .none
   |b_=>exact .some λb hb=>hb
   |_=>exact .none
  |agg xs=>exact .none
 |_=>exact .none
theorem Zf{o:Nat->TO}{x:TS}:RF (Jg o x) (ES (bT o) (aZ x)):=by
 cases x with
 |v x=>
  cases x with
  |one x=>
   cases x with
   |p a i w=>
    obtain⟨t,x⟩:=w;cases t with
    |opq=>
     change Value at x;unfold Jg;split
     .rename_i h;cases h
     .rename_i h;cases h;exact .some λb hb=>hb
     .rename_i h1 h2;have:ES (bT o) (aZ (.v (.one (.p a i ⟨.opq,x⟩))))=Option.none:=by
       show ES (bT o) (.v (.one (.p a i (.opq x))))=Option.none;unfold ES;split
       .rename_i h;cases h
       .rename_i h;cases h;exact(h2 _ _ rfl).elim
       .rfl
      rw[this];exact .none
    |sl e=>change List (Dt e)at x;cases x<;>exact .none
    |_=>exact .none
   |box g off=>
    cases hg:o g with
    |box ws=>simp only[Jg,hg,aZ,jv,bQ,ES,nT hg];exact .some λb hb=>hb
    |_=>simp only[Jg,hg,aZ,jv,bQ,ES,bT,dJ];exact .none
   |_=>exact .none
  |agg xs=>exact .none
 |_=>exact .none
theorem Zg{o:Nat->TO}{x:TS}{k:Fw.TK}{c:Value}:RF (OC o x k c) (xC (bT o) (aZ x) k c):=by
 unfold OC;split;exact Ze;exact Zf;rename_i h1 h2;have:xC (bT o) (aZ x) k c=Option.none:=by
  unfold xC;split
  .exact (h1 _ rfl rfl).elim
  .exact (h2 rfl rfl).elim
  .rfl
 rw[this];exact .none
def abN(a:Option (Bool×OA))(b:Option (Bool×(Bool->Prop))):Prop:=(a=none->b=none)/\∀pos c,a=some (pos,c)->∃p,b=some (pos,p)/\∀b,p b->c.ok b
theorem abN.none:abN none none:=⟨λ_=>rfl,λ_ _ h=>(nomatch h)⟩
theorem aeZ{tt:TT}{st:iQ}{o:Oper}:abN (ait tt st o) (N_ tt (aP st) o):=by
 unfold ait N_;cases hgd:o.guard with
 |some g=>exact .none
 |none=>
  simp only;cases hop:o.op with
  |binOp op t x y u=>
   cases y with
   |const c=>
    simp only;cases ht:tt t with
    |none=>exact .none
    |some i=>
     simp only;have hs:=Zg (o:=st.go) (x:=st.bW x) (k:=i.k) (c:=c);rw[<-kP]at hs;change RF _ (xC (aP st).o ((aP st).bW x) i.k c)at hs;generalize OC st.go (st.bW x) i.k c=A at hs ⊢;generalize xC (aP st).o ((aP st).bW x) i.k c=B at hs ⊢;cases A with
     |none=>have:=hs.1 rfl;subst this;cases op<;>exact .none
     |some c'=>
      obtain⟨p,rfl,hp⟩:=hs.2 c' rfl;cases op<;>first
       |exact .none
       |(
         refine⟨λh=>(nomatch h),λpos c'' h=>?_⟩;cases h;exact⟨p,rfl,hp⟩)
   |_=>exact .none
  |_=>exact .none
theorem run_any{R:Type}{x y:Prog R}{r:R}(h:(Prog.any x y).run=some r):x.run=some r/\y.run=some r:=Y_ h
theorem aoM(pos b:Bool):({ x:=scalar (.bool (bif pos then b else !b)),aB:=[],new:=[] }:Eff)=(qp (bif pos then b else !b)).er:=rfl
theorem abO{st:iQ}{o:Oper}:Oa (aP st) o=(abp st o).map λx=>(x.1,P.str ⟨x.2.1.toArray⟩,P.int .i64 x.2.2):=by
 unfold Oa abp;cases o.guard with
 |some g=>rfl
 |none=>
  simp only;cases o.op with
  |next x b=>
   cases b with
   |false=>rfl
   |true=>
    simp only[kP];cases st.bW x with
    |v x=>
     cases x with
     |one x=>
      cases x with
      |mO g=>simp only[aZ,jv,bQ];have e:(aP st).o g=dJ (st.go g):=rfl;rw[e];cases st.go g<;>rfl
      |_=>rfl
     |agg xs=>rfl
    |_=>rfl
  |_=>rfl
theorem itE(g:Nat)(s:List UInt8)(n:Int):IC g (.str ⟨s.toArray⟩) (.int .i64 n)=(OD g s n).er:=rfl
theorem Zh{R:Type}{T:ku}{tt:TT}{ety:TypeId->Option Ty}{N:Nat}{ops:Array Oper}{o:Oper}{q:jw}{K:jw->je->Prog R}{r:R}(h:(Va T tt ety N ops o q K).run=some r):
  BA (lN T) tt N ops o (aP q.st) (Xc q K r):=by
 unfold Va at h;have hn:=aeZ (tt:=tt) (st:=q.st) (o:=o);split at h
 .rename_i pos c hc;obtain⟨p,hp,hok⟩:=hn.2 pos c hc;unfold BA;rw[hp];simp only;split at h;exact(bV h).elim;rename_i hd;refine⟨Ae _ hd,λb hb=>?_⟩;have hok:=hok b hb;rw[aoM];have done:(K q (qp (bif pos then b else !b))).run=some r->Xc q K r (qp (bif pos then b else !b)).er:=λh=>⟨q,_,rfl,rfl,qY.refl q,h⟩;refine done ?_;cases c with
  |yes=>have hok:b=true:=hok;subst hok;cases pos<;>exact h
  |no=>have hok:b=false:=hok;subst hok;cases pos<;>exact h
  |may e=>
   have h:(bif e then(Prog.any (K q (qp true)) (K q (qp false))).run else(K q (qp (!pos))).run)=some r:=h;cases e with
   |true=>
    obtain⟨h1,h2⟩:=run_any h;cases (bif pos then b else !b)with
    |true=>exact h1
    |false=>exact h2
   |false=>have hok:b=false:=hok rfl;subst hok;cases pos<;>exact h
 .rename_i hc;unfold BA;rw[hn.1 hc,abO];simp only;split at h
  .rename_i g s n hnx;rw[hnx];simp only[W2];split at h;exact(bV h).elim;rename_i hd;have h:(bif aeN s n then(K q (OD g s n)).run else(K q U_).run)=some r:=h;have hb:QA (.str ⟨s.toArray⟩) (.int .i64 n)=aeN s n:=by
    unfold QA aeN;have:(P.str ⟨s.toArray⟩).bytes.size=s.length:=by show s.toArray.size=_;simp
    rw[this];rfl
   rw[hb];refine⟨Ae _ hd,λe=>?_,λe=>?_⟩
   .rw [e]at h;exact⟨q,OD g s n,itE g s n,rfl,qY.refl q,h⟩
   .rw [e]at h;exact⟨q,U_,rfl,rfl,qY.refl q,h⟩
  .rename_i hnx;rw[hnx];exact RD h
theorem Xd{R:Type}{T:ku}{tt:TT}{ety:TypeId->Option Ty}{N:Nat}{ops:Array Oper}{r:R}{K:jw->Prog R}:∀{l:List Oper} {i:Nat} {q:jw},l=ops.toList.drop i->(runT T tt ety N ops l q K).run=some r->
  vg (lN T) tt N ops (List.range' i l.length) (aP q.st) λst'=>∃q':jw,st'=aP q'.st/\qY q q'/\(K q').run=some r
 | [],i,q,hl,h=>⟨q,rfl,qY.refl q,h⟩
 |o::os,i,q,hl,h=>by
  have h0:ops[i]?=some o:=by have:=ZS (·[0]?) hl;simpa using this.symm
  have h1:os=ops.toList.drop (i+1):=by have:=ZS List.tail hl;simpa using this
  simp only[K7,qu,vg,h0];refine Jv ?_ (Zh h);rintro e ⟨q',te,rfl,he,hr,h⟩;simp only[sD]at h;have ih:=Xd h1 h;rw[<-he,<-MC];refine yg ?_ ih;rintro st' ⟨q'',rfl,hr',h⟩;exact⟨q'',rfl,(hr.trans (qY.eff q' o.dst te)).trans hr',h⟩
end
end Go.Fg

namespace Go.Fg
open Go.Fw
section
variable [RE]
theorem abP{x:TS}{fn:FuncId}{caps:List W}(h:aZ x=.v (.one (.clo fn caps))):∃cs,x=.v (.one (.clo fn cs))/\caps=cs.map bQ:=by
 cases x with
 |v x=>
  cases x with
  |one x=>
   cases x with
   |clo f cs=>simp only[aZ,jv,bQ,S.v.injEq,V.one.injEq,W.clo.injEq,yH]at h;obtain⟨rfl,rfl⟩:=h;exact⟨cs,rfl,rfl⟩
   |_=>simp[aZ,jv,bQ]at h
  |agg xs=>simp[aZ,jv]at h
 |_=>simp[aZ]at h
theorem MI{o:Nat->O}{args:List TS}:∀{l:List (Nat×j_)},WJ args l=true->dW o (args.map aZ) (l.map λp=>(p.1,p.2.er))=none
 | [],h=>by cases h
 |(t,k)::rest,h=>by
  unfold WJ at h;simp only[X2,dW];split at h
  .rename_i hn;have e:(args.map aZ).getD t .no=.no:=by
    simp only[Q2,Z3]at hn ⊢;cases hz:args[t]? with
    |none=>simp
    |some z=>rw[hz]at hn;simp at hn;subst hn;rfl
   rw[e];cases k.er<;>simp[nM]
  .rename_i ys hn;have e :∃zs,(args.map aZ).getD t .no=.lq zs:=by
    simp only[Q2,Z3]at hn ⊢;cases hz:args[t]? with
    |none=>rw[hz]at hn;simp at hn
    |some z=>rw[hz]at hn;simp at hn;subst hn;exact⟨_,rfl⟩
   obtain⟨zs,e⟩:=e;rw[e];cases k.er<;>simp[nM]
  .rw [MI h];split
   .rename_i h1 h2;cases h2
   .rfl
theorem Zi{T:ku}{st:iQ}{o:Oper}{l:List Nat}(h:Vb T st o=some l):Qx (lN T) (aP st) o=l:=by
 unfold Vb at h;unfold Qx;split at h
 .rename_i f args ts hop;rw[hop];simp only;rw[kP];split at h
  .rename_i fn caps hf;rw[Xa hf];simp only;split at h
   .rename_i sp hT;have hT':pick (lN T) fn (args.toList.map (aP st).bW)=some sp.er:=by rw[Jw,hT];rfl
    rw[hT'];simp only;split at h
    .rename_i c hc;cases h;obtain⟨k1,k2⟩:=Js hc;have k1:iq sp.er.sig (aP st).o ((args.toList.map (aP st).bW)++(caps.map bQ).map λx=>S.v (.one x))=some c.er:=by rw[Jy];exact k1
     rw[k1];rfl
    .obtain ⟨hm,h⟩:=bM h;cases h;have k1:iq sp.er.sig (aP st).o ((args.toList.map (aP st).bW)++(caps.map bQ).map λx=>S.v (.one x))=none:=by rw[Jy];unfold iq;have e:dW (aP st).o (List.map aZ (List.map st.bW args.toList++List.map (λx=>TS.v (TV.one x)) caps)) sp.er.sig.pin.slots=none:=MI hm;rw[e]
     rw[k1]
   .rename_i hT;cases h;have hT':pick (lN T) fn (args.toList.map (aP st).bW)=none:=by rw[Jw,hT];rfl
    rw[hT']
  .rename_i hno;cases h;split
   .rename_i fn caps hf;obtain⟨cs,hx,_⟩:=abP hf;exact(hno _ _ hx).elim
   .rfl
 .rename_i hno;cases h;split
  .rename_i f args ts hop;exact(hno _ _ _ hop).elim
  .rfl
theorem Zj{T:ku}{st:iQ}{o:Oper}{l:List Nat}(h:Vd T st o=some l):Bz (lN T) (aP st) o=l:=by
 unfold Vd at h;split at h
 rotate_left
 cases h;rename_i r hr;cases h;unfold Bz;rw[Zi hr];congr 1;congr 1;refine fE λx _=>?_;rw[kP,<-vO];refine fE λg _=>?_;have:((aP st).o g).hn=iF (st.go g):=by
  show (dJ (st.go g)).hn=_;cases st.go g with
  |aF a i e ah l hole=>cases hole<;>rfl
  |_=>rfl
 rw[this]
theorem abQ{T:ku}{st:iQ}{o:Oper}{l:List Nat}(h:abq T st o=some l):rY (lN T) (aP st) o=l:=by
 unfold abq at h;split at h
 rotate_left
 cases h;rename_i st1 h1;split at h
 rotate_left
 cases h;rename_i l' h2;cases h;unfold rY;rw[JC,<-yM h1,Zj h2,JB];congr 1;refine fE λg _=>?_;have:((aP st).o g).hn=iF (st.go g):=D6 _;rw[this]
theorem JE(l:List (Nat×TO)):(gZ l).map (·.1)=l.map (·.1):=by simp only[gZ,Uv];rfl
theorem Zk(x y:TW):aaK (bQ x) (bQ y)=abr x y:=by cases x<;>cases y<;>rfl
theorem MJ(g:Nat):∀(j:Nat) (xs ys:List TW),BD g j (xs.map bQ) (ys.map bQ)=DY g j xs ys
 |_,[],[]=>rfl
 |_,[],y::ys=>rfl
 |_,x::xs,[]=>rfl
 |j,x::xs,y::ys=>by simp only[X2,BD,DY,MJ g (j+1) xs ys,Zk];cases DY g (j+1) xs ys<;>rfl
theorem Zl(g:Nat)(x:TO)(y:Option TO):QB g (dJ x) (y.map dJ)=Ve g x y:=by
 cases x with
 |box ws=>
  cases y with
  |none=>rfl
  |some y=>
   cases y with
   |box ws'=>simp only[dJ,W2,QB,Ve,MJ];cases DY g 0 ws ws'<;>rfl
   |_=>rfl
 |_=>cases y<;>rfl
theorem yh(g:Nat):∀(l:List (Nat×TO)),(gZ l).lookup g=(l.lookup g).map dJ
 | []=>rfl
 |(k,x)::r=>by
  show (List.lookup g ((k,dJ x)::gZ r))=_;simp only[List.lookup];cases hb:g==k with
  |true=>rfl
  |false=>exact yh g r
theorem Zm{g:Nat}(x:TO)(y:Option TO):keepR g (dJ x) (y.map dJ)=abt g x y:=by
 cases x<;>cases y<;>first|rfl|skip
 all_goals
  rename_i y;cases y<;>rfl
theorem aiC{st:iQ}{o:Oper}{e:je}:Ob (aP st) o e.er=kpT st o e.aB:=by
 unfold Ob kpT;congr 1
 .have:(λx=>((aP st).bW x).names)=λx=>S.namesT (st.bW x):=by funext x;rw[kP];exact(vO _).symm
  rw[this]
 .show ((gZ e.aB).map (·.1)).flatMap _=_;rw[JE];refine fE λg _=>?_;show QB g (dJ (st.go g)) ((gZ e.aB).lookup g)++(bif IE o.op then keepR g (dJ (st.go g)) ((gZ e.aB).lookup g)else[])=_;rw[yh,Zl,Zm]
theorem abR(x:TO):kindOf (dJ x)=abu x:=by cases x<;>rfl
theorem uf{α β:Type}{f g:α->Option β}:∀{l:List α},(∀x∈l,f x=g x)->l.filterMap f=l.filterMap g
 | [],_=>rfl
 |x::l,h=>by have ih:l.filterMap f=l.filterMap g:=uf λy hy=>h y (WK _ hy);simp only[List.filterMap_cons,h x (by simp),ih]
theorem aiD{st:iQ}{e:je}:UD (aP st) e.er=kdT st e.aB:=by
 unfold UD kdT;show ((gZ e.aB).map (·.1)).filterMap _=_;rw[JE];refine uf λg _=>?_;show (match (gZ e.aB).lookup g with
  |some x=>bif Nat.beq (kindOf x) (kindOf (dJ (st.go g)))then some g else none
  |none=>none)=_
 rw[yh];cases e.aB.lookup g with
 |none=>rfl
 |some x=>simp only[W2,abR]
theorem aiE{tt:TT}{st:iQ}{o:Oper}:KL tt (aP st) o=ldT tt st o:=by
 unfold KL ldT;cases o.op with
 |load t x=>
  simp only[kP];cases tt t with
  |none=>rfl
  |some i=>
   cases st.bW x with
   |v x=>
    cases x with
    |one x=>
     cases x with
     |ep g n off=>
      show (match dJ (st.go g)with
       |.aF _ _ _ ah _ _=>bif(iL ah off i.size).isEmpty then some (g,5000000,1)else none
       |_=>none)=_
      cases hg:st.go g<;>simp only[dJ,hg]
     |_=>rfl
    |agg xs=>rfl
   |_=>rfl
 |_=>rfl
theorem RG{R:Type}{T:ku}{tt:TT}{ety:TypeId->Option Ty}{N:Nat}{ops:Array Oper}{r:R}{K:jw->List rZ->Prog R}:∀{l:List Oper} {i:Nat} {q:jw} {fs:List rZ},l=ops.toList.drop i->(runNT T tt ety N ops l q fs K).run=some r->
  oh (lN T) tt N ops (List.range' i l.length) (aP q.st) fs λst' fs'=>∃q':jw,st'=aP q'.st/\qY q q'/\(K q' fs').run=some r
 | [],i,q,fs,hl,h=>⟨q,rfl,qY.refl q,h⟩
 |o::os,i,q,fs,hl,h=>by
  have h0:ops[i]?=some o:=by have:=ZS (·[0]?) hl;simpa using this.symm
  have h1:os=ops.toList.drop (i+1):=by have:=ZS List.tail hl;simpa using this
  simp only[K7,qu,oh,h0];unfold runNT at h;split at h;exact(bV h).elim;rename_i rd hrd;refine D5 ?_ (RD h);rintro e ⟨q',te,rfl,he,hr,h⟩;simp only[sD,aiB]at h;have ih:=RG h1 h;rw[<-aiE,<-aiC,<-aiD,<-he]at ih;rw[abQ hrd,<-he,<-MC];have e1:te.er.aB.map (·.1)=te.aB.map (·.1):=JE te.aB;have e2:te.er.new=te.new:=rfl;rw[e1,e2];refine vP ?_ ih;rintro st' fs' ⟨q'',rfl,hr',h⟩;exact⟨q'',rfl,(hr.trans (qY.eff q' o.dst te)).trans hr',h⟩
theorem JG{R:Type}{T:ku}{tt:TT}{ety:TypeId->Option Ty}{N:Nat}{ops:Array Oper}{draw:Bool}{r:R}{K:jw->Prog R}{q:jw}{Kp:St->Prop}(h:(vH T tt ety N ops draw q K).run=some r)
  (hK :∀q',qY q q'->(K q').run=some r->Kp (aP q'.st)):qU (lN T) tt N ops draw (aP q.st) Kp:=by
 unfold vH at h;unfold qU;cases draw with
 |false=>have:=Xd (i:=0) (by simp) h;rw[<-vi,Array.length_toList]at this;refine yg ?_ this;rintro st' ⟨q',rfl,hr,h⟩;exact hK q' hr h
 |true=>
  have:=RG (i:=0) (by simp) h;rw[<-vi,Array.length_toList]at this;refine vP ?_ this;rintro st' fs ⟨q',rfl,hr,h⟩;split at h
  .rename_i hf;exact⟨hf,hK q' hr h⟩
  .exact (bV h).elim
theorem abS{A R:Type}{x:Prog A}{k:A->Prog R}{r:R}(h:(Prog.join x k).run=some r):∃a,x.run=some a/\(k a).run=some r:=by
 have h:x.run.bind (λz=>(k z).run)=some r:=h;cases hx:x.run with
 |none=>rw[hx]at h;cases h
 |some a=>rw[hx]at h;exact⟨a,rfl,h⟩
theorem Zn{A R:Type}{x:Prog (A ⊕ R)}{k:A->Prog R}{r:R}(h:(Prog.LW x k).run=some r):(∃a,x.run=some (.inl a)/\(k a).run=some r)\/x.run=some (.inr r):=by
 have h:dY x.run (λz=>(k z).run)=some r:=h;cases hx:x.run with
 |none=>rw[hx]at h;cases h
 |some a=>
  rw[hx]at h;cases a with
  |inl a=>exact .inl ⟨a,rfl,h⟩
  |inr r'=>have h:some r'=some r:=h;cases h;exact .inr rfl
theorem qx{A R:Type}{body:A->Option (A ⊕ R)}:∀{n m:Nat} {a:A} {r:R},n<=m->iD body n a=some r->iD body m a=some r
 |0,m,a,r,_,h=>by cases h
 |n+1,0,a,r,hm,h=>by omega
 |n+1,m+1,a,r,hm,h=>by
  simp only[iD]at h ⊢;cases hb:body a with
  |none=>rw[hb]at h;cases h
  |some v=>
   rw[hb]at h;cases v with
   |inl a'=>exact qx (n:=n) (by omega) h
   |inr r'=>exact h
theorem nY{A R:Type}(body:A->Option (A ⊕ R))(a:A):aT body a=open Classical in if h :∃n r,iD body n a=some r then iD body (Classical.choose h) a else none:=by
 unfold aT;split
 .rename_i r h;have hex :∃n r,iD body n a=some r:=⟨_,r,h⟩;obtain⟨r',h'⟩:=zd hex;rw[dif_pos hex,h'];rcases Nat.le_total 1000000 (Classical.choose hex)with hle|hle
  .exact (qx hle h).symm.trans h'
  .exact h.symm.trans (qx hle h')
 .rfl
theorem JH{A R:Type}{body:A->Option (A ⊕ R)}{a:A}{r:R}(h:aT body a=some r):∃n,iD body n a=some r:=by
 rw[nY]at h;split at h
 .exact ⟨_,h⟩
 .cases h
theorem abT{A R:Type}{a:A}{body:A->Prog (A ⊕ R)}{r:R}(h:(Prog.loop a body).run=some r):∃n,iD (λz=>(body z).run) n a=some r:=JH h
theorem ug{A R:Type}{body:A->Option (A ⊕ R)}{n:Nat}{a:A}{r:R}(h:iD body n a=some r):aT body a=some r:=by
 have hex :∃n r,iD body n a=some r:=⟨n,r,h⟩;rw[nY];rw[dif_pos hex];obtain⟨r',h'⟩:=zd hex;rw[h'];rcases Nat.le_total n (Classical.choose hex)with hle|hle
 .have:=qx hle h;rw[this]at h';exact h'.symm
 .have:=qx hle h';rw[this]at h;exact h
theorem Af{A R:Type}(body:A->Option (A ⊕ R))(a:A):aT body a=(body a).bind λ
  |.inl a'=>aT body a'
  |.inr r=>some r:=by
 cases hb:body a with
 |none=>
  have:¬∃n r,iD body n a=some r:=by
   rintro ⟨n,r,h⟩;cases n with
   |zero=>cases h
   |succ n=>simp only[iD,hb]at h;cases h
  rw[nY];rw[dif_neg this];rfl
 |some v=>
  cases v with
  |inr r=>exact ug (n:=1) (by simp only[iD,hb];rfl)
  |inl a'=>
   show aT body a=aT body a';by_cases hex :∃n r,iD body n a'=some r
   .obtain ⟨n,r,hn⟩:=hex;rw[ug hn];exact ug (n:=n+1) (by simp only[iD,hb];exact hn)
   .have hex':¬∃n r,iD body n a=some r:=by
     rintro ⟨n,r,h⟩;cases n with
     |zero=>cases h
     |succ n=>simp only[iD,hb]at h;exact hex ⟨n,r,h⟩
    rw[nY,nY];rw[dif_neg hex,dif_neg hex']
theorem Xe{A R R':Type}{f:R->R'}(hf :∀a b,f a=f b->a=b):∀a b:A ⊕ R,Sum.map id f a=Sum.map id f b->a=b
 |.inl a,.inl b,h=>by cases h;rfl
 |.inl a,.inr b,h=>by cases h
 |.inr a,.inl b,h=>by cases h
 |.inr a,.inr b,h=>by have h:(Sum.inr (f a):A ⊕ R')=.inr (f b):=h;simp only[Sum.inr.injEq]at h;rw[hf _ _ h]
theorem run_map{R R':Type}(f:R->R')(hf :∀a b,f a=f b->a=b)(p:Prog R):(p.map f).run=p.run.map f:=by
 induction p generalizing R' with
 |ret r=>rfl
 |stuck n=>rfl
 |cond b x y Wu ihy=>show (bif b then(x.map f).run else(y.map f).run)=(bif b then x.run else y.run).map f;rw[Wu f hf,ihy f hf];cases b<;>rfl
 |chk b x ih=>show ck b (x.map f).run=(ck b x.run).map f;rw[ih f hf];cases b<;>rfl
 |any x y Wu ihy=>
  show both (x.map f).run (y.map f).run=(both x.run y.run).map f;rw[Wu f hf,ihy f hf];unfold both;by_cases e:x.run=y.run
  .rw [Qt e,Qt (by rw[e])]
  .rw [QR e,QR];rfl;intro h;apply e;cases hx:x.run with
   |none=>
    cases hy:y.run with
    |none=>rfl
    |some b=>rw[hx,hy]at h;cases h
   |some a=>
    cases hy:y.run with
    |none=>rw[hx,hy]at h;cases h
    |some b=>rw[hx,hy]at h;simp only[W2,Q0]at h;rw[hf a b h]
 |let_ x k ih=>exact ih x f hf
 |join x k Wu ihk=>
  show x.run.bind (λz=>((k z).map f).run)=(x.run.bind λz=>(k z).run).map f;cases x.run with
  |none=>rfl
  |some a=>exact ihk a f hf
 |LW x k Wu ihk=>
  show dY (x.map (Sum.map id f)).run (λz=>((k z).map f).run)=(dY x.run λz=>(k z).run).map f;rw[Wu _ (Xe hf)];cases x.run with
  |none=>rfl
  |some a=>
   cases a with
   |inl a=>exact ihk a f hf
   |inr r=>rfl
 |loop a body ih=>
  show aT (λz=>((body z).map (Sum.map id f)).run) a=(aT (λz=>(body z).run) a).map f;have e:(λz=>((body z).map (Sum.map id f)).run)=λz=>(body z).run.map (Sum.map id f):=funext λz=>ih z _ (Xe hf);rw[e];have key :∀n a,iD (λz=>(body z).run.map (Sum.map id f)) n a=(iD (λz=>(body z).run) n a).map f:=by
   intro n
   induction n with
   |zero=>intro a;rfl
   |succ n ihn=>
    intro a;simp only[iD];cases (body a).run with
    |none=>rfl
    |some v=>
     cases v with
     |inl a'=>exact ihn a'
     |inr r=>rfl
  have hiff:(∃n r,iD (λz=>(body z).run.map (Sum.map id f)) n a=some r)↔∃n r,iD (λz=>(body z).run) n a=some r:=by
   constructor
   .rintro ⟨n,r,h⟩;rw[key]at h;cases hx:iD (λz=>(body z).run) n a with
    |none=>rw[hx]at h;cases h
    |some r'=>exact⟨n,r',hx⟩
   .rintro ⟨n,r,h⟩;exact⟨n,f r,by rw[key,h];rfl⟩
  by_cases hex :∃n r,iD (λz=>(body z).run) n a=some r
  .obtain ⟨n,r,hn⟩:=hex;have u1:=ug hn;have u2:iD (λz=>(body z).run.map (Sum.map id f)) n a=some (f r):=by rw[key,hn];rfl
   rw[u1,ug u2];rfl
  .have hex':=λh=>hex (hiff.1 h);rw[nY,nY];rw[dif_neg hex,dif_neg hex'];rfl
 |call n g a k ih=>
  show (g a).bind (λz=>((k z).map f).run)=((g a).bind λz=>(k z).run).map f;cases g a with
  |none=>rfl
  |some y=>exact ih y f hf
end
end Go.Fg

namespace Go.Fg
open Go.Fw
section
variable [RE] {m:Ren}
theorem zo:∀{caps:List TW} {gs:List Nat},BU caps=some gs->DT gs=caps
 | [],gs,h=>by simp only[BU,Q0]at h;subst h;rfl
 |c::cs,gs,h=>by
  cases c with
  |box g off=>
   unfold BU at h;obtain⟨hb,h⟩:=bM h;have hb:=Qf hb;subst hb;split at h
   .rename_i gs' hg;cases h;simp only[DT,zo hg]
   .cases h
  |_=>cases h
theorem Xf{x:TW}{k:jI}{u u':List Wd}(h:Q_ x=some (k,u))(hc:DU m k x=some u'):u'=u/\u.length=k.tys.length:=by
 cases x<;>try simp only[Q_,Q0,QP,reduceCtorEq]at h
 case p a i w=>
  obtain⟨rfl,rfl⟩:=h;simp only[DU]at hc;split at hc
  .obtain ⟨_,rfl⟩:=Cb hc;exact⟨rfl,rfl⟩
  .cases hc
 case b_=>obtain⟨rfl,rfl⟩:=h;simp only[DU,Q0]at hc;subst hc;exact⟨rfl,rfl⟩
 case own g=>
  obtain⟨rfl,rfl⟩:=h;simp only[DU]at hc;split at hc
  .cases hc;exact⟨rfl,rfl⟩
  .cases hc
 case box g off=>
  obtain⟨rfl,rfl⟩:=h;simp only[DU]at hc;split at hc
  .cases hc;exact⟨rfl,rfl⟩
  .cases hc
 case clo f caps=>
  split at h
  .cases h;simp only[DU]at hc;obtain⟨_,rfl⟩:=Cb hc;exact⟨rfl,rfl⟩
  .cases h
 case vw g lo hi=>
  obtain⟨rfl,rfl⟩:=h;simp only[DU]at hc;split at hc
  .cases hc;exact⟨rfl,rfl⟩
  .cases hc
 case ep g n off=>
  obtain⟨rfl,rfl⟩:=h;simp only[DU]at hc;split at hc
  .cases hc;exact⟨rfl,rfl⟩
  .cases hc
 case mO g=>
  obtain⟨rfl,rfl⟩:=h;simp only[DU]at hc;split at hc
  .cases hc;exact⟨rfl,rfl⟩
  .cases hc
theorem JI:∀{xs:List TW} {ks:List jI} {u u':List Wd},wF xs=some (ks,u)->xP m ks xs=some u'->u'=u/\u.length=(ks.flatMap jI.tys).length
 | [],ks,u,u',h,hc=>by simp only[wF,Q0,QP]at h;obtain⟨rfl,rfl⟩:=h;simp only[xP,Q0]at hc;subst hc;exact⟨rfl,rfl⟩
 |x::xs,ks,u,u',h,hc=>by
  simp only[wF]at h;split at h
  rotate_left
  cases h;rename_i h1 h2;cases h;simp only[xP]at hc;split at hc
  .rename_i h3 h4;cases hc;obtain⟨rfl,e1⟩:=Xf h1 h3;obtain⟨rfl,e2⟩:=JI h2 h4;exact⟨rfl,by simp only[Z0,W0,e1,e2]⟩
  .cases hc
theorem ae0{x:TS}{k:j_}{u u':List Wd}(h:OE x=some (k,u))(hc:aeJ m k x=some u'):u'=u/\u.length=k.tys.length:=by
 unfold OE at h;split at h
 .split at h
  .rename_i h1;cases h;exact Xf h1 hc
  .cases h
 .split at h
  .rename_i h1;cases h;exact JI h1 hc
  .cases h
 .cases h
theorem ae1{x:TO}{k:g_}{u u':List Wd}(h:wP x=some (k,u))(hc:U6 m k x=some u'):u'=u/\u.length=k.tys.length:=by
 cases x with
 |none=>cases h
 |box ws=>
  simp only[wP]at h;split at h
  .rename_i h1;cases h;exact JI h1 hc
  .cases h
 |arr fz a i e l=>
  simp only[wP,Q0,QP]at h;obtain⟨rfl,rfl⟩:=h;simp only[U6]at hc;split at hc
  .rename_i l' hl;split at hc
   .cases hc;have:=gu hl;exact⟨ZS (λw=>[w]) this.symm,rfl⟩
   .cases hc
  .cases hc
 |it s n=>simp only[wP,Q0,QP]at h;obtain⟨rfl,rfl⟩:=h;simp only[U6,Q0]at hc;exact⟨hc.symm,rfl⟩
 |aF a i e ah l hole=>
  simp only[wP]at h;split at h
  rotate_left
  cases h;cases h;simp only[U6]at hc;split at hc
  .rename_i l' hl _;split at hc
   .cases hc;have:=gu hl;exact⟨ZS (λw=>[w]) this.symm,rfl⟩
   .cases hc
  .cases hc
theorem Xg{x:TW}{k:jI}{u vs:List Wd}{n:Nat}(h:Q_ x=some (k,u))(ha :∀(j:Nat) w,u[j]?=some w->vs[n+j]?=some w):(zY vs n k).1=x/\u.length=k.tys.length:=by
 cases x<;>try simp only[Q_,Q0,QP,reduceCtorEq]at h
 case p a i w=>obtain⟨rfl,rfl⟩:=h;have:=ha 0 w rfl;refine⟨?_,rfl⟩;show TW.p a i (vs.getD n zX)=.p a i w;rw[Q2,show vs[n]?=some w from this];rfl
 case vw g lo hi=>
  obtain⟨rfl,rfl⟩:=h;refine⟨?_,rfl⟩;have h0:=ha 0 (iE .i64 lo) rfl;have h1:=ha 1 (iE .i64 hi) rfl;have e0:vs.getD n zX=iE .i64 lo:=by rw[Q2,show vs[n]?=some (iE .i64 lo) from h0];rfl
  have e1:vs.getD (n+1) zX=iE .i64 hi:=by rw[Q2,show vs[n+1]?=some (iE .i64 hi) from h1];rfl
  show TW.vw g ((vs.getD n zX).as (.int .i64)) ((vs.getD (n+1) zX).as (.int .i64))=.vw g lo hi;rw[e0,e1];have a0:TP.as (.int .i64) (iE .i64 lo)=lo:=qV (.int .i64) lo;have a1:TP.as (.int .i64) (iE .i64 hi)=hi:=qV (.int .i64) hi;rw[a0,a1]
 case ep g q off=>
  obtain⟨rfl,rfl⟩:=h;refine⟨?_,rfl⟩;have h0:=ha 0 (iE .i64 q) rfl;have e0:vs.getD n zX=iE .i64 q:=by rw[Q2,show vs[n]?=some (iE .i64 q) from h0];rfl
  show TW.ep g ((vs.getD n zX).as (.int .i64)) off=.ep g q off;rw[e0];have a0:TP.as (.int .i64) (iE .i64 q)=q:=qV (.int .i64) q;rw[a0]
 case clo f caps=>
  split at h
  .rename_i gs hgs;cases h;exact⟨by simp only[zY,zo hgs],rfl⟩
  .cases h
 all_goals (obtain⟨rfl,rfl⟩:=h;exact⟨rfl,rfl⟩)
theorem ae2{α:Type}{vs a b:List α}{n:Nat}(h :∀(j:Nat) w,(a++b)[j]?=some w->vs[n+j]?=some w):∀(j:Nat) w,a[j]?=some w->vs[n+j]?=some w:=λj w hw=>h j w (by rw[Wt (Q4.1 hw).1];exact hw)
theorem abU{α:Type}{vs a b:List α}{n:Nat}(h :∀(j:Nat) w,(a++b)[j]?=some w->vs[n+j]?=some w):∀(j:Nat) w,b[j]?=some w->vs[n+a.length+j]?=some w:=λj w hw=>by rw[JP];exact h (a.length+j) w (by rw[Wg (by omega)];simpa using hw)
theorem JJ:∀{xs:List TW} {ks:List jI} {u vs:List Wd} {n:Nat},wF xs=some (ks,u)->(∀(j:Nat) w,u[j]?=some w->vs[n+j]?=some w)->(tN vs n ks).1=xs/\u.length=(ks.flatMap jI.tys).length
 | [],ks,u,vs,n,h,ha=>by simp only[wF,Q0,QP]at h;obtain⟨rfl,rfl⟩:=h;exact⟨rfl,rfl⟩
 |x::xs,ks,u,vs,n,h,ha=>by
  simp only[wF]at h;split at h
  rotate_left
  cases h;rename_i k1 u1 ks1 us1 h1 h2;cases h;obtain⟨a1,a2⟩:=Xg h1 (ae2 ha);obtain⟨b1,b2⟩:=JJ (n:=n+u1.length) h2 (abU ha);refine⟨?_,by simp only[Z0,W0,a2,b2]⟩;simp only[tN,a1,BZ];rw[<-a2,b1]
theorem ae3{x:TS}{k:j_}{u vs:List Wd}{n:Nat}(h:OE x=some (k,u))(ha :∀(j:Nat) w,u[j]?=some w->vs[n+j]?=some w):(Gn vs n k).1=x/\u.length=k.tys.length:=by
 unfold OE at h;split at h
 .split at h
  .rename_i h1;cases h;obtain⟨a1,a2⟩:=Xg h1 ha;exact⟨by simp only[Gn,a1],a2⟩
  .cases h
 .split at h
  .rename_i h1;cases h;obtain⟨a1,a2⟩:=JJ h1 ha;exact⟨by simp only[Gn,a1],a2⟩
  .cases h
 .cases h
theorem ae4{x:TO}{k:g_}{u vs:List Wd}{n:Nat}(h:wP x=some (k,u))(ha :∀(j:Nat) w,u[j]?=some w->vs[n+j]?=some w):(DV vs n k).1=x/\u.length=k.tys.length:=by
 cases x with
 |none=>cases h
 |box ws=>
  simp only[wP]at h;split at h
  .rename_i h1;cases h;obtain⟨a1,a2⟩:=JJ h1 ha;exact⟨by simp only[DV,a1],a2⟩
  .cases h
 |arr fz a i e l=>
  simp only[wP,Q0,QP]at h;obtain⟨rfl,rfl⟩:=h;refine⟨?_,rfl⟩;have:=ha 0 (tq e l) rfl;have e1:vs.getD n zX=tq e l:=by rw[Q2,show vs[n]?=some (tq e l) from this];rfl
  show TO.arr fz a i e ((vs.getD n zX).as (.sl e))=.arr fz a i e l;rw[e1];congr 1;exact qV (.sl e) l
 |it s p=>
  simp only[wP,Q0,QP]at h;obtain⟨rfl,rfl⟩:=h;refine⟨?_,rfl⟩;have h0:=ha 0 (QL s) rfl;have h1:=ha 1 (iE .i64 p) rfl;have e0:vs.getD n zX=QL s:=by rw[Q2,show vs[n]?=some (QL s) from h0];rfl
  have e1:vs.getD (n+1) zX=iE .i64 p:=by rw[Q2,show vs[n+1]?=some (iE .i64 p) from h1];rfl
  show TO.it ((vs.getD n zX).as .str) ((vs.getD (n+1) zX).as (.int .i64))=.it s p;rw[e0,e1];have a0:TP.as .str (QL s)=s:=qV .str s;have a1:TP.as (.int .i64) (iE .i64 p)=p:=qV (.int .i64) p;rw[a0,a1]
 |aF a i e ah l hole=>
  simp only[wP]at h;split at h
  rotate_left
  cases h;cases h;refine⟨?_,rfl⟩;have:=ha 0 (tq e l) rfl;have e1:vs.getD n zX=tq e l:=by rw[Q2,show vs[n]?=some (tq e l) from this];rfl
  show TO.aF a i e ah ((vs.getD n zX).as (.sl e)) none=.aF a i e ah l none;rw[e1];congr 1;exact qV (.sl e) l
theorem Xh{x:TW}{k:jI}{u:List Wd}(h:Q_ x=some (k,u)):u.map (·.t)=k.tys:=by
 cases x<;>try simp only[Q_,Q0,QP,reduceCtorEq]at h
 case clo f caps=>
  split at h
  .cases h;rfl
  .cases h
 all_goals (obtain⟨rfl,rfl⟩:=h;rfl)
theorem JK:∀{xs:List TW} {ks:List jI} {u:List Wd},wF xs=some (ks,u)->u.map (·.t)=ks.flatMap jI.tys
 | [],ks,u,h=>by simp only[wF,Q0,QP]at h;obtain⟨rfl,rfl⟩:=h;rfl
 |x::xs,ks,u,h=>by
  simp only[wF]at h;split at h
  .rename_i h1 h2;cases h;simp only[Z6,W0,Xh h1,JK h2]
  .cases h
theorem Xi{x:TS}{k:j_}{u:List Wd}(h:OE x=some (k,u)):u.map (·.t)=k.tys:=by
 unfold OE at h;split at h
 .split at h
  .rename_i h1;cases h;exact Xh h1
  .cases h
 .split at h
  .rename_i h1;cases h;exact JK h1
  .cases h
 .cases h
theorem ae5{x:TO}{k:g_}{u:List Wd}(h:wP x=some (k,u)):u.map (·.t)=k.tys:=by
 cases x with
 |none=>cases h
 |box ws=>
  simp only[wP]at h;split at h
  .rename_i h1;cases h;exact JK h1
  .cases h
 |arr fz a i e l=>simp only[wP,Q0,QP]at h;obtain⟨rfl,rfl⟩:=h;rfl
 |it s n=>simp only[wP,Q0,QP]at h;obtain⟨rfl,rfl⟩:=h;rfl
 |aF a i e ah l hole=>
  simp only[wP]at h;split at h
  .cases h;rfl
  .cases h
def RH(s:Nat->TS)(l:List (Nat×j_×Option (List Wd))):Prop :=∀t k u,(t,k,some u)∈l->OE (s t)=some (k,u)
def Xj(s:Nat->TO)(l:List (Nat×g_×Option (List Wd))):Prop :=∀t k u,(t,k,some u)∈l->wP (s t)=some (k,u)
theorem yj{s:Nat->TS}:∀{l:List (Nat×Md)} {r:List (Nat×j_×Option (List Wd))},z_ s l=some r->RH s r
 | [],r,h=>by simp only[z_,Q0]at h;subst h;intro t k u hm;cases hm
 |(t,.keep)::l,r,h=>by
  simp only[z_]at h;split at h
  .rename_i h1 h2;cases h;intro t' k u hm;rcases Xs.1 hm with hm|hm
   .cases hm;exact h1
   .exact yj h2 t' k u hm
  .cases h
 |(t,.sl k0)::l,r,h=>by
  simp only[z_]at h;split at h
  .rename_i h2;cases h;intro t' k u hm;rcases Xs.1 hm with hm|hm
   .cases hm
   .exact yj h2 t' k u hm
  .cases h
theorem Ag{s:Nat->TO}:∀{l:List (Nat×Mo)} {r:List (Nat×g_×Option (List Wd))},Jh s l=some r->Xj s r
 | [],r,h=>by simp only[Jh,Q0]at h;subst h;intro t k u hm;cases hm
 |(t,.keep)::l,r,h=>by
  simp only[Jh]at h;split at h
  .rename_i h1 h2;cases h;intro t' k u hm;rcases Xs.1 hm with hm|hm
   .cases hm;exact h1
   .exact Ag h2 t' k u hm
  .cases h
 |(t,.ob k0)::l,r,h=>by
  simp only[Jh]at h;split at h
  .rename_i h2;cases h;intro t' k u hm;rcases Xs.1 hm with hm|hm
   .cases hm
   .exact Ag h2 t' k u hm
  .cases h
theorem Cj{s s':Nat->TS}:∀{l:List (Nat×j_×Option (List Wd))} {us rest kT:List Wd},RH s l->(∀t k u,(t,k,some u)∈l->s' t=s t)->ng m s' (l.map λp=>(p.1,p.2.1))=some us->
  ∃e,OG l (us++rest)=(e,rest)/\lM l (e++kT)=(us,kT)/\e.map (·.t)=jq l
 | [],us,rest,kT,hk,hs,h=>by simp only[Kb,ng,Q0]at h;subst h;exact⟨[],rfl,rfl,rfl⟩
 |(t,k,some u)::l,us,rest,kT,hk,hs,h=>by
  simp only[X2,ng]at h;split at h
  rotate_left
  cases h;rename_i u1 v h1 h2;cases h;rw[hs t k u (by simp)]at h1;obtain⟨rfl,hl⟩:=ae0 (hk t k u (by simp)) h1;obtain⟨e,e1,e2,e3⟩:=Cj (rest:=rest) (kT:=kT) (λt k u hm=>hk t k u (by simp[hm])) (λt k u hm=>hs t k u (by simp[hm])) h2;refine⟨e,?_,?_,by simp only[jq,e3]⟩
  .simp only[OG,Wm,UP,e1]
  .simp only[lM,e2]
 |(t,k,none)::l,us,rest,kT,hk,hs,h=>by
  simp only[X2,ng]at h;split at h
  rotate_left
  cases h;rename_i u1 v h1 h2;cases h;have hty:=(WW h1).2;have hl:u1.length=k.tys.length:=by rw[<-hty,W5]
  obtain⟨e,e1,e2,e3⟩:=Cj (rest:=rest) (kT:=kT) (λt k u hm=>hk t k u (by simp[hm])) (λt k u hm=>hs t k u (by simp[hm])) h2;refine⟨u1++e,?_,?_,by simp only[Z6,hty,jq,e3]⟩
  .simp only[OG,Wm,<-hl,Kg,UP,e1]
  .simp only[lM,Wm,<-hl,Kg,UP,e2]
theorem Cm{s s':Nat->TO}:∀{l:List (Nat×g_×Option (List Wd))} {us rest kT:List Wd},Xj s l->(∀t k u,(t,k,some u)∈l->s' t=s t/\m.lookup t=some (some t))->pF m s' (l.map λp=>(p.1,p.2.1))=some us->
  ∃e,Rf l (us++rest)=(e,rest)/\qw l (e++kT)=(us,kT)/\e.map (·.t)=oO l
 | [],us,rest,kT,hk,hs,h=>by simp only[Kb,pF,Q0]at h;subst h;exact⟨[],rfl,rfl,rfl⟩
 |(t,k,some u)::l,us,rest,kT,hk,hs,h=>by
  simp only[X2,pF]at h;split at h
  rotate_left
  cases h;rename_i u1 v h1 h2;cases h;obtain⟨hs1,hm1⟩:=hs t k u (by simp);rw[hm1]at h1;simp only at h1;rw[hs1]at h1;obtain⟨rfl,hl⟩:=ae1 (hk t k u (by simp)) h1;obtain⟨e,e1,e2,e3⟩:=Cm (rest:=rest) (kT:=kT) (λt k u hm=>hk t k u (by simp[hm])) (λt k u hm=>hs t k u (by simp[hm])) h2;refine⟨e,?_,?_,by simp only[oO,e3]⟩
  .simp only[Rf,Wm,UP,e1]
  .simp only[qw,e2]
 |(t,k,none)::l,us,rest,kT,hk,hs,h=>by
  simp only[X2,pF]at h;split at h
  rotate_left
  cases h;rename_i u1 v h1 h2;cases h;have hty:u1.map (·.t)=k.tys:=by
   cases hg:m.lookup t with
   |none=>rw[hg]at h1;cases h1
   |some og=>
    rw[hg]at h1;cases og with
    |some g=>exact(WX h1).2
    |none=>
     simp only at h1;split at h1
     .cases h1;rfl
     .cases h1;rfl
     .cases h1
  have hl:u1.length=k.tys.length:=by rw[<-hty,W5]
  obtain⟨e,e1,e2,e3⟩:=Cm (rest:=rest) (kT:=kT) (λt k u hm=>hk t k u (by simp[hm])) (λt k u hm=>hs t k u (by simp[hm])) h2;refine⟨u1++e,?_,?_,by simp only[Z6,hty,oO,e3]⟩
  .simp only[Rf,Wm,<-hl,Kg,UP,e1]
  .simp only[qw,Wm,<-hl,Kg,UP,e2]
theorem Ah{s:List (Nat×TS)}{ds:List Nat}:∀{l:List (Nat×j_×Option (List Wd))},Rh s ds l=true->∀t k u,(t,k,some u)∈l->hasK t s=true/\eY t ds=false
 | [],h,t,k,u,hm=>by cases hm
 |(t0,k0,some u0)::l,h,t,k,u,hm=>by
  simp only[Rh,X1,WD]at h;rcases Xs.1 hm with hm|hm
  .cases hm;exact h.1
  .exact Ah h.2 t k u hm
 |(t0,k0,none)::l,h,t,k,u,hm=>by
  rcases Xs.1 hm with hm|hm
  .cases hm
  .exact Ah (l:=l) h t k u hm
theorem Ai{s:List (Nat×TO)}{ds:List Nat}:∀{l:List (Nat×g_×Option (List Wd))},Ri s ds l=true->∀t k u,(t,k,some u)∈l->hasK t s=true/\eY t ds=false
 | [],h,t,k,u,hm=>by cases hm
 |(t0,k0,some u0)::l,h,t,k,u,hm=>by
  simp only[Ri,X1,WD]at h;rcases Xs.1 hm with hm|hm
  .cases hm;exact h.1
  .exact Ai h.2 t k u hm
 |(t0,k0,none)::l,h,t,k,u,hm=>by
  rcases Xs.1 hm with hm|hm
  .cases hm
  .exact Ai (l:=l) h t k u hm
end
end Go.Fg

namespace Go.Fw
variable [dV]
def ak3:TypeDesc->TK
 |.int k=>.int k
 |.bool=>.bool
 |.string=>.str
 |.slice e=>.slice e
 |.pointer _=>.ptr
 |.struct gs=>.struct (gs.toList.map λf=>(f.offset,f.type))
 |.array n e=>.arr n e
 |_=>.other
theorem oW.of{Pg:Program}{t:TypeId}{i:TI}(h1:(Pg.info? t).map (λx=>(x.size,x.bytes,x.zero.map (·.cells.toList),x.zero.map λz=>match z with|.agg _=>true|_=>false))=some (i.size,i.bytes,some i.zero,some i.agg))
  (h2:i.zero.all (·.oneCell')=true) (h3:i.zero.length=i.size) (hk:(Pg.underlying t).map ak3=some i.k)
  (he:(!i.eq||(!Pg.stoodInHeld t&&!Pg.eqGuardType Pg.depth t&&(Pg.fieldsOf t).toList.all λf=>!(f.name == "_")))=true):oW Pg t i:=by
 refine⟨h1,h2,h3,?_,λh=>?_⟩
 rotate_left
 .rw [h]at he;simp only[Bool.not_true,K2,X1,WD,Z1]at he;exact⟨he.1.1,he.1.2,λf hf e=>by have:=he.2 f hf;rw[e]at this;simp at this⟩
 cases hu:Pg.underlying t with
 |none=>rw[hu]at hk;cases hk
 |some d=>rw[hu]at hk;simp only[W2,Q0]at hk;rw[<-hk];cases d<;>simp[ak3,oG,hu]
def ahd(Pg:Program):List (Nat×TI)->Prop
 | []=>True
 |p::r=>oW Pg p.1 p.2/\ahd Pg r
theorem ae6{Pg:Program}(rows:List (Nat×TI))(h:ahd Pg rows):iC Pg λt=>rows.lookup t:=by
 intro t i ht
 induction rows with
 |nil=>cases ht
 |cons p r ih=>
  obtain⟨h1,h2⟩:=h;simp only[List.lookup]at ht;split at ht
  .rename_i e;have e:t=p.1:=by simpa using e
   cases ht;subst e;exact h1
  .exact ih h2 ht
theorem wrap64{x:Int}(h1:-9223372036854775808<=x)(h2:x<=9223372036854775807):IntKind.i64.wrap x=x:=by
 have e:IntKind.i64.wrap x=if x % 18446744073709551616≥9223372036854775808 then x % 18446744073709551616-18446744073709551616 else x % 18446744073709551616:=by simp[IntKind.wrap,IntKind.bits,IntKind.signed]
 rw[e];split<;>omega
end Go.Fw

namespace Go.Fg
open Go.Fw
section
variable [RE]
theorem vS:∀{l:List (Nat×g_×Option (List Wd))} {r:Ren} {t:Nat} {k:g_} {u:List Wd},(t,k,some u)∈l->(L6 l++r).lookup t=some (some t)
 | [],r,t,k,u,h=>by cases h
 |(t0,k0,some u0)::l,r,t,k,u,h=>by
  simp only[L6,Ke,List.lookup,GL];cases hb:Nat.beq t t0 with
  |true=>have:=Qf hb;subst this;rfl
  |false=>
   rcases Xs.1 h with h|h
   .cases h;simp at hb
   .exact vS h
 |(t0,k0,none)::l,r,t,k,u,h=>by
  rcases Xs.1 h with h|h
  .cases h
  .exact vS (l:=l) h
structure JOk(st:iQ)(j:JF):Prop where
 s:RH st.gs j.slots
 o:Xj st.go j.aW
 ds :∀t k u,(t,k,some u)∈j.slots->eY t (newS j.slots)=false
 dO :∀t k u,(t,k,some u)∈j.aW->eY t (tX j.aW)=false
theorem D7{nw:List Nat}:∀{l:List (Nat×j_×Option (List Wd))},aby nw l=true->∀t k u,(t,k,some u)∈l->eY t nw=false
 | [],h,t,k,u,hm=>by cases hm
 |(t0,k0,some u0)::l,h,t,k,u,hm=>by
  simp only[aby,X1,WD]at h;rcases Xs.1 hm with hm|hm
  .cases hm;exact h.1
  .exact D7 h.2 t k u hm
 |(t0,k0,none)::l,h,t,k,u,hm=>by
  rcases Xs.1 hm with hm|hm
  .cases hm
  .exact D7 (l:=l) h t k u hm
theorem D8{nw:List Nat}:∀{l:List (Nat×g_×Option (List Wd))},abz nw l=true->∀t k u,(t,k,some u)∈l->eY t nw=false
 | [],h,t,k,u,hm=>by cases hm
 |(t0,k0,some u0)::l,h,t,k,u,hm=>by
  simp only[abz,X1,WD]at h;rcases Xs.1 hm with hm|hm
  .cases hm;exact h.1
  .exact D8 h.2 t k u hm
 |(t0,k0,none)::l,h,t,k,u,hm=>by
  rcases Xs.1 hm with hm|hm
  .cases hm
  .exact D8 (l:=l) h t k u hm
theorem abV{st:iQ}{jt:JT}{j:JF}(h:jOf st jt=some j):JOk st j:=by
 unfold jOf at h;split at h
 rotate_left
 cases h;rename_i h1 h2;split at h
 .rename_i hd;cases h;simp only[X1]at hd;exact⟨yj h1,Ag h2,D7 hd.1,D8 hd.2⟩
 .cases h
theorem Vj{st:iQ}{j:JF}(hj:JOk st j)(x:Tup j.tys):(j.pay (Tup.lD j.tys x)).map (·.t)=j.sh.tys:=by
 have slots :∀(l:List (Nat×j_×Option (List Wd))) (hk :∀t k u,(t,k,some u)∈l->u.map (·.t)=k.tys) (ws rest:List Wd),ws.map (·.t)=jq l->(lM l (ws++rest)).1.map (·.t)=(l.map λp=>(p.1,p.2.1)).flatMap (λp=>p.2.tys)/\(lM l (ws++rest)).2=rest:=by
  intro l
  induction l with
  |nil=>intro hk ws rest h;simp only[jq,List.map_eq_nil_iff]at h;subst h;exact⟨rfl,rfl⟩
  |cons p l ih=>
   intro hk ws rest h;obtain⟨t,k,ou⟩:=p;cases ou with
   |some u=>obtain⟨a1,a2⟩:=ih (λt k u hm=>hk t k u (by simp[hm])) ws rest h;exact⟨by simp only[lM,Z6,X2,W0,a1,hk t k u (by simp)],a2⟩
   |none=>
    simp only[jq]at h;have hl:k.tys.length<=ws.length:=by have:=ZS List.length h;simp only[W5,Z0]at this;omega
    have h1:(ws.take k.tys.length).map (·.t)=k.tys:=by rw[VM,h,Kg]
    have h2:(ws.drop k.tys.length).map (·.t)=jq l:=by rw[Vc,h,UP]
    have e1:(ws++rest).take k.tys.length=ws.take k.tys.length:=K6 hl;have e2:(ws++rest).drop k.tys.length=ws.drop k.tys.length++rest:=Jx hl;obtain⟨a1,a2⟩:=ih (λt k u hm=>hk t k u (by simp[hm])) _ rest h2;simp only[lM,e1,e2];exact⟨by simp only[Z6,X2,W0,a1,h1],a2⟩
 have aW :∀(l:List (Nat×g_×Option (List Wd))) (hk :∀t k u,(t,k,some u)∈l->u.map (·.t)=k.tys) (ws rest:List Wd),ws.map (·.t)=oO l->(qw l (ws++rest)).1.map (·.t)=(l.map λp=>(p.1,p.2.1)).flatMap (λp=>p.2.tys)/\(qw l (ws++rest)).2=rest:=by
  intro l
  induction l with
  |nil=>intro hk ws rest h;simp only[oO,List.map_eq_nil_iff]at h;subst h;exact⟨rfl,rfl⟩
  |cons p l ih=>
   intro hk ws rest h;obtain⟨t,k,ou⟩:=p;cases ou with
   |some u=>obtain⟨a1,a2⟩:=ih (λt k u hm=>hk t k u (by simp[hm])) ws rest h;exact⟨by simp only[qw,Z6,X2,W0,a1,hk t k u (by simp)],a2⟩
   |none=>
    simp only[oO]at h;have hl:k.tys.length<=ws.length:=by have:=ZS List.length h;simp only[W5,Z0]at this;omega
    have h1:(ws.take k.tys.length).map (·.t)=k.tys:=by rw[VM,h,Kg]
    have h2:(ws.drop k.tys.length).map (·.t)=oO l:=by rw[Vc,h,UP]
    have e1:(ws++rest).take k.tys.length=ws.take k.tys.length:=K6 hl;have e2:(ws++rest).drop k.tys.length=ws.drop k.tys.length++rest:=Jx hl;obtain⟨a1,a2⟩:=ih (λt k u hm=>hk t k u (by simp[hm])) _ rest h2;simp only[qw,e1,e2];exact⟨by simp only[Z6,X2,W0,a1,h1],a2⟩
 have hS :∀t k u,(t,k,some u)∈j.slots->u.map (·.t)=k.tys:=λt k u hm=>Xi (hj.s t k u hm);have hO :∀t k u,(t,k,some u)∈j.aW->u.map (·.t)=k.tys:=λt k u hm=>ae5 (hj.o t k u hm);have hx:(Tup.lD j.tys x).map (·.t)=jq j.slots++oO j.aW:=vM _ _;generalize Tup.lD j.tys x=ws at hx;obtain⟨w1,w2,rfl,h1,h2⟩ :∃w1 w2,ws=w1++w2/\w1.map (·.t)=jq j.slots/\w2.map (·.t)=oO j.aW:=by
  refine⟨ws.take (jq j.slots).length,ws.drop (jq j.slots).length,(K5 _ _).symm,?_,?_⟩
  .rw [VM,hx,Kg]
  .rw [Vc,hx,UP]
 obtain⟨a1,a2⟩:=slots j.slots hS w1 w2 h1;have ob:=aW j.aW hO w2 [] h2;rw[qb]at ob;unfold JF.pay;rw[a2,Z6,a1,ob.1];rfl
theorem D9{s:Nat->TS}:∀{l:List (Nat×j_×Option (List Wd))} {pre post ws rest:List Wd} {t:Nat},RH s l->ws.map (·.t)=jq l->hasK t (fK (pre++(lM l (ws++rest)).1++post) pre.length (l.map λp=>(p.1,p.2.1))).1=true->eY t (newS l)=false->
  jl .no (fK (pre++(lM l (ws++rest)).1++post) pre.length (l.map λp=>(p.1,p.2.1))).1 t=s t/\∃k u,(t,k,some u)∈l
 | [],pre,post,ws,rest,t,hk,hw,h,hn=>by cases h
 |(t0,k,some u)::l,pre,post,ws,rest,t,hk,hw,h,hn=>by
  have hu:=hk t0 k u (by simp);have hmk:=ae3 (vs:=pre++(u++(lM l (ws++rest)).1)++post) (n:=pre.length) hu (λj w hj=>by rw[Wm,Wg (by omega),qD,Wm,Wt (Q4.1 hj).1];exact hj)
  simp only[lM,X2,fK,hmk.1,B_,<-hmk.2]at h ⊢;have e:pre++(u++(lM l (ws++rest)).1)++post=(pre++u)++(lM l (ws++rest)).1++post:=by simp only[Wm]
  rw[e]at h ⊢;have en:pre.length+u.length=(pre++u).length:=by rw[Z0]
  rw[en]at h ⊢;simp only[hasK,jl]at h ⊢;cases hb:Nat.beq t t0 with
  |true=>have:=Qf hb;subst this;exact⟨rfl,k,u,by simp⟩
  |false=>rw[hb,K2]at h;obtain⟨a1,k',u',a2⟩:=D9 (l:=l) (pre:=pre++u) (λt k u hm=>hk t k u (by simp[hm])) hw h hn;exact⟨a1,k',u',by simp[a2]⟩
 |(t0,k,none)::l,pre,post,ws,rest,t,hk,hw,h,hn=>by
  simp only[jq]at hw;simp only[newS,eY,UV]at hn;have hl:k.tys.length<=ws.length:=by have:=ZS List.length hw;simp only[W5,Z0]at this;omega
  have h2:(ws.drop k.tys.length).map (·.t)=jq l:=by rw[Vc,hw,UP]
  have e1:(ws++rest).take k.tys.length=ws.take k.tys.length:=K6 hl;have e2:(ws++rest).drop k.tys.length=ws.drop k.tys.length++rest:=Jx hl;have hlen:(ws.take k.tys.length).length=k.tys.length:=by rw[WF];omega
  simp only[lM,X2,fK,B_,e1,e2]at h ⊢;have e:pre++(ws.take k.tys.length++(lM l (ws.drop k.tys.length++rest)).1)++post=(pre++ws.take k.tys.length)++(lM l (ws.drop k.tys.length++rest)).1++post:=by simp only[Wm]
  rw[e]at h ⊢;have en:pre.length+k.tys.length=(pre++ws.take k.tys.length).length:=by rw[Z0,hlen]
  rw[en]at h ⊢;simp only[hasK,jl,hn.1,K2,cond_false]at h ⊢;obtain⟨a1,k',u',a2⟩:=D9 (pre:=pre++ws.take k.tys.length) (λt k u hm=>hk t k u (by simp[hm])) h2 h hn.2;exact⟨a1,k',u',by simp[a2]⟩
theorem JL{s:Nat->TO}:∀{l:List (Nat×g_×Option (List Wd))} {pre post ws rest:List Wd} {t:Nat},Xj s l->ws.map (·.t)=oO l->hasK t (jy (pre++(qw l (ws++rest)).1++post) pre.length (l.map λp=>(p.1,p.2.1))).1=true->eY t (tX l)=false->
  jl .none (jy (pre++(qw l (ws++rest)).1++post) pre.length (l.map λp=>(p.1,p.2.1))).1 t=s t/\∃k u,(t,k,some u)∈l
 | [],pre,post,ws,rest,t,hk,hw,h,hn=>by cases h
 |(t0,k,some u)::l,pre,post,ws,rest,t,hk,hw,h,hn=>by
  have hu:=hk t0 k u (by simp);have hmk:=ae4 (vs:=pre++(u++(qw l (ws++rest)).1)++post) (n:=pre.length) hu (λj w hj=>by rw[Wm,Wg (by omega),qD,Wm,Wt (Q4.1 hj).1];exact hj)
  simp only[qw,X2,jy,hmk.1,Jl,<-hmk.2]at h ⊢;have e:pre++(u++(qw l (ws++rest)).1)++post=(pre++u)++(qw l (ws++rest)).1++post:=by simp only[Wm]
  rw[e]at h ⊢;have en:pre.length+u.length=(pre++u).length:=by rw[Z0]
  rw[en]at h ⊢;simp only[hasK,jl]at h ⊢;cases hb:Nat.beq t t0 with
  |true=>have:=Qf hb;subst this;exact⟨rfl,k,u,by simp⟩
  |false=>rw[hb,K2]at h;obtain⟨a1,k',u',a2⟩:=JL (l:=l) (pre:=pre++u) (λt k u hm=>hk t k u (by simp[hm])) hw h hn;exact⟨a1,k',u',by simp[a2]⟩
 |(t0,k,none)::l,pre,post,ws,rest,t,hk,hw,h,hn=>by
  simp only[oO]at hw;simp only[tX,eY,UV]at hn;have hl:k.tys.length<=ws.length:=by have:=ZS List.length hw;simp only[W5,Z0]at this;omega
  have h2:(ws.drop k.tys.length).map (·.t)=oO l:=by rw[Vc,hw,UP]
  have e1:(ws++rest).take k.tys.length=ws.take k.tys.length:=K6 hl;have e2:(ws++rest).drop k.tys.length=ws.drop k.tys.length++rest:=Jx hl;have hlen:(ws.take k.tys.length).length=k.tys.length:=by rw[WF];omega
  simp only[qw,X2,jy,Jl,e1,e2]at h ⊢;have e:pre++(ws.take k.tys.length++(qw l (ws.drop k.tys.length++rest)).1)++post=(pre++ws.take k.tys.length)++(qw l (ws.drop k.tys.length++rest)).1++post:=by simp only[Wm]
  rw[e]at h ⊢;have en:pre.length+k.tys.length=(pre++ws.take k.tys.length).length:=by rw[Z0,hlen]
  rw[en]at h ⊢;simp only[hasK,jl,hn.1,K2,cond_false]at h ⊢;obtain⟨a1,k',u',a2⟩:=JL (pre:=pre++ws.take k.tys.length) (λt k u hm=>hk t k u (by simp[hm])) h2 h hn.2;exact⟨a1,k',u',by simp[a2]⟩
end
end Go.Fg

namespace Go.Fg
open Go.Fw
section
variable [RE]
theorem Zo{st:iQ}{j:JF}(x:Tup j.tys):∃w1 w2,Tup.lD j.tys x=w1++w2/\w1.map (·.t)=jq j.slots/\w2.map (·.t)=oO j.aW:=by have hx:(Tup.lD j.tys x).map (·.t)=jq j.slots++oO j.aW:=vM _ _;generalize Tup.lD j.tys x=ws at hx;exact⟨ws.take (jq j.slots).length,ws.drop (jq j.slots).length,(K5 _ _).symm,by rw[VM,hx,Kg],by rw[Vc,hx,UP]⟩
theorem D_:∀{l:List (Nat×j_×Option (List Wd))} {ws rest:List Wd},ws.map (·.t)=jq l->(lM l (ws++rest)).2=rest
 | [],ws,rest,h=>by simp only[jq,List.map_eq_nil_iff]at h;subst h;rfl
 |(t,k,some u)::l,ws,rest,h=>D_ (l:=l) h
 |(t,k,none)::l,ws,rest,h=>by
  simp only[jq]at h;have hl:k.tys.length<=ws.length:=by have:=ZS List.length h;simp only[W5,Z0]at this;omega
  have h2:(ws.drop k.tys.length).map (·.t)=jq l:=by rw[Vc,h,UP]
  have e2:(ws++rest).drop k.tys.length=ws.drop k.tys.length++rest:=Jx hl;simp only[lM,e2];exact D_ h2
theorem Ea{st:iQ}{j:JF}(hj:JOk st j)(x:Tup j.tys):(∀t,hasK t (xU j x).s=true->eY t (newS j.slots)=false->(xU j x).gs t=st.gs t/\∃k u,(t,k,some u)∈j.slots)/\
  ∀g,hasK g (xU j x).o=true->eY g (tX j.aW)=false->(xU j x).go g=st.go g/\∃k u,(g,k,some u)∈j.aW:=by
 obtain⟨w1,w2,hw,h1,h2⟩:=Zo (st:=st) x;have hr:=D_ (rest:=w2) h1;have hp:j.pay (Tup.lD j.tys x)=(lM j.slots (w1++w2)).1++(qw j.aW w2).1:=by rw[hw];unfold JF.pay;rw[hr]
 have hs:=λt a b=>D9 (pre:=[]) (post:=(qw j.aW w2).1) (rest:=w2) (t:=t) hj.s h1 a b;have ho:=λt a b=>JL (pre:=(lM j.slots (w1++w2)).1) (post:=[]) (rest:=[]) (t:=t) hj.o h2 a b;simp only[qa,Km]at hs;simp only[qb]at ho;rw[<-hp]at hs ho;have hty:=Vj hj x;have hn:(fK (j.pay (Tup.lD j.tys x)) 0 j.sh.slots).2=(lM j.slots (w1++w2)).1.length:=by
  rw[vJ,V1];rw[hp]at hty;have hS :∀(l:List (Nat×j_×Option (List Wd))) (hk:RH st.gs l) (ws rest:List Wd),ws.map (·.t)=jq l->(lM l (ws++rest)).1.length=((l.map λp=>(p.1,p.2.1)).flatMap λp=>p.2.tys).length:=by
   intro l
   induction l with
   |nil=>intro hk ws rest h;rfl
   |cons p l ih=>
    intro hk ws rest h;obtain⟨t,k,ou⟩:=p;cases ou with
    |some u=>have e:=Xi (hk t k u (by simp));have e:=ZS List.length e;rw[W5]at e;simp only[lM,Z0,X2,W0,e];rw[ih (λt k u hm=>hk t k u (by simp[hm])) ws rest h]
    |none=>
     simp only[jq]at h;have hl:k.tys.length<=ws.length:=by have:=ZS List.length h;simp only[W5,Z0]at this;omega
     have h2:(ws.drop k.tys.length).map (·.t)=jq l:=by rw[Vc,h,UP]
     have e1:(ws++rest).take k.tys.length=ws.take k.tys.length:=K6 hl;have e2:(ws++rest).drop k.tys.length=ws.drop k.tys.length++rest:=Jx hl;simp only[lM,e1,e2,Z0,X2,W0,WF];rw[ih (λt k u hm=>hk t k u (by simp[hm])) _ rest h2];omega
  exact(hS j.slots hj.s w1 w2 h1).symm
 refine⟨λt a b=>hs t a b,λg a b=>?_⟩;have e1:(xU j x).o=(jy (j.pay (Tup.lD j.tys x)) (lM j.slots (w1++w2)).1.length (j.aW.map λp=>(p.1,p.2.1))).1:=by rw[<-hn];rfl
 have e2:(xU j x).go g=jl .none (jy (j.pay (Tup.lD j.tys x)) (lM j.slots (w1++w2)).1.length (j.aW.map λp=>(p.1,p.2.1))).1 g:=by rw[<-hn];rfl
 rw[e1]at a;rw[e2];exact ho g a b
theorem OV{gs:List Nat}{o:Nat->TO}(hp:Pl o gs)(x:TW):bQ (tpW gs o x)=Wq gs (bT o) (bQ x):=by
 cases x with
 |own g=>
  simp only[tpW,bQ,Wq,bI];cases hc:gs.contains g with
  |false=>rfl
  |true=>obtain⟨⟨a,i,e,l⟩,hg⟩:=hp g (by simpa using hc);simp only[cond_true,if_true,hg,(nU hg).1];rfl
 |vw g lo hi=>
  simp only[tpW,bQ,Wq,bI];cases hc:gs.contains g with
  |false=>rfl
  |true=>obtain⟨⟨a,i,e,l⟩,hg⟩:=hp g (by simpa using hc);simp only[cond_true,if_true,hg,(nU hg).1,qX];rfl
 |_=>simp only[tpW,bQ,Wq]
theorem Xk{gs:List Nat}{o:Nat->TO}(hp:Pl o gs)(x:TV):jv (tpV gs o x)=plV gs (bT o) (jv x):=by
 cases x with
 |one x=>simp only[tpV,jv,plV,OV hp]
 |agg xs=>simp only[tpV,jv,plV,Uv,V.agg.injEq];exact W4 λx _=>OV hp x
theorem ae7{gs:List Nat}{o:Nat->TO}(hp:Pl o gs)(x:TS):aZ (tpS gs o x)=plS gs (bT o) (aZ x):=by
 cases x with
 |v x=>simp only[tpS,aZ,plS,Xk hp]
 |lq xs=>simp only[tpS,aZ,plS,Uv,S.lq.injEq];exact W4 λx _=>Xk hp x
 |no=>rfl
theorem JM{α:Type}(d:α)(f:Nat->α->α)(hd :∀t,f t d=d):∀(l:List (Nat×α)) (t:Nat),jl d (l.map λp=>(p.1,f p.1 p.2)) t=f t (jl d l t)
 | [],t=>(hd t).symm
 |(k,v)::r,t=>by
  simp only[X2,jl];cases hb:Nat.beq t k with
  |true=>have:=Qf hb;subst this;rfl
  |false=>exact JM d f hd r t
theorem Xl(gs:List Nat)(st:iQ)(t:Nat):(KW gs st).gs t=match gs with|[]=>st.gs t|g::r=>tpS (g::r) st.go (st.gs t):=by
 cases gs with
 |nil=>rfl
 |cons g r=>exact JM .no (λ_ x=>tpS (g::r) st.go x) (λ_=>rfl) st.s t
theorem Xm(gs:List Nat)(st:iQ)(t:Nat):(KW gs st).go t=match gs with|[]=>st.go t|g::r=>tpO (g::r) st.go t (st.go t):=by
 cases gs with
 |nil=>rfl
 |cons g r=>exact JM .none (λt x=>tpO (g::r) st.go t x) (λ_=>rfl) st.o t
theorem OW(o:Nat->O)(x:W):Wq [] o x=x:=by unfold Wq;split<;>first|rfl|simp
theorem Xn(o:Nat->O)(x:V):plV [] o x=x:=by
 cases x with
 |one x=>simp only[plV,OW]
 |agg xs=>
  simp only[plV,V.agg.injEq]
  conv=>rhs;rw[<-List.map_id xs]
  exact W4 λx _=>OW o x
theorem OX(st:St):dX [] st=st:=by
 refine St.ext' (λt=>?_) (λg=>?_) λg=>rfl
 .show plS [] st.o (st.s t)=st.s t;cases st.s t with
  |v x=>simp only[plS,Xn]
  |lq xs=>
   simp only[plS,S.lq.injEq]
   conv=>rhs;rw[<-List.map_id xs]
   exact W4 λx _=>Xn _ x
  |no=>rfl
 .show Z7 [] st.o g=st.o g;unfold Z7;cases st.o g with
  |box ws=>
   simp only[O.box.injEq]
   conv=>rhs;rw[<-List.map_id ws]
   exact W4 λx _=>OW _ x
  |_=>simp
theorem RI{gs:List Nat}{st:iQ}(hp:Pl st.go gs):aP (KW gs st)=dX gs (aP st):=by
 cases gs with
 |nil=>rw[OX];rfl
 |cons g r=>
  refine St.ext' (λt=>?_) (λk=>?_) λk=>rfl
  .show aZ ((KW (g::r) st).gs t)=plS (g::r) (bT st.go) (aZ (st.gs t));rw[Xl];exact ae7 hp _
  .show dJ ((KW (g::r) st).go k)=Z7 (g::r) (bT st.go) k;rw[Xm];simp only;have hk:bT st.go k=dJ (st.go k):=rfl;cases ho:st.go k with
   |none=>
    have hd:bT st.go k=.none:=by rw[hk,ho];rfl
    simp only[tpO,Z7,hd];split
    .simp [Fw.aN,plainO,hd,dJ]
    .rfl
   |box ws=>simp only[tpO,Z7,nT ho,dJ,Uv,O.box.injEq];exact W4 λx _=>OV hp x
   |arr fz a i e l=>
    simp only[tpO,Z7,gI ho,dJ,bI];cases hc:(g::r).contains k with
    |false=>simp
    |true=>simp[Fw.aN,plainO,gI ho]
   |it s n=>
    have hd:bT st.go k=.it (.str ⟨s.toArray⟩) (.int .i64 n):=by rw[hk,ho];rfl
    simp only[tpO,Z7,hd];split
    .simp [Fw.aN,plainO,hd,dJ]
    .rfl
   |aF a i e ah l hole=>
    have hd:bT st.go k=.aF a i (size e) (gY ah) (aC e l) hole:=by rw[hk,ho];rfl
    simp only[tpO,Z7,hd,bI];cases hc:(g::r).contains k with
    |false=>simp only[cond_false,Wa,if_false];rfl
    |true=>simp only[cond_true,if_true];have:=I4 (hp k (by simpa using hc));rw[this]
theorem abW{gs:List Nat}{o:Nat->TO}{x:TW}(h:(W.namesT x).all (λg=>!eY g gs)=true):tpW gs o x=x:=by
 cases x with
 |own g=>
  have h:eY g gs=false:=by simpa[W.namesT]using h
  simp only[tpW,h,cond_false]
 |vw g lo hi=>
  have h:eY g gs=false:=by simpa[W.namesT]using h
  simp only[tpW,h,cond_false]
 |_=>rfl
theorem OY{gs:List Nat}{o:Nat->TO}:∀{xs:List TW},((xs.flatMap W.namesT).all λg=>!eY g gs)=true->xs.map (tpW gs o)=xs
 | [],_=>rfl
 |x::xs,h=>by simp only[W0,List.all_append,X1]at h;simp only[X2,abW h.1,OY h.2]
theorem abX{gs:List Nat}{o:Nat->TO}{x:TV}(h:((V.namesT x).all λg=>!eY g gs)=true):tpV gs o x=x:=by
 cases x with
 |one x=>simp only[tpV,abW (x:=x) h]
 |agg xs=>simp only[tpV,OY (xs:=xs) h]
theorem RJ{gs:List Nat}{o:Nat->TO}{x:TS}(h:Vg gs x=true):tpS gs o x=x:=by
 cases x with
 |v x=>simp only[tpS,abX (x:=x) h]
 |lq xs=>
  simp only[tpS,TS.lq.injEq];have :∀(xs:List TV),((xs.flatMap V.namesT).all λg=>!eY g gs)=true->xs.map (tpV gs o)=xs:=by
   intro xs
   induction xs with
   |nil=>intro _;rfl
   |cons x xs ih=>intro h;simp only[W0,List.all_append,X1]at h;simp only[X2,abX h.1,ih h.2]
  exact this xs h
 |no=>rfl
theorem RN{gs:List Nat}{o:Nat->TO}{g:Nat}{x:TO}(h:Ji gs g x=true):tpO gs o g x=x:=by
 cases x with
 |none=>rfl
 |box ws=>simp only[tpO,OY (xs:=ws) h]
 |arr fz a i e l=>
  have h:eY g gs=false:=by simpa[Ji]using h
  simp only[tpO,h,Bool.or_false]
 |it s n=>rfl
 |aF a i e ah l hole=>
  have h:eY g gs=false:=by simpa[Ji]using h
  simp only[tpO,h,cond_false]
theorem Eb{gs:List Nat}{s:Nat->TS}:∀{l:List (Nat×j_×Option (List Wd))},abw gs s l=true->∀t k u,(t,k,some u)∈l->Vg gs (s t)=true
 | [],h,t,k,u,hm=>by cases hm
 |(t0,k0,some u0)::l,h,t,k,u,hm=>by
  simp only[abw,X1]at h;rcases Xs.1 hm with hm|hm
  .cases hm;exact h.1
  .exact Eb h.2 t k u hm
 |(t0,k0,none)::l,h,t,k,u,hm=>by
  rcases Xs.1 hm with hm|hm
  .cases hm
  .exact Eb (l:=l) h t k u hm
theorem Ec{gs:List Nat}{s:Nat->TO}:∀{l:List (Nat×g_×Option (List Wd))},abx gs s l=true->∀t k u,(t,k,some u)∈l->Ji gs t (s t)=true
 | [],h,t,k,u,hm=>by cases hm
 |(t0,k0,some u0)::l,h,t,k,u,hm=>by
  simp only[abx,X1]at h;rcases Xs.1 hm with hm|hm
  .cases hm;exact h.1
  .exact Ec h.2 t k u hm
 |(t0,k0,none)::l,h,t,k,u,hm=>by
  rcases Xs.1 hm with hm|hm
  .cases hm
  .exact Ec (l:=l) h t k u hm
theorem Xo{gs:List Nat}{st:iQ}(h:aiv st.go gs=true):aey (aP st).o gs=true/\Pl st.go gs:=by
 have hp:Pl st.go gs:=λg hg=>by
  have:=(Z1.1 h) g hg;simp only[plB,X1]at this;cases hx:m_ st.go g with
  |some p=>exact⟨p,rfl⟩
  |none=>rw[hx]at this;cases this.1
 refine⟨Z1.2 λg hg=>?_,hp⟩;obtain⟨⟨a,i,e,l⟩,hx⟩:=hp g hg;have:=(Z1.1 h) g hg;simp only[X1]at this;obtain⟨k1,k2⟩:=nU hx;have k1:plainO (aP st).o g=_:=k1;have k2:((aP st).o g).names=_:=k2;rw[k1,k2];simp only[Option.isSome_some,Kd];have h2:=this.2;simp only[bI]at h2;exact h2
theorem nZ(keep:List Nat):∀(hs:List Nat) (st:iQ),aP (ni keep hs st).2=Fw.shuts (ni keep hs st).1 (aP st)
 | [],st=>rfl
 |g::gs,st=>by
  simp only[ni];split
  rotate_left
  exact nZ keep gs st;rename_i d a i e ah l h1 h2;split
  .simp only[Fw.shuts];rw[nZ keep gs,Jz];have:=MG h1 h2;have this:Fw.jS (aP st).o g=_:=this;rw[this]
  .exact nZ keep gs st
theorem qZ{keep:List Nat}{t:Nat}(ht:eY t keep=true):∀(hs:List Nat) (st:iQ),(ni keep hs st).2.go t=st.go t
 | [],st=>rfl
 |g::gs,st=>by
  simp only[ni];split
  rotate_left
  exact qZ ht gs st;rename_i d a i e ah l h1 h2;split
  rotate_left
  exact qZ ht gs st;rename_i hk;obtain⟨k1,k2⟩:=ig hk;rw[qZ ht gs];show jl .none (BQ st.o [(g,.aF a i e ah l none),(d,.none)]) t=jl .none st.o t;rw[xZ];have e1:(t==g)=false:=by simp only[beq_eq_false_iff_ne];intro e;subst e;rw[ht]at k1;cases k1
  have e2:(t==d)=false:=by simp only[beq_eq_false_iff_ne];intro e;subst e;rw[ht]at k2;cases k2
  simp only[List.lookup,e1,e2]
theorem CB(keep:List Nat):∀(hs:List Nat) (st:iQ),(ni keep hs st).2.s=st.s
 | [],st=>rfl
 |g::gs,st=>by
  simp only[ni];split
  .split
   .rw [CB keep gs]
   .exact CB keep gs st
  .exact CB keep gs st
theorem Ee:∀{l:List (Nat×g_×Option (List Wd))} {t:Nat} {k:g_} {u:List Wd},(t,k,some u)∈l->eY t (zn l)=true
 | [],t,k,u,h=>by cases h
 |(t0,k0,some u0)::l,t,k,u,h=>by
  simp only[zn,eY,K3];rcases Xs.1 h with h|h
  .cases h;exact .inl (by simp)
  .exact .inr (Ee h)
 |(t0,k0,none)::l,t,k,u,h=>by
  rcases Xs.1 h with h|h
  .cases h
  .exact Ee (l:=l) h
theorem oQ{R:Type}{bC:List Nat}{j:JF}{q0 q:jw}{K:Tup j.tys->Prog R}{r:R}(hj:JOk q0.st j)(hr:qY q0 q)(h:(wG bC j q K).run=some r):
  ∃x,(K x).run=some r/\Back bC j.sh.er (aP q.st) λvs=>vs=(j.pay (Tup.lD j.tys x)).map bY:=by
 unfold wG at h;simp only at h;split at h;exact(bV h).elim;rename_i hk;obtain⟨hk,h6⟩:=ig hk;obtain⟨hk,h5⟩:=ig hk;obtain⟨hk,h4⟩:=ig hk;obtain⟨hk,h3⟩:=ig hk;obtain⟨h1,h2⟩:=ig hk;have henc:=nZ (zn j.aW) (OH q.st.o) q.st;have hkeep:=λt (ht:eY t (zn j.aW)=true)=>qZ ht (OH q.st.o) q.st;have hss:=CB (zn j.aW) (OH q.st.o) q.st;generalize (ni (zn j.aW) (OH q.st.o) q.st).1=hs0 at henc;generalize (ni (zn j.aW) (OH q.st.o) q.st).2=st0 at h h3 h4 h5 h6 henc hkeep hss;generalize hgs:aix bC j.sh st0=gs at h h3 h4 h5 h6;split at h;exact(bV h).elim;rename_i vs hvs;split at h;exact(bV h).elim;rename_i x hx;refine⟨x,h,?_⟩;have hpay:j.pay (Tup.lD j.tys x)=vs:=by
  rw[GN _ hx];unfold BO at hvs;split at hvs
  rotate_left
  cases hvs;split at hvs
  rotate_left
  cases hvs;rename_i u v hu hv;cases hvs;have kS :∀t k u,(t,k,some u)∈j.slots->(KW gs st0).gs t=q0.st.gs t:=λt k u hm=>by
   obtain⟨a1,a2⟩:=Ah h1 t k u hm;have a3:=Eb h5 t k u hm;have a4:st0.gs t=q.st.gs t:=by unfold iQ.gs;rw[hss]
   rw[<-(hr.s t a1 a2).2.2,Xl,<-a4];cases gs with
   |nil=>rfl
   |cons g r=>exact RJ a3
  have kO :∀t k u,(t,k,some u)∈j.aW->(KW gs st0).go t=q0.st.go t/\(L6 j.aW++derive bC j.sh (KW gs st0)).lookup t=some (some t):=λt k u hm=>by
   obtain⟨a1,a2⟩:=Ai h2 t k u hm;have a3:=Ec h6 t k u hm;refine⟨?_,vS hm⟩;rw[<-(hr.o t a1 a2).2.2,Xm,<-hkeep t (Ee hm)];cases gs with
   |nil=>rfl
   |cons g r=>exact RN a3
  obtain⟨e,e1,_,e3⟩:=Cj (rest:=v) (kT:=[]) hj.s kS hu;obtain⟨e',e1',_,e3'⟩:=Cm (rest:=[]) (kT:=[]) hj.o kO hv;obtain⟨e2,e12,e22,_⟩:=Cj (rest:=v) (kT:=e') hj.s kS hu;rw[e1]at e12;have:e=e2:=(Prod.mk.inj e12).1;subst this;obtain⟨e4,e14,e24,_⟩:=Cm (rest:=[]) (kT:=[]) hj.o kO hv;rw[e1']at e14;have:e'=e4:=(Prod.mk.inj e14).1;subst this;rw[qb]at e1' e24;unfold JF.ext;rw[e1];simp only;rw[e1'];unfold JF.pay;simp only;rw[e22];simp only;rw[e24]
 rw[hpay];obtain⟨c1,c2⟩:=Jr hvs;obtain⟨f1,f2⟩:=Xo h4;rw[RI f2,henc]at c1;rw[henc]at f1;exact .mk hs0 gs _ _ f1 h3 c1 rfl
theorem qY.fresh{q q':jw}(h:qY q.fresh q'):qY q (q'.since q):=by
 refine⟨λt h1 h2=>?_,λg h1 h2=>?_⟩
 .have h2:eY t (q'.ds++q.ds)=false:=h2;rw[bI]at h2;simp only[vm,UV]at h2;rw[<-bI,<-bI]at h2;obtain⟨a1,a2,a3⟩:=h.s t h1 h2.1;exact⟨a1,h2.2,a3⟩
 .have h2:eY g (q'.od++q.od)=false:=h2;rw[bI]at h2;simp only[vm,UV]at h2;rw[<-bI,<-bI]at h2;obtain⟨a1,a2,a3⟩:=h.o g h1 h2.1;exact⟨a1,h2.2,a3⟩
theorem uh{t:Nat}{a b:List Nat}(h:eY t (a++b)=false):eY t a=false/\eY t b=false:=by rw[bI]at h;simp only[vm,UV]at h;rw[<-bI,<-bI]at h;exact h
theorem abY{st:iQ}{t:Nat}(h:st.gs t≠.no):hasK t st.s=true:=by
 cases hk:hasK t st.s with
 |true=>rfl
 |false=>exact absurd (t_ TS.no st.s t hk) h
theorem abZ{st:iQ}{t:Nat}(h:st.go t≠.none):hasK t st.o=true:=by
 cases hk:hasK t st.o with
 |true=>rfl
 |false=>exact absurd (t_ TO.none st.o t hk) h
theorem Xp{x:TS}{y:j_×List Wd}(h:OE x=some y):x≠.no:=by intro e;subst e;cases h
theorem Xq{x:TO}{y:g_×List Wd}(h:wP x=some y):x≠.none:=by intro e;subst e;cases h
theorem ae8{q:jw}{j:JF}(hj:JOk q.st j)(x:Tup j.tys):qY q ⟨xU j x,newS j.slots++q.ds,tX j.aW++q.od⟩:=by
 obtain⟨hs,ho⟩:=Ea hj x;refine⟨λt h1 h2=>?_,λg h1 h2=>?_⟩
 .obtain ⟨n1,n2⟩:=uh (a:=newS j.slots) (b:=q.ds) h2;obtain⟨a1,k,u,hm⟩:=hs t h1 n1;exact⟨abY (Xp (hj.s t k u hm)),n2,a1⟩
 .obtain ⟨n1,n2⟩:=uh (a:=tX j.aW) (b:=q.od) h2;obtain⟨a1,k,u,hm⟩:=ho g h1 n1;exact⟨abZ (Xq (hj.o g k u hm)),n2,a1⟩
theorem MK{q q':jw}{j:JF}(hj:JOk q.st j){x:Tup j.tys}(h:qY ⟨xU j x,[],[]⟩ q'):qY q (q'.since ⟨q'.st,newS j.slots++q.ds,tX j.aW++q.od⟩):=by
 obtain⟨hs,ho⟩:=Ea hj x;refine⟨λt h1 h2=>?_,λg h1 h2=>?_⟩
 .obtain ⟨n1,n2⟩:=uh (a:=q'.ds) (b:=newS j.slots++q.ds) h2;obtain⟨n2,n3⟩:=uh n2;obtain⟨a1,a2,a3⟩:=h.s t h1 n1;obtain⟨b1,k,u,hm⟩:=hs t a1 n2;exact⟨abY (Xp (hj.s t k u hm)),n3,a3.trans b1⟩
 .obtain ⟨n1,n2⟩:=uh (a:=q'.od) (b:=tX j.aW++q.od) h2;obtain⟨n2,n3⟩:=uh n2;obtain⟨a1,a2,a3⟩:=h.o g h1 n1;obtain⟨b1,k,u,hm⟩:=ho g a1 n2;exact⟨abZ (Xq (hj.o g k u hm)),n3,a3.trans b1⟩
theorem Fq(vs:List Wd)(t:Nat):∀(n:Nat) (l:List (Nat×j_)),hasK t (fK vs n l).1=hasK t l
 |n,[]=>rfl
 |n,(t0,k)::l=>by simp only[fK,hasK,Fq vs t]
theorem Fv(vs:List Wd)(t:Nat):∀(n:Nat) (l:List (Nat×g_)),hasK t (jy vs n l).1=hasK t l
 |n,[]=>rfl
 |n,(t0,k)::l=>by simp only[jy,hasK,Fv vs t]
theorem JO{α:Type}{t:Nat}{x:α}:∀{l:List (Nat×α)},(t,x)∈l->hasK t l=true
 | [],h=>by cases h
 |(t0,y)::l,h=>by
  simp only[hasK,K3];rcases Xs.1 h with h|h
  .cases h;exact .inl (by simp)
  .exact .inr (JO h)
theorem ae9{st:iQ}{j:JF}(hj:JOk st j)(x:Tup j.tys):JOk (xU j x) j:=by
 obtain⟨hs,ho⟩:=Ea hj x;refine⟨λt k u hm=>?_,λt k u hm=>?_,hj.ds,hj.dO⟩
 .have hh:hasK t (xU j x).s=true:=by show hasK t (fK _ 0 j.sh.slots).1=true;rw[Fq];exact JO (x:=k) (XN.2 ⟨(t,k,some u),hm,rfl⟩)
  rw[(hs t hh (hj.ds t k u hm)).1];exact hj.s t k u hm
 .have hh:hasK t (xU j x).o=true:=by show hasK t (jy _ _ j.sh.aW).1=true;rw[Fv];exact JO (x:=k) (XN.2 ⟨(t,k,some u),hm,rfl⟩)
  rw[(ho t hh (hj.dO t k u hm)).1];exact hj.o t k u hm
structure KSm{R:Type}(q:jw)(K:TK R)(r:R)(Kp:BH):Prop where
 n :∀q',qY q q'->(K.n q').run=some r->Kp.n (aP q'.st)
 x :∀id q',qY q q'->(K.x id q').run=some r->Kp.x id (aP q'.st)
 r :∀q',qY q q'->(K.r q').run=some r->Kp.r (aP q'.st)
theorem KSm.from{R:Type}{q q1:jw}{K:TK R}{r:R}{Kp:BH}(h:KSm q K r Kp)(hr:qY q q1):KSm q1 K r Kp:=⟨λq' a b=>h.n q' (hr.trans a) b,λid q' a b=>h.x id q' (hr.trans a) b,λq' a b=>h.r q' (hr.trans a) b⟩
theorem GR{R R':Type}{p:Prog R}{r:R}(h:(p.map (Sum.inr:R->R' ⊕ R)).run=some (.inr r)):p.run=some r:=by
 rw[run_map _ (λa b e=>Sum.inr.inj e)]at h;cases hp:p.run with
 |none=>rw[hp]at h;cases h
 |some a=>rw[hp]at h;cases h;rfl
theorem vT{R R':Type}{p:Prog R}{x:R'}(h:(p.map (Sum.inr:R->R' ⊕ R)).run=some (.inl x)):False:=by
 rw[run_map _ (λa b e=>Sum.inr.inj e)]at h;cases hp:p.run with
 |none=>rw[hp]at h;cases h
 |some a=>rw[hp]at h;cases h
theorem JQ{R:Type}{bC:List Nat}{early:Bool}{jt:JT}{here:Nat->Bool}{q:jw}{inner:(R':Type)->jw->TK R'->Prog R'}{K:TK R}{r:R}{E:St->BH->Prop}{Kp:BH}
  (hin :∀(R':Type) (q':jw) (K':TK R') (r':R') (Kp':BH),(inner R' q' K').run=some r'->KSm q' K' r' Kp'->E (aP q'.st) Kp')
  (h:(L8 bC early jt here q inner K).run=some r) (hK:KSm q K r Kp):E (aP q.st) { n:=Wk bC Kp.n,x:=λid st=>bif here id then Wk bC Kp.n st else Kp.x id st,r:=Kp.r }:=by
 unfold L8 at h;split at h;exact(bV h).elim;rename_i j hjo;have hj:=abV hjo;have hjf:JOk q.fresh.st j:=hj;have fin :∀(x:Tup j.tys),(frX ⟨xU j x,newS j.slots++q.ds,tX j.aW++q.od⟩ K.n).run=some r->∀q':jw,Back bC j.sh.er (aP q'.st) (λvs=>vs=(j.pay (Tup.lD j.tys x)).map bY)->Wk bC Kp.n (aP q'.st):=by intro x hx q' hb;rw[sD]at hx;have hn:=hK.n _ (ae8 hj x) hx;refine .back j.sh.er ?_;obtain⟨hs,gs,m,vs,h0,h1,h2,rfl⟩:=hb;refine⟨hs,gs,m,_,h0,h1,h2,?_⟩;have e:=xX (Vj hj x);have hn:Kp.n (aP (mkT j.sh (j.pay (Tup.lD j.tys x)))):=hn;rw[e]at hn;exact hn
 split at h
 .obtain ⟨x,hi,hx⟩:=abS h;refine hin _ q.fresh _ x _ hi ⟨λq' hr hq=>?_,λid q' hr hq=>?_,λq' hr hq=>(bV hq).elim⟩
  .obtain ⟨y,hy,hb⟩:=oQ hjf hr hq;have hy:some y=some x:=hy;cases hy;exact fin _ hx q' hb
  .show (bif here id then Wk bC Kp.n (aP q'.st)else Kp.x id (aP q'.st));have hq:(bif here id then wG bC j q' .ret else .stuck 41:Prog _).run=some x:=hq;cases hh:here id with
   |true=>rw[hh]at hq;obtain⟨y,hy,hb⟩:=oQ hjf hr hq;have hy:some y=some x:=hy;cases hy;exact fin _ hx q' hb
   |false=>rw[hh]at hq;exact(bV hq).elim
 .rcases Zn h with⟨x,hi,hx⟩|hi
  .refine hin _ q.fresh _ (Sum.inl x) _ hi ⟨λq' hr hq=>?_,λid q' hr hq=>?_,λq' hr hq=>(vT hq).elim⟩
   .obtain ⟨y,hy,hb⟩:=oQ hjf hr hq;have hy:some (Sum.inl y:Tup j.tys ⊕ R)=some (.inl x):=hy;cases hy;exact fin _ hx q' hb
   .show (bif here id then Wk bC Kp.n (aP q'.st)else Kp.x id (aP q'.st));have hq:(bif here id then wG bC j q' (λx=>.ret (.inl x))else(K.x id (q'.since q)).map .inr:Prog (Tup j.tys ⊕ R)).run=some (.inl x):=hq;cases hh:here id with
    |true=>rw[hh]at hq;obtain⟨y,hy,hb⟩:=oQ hjf hr hq;have hy:some (Sum.inl y:Tup j.tys ⊕ R)=some (.inl x):=hy;cases hy;exact fin _ hx q' hb
    |false=>rw[hh]at hq;exact(vT hq).elim
  .refine hin _ q.fresh _ (Sum.inr r) _ hi ⟨λq' hr hq=>?_,λid q' hr hq=>?_,λq' hr hq=>?_⟩
   .obtain ⟨y,hy,hb⟩:=oQ hjf hr hq;have hy:some (Sum.inl y:Tup j.tys ⊕ R)=some (.inr r):=hy;cases hy
   .show (bif here id then Wk bC Kp.n (aP q'.st)else Kp.x id (aP q'.st));have hq:(bif here id then wG bC j q' (λx=>.ret (.inl x))else(K.x id (q'.since q)).map .inr:Prog (Tup j.tys ⊕ R)).run=some (.inr r):=hq;cases hh:here id with
    |true=>rw[hh]at hq;obtain⟨y,hy,hb⟩:=oQ hjf hr hq;have hy:some (Sum.inl y:Tup j.tys ⊕ R)=some (.inr r):=hy;cases hy
    |false=>rw[hh]at hq;exact hK.x id (q'.since q) (qY.fresh hr) (GR hq)
   .exact hK.r (q'.since q) (qY.fresh hr) (GR hq)
theorem least{p:Nat->Prop}:(∃n,p n)->∃n,p n/\∀k,k<n->¬ p k:=by
 rintro ⟨n,hn⟩
 induction n using Nat.strongRecOn with
 |ind n ih=>
  by_cases h :∃k,k<n/\p k
  .obtain ⟨k,hk,hp⟩:=h;exact ih k hk hp
  .exact ⟨n,hn,λk hk hp=>h ⟨k,hk,hp⟩⟩
open Classical in
noncomputable def JR(p:Nat->Prop):Nat:=if h :∃n,p n then Classical.choose (least h)else 0
theorem Fz{p:Nat->Prop}(h :∃n,p n):p (JR p)/\∀k,p k->JR p<=k:=by unfold JR;rw[dif_pos h];obtain⟨h1,h2⟩:=zd (least h);exact⟨h1,λk hk=>vl λhlt=>h2 k hlt hk⟩
theorem Zp{T:ku}{tt:TT}{ety:TypeId->Option Ty}{N:Nat}:∀(c:Code) {bC:List Nat} {R:Type} {a:fU} {q:jw} {K:TK R} {r:R} {Kp:BH},(ny T tt ety N bC c R a q K).run=some r->KSm q K r Kp->
  exec (lN T) tt N bC c (aP q.st) Kp:=by
 intro c
 induction c with
 |skip=>intro bC R a q K r Kp h hK;exact hK.n q (qY.refl q) h
 |region id ops draw=>
  intro bC R a q K r Kp h hK;show qU (lN T) tt N ops draw (aP q.st) (Wk bC Kp.n);have h:(match a with
   |.meet e j _=>L8 bC e j (λ_=>false) q (λ_ q K=>vH T tt ety N ops draw q K.n) K
   |_=>vH T tt ety N ops draw q K.n).run=some r:=h
  have plain:(vH T tt ety N ops draw q K.n).run=some r->qU (lN T) tt N ops draw (aP q.st) (Wk bC Kp.n):=λh=>JG h λq' hr hq=>.now (hK.n q' hr hq);cases a with
  |meet e j a=>exact JQ (E:=λst K=>qU (lN T) tt N ops draw st K.n) (λR' q' K' r' Kp' h hK'=>JG h λq'' hr hq=>hK'.n q'' hr hq) h hK
  |_=>exact plain h
 |seq x y Wu ihy=>intro bC R a q K r Kp h hK;refine Wu h ⟨λq' hr hq=>ihy hq (hK.from hr),hK.x,hK.r⟩
 |cond c x y Wu ihy=>
  intro bC R a q K r Kp h hK;have body :∀(R:Type) (a:fU) (q:jw) (K:TK R) (r:R) (Kp:BH),(WM c q (λq=>ny T tt ety N bC x R a.fst q K) λq=>ny T tt ety N bC y R a.snd q K).run=some r->KSm q K r Kp->(match (aP q.st).bW c with
    |.v (.one (.p _ _ (.bool b)))=>bif b then exec (lN T) tt N bC x (aP q.st) Kp else exec (lN T) tt N bC y (aP q.st) Kp
    |_=>False):=by
   intro R a q K r Kp h hK;unfold WM at h;split at h
   rotate_left
   exact(bV h).elim;rename_i a' i' b hb;change Bool at b;have hb':(aP q.st).bW c=.v (.one (.p a' i' (.bool b))):=by rw[kP,hb];rfl
   rw[hb'];simp only;have kn:aP (knT c a' i' b q).st=aP q.st/\qY q (knT c a' i' b q):=by
    unfold knT;cases c with
    |tmp t=>have hb:q.st.gs t=.v (.one (.p a' i' (iI b))):=hb;exact⟨x9 hb,yc hb⟩
    |_=>exact⟨rfl,qY.refl q⟩
   cases b with
   |true=>have h:(frX (knT c a' i' true q) λq=>ny T tt ety N bC x R a.fst q K).run=some r:=h;rw[sD]at h;have:=Wu h (hK.from kn.2);rw[kn.1]at this;exact this
   |false=>have h:(frX (knT c a' i' false q) λq=>ny T tt ety N bC y R a.snd q K).run=some r:=h;rw[sD]at h;have:=ihy h (hK.from kn.2);rw[kn.1]at this;exact this
  cases a with
  |meet e j a=>
   exact JQ (E:=λst K=>match st.bW c with
    |.v (.one (.p _ _ (.bool b)))=>bif b then exec (lN T) tt N bC x st K else exec (lN T) tt N bC y st K
    |_=>False) (λR' q' K' r' Kp' h hK'=>body R' a q' K' r' Kp' h hK') h hK
  |nil=>exact body R .nil q K r { n:=Wk bC Kp.n,x:=Kp.x,r:=Kp.r } h ⟨λq' a b=>.now (hK.n q' a b),hK.x,hK.r⟩
  |seq a b=>exact body R (.seq a b) q K r { n:=Wk bC Kp.n,x:=Kp.x,r:=Kp.r } h ⟨λq' a b=>.now (hK.n q' a b),hK.x,hK.r⟩
  |range j s a=>exact body R (.range j s a) q K r { n:=Wk bC Kp.n,x:=Kp.x,r:=Kp.r } h ⟨λq' a b=>.now (hK.n q' a b),hK.x,hK.r⟩
  |loop j a=>exact body R (.loop j a) q K r { n:=Wk bC Kp.n,x:=Kp.x,r:=Kp.r } h ⟨λq' a b=>.now (hK.n q' a b),hK.x,hK.r⟩
 |block id c ih=>
  intro bC R a q K r Kp h hK;have plain :∀(a:fU),(ny T tt ety N bC c R a q { n:=K.n,x:=λid' q'=>bif Nat.beq id' id then K.n q' else K.x id' q',r:=K.r }).run=some r->exec (lN T) tt N bC (.block id c) (aP q.st) Kp:=by
   intro a h;refine ih h ⟨λq' hr hq=>.now (hK.n q' hr hq),λid' q' hr hq=>?_,hK.r⟩;show (bif Nat.beq id' id then Wk bC Kp.n (aP q'.st)else Kp.x id' (aP q'.st));have hq:(bif Nat.beq id' id then K.n q' else K.x id' q').run=some r:=hq;cases hb:Nat.beq id' id with
   |true=>rw[hb]at hq;exact .now (hK.n q' hr hq)
   |false=>rw[hb]at hq;exact hK.x id' q' hr hq
  cases a with
  |meet e j a=>
   have:=JQ (E:=λst K=>exec (lN T) tt N bC c st K) (λR' q' K' r' Kp' h hK'=>ih h hK') h hK;have e :∀id',Nat.beq id id'=Nat.beq id' id:=λid'=>by rw[Bool.eq_iff_iff];simp;exact⟨λh=>h.symm,λh=>h.symm⟩
   show exec (lN T) tt N bC c (aP q.st) { n:=Wk bC Kp.n,x:=λid' st'=>bif Nat.beq id' id then Wk bC Kp.n st' else Kp.x id' st',r:=Kp.r };simp only[e]at this;exact this
  |nil=>exact plain _ h
  |seq a b=>exact plain _ h
  |loop j a=>exact plain _ h
  |range j s a=>exact plain _ h
 |loop c ih=>
  intro bC R a q K r Kp h hK;cases a with
  |loop jt a=>
   unfold ny at h;simp only at h;split at h;exact(bV h).elim;rename_i j hjo;have hj:=abV hjo;have hjf:JOk q.fresh.st j:=hj;obtain⟨x0,hx0,hb0⟩:=oQ hjf (qY.refl q.fresh) h;obtain⟨n0,hn0⟩:=abT hx0;generalize hB:(λz=>(frX ⟨xU j z,[],[]⟩ λq'=>ny T tt ety N bC c (Tup j.tys ⊕ R) a q'
     { n:=λq'=>wG bC j q' λx=>.ret (.inl x),x:=λid q'=>(K.x id (q'.since ⟨q'.st,newS j.slots++q.ds,tX j.aW++q.od⟩)).map .inr,r:=λq'=>(K.r (q'.since ⟨q'.st,newS j.slots++q.ds,tX j.aW++q.od⟩)).map .inr }).run)=B at hn0
   let P:List P->Nat->Prop:=λvs n=>∃x,vs=(j.pay (Tup.lD j.tys x)).map bY/\iD B n x=some r
   refine .mk j.sh.er (λvs=>∃n,P vs n) (λvs=>JR (P vs)) ?_ ?_
   .obtain ⟨hs,gs,m,vs,h0,h1,h2,rfl⟩:=hb0;exact⟨hs,gs,m,_,h0,h1,h2,n0,x0,rfl,hn0⟩
   .intro us hI;obtain⟨⟨x,hus,hl⟩,hmin⟩:=Fz hI;generalize hn:JR (P us)=n at hl hmin;cases n with
    |zero=>cases hl
    |succ n=>
     simp only[iD]at hl;cases hb:B x with
     |none=>rw[hb]at hl;cases hl
     |some v=>
      rw[hb]at hl;have hb2:=hb;rw[<-hB]at hb2;simp only[sD]at hb2;have e:=xX (Vj hj x);rw[<-hus]at e;rw[<-e];refine ih hb2 ⟨λq' hr hq=>?_,λid q' hr hq=>?_,λq' hr hq=>?_⟩
      .obtain ⟨y,hy,hbk⟩:=oQ (q0:=⟨xU j x,[],[]⟩) (ae9 hj x) hr hq;have hy:some (Sum.inl y:Tup j.tys ⊕ R)=some v:=hy;cases hy;have hl:iD B n y=some r:=hl;obtain⟨hs,gs,m,vs,h0,h1,h2,rfl⟩:=hbk;have hP:P ((j.pay (Tup.lD j.tys y)).map bY) n:=⟨y,rfl,hl⟩;refine⟨hs,gs,m,_,h0,h1,h2,⟨n,hP⟩,?_⟩;have:=(Fz ⟨n,hP⟩).2 n hP;omega
      .cases v with
       |inl y=>exact(vT hq).elim
       |inr r'=>have hl:some r'=some r:=hl;cases hl;exact hK.x id (q'.since ⟨q'.st,newS j.slots++q.ds,tX j.aW++q.od⟩) (MK hj hr) (GR hq)
      .cases v with
       |inl y=>exact(vT hq).elim
       |inr r'=>have hl:some r'=some r:=hl;cases hl;exact hK.r (q'.since ⟨q'.st,newS j.slots++q.ds,tX j.aW++q.od⟩) (MK hj hr) (GR hq)
  |nil=>exact(bV h).elim
  |seq a b=>exact(bV h).elim
  |meet e j a=>exact(bV h).elim
  |range j s a=>exact(bV h).elim
 |exit id=>intro bC R a q K r Kp h hK;exact hK.x id q (qY.refl q) h
 |ret=>intro bC R a q K r Kp h hK;exact hK.r q (qY.refl q) h
 |label l=>intro bC R a q K r Kp h hK;exact hK.n q (qY.refl q) h
 |scope c ih=>intro bC R a q K r Kp h hK;exact ih h hK
 |_=>intro bC R a q K r Kp h;exact(bV h).elim
end
end Go.Fg

namespace Go.Fg
open Go.Fw
section
variable [RE]
theorem ab1{tt:TT}{st:iQ}{r:ResultVar}{x:TS}(h:WO tt st r=some x):YT tt (aP st) r=some (aZ x):=by
 cases r with
 |tmp t=>simp only[WO,Q0]at h;subst h;rfl
 |cell a t=>
  simp only[WO]at h;split at h
  rotate_left
  cases h;rename_i i g off ht hs;split at h
  rotate_left
  cases h;rename_i ws hg;obtain⟨hb,h⟩:=bM h;cases h;obtain⟨h1,h2⟩:=ig hb;have hs':(aP st).s a=.v (.one (.box g off)):=by show aZ (st.gs a)=_;rw[hs];rfl
  have hg':(aP st).o g=.box (ws.map bQ):=nT hg;simp only[YT,ht,hs',hg',W5];rw[Qt ⟨Wf h1,KR h2⟩,kN,VM,Vc]
theorem ML{tt:TT}{st:iQ}:∀{rs:List ResultVar} {xs:List TS},Jj tt st rs=some xs->EX tt (aP st) rs=some (xs.map aZ)
 | [],xs,h=>by simp only[Jj,Q0]at h;subst h;rfl
 |r::rs,xs,h=>by
  simp only[Jj]at h;split at h
  .rename_i h1 h2;cases h;simp only[EX,ab1 h1,ML h2,X2]
  .cases h
theorem RP:∀(xs:List TS) (n k:Nat),jl .no (Vh n xs) (n+k)=xs.getD k .no
 | [],n,k=>rfl
 |x::xs,n,0=>by simp[Vh,jl]
 |x::xs,n,k+1=>by
  have:Nat.beq (n+(k+1)) n=false:=by
   cases h:Nat.beq (n+(k+1)) n with
   |false=>rfl
   |true=>have:=Qf h;omega
  simp only[Vh,jl,this,cond_false,List.getD_cons_succ];have e:n+(k+1)=(n+1)+k:=by omega
  rw[e];exact RP xs (n+1) k
theorem Xr{tt:TT}{sp:dA}{ts:List ResultVar}{q:jw}{y:Tup sp.aO.tys}(h:(aeR tt sp ts q).run=some y):Fw.Fin tt sp.er ts ((Tup.lD sp.aO.tys y).map bY) (aP q.st):=by
 unfold aeR at h;split at h;exact(bV h).elim;rename_i xs hxs;simp only at h;split at h;exact(bV h).elim;rename_i hk;obtain⟨hk,hk2⟩:=ig hk;split at h;exact(bV h).elim;rename_i vs hvs;split at h;exact(bV h).elim;rename_i x hx;have h:some x=some y:=h;cases h;unfold Fw.Fin;rw[ML hxs];simp only;obtain⟨c1,c2⟩:=Jr hvs;have e:aP { s:=Vh 0 xs,o:=q.st.o,u:=q.st.u }=QJ (xs.map aZ) (aP q.st):=by refine St.ext' (λt=>?_) (λg=>rfl) λg=>rfl;show aZ (jl .no (Vh 0 xs) t)=(xs.map aZ).getD t .no;have:=RP xs 0 t;rw[V1]at this;rw[this,Mc]
 obtain⟨f1,f2⟩:=Xo hk2;rw[RI f2,nZ,e]at c1;rw[nZ,e]at f1;refine .mk _ _ _ _ f1 hk c1 ?_;rw[GN _ hx]
def au(Pg:Program)(f:FuncId)(sp:aS):Prop:=Sound Pg f sp.er
def ku.of(l:List (Nat×aS)):ku:=λf=>l.lookup f
def Zq(Pg:Program):List (Nat×aS)->Prop
 | []=>True
 |p::r=>au Pg (p.1 % 1000000) p.2/\Zq Pg r
theorem Zq.sound{Pg:Program}:∀{l:List (Nat×aS)},Zq Pg l->∀f sp,lN (ku.of l) f=some sp->Sound Pg (f % 1000000) sp
 | [],_,f,sp,h=>by cases h
 |(g,s)::l,⟨h1,h2⟩,f,sp,h=>by
  simp only[lN,ku.of,List.lookup]at h;split at h
  .rename_i e;have e:f=g:=by simpa using e
   subst e;cases h;exact h1
  .exact Zq.sound h2 f sp h
theorem dD{Pg:Program}{f:FuncId}{fn:Func}{c:Code}{sp:aS}(hf:Pg.funcs[f]?=some fn)(hb:fn.body=some c)(hname:(fn.name == "runtime.NumGoroutine")=false)(hok:sp.sig.er.ok=true)(h :∀x,sp.f x=none):au Pg f sp:=by
 refine⟨hok,λargs w=>?_,λE w vals gh ins cZ hR=>?_⟩
 .have hname':¬ fn.name = "runtime.NumGoroutine" :=by simpa using hname
  simp[callFunc,hf,hname',hb]
 .obtain ⟨x,y,hy,_⟩:=hR;have hy:=(OO hy).1;rw[h x]at hy;cases hy
theorem vU(e:Ty)(l:List (Dt e)):(aC e l).length=List.length (α:=Dt e) l:=by simp[aC]
theorem Ef{R:Type}{a b:Nat->TO}{K:Prog R}{y:R}:∀{gs:List Nat},(Aa a b K gs).run=some y->K.run=some y/\∀g∈gs,(dJ (a g)).like (dJ (b g))
 | [],h=>⟨h,λg hg=>by cases hg⟩
 |g::gs,h=>by
  unfold Aa at h;have key :∀{x y:TO},Rj x y=.yes->(dJ x).like (dJ y):=by intro x y hxy;cases x<;>cases y<;>simp only[Rj]at hxy<;>first|trivial|(cases hxy)|(exfalso;revert hxy;cases Nat.beq _ _<;>intro hxy<;>cases hxy)
  have key2 :∀{x y:TO} {n m:Nat},Rj x y=.len n m->n=m->(dJ x).like (dJ y):=by
   intro x y n m hxy hnm;cases x<;>cases y<;>simp only[Rj]at hxy<;>first|(cases hxy)|skip
   .rename_i e l _ _ _ e' l';cases hb:Nat.beq (size e) (size e')with
    |false=>rw[hb]at hxy;cases hxy
    |true=>rw[hb]at hxy;cases hxy;exact⟨Qf hb,by rw[vU,vU];exact hnm⟩
   .rename_i e _ l _ _ _ e' _ l' _;cases hb:Nat.beq (size e) (size e')with
    |false=>rw[hb]at hxy;cases hxy
    |true=>rw[hb]at hxy;cases hxy;exact⟨Qf hb,by rw[vU,vU];exact hnm⟩
  split at h
  .rename_i hc;obtain⟨h1,h2⟩:=Ef h;refine⟨h1,λg' hg=>?_⟩;rcases Xs.1 hg with rfl|hg
   .exact key hc
   .exact h2 g' hg
  .exact (bV h).elim
  .rename_i n m hc;have h:ck (decide (n=m)) (Aa a b K gs).run=some y:=h;unfold ck at h;cases hd:decide (n=m)with
   |false=>rw[hd]at h;cases h
   |true=>
    rw[hd]at h;obtain⟨h1,h2⟩:=Ef (gs:=gs) h;refine⟨h1,λg' hg=>?_⟩;rcases Xs.1 hg with rfl|hg
    .exact key2 hc (Wz hd)
    .exact h2 g' hg
theorem Zr{Pg:Program}{tt:TT}{T:ku}{ety:TypeId->Option Ty}{f:FuncId}{fn:Func}{c:Code}{sp:aS}(ts:List ResultVar)(a:fU)(hf:Pg.funcs[f]?=some fn)(hb:fn.body=some c)(hname:(fn.name == "runtime.NumGoroutine")=false)(hres:fn.results=ts.toArray)
  (hok:sp.sig.er.ok=true) (Kt:(sp.sig.bC.all λg=>sp.sig.pin.er.nms.contains g)=true) (hn:sp.sig.bD<=fn.ntmps) (hnr:ts.length=sp.sig.cO)
  (hT :∀f sp,lN T f=some sp->Sound Pg (f % 1000000) sp) (htt:iC Pg tt) (hm:Fit Pg)
  (h :∀x,(abA T tt ety fn.ntmps sp.sig ts c a x).run=sp.f x):au Pg f sp:=by
 have hcase :∀x y,sp.ff x=some y->(tfun T tt ety fn.ntmps sp.sig ts c a x).run=some y/\∀g∈sp.sig.er.bC,((Fw.mk sp.sig.pin.er ((Tup.lD sp.sig.pin.tys x).map bY)).o g).like ((Fw.mk sp.sig.aO.er ((Tup.lD sp.sig.aO.tys y).map bY)).o g):=by
  intro x y hy0;have hy:=(OO hy0).1;have hx:=h x;rw[hy]at hx;unfold abA at hx;cases hbx:sp.sig.er.ahV with
  |true=>rw[hbx]at hx;exact⟨hx,zf.YA hbx⟩
  |false=>
   rw[hbx]at hx;have hx:(tfun T tt ety fn.ntmps sp.sig ts c a x).run.bind (λz=>(Aa (mkT sp.sig.pin (Tup.lD sp.sig.pin.tys x)).go (mkT sp.sig.aO (Tup.lD sp.sig.aO.tys z)).go (.ret z) sp.sig.bC).run)=some y:=hx;cases hr:(tfun T tt ety fn.ntmps sp.sig ts c a x).run with
   |none=>rw[hr]at hx;cases hx
   |some z=>rw[hr]at hx;obtain⟨h1,h2⟩:=Ef (R:=Tup sp.sig.aO.tys) (K:=.ret z) hx;have h1:some z=some y:=h1;cases h1;refine⟨rfl,λg hg=>?_⟩;have e1:=ZS (λs=>s.o g) (xX (vM _ x));have e2:=ZS (λs=>s.o g) (xX (vM _ y));rw[<-e1,<-e2];exact h2 g hg
 refine aaW (T:=lN T) (tt:=tt) (c:=c) ts hf hb hname hres hok Kt (λins cZ ⟨x,y,hy,hi,ho⟩=>by subst hi;subst ho;exact(hcase x y hy).2) hn hnr hT htt hm ?_;rintro ins cZ ⟨x,y,hy,rfl,rfl⟩;have hx:=(hcase x y hy).1;unfold tfun at hx;rw[sD]at hx;have e:=xX (vM _ x);have hx:=Zp c hx (Kp:=ah_ tt sp.sig.er ts ((Tup.lD sp.sig.aO.tys y).map bY)) ⟨λq' _ hq=>Xr hq,λid q' _ hq=>(bV hq).elim,λq' _ hq=>Xr hq⟩;have hx:exec (lN T) tt fn.ntmps sp.sig.er.bC c (aP (mkT sp.sig.pin (Tup.lD sp.sig.pin.tys x))) (ah_ tt sp.sig.er ts ((Tup.lD sp.sig.aO.tys y).map bY)):=hx;rw[e]at hx;exact hx
end
end Go.Fg

namespace Go.Fg
open Go.Fw Go.Proofs
def OZ(w:World)(l:List Int)(G:Gh):Prop:=
 (G.ad=none/\G.cap=0/\l=[])\/
 ∃b o c e,G.ad=some ⟨b,o,none⟩ /\w.heap[b]?=some (.cells c e (0,0))/\o+G.cap<=c.size/\(l.length<=G.cap/\G.cap<=9223372036854775807)/\
  ∀(n:Nat) x,l[n]?=some x->c[o+n]?=some (.int .i64 x)
section
variable [RE]
theorem mG(l:List Int):aC (.int .i64) l=l.map λx=>[P.int .i64 x]:=rfl
theorem ae_{E:Env}{st:St}{gh:Nat->Gh}{w:World}{a i:Bool}{l:List Int}{G:Gh}(h:iw E st gh w a i 1 (aC (.int .i64) l) G):OZ w l G:=by
 rcases h with⟨h1,h2,h3⟩|⟨ad,c,e,h1,h2,h3,h4,h5,h6,h7⟩
 .refine .inl ⟨h1,h2,?_⟩;rw[mG]at h3;simpa using h3
 .obtain ⟨b,o,sp⟩:=ad;simp only at h2 h3 h4 h7;subst h2;refine .inr ⟨b,o,c,e,h1,h3,by omega,by simpa[mG]using h5,λn x hx=>?_⟩;have hx':(aC (.int .i64) l)[n]?=some [P.int .i64 x]:=by rw[mG,Z3,hx];rfl
  obtain⟨v,hv,hr⟩:=h7 n _ hx' 0 (P.int .i64 x) rfl;rw[hr.dR]at hv;rw[<-hv];congr 1;omega
theorem afa{E:Env}{st:St}{gh:Nat->Gh}{w:World}{a i:Bool}{l:List Int}{G:Gh}(h:OZ w l G):iw E st gh w a i 1 (aC (.int .i64) l) G:=by
 rcases h with⟨h1,h2,h3⟩|⟨b,o,c,e,h1,h3,h4,h5,h7⟩
 .exact .inl ⟨h1,h2,by rw[h3];rfl⟩
 .refine .inr ⟨⟨b,o,none⟩,c,e,h1,rfl,h3,by simpa using h4,by simpa[mG]using h5,λx hx=>?_,λn x hx j y hy=>?_⟩
  .rw [mG,XN]at hx;obtain⟨z,_,rfl⟩:=hx;rfl
  .rw [mG,Z3]at hx;cases hl:l[n]? with
   |none=>rw[hl]at hx;cases hx
   |some z=>
    rw[hl]at hx;simp only[W2,Q0]at hx;subst hx;cases j with
    |succ j=>simp at hy
    |zero=>simp only[J2,Q0]at hy;subst hy;refine⟨_,?_,.int .i64 z⟩;rw[<-h7 n z hl];congr 1;simp
end
theorem heap_setCell(w:World)(b o:Nat)(v:Value)(c:Array Value)(e:TypeId)(h:w.heap[b]?=some (.cells c e (0,0))):
  (w.setCell ⟨b,o,none⟩ v).heap[b]?=some (.cells (c.setIfInBounds o v) e (0,0))/\∀b',b'≠b->(w.setCell ⟨b,o,none⟩ v).heap[b']?=w.heap[b']?:=by
 refine⟨?_,λb' hb=>?_⟩
 .simp [World.setCell,ve,h]
 .simp [World.setCell,ve,Ne.symm hb]
theorem zq(b:Nat)(e:TypeId):∀(vs:List Value) (o:Nat) (w:World) (c:Array Value),w.heap[b]?=some (.cells c e (0,0))->o+vs.length<=c.size->
  ∃c',(w.setCells b o vs).heap[b]?=some (.cells c' e (0,0))/\c'.size=c.size/\(∀k,c'[k]?=if o<=k/\k<o+vs.length then vs[k-o]? else c[k]?)/\
   (∀b',b'≠b->(w.setCells b o vs).heap[b']?=w.heap[b']?)/\(w.setCells b o vs).heap.size=w.heap.size
 | [],o,w,c,h,hs=>⟨c,h,rfl,λk=>by rw[QR (by simp)],λ_ _=>rfl,rfl⟩
 |v::vs,o,w,c,h,hs=>by
  simp only[K7]at hs;obtain⟨h1,h2⟩:=heap_setCell w b o v c e h;obtain⟨c',k1,k2,k3,k4,k5⟩:=zq b e vs (o+1) (w.setCell ⟨b,o,none⟩ v) (c.setIfInBounds o v) h1 (by simp;omega);refine⟨c',k1,by simpa using k2,λk=>?_,λb' hb=>(k4 b' hb).trans (h2 b' hb),k5.trans (by simp[World.setCell])⟩;rw[k3];simp only[K7];by_cases e1:k=o
  .subst e1;rw[QR (by omega),Qt (by omega)];simp[KM];omega
  .by_cases e2:o+1<=k/\k<o+1+vs.length
   .rw [Qt e2,Qt (by omega)];rw[show k-o=(k-(o+1))+1 by omega,VV]
   .rw [QR e2,QR (by omega)];simp[KM,Ne.symm e1]
theorem FB(b:Nat):∀(vs:List Value) (o:Nat) (w:World),(w.setCells b o vs).os=w.os/\(w.setCells b o vs).tape=w.tape/\(w.setCells b o vs).output=w.output
 | [],_,_=>⟨rfl,rfl,rfl⟩
 |_::vs,o,w=>FB b vs (o+1) _
theorem enters_of{Pg:Program}{f:FuncId}{fn:Func}{c:Code}(hf:Pg.funcs[f]?=some fn)(hb:fn.body=some c)(hname:(fn.name == "runtime.NumGoroutine")=false):Fw.Enters Pg f:=λargs w=>by
 have hname':¬ fn.name = "runtime.NumGoroutine" :=by simpa using hname
 simp[callFunc,hf,hname',hb]
section
variable [RE]
end
end Go.Fg

namespace Go.Fg
open Go.Fw Go.Proofs
section
variable [RE]
def qy:LX:=⟨[],[(70000,.arr false false true (.int .i64))]⟩
theorem ab2{E:Env}{st:St}{gh:Nat->Gh}{val:Nat->Value}{w w':World}(h:Rel E st gh val w)(hB:E.B0=w.heap.size)(l:List Int)(G:Gh)(hG:OZ w' l G)
  (hsz:w.heap.size<=w'.heap.size) (hfr :∀b,b<w.heap.size->¬ E.Wr b->w'.heap[b]?=w.heap[b]?)
  (hin :∀ad,G.ad=some ad->(w.heap.size<=ad.block\/E.Wr ad.block)/\ad.block<w'.heap.size) (hos:w'.os=w.os/\w'.tape=w.tape/\w'.output=w.output) (bG:Nat->Gh) (hgh:bG 70000=G) (hsub :∀b,G.sub b=none:=by first|exact λ_=>rfl|assumption) :
  Rel E (Fw.mk qy.er ((Tup.lD qy.tys l).map bY)) bG (λk=>([]:List Value).getD k undef) w':=by
 have hs1 :∀t,(Fw.mk qy.er ((Tup.lD qy.tys l).map bY)).s t=.no:=λt=>rfl;have ho:(Fw.mk qy.er ((Tup.lD qy.tys l).map bY)).o 70000=.arr false false true 1 (aC (.int .i64) l):=by exact ZS (O.arr false false true 1) (iV (.int .i64) l)
 have hon :∀g,g≠70000->(Fw.mk qy.er ((Tup.lD qy.tys l).map bY)).o g=.none:=λg hg=>by
  have e1:(g==70000)=false:=by simpa using hg
  show (match List.lookup g [(70000,_)]with|some x=>x|none=>O.none)=_;simp only[List.lookup,e1]
 have hu:(Fw.mk qy.er ((Tup.lD qy.tys l).map bY)).used 70000=true:=rfl;have hown :∀g,((Fw.mk qy.er ((Tup.lD qy.tys l).map bY)).o g).bJ=true->g=70000:=λg hg=>by
  by_cases e:g=70000
  .exact e
  .rw [hon g e]at hg;simp[O.bJ]at hg
 generalize Fw.mk qy.er ((Tup.lD qy.tys l).map bY)=s at *;exact {
  slots:=λt=>by rw[hs1];exact .no _
  aW:=λg=>by
   by_cases e:g=70000
   .subst e;rw[ho,hgh];exact afa hG
   .rw [hon g e];trivial
  inj:=λg g' _ h1 h2 _ _=>(hown g h1).trans (hown g' h2).symm
  wr:=λg a h1 h2=>by
   have:=hown g h1;subst this;rw[hgh]at h2;rw[hB];rcases h2 with⟨ad,q1,q2⟩|q
   .rw [<-q2];exact hin ad q1
   .rw [hsub a]at q;cases q
  wi:=λg i b h1 h2 h3=>by
   by_cases e:g=70000
   .subst e;rw[ho]at h1;cases h1;rfl
   .rw [hon g e]at h1;cases h1
  ns:=λg h1 _ b=>by have:=hown g h1;subst this;rw[hgh];exact hsub b
  wb:=h.wb
  frame:=λb hb hw=>by rw[hfr b (by omega) hw];exact h.frame b hb hw
  size:=by rw[hB];exact hsz
  os:=hos.1.trans h.os
  tape:=hos.2.1.trans h.tape
  output:=hos.2.2.trans h.output
  us:=λt g hg=>by rw[hs1]at hg;simp[S.names]at hg
  uo:=λg g' hg=>by
   by_cases e:g=70000
   .subst e;rw[ho]at hg;simp[O.names]at hg
   .rw [hon g e]at hg;simp[O.names]at hg
  ul:=λg hg=>by
   by_cases e:g=70000
   .subst e;exact hu
   .exact absurd (hon g e) hg }
def uj:dA:={ bD:=1,pin:=⟨[(0,.one (.own 70000))],[(70000,.arr false false true (.int .i64))]⟩,aO:=qy,cO:=0,bC:=[70000],aQ:=[] }
def Zt(l:List Int):Option (List Int):=match decide (l.length<4611686018427387904)with
 |true=>some (l.mergeSort λx y=>decide (x<=y))
 |false=>none
def Xt:aS:=⟨uj,λx=>Zt x⟩
theorem Zu{Pg:Program}{f:FuncId}(aoN:Fw.Enters Pg f)
  (hD :∀(b off c:Nat) (zs:List Int) (w:World),Go.Sort.Holds (Value.int .i64) w b off zs.toArray->b<w.heap.size->zs.length<4611686018427387904->
   Calls Pg f #[.slice (some ⟨b,off,none⟩) zs.length c] w λe w'=>e=.returned (.tuple #[])/\∃n os,w'=Go.Sort.grow (Go.Sort.putRow (Value.int .i64) (Go.Sort.ahead w n) b off (zs.mergeSort λx y=>decide (x<=y)).toArray) os)
  (hE :∀(a:Option Addr) (c:Nat) (w:World),Calls Pg f #[.slice a 0 c] w λe w'=>e=.returned (.tuple #[])/\w'=w):au Pg f Xt:=by
 refine⟨rfl,aoN,λE w vals gh ins cZ hR hB hw0 KH hlen=>?_⟩;obtain⟨l,y,hy,rfl,rfl⟩:=hR;change List Int at l;change List Int at y;have hy:Zt l=some y:=hy;unfold Zt at hy;split at hy
 .rename_i hc;simp only[XX]at hc;cases hy;have ho:(Fw.mk uj.pin.er ((Tup.lD uj.pin.tys l).map bY)).o 70000=.arr false false true 1 (aC (.int .i64) l):=by exact ZS (O.arr false false true 1) (iV (.int .i64) l)
  have ho2:(Fw.mk uj.aO.er ((Tup.lD uj.aO.tys (l.mergeSort λx y=>decide (x<=y))).map bY)).o 70000=.arr false false true 1 (aC (.int .i64) (l.mergeSort λx y=>decide (x<=y))):=by exact ZS (O.arr false false true 1) (iV (.int .i64) (l.mergeSort λx y=>decide (x<=y)))
  have r0:vals.getD 0 undef=.slice (gh 70000).ad l.length (gh 70000).cap:=by
   have h0:=(KH.slots 0).dB;cases h0 with
   |own _ _ hv hx=>exact(hx _ _ (O.jM ho)).trans (ZS (λn=>Value.slice (gh 70000).ad n (gh 70000).cap) (dQ (.int .i64) l))
  have ak4:vals.toArray=#[.slice (gh 70000).ad l.length (gh 70000).cap]:=by
   have hl3:vals.length=1:=hlen
   match vals,hl3 with
   | [a],_=>simp at r0;simp[r0]
  rw[ak4];have aoO :∀b,(gh 70000).sub b=none:=KH.ns 70000 rfl rfl;have hA:OZ w l (gh 70000):=by have h0:=KH.aW 70000;have h1:lF E _ gh w (.arr false false true 1 (aC (.int .i64) l)) (gh 70000):=ho▸h0;exact ae_ h1
  have Eu:((Fw.mk uj.pin.er ((Tup.lD uj.pin.tys l).map bY)).o 70000).like ((Fw.mk uj.aO.er ((Tup.lD uj.aO.tys (l.mergeSort λx y=>decide (x<=y))).map bY)).o 70000):=by rw[ho,ho2];refine⟨rfl,?_⟩;exact(dQ (.int .i64) l).trans ((qd l).symm.trans (dQ (.int .i64) (l.mergeSort λx y=>decide (x<=y))).symm)
  have Uu :∀(bG:Nat->Gh),bG 70000=gh 70000->∀g∈Xt.er.sig.bC,((bG g).ad=(gh g).ad/\(bG g).cap=(gh g).cap)/\((Fw.mk uj.pin.er ((Tup.lD uj.pin.tys l).map bY)).o g).like ((Fw.mk uj.aO.er ((Tup.lD uj.aO.tys (l.mergeSort λx y=>decide (x<=y))).map bY)).o g):=λbG e g hg=>by have:g=70000:=Q6.1 hg;subst this;exact⟨⟨by rw[e],by rw[e]⟩,Eu⟩
  rcases hA with⟨h1,h2,h3⟩|⟨b,o,c,e,h1,h3,h4,h5,h7⟩
  .subst h3;refine(hE (gh 70000).ad (gh 70000).cap w).mono λe w' ⟨he,hw⟩=>?_;subst hw;refine⟨[],gh,rfl,by rw[he];rfl,?_,Uu gh rfl⟩;have:([]:List Int).mergeSort (λx y=>decide (x<=y))=[]:=by simp
   rw[this];exact ab2 KH hB [] (gh 70000) (.inl ⟨h1,h2,rfl⟩) (ZD _) (λ_ _ _=>rfl) (λad had=>by rw[h1]at had;cases had) ⟨rfl,rfl,rfl⟩ _ rfl
  .rw [h1];have hwr:=KH.wr 70000 b rfl (Gh.jC h1);have hcell :∀k,k<l.length->w.cell? ⟨b,o+k,none⟩=some (.int .i64 (l.getD k 0)):=λk hk=>by have:=h7 k l[k] (Q3 hk);simp[World.cell?,h3,this,hk]
   have hH:Go.Sort.Holds (Value.int .i64) w b o l.toArray:=by
    have:=Lib.holds_of_ints (n:=l.length) (ZD _) hcell (λk hk=>by simp[World.frozen?,h3])
    rwa [W8]at this
   refine(hD b o (gh 70000).cap l w hH hwr.2 hc).mono λe' w' ⟨he,q,os,hw⟩=>?_;rw[Lib.putRow_eq_setCells (Value.int .i64) w b o l.toArray _ q hH (by simp)]at hw;generalize hm:(l.mergeSort λx y=>decide (x<=y))=m at *;have hlen2:m.length=l.length:=by rw[<-hm];exact qd l
   obtain⟨c',k1,k2,k3,k4,k5⟩:=zq b e (m.map (Value.int .i64)) o (w.drewN q) c h3 (by rw[W5];omega);have hos:=FB b (m.map (Value.int .i64)) o (w.drewN q);generalize (w.drewN q).setCells b o (m.map (Value.int .i64))=w1 at *;have hlt :∀b',b'<w.heap.size->w'.heap[b']?=w1.heap[b']?:=λb' hb'=>by subst hw;show (w1.heap++os)[b']?=_;exact K1 (by rw[k5];exact hb')
   have hsz:w.heap.size<=w'.heap.size:=by subst hw;show _<=(w1.heap++os).size;rw[za,k5];exact Nat.le_add_right _ _
   have aoP:w'.os=w.os/\w'.tape=w.tape/\w'.output=w.output:=by subst hw;exact hos
   have hwr2:=hwr.2;refine⟨[],gh,rfl,by rw[he];rfl,?_,Uu gh rfl⟩;refine ab2 KH hB _ (gh 70000) (.inr ⟨b,o,c',e,h1,by rw[hlt b hwr2];exact k1,by rw[k2];exact h4,⟨by omega,h5.2⟩,λn x hx=>?_⟩)
    hsz (λb' hb' hnw=>(hlt b' hb').trans (k4 b' λeb=>?_)) (λad had=>?_) aoP _ rfl
   .have hn:=(Q4.1 hx).1;rw[k3,Qt (by simp;omega)];simp[hx]
   .subst eb;rcases hwr.1 with hq|hq
    .rw [hB]at hq;omega
    .exact hnw hq
   .rw [h1]at had;cases had;refine⟨?_,Vi hwr2 hsz⟩;have:=hwr.1;rw[hB]at this;exact this
 .cases hy
end
end Go.Fg

namespace Go.Fw
open Go.RowKit
variable [dV]
def JU(w:World):Prop :=∀g sz rows,dV.gt g=some (sz,rows)->g<w.heap.size/\∀(n:Nat) x,rows[n]?=some x->x.length=sz/\∀(j:Nat) y,x[j]?=some y->∃u,w.cell? ⟨g,n*sz+j,none⟩=some u/\bU w (λ_=>False) y u
theorem RQ(h :∀g,dV.gt g=none)(w:World):JU w:=λg sz rows hg=>by rw[h]at hg;cases hg
def E0(w:World)(hw:JU w):Env:={ FA:=λ_=>True,FI:=λ_=>False,B0:=w.heap.size,w0:=w,Wr:=λ_=>False,hg:=λg sz rows hg=>⟨(hw g sz rows hg).1,λh=>h,(hw g sz rows hg).2⟩ }
def G0:Nat->Gh:=λ_=>Gh.nil
theorem Zv{Pg:Program}{f:FuncId}{sp:Spec}(hs:Sound Pg f sp)(aaC:sp.sig.pin.aW=[])(hnr:sp.sig.cO=1)(V7:sp.sig.aO=⟨[(0,.one (.p false false))],[]⟩){vals:List Value}(hlen:vals.length=sp.sig.bD){w:World}(hw:JU w){ins:List P}
  (hR:sp.R ins [.bool true]) (qj :∀t,dn (E0 w hw) (Fw.mk sp.sig.pin ins) G0 w ((Fw.mk sp.sig.pin ins).s t) (vals.getD t undef)) :
  Calls Pg f vals.toArray w λe w'=>e=.returned (.bool true)/\Below w.heap.size w w':=by
 obtain⟨hok,_,hS⟩:=hs;have hno :∀g,(Fw.mk sp.sig.pin ins).o g=.none:=λg=>Ll (by simp[Shape.nms,aaC]);have hok':=hok;simp only[zf.ok,X1]at hok';have hus:=agX hok'.1.1.1.1.1.1.1.1 ins;have hrel:Rel (E0 w hw) (Fw.mk sp.sig.pin ins) G0 (λk=>vals.getD k undef) w:=⟨qj,λg=>by rw[hno];trivial,λg g' a (h:((Fw.mk sp.sig.pin ins).o g).bJ=true)=>(by rw[hno]at h;cases h),λg a (h:((Fw.mk sp.sig.pin ins).o g).bJ=true)=>(by rw[hno]at h;cases h),λg i b (h:((Fw.mk sp.sig.pin ins).o g).inner=some i)=>(by rw[hno]at h;cases h),λg (h:((Fw.mk sp.sig.pin ins).o g).bJ=true)=>(by rw[hno]at h;cases h),λb hb=>hb.elim,λb _ _=>rfl,ZD _,rfl,rfl,rfl,hus.1,hus.2.1,hus.2.2⟩
 refine Calls.mono (hS (E0 w hw) w vals G0 ins [.bool true] hR rfl rfl hrel hlen) λe w' he=>?_;obtain⟨rs,bG,hrl,rfl,hx,_⟩:=he;rw[hnr]at hrl
 match rs,hrl with
 | [v],_=>
 refine⟨?_,⟨hx.os,hx.tape,hx.output,hx.size,λb hb=>hx.frame b hb (λh=>h)⟩⟩;have h0:=hx.slots 0;rw[V7]at h0;have h1:dn (E0 w hw) (Fw.mk ⟨[(0,.one (.p false false))],[]⟩ [.bool true]) bG w' (.v (.one (.p false false (.bool true)))) v:=h0;rw[show v=.bool true from h1.eX.mV];rfl
theorem afb{w:World}{k:IntKind}{a:Option Addr}{len cap:Nat}{zs:List Int}{ok:Nat->Prop}(hok :∀b,b<w.heap.size->ok b)
  (h:(a=none/\len=0/\cap=0/\zs=[])\/∃x,a=some x/\len<=cap/\zs.length=cap/\∀i,i<zs.length->w.cell? (x.add i)=some (.int k (zs.getD i 0))) :
  bU w ok (.sl 1 ((zs.take len).map λz=>[.int k z])) (.slice a len cap):=by
 rcases h with⟨rfl,rfl,rfl,rfl⟩|⟨x,rfl,hl,hz,hc⟩
 .exact .nil _ _ _
 .by_cases h0:len=0
  .subst h0;exact .nil _ _ _
  .have hc0:=hc 0 (by omega);have hs:x.spot=none:=by
    unfold World.cell? Addr.add at hc0;cases hx:x.spot with
    |none=>rfl
    |some s=>
     exfalso;split at hc0
     .simp [hx]at hc0
     .cases hc0
   have hb:x.block<w.heap.size:=by
    unfold World.cell? at hc0;have e:(x.add 0).block=x.block:=by simp[Addr.add]
    rw[e]at hc0;by_cases hlt:x.block<w.heap.size
    .exact hlt
    .rw [Array.getElem?_eq_none (by omega)]at hc0;cases hc0
   have hlen:((zs.take len).map λz=>[P.int k z]).length=len:=by simp;omega
   have:=bU.sl (w:=w) (ok:=ok) 1 ((zs.take len).map λz=>[P.int k z]) x cap (λi _=>.int k (zs.getD i 0)) hs (λ_=>hok _ hb) (by omega) (λr hr=>by obtain⟨z,_,rfl⟩:=XN.1 hr;rfl) (λi r hr j y hj=>?_) (λi r hr j y hj=>?_)
   .rw [hlen]at this;exact this
   all_goals
    have hi:i<len:=by have:=(Q4.1 hr).1;omega
    rw[Z3,ZZ,Qt hi]at hr;obtain⟨z,hz',rfl⟩:=W7.1 hr;have hj0:j=0:=by
     cases j with
     |zero=>rfl
     |succ j=>simp at hj
    subst hj0;simp only[J2,Q0]at hj;subst hj
   .have:=hc i (by omega);rw[<-this];have e:x.add i=⟨x.block,x.off+i,none⟩:=by obtain⟨b,o,sp⟩:=x;simp only at hs;subst hs;exact Addr.gX b o i
    rw[e];simp
   .rw [Q2,hz'];exact .int k z
end Go.Fw
namespace Go.Fg
open Go.Fw Go.RowKit
section
variable [RE]
theorem afc{w:World}{k:IntKind}{a:Option Addr}{len cap:Nat}{zs:List Int}{ok:Nat->Prop}(hok :∀b,b<w.heap.size->ok b)
  (h:(a=none/\len=0/\cap=0/\zs=[])\/∃x,a=some x/\len<=cap/\zs.length=cap/\∀i,i<zs.length->w.cell? (x.add i)=some (.int k (zs.getD i 0))) :
  bU w ok (bY ⟨.sl (.int k),zs.take len⟩) (.slice a len cap):=by
 have h0:=afb hok h;have e:aC (.int k) (zs.take len)=(zs.take len).map λz=>[P.int k z]:=rfl;rw[Gy,e];have hlen:len=(zs.take len).length:=by
  rcases h with⟨_,rfl,_,rfl⟩|⟨x,_,h1,h2,_⟩
  .rfl
  .simp;omega
 cases hl:zs.take len with
 |nil=>rw[hl]at hlen;have hlen:len=0:=hlen;subst hlen;exact .nil _ _ _
 |cons z l=>rw[hl]at h0;exact h0
end
end Go.Fg

namespace Go.Fg
open Go.Fw
def Ok{α:Type}(x:Option α)(Q:α->Prop):Prop :=∃y,x=some y/\Q y
def Gq{α β:Type}(P:α->Prop)(Q:β->Prop):α ⊕ β->Prop
 |.inl a=>P a
 |.inr b=>Q b
theorem ab3{α β:Type}{P:α->Prop}{Q:β->Prop}{b:β}:Gq P Q (.inr b)↔Q b:=Iff.rfl
theorem yN{α:Type}{y:α}{Q:α->Prop}:Ok (some y) Q↔Q y:=⟨λ⟨_,h,hq⟩=>by cases h;exact hq,λh=>⟨_,rfl,h⟩⟩
theorem GU{α β:Type}{x:Option α}{f:α->Option β}{Q:β->Prop}:Ok (Option.bind x f) Q↔Ok x λy=>Ok (f y) Q:=by
 cases x with
 |none=>exact⟨λ⟨_,h,_⟩=>(by cases h),λ⟨_,h,_⟩=>(by cases h)⟩
 |some z=>rw[yN];rfl
theorem ab4{α:Type}{b:Bool}{x:Option α}{Q:α->Prop}:Ok (ck b x) Q↔b=true/\Ok x Q:=by
 cases b with
 |false=>exact⟨λ⟨_,h,_⟩=>(by cases h),λ⟨h,_⟩=>(by cases h)⟩
 |true=>exact⟨λh=>⟨rfl,h⟩,λh=>h.2⟩
theorem Vk{α:Type}{b:Bool}{x y:Option α}{Q:α->Prop}:Ok (bif b then x else y) Q↔(b=true->Ok x Q)/\(b=false->Ok y Q):=by
 cases b with
 |false=>exact⟨λh=>⟨λe=>(by cases e),λ_=>h⟩,λh=>h.2 rfl⟩
 |true=>exact⟨λh=>⟨λ_=>h,λe=>(by cases e)⟩,λh=>h.1 rfl⟩
theorem ab5{α β:Type}{x:Option (α ⊕ β)}{f:α->Option β}{Q:β->Prop}:Ok (dY x f) Q↔Ok x (Gq (λa=>Ok (f a) Q) Q):=by
 unfold dY;refine GU.trans ⟨λ⟨y,hy,h⟩=>⟨y,hy,?_⟩,λ⟨y,hy,h⟩=>⟨y,hy,?_⟩⟩
 .cases y with
  |inl a=>exact h
  |inr b=>exact(yN (Q:=Q)).1 h
 .cases y with
  |inl a=>exact h
  |inr b=>exact(yN (Q:=Q)).2 h
theorem jA{α:Type}{x:Option α}{Q Q':α->Prop}(h:Ok x Q)(hq :∀y,Q y->Q' y):Ok x Q':=let ⟨y,hy,hz⟩:=h;⟨y,hy,hq y hz⟩
theorem ok_eq{α:Type}{x:Option α}{y:α}(h:Ok x λz=>z=y):x=some y:=let ⟨_,hy,e⟩:=h;e▸hy
section
variable [RE]
theorem bf{A R:Type}{body:A->Option (A ⊕ R)}{Q:R->Prop}(I:A->Prop)(μ:A->Nat){a:A}(ha:I a)
  (h :∀a,I a->Ok (body a) (Gq (λa'=>I a'/\μ a'<μ a) Q)):Ok (aT body a) Q:=by
 have key :∀n a,I a->μ a<n->Ok (aT body a) Q:=by
  intro n
  induction n with
  |zero=>intro a _ hn;omega
  |succ n ih=>
   intro a ha hn;obtain⟨y,hy,hz⟩:=h a ha;rw[Af,hy];cases y with
   |inl a'=>obtain⟨h1,h2⟩:I a'/\μ a'<μ a:=hz;exact ih a' h1 (by omega)
   |inr r=>exact⟨r,rfl,hz⟩
 exact key _ a ha (Nat.lt_succ_self _)
end
theorem aI{x:Int}(h:-9223372036854775808<=x/\x<=9223372036854775807):cu x=x:=@wrap64 ⟨λ_=>none,λ_ _ _ _=>False,λ_ h=>h⟩ x h.1 h.2
theorem ak{n:Int}{len:Nat}:inB n len=true↔0<=n/\n<len:=by simp[inB]
theorem CG{lo hi:Int}{len:Nat}:DI lo hi len=true↔(0<=lo/\lo<=hi)/\hi<=(len:Int):=by simp[DI]
theorem gy{b:Nat}{n c:Int}:o7 b n c=true↔((0<=n/\n<=c)/\b*c<=281474976710656)/\c<=9223372036854775807:=by simp[o7]
theorem Xu{p:Prop}[Decidable p]:(decide p=true)=p:=by simp
theorem RS{p:Prop}[Decidable p]:(decide p=false)=¬p:=by simp
theorem not_iff{b:Bool}:((!b)=true)=(b=false):=by cases b<;>simp
theorem afd(a b:Int):YW a b=min a b:=by unfold YW;split<;>omega
theorem tmod_lt{a b:Int}(ha:0<=a)(hb:0<b):0<=Int.tmod a b/\Int.tmod a b<b:=⟨Int.tmod_nonneg b ha,Int.tmod_lt_of_pos a hb⟩
theorem getD_at{α:Type}{l:List α}{n:Nat}(d:α)(h:n<l.length):l.getD n d=l[n]:=by rw[Q2,Q3 h];rfl
end Go.Fg

namespace Go.Fg
open Go.Fw
theorem take_snoc{α:Type}{l:List α}{i:Nat}(h:i<l.length):l.take (i+1)=l.take i++[l[i]]:=by rw[List.take_add_one,Q3 h];rfl
theorem aX{α β:Type}{x:Option α}{f:α->Option β}{Q:β->Prop}(Q':α->Prop)(h:Ok x Q')(k :∀y,Q' y->Ok (f y) Q):Ok (Option.bind x f) Q:=GU.2 (jA h k)
theorem lU{α β:Type}{x:Option α}{f:α->Option β}{Q:β->Prop}{y:α}(h:x=some y)(k:Ok (f y) Q):Ok (Option.bind x f) Q:=by rw[h];exact k
theorem bF{α:Type}{b:Bool}{x y:Option α}{Q:α->Prop}(h1:b=true->Ok x Q)(h2:b=false->Ok y Q):Ok (bif b then x else y) Q:=Vk.2 ⟨h1,h2⟩
theorem yR{α:Type}{b:Bool}{x y:Option α}{Q:α->Prop}(hb:b=false)(h2:Ok y Q):Ok (bif b then x else y) Q:=by rw[hb];exact h2
theorem goT{α:Type}{b:Bool}{x y:Option α}{Q:α->Prop}(hb:b=true)(h2:Ok x Q):Ok (bif b then x else y) Q:=by rw[hb];exact h2
theorem aY{α:Type}{b:Bool}{x:Option α}{Q:α->Prop}(hb:b=true)(h2:Ok x Q):Ok (ck b x) Q:=ab4.2 ⟨hb,h2⟩
theorem qF{α β:Type}{x:Option (α ⊕ β)}{f:α->Option β}{Q:β->Prop}(Q':α->Prop)(h:Ok x (Gq Q' Q))(k :∀y,Q' y->Ok (f y) Q):Ok (dY x f) Q:=
 ab5.2 (jA h λy hy=>by cases y with
  |inl a=>exact k a hy
  |inr b=>exact hy)
theorem ay{α:Type}{y:α}{Q:α->Prop}(h:Q y):Ok (some y) Q:=yN.2 h
section
variable [RE]
theorem aiG{A R S E:Type}{body:A->Option (A ⊕ R)}{Q:R->Prop}(l:List E)(st:Int->S->A)(g:S->E->S)(I:Nat->S->Prop){s0:S}{a0:A}(ha:a0=st 0 s0)(h0:I 0 s0)
  (hs :∀i (h:i<l.length) s,I i s->s=(l.take i).foldl g s0->Ok (body (st i s)) (Gq (λa=>a=st ((i:Int)+1) (g s l[i])/\I (i+1) (g s l[i])) Q))
  (he :∀s,I l.length s->s=l.foldl g s0->Ok (body (st l.length s)) (Gq (λ_=>False) Q)):Ok (aT body a0) Q:=by
 have key :∀k i s,i<=l.length->l.length-i=k->I i s->s=(l.take i).foldl g s0->Ok (aT body (st i s)) Q:=by
  intro k
  induction k with
  |zero=>
   intro i s hi hk h1 h2;have e:i=l.length:=by omega
   subst e;rw[W8]at h2;obtain⟨y,hy,hq⟩:=he s h1 h2;rw[Af,hy];cases y with
   |inl a=>exact hq.elim
   |inr r=>exact⟨r,rfl,hq⟩
  |succ k ih=>
   intro i s hi hk h1 h2;have hlt:i<l.length:=by omega
   obtain⟨y,hy,hq⟩:=hs i hlt s h1 h2;rw[Af,hy];cases y with
   |inl a=>obtain⟨rfl,h3⟩:a=st ((i:Int)+1) (g s l[i])/\I (i+1) (g s l[i]):=hq;have:=ih (i+1) (g s l[i]) (by omega) (by omega) h3 (by rw[take_snoc hlt,List.foldl_append,<-h2];rfl);exact this
   |inr r=>exact⟨r,rfl,hq⟩
 rw[ha];exact key l.length 0 s0 (by omega) (by omega) h0 (by simp)
end
end Go.Fg

namespace Go.Fg
open Go.Fw Go.RowKit
section
variable {H:Type} {enc:TypeId×Value->H} {P:Program} {w:World} {base:Nat} {spare:Nat->Bool} {held:Bool}
end
theorem ak5[dV]{pin:Shape}(h:pin.aW=[])(ins:List P)(w:World)(hw:JU w):∀b,b<w.heap.size->(E0 w hw).ok (Fw.mk pin ins) G0 w true false b:=by intro b hb;refine⟨.inl ⟨rfl,trivial⟩,hb,λg ad hg=>?_⟩;rw[Ll (by simp[Shape.nms,h])]at ad;cases ad
section
variable [RE]
theorem RU{w:World}{ok:Nat->Prop}(k:IntKind)(n:Int):bU w ok (bY ⟨.int k,n⟩) (.int k n):=.int k n
end
end Go.Fg

