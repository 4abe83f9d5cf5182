/-
  The framework (a machine on plain data that answers as the program does), part 4.
-/
import Derived.Shelf.Slices.Cells
import Derived.Shelf.Slices.Empties
import Derived.Shelf.Slices.Delete
import Derived.Shelf.Spec.SlicesInsertGrow
import Derived.Shelf.Sort.Plain
import Derived.Shelf.Slices.In.SortNone
import Derived.Lib.RowBridge
import Derived.Below
import Derived.OpenShut
import Derived.FnData
import Derived.LaidMore
import Derived.Test.YtoipcimfapppmaaGreatDoorZc
set_option linter.unusedSimpArgs false
set_option linter.unusedVariables false
set_option linter.unusedSectionVars false
namespace Go.Fg
open Go.Fw
section
variable [eY]
theorem EM{T:Tab}{tt:TT}{N:Nat}{ops:Array Oper}{o:Oper}{st:St}{K K':Eff->Prop}(hK :∀e,K e->K' e)(h:stepW T tt N ops o st K):stepW T tt N ops o st K':=by
 unfold stepW at *;refine ⟨h.1,?_⟩;have h:=h.2;split at h
 .exact oH (λe he=>⟨he.1,hK e he.2⟩) h
 .split at h
  .rename_i b hb;cases b with
   |true=>
    simp only [cond_true] at h ⊢;exact oH (λe he=>⟨he.1,hK e he.2⟩) h
   |false=>exact hK _ h
  .exact h
theorem Ku{T:Tab}{tt:TT}{N:Nat}{ops:Array Oper}{o:Oper}{st:St}{K K':Eff->Prop}(hK :∀e,K e->K' e)(h:CU T tt N ops o st K):CU T tt N ops o st K':=by
 unfold CU at *;split at h
 .exact ⟨h.1,λb hb=>hK _ (h.2 b hb)⟩
 .split at h
  .exact ⟨h.1,λhb=>hK _ (h.2.1 hb),λhb=>hK _ (h.2.2 hb)⟩
  .exact EM hK h
end
theorem ag1{R:Type}{b:Bool}{x:Option R}{r:R}(h:ck b x=some r):b=true/\x=some r:=by
 cases b
 .cases h
 .exact ⟨rfl,h⟩
theorem aa0{R:Type}{x y:Option R}{r:R}(h:both x y=some r):x=some r/\y=some r:=by
 unfold both at h;split at h
 .rename_i e;exact ⟨h,e▸h⟩
 .cases h
section
variable [RE]
theorem YF{R:Type}{b:Bool}{x:Prog R}{r:R}(h:(Prog.chk b x).run=some r):b=true/\x.run=some r:=ag1 h
theorem adU{A B R:Type}{n:Nat}{f:A->Option B}{a:A}{k:B->Prog R}{r:R}(h:(Prog.call n f a k).run=some r) :∃y,f a=some y/\(k y).run=some r:=by
 have h:(f a).bind (λz=>(k z).run)=some r:=h;cases hf:f a with
 |none=>rw [hf] at h;cases h
 |some y=>rw [hf] at h;exact ⟨y,rfl,h⟩
theorem cZ{R:Type}{n:Nat}{r:R}(h:(Prog.stuck n:Prog R).run=some r):False:=by cases h
theorem Dw(st:jl):(aV st).dh=λx=>bf (st.dh x):=funext (lH st)
theorem adV(x:TS):amW (bf x)=adB x:=by
 cases x with
 |v x=>cases x with
  |one x=>cases x<;>rfl
  |agg xs=>rfl
 |jD xs=>rfl
 |no=>rfl
theorem NW :∀l:List TS,X3 (l.map bf)=JV l
 | []=>rfl
 |x::l=>by
  simp only [Q6,X3,JV,adV x,NW l];cases adB x<;>rfl
theorem Kv{T:kW}{fn:Nat}{st:jl}{args:List Operand}:pick (mQ T) fn (args.map (aV st).dh)=(Ym T fn (args.map st.dh)).map aY.er:=by
 have e:args.map (aV st).dh=(args.map st.dh).map bf:=by rw [Dw,UI];rfl
 have ek:RJ fn ((args.map st.dh).map bf)=EI fn (args.map st.dh):=by
  unfold RJ EI;rw [NW];cases JV (args.map st.dh)<;>rfl
 rw [e];unfold pick Ym;rw [ek];cases Nat.blt fn 1000000 with
 |false=>rfl
 |true=>
  simp only [mQ];cases T (EI fn (args.map st.dh))<;>rfl
theorem YG{x:TS}{fn:FuncId}{caps:List TW}(h:x=.v (.one (.clo fn caps))):bf x=.v (.one (.clo fn (caps.map bV))):=by
 subst h;simp only [bf,jS,bV,zq]
theorem Kw(st:jl)(args:List Operand)(caps:List TW) :
  (args.map (aV st).dh)++(caps.map bV).map (λx=>S.v (.one x))=((args.map st.dh)++caps.map λx=>TS.v (.one x)).map bf:=by
 simp only [X2,UI,Dw];rfl
theorem NY{o:Nat->TO}{g d:Nat}{a i:Bool}{e:Ty}{ak:List (Nat×Ty)}{l:List (Dt e)}(h1:Tz (o g)=some d)(h2:xk o g=some ⟨a,i,e,ak,l⟩):Fw.kN (bU o) g=iI [(g,.aN a i e ak l none),(d,.none)]:=by
 unfold xk at h2;cases ho:o g with
 |aN a0 i0 e0 kT l0 hole=>
  rw [ho] at h1 h2;have hg:bU o g=.aN a0 i0 (size e0) (iL kT) (aH e0 l0) hole:=by simp [bU,ho,dU]
  rcases hole with _ | ⟨n,c,d'⟩
  .cases h1
  .simp only [Tz,Q0] at h1;subst h1;simp only at h2;cases hd:o d' with
   |arr fz a' i' e' l'=>
    rw [hd] at h2;cases fz with
    |true=>cases h2
    |false=>
     simp only at h2;split at h2
     .rename_i hc;cases h2;obtain ⟨k1,k2,k3⟩:=uG hc;simp only [Fw.kN,hg,iC hd];rw [if_pos ⟨k1,k3⟩,<-AU k2];rfl
     .cases h2
   |_=>rw [hd] at h2;cases h2
 |_=>rw [ho] at h1;cases h1
theorem Ky(st:jl)(u:List (Nat×TO)):aV { st with o:=Dj st.o u }=(aV st).aJ (iI u) []:=by
 refine St.ext' (λt=>rfl) (λg=>?_) λg=>by simp [aV,St.aJ]
 show dU (jO .none (Dj st.o u) g)=match (iI u).lookup g with | some x=>x | none=>dU (jO .none st.o g)
 rw [yO];have:(iI u).lookup g=(u.lookup g).map dU:=pR dU g u;rw [this];cases u.lookup g<;>rfl
theorem fP{α β:Type}{f g:α->List β} :∀{l:List α},(∀x∈l,f x=g x)->l.flatMap f=l.flatMap g
 | [],_=>rfl
 |x::l,h=>by simp only [Z2,h x (by simp),fP (l:=l) λy hy=>h y (by simp [hy])]
theorem uj(f:FuncId)(caps:List W):(W.clo f caps).names=caps.flatMap W.names:=by
 rw [W.names];have :∀(l:List {x // x∈caps}),(l.flatMap λx=>x.1.names)=(l.map (·.1)).flatMap W.names:=λl=>by rw [vn]
 rw [this,List.attach_map_subtype_val]
theorem Gv :∀(caps:List TW),yJ caps=(nS caps).flatMap W.names
 | []=>rfl
 |c::cs=>by cases c<;>simp [yJ,nS,bV,W.names,Gv cs]
theorem Bd(x:TW):W.namesT x=(bV x).names:=by
 cases x with
 |clo f caps=>simp only [W.namesT,bV,uj,Gv]
 |_=>simp only [W.namesT,bV,W.names]
theorem Kz(x:TV):V.namesT x=(jS x).names:=by
 cases x with
 |one x=>exact Bd x
 |agg xs=>
  simp only [V.namesT,jS,V.names,vn];exact fP λx _=>Bd x
theorem wL(x:TS):S.namesT x=(bf x).names:=by
 cases x with
 |v x=>exact Kz x
 |jD xs=>
  simp only [S.namesT,bf,S.names,vn];exact fP λx _=>Kz x
 |no=>rfl
theorem NZ{R:Type}{T:kW}{tt:TT}{ety:TypeId->Option Ty}{d:Nat}{st:jl}{o:Oper}{K:jI->Prog R}{r:R}(h:(Yn T tt ety d st o K).run=some r) :
  kJ (mQ T) tt d (aV st) o λe =>∃te:jI,e=te.er/\(K te).run=some r:=by
 have plain :∀op,(match jH tt ety d st.go st.dh op o.type with
   |some r=>Prog.chk r.pre (.let_ r.val λz=>K { x:=r.dst z,aJ:=r.aJ z,new:=r.new })
   |none=>match dS tt ety d st.go st.dh op o.type with
    |some r=>Prog.chk r.pre (.let_ r.val λz=>K { x:=r.dst z,aJ:=r.aJ z,new:=r.new })
    |none=>.stuck 16).run=some r->(∃dc r',dN tt dc d (aV st).o (aV st).dh op o.type=some r'/\r'.pre/\L6 r'.val λz =>∃te:jI,({ x:=r'.dst z,aJ:=r'.aJ z,new:=r'.new }:Eff)=te.er/\(K te).run=some r)\/(match kernel tt d (aV st).o (aV st).dh op o.type with
   |some r'=>r'.pre/\bif FU op then L6 r'.val λz=>(∃te:jI,({ x:=r'.dst z,aJ:=r'.aJ z,new:=r'.new }:Eff)=te.er/\(K te).run=some r) else (∃te:jI,({ x:=r'.dst r'.val,aJ:=r'.aJ r'.val,new:=r'.new }:Eff)=te.er/\(K te).run=some r)
   |none=>False):=by
  intro op h;split at h
  .rename_i rr hk;obtain ⟨h1,h2⟩:=YF h;obtain ⟨dc,r',hk',hs⟩:=Tt op rr hk;refine .inl ⟨dc,r',by rw [Dw];exact hk',hs.pre h1,L6.iff.2 ⟨{ x:=rr.dst rr.val,aJ:=rr.aJ rr.val,new:=rr.new },?_,h2⟩⟩;simp only [jI.er,hs.dst,hs.aJ,hs.new]
  refine .inr ?_;split at h
  .rename_i rr hk;obtain ⟨h1,h2⟩:=YF h;obtain ⟨r',hk',hs,hn⟩:=WB op rr hk;have hs:=hs h1;have hk':kernel tt d (aV st).o (aV st).dh op o.type=some r':=by rw [Dw];exact hk'
   rw [hk'];refine ⟨hs.pre h1,?_⟩;have key :∃te:jI,({ x:=r'.dst r'.val,aJ:=r'.aJ r'.val,new:=r'.new }:Eff)=te.er/\(K te).run=some r:=
    ⟨{ x:=rr.dst rr.val,aJ:=rr.aJ rr.val,new:=rr.new },by simp only [jI.er,hs.dst,hs.aJ,hn],h2⟩
   cases FU op with
   |true=>exact L6.iff.2 key
   |false=>exact key
  .exact (cZ h).elim
 unfold Yn at h;unfold kJ;split at h
 .rename_i f args ts hop;rw [hop];simp only;split at h
  .rename_i fn caps hf;have hf':=YG hf;rw [lH,hf'];simp only;split at h
   .rename_i sp hT;have hT':pick (mQ T) fn (args.toList.map (aV st).dh)=some sp.er:=by rw [Kv,hT];rfl
    rw [hT'];simp only;split at h
    .rename_i c hc;obtain ⟨k1,k2⟩:=Kq hc;have k1:iT sp.er.sig (aV st).o ((args.toList.map (aV st).dh)++(caps.map bV).map λx=>S.v (.one x))=some c.er:=by
      rw [Kw];exact k1
     rw [k1];simp only;split at h
     .rename_i Yb;split at h
      .rename_i x hx;split at h
       rotate_left
       .exact (cZ h).elim
       rename_i aq2;obtain ⟨y,hy,h⟩:=adU h;obtain ⟨f1,f2⟩:=iM Yb;refine ⟨?_,(Tup.mg sp.sig.aT.tys y).map dn,Kr sp.sig d st.go c (Tup.mg sp.sig.aT.tys y),⟨x,y,hy,?_,rfl⟩,Uc aq2 k1 f1 (Ib _ hx) hy,zy sp.sig d st.go c (Tup.mg sp.sig.aT.tys y),?_,h⟩
       .have f2:=Q4 f2;simp only [Qf,decide_eq_true_eq,W7];exact ⟨f1,f2⟩
       .rw [Ib _ hx];rfl
       .rw [Qm];exact congrArg _ (Ua (wK _ _) (aaZ hc)).symm
      .exact (cZ h).elim
     .exact (cZ h).elim
    .exact (cZ h).elim
   .exact (cZ h).elim
  .exact (cZ h).elim
 .rename_i hno;have h:=plain _ h;split
  .rename_i f args ts hop;exact (hno _ _ _ hop).elim
  .exact h
theorem EO(x:TO):(dU x).hn=iZ x:=by
 cases x with
 |aN a i e ak l hole=>cases hole<;>rfl
 |_=>rfl
theorem Qn(x:TO):xY (dU x)=EJ x:=by
 cases x with
 |box ws=>
  show (ws.map bV).flatMap W.names=ws.flatMap W.namesT;rw [vn];exact fP λx _=>(Bd x).symm
 |_=>rfl
theorem Gw(st:jl) :∀(n:Nat) (gs:List Nat),pF (aV st).o n gs=Dk st.go n gs
 |0,_=>rfl
 |n+1,gs=>by
  have e:(gs.flatMap λg=>xY ((aV st).o g))=gs.flatMap λg=>EJ (st.go g):=fP λg _=>Qn (st.go g);simp only [pF,Dk,e,Gw st n]
theorem Dx(st:jl)(o:Oper):argNames (aV st) o=zA st o:=by
 unfold argNames zA;generalize o.op=op;cases op with
 |call c=>
  obtain ⟨callee,args,ats⟩:=c;cases callee with
  |value f=>
   refine fP λx _=>?_;rw [lH,wL]
  |_=>rfl
 |slice t x lo hi mx=>
  show ((aV st).dh x).names=S.namesT (st.dh x);rw [lH,wL]
 |_=>rfl
theorem KA(st:jl)(o:Oper):tJ (aV st) o=H9 st o:=by
 unfold tJ H9;rw [Dx,Gw]
theorem KC(st:jl)(o:Oper):ji (aV st) o=H_ st o:=by
 unfold ji H_;rw [KA,Dx];refine List.filter_congr λg _=>?_;have:((aV st).o g).hn=iZ (st.go g):=EO _;rw [this];cases iZ (st.go g) with
 |nil=>rfl
 |cons d _=>simp only [bJ]
theorem zB :∀{gs:List Nat} {st st1:jl},JW gs st=some st1->aV st1=Fw.shuts gs (aV st)
 | [],st,st1,h=>by simp only [JW,Q0] at h;subst h;rfl
 |g::gs,st,st1,h=>by
  simp only [JW] at h;split at h
  .rename_i d a i e ak l h1 h2;rw [zB h,Ky];have:=NY h1 h2;have this:Fw.kN (aV st).o g=_:=this;simp only [Fw.shuts];rw [this]
  .cases h
theorem aa1{hs:List Nat}{st st1:jl}(h:JW hs st=some st1):zW hs (aV st)=iI (WL hs st st1):=by
 have e:=zB h;unfold zW WL iI;rw [<-e,List.map_flatMap];refine fP λg _=>?_;have:((aV st).o g).hn=iZ (st.go g):=EO _;rw [this,Q6,UI];rfl
theorem adW{R:Type}{T:kW}{tt:TT}{ety:TypeId->Option Ty}{d:Nat}{st:jl}{o:Oper}{K:jI->Prog R}{r:R}(h:(aaY T tt ety d st o K).run=some r) :
  jk (mQ T) tt d (aV st) o λe =>∃te:jI,e=te.er/\(K te).run=some r:=by
 unfold aaY at h;unfold jk;rw [KC];split at h
 .rename_i hcs;rw [hcs];exact NZ h
 .rename_i g gs hcs;rw [hcs];split at h
  .rename_i st1 h1;have:=NZ h;rw [zB h1] at this;refine rY ?_ this;rintro e ⟨te,rfl,h⟩;refine ⟨_,?_,h⟩;simp only [Ci,jI.er,aa1 h1];simp only [iI,X2]
  .exact (cZ h).elim
structure sG(q q':jT):Prop where
 s :∀t,hasK t q'.st.s=true->fJ t q'.ds=false->hasK t q.st.s=true/\fJ t q.ds=false/\q'.st.gs t=q.st.gs t
 o :∀g,hasK g q'.st.o=true->fJ g q'.od=false->hasK g q.st.o=true/\fJ g q.od=false/\q'.st.go g=q.st.go g
theorem sG.refl(q:jT):sG q q:=⟨λt h1 h2=>⟨h1,h2,rfl⟩,λt h1 h2=>⟨h1,h2,rfl⟩⟩
theorem sG.trans{a b c:jT}(h1:sG a b)(h2:sG b c):sG a c:=
 ⟨λt k1 k2=>let ⟨x1,x2,x3⟩:=h2.s t k1 k2;let ⟨y1,y2,y3⟩:=h1.s t x1 x2;⟨y1,y2,x3.trans y3⟩,
  λt k1 k2=>let ⟨x1,x2,x3⟩:=h2.o t k1 k2;let ⟨y1,y2,y3⟩:=h1.o t x1 x2;⟨y1,y2,x3.trans y3⟩⟩
theorem uQ{α:Type}(k:Nat)(v:α)(t:Nat) :∀(l:List (Nat×α)),hasK t (yA k v l)=(Nat.beq t k||hasK t l)
 | []=>by simp [yA,hasK]
 |(k',v')::r=>by
  simp only [yA];cases h:Nat.beq k k' with
  |true=>
   have e:=Q4 h;subst e;simp only [cond_true,hasK];cases Nat.beq t k<;>simp
  |false=>
   simp only [cond_false,hasK,uQ k v t r];cases Nat.beq t k<;>cases Nat.beq t k'<;>simp
theorem uS{α:Type}(d:α) :∀(l:List (Nat×α)) (t:Nat),hasK t l=false->jO d l t=d
 | [],t,_=>rfl
 |(k,v)::r,t,h=>by
  simp only [hasK,Uv] at h;simp only [jO,h.1,cond_false];exact uS d r t h.2
theorem Ud(l:List (Nat×TO))(g:Nat) :∀(u:List (Nat×TO)),hasK g (Dj l u)=(fJ g (u.map (·.1))||hasK g l)
 | []=>rfl
 |(k,x)::u=>by simp only [Dj,uQ,Ud l g u,Q6,fJ,Bool.or_assoc]
theorem xw{α:Type}(g:Nat) :∀{u:List (Nat×α)},fJ g (u.map (·.1))=false->u.lookup g=none
 | [],_=>rfl
 |(k,x)::u,h=>by
  simp only [Q6,fJ,Uv] at h;simp only [List.lookup,Ia,h.1];exact xw g h.2
theorem sG.eff(q:jT)(dst:Option Tmp)(e:jI):sG q (q.eff dst e):=by
 refine ⟨λt h1 h2=>?_,λg h1 h2=>?_⟩
 .cases dst with
  |none=>exact ⟨h1,h2,rfl⟩
  |some d=>
   have h2:fJ t (d::q.ds)=false:=h2;have h1:hasK t (yA d e.x q.st.s)=true:=h1;simp only [fJ,Uv] at h2;rw [uQ,h2.1,J0] at h1;refine ⟨h1,h2.2,?_⟩;show jO .no (yA d e.x q.st.s) t=jO .no q.st.s t;rw [qG,h2.1];rfl
 .have h1:hasK g (Dj q.st.o e.aJ)=true:=h1;have h2:fJ g (e.aJ.map (·.1)++q.od)=false:=h2;rw [bJ] at h2;simp only [qu,Uv] at h2;rw [<-bJ,<-bJ] at h2;rw [Ud,h2.1,J0] at h1;refine ⟨h1,h2.2,?_⟩;show jO .none (Dj q.st.o e.aJ) g=jO .none q.st.o g;rw [yO,xw g h2.1]
theorem YH{q:jT}{t:Tmp}{a i b:Bool}(h:q.st.gs t=.v (.one (.p a i (je b))))(u:Nat):(q.know t a i b).st.gs u=q.st.gs u:=by
 show jO .no (yA t (.v (.one (.p a i (je b)))) q.st.s) u=jO .no q.st.s u;rw [qG];cases hb:Nat.beq u t with
 |false=>rfl
 |true=>
  have e:=Q4 hb;subst e;exact h.symm
theorem adX{q:jT}{t:Tmp}{a i b:Bool}(h:q.st.gs t=.v (.one (.p a i (je b))))(u:Nat):hasK u (q.know t a i b).st.s=hasK u q.st.s:=by
 show hasK u (yA t (.v (.one (.p a i (je b)))) q.st.s)=hasK u q.st.s;rw [uQ];cases hb:Nat.beq u t with
 |false=>rfl
 |true=>
  have e:=Q4 hb;subst e;cases hk:hasK u q.st.s with
  |true=>rfl
  |false=>
   have:=uS TS.no q.st.s u hk;rw [jl.gs] at h;rw [this] at h;cases h
theorem yP{q:jT}{t:Tmp}{a i b:Bool}(h:q.st.gs t=.v (.one (.p a i (je b)))):aV (q.know t a i b).st=aV q.st:=
 St.ext' (λu=>by show bf _=bf _;rw [YH h]) (λg=>rfl) λg=>rfl
theorem yQ{q:jT}{t:Tmp}{a i b:Bool}(h:q.st.gs t=.v (.one (.p a i (je b)))):sG q (q.know t a i b):=
 ⟨λu h1 h2=>⟨by rw [<-adX h];exact h1,h2,YH h u⟩,λg h1 h2=>⟨h1,h2,rfl⟩⟩
theorem Ue{q:jT}{t:Tmp}{a i:Bool}{k:IntKind}{n:Int}(h:q.st.gs t=.v (.one (.p a i (iY k n))))(u:Nat):(q.TB t a i k n).st.gs u=q.st.gs u:=by
 show jO .no (yA t (.v (.one (.p a i (iY k n)))) q.st.s) u=jO .no q.st.s u;rw [qG];cases hb:Nat.beq u t with
 |false=>rfl
 |true=>
  have e:=Q4 hb;subst e;exact h.symm
theorem aa2{q:jT}{t:Tmp}{a i:Bool}{k:IntKind}{n:Int}(h:q.st.gs t=.v (.one (.p a i (iY k n))))(u:Nat):hasK u (q.TB t a i k n).st.s=hasK u q.st.s:=by
 show hasK u (yA t (.v (.one (.p a i (iY k n)))) q.st.s)=hasK u q.st.s;rw [uQ];cases hb:Nat.beq u t with
 |false=>rfl
 |true=>
  have e:=Q4 hb;subst e;cases hk:hasK u q.st.s with
  |true=>rfl
  |false=>
   have:=uS TS.no q.st.s u hk;rw [jl.gs] at h;rw [this] at h;cases h
theorem aa3{q:jT}{t:Tmp}{a i:Bool}{k:IntKind}{n:Int}(h:q.st.gs t=.v (.one (.p a i (iY k n)))):aV (q.TB t a i k n).st=aV q.st:=
 St.ext' (λu=>by show bf _=bf _;rw [Ue h]) (λg=>rfl) λg=>rfl
theorem aa4{q:jT}{t:Tmp}{a i:Bool}{k:IntKind}{n:Int}(h:q.st.gs t=.v (.one (.p a i (iY k n)))):sG q (q.TB t a i k n):=
 ⟨λu h1 h2=>⟨by rw [<-aa2 h];exact h1,h2,Ue h u⟩,λg h1 h2=>⟨h1,h2,rfl⟩⟩
theorem Uf{R:Type}{v:Int}{k:Int->Prog R}{r:R} :∀(n m:Nat),(Yp v k m n).run=some r->(k v).run=some r
 |0,_,h=>(cZ h).elim
 |1,m,h=>by
  have h:ck (eqI v (Int.ofNat m)) (k (Int.ofNat m)).run=some r:=h;cases hb:eqI v (Int.ofNat m) with
  |true=>
   rw [hb] at h;have e:v=Int.ofNat m:=of_decide_eq_true hb;rw [e];exact h
  |false=>rw [hb] at h;cases h
 |n+2,m,h=>by
  have h:(bif eqI v (Int.ofNat m) then (k (Int.ofNat m)).run else (Yp v k (m+1) (n+1)).run)=some r:=h;cases hb:eqI v (Int.ofNat m) with
  |true=>
   rw [hb] at h;have e:v=Int.ofNat m:=of_decide_eq_true hb;rw [e];exact h
  |false=>rw [hb] at h;exact Uf (n+1) (m+1) h
theorem adY{tt:TT}{st:jl}{t:TypeId}{x:Operand}{j:Tmp}{a i:Bool}{k:IntKind}{v:Int}{n:Nat}(h:adC tt st t x j=some (a,i,k,v,n)):st.gs j=.v (.one (.p a i (iY k v))):=by
 have key :∀{y:TS} {m:Nat},(match y with
   |.v (.one (.p a i ⟨.int k,v⟩))=>bif Nat.ble m 4 then some (a,i,k,v,m) else none
   |_=>none)=some (a,i,k,v,n)->y=.v (.one (.p a i (iY k v))):=by
  intro y m h;split at h
  .cases hb:Nat.ble m 4 with
   |true=>
    rw [hb] at h;simp only [cond_true,Q0,Q1] at h;obtain ⟨rfl,rfl,rfl,rfl,rfl⟩:=h;rfl
   |false=>rw [hb] at h;cases h
  .cases h
 unfold adC at h;split at h
 .split at h
  .exact key h
  .exact key h
  .exact key h
  .cases h
 .cases h
theorem ag2{tt:TT}{st:jl}{o:Oper}{t:Tmp}{a i:Bool}{k:IntKind}{v:Int}{n:Nat}(h:akK tt st o=some (t,a,i,k,v,n)):st.gs t=.v (.one (.p a i (iY k v))):=by
 unfold akK at h;split at h
 .split at h
  .rename_i r hr;simp only [Q0,Q1] at h;obtain ⟨rfl,rfl⟩:=h;exact adY hr
  .cases h
 .cases h
theorem KD{u:List Nat} :∀{gs:List Nat},AZ u gs=true->(gs.all λg=>!fJ g u)=true
 | [],_=>rfl
 |g::gs,h=>by
  simp only [AZ,Qf] at h;simp only [List.all_cons,Qf];exact ⟨h.1,KD h.2⟩
theorem Bf{N:Nat} :∀(dst:Option Tmp),Yo N dst=true->(match dst with | some d=>decide (d<N) | none=>true)=true
 |none,_=>rfl
 |some d,h=>decide_eq_true (W3 h)
def YI{R:Type}(q:jT)(K:jT->jI->Prog R)(r:R)(e:Eff):Prop :=∃(q':jT) (te:jI),e=te.er/\aV q'.st=aV q.st/\sG q q'/\(K q' te).run=some r
theorem Qo{R:Type}{T:kW}{tt:TT}{ety:TypeId->Option Ty}{d:Nat}{q0 q:jT}{o:Oper}{K:jT->jI->Prog R}{r:R}(he:aV q.st=aV q0.st)(hr:sG q0 q)
  (h:(aaY T tt ety d q.st o λe=>match AZ q.st.u e.new with | true=>K q e | false=>.stuck 21).run=some r) :
  jk (mQ T) tt d (aV q0.st) o λe=>(e.new.all λg=>!(aV q0.st).used g)=true/\YI q0 K r e:=by
 have h:=adW h;rw [he] at h;refine oH ?_ h;rintro e ⟨te,rfl,h⟩;split at h
 .rename_i hf;refine ⟨?_,q,te,rfl,he,hr,h⟩;rw [<-he];exact KD hf
 .exact (cZ h).elim
theorem Ug{R:Type}{T:kW}{tt:TT}{ety:TypeId->Option Ty}{N:Nat}{ops:Array Oper}{o:Oper}{q:jT}{K:jT->jI->Prog R}{r:R}(h:(stepT T tt ety N ops o q K).run=some r) :
  stepW (mQ T) tt N ops o (aV q.st) (YI q K r):=by
 unfold stepT at h;split at h
 .exact (cZ h).elim
 .rename_i hd;unfold stepW;refine ⟨Bf _ hd,?_⟩;split at h
  .rename_i hg;rw [hg];split at h
   .exact Qo rfl (sG.refl q) h
   .rename_i t a i k v n hs;have h:=Uf _ _ h;simp only [tY] at h;have hgs:=ag2 hs;exact Qo (aa3 hgs) (aa4 hgs) h
  .rename_i j want hg;rw [hg];simp only;split at h
   .exact (cZ h).elim
   .rename_i t ht;have:guardOf ops (aV q.st) j want=some false:=by
     unfold WM at ht;split at ht
     .rename_i t' ht';split at ht
      .cases ht
      .rename_i hs;simp only [guardOf,ht'];show (match bf (q.st.gs t') with | .v (.one (.p _ _ (.bool b)))=>_ | .jD []=>_ | _=>_)=_;rw [hs];rfl
      .cases ht
     .cases ht
    rw [this];exact ⟨q,jI.skip,rfl,rfl,sG.refl q,h⟩
   .rename_i t a i b ht;have hb:q.st.gs t=.v (.one (.p a i (je b)))/\guardOf ops (aV q.st) j want=some (bif want then b else !b):=by
     unfold WM at ht;split at ht
     .rename_i t' ht';split at ht
      .rename_i a' i' b' hs;simp only [Q0,Q1] at ht;obtain ⟨rfl,rfl,rfl,rfl⟩:=ht;refine ⟨hs,?_⟩;simp only [guardOf,ht'];show (match bf (q.st.gs t') with | .v (.one (.p _ _ (.bool b)))=>_ | .jD []=>_ | _=>_)=_;rw [hs];rfl
      .cases ht
      .cases ht
     .cases ht
    obtain ⟨hgs,hgd⟩:=hb;rw [hgd];simp only;have h:(bif b then _ else _:Option R)=some r:=h;cases b with
    |true=>
     have h:(frX (q.know t a i true) λq=>bif want then _ else K q jI.skip).run=some r:=h;rw [tY] at h;cases want with
     |true=>exact Qo (yP hgs) (yQ hgs) h
     |false=>exact ⟨_,jI.skip,rfl,yP hgs,yQ hgs,h⟩
    |false=>
     have h:(frX (q.know t a i false) λq=>bif want then K q jI.skip else _).run=some r:=h;rw [tY] at h;cases want with
     |true=>exact ⟨_,jI.skip,rfl,yP hgs,yQ hgs,h⟩
     |false=>exact Qo (yP hgs) (yQ hgs) h
end
end Go.Fg

namespace Go.Fg
open Go.Fw
section
variable [eY]
theorem yR{T:Tab}{tt:TT}{N:Nat}{ops:Array Oper}{K K':St->Prop}(hK :∀st,K st->K' st) :∀{is:List Nat} {st:St},wz T tt N ops is st K->wz T tt N ops is st K'
 | [],st,h=>hK st h
 |i::is,st,h=>by
  simp only [wz] at h ⊢;split at h
  .exact Ku (λe he=>yR hK he) h
  .exact h
theorem wM{T:Tab}{tt:TT}{N:Nat}{ops:Array Oper}{K K':St->List tV->Prop}(hK :∀st fs,K st fs->K' st fs) :∀{is:List Nat} {st:St} {fs:List tV},oV T tt N ops is st fs K->oV T tt N ops is st fs K'
 | [],st,fs,h=>hK st fs h
 |i::is,st,fs,h=>by
  simp only [oV] at h ⊢;split at h
  .exact EM (λe he=>wM hK he) h
  .exact h
end
section
variable [RE]
def Qa.ok(c:Qa)(b:Bool):Prop:=match c with
 |.yes=>b=true
 |.no=>b=false
 |.may e=>e=false->b=false
def Uh(a:Option Qa)(b:Option (Bool->Prop)):Prop:=(a=none->b=none)/\∀c,a=some c->∃p,b=some p/\∀b,p b->c.ok b
theorem Uh.none:Uh none none:=⟨λ_=>rfl,λ_ h=>(nomatch h)⟩
theorem Uh.some{c:Qa}{p:Bool->Prop}(h :∀b,p b->c.ok b):Uh (some c) (some p):=⟨λh=>(nomatch h),λc' e=>⟨p,rfl,by cases e;exact h⟩⟩
theorem aa5{o:Nat->TO}{x:TS}:Uh (JX o x) (Np (bU o) (bf x)):=by
 cases x with
 |v x=>
  cases x with
  |one x=>
   cases x with
   |p a i w=>
    obtain ⟨t,x⟩:=w;cases t with
    |sl e=>
     change List (Dt e) at x;cases x with
     |nil=>exact .some λb hb h=>by simp at h
     |cons y ys=>exact .some λb hb h=>hb (by intro h;cases h)
    |_=>exact .none
   |own g=>
    cases hg:o g with
    |arr fz a i e l=>
     have hd:(bU o g).dim=some (size e,l.length):=pI (by simp only [MF,hg]);simp only [JX,hg,bf,jS,bV,Np,hd];refine .some λb hb h=>hb λh'=>?_;cases l with
     |nil=>simp at h
     |cons y ys=>cases h'
    |aN a i e ak l hole=>
     have hd:(bU o g).dim=some (size e,l.length):=pI (by simp only [MF,hg]);simp only [JX,hg,bf,jS,bV,Np,hd];refine .some λb hb h=>hb λh'=>?_;cases l with
     |nil=>simp at h
     |cons y ys=>cases h'
    |_=>simp only [JX,hg,bf,jS,bV,Np,bU,dU,O.dim];exact .none
   |dw=>exact .some λb hb=>hb
   |_=>exact .none
  |agg xs=>exact .none
 |_=>exact .none
theorem aa6{o:Nat->TO}{x:TS}:Uh (JY o x) (F9 (bU o) (bf x)):=by
 cases x with
 |v x=>
  cases x with
  |one x=>
   cases x with
   |p a i w=>
    obtain ⟨t,x⟩:=w;cases t with
    |opq=>
     change Value at x;unfold JY;split
     .rename_i h;cases h
     .rename_i h;cases h;exact .some λb hb=>hb
     .rename_i h1 h2;have:F9 (bU o) (bf (.v (.one (.p a i ⟨.opq,x⟩))))=Option.none:=by
       show F9 (bU o) (.v (.one (.p a i (.opq x))))=Option.none;unfold F9;split
       .rename_i h;cases h
       .rename_i h;cases h;exact (h2 _ _ rfl).elim
       .rfl
      rw [this];exact .none
    |sl e=>
     change List (Dt e) at x;cases x<;>exact .none
    |_=>exact .none
   |box g off=>
    cases hg:o g with
    |box ws=>
     simp only [JY,hg,bf,jS,bV,F9,oM hg];exact .some λb hb=>hb
    |_=>simp only [JY,hg,bf,jS,bV,F9,bU,dU];exact .none
   |_=>exact .none
  |agg xs=>exact .none
 |_=>exact .none
theorem aa7{o:Nat->TO}{x:TS}{k:Fw.TK}{c:Value}:Uh (Qb o x k c) (yt (bU o) (bf x) k c):=by
 unfold Qb;split
 .exact aa5
 .exact aa6
 .rename_i h1 h2;have:yt (bU o) (bf x) k c=Option.none:=by
   unfold yt;split
   .exact (h1 _ rfl rfl).elim
   .exact (h2 rfl rfl).elim
   .rfl
  rw [this];exact .none
def adZ(a:Option (Bool×Qa))(b:Option (Bool×(Bool->Prop))):Prop:=(a=none->b=none)/\∀pos c,a=some (pos,c)->∃p,b=some (pos,p)/\∀b,p b->c.ok b
theorem adZ.none:adZ none none:=⟨λ_=>rfl,λ_ _ h=>(nomatch h)⟩
theorem ag3{tt:TT}{st:jl}{o:Oper}:adZ (akL tt st o) (Po tt (aV st) o):=by
 unfold akL Po;cases hgd:o.guard with
 |some g=>exact .none
 |none=>
  simp only;cases hop:o.op with
  |binOp op t x y u=>
   cases y with
   |const c=>
    simp only;cases ht:tt t with
    |none=>exact .none
    |some i=>
     simp only;have hs:=aa7 (o:=st.go) (x:=st.dh x) (k:=i.k) (c:=c);rw [<-lH] at hs;change Uh _ (yt (aV st).o ((aV st).dh x) i.k c) at hs;generalize Qb st.go (st.dh x) i.k c=A at hs ⊢;generalize yt (aV st).o ((aV st).dh x) i.k c=B at hs ⊢;cases A with
     |none=>
      have:=hs.1 rfl;subst this;cases op<;>exact .none
     |some c'=>
      obtain ⟨p,rfl,hp⟩:=hs.2 c' rfl;cases op<;>first
       |exact .none
       |(
         refine ⟨λh=>(nomatch h),λpos c'' h=>?_⟩;simp only [Q0,Q1] at h;obtain ⟨rfl,rfl⟩:=h;exact ⟨p,rfl,hp⟩)
   |_=>exact .none
  |_=>exact .none
theorem run_any{R:Type}{x y:Prog R}{r:R}(h:(Prog.any x y).run=some r):x.run=some r/\y.run=some r:=aa0 h
theorem aq3(pos b:Bool):({ x:=scalar (.bool (bif pos then b else !b)),aJ:=[],new:=[] }:Eff)=(qU (bif pos then b else !b)).er:=rfl
theorem ad4{st:jl}{o:Oper}:Pq (aV st) o=(adD st o).map λx=>(x.1,P.str ⟨x.2.1.toArray⟩,P.int .i64 x.2.2):=by
 unfold Pq adD;cases o.guard with
 |some g=>rfl
 |none=>
  simp only;cases o.op with
  |next x b=>
   cases b with
   |false=>rfl
   |true=>
    simp only [lH];cases st.dh x with
    |v x=>
     cases x with
     |one x=>
      cases x with
      |nJ g=>
       simp only [bf,jS,bV];have e:(aV st).o g=dU (st.go g):=rfl;rw [e];cases st.go g<;>rfl
      |_=>rfl
     |agg xs=>rfl
    |_=>rfl
  |_=>rfl
theorem itE(g:Nat)(s:List UInt8)(n:Int):Jq g (.str ⟨s.toArray⟩) (.int .i64 n)=(Qc g s n).er:=rfl
theorem aa8{R:Type}{T:kW}{tt:TT}{ety:TypeId->Option Ty}{N:Nat}{ops:Array Oper}{o:Oper}{q:jT}{K:jT->jI->Prog R}{r:R}(h:(WQ T tt ety N ops o q K).run=some r) :
  CU (mQ T) tt N ops o (aV q.st) (YI q K r):=by
 unfold WQ at h;have hn:=ag3 (tt:=tt) (st:=q.st) (o:=o);split at h
 .rename_i pos c hc;obtain ⟨p,hp,hok⟩:=hn.2 pos c hc;unfold CU;rw [hp];simp only;split at h
  .exact (cZ h).elim
  .rename_i hd;refine ⟨Bf _ hd,λb hb=>?_⟩;have hok:=hok b hb;rw [aq3];have done:(K q (qU (bif pos then b else !b))).run=some r->YI q K r (qU (bif pos then b else !b)).er:=λh=>⟨q,_,rfl,rfl,sG.refl q,h⟩;refine done ?_;cases c with
   |yes=>
    have hok:b=true:=hok;subst hok;cases pos<;>exact h
   |no=>
    have hok:b=false:=hok;subst hok;cases pos<;>exact h
   |may e=>
    have h:(bif e then (Prog.any (K q (qU true)) (K q (qU false))).run else (K q (qU (!pos))).run)=some r:=h;cases e with
    |true=>
     obtain ⟨h1,h2⟩:=run_any h;cases (bif pos then b else !b) with
     |true=>exact h1
     |false=>exact h2
    |false=>
     have hok:b=false:=hok rfl;subst hok;cases pos<;>exact h
 .rename_i hc;unfold CU;rw [hn.1 hc,ad4];simp only;split at h
  .rename_i g s n hnx;rw [hnx];simp only [Z6];split at h
   .exact (cZ h).elim
   .rename_i hd;have h:(bif TD s n then (K q (Qc g s n)).run else (K q WO).run)=some r:=h;have hb:SC (.str ⟨s.toArray⟩) (.int .i64 n)=TD s n:=by
     unfold SC TD;have:(P.str ⟨s.toArray⟩).bytes.size=s.length:=by show s.toArray.size=_;simp
     rw [this];rfl
    rw [hb];refine ⟨Bf _ hd,λe=>?_,λe=>?_⟩
    .rw [e] at h;exact ⟨q,Qc g s n,itE g s n,rfl,sG.refl q,h⟩
    .rw [e] at h;exact ⟨q,WO,rfl,rfl,sG.refl q,h⟩
  .rename_i hnx;rw [hnx];exact Ug h
theorem YJ{R:Type}{T:kW}{tt:TT}{ety:TypeId->Option Ty}{N:Nat}{ops:Array Oper}{r:R}{K:jT->Prog R} :∀{l:List Oper} {i:Nat} {q:jT},l=ops.toList.drop i->(runT T tt ety N ops l q K).run=some r->
  wz (mQ T) tt N ops (List.range' i l.length) (aV q.st) λst' =>∃q':jT,st'=aV q'.st/\sG q q'/\(K q').run=some r
 | [],i,q,hl,h=>⟨q,rfl,sG.refl q,h⟩
 |o::os,i,q,hl,h=>by
  have h0:ops[i]?=some o:=by
   have:=congrArg (·[0]?) hl;simpa using this.symm
  have h1:os=ops.toList.drop (i+1):=by
   have:=congrArg List.tail hl;simpa using this
  simp only [Wl,Kx,wz,h0];refine Ku ?_ (aa8 h);rintro e ⟨q',te,rfl,he,hr,h⟩;simp only [tY] at h;have ih:=YJ h1 h;rw [<-he,<-NU];refine yR ?_ ih;rintro st' ⟨q'',rfl,hr',h⟩;exact ⟨q'',rfl,(hr.trans (sG.eff q' o.dst te)).trans hr',h⟩
end
end Go.Fg

namespace Go.Fg
open Go.Fw
section
variable [RE]
theorem ad5{x:TS}{fn:FuncId}{caps:List W}(h:bf x=.v (.one (.clo fn caps))) :∃cs,x=.v (.one (.clo fn cs))/\caps=cs.map bV:=by
 cases x with
 |v x=>
  cases x with
  |one x=>
   cases x with
   |clo f cs=>
    simp only [bf,jS,bV,S.v.injEq,V.one.injEq,W.clo.injEq,zq] at h;obtain ⟨rfl,rfl⟩:=h;exact ⟨cs,rfl,rfl⟩
   |_=>simp [bf,jS,bV] at h
  |agg xs=>simp [bf,jS] at h
 |_=>simp [bf] at h
theorem N7{o:Nat->O}{args:List TS} :∀{l:List (Nat×kK)},Yq args l=true->fA o (args.map bf) (l.map λp=>(p.1,p.2.er))=none
 | [],h=>by cases h
 |(t,k)::rest,h=>by
  unfold Yq at h;simp only [Q6,fA];split at h
  .rename_i hn;have e:(args.map bf).getD t .no=.no:=by
    simp only [List.getD_eq_getElem?_getD,Ys] at hn ⊢;cases hz:args[t]? with
    |none=>simp
    |some z=>rw [hz] at hn;simp at hn;subst hn;rfl
   rw [e];cases k.er<;>simp [oG]
  .rename_i ys hn;have e :∃zs,(args.map bf).getD t .no=.jD zs:=by
    simp only [List.getD_eq_getElem?_getD,Ys] at hn ⊢;cases hz:args[t]? with
    |none=>rw [hz] at hn;simp at hn
    |some z=>rw [hz] at hn;simp at hn;subst hn;exact ⟨_,rfl⟩
   obtain ⟨zs,e⟩:=e;rw [e];cases k.er<;>simp [oG]
  .rw [N7 h];split
   .rename_i h1 h2;cases h2
   .rfl
theorem aa9{T:kW}{st:jl}{o:Oper}{l:List Nat}(h:WR T st o=some l):Sz (mQ T) (aV st) o=l:=by
 unfold WR at h;unfold Sz;split at h
 .rename_i f args ts hop;rw [hop];simp only;rw [lH];split at h
  .rename_i fn caps hf;rw [YG hf];simp only;split at h
   .rename_i sp hT;have hT':pick (mQ T) fn (args.toList.map (aV st).dh)=some sp.er:=by rw [Kv,hT];rfl
    rw [hT'];simp only;split at h
    .rename_i c hc;simp only [Q0] at h;subst h;obtain ⟨k1,k2⟩:=Kq hc;have k1:iT sp.er.sig (aV st).o ((args.toList.map (aV st).dh)++(caps.map bV).map λx=>S.v (.one x))=some c.er:=by
      rw [Kw];exact k1
     rw [k1];rfl
    .obtain ⟨hm,h⟩:=bM h;simp only [Q0] at h;subst h;have k1:iT sp.er.sig (aV st).o ((args.toList.map (aV st).dh)++(caps.map bV).map λx=>S.v (.one x))=none:=by
      rw [Kw];unfold iT;have e:fA (aV st).o (List.map bf (List.map st.dh args.toList++List.map (λx=>TS.v (TV.one x)) caps)) sp.er.sig.pin.slots=none:=N7 hm;rw [e]
     rw [k1]
   .rename_i hT;simp only [Q0] at h;subst h;have hT':pick (mQ T) fn (args.toList.map (aV st).dh)=none:=by rw [Kv,hT];rfl
    rw [hT']
  .rename_i hno;simp only [Q0] at h;subst h;split
   .rename_i fn caps hf;obtain ⟨cs,hx,_⟩:=ad5 hf;exact (hno _ _ hx).elim
   .rfl
 .rename_i hno;simp only [Q0] at h;subst h;split
  .rename_i f args ts hop;exact (hno _ _ _ hop).elim
  .rfl
theorem aa_{T:kW}{st:jl}{o:Oper}{l:List Nat}(h:WT T st o=some l):CS (mQ T) (aV st) o=l:=by
 unfold WT at h;split at h
 .rename_i r hr;simp only [Q0] at h;subst h;unfold CS;rw [aa9 hr];congr 1;congr 1;refine fP λx _=>?_;rw [lH,<-wL];refine fP λg _=>?_;have:((aV st).o g).hn=iZ (st.go g):=by
   show (dU (st.go g)).hn=_;cases st.go g with
   |aN a i e ak l hole=>cases hole<;>rfl
   |_=>rfl
  rw [this]
 .cases h
theorem ad6{T:kW}{st:jl}{o:Oper}{l:List Nat}(h:adE T st o=some l):tN (mQ T) (aV st) o=l:=by
 unfold adE at h;split at h
 .rename_i st1 h1;split at h
  .rename_i l' h2;simp only [Q0] at h;subst h;unfold tN;rw [KC,<-zB h1,aa_ h2,KA];congr 1;refine fP λg _=>?_;have:((aV st).o g).hn=iZ (st.go g):=EO _;rw [this]
  .cases h
 .cases h
theorem KE(l:List (Nat×TO)):(iI l).map (·.1)=l.map (·.1):=by simp only [iI,UI];rfl
theorem abb(x y:TW):acV (bV x) (bV y)=adF x y:=by cases x<;>cases y<;>rfl
theorem N8(g:Nat) :∀(j:Nat) (xs ys:List TW),CV g j (xs.map bV) (ys.map bV)=EK g j xs ys
 |_,[],[]=>rfl
 |_,[],y::ys=>rfl
 |_,x::xs,[]=>rfl
 |j,x::xs,y::ys=>by
  simp only [Q6,CV,EK,N8 g (j+1) xs ys,abb];cases EK g (j+1) xs ys<;>rfl
theorem abd(g:Nat)(x:TO)(y:Option TO):SE g (dU x) (y.map dU)=WU g x y:=by
 cases x with
 |box ws=>
  cases y with
  |none=>rfl
  |some y=>
   cases y with
   |box ws'=>
    simp only [dU,Z6,SE,WU,N8];cases EK g 0 ws ws'<;>rfl
   |_=>rfl
 |_=>cases y<;>rfl
theorem yS(g:Nat) :∀(l:List (Nat×TO)),(iI l).lookup g=(l.lookup g).map dU
 | []=>rfl
 |(k,x)::r=>by
  show (List.lookup g ((k,dU x)::iI r))=_;simp only [List.lookup];cases hb:g==k with
  |true=>rfl
  |false=>exact yS g r
theorem abe{g:Nat}(x:TO)(y:Option TO):keepR g (dU x) (y.map dU)=adG g x y:=by
 cases x<;>cases y<;>first | rfl | skip
 all_goals
  rename_i y;cases y<;>rfl
theorem akT{st:jl}{o:Oper}{e:jI}:Pv (aV st) o e.er=kpT st o e.aJ:=by
 unfold Pv kpT;congr 1
 .have:(λx=>((aV st).dh x).names)=λx=>S.namesT (st.dh x):=by
   funext x;rw [lH];exact (wL _).symm
  rw [this]
 .show ((iI e.aJ).map (·.1)).flatMap _=_;rw [KE];refine fP λg _=>?_;show SE g (dU (st.go g)) ((iI e.aJ).lookup g)++(bif Jr o.op then keepR g (dU (st.go g)) ((iI e.aJ).lookup g) else [])=_;rw [yS,abd,abe]
theorem ad7(x:TO):kindOf (dU x)=adH x:=by cases x<;>rfl
theorem uU{α β:Type}{f g:α->Option β} :∀{l:List α},(∀x∈l,f x=g x)->l.filterMap f=l.filterMap g
 | [],_=>rfl
 |x::l,h=>by
  have ih:l.filterMap f=l.filterMap g:=uU λy hy=>h y (WD _ hy);simp only [List.filterMap_cons,h x (by simp),ih]
theorem akU{st:jl}{e:jI}:V4 (aV st) e.er=kdT st e.aJ:=by
 unfold V4 kdT;show ((iI e.aJ).map (·.1)).filterMap _=_;rw [KE];refine uU λg _=>?_;show (match (iI e.aJ).lookup g with
  |some x=>bif Nat.beq (kindOf x) (kindOf (dU (st.go g))) then some g else none
  |none=>none)=_
 rw [yS];cases e.aJ.lookup g with
 |none=>rfl
 |some x=>simp only [Z6,ad7]
theorem akV{tt:TT}{st:jl}{o:Oper}:Me tt (aV st) o=ldT tt st o:=by
 unfold Me ldT;cases o.op with
 |load t x=>
  simp only [lH];cases tt t with
  |none=>rfl
  |some i=>
   cases st.dh x with
   |v x=>
    cases x with
    |one x=>
     cases x with
     |ep g n off=>
      show (match dU (st.go g) with
       |.aN _ _ _ ak _ _=>bif (jg ak off i.size).isEmpty then some (g,5000000,1) else none
       |_=>none)=_
      cases hg:st.go g<;>simp only [dU,hg]
     |_=>rfl
    |agg xs=>rfl
   |_=>rfl
 |_=>rfl
theorem Ui{R:Type}{T:kW}{tt:TT}{ety:TypeId->Option Ty}{N:Nat}{ops:Array Oper}{r:R}{K:jT->List tV->Prog R} :∀{l:List Oper} {i:Nat} {q:jT} {fs:List tV},l=ops.toList.drop i->(runNT T tt ety N ops l q fs K).run=some r->
  oV (mQ T) tt N ops (List.range' i l.length) (aV q.st) fs λst' fs' =>∃q':jT,st'=aV q'.st/\sG q q'/\(K q' fs').run=some r
 | [],i,q,fs,hl,h=>⟨q,rfl,sG.refl q,h⟩
 |o::os,i,q,fs,hl,h=>by
  have h0:ops[i]?=some o:=by
   have:=congrArg (·[0]?) hl;simpa using this.symm
  have h1:os=ops.toList.drop (i+1):=by
   have:=congrArg List.tail hl;simpa using this
  simp only [Wl,Kx,oV,h0];unfold runNT at h;split at h
  .exact (cZ h).elim
  .rename_i rd hrd;refine EM ?_ (Ug h);rintro e ⟨q',te,rfl,he,hr,h⟩;simp only [tY,akS] at h;have ih:=Ui h1 h;rw [<-akV,<-akT,<-akU,<-he] at ih;rw [ad6 hrd,<-he,<-NU];have e1:te.er.aJ.map (·.1)=te.aJ.map (·.1):=KE te.aJ;have e2:te.er.new=te.new:=rfl;rw [e1,e2];refine wM ?_ ih;rintro st' fs' ⟨q'',rfl,hr',h⟩;exact ⟨q'',rfl,(hr.trans (sG.eff q' o.dst te)).trans hr',h⟩
theorem KF{R:Type}{T:kW}{tt:TT}{ety:TypeId->Option Ty}{N:Nat}{ops:Array Oper}{draw:Bool}{r:R}{K:jT->Prog R}{q:jT}{Kp:St->Prop}(h:(wG T tt ety N ops draw q K).run=some r)
  (hK :∀q',sG q q'->(K q').run=some r->Kp (aV q'.st)):rZ (mQ T) tt N ops draw (aV q.st) Kp:=by
 unfold wG at h;unfold rZ;cases draw with
 |false=>
  have:=YJ (i:=0) (by simp) h;rw [<-qr,Array.length_toList] at this;refine yR ?_ this;rintro st' ⟨q',rfl,hr,h⟩;exact hK q' hr h
 |true=>
  have:=Ui (i:=0) (by simp) h;rw [<-qr,Array.length_toList] at this;refine wM ?_ this;rintro st' fs ⟨q',rfl,hr,h⟩;split at h
  .rename_i hf;exact ⟨hf,hK q' hr h⟩
  .exact (cZ h).elim
theorem ad8{A R:Type}{x:Prog A}{k:A->Prog R}{r:R}(h:(Prog.join x k).run=some r) :∃a,x.run=some a/\(k a).run=some r:=by
 have h:x.run.bind (λz=>(k z).run)=some r:=h;cases hx:x.run with
 |none=>rw [hx] at h;cases h
 |some a=>rw [hx] at h;exact ⟨a,rfl,h⟩
theorem abf{A R:Type}{x:Prog (A ⊕ R)}{k:A->Prog R}{r:R}(h:(Prog.NG x k).run=some r):(∃a,x.run=some (.inl a)/\(k a).run=some r)\/x.run=some (.inr r):=by
 have h:d_ x.run (λz=>(k z).run)=some r:=h;cases hx:x.run with
 |none=>rw [hx] at h;cases h
 |some a=>
  rw [hx] at h;cases a with
  |inl a=>exact .inl ⟨a,rfl,h⟩
  |inr r'=>
   have h:some r'=some r:=h;cases h;exact .inr rfl
theorem WZ{A R:Type}{body:A->Option (A ⊕ R)}{a:A}{r:R}(h:bF body a=some r) :∃n,jQ body n a=some r:=by
 unfold bF at h;split at h
 .exact ⟨_,h⟩
 .cases h
theorem ad9{A R:Type}{a:A}{body:A->Prog (A ⊕ R)}{r:R}(h:(Prog.loop a body).run=some r) :∃n,jQ (λz=>(body z).run) n a=some r:=WZ h
theorem Bg{A R:Type}{body:A->Option (A ⊕ R)} :∀{n m:Nat} {a:A} {r:R},n<=m->jQ body n a=some r->jQ body m a=some r
 |0,m,a,r,_,h=>by cases h
 |n+1,0,a,r,hm,h=>by omega
 |n+1,m+1,a,r,hm,h=>by
  simp only [jQ] at h ⊢;cases hb:body a with
  |none=>rw [hb] at h;cases h
  |some v=>
   rw [hb] at h;cases v with
   |inl a'=>exact Bg (n:=n) (by omega) h
   |inr r'=>exact h
theorem yT{A R:Type}{body:A->Option (A ⊕ R)}{n:Nat}{a:A}{r:R}(h:jQ body n a=some r):bF body a=some r:=by
 have hex :∃n r,jQ body n a=some r:=⟨n,r,h⟩;unfold bF;rw [dif_pos hex];obtain ⟨r',h'⟩:=Classical.choose_spec hex;rw [h'];rcases Nat.le_total n (Classical.choose hex) with hle | hle
 .have:=Bg hle h;rw [this] at h';exact h'.symm
 .have:=Bg hle h';rw [this] at h;exact h
theorem Bh{A R:Type}(body:A->Option (A ⊕ R))(a:A):bF body a=(body a).bind λ
  |.inl a'=>bF body a'
  |.inr r=>some r:=by
 cases hb:body a with
 |none=>
  have:¬∃n r,jQ body n a=some r:=by
   rintro ⟨n,r,h⟩;cases n with
   |zero=>cases h
   |succ n=>simp only [jQ,hb] at h;cases h
  unfold bF;rw [dif_neg this];rfl
 |some v=>
  cases v with
  |inr r=>exact yT (n:=1) (by simp only [jQ,hb];rfl)
  |inl a'=>
   show bF body a=bF body a';by_cases hex :∃n r,jQ body n a'=some r
   .obtain ⟨n,r,hn⟩:=hex;rw [yT hn];exact yT (n:=n+1) (by simp only [jQ,hb];exact hn)
   .have hex':¬∃n r,jQ body n a=some r:=by
     rintro ⟨n,r,h⟩;cases n with
     |zero=>cases h
     |succ n=>simp only [jQ,hb] at h;exact hex ⟨n,r,h⟩
    unfold bF;rw [dif_neg hex,dif_neg hex']
theorem YK{A R R':Type}{f:R->R'}(hf :∀a b,f a=f b->a=b) :∀a b:A ⊕ R,Sum.map id f a=Sum.map id f b->a=b
 |.inl a,.inl b,h=>by cases h;rfl
 |.inl a,.inr b,h=>by cases h
 |.inr a,.inl b,h=>by cases h
 |.inr a,.inr b,h=>by
  have h:(Sum.inr (f a):A ⊕ R')=.inr (f b):=h;simp only [Sum.inr.injEq] at h;rw [hf _ _ h]
theorem run_map{R R':Type}(f:R->R')(hf :∀a b,f a=f b->a=b)(p:Prog R):(p.map f).run=p.run.map f:=by
 induction p generalizing R' with
 |ret r=>rfl
 |stuck n=>rfl
 |cond b x y Yg ihy=>
  show (bif b then (x.map f).run else (y.map f).run)=(bif b then x.run else y.run).map f;rw [Yg f hf,ihy f hf];cases b<;>rfl
 |chk b x ih=>
  show ck b (x.map f).run=(ck b x.run).map f;rw [ih f hf];cases b<;>rfl
 |any x y Yg ihy=>
  show both (x.map f).run (y.map f).run=(both x.run y.run).map f;rw [Yg f hf,ihy f hf];unfold both;by_cases e:x.run=y.run
  .rw [if_pos e,if_pos (by rw [e])]
  .rw [if_neg e,if_neg]
   .rfl
   .intro h;apply e;cases hx:x.run with
    |none=>
     cases hy:y.run with
     |none=>rfl
     |some b=>rw [hx,hy] at h;cases h
    |some a=>
     cases hy:y.run with
     |none=>rw [hx,hy] at h;cases h
     |some b=>
      rw [hx,hy] at h;simp only [Z6,Q0] at h;rw [hf a b h]
 |let_ x k ih=>exact ih x f hf
 |join x k Yg ihk=>
  show x.run.bind (λz=>((k z).map f).run)=(x.run.bind λz=>(k z).run).map f;cases x.run with
  |none=>rfl
  |some a=>exact ihk a f hf
 |NG x k Yg ihk=>
  show d_ (x.map (Sum.map id f)).run (λz=>((k z).map f).run)=(d_ x.run λz=>(k z).run).map f;rw [Yg _ (YK hf)];cases x.run with
  |none=>rfl
  |some a=>
   cases a with
   |inl a=>exact ihk a f hf
   |inr r=>rfl
 |loop a body ih=>
  show bF (λz=>((body z).map (Sum.map id f)).run) a=(bF (λz=>(body z).run) a).map f;have e:(λz=>((body z).map (Sum.map id f)).run)=λz=>(body z).run.map (Sum.map id f):=funext λz=>ih z _ (YK hf);rw [e];have key :∀n a,jQ (λz=>(body z).run.map (Sum.map id f)) n a=(jQ (λz=>(body z).run) n a).map f:=by
   intro n
   induction n with
   |zero=>intro a;rfl
   |succ n ihn=>
    intro a;simp only [jQ];cases (body a).run with
    |none=>rfl
    |some v=>
     cases v with
     |inl a'=>exact ihn a'
     |inr r=>rfl
  have hiff:(∃n r,jQ (λz=>(body z).run.map (Sum.map id f)) n a=some r)↔∃n r,jQ (λz=>(body z).run) n a=some r:=by
   constructor
   .rintro ⟨n,r,h⟩;rw [key] at h;cases hx:jQ (λz=>(body z).run) n a with
    |none=>rw [hx] at h;cases h
    |some r'=>exact ⟨n,r',hx⟩
   .rintro ⟨n,r,h⟩;exact ⟨n,f r,by rw [key,h];rfl⟩
  by_cases hex :∃n r,jQ (λz=>(body z).run) n a=some r
  .obtain ⟨n,r,hn⟩:=hex;have u1:=yT hn;have u2:jQ (λz=>(body z).run.map (Sum.map id f)) n a=some (f r):=by rw [key,hn];rfl
   rw [u1,yT u2];rfl
  .have hex':=λh=>hex (hiff.1 h);unfold bF;rw [dif_neg hex,dif_neg hex'];rfl
 |call n g a k ih=>
  show (g a).bind (λz=>((k z).map f).run)=((g a).bind λz=>(k z).run).map f;cases g a with
  |none=>rfl
  |some y=>exact ih y f hf
end
end Go.Fg

namespace Go.Fg
open Go.Fw
section
variable [RE] {m:Ren}
theorem Aa :∀{caps:List TW} {gs:List Nat},Dl caps=some gs->EF gs=caps
 | [],gs,h=>by simp only [Dl,Q0] at h;subst h;rfl
 |c::cs,gs,h=>by
  cases c with
  |box g off=>
   unfold Dl at h;obtain ⟨hb,h⟩:=bM h;have hb:=Q4 hb;subst hb;split at h
   .rename_i gs' hg;cases h;simp only [EF,Aa hg]
   .cases h
  |_=>cases h
theorem YL{x:TW}{k:kD}{u u':List Wd}(h:TG x=some (k,u))(hc:EG m k x=some u'):u'=u/\u.length=k.tys.length:=by
 cases x<;>try simp only [TG,Q0,Q1,reduceCtorEq] at h
 case p a i w=>
  obtain ⟨rfl,rfl⟩:=h;simp only [EG] at hc;split at hc
  .obtain ⟨_,rfl⟩:=Du hc;exact ⟨rfl,rfl⟩
  .cases hc
 case dw=>obtain ⟨rfl,rfl⟩:=h;simp only [EG,Q0] at hc;subst hc;exact ⟨rfl,rfl⟩
 case own g=>
  obtain ⟨rfl,rfl⟩:=h;simp only [EG] at hc;split at hc
  .cases hc;exact ⟨rfl,rfl⟩
  .cases hc
 case box g off=>
  obtain ⟨rfl,rfl⟩:=h;simp only [EG] at hc;split at hc
  .cases hc;exact ⟨rfl,rfl⟩
  .cases hc
 case clo f caps=>
  split at h
  .simp only [Q0,Q1] at h;obtain ⟨rfl,rfl⟩:=h;simp only [EG] at hc;obtain ⟨_,rfl⟩:=Du hc;exact ⟨rfl,rfl⟩
  .cases h
 case vw g lo hi=>
  obtain ⟨rfl,rfl⟩:=h;simp only [EG] at hc;split at hc
  .cases hc;exact ⟨rfl,rfl⟩
  .cases hc
 case ep g n off=>
  obtain ⟨rfl,rfl⟩:=h;simp only [EG] at hc;split at hc
  .cases hc;exact ⟨rfl,rfl⟩
  .cases hc
 case nJ g=>
  obtain ⟨rfl,rfl⟩:=h;simp only [EG] at hc;split at hc
  .cases hc;exact ⟨rfl,rfl⟩
  .cases hc
theorem KG :∀{xs:List TW} {ks:List kD} {u u':List Wd},xq xs=some (ks,u)->yG m ks xs=some u'->u'=u/\u.length=(ks.flatMap kD.tys).length
 | [],ks,u,u',h,hc=>by
  simp only [xq,Q0,Q1] at h;obtain ⟨rfl,rfl⟩:=h;simp only [yG,Q0] at hc;subst hc;exact ⟨rfl,rfl⟩
 |x::xs,ks,u,u',h,hc=>by
  simp only [xq] at h;split at h
  .rename_i h1 h2;simp only [Q0,Q1] at h;obtain ⟨rfl,rfl⟩:=h;simp only [yG] at hc;split at hc
   .rename_i h3 h4;simp only [Q0] at hc;subst hc;obtain ⟨rfl,e1⟩:=YL h1 h3;obtain ⟨rfl,e2⟩:=KG h2 h4;exact ⟨rfl,by simp only [XN,Z2,e1,e2]⟩
   .cases hc
  .cases h
theorem ag4{x:TS}{k:kK}{u u':List Wd}(h:Qd x=some (k,u))(hc:agN m k x=some u'):u'=u/\u.length=k.tys.length:=by
 unfold Qd at h;split at h
 .split at h
  .rename_i h1;simp only [Q0,Q1] at h;obtain ⟨rfl,rfl⟩:=h;exact YL h1 hc
  .cases h
 .split at h
  .rename_i h1;simp only [Q0,Q1] at h;obtain ⟨rfl,rfl⟩:=h;exact KG h1 hc
  .cases h
 .cases h
theorem ag5{x:TO}{k:iO}{u u':List Wd}(h:xG x=some (k,u))(hc:WI m k x=some u'):u'=u/\u.length=k.tys.length:=by
 cases x with
 |none=>cases h
 |box ws=>
  simp only [xG] at h;split at h
  .rename_i h1;simp only [Q0,Q1] at h;obtain ⟨rfl,rfl⟩:=h;exact KG h1 hc
  .cases h
 |arr fz a i e l=>
  simp only [xG,Q0,Q1] at h;obtain ⟨rfl,rfl⟩:=h;simp only [WI] at hc;split at hc
  .rename_i l' hl;split at hc
   .simp only [Q0] at hc;subst hc;have:=h_ hl;exact ⟨congrArg (λw=>[w]) this.symm,rfl⟩
   .cases hc
  .cases hc
 |it s n=>
  simp only [xG,Q0,Q1] at h;obtain ⟨rfl,rfl⟩:=h;simp only [WI,Q0] at hc;exact ⟨hc.symm,rfl⟩
 |aN a i e ak l hole=>
  simp only [xG] at h;split at h
  .simp only [Q0,Q1] at h;obtain ⟨rfl,rfl⟩:=h;simp only [WI] at hc;split at hc
   .rename_i l' hl _;split at hc
    .simp only [Q0] at hc;subst hc;have:=h_ hl;exact ⟨congrArg (λw=>[w]) this.symm,rfl⟩
    .cases hc
   .cases hc
  .cases h
theorem YM{x:TW}{k:kD}{u vs:List Wd}{n:Nat}(h:TG x=some (k,u))(ha :∀(j:Nat) w,u[j]?=some w->vs[n+j]?=some w):(AY vs n k).1=x/\u.length=k.tys.length:=by
 cases x<;>try simp only [TG,Q0,Q1,reduceCtorEq] at h
 case p a i w=>
  obtain ⟨rfl,rfl⟩:=h;have:=ha 0 w rfl;refine ⟨?_,rfl⟩;show TW.p a i (vs.getD n AX)=.p a i w;rw [List.getD_eq_getElem?_getD,show vs[n]?=some w from this];rfl
 case vw g lo hi=>
  obtain ⟨rfl,rfl⟩:=h;refine ⟨?_,rfl⟩;have h0:=ha 0 (iY .i64 lo) rfl;have h1:=ha 1 (iY .i64 hi) rfl;have e0:vs.getD n AX=iY .i64 lo:=by rw [List.getD_eq_getElem?_getD,show vs[n]?=some (iY .i64 lo) from h0];rfl
  have e1:vs.getD (n+1) AX=iY .i64 hi:=by rw [List.getD_eq_getElem?_getD,show vs[n+1]?=some (iY .i64 hi) from h1];rfl
  show TW.vw g ((vs.getD n AX).as (.int .i64)) ((vs.getD (n+1) AX).as (.int .i64))=.vw g lo hi;rw [e0,e1];have a0:TP.as (.int .i64) (iY .i64 lo)=lo:=r_ (.int .i64) lo;have a1:TP.as (.int .i64) (iY .i64 hi)=hi:=r_ (.int .i64) hi;rw [a0,a1]
 case ep g q off=>
  obtain ⟨rfl,rfl⟩:=h;refine ⟨?_,rfl⟩;have h0:=ha 0 (iY .i64 q) rfl;have e0:vs.getD n AX=iY .i64 q:=by rw [List.getD_eq_getElem?_getD,show vs[n]?=some (iY .i64 q) from h0];rfl
  show TW.ep g ((vs.getD n AX).as (.int .i64)) off=.ep g q off;rw [e0];have a0:TP.as (.int .i64) (iY .i64 q)=q:=r_ (.int .i64) q;rw [a0]
 case clo f caps=>
  split at h
  .rename_i gs hgs;simp only [Q0,Q1] at h;obtain ⟨rfl,rfl⟩:=h;exact ⟨by simp only [AY,Aa hgs],rfl⟩
  .cases h
 all_goals (obtain ⟨rfl,rfl⟩:=h;exact ⟨rfl,rfl⟩)
theorem ag6{α:Type}{vs a b:List α}{n:Nat}(h :∀(j:Nat) w,(a++b)[j]?=some w->vs[n+j]?=some w) :∀(j:Nat) w,a[j]?=some w->vs[n+j]?=some w:=λj w hw=>h j w (by rw [Wa (Q3.1 hw).1];exact hw)
theorem ad_{α:Type}{vs a b:List α}{n:Nat}(h :∀(j:Nat) w,(a++b)[j]?=some w->vs[n+j]?=some w) :∀(j:Nat) w,b[j]?=some w->vs[n+a.length+j]?=some w:=λj w hw=>by
 rw [US];exact h (a.length+j) w (by rw [W6 (by omega)];simpa using hw)
theorem KH :∀{xs:List TW} {ks:List kD} {u vs:List Wd} {n:Nat},xq xs=some (ks,u)->(∀(j:Nat) w,u[j]?=some w->vs[n+j]?=some w)->(uK vs n ks).1=xs/\u.length=(ks.flatMap kD.tys).length
 | [],ks,u,vs,n,h,ha=>by
  simp only [xq,Q0,Q1] at h;obtain ⟨rfl,rfl⟩:=h;exact ⟨rfl,rfl⟩
 |x::xs,ks,u,vs,n,h,ha=>by
  simp only [xq] at h;split at h
  .rename_i k1 u1 ks1 us1 h1 h2;simp only [Q0,Q1] at h;obtain ⟨rfl,rfl⟩:=h;obtain ⟨a1,a2⟩:=YM h1 (ag6 ha);obtain ⟨b1,b2⟩:=KH (n:=n+u1.length) h2 (ad_ ha);refine ⟨?_,by simp only [XN,Z2,a2,b2]⟩;simp only [uK,a1,Dp];rw [<-a2,b1]
  .cases h
theorem ag7{x:TS}{k:kK}{u vs:List Wd}{n:Nat}(h:Qd x=some (k,u))(ha :∀(j:Nat) w,u[j]?=some w->vs[n+j]?=some w):(Hl vs n k).1=x/\u.length=k.tys.length:=by
 unfold Qd at h;split at h
 .split at h
  .rename_i h1;simp only [Q0,Q1] at h;obtain ⟨rfl,rfl⟩:=h;obtain ⟨a1,a2⟩:=YM h1 ha;exact ⟨by simp only [Hl,a1],a2⟩
  .cases h
 .split at h
  .rename_i h1;simp only [Q0,Q1] at h;obtain ⟨rfl,rfl⟩:=h;obtain ⟨a1,a2⟩:=KH h1 ha;exact ⟨by simp only [Hl,a1],a2⟩
  .cases h
 .cases h
theorem ag8{x:TO}{k:iO}{u vs:List Wd}{n:Nat}(h:xG x=some (k,u))(ha :∀(j:Nat) w,u[j]?=some w->vs[n+j]?=some w):(EH vs n k).1=x/\u.length=k.tys.length:=by
 cases x with
 |none=>cases h
 |box ws=>
  simp only [xG] at h;split at h
  .rename_i h1;simp only [Q0,Q1] at h;obtain ⟨rfl,rfl⟩:=h;obtain ⟨a1,a2⟩:=KH h1 ha;exact ⟨by simp only [EH,a1],a2⟩
  .cases h
 |arr fz a i e l=>
  simp only [xG,Q0,Q1] at h;obtain ⟨rfl,rfl⟩:=h;refine ⟨?_,rfl⟩;have:=ha 0 (uD e l) rfl;have e1:vs.getD n AX=uD e l:=by rw [List.getD_eq_getElem?_getD,show vs[n]?=some (uD e l) from this];rfl
  show TO.arr fz a i e ((vs.getD n AX).as (.sl e))=.arr fz a i e l;rw [e1];congr 1;exact r_ (.sl e) l
 |it s p=>
  simp only [xG,Q0,Q1] at h;obtain ⟨rfl,rfl⟩:=h;refine ⟨?_,rfl⟩;have h0:=ha 0 (SY s) rfl;have h1:=ha 1 (iY .i64 p) rfl;have e0:vs.getD n AX=SY s:=by rw [List.getD_eq_getElem?_getD,show vs[n]?=some (SY s) from h0];rfl
  have e1:vs.getD (n+1) AX=iY .i64 p:=by rw [List.getD_eq_getElem?_getD,show vs[n+1]?=some (iY .i64 p) from h1];rfl
  show TO.it ((vs.getD n AX).as .str) ((vs.getD (n+1) AX).as (.int .i64))=.it s p;rw [e0,e1];have a0:TP.as .str (SY s)=s:=r_ .str s;have a1:TP.as (.int .i64) (iY .i64 p)=p:=r_ (.int .i64) p;rw [a0,a1]
 |aN a i e ak l hole=>
  simp only [xG] at h;split at h
  .simp only [Q0,Q1] at h;obtain ⟨rfl,rfl⟩:=h;refine ⟨?_,rfl⟩;have:=ha 0 (uD e l) rfl;have e1:vs.getD n AX=uD e l:=by rw [List.getD_eq_getElem?_getD,show vs[n]?=some (uD e l) from this];rfl
   show TO.aN a i e ak ((vs.getD n AX).as (.sl e)) none=.aN a i e ak l none;rw [e1];congr 1;exact r_ (.sl e) l
  .cases h
theorem YN{x:TW}{k:kD}{u:List Wd}(h:TG x=some (k,u)):u.map (·.t)=k.tys:=by
 cases x<;>try simp only [TG,Q0,Q1,reduceCtorEq] at h
 case clo f caps=>
  split at h
  .simp only [Q0,Q1] at h;obtain ⟨rfl,rfl⟩:=h;rfl
  .cases h
 all_goals (obtain ⟨rfl,rfl⟩:=h;rfl)
theorem KI :∀{xs:List TW} {ks:List kD} {u:List Wd},xq xs=some (ks,u)->u.map (·.t)=ks.flatMap kD.tys
 | [],ks,u,h=>by
  simp only [xq,Q0,Q1] at h;obtain ⟨rfl,rfl⟩:=h;rfl
 |x::xs,ks,u,h=>by
  simp only [xq] at h;split at h
  .rename_i h1 h2;simp only [Q0,Q1] at h;obtain ⟨rfl,rfl⟩:=h;simp only [X2,Z2,YN h1,KI h2]
  .cases h
theorem YO{x:TS}{k:kK}{u:List Wd}(h:Qd x=some (k,u)):u.map (·.t)=k.tys:=by
 unfold Qd at h;split at h
 .split at h
  .rename_i h1;simp only [Q0,Q1] at h;obtain ⟨rfl,rfl⟩:=h;exact YN h1
  .cases h
 .split at h
  .rename_i h1;simp only [Q0,Q1] at h;obtain ⟨rfl,rfl⟩:=h;exact KI h1
  .cases h
 .cases h
theorem ag9{x:TO}{k:iO}{u:List Wd}(h:xG x=some (k,u)):u.map (·.t)=k.tys:=by
 cases x with
 |none=>cases h
 |box ws=>
  simp only [xG] at h;split at h
  .rename_i h1;simp only [Q0,Q1] at h;obtain ⟨rfl,rfl⟩:=h;exact KI h1
  .cases h
 |arr fz a i e l=>
  simp only [xG,Q0,Q1] at h;obtain ⟨rfl,rfl⟩:=h;rfl
 |it s n=>
  simp only [xG,Q0,Q1] at h;obtain ⟨rfl,rfl⟩:=h;rfl
 |aN a i e ak l hole=>
  simp only [xG] at h;split at h
  .simp only [Q0,Q1] at h;obtain ⟨rfl,rfl⟩:=h;rfl
  .cases h
def Uj(s:Nat->TS)(l:List (Nat×kK×Option (List Wd))):Prop :=∀t k u,(t,k,some u)∈l->Qd (s t)=some (k,u)
def YP(s:Nat->TO)(l:List (Nat×iO×Option (List Wd))):Prop :=∀t k u,(t,k,some u)∈l->xG (s t)=some (k,u)
theorem yU{s:Nat->TS} :∀{l:List (Nat×Md)} {r:List (Nat×kK×Option (List Wd))},A_ s l=some r->Uj s r
 | [],r,h=>by simp only [A_,Q0] at h;subst h;intro t k u hm;cases hm
 |(t,.keep)::l,r,h=>by
  simp only [A_] at h;split at h
  .rename_i h1 h2;simp only [Q0] at h;subst h;intro t' k u hm;rcases QQ.1 hm with hm | hm
   .cases hm;exact h1
   .exact yU h2 t' k u hm
  .cases h
 |(t,.sl k0)::l,r,h=>by
  simp only [A_] at h;split at h
  .rename_i h2;simp only [Q0] at h;subst h;intro t' k u hm;rcases QQ.1 hm with hm | hm
   .cases hm
   .exact yU h2 t' k u hm
  .cases h
theorem Bj{s:Nat->TO} :∀{l:List (Nat×Mo)} {r:List (Nat×iO×Option (List Wd))},JZ s l=some r->YP s r
 | [],r,h=>by simp only [JZ,Q0] at h;subst h;intro t k u hm;cases hm
 |(t,.keep)::l,r,h=>by
  simp only [JZ] at h;split at h
  .rename_i h1 h2;simp only [Q0] at h;subst h;intro t' k u hm;rcases QQ.1 hm with hm | hm
   .cases hm;exact h1
   .exact Bj h2 t' k u hm
  .cases h
 |(t,.ob k0)::l,r,h=>by
  simp only [JZ] at h;split at h
  .rename_i h2;simp only [Q0] at h;subst h;intro t' k u hm;rcases QQ.1 hm with hm | hm
   .cases hm
   .exact Bj h2 t' k u hm
  .cases h
theorem Dy{s s':Nat->TS} :∀{l:List (Nat×kK×Option (List Wd))} {us rest lK:List Wd},Uj s l->(∀t k u,(t,k,some u)∈l->s' t=s t)->nU m s' (l.map λp=>(p.1,p.2.1))=some us->
  ∃e,Qe l (us++rest)=(e,rest)/\mP l (e++lK)=(us,lK)/\e.map (·.t)=jR l
 | [],us,rest,lK,hk,hs,h=>by
  simp only [WF,nU,Q0] at h;subst h;exact ⟨[],rfl,rfl,rfl⟩
 |(t,k,some u)::l,us,rest,lK,hk,hs,h=>by
  simp only [Q6,nU] at h;split at h
  .rename_i u1 v h1 h2;simp only [Q0] at h;subst h;rw [hs t k u (by simp)] at h1;obtain ⟨rfl,hl⟩:=ag4 (hk t k u (by simp)) h1;obtain ⟨e,e1,e2,e3⟩:=Dy (rest:=rest) (lK:=lK) (λt k u hm=>hk t k u (by simp [hm])) (λt k u hm=>hs t k u (by simp [hm])) h2;refine ⟨e,?_,?_,by simp only [jR,e3]⟩
   .simp only [Qe,Wb,UP,e1]
   .simp only [mP,e2]
  .cases h
 |(t,k,none)::l,us,rest,lK,hk,hs,h=>by
  simp only [Q6,nU] at h;split at h
  .rename_i u1 v h1 h2;simp only [Q0] at h;subst h;have hty:=(YA h1).2;have hl:u1.length=k.tys.length:=by rw [<-hty,W7]
   obtain ⟨e,e1,e2,e3⟩:=Dy (rest:=rest) (lK:=lK) (λt k u hm=>hk t k u (by simp [hm])) (λt k u hm=>hs t k u (by simp [hm])) h2;refine ⟨u1++e,?_,?_,by simp only [X2,hty,jR,e3]⟩
   .simp only [Qe,Wb,<-hl,Ka,UP,e1]
   .simp only [mP,Wb,<-hl,Ka,UP,e2]
  .cases h
theorem Dz{s s':Nat->TO} :∀{l:List (Nat×iO×Option (List Wd))} {us rest lK:List Wd},YP s l->(∀t k u,(t,k,some u)∈l->s' t=s t/\m.lookup t=some (some t))->qp m s' (l.map λp=>(p.1,p.2.1))=some us->
  ∃e,TJ l (us++rest)=(e,rest)/\qV l (e++lK)=(us,lK)/\e.map (·.t)=pO l
 | [],us,rest,lK,hk,hs,h=>by
  simp only [WF,qp,Q0] at h;subst h;exact ⟨[],rfl,rfl,rfl⟩
 |(t,k,some u)::l,us,rest,lK,hk,hs,h=>by
  simp only [Q6,qp] at h;split at h
  .rename_i u1 v h1 h2;simp only [Q0] at h;subst h;obtain ⟨hs1,hm1⟩:=hs t k u (by simp);rw [hm1] at h1;simp only at h1;rw [hs1] at h1;obtain ⟨rfl,hl⟩:=ag5 (hk t k u (by simp)) h1;obtain ⟨e,e1,e2,e3⟩:=Dz (rest:=rest) (lK:=lK) (λt k u hm=>hk t k u (by simp [hm])) (λt k u hm=>hs t k u (by simp [hm])) h2;refine ⟨e,?_,?_,by simp only [pO,e3]⟩
   .simp only [TJ,Wb,UP,e1]
   .simp only [qV,e2]
  .cases h
 |(t,k,none)::l,us,rest,lK,hk,hs,h=>by
  simp only [Q6,qp] at h;split at h
  .rename_i u1 v h1 h2;simp only [Q0] at h;subst h;have hty:u1.map (·.t)=k.tys:=by
    cases hg:m.lookup t with
    |none=>rw [hg] at h1;cases h1
    |some og=>
     rw [hg] at h1;cases og with
     |some g=>exact (YB h1).2
     |none=>
      simp only at h1;split at h1
      .cases h1;rfl
      .cases h1;rfl
      .cases h1
   have hl:u1.length=k.tys.length:=by rw [<-hty,W7]
   obtain ⟨e,e1,e2,e3⟩:=Dz (rest:=rest) (lK:=lK) (λt k u hm=>hk t k u (by simp [hm])) (λt k u hm=>hs t k u (by simp [hm])) h2;refine ⟨u1++e,?_,?_,by simp only [X2,hty,pO,e3]⟩
   .simp only [TJ,Wb,<-hl,Ka,UP,e1]
   .simp only [qV,Wb,<-hl,Ka,UP,e2]
  .cases h
theorem Bl{s:List (Nat×TS)}{ds:List Nat} :∀{l:List (Nat×kK×Option (List Wd))},TL s ds l=true->∀t k u,(t,k,some u)∈l->hasK t s=true/\fJ t ds=false
 | [],h,t,k,u,hm=>by cases hm
 |(t0,k0,some u0)::l,h,t,k,u,hm=>by
  simp only [TL,Qf,Wg] at h;rcases QQ.1 hm with hm | hm
  .cases hm;exact h.1
  .exact Bl h.2 t k u hm
 |(t0,k0,none)::l,h,t,k,u,hm=>by
  rcases QQ.1 hm with hm | hm
  .cases hm
  .exact Bl (l:=l) h t k u hm
theorem Bo{s:List (Nat×TO)}{ds:List Nat} :∀{l:List (Nat×iO×Option (List Wd))},TM s ds l=true->∀t k u,(t,k,some u)∈l->hasK t s=true/\fJ t ds=false
 | [],h,t,k,u,hm=>by cases hm
 |(t0,k0,some u0)::l,h,t,k,u,hm=>by
  simp only [TM,Qf,Wg] at h;rcases QQ.1 hm with hm | hm
  .cases hm;exact h.1
  .exact Bo h.2 t k u hm
 |(t0,k0,none)::l,h,t,k,u,hm=>by
  rcases QQ.1 hm with hm | hm
  .cases hm
  .exact Bo (l:=l) h t k u hm
end
end Go.Fg

namespace Go.Fw
variable [eY]
def anm:TypeDesc->TK
 |.int k=>.int k
 |.bool=>.bool
 |.string=>.str
 |.slice e=>.slice e
 |.pointer _=>.ptr
 |.struct gs=>.struct (gs.toList.map λf=>(f.offset,f.type))
 |.array n e=>.arr n e
 |_=>.other
theorem pX.of{Pg:Program}{t:TypeId}{i:TI}(h1:(Pg.info? t).map (λx=>(x.size,x.bytes,x.zero.map (·.cells.toList),x.zero.map λz=>match z with | .agg _=>true | _=>false))=some (i.size,i.bytes,some i.zero,some i.agg))
  (h2:i.zero.all (·.oneCell')=true) (h3:i.zero.length=i.size) (hk:(Pg.underlying t).map anm=some i.k)
  (he:(!i.eq||(!Pg.stoodInHeld t&&!Pg.eqGuardType Pg.depth t&&(Pg.fieldsOf t).toList.all λf=>!(f.name == "_")))=true):pX Pg t i:=by
 refine ⟨h1,h2,h3,?_,λh=>?_⟩
 rotate_left
 .rw [h] at he;simp only [Bool.not_true,J0,Qf,Wg,Z0] at he;exact ⟨he.1.1,he.1.2,λf hf e=>by have:=he.2 f hf;rw [e] at this;simp at this⟩
 cases hu:Pg.underlying t with
 |none=>rw [hu] at hk;cases hk
 |some d=>
  rw [hu] at hk;simp only [Z6,Q0] at hk;rw [<-hk];cases d<;>simp [anm,oz,hu]
def ai4(Pg:Program):List (Nat×TI)->Prop
 | []=>True
 |p::r=>pX Pg p.1 p.2/\ai4 Pg r
theorem ag_{Pg:Program}(rows:List (Nat×TI))(h:ai4 Pg rows):iR Pg λt=>rows.lookup t:=by
 intro t i ht
 induction rows with
 |nil=>cases ht
 |cons p r ih=>
  obtain ⟨h1,h2⟩:=h;simp only [List.lookup] at ht;split at ht
  .rename_i e;have e:t=p.1:=by simpa using e
   simp only [Q0] at ht;subst ht;subst e;exact h1
  .exact ih h2 ht
theorem wrap64{x:Int}(h1:-9223372036854775808<=x)(h2:x<=9223372036854775807):IntKind.i64.wrap x=x:=by
 have e:IntKind.i64.wrap x=if x % 18446744073709551616≥9223372036854775808 then x % 18446744073709551616-18446744073709551616 else x % 18446744073709551616:=by
  simp [IntKind.wrap,IntKind.bits,IntKind.signed]
 rw [e];split<;>omega
end Go.Fw

namespace Go.Fg
open Go.Fw
section
variable [RE]
theorem wO :∀{l:List (Nat×iO×Option (List Wd))} {r:Ren} {t:Nat} {k:iO} {u:List Wd},(t,k,some u)∈l->(NK l++r).lookup t=some (some t)
 | [],r,t,k,u,h=>by cases h
 |(t0,k0,some u0)::l,r,t,k,u,h=>by
  simp only [NK,K9,List.lookup,Ia];cases hb:Nat.beq t t0 with
  |true=>have:=Q4 hb;subst this;rfl
  |false=>
   rcases QQ.1 h with h | h
   .cases h;simp at hb
   .exact wO h
 |(t0,k0,none)::l,r,t,k,u,h=>by
  rcases QQ.1 h with h | h
  .cases h
  .exact wO (l:=l) h
structure JOk(st:jl)(j:JF):Prop where
 s:Uj st.gs j.slots
 o:YP st.go j.aZ
 ds :∀t k u,(t,k,some u)∈j.slots->fJ t (newS j.slots)=false
 dO :∀t k u,(t,k,some u)∈j.aZ->fJ t (uO j.aZ)=false
theorem EP{nw:List Nat} :∀{l:List (Nat×kK×Option (List Wd))},adL nw l=true->∀t k u,(t,k,some u)∈l->fJ t nw=false
 | [],h,t,k,u,hm=>by cases hm
 |(t0,k0,some u0)::l,h,t,k,u,hm=>by
  simp only [adL,Qf,Wg] at h;rcases QQ.1 hm with hm | hm
  .cases hm;exact h.1
  .exact EP h.2 t k u hm
 |(t0,k0,none)::l,h,t,k,u,hm=>by
  rcases QQ.1 hm with hm | hm
  .cases hm
  .exact EP (l:=l) h t k u hm
theorem ER{nw:List Nat} :∀{l:List (Nat×iO×Option (List Wd))},adM nw l=true->∀t k u,(t,k,some u)∈l->fJ t nw=false
 | [],h,t,k,u,hm=>by cases hm
 |(t0,k0,some u0)::l,h,t,k,u,hm=>by
  simp only [adM,Qf,Wg] at h;rcases QQ.1 hm with hm | hm
  .cases hm;exact h.1
  .exact ER h.2 t k u hm
 |(t0,k0,none)::l,h,t,k,u,hm=>by
  rcases QQ.1 hm with hm | hm
  .cases hm
  .exact ER (l:=l) h t k u hm
theorem aea{st:jl}{jt:JT}{j:JF}(h:jOf st jt=some j):JOk st j:=by
 unfold jOf at h;split at h
 .rename_i h1 h2;split at h
  .rename_i hd;simp only [Q0] at h;subst h;simp only [Qf] at hd;exact ⟨yU h1,Bj h2,EP hd.1,ER hd.2⟩
  .cases h
 .cases h
theorem W9{st:jl}{j:JF}(hj:JOk st j)(x:Tup j.tys):(j.pay (Tup.mg j.tys x)).map (·.t)=j.sh.tys:=by
 have slots :∀(l:List (Nat×kK×Option (List Wd))) (hk :∀t k u,(t,k,some u)∈l->u.map (·.t)=k.tys) (ws rest:List Wd),ws.map (·.t)=jR l->(mP l (ws++rest)).1.map (·.t)=(l.map λp=>(p.1,p.2.1)).flatMap (λp=>p.2.tys)/\(mP l (ws++rest)).2=rest:=by
  intro l
  induction l with
  |nil=>intro hk ws rest h;simp only [jR,List.map_eq_nil_iff] at h;subst h;exact ⟨rfl,rfl⟩
  |cons p l ih=>
   intro hk ws rest h;obtain ⟨t,k,ou⟩:=p;cases ou with
   |some u=>
    obtain ⟨a1,a2⟩:=ih (λt k u hm=>hk t k u (by simp [hm])) ws rest h;exact ⟨by simp only [mP,X2,Q6,Z2,a1,hk t k u (by simp)],a2⟩
   |none=>
    simp only [jR] at h;have hl:k.tys.length<=ws.length:=by
     have:=congrArg List.length h;simp only [W7,XN] at this;omega
    have h1:(ws.take k.tys.length).map (·.t)=k.tys:=by rw [V1,h,Ka]
    have h2:(ws.drop k.tys.length).map (·.t)=jR l:=by rw [Wt,h,UP]
    have e1:(ws++rest).take k.tys.length=ws.take k.tys.length:=K3 hl;have e2:(ws++rest).drop k.tys.length=ws.drop k.tys.length++rest:=UX hl;obtain ⟨a1,a2⟩:=ih (λt k u hm=>hk t k u (by simp [hm])) _ rest h2;simp only [mP,e1,e2];exact ⟨by simp only [X2,Q6,Z2,a1,h1],a2⟩
 have aZ :∀(l:List (Nat×iO×Option (List Wd))) (hk :∀t k u,(t,k,some u)∈l->u.map (·.t)=k.tys) (ws rest:List Wd),ws.map (·.t)=pO l->(qV l (ws++rest)).1.map (·.t)=(l.map λp=>(p.1,p.2.1)).flatMap (λp=>p.2.tys)/\(qV l (ws++rest)).2=rest:=by
  intro l
  induction l with
  |nil=>intro hk ws rest h;simp only [pO,List.map_eq_nil_iff] at h;subst h;exact ⟨rfl,rfl⟩
  |cons p l ih=>
   intro hk ws rest h;obtain ⟨t,k,ou⟩:=p;cases ou with
   |some u=>
    obtain ⟨a1,a2⟩:=ih (λt k u hm=>hk t k u (by simp [hm])) ws rest h;exact ⟨by simp only [qV,X2,Q6,Z2,a1,hk t k u (by simp)],a2⟩
   |none=>
    simp only [pO] at h;have hl:k.tys.length<=ws.length:=by
     have:=congrArg List.length h;simp only [W7,XN] at this;omega
    have h1:(ws.take k.tys.length).map (·.t)=k.tys:=by rw [V1,h,Ka]
    have h2:(ws.drop k.tys.length).map (·.t)=pO l:=by rw [Wt,h,UP]
    have e1:(ws++rest).take k.tys.length=ws.take k.tys.length:=K3 hl;have e2:(ws++rest).drop k.tys.length=ws.drop k.tys.length++rest:=UX hl;obtain ⟨a1,a2⟩:=ih (λt k u hm=>hk t k u (by simp [hm])) _ rest h2;simp only [qV,e1,e2];exact ⟨by simp only [X2,Q6,Z2,a1,h1],a2⟩
 have hS :∀t k u,(t,k,some u)∈j.slots->u.map (·.t)=k.tys:=λt k u hm=>YO (hj.s t k u hm);have hO :∀t k u,(t,k,some u)∈j.aZ->u.map (·.t)=k.tys:=λt k u hm=>ag9 (hj.o t k u hm);have hx:(Tup.mg j.tys x).map (·.t)=jR j.slots++pO j.aZ:=wK _ _;generalize Tup.mg j.tys x=ws at hx;obtain ⟨w1,w2,rfl,h1,h2⟩ :∃w1 w2,ws=w1++w2/\w1.map (·.t)=jR j.slots/\w2.map (·.t)=pO j.aZ:=by
  refine ⟨ws.take (jR j.slots).length,ws.drop (jR j.slots).length,(Jx _ _).symm,?_,?_⟩
  .rw [V1,hx,Ka]
  .rw [Wt,hx,UP]
 obtain ⟨a1,a2⟩:=slots j.slots hS w1 w2 h1;have ob:=aZ j.aZ hO w2 [] h2;rw [K7] at ob;unfold JF.pay;rw [a2,X2,a1,ob.1];rfl
theorem ES{s:Nat->TS} :∀{l:List (Nat×kK×Option (List Wd))} {pre post ws rest:List Wd} {t:Nat},Uj s l->ws.map (·.t)=jR l->hasK t (gK (pre++(mP l (ws++rest)).1++post) pre.length (l.map λp=>(p.1,p.2.1))).1=true->fJ t (newS l)=false->
  jO .no (gK (pre++(mP l (ws++rest)).1++post) pre.length (l.map λp=>(p.1,p.2.1))).1 t=s t/\∃k u,(t,k,some u)∈l
 | [],pre,post,ws,rest,t,hk,hw,h,hn=>by cases h
 |(t0,k,some u)::l,pre,post,ws,rest,t,hk,hw,h,hn=>by
  have hu:=hk t0 k u (by simp);have hmk:=ag7 (vs:=pre++(u++(mP l (ws++rest)).1)++post) (n:=pre.length) hu (λj w hj=>by
   rw [Wb,W6 (by omega),qb,Wb,Wa (Q3.1 hj).1];exact hj)
  simp only [mP,Q6,gK,hmk.1,Dq,<-hmk.2] at h ⊢;have e:pre++(u++(mP l (ws++rest)).1)++post=(pre++u)++(mP l (ws++rest)).1++post:=by simp only [Wb]
  rw [e] at h ⊢;have en:pre.length+u.length=(pre++u).length:=by rw [XN]
  rw [en] at h ⊢;simp only [hasK,jO] at h ⊢;cases hb:Nat.beq t t0 with
  |true=>
   have:=Q4 hb;subst this;exact ⟨rfl,k,u,by simp⟩
  |false=>
   rw [hb,J0] at h;obtain ⟨a1,k',u',a2⟩:=ES (l:=l) (pre:=pre++u) (λt k u hm=>hk t k u (by simp [hm])) hw h hn;exact ⟨a1,k',u',by simp [a2]⟩
 |(t0,k,none)::l,pre,post,ws,rest,t,hk,hw,h,hn=>by
  simp only [jR] at hw;simp only [newS,fJ,Uv] at hn;have hl:k.tys.length<=ws.length:=by
   have:=congrArg List.length hw;simp only [W7,XN] at this;omega
  have h2:(ws.drop k.tys.length).map (·.t)=jR l:=by rw [Wt,hw,UP]
  have e1:(ws++rest).take k.tys.length=ws.take k.tys.length:=K3 hl;have e2:(ws++rest).drop k.tys.length=ws.drop k.tys.length++rest:=UX hl;have hlen:(ws.take k.tys.length).length=k.tys.length:=by rw [Vc];omega
  simp only [mP,Q6,gK,Dq,e1,e2] at h ⊢;have e:pre++(ws.take k.tys.length++(mP l (ws.drop k.tys.length++rest)).1)++post=(pre++ws.take k.tys.length)++(mP l (ws.drop k.tys.length++rest)).1++post:=by simp only [Wb]
  rw [e] at h ⊢;have en:pre.length+k.tys.length=(pre++ws.take k.tys.length).length:=by rw [XN,hlen]
  rw [en] at h ⊢;simp only [hasK,jO,hn.1,J0,cond_false] at h ⊢;obtain ⟨a1,k',u',a2⟩:=ES (pre:=pre++ws.take k.tys.length) (λt k u hm=>hk t k u (by simp [hm])) h2 h hn.2;exact ⟨a1,k',u',by simp [a2]⟩
theorem KJ{s:Nat->TO} :∀{l:List (Nat×iO×Option (List Wd))} {pre post ws rest:List Wd} {t:Nat},YP s l->ws.map (·.t)=pO l->hasK t (jW (pre++(qV l (ws++rest)).1++post) pre.length (l.map λp=>(p.1,p.2.1))).1=true->fJ t (uO l)=false->
  jO .none (jW (pre++(qV l (ws++rest)).1++post) pre.length (l.map λp=>(p.1,p.2.1))).1 t=s t/\∃k u,(t,k,some u)∈l
 | [],pre,post,ws,rest,t,hk,hw,h,hn=>by cases h
 |(t0,k,some u)::l,pre,post,ws,rest,t,hk,hw,h,hn=>by
  have hu:=hk t0 k u (by simp);have hmk:=ag8 (vs:=pre++(u++(qV l (ws++rest)).1)++post) (n:=pre.length) hu (λj w hj=>by
   rw [Wb,W6 (by omega),qb,Wb,Wa (Q3.1 hj).1];exact hj)
  simp only [qV,Q6,jW,hmk.1,J6,<-hmk.2] at h ⊢;have e:pre++(u++(qV l (ws++rest)).1)++post=(pre++u)++(qV l (ws++rest)).1++post:=by simp only [Wb]
  rw [e] at h ⊢;have en:pre.length+u.length=(pre++u).length:=by rw [XN]
  rw [en] at h ⊢;simp only [hasK,jO] at h ⊢;cases hb:Nat.beq t t0 with
  |true=>
   have:=Q4 hb;subst this;exact ⟨rfl,k,u,by simp⟩
  |false=>
   rw [hb,J0] at h;obtain ⟨a1,k',u',a2⟩:=KJ (l:=l) (pre:=pre++u) (λt k u hm=>hk t k u (by simp [hm])) hw h hn;exact ⟨a1,k',u',by simp [a2]⟩
 |(t0,k,none)::l,pre,post,ws,rest,t,hk,hw,h,hn=>by
  simp only [pO] at hw;simp only [uO,fJ,Uv] at hn;have hl:k.tys.length<=ws.length:=by
   have:=congrArg List.length hw;simp only [W7,XN] at this;omega
  have h2:(ws.drop k.tys.length).map (·.t)=pO l:=by rw [Wt,hw,UP]
  have e1:(ws++rest).take k.tys.length=ws.take k.tys.length:=K3 hl;have e2:(ws++rest).drop k.tys.length=ws.drop k.tys.length++rest:=UX hl;have hlen:(ws.take k.tys.length).length=k.tys.length:=by rw [Vc];omega
  simp only [qV,Q6,jW,J6,e1,e2] at h ⊢;have e:pre++(ws.take k.tys.length++(qV l (ws.drop k.tys.length++rest)).1)++post=(pre++ws.take k.tys.length)++(qV l (ws.drop k.tys.length++rest)).1++post:=by simp only [Wb]
  rw [e] at h ⊢;have en:pre.length+k.tys.length=(pre++ws.take k.tys.length).length:=by rw [XN,hlen]
  rw [en] at h ⊢;simp only [hasK,jO,hn.1,J0,cond_false] at h ⊢;obtain ⟨a1,k',u',a2⟩:=KJ (pre:=pre++ws.take k.tys.length) (λt k u hm=>hk t k u (by simp [hm])) h2 h hn.2;exact ⟨a1,k',u',by simp [a2]⟩
end
end Go.Fg

namespace Go.Fg
open Go.Fw
section
variable [RE]
theorem abg{st:jl}{j:JF}(x:Tup j.tys) :∃w1 w2,Tup.mg j.tys x=w1++w2/\w1.map (·.t)=jR j.slots/\w2.map (·.t)=pO j.aZ:=by
 have hx:(Tup.mg j.tys x).map (·.t)=jR j.slots++pO j.aZ:=wK _ _;generalize Tup.mg j.tys x=ws at hx;exact ⟨ws.take (jR j.slots).length,ws.drop (jR j.slots).length,(Jx _ _).symm,by rw [V1,hx,Ka],by rw [Wt,hx,UP]⟩
theorem ET :∀{l:List (Nat×kK×Option (List Wd))} {ws rest:List Wd},ws.map (·.t)=jR l->(mP l (ws++rest)).2=rest
 | [],ws,rest,h=>by simp only [jR,List.map_eq_nil_iff] at h;subst h;rfl
 |(t,k,some u)::l,ws,rest,h=>ET (l:=l) h
 |(t,k,none)::l,ws,rest,h=>by
  simp only [jR] at h;have hl:k.tys.length<=ws.length:=by
   have:=congrArg List.length h;simp only [W7,XN] at this;omega
  have h2:(ws.drop k.tys.length).map (·.t)=jR l:=by rw [Wt,h,UP]
  have e2:(ws++rest).drop k.tys.length=ws.drop k.tys.length++rest:=UX hl;simp only [mP,e2];exact ET h2
theorem EU{st:jl}{j:JF}(hj:JOk st j)(x:Tup j.tys):(∀t,hasK t (yK j x).s=true->fJ t (newS j.slots)=false->(yK j x).gs t=st.gs t/\∃k u,(t,k,some u)∈j.slots)/\
  ∀g,hasK g (yK j x).o=true->fJ g (uO j.aZ)=false->(yK j x).go g=st.go g/\∃k u,(g,k,some u)∈j.aZ:=by
 obtain ⟨w1,w2,hw,h1,h2⟩:=abg (st:=st) x;have hr:=ET (rest:=w2) h1;have hp:j.pay (Tup.mg j.tys x)=(mP j.slots (w1++w2)).1++(qV j.aZ w2).1:=by rw [hw];unfold JF.pay;rw [hr]
 have hs:=λt a b=>ES (pre:=[]) (post:=(qV j.aZ w2).1) (rest:=w2) (t:=t) hj.s h1 a b;have ho:=λt a b=>KJ (pre:=(mP j.slots (w1++w2)).1) (post:=[]) (rest:=[]) (t:=t) hj.o h2 a b;simp only [Kj,K1] at hs;simp only [K7] at ho;rw [<-hp] at hs ho;have hty:=W9 hj x;have hn:(gK (j.pay (Tup.mg j.tys x)) 0 j.sh.slots).2=(mP j.slots (w1++w2)).1.length:=by
  rw [wI,Wo];rw [hp] at hty;have hS :∀(l:List (Nat×kK×Option (List Wd))) (hk:Uj st.gs l) (ws rest:List Wd),ws.map (·.t)=jR l->(mP l (ws++rest)).1.length=((l.map λp=>(p.1,p.2.1)).flatMap λp=>p.2.tys).length:=by
   intro l
   induction l with
   |nil=>intro hk ws rest h;rfl
   |cons p l ih=>
    intro hk ws rest h;obtain ⟨t,k,ou⟩:=p;cases ou with
    |some u=>
     have e:=YO (hk t k u (by simp));have e:=congrArg List.length e;rw [W7] at e;simp only [mP,XN,Q6,Z2,e];rw [ih (λt k u hm=>hk t k u (by simp [hm])) ws rest h]
    |none=>
     simp only [jR] at h;have hl:k.tys.length<=ws.length:=by
      have:=congrArg List.length h;simp only [W7,XN] at this;omega
     have h2:(ws.drop k.tys.length).map (·.t)=jR l:=by rw [Wt,h,UP]
     have e1:(ws++rest).take k.tys.length=ws.take k.tys.length:=K3 hl;have e2:(ws++rest).drop k.tys.length=ws.drop k.tys.length++rest:=UX hl;simp only [mP,e1,e2,XN,Q6,Z2,Vc];rw [ih (λt k u hm=>hk t k u (by simp [hm])) _ rest h2];omega
  exact (hS j.slots hj.s w1 w2 h1).symm
 refine ⟨λt a b=>hs t a b,λg a b=>?_⟩;have e1:(yK j x).o=(jW (j.pay (Tup.mg j.tys x)) (mP j.slots (w1++w2)).1.length (j.aZ.map λp=>(p.1,p.2.1))).1:=by
  rw [<-hn];rfl
 have e2:(yK j x).go g=jO .none (jW (j.pay (Tup.mg j.tys x)) (mP j.slots (w1++w2)).1.length (j.aZ.map λp=>(p.1,p.2.1))).1 g:=by
  rw [<-hn];rfl
 rw [e1] at a;rw [e2];exact ho g a b
theorem Qp{gs:List Nat}{o:Nat->TO}(hp:Pl o gs)(x:TW):bV (tpW gs o x)=Yf gs (bU o) (bV x):=by
 cases x with
 |own g=>
  simp only [tpW,bV,Yf,bJ];cases hc:gs.contains g with
  |false=>rfl
  |true=>
   obtain ⟨⟨a,i,e,l⟩,hg⟩:=hp g (by simpa using hc);simp only [cond_true,if_true,hg,(oN hg).1];rfl
 |vw g lo hi=>
  simp only [tpW,bV,Yf,bJ];cases hc:gs.contains g with
  |false=>rfl
  |true=>
   obtain ⟨⟨a,i,e,l⟩,hg⟩:=hp g (by simpa using hc);simp only [cond_true,if_true,hg,(oN hg).1,sD];rfl
 |_=>simp only [tpW,bV,Yf]
theorem YQ{gs:List Nat}{o:Nat->TO}(hp:Pl o gs)(x:TV):jS (tpV gs o x)=plV gs (bU o) (jS x):=by
 cases x with
 |one x=>simp only [tpV,jS,plV,Qp hp]
 |agg xs=>
  simp only [tpV,jS,plV,UI,V.agg.injEq];exact ZS λx _=>Qp hp x
theorem aha{gs:List Nat}{o:Nat->TO}(hp:Pl o gs)(x:TS):bf (tpS gs o x)=plS gs (bU o) (bf x):=by
 cases x with
 |v x=>simp only [tpS,bf,plS,YQ hp]
 |jD xs=>
  simp only [tpS,bf,plS,UI,S.jD.injEq];exact ZS λx _=>YQ hp x
 |no=>rfl
theorem KL{α:Type}(d:α)(f:Nat->α->α)(hd :∀t,f t d=d) :∀(l:List (Nat×α)) (t:Nat),jO d (l.map λp=>(p.1,f p.1 p.2)) t=f t (jO d l t)
 | [],t=>(hd t).symm
 |(k,v)::r,t=>by
  simp only [Q6,jO];cases hb:Nat.beq t k with
  |true=>have:=Q4 hb;subst this;rfl
  |false=>exact KL d f hd r t
theorem YR(gs:List Nat)(st:jl)(t:Nat):(MJ gs st).gs t=match gs with | []=>st.gs t | g::r=>tpS (g::r) st.go (st.gs t):=by
 cases gs with
 |nil=>rfl
 |cons g r=>exact KL .no (λ_ x=>tpS (g::r) st.go x) (λ_=>rfl) st.s t
theorem YS(gs:List Nat)(st:jl)(t:Nat):(MJ gs st).go t=match gs with | []=>st.go t | g::r=>tpO (g::r) st.go t (st.go t):=by
 cases gs with
 |nil=>rfl
 |cons g r=>exact KL .none (λt x=>tpO (g::r) st.go t x) (λ_=>rfl) st.o t
theorem Qq(o:Nat->O)(x:W):Yf [] o x=x:=by
 unfold Yf;split<;>first | rfl | simp
theorem YT(o:Nat->O)(x:V):plV [] o x=x:=by
 cases x with
 |one x=>simp only [plV,Qq]
 |agg xs=>
  simp only [plV,V.agg.injEq]
  conv=>rhs;rw [<-List.map_id xs]
  exact ZS λx _=>Qq o x
theorem Qr(st:St):fB [] st=st:=by
 refine St.ext' (λt=>?_) (λg=>?_) λg=>rfl
 .show plS [] st.o (st.s t)=st.s t;cases st.s t with
  |v x=>simp only [plS,YT]
  |jD xs=>
   simp only [plS,S.jD.injEq]
   conv=>rhs;rw [<-List.map_id xs]
   exact ZS λx _=>YT _ x
  |no=>rfl
 .show plO [] st.o g=st.o g;unfold plO;cases st.o g with
  |box ws=>
   simp only [O.box.injEq]
   conv=>rhs;rw [<-List.map_id ws]
   exact ZS λx _=>Qq _ x
  |_=>simp
theorem Uk{gs:List Nat}{st:jl}(hp:Pl st.go gs):aV (MJ gs st)=fB gs (aV st):=by
 cases gs with
 |nil=>rw [Qr];rfl
 |cons g r=>
  refine St.ext' (λt=>?_) (λk=>?_) λk=>rfl
  .show bf ((MJ (g::r) st).gs t)=plS (g::r) (bU st.go) (bf (st.gs t));rw [YR];exact aha hp _
  .show dU ((MJ (g::r) st).go k)=plO (g::r) (bU st.go) k;rw [YS];simp only;have hk:bU st.go k=dU (st.go k):=rfl;cases ho:st.go k with
   |none=>
    have hd:bU st.go k=.none:=by rw [hk,ho];rfl
    simp only [tpO,plO,hd];split
    .simp [Fw.aU,plainO,hd,dU]
    .rfl
   |box ws=>
    simp only [tpO,plO,oM ho,dU,UI,O.box.injEq];exact ZS λx _=>Qp hp x
   |arr fz a i e l=>
    simp only [tpO,plO,iC ho,dU,bJ];cases hc:(g::r).contains k with
    |false=>simp
    |true=>simp [Fw.aU,plainO,iC ho]
   |it s n=>
    have hd:bU st.go k=.it (.str ⟨s.toArray⟩) (.int .i64 n):=by rw [hk,ho];rfl
    simp only [tpO,plO,hd];split
    .simp [Fw.aU,plainO,hd,dU]
    .rfl
   |aN a i e ak l hole=>
    have hd:bU st.go k=.aN a i (size e) (iL ak) (aH e l) hole:=by rw [hk,ho];rfl
    simp only [tpO,plO,hd,bJ];cases hc:(g::r).contains k with
    |false=>simp only [cond_false,W4,if_false];rfl
    |true=>
     simp only [cond_true,if_true];have:=JH (hp k (by simpa using hc));rw [this]
theorem aeb{gs:List Nat}{o:Nat->TO}{x:TW}(h:(W.namesT x).all (λg=>!fJ g gs)=true):tpW gs o x=x:=by
 cases x with
 |own g=>
  have h:fJ g gs=false:=by simpa [W.namesT] using h
  simp only [tpW,h,cond_false]
 |vw g lo hi=>
  have h:fJ g gs=false:=by simpa [W.namesT] using h
  simp only [tpW,h,cond_false]
 |_=>rfl
theorem Qs{gs:List Nat}{o:Nat->TO} :∀{xs:List TW},((xs.flatMap W.namesT).all λg=>!fJ g gs)=true->xs.map (tpW gs o)=xs
 | [],_=>rfl
 |x::xs,h=>by
  simp only [Z2,List.all_append,Qf] at h;simp only [Q6,aeb h.1,Qs h.2]
theorem aec{gs:List Nat}{o:Nat->TO}{x:TV}(h:((V.namesT x).all λg=>!fJ g gs)=true):tpV gs o x=x:=by
 cases x with
 |one x=>simp only [tpV,aeb (x:=x) h]
 |agg xs=>simp only [tpV,Qs (xs:=xs) h]
theorem Ul{gs:List Nat}{o:Nat->TO}{x:TS}(h:WW gs x=true):tpS gs o x=x:=by
 cases x with
 |v x=>simp only [tpS,aec (x:=x) h]
 |jD xs=>
  simp only [tpS,TS.jD.injEq];have :∀(xs:List TV),((xs.flatMap V.namesT).all λg=>!fJ g gs)=true->xs.map (tpV gs o)=xs:=by
   intro xs
   induction xs with
   |nil=>intro _;rfl
   |cons x xs ih=>
    intro h;simp only [Z2,List.all_append,Qf] at h;simp only [Q6,aec h.1,ih h.2]
  exact this xs h
 |no=>rfl
theorem Um{gs:List Nat}{o:Nat->TO}{g:Nat}{x:TO}(h:J3 gs g x=true):tpO gs o g x=x:=by
 cases x with
 |none=>rfl
 |box ws=>simp only [tpO,Qs (xs:=ws) h]
 |arr fz a i e l=>
  have h:fJ g gs=false:=by simpa [J3] using h
  simp only [tpO,h,Bool.or_false]
 |it s n=>rfl
 |aN a i e ak l hole=>
  have h:fJ g gs=false:=by simpa [J3] using h
  simp only [tpO,h,cond_false]
theorem EW{gs:List Nat}{s:Nat->TS} :∀{l:List (Nat×kK×Option (List Wd))},adJ gs s l=true->∀t k u,(t,k,some u)∈l->WW gs (s t)=true
 | [],h,t,k,u,hm=>by cases hm
 |(t0,k0,some u0)::l,h,t,k,u,hm=>by
  simp only [adJ,Qf] at h;rcases QQ.1 hm with hm | hm
  .cases hm;exact h.1
  .exact EW h.2 t k u hm
 |(t0,k0,none)::l,h,t,k,u,hm=>by
  rcases QQ.1 hm with hm | hm
  .cases hm
  .exact EW (l:=l) h t k u hm
theorem EX{gs:List Nat}{s:Nat->TO} :∀{l:List (Nat×iO×Option (List Wd))},adK gs s l=true->∀t k u,(t,k,some u)∈l->J3 gs t (s t)=true
 | [],h,t,k,u,hm=>by cases hm
 |(t0,k0,some u0)::l,h,t,k,u,hm=>by
  simp only [adK,Qf] at h;rcases QQ.1 hm with hm | hm
  .cases hm;exact h.1
  .exact EX h.2 t k u hm
 |(t0,k0,none)::l,h,t,k,u,hm=>by
  rcases QQ.1 hm with hm | hm
  .cases hm
  .exact EX (l:=l) h t k u hm
theorem YU{gs:List Nat}{st:jl}(h:akM st.go gs=true):agC (aV st).o gs=true/\Pl st.go gs:=by
 have hp:Pl st.go gs:=λg hg=>by
  have:=(Z0.1 h) g hg;simp only [plB,Qf] at this;cases hx:nT st.go g with
  |some p=>exact ⟨p,rfl⟩
  |none=>rw [hx] at this;cases this.1
 refine ⟨Z0.2 λg hg=>?_,hp⟩;obtain ⟨⟨a,i,e,l⟩,hx⟩:=hp g hg;have:=(Z0.1 h) g hg;simp only [Qf] at this;obtain ⟨k1,k2⟩:=oN hx;have k1:plainO (aV st).o g=_:=k1;have k2:((aV st).o g).names=_:=k2;rw [k1,k2];simp only [Option.isSome_some,Bool.true_and];have h2:=this.2;simp only [bJ] at h2;exact h2
theorem oQ(keep:List Nat) :∀(hs:List Nat) (st:jl),aV (nX keep hs st).2=Fw.shuts (nX keep hs st).1 (aV st)
 | [],st=>rfl
 |g::gs,st=>by
  simp only [nX];split
  .rename_i d a i e ak l h1 h2;split
   .simp only [Fw.shuts];rw [oQ keep gs,Ky];have:=NY h1 h2;have this:Fw.kN (aV st).o g=_:=this;rw [this]
   .exact oQ keep gs st
  .exact oQ keep gs st
theorem sH{keep:List Nat}{t:Nat}(ht:fJ t keep=true) :∀(hs:List Nat) (st:jl),(nX keep hs st).2.go t=st.go t
 | [],st=>rfl
 |g::gs,st=>by
  simp only [nX];split
  .rename_i d a i e ak l h1 h2;split
   .rename_i hk;obtain ⟨k1,k2⟩:=iM hk;rw [sH ht gs];show jO .none (Dj st.o [(g,.aN a i e ak l none),(d,.none)]) t=jO .none st.o t;rw [yO];have e1:(t==g)=false:=by
     simp only [beq_eq_false_iff_ne];intro e;subst e;rw [ht] at k1;cases k1
    have e2:(t==d)=false:=by
     simp only [beq_eq_false_iff_ne];intro e;subst e;rw [ht] at k2;cases k2
    simp only [List.lookup,e1,e2]
   .exact sH ht gs st
  .exact sH ht gs st
theorem DC(keep:List Nat) :∀(hs:List Nat) (st:jl),(nX keep hs st).2.s=st.s
 | [],st=>rfl
 |g::gs,st=>by
  simp only [nX];split
  .split
   .rw [DC keep gs]
   .exact DC keep gs st
  .exact DC keep gs st
theorem EY :∀{l:List (Nat×iO×Option (List Wd))} {t:Nat} {k:iO} {u:List Wd},(t,k,some u)∈l->fJ t (z_ l)=true
 | [],t,k,u,h=>by cases h
 |(t0,k0,some u0)::l,t,k,u,h=>by
  simp only [z_,fJ,JN];rcases QQ.1 h with h | h
  .cases h;exact .inl (by simp)
  .exact .inr (EY h)
 |(t0,k0,none)::l,t,k,u,h=>by
  rcases QQ.1 h with h | h
  .cases h
  .exact EY (l:=l) h
theorem pU{R:Type}{bg:List Nat}{j:JF}{q0 q:jT}{K:Tup j.tys->Prog R}{r:R}(hj:JOk q0.st j)(hr:sG q0 q)(h:(xu bg j q K).run=some r) :
  ∃x,(K x).run=some r/\Back bg j.sh.er (aV q.st) λvs=>vs=(j.pay (Tup.mg j.tys x)).map dn:=by
 unfold xu at h;simp only at h;split at h
 .exact (cZ h).elim
 .rename_i hk;obtain ⟨hk,h6⟩:=iM hk;obtain ⟨hk,h5⟩:=iM hk;obtain ⟨hk,h4⟩:=iM hk;obtain ⟨hk,h3⟩:=iM hk;obtain ⟨h1,h2⟩:=iM hk;have henc:=oQ (z_ j.aZ) (Qg q.st.o) q.st;have hkeep:=λt (ht:fJ t (z_ j.aZ)=true)=>sH ht (Qg q.st.o) q.st;have hss:=DC (z_ j.aZ) (Qg q.st.o) q.st;generalize (nX (z_ j.aZ) (Qg q.st.o) q.st).1=hs0 at henc;generalize (nX (z_ j.aZ) (Qg q.st.o) q.st).2=st0 at h h3 h4 h5 h6 henc hkeep hss;generalize hgs:akO bg j.sh st0=gs at h h3 h4 h5 h6;split at h
  .exact (cZ h).elim
  .rename_i vs hvs;split at h
   .exact (cZ h).elim
   .rename_i x hx;refine ⟨x,h,?_⟩;have hpay:j.pay (Tup.mg j.tys x)=vs:=by
     rw [Ib _ hx];unfold Dh at hvs;split at hvs
     .split at hvs
      .rename_i u v hu hv;simp only [Q0] at hvs;subst hvs;have kS :∀t k u,(t,k,some u)∈j.slots->(MJ gs st0).gs t=q0.st.gs t:=λt k u hm=>by
        obtain ⟨a1,a2⟩:=Bl h1 t k u hm;have a3:=EW h5 t k u hm;have a4:st0.gs t=q.st.gs t:=by unfold jl.gs;rw [hss]
        rw [<-(hr.s t a1 a2).2.2,YR,<-a4];cases gs with
        |nil=>rfl
        |cons g r=>exact Ul a3
       have kO :∀t k u,(t,k,some u)∈j.aZ->(MJ gs st0).go t=q0.st.go t/\(NK j.aZ++derive bg j.sh (MJ gs st0)).lookup t=some (some t):=λt k u hm=>by
        obtain ⟨a1,a2⟩:=Bo h2 t k u hm;have a3:=EX h6 t k u hm;refine ⟨?_,wO hm⟩;rw [<-(hr.o t a1 a2).2.2,YS,<-hkeep t (EY hm)];cases gs with
        |nil=>rfl
        |cons g r=>exact Um a3
       obtain ⟨e,e1,_,e3⟩:=Dy (rest:=v) (lK:=[]) hj.s kS hu;obtain ⟨e',e1',_,e3'⟩:=Dz (rest:=[]) (lK:=[]) hj.o kO hv;obtain ⟨e2,e12,e22,_⟩:=Dy (rest:=v) (lK:=e') hj.s kS hu;rw [e1] at e12;have:e=e2:=(Prod.mk.inj e12).1;subst this;obtain ⟨e4,e14,e24,_⟩:=Dz (rest:=[]) (lK:=[]) hj.o kO hv;rw [e1'] at e14;have:e'=e4:=(Prod.mk.inj e14).1;subst this;rw [K7] at e1' e24;unfold JF.ext;rw [e1];simp only;rw [e1'];unfold JF.pay;simp only;rw [e22];simp only;rw [e24]
      .cases hvs
     .cases hvs
    rw [hpay];obtain ⟨c1,c2⟩:=Ko hvs;obtain ⟨f1,f2⟩:=YU h4;rw [Uk f2,henc] at c1;rw [henc] at f1;exact .mk hs0 gs _ _ f1 h3 c1 rfl
theorem sG.fresh{q q':jT}(h:sG q.fresh q'):sG q (q'.since q):=by
 refine ⟨λt h1 h2=>?_,λg h1 h2=>?_⟩
 .have h2:fJ t (q'.ds++q.ds)=false:=h2;rw [bJ] at h2;simp only [qu,Uv] at h2;rw [<-bJ,<-bJ] at h2;obtain ⟨a1,a2,a3⟩:=h.s t h1 h2.1;exact ⟨a1,h2.2,a3⟩
 .have h2:fJ g (q'.od++q.od)=false:=h2;rw [bJ] at h2;simp only [qu,Uv] at h2;rw [<-bJ,<-bJ] at h2;obtain ⟨a1,a2,a3⟩:=h.o g h1 h2.1;exact ⟨a1,h2.2,a3⟩
theorem uV{t:Nat}{a b:List Nat}(h:fJ t (a++b)=false):fJ t a=false/\fJ t b=false:=by
 rw [bJ] at h;simp only [qu,Uv] at h;rw [<-bJ,<-bJ] at h;exact h
theorem aed{st:jl}{t:Nat}(h:st.gs t≠.no):hasK t st.s=true:=by
 cases hk:hasK t st.s with
 |true=>rfl
 |false=>exact absurd (uS TS.no st.s t hk) h
theorem aee{st:jl}{t:Nat}(h:st.go t≠.none):hasK t st.o=true:=by
 cases hk:hasK t st.o with
 |true=>rfl
 |false=>exact absurd (uS TO.none st.o t hk) h
theorem YV{x:TS}{y:kK×List Wd}(h:Qd x=some y):x≠.no:=by intro e;subst e;cases h
theorem YW{x:TO}{y:iO×List Wd}(h:xG x=some y):x≠.none:=by intro e;subst e;cases h
theorem ahb{q:jT}{j:JF}(hj:JOk q.st j)(x:Tup j.tys):sG q ⟨yK j x,newS j.slots++q.ds,uO j.aZ++q.od⟩:=by
 obtain ⟨hs,ho⟩:=EU hj x;refine ⟨λt h1 h2=>?_,λg h1 h2=>?_⟩
 .obtain ⟨n1,n2⟩:=uV (a:=newS j.slots) (b:=q.ds) h2;obtain ⟨a1,k,u,hm⟩:=hs t h1 n1;exact ⟨aed (YV (hj.s t k u hm)),n2,a1⟩
 .obtain ⟨n1,n2⟩:=uV (a:=uO j.aZ) (b:=q.od) h2;obtain ⟨a1,k,u,hm⟩:=ho g h1 n1;exact ⟨aee (YW (hj.o g k u hm)),n2,a1⟩
theorem N9{q q':jT}{j:JF}(hj:JOk q.st j){x:Tup j.tys}(h:sG ⟨yK j x,[],[]⟩ q'):sG q (q'.since ⟨q'.st,newS j.slots++q.ds,uO j.aZ++q.od⟩):=by
 obtain ⟨hs,ho⟩:=EU hj x;refine ⟨λt h1 h2=>?_,λg h1 h2=>?_⟩
 .obtain ⟨n1,n2⟩:=uV (a:=q'.ds) (b:=newS j.slots++q.ds) h2;obtain ⟨n2,n3⟩:=uV n2;obtain ⟨a1,a2,a3⟩:=h.s t h1 n1;obtain ⟨b1,k,u,hm⟩:=hs t a1 n2;exact ⟨aed (YV (hj.s t k u hm)),n3,a3.trans b1⟩
 .obtain ⟨n1,n2⟩:=uV (a:=q'.od) (b:=uO j.aZ++q.od) h2;obtain ⟨n2,n3⟩:=uV n2;obtain ⟨a1,a2,a3⟩:=h.o g h1 n1;obtain ⟨b1,k,u,hm⟩:=ho g a1 n2;exact ⟨aee (YW (hj.o g k u hm)),n3,a3.trans b1⟩
theorem Gx(vs:List Wd)(t:Nat) :∀(n:Nat) (l:List (Nat×kK)),hasK t (gK vs n l).1=hasK t l
 |n,[]=>rfl
 |n,(t0,k)::l=>by simp only [gK,hasK,Gx vs t]
theorem Gy(vs:List Wd)(t:Nat) :∀(n:Nat) (l:List (Nat×iO)),hasK t (jW vs n l).1=hasK t l
 |n,[]=>rfl
 |n,(t0,k)::l=>by simp only [jW,hasK,Gy vs t]
theorem KN{α:Type}{t:Nat}{x:α} :∀{l:List (Nat×α)},(t,x)∈l->hasK t l=true
 | [],h=>by cases h
 |(t0,y)::l,h=>by
  simp only [hasK,JN];rcases QQ.1 h with h | h
  .cases h;exact .inl (by simp)
  .exact .inr (KN h)
theorem ahc{st:jl}{j:JF}(hj:JOk st j)(x:Tup j.tys):JOk (yK j x) j:=by
 obtain ⟨hs,ho⟩:=EU hj x;refine ⟨λt k u hm=>?_,λt k u hm=>?_,hj.ds,hj.dO⟩
 .have hh:hasK t (yK j x).s=true:=by
   show hasK t (gK _ 0 j.sh.slots).1=true;rw [Gx];exact KN (x:=k) (QR.2 ⟨(t,k,some u),hm,rfl⟩)
  rw [(hs t hh (hj.ds t k u hm)).1];exact hj.s t k u hm
 .have hh:hasK t (yK j x).o=true:=by
   show hasK t (jW _ _ j.sh.aZ).1=true;rw [Gy];exact KN (x:=k) (QR.2 ⟨(t,k,some u),hm,rfl⟩)
  rw [(ho t hh (hj.dO t k u hm)).1];exact hj.o t k u hm
structure KSm{R:Type}(q:jT)(K:TK R)(r:R)(Kp:CY):Prop where
 n :∀q',sG q q'->(K.n q').run=some r->Kp.n (aV q'.st)
 x :∀id q',sG q q'->(K.x id q').run=some r->Kp.x id (aV q'.st)
 r :∀q',sG q q'->(K.r q').run=some r->Kp.r (aV q'.st)
theorem KSm.from{R:Type}{q q1:jT}{K:TK R}{r:R}{Kp:CY}(h:KSm q K r Kp)(hr:sG q q1):KSm q1 K r Kp:=
 ⟨λq' a b=>h.n q' (hr.trans a) b,λid q' a b=>h.x id q' (hr.trans a) b,λq' a b=>h.r q' (hr.trans a) b⟩
theorem Ic{R R':Type}{p:Prog R}{r:R}(h:(p.map (Sum.inr:R->R' ⊕ R)).run=some (.inr r)):p.run=some r:=by
 rw [run_map _ (λa b e=>Sum.inr.inj e)] at h;cases hp:p.run with
 |none=>rw [hp] at h;cases h
 |some a=>rw [hp] at h;cases h;rfl
theorem wP{R R':Type}{p:Prog R}{x:R'}(h:(p.map (Sum.inr:R->R' ⊕ R)).run=some (.inl x)):False:=by
 rw [run_map _ (λa b e=>Sum.inr.inj e)] at h;cases hp:p.run with
 |none=>rw [hp] at h;cases h
 |some a=>rw [hp] at h;cases h
theorem KO{R:Type}{bg:List Nat}{early:Bool}{jt:JT}{here:Nat->Bool}{q:jT}{inner:(R':Type)->jT->TK R'->Prog R'}{K:TK R}{r:R}{E:St->CY->Prop}{Kp:CY}
  (hin :∀(R':Type) (q':jT) (K':TK R') (r':R') (Kp':CY),(inner R' q' K').run=some r'->KSm q' K' r' Kp'->E (aV q'.st) Kp')
  (h:(NM bg early jt here q inner K).run=some r) (hK:KSm q K r Kp):E (aV q.st) { n:=Wk bg Kp.n,x:=λid st=>bif here id then Wk bg Kp.n st else Kp.x id st,r:=Kp.r }:=by
 unfold NM at h;split at h
 .exact (cZ h).elim
 .rename_i j hjo;have hj:=aea hjo;have hjf:JOk q.fresh.st j:=hj;have fin :∀(x:Tup j.tys),(frX ⟨yK j x,newS j.slots++q.ds,uO j.aZ++q.od⟩ K.n).run=some r->∀q':jT,Back bg j.sh.er (aV q'.st) (λvs=>vs=(j.pay (Tup.mg j.tys x)).map dn)->Wk bg Kp.n (aV q'.st):=by
   intro x hx q' hb;rw [tY] at hx;have hn:=hK.n _ (ahb hj x) hx;refine .back j.sh.er ?_;obtain ⟨hs,gs,m,vs,h0,h1,h2,rfl⟩:=hb;refine ⟨hs,gs,m,_,h0,h1,h2,?_⟩;have e:=yM (W9 hj x);have hn:Kp.n (aV (mkT j.sh (j.pay (Tup.mg j.tys x)))):=hn;rw [e] at hn;exact hn
  split at h
  .obtain ⟨x,hi,hx⟩:=ad8 h;refine hin _ q.fresh _ x _ hi ⟨λq' hr hq=>?_,λid q' hr hq=>?_,λq' hr hq=>(cZ hq).elim⟩
   .obtain ⟨y,hy,hb⟩:=pU hjf hr hq;have hy:some y=some x:=hy;cases hy;exact fin _ hx q' hb
   .show (bif here id then Wk bg Kp.n (aV q'.st) else Kp.x id (aV q'.st));have hq:(bif here id then xu bg j q' .ret else .stuck 41:Prog _).run=some x:=hq;cases hh:here id with
    |true=>
     rw [hh] at hq;obtain ⟨y,hy,hb⟩:=pU hjf hr hq;have hy:some y=some x:=hy;cases hy;exact fin _ hx q' hb
    |false=>rw [hh] at hq;exact (cZ hq).elim
  .rcases abf h with ⟨x,hi,hx⟩ | hi
   .refine hin _ q.fresh _ (Sum.inl x) _ hi ⟨λq' hr hq=>?_,λid q' hr hq=>?_,λq' hr hq=>(wP hq).elim⟩
    .obtain ⟨y,hy,hb⟩:=pU hjf hr hq;have hy:some (Sum.inl y:Tup j.tys ⊕ R)=some (.inl x):=hy;cases hy;exact fin _ hx q' hb
    .show (bif here id then Wk bg Kp.n (aV q'.st) else Kp.x id (aV q'.st));have hq:(bif here id then xu bg j q' (λx=>.ret (.inl x)) else (K.x id (q'.since q)).map .inr:Prog (Tup j.tys ⊕ R)).run=some (.inl x):=hq;cases hh:here id with
     |true=>
      rw [hh] at hq;obtain ⟨y,hy,hb⟩:=pU hjf hr hq;have hy:some (Sum.inl y:Tup j.tys ⊕ R)=some (.inl x):=hy;cases hy;exact fin _ hx q' hb
     |false=>rw [hh] at hq;exact (wP hq).elim
   .refine hin _ q.fresh _ (Sum.inr r) _ hi ⟨λq' hr hq=>?_,λid q' hr hq=>?_,λq' hr hq=>?_⟩
    .obtain ⟨y,hy,hb⟩:=pU hjf hr hq;have hy:some (Sum.inl y:Tup j.tys ⊕ R)=some (.inr r):=hy;cases hy
    .show (bif here id then Wk bg Kp.n (aV q'.st) else Kp.x id (aV q'.st));have hq:(bif here id then xu bg j q' (λx=>.ret (.inl x)) else (K.x id (q'.since q)).map .inr:Prog (Tup j.tys ⊕ R)).run=some (.inr r):=hq;cases hh:here id with
     |true=>
      rw [hh] at hq;obtain ⟨y,hy,hb⟩:=pU hjf hr hq;have hy:some (Sum.inl y:Tup j.tys ⊕ R)=some (.inr r):=hy;cases hy
     |false=>
      rw [hh] at hq;exact hK.x id (q'.since q) (sG.fresh hr) (Ic hq)
    .exact hK.r (q'.since q) (sG.fresh hr) (Ic hq)
theorem least{p:Nat->Prop}:(∃n,p n)->∃n,p n/\∀k,k<n->¬ p k:=by
 rintro ⟨n,hn⟩
 induction n using Nat.strongRecOn with
 |ind n ih=>
  by_cases h :∃k,k<n/\p k
  .obtain ⟨k,hk,hp⟩:=h;exact ih k hk hp
  .exact ⟨n,hn,λk hk hp=>h ⟨k,hk,hp⟩⟩
open Classical in
noncomputable def KP(p:Nat->Prop):Nat:=if h :∃n,p n then Classical.choose (least h) else 0
theorem Gz{p:Nat->Prop}(h :∃n,p n):p (KP p)/\∀k,p k->KP p<=k:=by
 unfold KP;rw [dif_pos h];obtain ⟨h1,h2⟩:=Classical.choose_spec (least h);exact ⟨h1,λk hk=>qt λhlt=>h2 k hlt hk⟩
theorem abh{T:kW}{tt:TT}{ety:TypeId->Option Ty}{N:Nat} :∀(c:Code) {bg:List Nat} {R:Type} {a:gI} {q:jT} {K:TK R} {r:R} {Kp:CY},(nY T tt ety N bg c R a q K).run=some r->KSm q K r Kp->
  exec (mQ T) tt N bg c (aV q.st) Kp:=by
 intro c
 induction c with
 |skip=>intro bg R a q K r Kp h hK;exact hK.n q (sG.refl q) h
 |region id ops draw=>
  intro bg R a q K r Kp h hK;show rZ (mQ T) tt N ops draw (aV q.st) (Wk bg Kp.n);have h:(match a with
   |.meet e j _=>NM bg e j (λ_=>false) q (λ_ q K=>wG T tt ety N ops draw q K.n) K
   |_=>wG T tt ety N ops draw q K.n).run=some r:=h
  have plain:(wG T tt ety N ops draw q K.n).run=some r->rZ (mQ T) tt N ops draw (aV q.st) (Wk bg Kp.n):=λh=>KF h λq' hr hq=>.now (hK.n q' hr hq);cases a with
  |meet e j a=>
   exact KO (E:=λst K=>rZ (mQ T) tt N ops draw st K.n) (λR' q' K' r' Kp' h hK'=>KF h λq'' hr hq=>hK'.n q'' hr hq) h hK
  |_=>exact plain h
 |seq x y Yg ihy=>
  intro bg R a q K r Kp h hK;refine Yg h ⟨λq' hr hq=>ihy hq (hK.from hr),hK.x,hK.r⟩
 |cond c x y Yg ihy=>
  intro bg R a q K r Kp h hK;have body :∀(R:Type) (a:gI) (q:jT) (K:TK R) (r:R) (Kp:CY),(Yt c q (λq=>nY T tt ety N bg x R a.fst q K) λq=>nY T tt ety N bg y R a.snd q K).run=some r->KSm q K r Kp->(match (aV q.st).dh c with
    |.v (.one (.p _ _ (.bool b)))=>bif b then exec (mQ T) tt N bg x (aV q.st) Kp else exec (mQ T) tt N bg y (aV q.st) Kp
    |_=>False):=by
   intro R a q K r Kp h hK;unfold Yt at h;split at h
   .rename_i a' i' b hb;change Bool at b;have hb':(aV q.st).dh c=.v (.one (.p a' i' (.bool b))):=by rw [lH,hb];rfl
    rw [hb'];simp only;have kn:aV (knT c a' i' b q).st=aV q.st/\sG q (knT c a' i' b q):=by
     unfold knT;cases c with
     |tmp t=>
      have hb:q.st.gs t=.v (.one (.p a' i' (je b))):=hb;exact ⟨yP hb,yQ hb⟩
     |_=>exact ⟨rfl,sG.refl q⟩
    cases b with
    |true=>
     have h:(frX (knT c a' i' true q) λq=>nY T tt ety N bg x R a.fst q K).run=some r:=h;rw [tY] at h;have:=Yg h (hK.from kn.2);rw [kn.1] at this;exact this
    |false=>
     have h:(frX (knT c a' i' false q) λq=>nY T tt ety N bg y R a.snd q K).run=some r:=h;rw [tY] at h;have:=ihy h (hK.from kn.2);rw [kn.1] at this;exact this
   .exact (cZ h).elim
  cases a with
  |meet e j a=>
   exact KO (E:=λst K=>match st.dh c with
    |.v (.one (.p _ _ (.bool b)))=>bif b then exec (mQ T) tt N bg x st K else exec (mQ T) tt N bg y st K
    |_=>False) (λR' q' K' r' Kp' h hK'=>body R' a q' K' r' Kp' h hK') h hK
  |nil=>exact body R .nil q K r { n:=Wk bg Kp.n,x:=Kp.x,r:=Kp.r } h ⟨λq' a b=>.now (hK.n q' a b),hK.x,hK.r⟩
  |seq a b=>exact body R (.seq a b) q K r { n:=Wk bg Kp.n,x:=Kp.x,r:=Kp.r } h ⟨λq' a b=>.now (hK.n q' a b),hK.x,hK.r⟩
  |range j s a=>exact body R (.range j s a) q K r { n:=Wk bg Kp.n,x:=Kp.x,r:=Kp.r } h ⟨λq' a b=>.now (hK.n q' a b),hK.x,hK.r⟩
  |loop j a=>exact body R (.loop j a) q K r { n:=Wk bg Kp.n,x:=Kp.x,r:=Kp.r } h ⟨λq' a b=>.now (hK.n q' a b),hK.x,hK.r⟩
 |block id c ih=>
  intro bg R a q K r Kp h hK;have plain :∀(a:gI),(nY T tt ety N bg c R a q { n:=K.n,x:=λid' q'=>bif Nat.beq id' id then K.n q' else K.x id' q',r:=K.r }).run=some r->exec (mQ T) tt N bg (.block id c) (aV q.st) Kp:=by
   intro a h;refine ih h ⟨λq' hr hq=>.now (hK.n q' hr hq),λid' q' hr hq=>?_,hK.r⟩;show (bif Nat.beq id' id then Wk bg Kp.n (aV q'.st) else Kp.x id' (aV q'.st));have hq:(bif Nat.beq id' id then K.n q' else K.x id' q').run=some r:=hq;cases hb:Nat.beq id' id with
   |true=>rw [hb] at hq;exact .now (hK.n q' hr hq)
   |false=>rw [hb] at hq;exact hK.x id' q' hr hq
  cases a with
  |meet e j a=>
   have:=KO (E:=λst K=>exec (mQ T) tt N bg c st K) (λR' q' K' r' Kp' h hK'=>ih h hK') h hK;have e :∀id',Nat.beq id id'=Nat.beq id' id:=λid'=>by rw [Bool.eq_iff_iff];simp;exact ⟨λh=>h.symm,λh=>h.symm⟩
   show exec (mQ T) tt N bg c (aV q.st) { n:=Wk bg Kp.n,x:=λid' st'=>bif Nat.beq id' id then Wk bg Kp.n st' else Kp.x id' st',r:=Kp.r };simp only [e] at this;exact this
  |nil=>exact plain _ h
  |seq a b=>exact plain _ h
  |loop j a=>exact plain _ h
  |range j s a=>exact plain _ h
 |loop c ih=>
  intro bg R a q K r Kp h hK;cases a with
  |loop jt a=>
   unfold nY at h;simp only at h;split at h
   .exact (cZ h).elim
   .rename_i j hjo;have hj:=aea hjo;have hjf:JOk q.fresh.st j:=hj;obtain ⟨x0,hx0,hb0⟩:=pU hjf (sG.refl q.fresh) h;obtain ⟨n0,hn0⟩:=ad9 hx0;generalize hB:(λz=>(frX ⟨yK j z,[],[]⟩ λq'=>nY T tt ety N bg c (Tup j.tys ⊕ R) a q'
      { n:=λq'=>xu bg j q' λx=>.ret (.inl x),x:=λid q'=>(K.x id (q'.since ⟨q'.st,newS j.slots++q.ds,uO j.aZ++q.od⟩)).map .inr,r:=λq'=>(K.r (q'.since ⟨q'.st,newS j.slots++q.ds,uO j.aZ++q.od⟩)).map .inr }).run)=B at hn0
    let P:List P->Nat->Prop:=λvs n =>∃x,vs=(j.pay (Tup.mg j.tys x)).map dn/\jQ B n x=some r
    refine .mk j.sh.er (λvs =>∃n,P vs n) (λvs=>KP (P vs)) ?_ ?_
    .obtain ⟨hs,gs,m,vs,h0,h1,h2,rfl⟩:=hb0;exact ⟨hs,gs,m,_,h0,h1,h2,n0,x0,rfl,hn0⟩
    .intro us hI;obtain ⟨⟨x,hus,hl⟩,hmin⟩:=Gz hI;generalize hn:KP (P us)=n at hl hmin;cases n with
     |zero=>cases hl
     |succ n=>
      simp only [jQ] at hl;cases hb:B x with
      |none=>rw [hb] at hl;cases hl
      |some v=>
       rw [hb] at hl;have hb2:=hb;rw [<-hB] at hb2;simp only [tY] at hb2;have e:=yM (W9 hj x);rw [<-hus] at e;rw [<-e];refine ih hb2 ⟨λq' hr hq=>?_,λid q' hr hq=>?_,λq' hr hq=>?_⟩
       .obtain ⟨y,hy,hbk⟩:=pU (q0:=⟨yK j x,[],[]⟩) (ahc hj x) hr hq;have hy:some (Sum.inl y:Tup j.tys ⊕ R)=some v:=hy;cases hy;have hl:jQ B n y=some r:=hl;obtain ⟨hs,gs,m,vs,h0,h1,h2,rfl⟩:=hbk;have hP:P ((j.pay (Tup.mg j.tys y)).map dn) n:=⟨y,rfl,hl⟩;refine ⟨hs,gs,m,_,h0,h1,h2,⟨n,hP⟩,?_⟩;have:=(Gz ⟨n,hP⟩).2 n hP;omega
       .cases v with
        |inl y=>exact (wP hq).elim
        |inr r'=>
         have hl:some r'=some r:=hl;cases hl;exact hK.x id (q'.since ⟨q'.st,newS j.slots++q.ds,uO j.aZ++q.od⟩) (N9 hj hr) (Ic hq)
       .cases v with
        |inl y=>exact (wP hq).elim
        |inr r'=>
         have hl:some r'=some r:=hl;cases hl;exact hK.r (q'.since ⟨q'.st,newS j.slots++q.ds,uO j.aZ++q.od⟩) (N9 hj hr) (Ic hq)
  |nil=>exact (cZ h).elim
  |seq a b=>exact (cZ h).elim
  |meet e j a=>exact (cZ h).elim
  |range j s a=>exact (cZ h).elim
 |exit id=>intro bg R a q K r Kp h hK;exact hK.x id q (sG.refl q) h
 |ret=>intro bg R a q K r Kp h hK;exact hK.r q (sG.refl q) h
 |label l=>intro bg R a q K r Kp h hK;exact hK.n q (sG.refl q) h
 |scope c ih=>intro bg R a q K r Kp h hK;exact ih h hK
 |_=>intro bg R a q K r Kp h;exact (cZ h).elim
end
end Go.Fg

namespace Go.Fg
open Go.Fw
section
variable [RE]
theorem aef{tt:TT}{st:jl}{r:ResultVar}{x:TS}(h:Yu tt st r=some x):aaK tt (aV st) r=some (bf x):=by
 cases r with
 |tmp t=>simp only [Yu,Q0] at h;subst h;rfl
 |cell a t=>
  simp only [Yu] at h;split at h
  .rename_i i g off ht hs;split at h
   .rename_i ws hg;obtain ⟨hb,h⟩:=bM h;simp only [Q0] at h;subst h;obtain ⟨h1,h2⟩:=iM hb;have hs':(aV st).s a=.v (.one (.box g off)):=by show bf (st.gs a)=_;rw [hs];rfl
    have hg':(aV st).o g=.box (ws.map bV):=oM hg;simp only [aaK,ht,hs',hg',W7];rw [if_pos ⟨W3 h1,JL h2⟩,lG,V1,Wt]
   .cases h
  .cases h
theorem N_{tt:TT}{st:jl} :∀{rs:List ResultVar} {xs:List TS},J4 tt st rs=some xs->Gj tt (aV st) rs=some (xs.map bf)
 | [],xs,h=>by simp only [J4,Q0] at h;subst h;rfl
 |r::rs,xs,h=>by
  simp only [J4] at h;split at h
  .rename_i h1 h2;simp only [Q0] at h;subst h;simp only [Gj,aef h1,N_ h2,Q6]
  .cases h
theorem Un :∀(xs:List TS) (n k:Nat),jO .no (WY n xs) (n+k)=xs.getD k .no
 | [],n,k=>rfl
 |x::xs,n,0=>by simp [WY,jO]
 |x::xs,n,k+1=>by
  have:Nat.beq (n+(k+1)) n=false:=by
   cases h:Nat.beq (n+(k+1)) n with
   |false=>rfl
   |true=>have:=Q4 h;omega
  simp only [WY,jO,this,cond_false,List.getD_cons_succ];have e:n+(k+1)=(n+1)+k:=by omega
  rw [e];exact Un xs (n+1) k
theorem YX{tt:TT}{sp:dH}{ts:List ResultVar}{q:jT}{y:Tup sp.aT.tys}(h:(agU tt sp ts q).run=some y):Fw.Fin tt sp.er ts ((Tup.mg sp.aT.tys y).map dn) (aV q.st):=by
 unfold agU at h;split at h
 .exact (cZ h).elim
 .rename_i xs hxs;simp only at h;split at h
  .exact (cZ h).elim
  .rename_i hk;obtain ⟨hk,hk2⟩:=iM hk;split at h
   .exact (cZ h).elim
   .rename_i vs hvs;split at h
    .exact (cZ h).elim
    .rename_i x hx;have h:some x=some y:=h;cases h;unfold Fw.Fin;rw [N_ hxs];simp only;obtain ⟨c1,c2⟩:=Ko hvs;have e:aV { s:=WY 0 xs,o:=q.st.o,u:=q.st.u }=SV (xs.map bf) (aV q.st):=by
      refine St.ext' (λt=>?_) (λg=>rfl) λg=>rfl;show bf (jO .no (WY 0 xs) t)=(xs.map bf).getD t .no;have:=Un xs 0 t;rw [Wo] at this;rw [this,NR]
     obtain ⟨f1,f2⟩:=YU hk2;rw [Uk f2,oQ,e] at c1;rw [oQ,e] at f1;refine .mk _ _ _ _ f1 hk c1 ?_;rw [Ib _ hx]
def aC(Pg:Program)(f:FuncId)(sp:aY):Prop:=Sound Pg f sp.er
def kW.of(l:List (Nat×aY)):kW:=λf=>l.lookup f
def abj(Pg:Program):List (Nat×aY)->Prop
 | []=>True
 |p::r=>aC Pg (p.1 % 1000000) p.2/\abj Pg r
theorem abj.sound{Pg:Program} :∀{l:List (Nat×aY)},abj Pg l->∀f sp,mQ (kW.of l) f=some sp->Sound Pg (f % 1000000) sp
 | [],_,f,sp,h=>by cases h
 |(g,s)::l,⟨h1,h2⟩,f,sp,h=>by
  simp only [mQ,kW.of,List.lookup] at h;split at h
  .rename_i e;have e:f=g:=by simpa using e
   subst e;cases h;exact h1
  .exact abj.sound h2 f sp h
theorem dW{Pg:Program}{f:FuncId}{fn:Func}{c:Code}{sp:aY}(hf:Pg.funcs[f]?=some fn)(hb:fn.body=some c)(hname:(fn.name == "runtime.NumGoroutine")=false)(hok:sp.sig.er.ok=true)(h :∀x,sp.f x=none):aC Pg f sp:=by
 refine ⟨hok,λargs w=>?_,λE w vals gh ins dG hR=>?_⟩
 .have hname':¬ fn.name = "runtime.NumGoroutine" := by simpa using hname
  simp [callFunc,hf,hname',hb]
 .obtain ⟨x,y,hy,_⟩:=hR;have hy:=(Ql hy).1;rw [h x] at hy;cases hy
theorem wQ(e:Ty)(l:List (Dt e)):(aH e l).length=List.length (α:=Dt e) l:=by simp [aH]
theorem EZ{R:Type}{a b:Nat->TO}{K:Prog R}{y:R} :∀{gs:List Nat},(Ba a b K gs).run=some y->K.run=some y/\∀g∈gs,(dU (a g)).like (dU (b g))
 | [],h=>⟨h,λg hg=>by cases hg⟩
 |g::gs,h=>by
  unfold Ba at h;have key :∀{x y:TO},TN x y=.yes->(dU x).like (dU y):=by
   intro x y hxy;cases x<;>cases y<;>simp only [TN] at hxy<;>first | trivial | (cases hxy) | (exfalso;revert hxy;cases Nat.beq _ _<;>intro hxy<;>cases hxy)
  have key2 :∀{x y:TO} {n m:Nat},TN x y=.len n m->n=m->(dU x).like (dU y):=by
   intro x y n m hxy hnm;cases x<;>cases y<;>simp only [TN] at hxy<;>first | (cases hxy) | skip
   .rename_i e l _ _ _ e' l';cases hb:Nat.beq (size e) (size e') with
    |false=>rw [hb] at hxy;cases hxy
    |true=>
     rw [hb] at hxy;cases hxy;exact ⟨Q4 hb,by rw [wQ,wQ];exact hnm⟩
   .rename_i e _ l _ _ _ e' _ l' _;cases hb:Nat.beq (size e) (size e') with
    |false=>rw [hb] at hxy;cases hxy
    |true=>
     rw [hb] at hxy;cases hxy;exact ⟨Q4 hb,by rw [wQ,wQ];exact hnm⟩
  split at h
  .rename_i hc;obtain ⟨h1,h2⟩:=EZ h;refine ⟨h1,λg' hg=>?_⟩;rcases QQ.1 hg with rfl | hg
   .exact key hc
   .exact h2 g' hg
  .exact (cZ h).elim
  .rename_i n m hc;have h:ck (decide (n=m)) (Ba a b K gs).run=some y:=h;unfold ck at h;cases hd:decide (n=m) with
   |false=>rw [hd] at h;cases h
   |true=>
    rw [hd] at h;obtain ⟨h1,h2⟩:=EZ (gs:=gs) h;refine ⟨h1,λg' hg=>?_⟩;rcases QQ.1 hg with rfl | hg
    .exact key2 hc (of_decide_eq_true hd)
    .exact h2 g' hg
theorem abk{Pg:Program}{tt:TT}{T:kW}{ety:TypeId->Option Ty}{f:FuncId}{fn:Func}{c:Code}{sp:aY}(ts:List ResultVar)(a:gI)(hf:Pg.funcs[f]?=some fn)(hb:fn.body=some c)(hname:(fn.name == "runtime.NumGoroutine")=false)(hres:fn.results=ts.toArray)
  (hok:sp.sig.er.ok=true) (LG:(sp.sig.bg.all λg=>sp.sig.pin.er.nms.contains g)=true) (hn:sp.sig.bn<=fn.ntmps) (hnr:ts.length=sp.sig.dD)
  (hT :∀f sp,mQ T f=some sp->Sound Pg (f % 1000000) sp) (htt:iR Pg tt) (hm:Fit Pg)
  (h :∀x,(adN T tt ety fn.ntmps sp.sig ts c a x).run=sp.f x):aC Pg f sp:=by
 have hcase :∀x y,sp.ff x=some y->(tfun T tt ety fn.ntmps sp.sig ts c a x).run=some y/\∀g∈sp.sig.er.bg,((Fw.mk sp.sig.pin.er ((Tup.mg sp.sig.pin.tys x).map dn)).o g).like ((Fw.mk sp.sig.aT.er ((Tup.mg sp.sig.aT.tys y).map dn)).o g):=by
  intro x y hy0;have hy:=(Ql hy0).1;have hx:=h x;rw [hy] at hx;unfold adN at hx;cases hbx:sp.sig.er.akg with
  |true=>
   rw [hbx] at hx;exact ⟨hx,zV.aaq hbx⟩
  |false=>
   rw [hbx] at hx;have hx:(tfun T tt ety fn.ntmps sp.sig ts c a x).run.bind (λz=>(Ba (mkT sp.sig.pin (Tup.mg sp.sig.pin.tys x)).go (mkT sp.sig.aT (Tup.mg sp.sig.aT.tys z)).go (.ret z) sp.sig.bg).run)=some y:=hx;cases hr:(tfun T tt ety fn.ntmps sp.sig ts c a x).run with
   |none=>rw [hr] at hx;cases hx
   |some z=>
    rw [hr] at hx;obtain ⟨h1,h2⟩:=EZ (R:=Tup sp.sig.aT.tys) (K:=.ret z) hx;have h1:some z=some y:=h1;cases h1;refine ⟨rfl,λg hg=>?_⟩;have e1:=congrArg (λs=>s.o g) (yM (wK _ x));have e2:=congrArg (λs=>s.o g) (yM (wK _ y));rw [<-e1,<-e2];exact h2 g hg
 refine ac7 (T:=mQ T) (tt:=tt) (c:=c) ts hf hb hname hres hok LG (λins dG ⟨x,y,hy,hi,ho⟩=>by subst hi;subst ho;exact (hcase x y hy).2) hn hnr hT htt hm ?_;rintro ins dG ⟨x,y,hy,rfl,rfl⟩;have hx:=(hcase x y hy).1;unfold tfun at hx;rw [tY] at hx;have e:=yM (wK _ x);have hx:=abh c hx (Kp:=akv tt sp.sig.er ts ((Tup.mg sp.sig.aT.tys y).map dn)) ⟨λq' _ hq=>YX hq,λid q' _ hq=>(cZ hq).elim,λq' _ hq=>YX hq⟩;have hx:exec (mQ T) tt fn.ntmps sp.sig.er.bg c (aV (mkT sp.sig.pin (Tup.mg sp.sig.pin.tys x))) (akv tt sp.sig.er ts ((Tup.mg sp.sig.aT.tys y).map dn)):=hx;rw [e] at hx;exact hx
end
end Go.Fg

namespace Go.Fg
open Go.Fw Go.Proofs
def Qu(w:World)(l:List Int)(G:Gh):Prop:=
 (G.ad=none/\G.cap=0/\l=[])\/
 ∃b o c e,G.ad=some ⟨b,o,none⟩ /\w.heap[b]?=some (.cells c e (0,0))/\o+G.cap<=c.size/\(l.length<=G.cap/\G.cap<=9223372036854775807)/\
  ∀(n:Nat) x,l[n]?=some x->c[o+n]?=some (.int .i64 x)
section
variable [RE]
theorem nH(l:List Int):aH (.int .i64) l=l.map λx=>[P.int .i64 x]:=rfl
theorem ahd{E:Env}{st:St}{gh:Nat->Gh}{w:World}{a i:Bool}{l:List Int}{G:Gh}(h:iQ E st gh w a i 1 (aH (.int .i64) l) G):Qu w l G:=by
 rcases h with ⟨h1,h2,h3⟩ | ⟨ad,c,e,h1,h2,h3,h4,h5,h6,h7⟩
 .refine .inl ⟨h1,h2,?_⟩;rw [nH] at h3;simpa using h3
 .obtain ⟨b,o,sp⟩:=ad;simp only at h2 h3 h4 h7;subst h2;refine .inr ⟨b,o,c,e,h1,h3,by omega,by simpa [nH] using h5,λn x hx=>?_⟩;have hx':(aH (.int .i64) l)[n]?=some [P.int .i64 x]:=by
   rw [nH,Ys,hx];rfl
  obtain ⟨v,hv,hr⟩:=h7 n _ hx' 0 (P.int .i64 x) rfl;rw [hr.eX] at hv;rw [<-hv];congr 1;omega
theorem ahe{E:Env}{st:St}{gh:Nat->Gh}{w:World}{a i:Bool}{l:List Int}{G:Gh}(h:Qu w l G):iQ E st gh w a i 1 (aH (.int .i64) l) G:=by
 rcases h with ⟨h1,h2,h3⟩ | ⟨b,o,c,e,h1,h3,h4,h5,h7⟩
 .exact .inl ⟨h1,h2,by rw [h3];rfl⟩
 .refine .inr ⟨⟨b,o,none⟩,c,e,h1,rfl,h3,by simpa using h4,by simpa [nH] using h5,λx hx=>?_,λn x hx j y hy=>?_⟩
  .rw [nH,QR] at hx;obtain ⟨z,_,rfl⟩:=hx;rfl
  .rw [nH,Ys] at hx;cases hl:l[n]? with
   |none=>rw [hl] at hx;cases hx
   |some z=>
    rw [hl] at hx;simp only [Z6,Q0] at hx;subst hx;cases j with
    |succ j=>simp at hy
    |zero=>
     simp only [UT,Q0] at hy;subst hy;refine ⟨_,?_,.int .i64 z⟩;rw [<-h7 n z hl];congr 1;simp
end
theorem heap_setCell(w:World)(b o:Nat)(v:Value)(c:Array Value)(e:TypeId)(h:w.heap[b]?=some (.cells c e (0,0))) :
  (w.setCell ⟨b,o,none⟩ v).heap[b]?=some (.cells (c.setIfInBounds o v) e (0,0))/\∀b',b'≠b->(w.setCell ⟨b,o,none⟩ v).heap[b']?=w.heap[b']?:=by
 refine ⟨?_,λb' hb=>?_⟩
 .simp [World.setCell,qq,h]
 .simp [World.setCell,qq,Ne.symm hb]
theorem Ac(b:Nat)(e:TypeId) :∀(vs:List Value) (o:Nat) (w:World) (c:Array Value),w.heap[b]?=some (.cells c e (0,0))->o+vs.length<=c.size->
  ∃c',(w.setCells b o vs).heap[b]?=some (.cells c' e (0,0))/\c'.size=c.size/\(∀k,c'[k]?=if o<=k/\k<o+vs.length then vs[k-o]? else c[k]?)/\
   (∀b',b'≠b->(w.setCells b o vs).heap[b']?=w.heap[b']?)/\(w.setCells b o vs).heap.size=w.heap.size
 | [],o,w,c,h,hs=>⟨c,h,rfl,λk=>by rw [if_neg (by simp)],λ_ _=>rfl,rfl⟩
 |v::vs,o,w,c,h,hs=>by
  simp only [Wl] at hs;obtain ⟨h1,h2⟩:=heap_setCell w b o v c e h;obtain ⟨c',k1,k2,k3,k4,k5⟩:=Ac b e vs (o+1) (w.setCell ⟨b,o,none⟩ v) (c.setIfInBounds o v) h1 (by simp;omega);refine ⟨c',k1,by simpa using k2,λk=>?_,λb' hb=>(k4 b' hb).trans (h2 b' hb),k5.trans (by simp [World.setCell])⟩;rw [k3];simp only [Wl];by_cases e1:k=o
  .subst e1;rw [if_neg (by omega),if_pos (by omega)];simp [Kf];omega
  .by_cases e2:o+1<=k/\k<o+1+vs.length
   .rw [if_pos e2,if_pos (by omega)];rw [show k-o=(k-(o+1))+1 by omega,VV]
   .rw [if_neg e2,if_neg (by omega)];simp [Kf,Ne.symm e1]
theorem GH(b:Nat) :∀(vs:List Value) (o:Nat) (w:World),(w.setCells b o vs).os=w.os/\(w.setCells b o vs).tape=w.tape/\(w.setCells b o vs).output=w.output
 | [],_,_=>⟨rfl,rfl,rfl⟩
 |_::vs,o,w=>GH b vs (o+1) _
theorem enters_of{Pg:Program}{f:FuncId}{fn:Func}{c:Code}(hf:Pg.funcs[f]?=some fn)(hb:fn.body=some c)(hname:(fn.name == "runtime.NumGoroutine")=false):Fw.Enters Pg f:=λargs w=>by
 have hname':¬ fn.name = "runtime.NumGoroutine" := by simpa using hname
 simp [callFunc,hf,hname',hb]
section
variable [RE]
end
end Go.Fg

namespace Go.Fg
open Go.Fw Go.Proofs
section
variable [RE]
def qW:NH:=⟨[],[(70000,.arr false false true (.int .i64))]⟩
theorem aeg{E:Env}{st:St}{gh:Nat->Gh}{val:Nat->Value}{w w':World}(h:Rel E st gh val w)(hB:E.B0=w.heap.size)(l:List Int)(G:Gh)(hG:Qu w' l G)
  (hsz:w.heap.size<=w'.heap.size) (hfr :∀b,b<w.heap.size->¬ E.Wr b->w'.heap[b]?=w.heap[b]?)
  (hin :∀ad,G.ad=some ad->(w.heap.size<=ad.block\/E.Wr ad.block)/\ad.block<w'.heap.size) (hos:w'.os=w.os/\w'.tape=w.tape/\w'.output=w.output) (bH:Nat->Gh) (hgh:bH 70000=G) (hsub :∀b,G.sub b=none:=by first | exact λ_=>rfl | assumption) :
  Rel E (Fw.mk qW.er ((Tup.mg qW.tys l).map dn)) bH (λk=>([]:List Value).getD k undef) w':=by
 have hs1 :∀t,(Fw.mk qW.er ((Tup.mg qW.tys l).map dn)).s t=.no:=λt=>rfl;have ho:(Fw.mk qW.er ((Tup.mg qW.tys l).map dn)).o 70000=.arr false false true 1 (aH (.int .i64) l):=by
  exact congrArg (O.arr false false true 1) (jB (.int .i64) l)
 have hon :∀g,g≠70000->(Fw.mk qW.er ((Tup.mg qW.tys l).map dn)).o g=.none:=λg hg=>by
  have e1:(g==70000)=false:=by simpa using hg
  show (match List.lookup g [(70000,_)] with | some x=>x | none=>O.none)=_;simp only [List.lookup,e1]
 have hu:(Fw.mk qW.er ((Tup.mg qW.tys l).map dn)).used 70000=true:=rfl;have hown :∀g,((Fw.mk qW.er ((Tup.mg qW.tys l).map dn)).o g).bP=true->g=70000:=λg hg=>by
  by_cases e:g=70000
  .exact e
  .rw [hon g e] at hg;simp [O.bP] at hg
 generalize Fw.mk qW.er ((Tup.mg qW.tys l).map dn)=s at *;exact {
  slots:=λt=>by rw [hs1];exact .no _
  aZ:=λg=>by
   by_cases e:g=70000
   .subst e;rw [ho,hgh];exact ahe hG
   .rw [hon g e];trivial
  inj:=λg g' _ h1 h2 _ _=>(hown g h1).trans (hown g' h2).symm
  wr:=λg a h1 h2=>by
   have:=hown g h1;subst this;rw [hgh] at h2;rw [hB];rcases h2 with ⟨ad,q1,q2⟩ | q
   .rw [<-q2];exact hin ad q1
   .rw [hsub a] at q;cases q
  wi:=λg i b h1 h2 h3=>by
   by_cases e:g=70000
   .subst e;rw [ho] at h1;cases h1;rfl
   .rw [hon g e] at h1;cases h1
  ns:=λg h1 _ b=>by
   have:=hown g h1;subst this;rw [hgh];exact hsub b
  wb:=h.wb
  frame:=λb hb hw=>by
   rw [hfr b (by omega) hw];exact h.frame b hb hw
  size:=by rw [hB];exact hsz
  os:=hos.1.trans h.os
  tape:=hos.2.1.trans h.tape
  output:=hos.2.2.trans h.output
  us:=λt g hg=>by rw [hs1] at hg;simp [S.names] at hg
  uo:=λg g' hg=>by
   by_cases e:g=70000
   .subst e;rw [ho] at hg;simp [O.names] at hg
   .rw [hon g e] at hg;simp [O.names] at hg
  ul:=λg hg=>by
   by_cases e:g=70000
   .subst e;exact hu
   .exact absurd (hon g e) hg }
def uX:dH:={ bn:=1,pin:=⟨[(0,.one (.own 70000))],[(70000,.arr false false true (.int .i64))]⟩,aT:=qW,dD:=0,bg:=[70000],aW:=[] }
def abl(l:List Int):Option (List Int):=match decide (l.length<4611686018427387904) with
 |true=>some (l.mergeSort λx y=>decide (x<=y))
 |false=>none
def YZ:aY:=⟨uX,λx=>abl x⟩
theorem abm{Pg:Program}{f:FuncId}(aq4:Fw.Enters Pg f)
  (hD :∀(b off c:Nat) (zs:List Int) (w:World),Go.Sort.Holds (Value.int .i64) w b off zs.toArray->b<w.heap.size->zs.length<4611686018427387904->
   Calls Pg f #[.slice (some ⟨b,off,none⟩) zs.length c] w λe w'=>e=.returned (.tuple #[])/\∃n os,w'=Go.Sort.grow (Go.Sort.putRow (Value.int .i64) (Go.Sort.ahead w n) b off (zs.mergeSort λx y=>decide (x<=y)).toArray) os)
  (hE :∀(a:Option Addr) (c:Nat) (w:World),Calls Pg f #[.slice a 0 c] w λe w'=>e=.returned (.tuple #[])/\w'=w):aC Pg f YZ:=by
 refine ⟨rfl,aq4,λE w vals gh ins dG hR hB hw0 L9 hlen=>?_⟩;obtain ⟨l,y,hy,rfl,rfl⟩:=hR;change List Int at l;change List Int at y;have hy:abl l=some y:=hy;unfold abl at hy;split at hy
 .rename_i hc;simp only [decide_eq_true_eq] at hc;simp only [Q0] at hy;subst hy;have ho:(Fw.mk uX.pin.er ((Tup.mg uX.pin.tys l).map dn)).o 70000=.arr false false true 1 (aH (.int .i64) l):=by
   exact congrArg (O.arr false false true 1) (jB (.int .i64) l)
  have ho2:(Fw.mk uX.aT.er ((Tup.mg uX.aT.tys (l.mergeSort λx y=>decide (x<=y))).map dn)).o 70000=.arr false false true 1 (aH (.int .i64) (l.mergeSort λx y=>decide (x<=y))):=by
   exact congrArg (O.arr false false true 1) (jB (.int .i64) (l.mergeSort λx y=>decide (x<=y)))
  have r0:vals.getD 0 undef=.slice (gh 70000).ad l.length (gh 70000).cap:=by
   have h0:=(L9.slots 0).dK;cases h0 with
   |own _ _ hv hx=>exact (hx _ _ (O.jV ho)).trans (congrArg (λn=>Value.slice (gh 70000).ad n (gh 70000).cap) (eU (.int .i64) l))
  have ano:vals.toArray=#[.slice (gh 70000).ad l.length (gh 70000).cap]:=by
   have hl3:vals.length=1:=hlen
   match vals,hl3 with
   | [a],_=>simp at r0;simp [r0]
  rw [ano];have aq5 :∀b,(gh 70000).sub b=none:=L9.ns 70000 rfl rfl;have hA:Qu w l (gh 70000):=by
   have h0:=L9.aZ 70000;have h1:mD E _ gh w (.arr false false true 1 (aH (.int .i64) l)) (gh 70000):=ho▸h0;exact ahd h1
  have FC:((Fw.mk uX.pin.er ((Tup.mg uX.pin.tys l).map dn)).o 70000).like ((Fw.mk uX.aT.er ((Tup.mg uX.aT.tys (l.mergeSort λx y=>decide (x<=y))).map dn)).o 70000):=by
   rw [ho,ho2];refine ⟨rfl,?_⟩;exact (eU (.int .i64) l).trans ((List.length_mergeSort l).symm.trans (eU (.int .i64) (l.mergeSort λx y=>decide (x<=y))).symm)
  have VR :∀(bH:Nat->Gh),bH 70000=gh 70000->∀g∈YZ.er.sig.bg,((bH g).ad=(gh g).ad/\(bH g).cap=(gh g).cap)/\((Fw.mk uX.pin.er ((Tup.mg uX.pin.tys l).map dn)).o g).like ((Fw.mk uX.aT.er ((Tup.mg uX.aT.tys (l.mergeSort λx y=>decide (x<=y))).map dn)).o g):=λbH e g hg=>by
   have:g=70000:=QP.1 hg;subst this;exact ⟨⟨by rw [e],by rw [e]⟩,FC⟩
  rcases hA with ⟨h1,h2,h3⟩ | ⟨b,o,c,e,h1,h3,h4,h5,h7⟩
  .subst h3;refine (hE (gh 70000).ad (gh 70000).cap w).mono λe w' ⟨he,hw⟩=>?_;subst hw;refine ⟨[],gh,rfl,by rw [he];rfl,?_,VR gh rfl⟩;have:([]:List Int).mergeSort (λx y=>decide (x<=y))=[]:=by simp
   rw [this];exact aeg L9 hB [] (gh 70000) (.inl ⟨h1,h2,rfl⟩) (XS _) (λ_ _ _=>rfl) (λad had=>by rw [h1] at had;cases had) ⟨rfl,rfl,rfl⟩ _ rfl
  .rw [h1];have hwr:=L9.wr 70000 b rfl (Gh.jY h1);have hcell :∀k,k<l.length->w.cell? ⟨b,o+k,none⟩=some (.int .i64 (l.getD k 0)):=λk hk=>by
    have:=h7 k l[k] (Q2 hk);simp [World.cell?,h3,this,hk]
   have hH:Go.Sort.Holds (Value.int .i64) w b o l.toArray:=by
    have:=Lib.holds_of_ints (n:=l.length) (XS _) hcell (λk hk=>by simp [World.frozen?,h3])
    rwa [K4] at this
   refine (hD b o (gh 70000).cap l w hH hwr.2 hc).mono λe' w' ⟨he,q,os,hw⟩=>?_;rw [Lib.putRow_eq_setCells (Value.int .i64) w b o l.toArray _ q hH (by simp)] at hw;generalize hm:(l.mergeSort λx y=>decide (x<=y))=m at *;have hlen2:m.length=l.length:=by rw [<-hm];exact List.length_mergeSort l
   obtain ⟨c',k1,k2,k3,k4,k5⟩:=Ac b e (m.map (Value.int .i64)) o (w.drewN q) c h3 (by rw [W7];omega);have hos:=GH b (m.map (Value.int .i64)) o (w.drewN q);generalize (w.drewN q).setCells b o (m.map (Value.int .i64))=w1 at *;have hlt :∀b',b'<w.heap.size->w'.heap[b']?=w1.heap[b']?:=λb' hb'=>by
    subst hw;show (w1.heap++os)[b']?=_;exact JS (by rw [k5];exact hb')
   have hsz:w.heap.size<=w'.heap.size:=by
    subst hw;show _<=(w1.heap++os).size;rw [vj,k5];exact Nat.le_add_right _ _
   have aq6:w'.os=w.os/\w'.tape=w.tape/\w'.output=w.output:=by subst hw;exact hos
   have hwr2:=hwr.2;refine ⟨[],gh,rfl,by rw [he];rfl,?_,VR gh rfl⟩;refine aeg L9 hB _ (gh 70000) (.inr ⟨b,o,c',e,h1,by rw [hlt b hwr2];exact k1,by rw [k2];exact h4,⟨by omega,h5.2⟩,λn x hx=>?_⟩)
    hsz (λb' hb' hnw=>(hlt b' hb').trans (k4 b' λeb=>?_)) (λad had=>?_) aq6 _ rfl
   .have hn:=(Q3.1 hx).1;rw [k3,if_pos (by simp;omega)];simp [hx]
   .subst eb;rcases hwr.1 with hq | hq
    .rw [hB] at hq;omega
    .exact hnw hq
   .rw [h1] at had;cases had;refine ⟨?_,WN hwr2 hsz⟩;have:=hwr.1;rw [hB] at this;exact this
 .cases hy
end
end Go.Fg

namespace Go.Fw
open Go.RowKit
variable [eY]
def E5(w:World):Prop :=∀g sz rows,eY.gt g=some (sz,rows)->g<w.heap.size/\∀(n:Nat) x,rows[n]?=some x->x.length=sz/\∀(j:Nat) y,x[j]?=some y->∃u,w.cell? ⟨g,n*sz+j,none⟩=some u/\cO w (λ_=>False) y u
def E0(w:World)(hw:E5 w):Env:={ FA:=λ_=>True,FI:=λ_=>False,B0:=w.heap.size,w0:=w,Wr:=λ_=>False,hg:=λg sz rows hg=>⟨(hw g sz rows hg).1,λh=>h,(hw g sz rows hg).2⟩ }
def G0:Nat->Gh:=λ_=>Gh.nil
theorem abn{Pg:Program}{f:FuncId}{sp:Spec}(hs:Sound Pg f sp)(acN:sp.sig.pin.aZ=[])(hnr:sp.sig.dD=1)(X7:sp.sig.aT=⟨[(0,.one (.p false false))],[]⟩){vals:List Value}(hlen:vals.length=sp.sig.bn){w:World}(hw:E5 w){ins:List P}
  (hR:sp.R ins [.bool true]) (qM :∀t,dJ (E0 w hw) (Fw.mk sp.sig.pin ins) G0 w ((Fw.mk sp.sig.pin ins).s t) (vals.getD t undef)) :
  Calls Pg f vals.toArray w λe w'=>e=.returned (.bool true)/\Below w.heap.size w w':=by
 obtain ⟨hok,_,hS⟩:=hs;have hno :∀g,(Fw.mk sp.sig.pin ins).o g=.none:=λg=>Nh (by simp [Shape.nms,acN]);have hok':=hok;simp only [zV.ok,Qf] at hok';have hus:=aiN hok'.1.1.1.1.1.1.1.1 ins;have hrel:Rel (E0 w hw) (Fw.mk sp.sig.pin ins) G0 (λk=>vals.getD k undef) w:=
  ⟨qM,λg=>by rw [hno];trivial,λg g' a (h:((Fw.mk sp.sig.pin ins).o g).bP=true)=>(by rw [hno] at h;cases h),λg a (h:((Fw.mk sp.sig.pin ins).o g).bP=true)=>(by rw [hno] at h;cases h),λg i b (h:((Fw.mk sp.sig.pin ins).o g).inner=some i)=>(by rw [hno] at h;cases h),λg (h:((Fw.mk sp.sig.pin ins).o g).bP=true)=>(by rw [hno] at h;cases h),λb hb=>hb.elim,λb _ _=>rfl,XS _,rfl,rfl,rfl,hus.1,hus.2.1,hus.2.2⟩
 refine Calls.mono (hS (E0 w hw) w vals G0 ins [.bool true] hR rfl rfl hrel hlen) λe w' he=>?_;obtain ⟨rs,bH,hrl,rfl,hx,_⟩:=he;rw [hnr] at hrl
 match rs,hrl with
 | [v],_=>
 refine ⟨?_,⟨hx.os,hx.tape,hx.output,hx.size,λb hb=>hx.frame b hb (λh=>h)⟩⟩;have h0:=hx.slots 0;rw [X7] at h0;have h1:dJ (E0 w hw) (Fw.mk ⟨[(0,.one (.p false false))],[]⟩ [.bool true]) bH w' (.v (.one (.p false false (.bool true)))) v:=h0;rw [show v=.bool true from h1.fH.nM];rfl
theorem ahf{w:World}{k:IntKind}{a:Option Addr}{len cap:Nat}{zs:List Int}{ok:Nat->Prop}(hok :∀b,b<w.heap.size->ok b)
  (h:(a=none/\len=0/\cap=0/\zs=[])\/∃x,a=some x/\len<=cap/\zs.length=cap/\∀i,i<zs.length->w.cell? (x.add i)=some (.int k (zs.getD i 0))) :
  cO w ok (.sl 1 ((zs.take len).map λz=>[.int k z])) (.slice a len cap):=by
 rcases h with ⟨rfl,rfl,rfl,rfl⟩ | ⟨x,rfl,hl,hz,hc⟩
 .exact .nil _ _ _
 .by_cases h0:len=0
  .subst h0;exact .nil _ _ _
  .have hc0:=hc 0 (by omega);have hs:x.spot=none:=by
    unfold World.cell? Addr.add at hc0;cases hx:x.spot with
    |none=>rfl
    |some s=>
     exfalso;split at hc0
     .simp [hx] at hc0
     .cases hc0
   have hb:x.block<w.heap.size:=by
    unfold World.cell? at hc0;have e:(x.add 0).block=x.block:=by simp [Addr.add]
    rw [e] at hc0;by_cases hlt:x.block<w.heap.size
    .exact hlt
    .rw [Array.getElem?_eq_none (by omega)] at hc0;cases hc0
   have hlen:((zs.take len).map λz=>[P.int k z]).length=len:=by simp;omega
   have:=cO.sl (w:=w) (ok:=ok) 1 ((zs.take len).map λz=>[P.int k z]) x cap (λi _=>.int k (zs.getD i 0)) hs (λ_=>hok _ hb) (by omega) (λr hr=>by
     obtain ⟨z,_,rfl⟩:=QR.1 hr;rfl) (λi r hr j y hj=>?_) (λi r hr j y hj=>?_)
   .rw [hlen] at this;exact this
   all_goals
    have hi:i<len:=by have:=(Q3.1 hr).1;omega
    rw [Ys,Z3,if_pos hi] at hr;obtain ⟨z,hz',rfl⟩:=W0.1 hr;have hj0:j=0:=by
     cases j with
     |zero=>rfl
     |succ j=>simp at hj
    subst hj0;simp only [UT,Q0] at hj;subst hj
   .have:=hc i (by omega);rw [<-this];have e:x.add i=⟨x.block,x.off+i,none⟩:=by
     obtain ⟨b,o,sp⟩:=x;simp only at hs;subst hs;exact Addr.g_ b o i
    rw [e];simp
   .rw [List.getD_eq_getElem?_getD,hz'];exact .int k z
end Go.Fw
namespace Go.Fg
open Go.Fw Go.RowKit
section
variable [RE]
theorem ahg{w:World}{k:IntKind}{a:Option Addr}{len cap:Nat}{zs:List Int}{ok:Nat->Prop}(hok :∀b,b<w.heap.size->ok b)
  (h:(a=none/\len=0/\cap=0/\zs=[])\/∃x,a=some x/\len<=cap/\zs.length=cap/\∀i,i<zs.length->w.cell? (x.add i)=some (.int k (zs.getD i 0))) :
  cO w ok (dn ⟨.sl (.int k),zs.take len⟩) (.slice a len cap):=by
 have h0:=ahf hok h;have e:aH (.int k) (zs.take len)=(zs.take len).map λz=>[P.int k z]:=rfl;rw [H6,e];have hlen:len=(zs.take len).length:=by
  rcases h with ⟨_,rfl,_,rfl⟩ | ⟨x,_,h1,h2,_⟩
  .rfl
  .simp;omega
 cases hl:zs.take len with
 |nil=>
  rw [hl] at hlen;have hlen:len=0:=hlen;subst hlen;exact .nil _ _ _
 |cons z l=>rw [hl] at h0;exact h0
end
end Go.Fg

namespace Go.Fg
open Go.Fw
def Ok{α:Type}(x:Option α)(Q:α->Prop):Prop :=∃y,x=some y/\Q y
def KQ{α β:Type}(P:α->Prop)(Q:β->Prop):α ⊕ β->Prop
 |.inl a=>P a
 |.inr b=>Q b
theorem zC{α:Type}{y:α}{Q:α->Prop}:Ok (some y) Q↔Q y:=⟨λ⟨_,h,hq⟩=>by cases h;exact hq,λh=>⟨_,rfl,h⟩⟩
theorem Ie{α β:Type}{x:Option α}{f:α->Option β}{Q:β->Prop}:Ok (Option.bind x f) Q↔Ok x λy=>Ok (f y) Q:=by
 cases x with
 |none=>exact ⟨λ⟨_,h,_⟩=>(by cases h),λ⟨_,h,_⟩=>(by cases h)⟩
 |some z=>rw [zC];rfl
theorem aeh{α:Type}{b:Bool}{x:Option α}{Q:α->Prop}:Ok (ck b x) Q↔b=true/\Ok x Q:=by
 cases b with
 |false=>exact ⟨λ⟨_,h,_⟩=>(by cases h),λ⟨h,_⟩=>(by cases h)⟩
 |true=>exact ⟨λh=>⟨rfl,h⟩,λh=>h.2⟩
theorem W_{α:Type}{b:Bool}{x y:Option α}{Q:α->Prop}:Ok (bif b then x else y) Q↔(b=true->Ok x Q)/\(b=false->Ok y Q):=by
 cases b with
 |false=>exact ⟨λh=>⟨λe=>(by cases e),λ_=>h⟩,λh=>h.2 rfl⟩
 |true=>exact ⟨λh=>⟨λ_=>h,λe=>(by cases e)⟩,λh=>h.1 rfl⟩
theorem aei{α β:Type}{x:Option (α ⊕ β)}{f:α->Option β}{Q:β->Prop}:Ok (d_ x f) Q↔Ok x (KQ (λa=>Ok (f a) Q) Q):=by
 unfold d_;refine Ie.trans ⟨λ⟨y,hy,h⟩=>⟨y,hy,?_⟩,λ⟨y,hy,h⟩=>⟨y,hy,?_⟩⟩
 .cases y with
  |inl a=>exact h
  |inr b=>exact (zC (Q:=Q)).1 h
 .cases y with
  |inl a=>exact h
  |inr b=>exact (zC (Q:=Q)).2 h
theorem jq{α:Type}{x:Option α}{Q Q':α->Prop}(h:Ok x Q)(hq :∀y,Q y->Q' y):Ok x Q':=let ⟨y,hy,hz⟩:=h;⟨y,hy,hq y hz⟩
theorem ok_eq{α:Type}{x:Option α}{y:α}(h:Ok x λz=>z=y):x=some y:=let ⟨_,hy,e⟩:=h;e▸hy
section
variable [RE]
theorem bQ{A R:Type}{body:A->Option (A ⊕ R)}{Q:R->Prop}(I:A->Prop)(μ:A->Nat){a:A}(ha:I a)
  (h :∀a,I a->Ok (body a) (KQ (λa'=>I a'/\μ a'<μ a) Q)):Ok (bF body a) Q:=by
 have key :∀n a,I a->μ a<n->Ok (bF body a) Q:=by
  intro n
  induction n with
  |zero=>intro a _ hn;omega
  |succ n ih=>
   intro a ha hn;obtain ⟨y,hy,hz⟩:=h a ha;rw [Bh,hy];cases y with
   |inl a'=>
    obtain ⟨h1,h2⟩:I a'/\μ a'<μ a:=hz;exact ih a' h1 (by omega)
   |inr r=>exact ⟨r,rfl,hz⟩
 exact key _ a ha (Nat.lt_succ_self _)
end
theorem aG{x:Int}(h:-9223372036854775808<=x/\x<=9223372036854775807):dL x=x:=@wrap64 ⟨λ_=>none,λ_ _ _ _=>False,λ_ h=>h⟩ x h.1 h.2
theorem aF{n:Int}{len:Nat}:inB n len=true↔0<=n/\n<len:=by simp [inB]
theorem KR{lo hi:Int}{len:Nat}:Hf lo hi len=true↔(0<=lo/\lo<=hi)/\hi<=(len:Int):=by simp [Hf]
theorem DF{b:Nat}{n c:Int}:JD b n c=true↔((0<=n/\n<=c)/\b*c<=281474976710656)/\c<=9223372036854775807:=by simp [JD]
theorem Y0{p:Prop}[Decidable p]:(decide p=true)=p:=by simp
theorem Uo{p:Prop}[Decidable p]:(decide p=false)=¬p:=by simp
theorem not_iff{b:Bool}:((!b)=true)=(b=false):=by cases b<;>simp
theorem ahh(a b:Int):aaO a b=min a b:=by unfold aaO;split<;>omega
theorem Ig(a b:Int):Eu a b=max a b:=by unfold Eu;split<;>omega
theorem tmod_lt{a b:Int}(ha:0<=a)(hb:0<b):0<=Int.tmod a b/\Int.tmod a b<b:=⟨Int.tmod_nonneg b ha,Int.tmod_lt_of_pos a hb⟩
theorem getD_at{α:Type}{l:List α}{n:Nat}(d:α)(h:n<l.length):l.getD n d=l[n]:=by
 rw [List.getD_eq_getElem?_getD,Q2 h];rfl
end Go.Fg

namespace Go.Fg
open Go.Fw
theorem take_snoc{α:Type}{l:List α}{i:Nat}(h:i<l.length):l.take (i+1)=l.take i++[l[i]]:=by
 rw [List.take_add_one,Q2 h];rfl
theorem bD{α β:Type}{x:Option α}{f:α->Option β}{Q:β->Prop}(Q':α->Prop)(h:Ok x Q')(k :∀y,Q' y->Ok (f y) Q):Ok (Option.bind x f) Q:=Ie.2 (jq h k)
theorem gy{α β:Type}{x:Option α}{f:α->Option β}{Q:β->Prop}{y:α}(h:x=some y)(k:Ok (f y) Q):Ok (Option.bind x f) Q:=by rw [h];exact k
theorem dX{α:Type}{b:Bool}{x y:Option α}{Q:α->Prop}(h1:b=true->Ok x Q)(h2:b=false->Ok y Q):Ok (bif b then x else y) Q:=W_.2 ⟨h1,h2⟩
theorem b_{α:Type}{b:Bool}{x y:Option α}{Q:α->Prop}(hb:b=false)(h2:Ok y Q):Ok (bif b then x else y) Q:=by rw [hb];exact h2
theorem goT{α:Type}{b:Bool}{x y:Option α}{Q:α->Prop}(hb:b=true)(h2:Ok x Q):Ok (bif b then x else y) Q:=by rw [hb];exact h2
theorem bW{α:Type}{b:Bool}{x:Option α}{Q:α->Prop}(hb:b=true)(h2:Ok x Q):Ok (ck b x) Q:=aeh.2 ⟨hb,h2⟩
theorem iU{α β:Type}{x:Option (α ⊕ β)}{f:α->Option β}{Q:β->Prop}(Q':α->Prop)(h:Ok x (KQ Q' Q))(k :∀y,Q' y->Ok (f y) Q):Ok (d_ x f) Q:=
 aei.2 (jq h λy hy=>by cases y with
  |inl a=>exact k a hy
  |inr b=>exact hy)
theorem aI{α:Type}{y:α}{Q:α->Prop}(h:Q y):Ok (some y) Q:=zC.2 h
section
variable [RE]
theorem akX{A R S E:Type}{body:A->Option (A ⊕ R)}{Q:R->Prop}(l:List E)(st:Int->S->A)(g:S->E->S)(I:Nat->S->Prop){s0:S}{a0:A}(ha:a0=st 0 s0)(h0:I 0 s0)
  (hs :∀i (h:i<l.length) s,I i s->s=(l.take i).foldl g s0->Ok (body (st i s)) (KQ (λa=>a=st ((i:Int)+1) (g s l[i])/\I (i+1) (g s l[i])) Q))
  (he :∀s,I l.length s->s=l.foldl g s0->Ok (body (st l.length s)) (KQ (λ_=>False) Q)):Ok (bF body a0) Q:=by
 have key :∀k i s,i<=l.length->l.length-i=k->I i s->s=(l.take i).foldl g s0->Ok (bF body (st i s)) Q:=by
  intro k
  induction k with
  |zero=>
   intro i s hi hk h1 h2;have e:i=l.length:=by omega
   subst e;rw [K4] at h2;obtain ⟨y,hy,hq⟩:=he s h1 h2;rw [Bh,hy];cases y with
   |inl a=>exact hq.elim
   |inr r=>exact ⟨r,rfl,hq⟩
  |succ k ih=>
   intro i s hi hk h1 h2;have hlt:i<l.length:=by omega
   obtain ⟨y,hy,hq⟩:=hs i hlt s h1 h2;rw [Bh,hy];cases y with
   |inl a=>
    obtain ⟨rfl,h3⟩:a=st ((i:Int)+1) (g s l[i])/\I (i+1) (g s l[i]):=hq;have:=ih (i+1) (g s l[i]) (by omega) (by omega) h3 (by rw [take_snoc hlt,List.foldl_append,<-h2];rfl);exact this
   |inr r=>exact ⟨r,rfl,hq⟩
 rw [ha];exact key l.length 0 s0 (by omega) (by omega) h0 (by simp)
end
end Go.Fg

namespace Go.Fg
open Go.Fw Go.RowKit
section
variable {H:Type} {enc:TypeId×Value->H} {P:Program} {w:World} {base:Nat} {spare:Nat->Bool} {held:Bool}
end
theorem anp[eY]{pin:Shape}(h:pin.aZ=[])(ins:List P)(w:World)(hw:E5 w) :∀b,b<w.heap.size->(E0 w hw).ok (Fw.mk pin ins) G0 w true false b:=by
 intro b hb;refine ⟨.inl ⟨rfl,trivial⟩,hb,λg ad hg=>?_⟩;rw [Nh (by simp [Shape.nms,h])] at ad;cases ad
section
variable [RE]
end
end Go.Fg

namespace Go.Fg
open Go.Fw Go.RowKit
theorem KT[eY]{P:Program}{w:World}{name:String}{g n:Nat}{t e:TypeId}{bs:List (List UInt8)}(hg:P.globalNamed name=some g)(ht:(P.globals[g]?).map (·.type)=some t)
  (hu:P.underlying t=some (.array n e)) (hs:P.underlying e=some .string) (hc:P.cellsOf e=1) (hn:bs.length=n)
  (hG :∀g' sz rows,eY.gt g'=some (sz,rows)->g'=g/\sz=1/\rows=bs.map λb=>[Fw.P.str ⟨b.toArray⟩])
  (h:laidMet P [(name,.agg (bs.map λb=>.lit (.string b)))] w):E5 w:=by
 obtain ⟨ps,⟨g1,t1,cs,fuel,p,q,hg1,ht1,hv,hd,_,_⟩,_,_⟩:=h;obtain rfl:=Wc (hg.symm.trans hg1);obtain rfl:=Wc (ht.symm.trans ht1);intro g' sz rows hrow;obtain ⟨rfl,rfl,rfl⟩:=hG g' sz rows hrow;refine ⟨?_,λi x hx=>?_⟩
 .simp only [World.var?,hg1,Option.bind_some] at hv;have:w.heap[g']?≠none:=by
   intro hnone;rw [hnone] at hv;simp at hv
  rw [ne_eq,Array.getElem?_eq_none_iff] at this;omega
 .obtain ⟨xs,m,_,ex,_,hl,hel⟩:=DataW.trod_array hu hd;have hi:i<bs.length:=by
   rw [Ys] at hx;rcases va i bs.length with h | h
   .exact h
   .rw [WK h] at hx;cases hx
  rw [Ys,Q2 hi] at hx;obtain rfl:=Wc hx;refine ⟨rfl,λj y hy=>?_⟩;have hj:j=0:=by
   cases j with
   |zero=>rfl
   |succ j=>cases hy
  subst hj;obtain rfl:=Wc hy;have hE:=hel i (by omega);rw [hc,Nat.mul_one,Q2 (by omega)] at hE;obtain ⟨s,e1,e2,_⟩:=DataW.trod_string hs hE;have e3:(xs.map (·.1))=bs.map λb=>(DataW.lit (.string b):DataW Unit):=(DataW.agg.inj (Prod.mk.inj ex).1).symm;have e4:(xs.map (·.1))[i]?=(bs.map λb=>(DataW.lit (.string b):DataW Unit))[i]?:=by rw [e3]
  rw [Ys,Ys,Q2 (by omega:i<xs.length),Q2 hi,e2] at e4;have e5:s.data.toList=bs[i]:=by
   simp only [Z6,Q0,DataW.lit.injEq,Lit.string.injEq] at e4;exact e4
  have e6:(⟨bs[i].toArray⟩:ByteArray)=s:=by rw [<-e5]
  refine ⟨.string s,?_,by rw [e6];exact .str s⟩;rw [Nat.mul_one,UB,World.var?_cell hg1 hv i];have h0:((cs.toList.drop i).take 1)[0]?=some (.string s):=by rw [e1];rfl
  simpa using h0
end Go.Fg

