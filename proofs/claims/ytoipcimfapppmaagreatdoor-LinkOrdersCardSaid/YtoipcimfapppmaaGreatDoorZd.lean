/-
  The framework (a machine on plain data that answers as the program does), part 4.
-/
import Derived.Shelf.Slices.Cells
import Derived.Shelf.Slices.Empties
import Derived.Shelf.Slices.Delete
import Derived.Shelf.Spec.SlicesInsertGrow
import Derived.Shelf.Sort.Plain
import Derived.Shelf.Slices.In.SortNone
import Derived.Lib.RowBridge
import Derived.Below
import Derived.OpenShut
import Derived.FnData
import Derived.LaidMore
import Derived.Test.YtoipcimfapppmaaGreatDoorZc
set_option linter.unusedSimpArgs false
set_option linter.unusedVariables false
set_option linter.unusedSectionVars false
open Option renaming some->zw,none->zz
open Bool renaming true->zj,false->zv
namespace Go.Fg
open Go.Fw
section
variable [fH]
theorem zI{T:Tab}{tt:TT}{N:Nat}{ops:Array Oper}{K c:St->Prop}(d :∀st,K st->c st):∀{b:List Nat} {st:St},xC T tt N ops b st K->xC T tt N ops b st c
 | [],st,h=>d st h
 |i::b,st,h=>by
  simp only[xC]at h ⊢;split at h
  .exact Mc (λe g=>zI d g) h
  .exact h
theorem xU{T:Tab}{tt:TT}{N:Nat}{ops:Array Oper}{K c:St->List uN->Prop}(d :∀st fs,K st fs->c st fs):∀{b:List Nat} {st:St} {fs:List uN},pY T tt N ops b st fs K->pY T tt N ops b st fs c
 | [],st,fs,h=>d st fs h
 |i::b,st,fs,h=>by
  simp only[pY]at h ⊢;split at h
  .exact Gg (λe g=>xU d g) h
  .exact h
end
section
variable [RE]
def Rf.ok(c:Rf)(b:Bool):Prop:=match c with
 |.yes=>b=zj
 |.no=>b=zv
 |.may e=>e=zv->b=zv
def Vo(a:Option Rf)(b:Option (Bool->Prop)):Prop:=(a=zz->b=zz)/\∀c,a=zw c->∃p,b=zw p/\∀b,p b->c.ok b
theorem Vo.none:Vo zz zz:=⟨λ_=>rfl,λ_ h=>(nomatch h)⟩
theorem Vo.some{c:Rf}{p:Bool->Prop}(h :∀b,p b->c.ok b):Vo (zw c) (zw p):=⟨λh=>(nomatch h),λd e=>⟨p,rfl,by cases e;exact h⟩⟩
theorem acj{o:Nat->TO}{x:TS}:Vo (LH o x) (OI (dh o) (bI x)):=by
 cases x with
 |v x=>
  cases x with
  |one x=>
   cases x with
   |p a i w=>
    obtain⟨t,x⟩:=w;cases t with
    |sl e=>
     change List (Dt e)at x;cases x with
     |nil=>exact .some λb c h=>by simp at h
     |cons y j=>exact .some λb c h=>c (by intro h;cases h)
    |_=>exact .none
   |own g=>
    cases hg:o g with
    |arr q a i e l=>
     have hd:(dh o g).dim=zw (size e,l.length):=qA (by simp only[N8,hg]);simp only[LH,hg,bI,kE,cZ,OI,hd];refine .some λb c h=>c λd=>?_;cases l with
     |nil=>simp at h
     |cons y j=>cases d
    |aP a i e z l m=>
     have hd:(dh o g).dim=zw (size e,l.length):=qA (by simp only[N8,hg]);simp only[LH,hg,bI,kE,cZ,OI,hd];refine .some λb c h=>c λd=>?_;cases l with
     |nil=>simp at h
     |cons y j=>cases d
    |_=>simp only[LH,hg,bI,kE,cZ,OI,dh,d_,O.dim];exact .none
   |dJ=>exact .some λb c=>c
   |_=>exact .none
  |agg xs=>exact .none
 |_=>exact .none
theorem acn{o:Nat->TO}{x:TS}:Vo (LJ o x) (H9 (dh o) (bI x)):=by
 cases x with
 |v x=>
  cases x with
  |one x=>
   cases x with
   |p a i w=>
    obtain⟨t,x⟩:=w;cases t with
    |opq=>
     change Value at x;unfold LJ;split
     .rename_i h;cases h
     .rename_i h;cases h;exact .some λb c=>c
     .rename_i j d;have:H9 (dh o) (bI (.v (.one (.p a i ⟨.opq,x⟩))))=Option.none:=by
       show H9 (dh o) (.v (.one (.p a i (.opq x))))=Option.none;unfold H9;split
       .rename_i h;cases h
       .rename_i h;cases h;exact(d _ _ rfl).elim
       .rfl
      rw[this];exact .none
    |sl e=>change List (Dt e)at x;cases x<;>exact .none
    |_=>exact .none
   |box g off=>
    cases hg:o g with
    |box m=>simp only[LJ,hg,bI,kE,cZ,H9,pO hg];exact .some λb c=>c
    |_=>simp only[LJ,hg,bI,kE,cZ,H9,dh,d_];exact .none
   |_=>exact .none
  |agg xs=>exact .none
 |_=>exact .none
theorem aco{o:Nat->TO}{x:TS}{k:Fw.TK}{c:Value}:Vo (Rh o x k c) (y8 (dh o) (bI x) k c):=by
 unfold Rh;split
 .exact acj
 .exact acn
 .rename_i b d;have:y8 (dh o) (bI x) k c=Option.none:=by
   unfold y8;split
   .exact (b _ rfl rfl).elim
   .exact (d rfl rfl).elim
   .rfl
  rw[this];exact .none
def afb(a:Option (Bool×Rf))(b:Option (Bool×(Bool->Prop))):Prop:=(a=zz->b=zz)/\∀pos c,a=zw (pos,c)->∃p,b=zw (pos,p)/\∀b,p b->c.ok b
theorem afb.none:afb zz zz:=⟨λ_=>rfl,λ_ _ h=>(nomatch h)⟩
theorem aiB{tt:TT}{st:jI}{o:Oper}:afb (amI tt st o) (QH tt (bg st) o):=by
 unfold amI QH;cases d:o.guard with
 |some g=>exact .none
 |none=>
  simp only;cases j:o.op with
  |binOp op t x y u=>
   cases y with
   |const c=>
    simp only;cases z:tt t with
    |none=>exact .none
    |some i=>
     simp only;have b:=aco (o:=st.go) (x:=st.dG x) (k:=i.k) (c:=c);rw[<-mD]at b;change Vo _ (y8 (bg st).o ((bg st).dG x) i.k c)at b;generalize Rh st.go (st.dG x) i.k c=A at b ⊢;generalize y8 (bg st).o ((bg st).dG x) i.k c=B at b ⊢;cases A with
     |none=>have:=b.1 rfl;subst this;cases op<;>exact .none
     |some m=>
      obtain⟨p,rfl,q⟩:=b.2 m rfl;cases op<;>first
       |exact .none
       |(
         refine⟨λh=>(nomatch h),λpos w h=>?_⟩;cases h;exact⟨p,rfl,q⟩)
   |_=>exact .none
  |_=>exact .none
theorem run_any{R:Type}{x y:Prog R}{r:R}(h:(Prog.any x y).run=zw r):x.run=zw r/\y.run=zw r:=ace h
theorem atC(pos b:Bool):({ x:=scalar (.bool (bif pos then b else !b)),aK:=[],new:=[] }:Eff)=(rZ (bif pos then b else !b)).er:=rfl
theorem afc{st:jI}{o:Oper}:QI (bg st) o=(aeQ st o).map λx=>(x.1,P.str ⟨x.2.1.toArray⟩,P.int .i64 x.2.2):=by
 unfold QI aeQ;cases o.guard with
 |some g=>rfl
 |none=>
  simp only;cases o.op with
  |next x b=>
   cases b with
   |false=>rfl
   |true=>
    simp only[mD];cases st.dG x with
    |v x=>
     cases x with
     |one x=>
      cases x with
      |oD g=>simp only[bI,kE,cZ];have e:(bg st).o g=d_ (st.go g):=rfl;rw[e];cases st.go g<;>rfl
      |_=>rfl
     |agg xs=>rfl
    |_=>rfl
  |_=>rfl
theorem itE(g:Nat)(s:List UInt8)(n:Int):KO g (.str ⟨s.toArray⟩) (.int .i64 n)=(Rj g s n).er:=rfl
theorem acp{R:Type}{T:lK}{tt:TT}{ety:TypeId->Option Ty}{N:Nat}{ops:Array Oper}{o:Oper}{q:kF}{K:kF->jT->Prog R}{r:R}(h:(XV T tt ety N ops o q K).run=zw r):
  DZ (nJ T) tt N ops o (bg q.st) (Zw q K r):=by
 unfold XV at h;have hn:=aiB (tt:=tt) (st:=q.st) (o:=o);split at h
 .rename_i pos c m;obtain⟨p,y,d⟩:=hn.2 pos c m;unfold DZ;rw[y];simp only;split at h
  .exact (dD h).elim
  .rename_i hd;refine⟨CB _ hd,λb w=>?_⟩;have d:=d b w;rw[atC];have done:(K q (rZ (bif pos then b else !b))).run=zw r->Zw q K r (rZ (bif pos then b else !b)).er:=λh=>⟨q,_,rfl,rfl,tZ.refl q,h⟩;refine done ?_;cases c with
   |yes=>have d:b=zj:=d;subst d;cases pos<;>exact h
   |no=>have d:b=zv:=d;subst d;cases pos<;>exact h
   |may e=>
    have h:(bif e then(Prog.any (K q (rZ zj)) (K q (rZ zv))).run else(K q (rZ (!pos))).run)=zw r:=h;cases e with
    |true=>
     obtain⟨z,B⟩:=run_any h;cases (bif pos then b else !b)with
     |true=>exact z
     |false=>exact B
    |false=>have d:b=zv:=d rfl;subst d;cases pos<;>exact h
 .rename_i m;unfold DZ;rw[hn.1 m,afc];simp only;split at h
  .rename_i g s n j;rw[j];simp only[W7];split at h
   .exact (dD h).elim
   .rename_i hd;have h:(bif Ri s n then(K q (Rj g s n)).run else(K q XU).run)=zw r:=h;have w:Uz (.str ⟨s.toArray⟩) (.int .i64 n)=Ri s n:=by
     unfold Uz Ri;have:(P.str ⟨s.toArray⟩).bytes.size=s.length:=by show s.toArray.size=_;simp
     rw[this];rfl
    rw[w];refine⟨CB _ hd,λe=>?_,λe=>?_⟩
    .rw [e]at h;exact⟨q,Rj g s n,itE g s n,rfl,tZ.refl q,h⟩
    .rw [e]at h;exact⟨q,XU,rfl,rfl,tZ.refl q,h⟩
  .rename_i j;rw[j];exact Vm h
theorem Zx{R:Type}{T:lK}{tt:TT}{ety:TypeId->Option Ty}{N:Nat}{ops:Array Oper}{r:R}{K:kF->Prog R}:∀{l:List Oper} {i:Nat} {q:kF},l=ops.toList.drop i->(runT T tt ety N ops l q K).run=zw r->
  xC (nJ T) tt N ops (List.range' i l.length) (bg q.st) λst'=>∃b:kF,st'=bg b.st/\tZ q b/\(K b).run=zw r
 | [],i,q,c,h=>⟨q,rfl,tZ.refl q,h⟩
 |o::os,i,q,c,h=>by
  have j:ops[i]?=zw o:=by have:=W3 (·[0]?) c;simpa using this.symm
  have m:os=ops.toList.drop (i+1):=by have:=W3 List.tail c;simpa using this
  simp only[Wm,qz,xC,j];refine Mc ?_ (acp h);rintro e ⟨b,w,rfl,y,z,h⟩;simp only[uQ]at h;have B:=Zx m h;rw[<-y,<-Pj];refine zI ?_ B;rintro st' ⟨d,rfl,g,h⟩;exact⟨d,rfl,(z.trans (tZ.eff b o.dst w)).trans g,h⟩
end
end Go.Fg

namespace Go.Fg
open Go.Fw
section
variable [RE]
theorem afd{x:TS}{fn:FuncId}{caps:List W}(h:bI x=.v (.one (.clo fn caps))):∃cs,x=.v (.one (.clo fn cs))/\caps=cs.map cZ:=by
 cases x with
 |v x=>
  cases x with
  |one x=>
   cases x with
   |clo f cs=>simp only[bI,kE,cZ,S.v.injEq,V.one.injEq,W.clo.injEq,Ag]at h;obtain⟨rfl,rfl⟩:=h;exact⟨cs,rfl,rfl⟩
   |_=>simp[bI,kE,cZ]at h
  |agg xs=>simp[bI,kE]at h
 |_=>simp[bI]at h
theorem Pq{o:Nat->O}{args:List TS}:∀{l:List (Nat×lq)},Ze args l=zj->fM o (args.map bI) (l.map λp=>(p.1,p.2.er))=zz
 | [],h=>by cases h
 |(t,k)::rest,h=>by
  unfold Ze at h;simp only[Qf,fM];split at h
  .rename_i hn;have e:(args.map bI).getD t .no=.no:=by
    simp only[Q2,Z2]at hn ⊢;cases b:args[t]? with
    |none=>simp
    |some z=>rw[b]at hn;simp at hn;subst hn;rfl
   rw[e];cases k.er<;>simp[pz]
  .rename_i g hn;have e :∃c,(args.map bI).getD t .no=.jq c:=by
    simp only[Q2,Z2]at hn ⊢;cases b:args[t]? with
    |none=>rw[b]at hn;simp at hn
    |some z=>rw[b]at hn;simp at hn;subst hn;exact⟨_,rfl⟩
   obtain⟨c,e⟩:=e;rw[e];cases k.er<;>simp[pz]
  .rw [Pq h];split
   .rename_i j d;cases d
   .rfl
theorem acr{T:lK}{st:jI}{o:Oper}{l:List Nat}(h:XW T st o=zw l):Uw (nJ T) (bg st) o=l:=by
 unfold XW at h;unfold Uw;split at h
 .rename_i f args ts d;rw[d];simp only;rw[mD];split at h
  .rename_i fn b q;rw[Zu q];simp only;split at h
   .rename_i sp w;have g:pick (nJ T) fn (args.toList.map (bg st).dG)=zw sp.er:=by rw[Me,w];rfl
    rw[g];simp only;split at h
    .rename_i c y;cases h;obtain⟨m,H⟩:=L8 y;have m:jh sp.er.sig (bg st).o ((args.toList.map (bg st).dG)++(b.map cZ).map λx=>S.v (.one x))=zw c.er:=by rw[MB];exact m
     rw[m];rfl
    .obtain ⟨z,h⟩:=bZ h;cases h;have m:jh sp.er.sig (bg st).o ((args.toList.map (bg st).dG)++(b.map cZ).map λx=>S.v (.one x))=zz:=by rw[MB];unfold jh;have e:fM (bg st).o (List.map bI (List.map st.dG args.toList++List.map (λx=>TS.v (TV.one x)) b)) sp.er.sig.pin.slots=zz:=Pq z;rw[e]
     rw[m]
   .rename_i w;cases h;have g:pick (nJ T) fn (args.toList.map (bg st).dG)=zz:=by rw[Me,w];rfl
    rw[g]
  .rename_i j;cases h;split
   .rename_i fn b q;obtain⟨J,B,_⟩:=afd q;exact(j _ _ B).elim
   .rfl
 .rename_i j;cases h;split
  .rename_i f args ts d;exact(j _ _ _ d).elim
  .rfl
theorem acs{T:lK}{st:jI}{o:Oper}{l:List Nat}(h:XY T st o=zw l):DY (nJ T) (bg st) o=l:=by
 unfold XY at h;split at h
 .rename_i r c;cases h;unfold DY;rw[acr c];congr 1;congr 1;refine gK λx _=>?_;rw[mD,<-xR];refine gK λg _=>?_;have:((bg st).o g).hn=jw (st.go g):=by
   show (d_ (st.go g)).hn=_;cases st.go g with
   |aP a i e d l b=>cases b<;>rfl
   |_=>rfl
  rw[this]
 .cases h
theorem afe{T:lK}{st:jI}{o:Oper}{l:List Nat}(h:aeR T st o=zw l):uM (nJ T) (bg st) o=l:=by
 unfold aeR at h;split at h
 .rename_i b c;split at h
  .rename_i j d;cases h;unfold uM;rw[MH,<-Am c,acs d,MG];congr 1;refine gK λg _=>?_;have:((bg st).o g).hn=jw (st.go g):=Gi _;rw[this]
  .cases h
 .cases h
theorem MJ(l:List (Nat×TO)):(je l).map (·.1)=l.map (·.1):=by simp only[je,UI];rfl
theorem acu(x y:TW):aeb (cZ x) (cZ y)=aeS x y:=by cases x<;>cases y<;>rfl
theorem Pv(g:Nat):∀(j:Nat) (xs b:List TW),D5 g j (xs.map cZ) (b.map cZ)=F9 g j xs b
 |_,[],[]=>rfl
 |_,[],y::b=>rfl
 |_,x::xs,[]=>rfl
 |j,x::xs,y::b=>by simp only[Qf,D5,F9,Pv g (j+1) xs b,acu];cases F9 g (j+1) xs b<;>rfl
theorem acv(g:Nat)(x:TO)(y:Option TO):UA g (d_ x) (y.map d_)=XZ g x y:=by
 cases x with
 |box c=>
  cases y with
  |none=>rfl
  |some y=>
   cases y with
   |box b=>simp only[d_,W7,UA,XZ,Pv];cases F9 g 0 c b<;>rfl
   |_=>rfl
 |_=>cases y<;>rfl
theorem zJ(g:Nat):∀(l:List (Nat×TO)),(je l).lookup g=(l.lookup g).map d_
 | []=>rfl
 |(k,x)::r=>by
  show (List.lookup g ((k,d_ x)::je r))=_;simp only[List.lookup];cases b:g==k with
  |true=>rfl
  |false=>exact zJ g r
theorem acw{g:Nat}(x:TO)(y:Option TO):keepR g (d_ x) (y.map d_)=aeT g x y:=by
 cases x<;>cases y<;>first|rfl|skip
 all_goals
  rename_i y;cases y<;>rfl
theorem amQ{st:jI}{o:Oper}{e:jT}:QJ (bg st) o e.er=kpT st o e.aK:=by
 unfold QJ kpT;congr 1
 .have:(λx=>((bg st).dG x).names)=λx=>S.namesT (st.dG x):=by funext x;rw[mD];exact(xR _).symm
  rw[this]
 .show ((je e.aK).map (·.1)).flatMap _=_;rw[MJ];refine gK λg _=>?_;show UA g (d_ (st.go g)) ((je e.aK).lookup g)++(bif KP o.op then keepR g (d_ (st.go g)) ((je e.aK).lookup g)else[])=_;rw[zJ,acv,acw]
theorem aff(x:TO):kindOf (d_ x)=aeU x:=by cases x<;>rfl
theorem vZ{α β:Type}{f g:α->Option β}:∀{l:List α},(∀x∈l,f x=g x)->l.filterMap f=l.filterMap g
 | [],_=>rfl
 |x::l,h=>by have b:l.filterMap f=l.filterMap g:=vZ λy c=>h y (V1 _ c);simp only[List.filterMap_cons,h x (by simp),b]
theorem amR{st:jI}{e:jT}:Xq (bg st) e.er=kdT st e.aK:=by
 unfold Xq kdT;show ((je e.aK).map (·.1)).filterMap _=_;rw[MJ];refine vZ λg _=>?_;show (match (je e.aK).lookup g with
  |some x=>bif Nat.beq (kindOf x) (kindOf (d_ (st.go g)))then zw g else zz
  |none=>zz)=_
 rw[zJ];cases e.aK.lookup g with
 |none=>rfl
 |some x=>simp only[W7,aff]
theorem amS{tt:TT}{st:jI}{o:Oper}:NY tt (bg st) o=ldT tt st o:=by
 unfold NY ldT;cases o.op with
 |load t x=>
  simp only[mD];cases tt t with
  |none=>rfl
  |some i=>
   cases st.dG x with
   |v x=>
    cases x with
    |one x=>
     cases x with
     |ep g n off=>
      show (match d_ (st.go g)with
       |.aP _ _ _ b _ _=>bif(jE b off i.size).isEmpty then zw (g,5000000,1)else zz
       |_=>zz)=_
      cases hg:st.go g<;>simp only[d_,hg]
     |_=>rfl
    |agg xs=>rfl
   |_=>rfl
 |_=>rfl
theorem Vp{R:Type}{T:lK}{tt:TT}{ety:TypeId->Option Ty}{N:Nat}{ops:Array Oper}{r:R}{K:kF->List uN->Prog R}:∀{l:List Oper} {i:Nat} {q:kF} {fs:List uN},l=ops.toList.drop i->(runNT T tt ety N ops l q fs K).run=zw r->
  pY (nJ T) tt N ops (List.range' i l.length) (bg q.st) fs λst' c=>∃d:kF,st'=bg d.st/\tZ q d/\(K d c).run=zw r
 | [],i,q,fs,g,h=>⟨q,rfl,tZ.refl q,h⟩
 |o::os,i,q,fs,g,h=>by
  have B:ops[i]?=zw o:=by have:=W3 (·[0]?) g;simpa using this.symm
  have H:os=ops.toList.drop (i+1):=by have:=W3 List.tail g;simpa using this
  simp only[Wm,qz,pY,B];unfold runNT at h;split at h
  .exact (dD h).elim
  .rename_i rd j;refine Gg ?_ (Vm h);rintro e ⟨d,b,rfl,y,J,h⟩;simp only[uQ,amP]at h;have z:=Vp H h;rw[<-amS,<-amQ,<-amR,<-y]at z;rw[afe j,<-y,<-Pj];have L:b.er.aK.map (·.1)=b.aK.map (·.1):=MJ b.aK;have M:b.er.new=b.new:=rfl;rw[L,M];refine xU ?_ z;rintro st' c ⟨m,rfl,w,h⟩;exact⟨m,rfl,(J.trans (tZ.eff d o.dst b)).trans w,h⟩
theorem MK{R:Type}{T:lK}{tt:TT}{ety:TypeId->Option Ty}{N:Nat}{ops:Array Oper}{draw:Bool}{r:R}{K:kF->Prog R}{q:kF}{Kp:St->Prop}(h:(xK T tt ety N ops draw q K).run=zw r)
  (g :∀b,tZ q b->(K b).run=zw r->Kp (bg b.st)):tN (nJ T) tt N ops draw (bg q.st) Kp:=by
 unfold xK at h;unfold tN;cases draw with
 |false=>have:=Zx (i:=0) (by simp) h;rw[<-vi,Array.length_toList]at this;refine zI ?_ this;rintro c ⟨b,rfl,d,h⟩;exact g b d h
 |true=>
  have:=Vp (i:=0) (by simp) h;rw[<-vi,Array.length_toList]at this;refine xU ?_ this;rintro c m ⟨b,rfl,d,h⟩;split at h
  .rename_i j;exact⟨j,g b d h⟩
  .exact (dD h).elim
theorem afg{A R:Type}{x:Prog A}{k:A->Prog R}{r:R}(h:(Prog.join x k).run=zw r):∃a,x.run=zw a/\(k a).run=zw r:=by
 have h:x.run.bind (λz=>(k z).run)=zw r:=h;cases b:x.run with
 |none=>rw[b]at h;cases h
 |some a=>rw[b]at h;exact⟨a,rfl,h⟩
theorem acy{A R:Type}{x:Prog (A ⊕ R)}{k:A->Prog R}{r:R}(h:(Prog.OY x k).run=zw r):(∃a,x.run=zw (.inl a)/\(k a).run=zw r)\/x.run=zw (.inr r):=by
 have h:dN x.run (λz=>(k z).run)=zw r:=h;cases b:x.run with
 |none=>rw[b]at h;cases h
 |some a=>
  rw[b]at h;cases a with
  |inl a=>exact .inl ⟨a,rfl,h⟩
  |inr c=>have h:zw c=zw r:=h;cases h;exact .inr rfl
theorem X5{A R:Type}{body:A->Option (A ⊕ R)}{a:A}{r:R}(h:bn body a=zw r):∃n,kC body n a=zw r:=by
 unfold bn at h;split at h
 .exact ⟨_,h⟩
 .cases h
theorem afh{A R:Type}{a:A}{body:A->Prog (A ⊕ R)}{r:R}(h:(Prog.loop a body).run=zw r):∃n,kC (λz=>(body z).run) n a=zw r:=X5 h
theorem CJ{A R:Type}{body:A->Option (A ⊕ R)}:∀{n m:Nat} {a:A} {r:R},n<=m->kC body n a=zw r->kC body m a=zw r
 |0,m,a,r,_,h=>by cases h
 |n+1,0,a,r,c,h=>by omega
 |n+1,m+1,a,r,c,h=>by
  simp only[kC]at h ⊢;cases b:body a with
  |none=>rw[b]at h;cases h
  |some v=>
   rw[b]at h;cases v with
   |inl d=>exact CJ (n:=n) (by omega) h
   |inr g=>exact h
theorem zK{A R:Type}{body:A->Option (A ⊕ R)}{n:Nat}{a:A}{r:R}(h:kC body n a=zw r):bn body a=zw r:=by
 have hex :∃n r,kC body n a=zw r:=⟨n,r,h⟩;unfold bn;rw[dif_pos hex];obtain⟨c,b⟩:=Classical.choose_spec hex;rw[b];rcases Nat.le_total n (Classical.choose hex)with hle|hle
 .have:=CJ hle h;rw[this]at b;exact b.symm
 .have:=CJ hle b;rw[this]at h;exact h
theorem CO{A R:Type}(body:A->Option (A ⊕ R))(a:A):bn body a=(body a).bind λ
  |.inl c=>bn body c
  |.inr r=>zw r:=by
 cases d:body a with
 |none=>
  have:¬∃n r,kC body n a=zw r:=by
   rintro ⟨n,r,h⟩;cases n with
   |zero=>cases h
   |succ n=>simp only[kC,d]at h;cases h
  unfold bn;rw[dif_neg this];rfl
 |some v=>
  cases v with
  |inr r=>exact zK (n:=1) (by simp only[kC,d];rfl)
  |inl c=>
   show bn body a=bn body c;by_cases hex :∃n r,kC body n c=zw r
   .obtain ⟨n,r,hn⟩:=hex;rw[zK hn];exact zK (n:=n+1) (by simp only[kC,d];exact hn)
   .have b:¬∃n r,kC body n a=zw r:=by
     rintro ⟨n,r,h⟩;cases n with
     |zero=>cases h
     |succ n=>simp only[kC,d]at h;exact hex ⟨n,r,h⟩
    unfold bn;rw[dif_neg hex,dif_neg b]
theorem Zy{A R c:Type}{f:R->c}(d :∀a b,f a=f b->a=b):∀a b:A ⊕ R,Sum.map id f a=Sum.map id f b->a=b
 |.inl a,.inl b,h=>by cases h;rfl
 |.inl a,.inr b,h=>by cases h
 |.inr a,.inl b,h=>by cases h
 |.inr a,.inr b,h=>by have h:(Sum.inr (f a):A ⊕ c)=.inr (f b):=h;simp only[Sum.inr.injEq]at h;rw[d _ _ h]
theorem run_map{R L:Type}(f:R->L)(c :∀a b,f a=f b->a=b)(p:Prog R):(p.map f).run=p.run.map f:=by
 induction p generalizing L with
 |ret r=>rfl
 |stuck n=>rfl
 |cond b x y q d=>show (bif b then(x.map f).run else(y.map f).run)=(bif b then x.run else y.run).map f;rw[q f c,d f c];cases b<;>rfl
 |chk b x j=>show ck b (x.map f).run=(ck b x.run).map f;rw[j f c];cases b<;>rfl
 |any x y q d=>
  show both (x.map f).run (y.map f).run=(both x.run y.run).map f;rw[q f c,d f c];unfold both;by_cases e:x.run=y.run
  .rw [QR e,QR (by rw[e])]
  .rw [QP e,QP]
   .rfl
   .intro h;apply e;cases w:x.run with
    |none=>
     cases J:y.run with
     |none=>rfl
     |some b=>rw[w,J]at h;cases h
    |some a=>
     cases J:y.run with
     |none=>rw[w,J]at h;cases h
     |some b=>rw[w,J]at h;simp only[W7,Q0]at h;rw[c a b h]
 |let_ x k j=>exact j x f c
 |join x k q m=>
  show x.run.bind (λz=>((k z).map f).run)=(x.run.bind λz=>(k z).run).map f;cases x.run with
  |none=>rfl
  |some a=>exact m a f c
 |OY x k q m=>
  show dN (x.map (Sum.map id f)).run (λz=>((k z).map f).run)=(dN x.run λz=>(k z).run).map f;rw[q _ (Zy c)];cases x.run with
  |none=>rfl
  |some a=>
   cases a with
   |inl a=>exact m a f c
   |inr r=>rfl
 |loop a body j=>
  show bn (λz=>((body z).map (Sum.map id f)).run) a=(bn (λz=>(body z).run) a).map f;have e:(λz=>((body z).map (Sum.map id f)).run)=λz=>(body z).run.map (Sum.map id f):=funext λz=>j z _ (Zy c);rw[e];have key :∀n a,kC (λz=>(body z).run.map (Sum.map id f)) n a=(kC (λz=>(body z).run) n a).map f:=by
   intro n
   induction n with
   |zero=>intro a;rfl
   |succ n K=>
    intro a;simp only[kC];cases (body a).run with
    |none=>rfl
    |some v=>
     cases v with
     |inl M=>exact K M
     |inr r=>rfl
  have B:(∃n r,kC (λz=>(body z).run.map (Sum.map id f)) n a=zw r)↔∃n r,kC (λz=>(body z).run) n a=zw r:=by
   constructor
   .rintro ⟨n,r,h⟩;rw[key]at h;cases w:kC (λz=>(body z).run) n a with
    |none=>rw[w]at h;cases h
    |some N=>exact⟨n,N,w⟩
   .rintro ⟨n,r,h⟩;exact⟨n,f r,by rw[key,h];rfl⟩
  by_cases hex :∃n r,kC (λz=>(body z).run) n a=zw r
  .obtain ⟨n,r,hn⟩:=hex;have T:=zK hn;have u2:kC (λz=>(body z).run.map (Sum.map id f)) n a=zw (f r):=by rw[key,hn];rfl
   rw[T,zK u2];rfl
  .have H:=λh=>hex (B.1 h);unfold bn;rw[dif_neg hex,dif_neg H];rfl
 |call n g a k j=>
  show (g a).bind (λz=>((k z).map f).run)=((g a).bind λz=>(k z).run).map f;cases g a with
  |none=>rfl
  |some y=>exact j y f c
end
end Go.Fg

namespace Go.Fg
open Go.Fw
section
variable [RE] {m:Ren}
theorem Bh:∀{caps:List TW} {gs:List Nat},Ej caps=zw gs->FX gs=caps
 | [],gs,h=>by simp only[Ej,Q0]at h;subst h;rfl
 |c::j,gs,h=>by
  cases c with
  |box g off=>
   unfold Ej at h;obtain⟨b,h⟩:=bZ h;have b:=Q6 b;subst b;split at h
   .rename_i d hg;cases h;simp only[FX,Bh hg]
   .cases h
  |_=>cases h
theorem Zz{x:TW}{k:kG}{u c:List Wd}(h:U6 x=zw (k,u))(b:FY m k x=zw c):c=u/\u.length=k.tys.length:=by
 cases x<;>try simp only[U6,Q0,QQ,reduceCtorEq]at h
 case p a i w=>
  obtain⟨rfl,rfl⟩:=h;simp only[FY]at b;split at b
  .obtain ⟨_,rfl⟩:=Ep b;exact⟨rfl,rfl⟩
  .cases b
 case dJ=>obtain⟨rfl,rfl⟩:=h;simp only[FY,Q0]at b;subst b;exact⟨rfl,rfl⟩
 case own g=>
  obtain⟨rfl,rfl⟩:=h;simp only[FY]at b;split at b
  .cases b;exact⟨rfl,rfl⟩
  .cases b
 case box g off=>
  obtain⟨rfl,rfl⟩:=h;simp only[FY]at b;split at b
  .cases b;exact⟨rfl,rfl⟩
  .cases b
 case clo f d=>
  split at h
  .cases h;simp only[FY]at b;obtain⟨_,rfl⟩:=Ep b;exact⟨rfl,rfl⟩
  .cases h
 case vw g lo j=>
  obtain⟨rfl,rfl⟩:=h;simp only[FY]at b;split at b
  .cases b;exact⟨rfl,rfl⟩
  .cases b
 case ep g n off=>
  obtain⟨rfl,rfl⟩:=h;simp only[FY]at b;split at b
  .cases b;exact⟨rfl,rfl⟩
  .cases b
 case oD g=>
  obtain⟨rfl,rfl⟩:=h;simp only[FY]at b;split at b
  .cases b;exact⟨rfl,rfl⟩
  .cases b
theorem ML:∀{xs:List TW} {c:List kG} {u d:List Wd},yB xs=zw (c,u)->zq m c xs=zw d->d=u/\u.length=(c.flatMap kG.tys).length
 | [],c,u,d,h,b=>by simp only[yB,Q0,QQ]at h;obtain⟨rfl,rfl⟩:=h;simp only[zq,Q0]at b;subst b;exact⟨rfl,rfl⟩
 |x::xs,c,u,d,h,b=>by
  simp only[yB]at h;split at h
  .rename_i g j;cases h;simp only[zq]at b;split at b
   .rename_i q w;cases b;obtain⟨rfl,y⟩:=Zz g q;obtain⟨rfl,z⟩:=ML j w;exact⟨rfl,by simp only[XX,ZD,y,z]⟩
   .cases b
  .cases h
theorem aiC{x:TS}{k:lq}{u c:List Wd}(h:Rk x=zw (k,u))(d:aik m k x=zw c):c=u/\u.length=k.tys.length:=by
 unfold Rk at h;split at h
 .split at h
  .rename_i b;cases h;exact Zz b d
  .cases h
 .split at h
  .rename_i b;cases h;exact ML b d
  .cases h
 .cases h
theorem aiD{x:TO}{k:iY}{u d:List Wd}(h:yJ x=zw (k,u))(b:XP m k x=zw d):d=u/\u.length=k.tys.length:=by
 cases x with
 |none=>cases h
 |box y=>
  simp only[yJ]at h;split at h
  .rename_i j;cases h;exact ML j b
  .cases h
 |arr z a i e l=>
  simp only[yJ,Q0,QQ]at h;obtain⟨rfl,rfl⟩:=h;simp only[XP]at b;split at b
  .rename_i q c;split at b
   .cases b;have:=iJ c;exact⟨W3 (λw=>[w]) this.symm,rfl⟩
   .cases b
  .cases b
 |it s n=>simp only[yJ,Q0,QQ]at h;obtain⟨rfl,rfl⟩:=h;simp only[XP,Q0]at b;exact⟨b.symm,rfl⟩
 |aP a i e B l g=>
  simp only[yJ]at h;split at h
  .cases h;simp only[XP]at b;split at b
   .rename_i q c _;split at b
    .cases b;have:=iJ c;exact⟨W3 (λw=>[w]) this.symm,rfl⟩
    .cases b
   .cases b
  .cases h
theorem ZA{x:TW}{k:kG}{u vs:List Wd}{n:Nat}(h:U6 x=zw (k,u))(c :∀(j:Nat) w,u[j]?=zw w->vs[n+j]?=zw w):(Cb vs n k).1=x/\u.length=k.tys.length:=by
 cases x<;>try simp only[U6,Q0,QQ,reduceCtorEq]at h
 case p a i w=>obtain⟨rfl,rfl⟩:=h;have:=c 0 w rfl;refine⟨?_,rfl⟩;show TW.p a i (vs.getD n B_)=.p a i w;rw[Q2,show vs[n]?=zw w from this];rfl
 case vw g lo b=>
  obtain⟨rfl,rfl⟩:=h;refine⟨?_,rfl⟩;have d:=c 0 (jv .i64 lo) rfl;have H:=c 1 (jv .i64 b) rfl;have y:vs.getD n B_=jv .i64 lo:=by rw[Q2,show vs[n]?=zw (jv .i64 lo) from d];rfl
  have J:vs.getD (n+1) B_=jv .i64 b:=by rw[Q2,show vs[n+1]?=zw (jv .i64 b) from H];rfl
  show TW.vw g ((vs.getD n B_).as (.int .i64)) ((vs.getD (n+1) B_).as (.int .i64))=.vw g lo b;rw[y,J];have a0:TP.as (.int .i64) (jv .i64 lo)=lo:=tV (.int .i64) lo;have K:TP.as (.int .i64) (jv .i64 b)=b:=tV (.int .i64) b;rw[a0,K]
 case ep g q off=>
  obtain⟨rfl,rfl⟩:=h;refine⟨?_,rfl⟩;have d:=c 0 (jv .i64 q) rfl;have y:vs.getD n B_=jv .i64 q:=by rw[Q2,show vs[n]?=zw (jv .i64 q) from d];rfl
  show TW.ep g ((vs.getD n B_).as (.int .i64)) off=.ep g q off;rw[y];have a0:TP.as (.int .i64) (jv .i64 q)=q:=tV (.int .i64) q;rw[a0]
 case clo f B=>
  split at h
  .rename_i gs z;cases h;exact⟨by simp only[Cb,Bh z],rfl⟩
  .cases h
 all_goals (obtain⟨rfl,rfl⟩:=h;exact⟨rfl,rfl⟩)
theorem aiE{α:Type}{vs a b:List α}{n:Nat}(h :∀(j:Nat) w,(a++b)[j]?=zw w->vs[n+j]?=zw w):∀(j:Nat) w,a[j]?=zw w->vs[n+j]?=zw w:=λj w c=>h j w (by rw[Wf (Q3.1 c).1];exact c)
theorem afi{α:Type}{vs a b:List α}{n:Nat}(h :∀(j:Nat) w,(a++b)[j]?=zw w->vs[n+j]?=zw w):∀(j:Nat) w,b[j]?=zw w->vs[n+a.length+j]?=zw w:=λj w c=>by rw[J1];exact h (a.length+j) w (by rw[Wc (by omega)];simpa using c)
theorem MN:∀{xs:List TW} {b:List kG} {u vs:List Wd} {n:Nat},yB xs=zw (b,u)->(∀(j:Nat) w,u[j]?=zw w->vs[n+j]?=zw w)->(vT vs n b).1=xs/\u.length=(b.flatMap kG.tys).length
 | [],b,u,vs,n,h,c=>by simp only[yB,Q0,QQ]at h;obtain⟨rfl,rfl⟩:=h;exact⟨rfl,rfl⟩
 |x::xs,b,u,vs,n,h,c=>by
  simp only[yB]at h;split at h
  .rename_i K d g q y z;cases h;obtain⟨B,a2⟩:=ZA y (aiE c);obtain⟨H,J⟩:=MN (n:=n+d.length) z (afi c);refine⟨?_,by simp only[XX,ZD,a2,J]⟩;simp only[vT,B,En];rw[<-a2,H]
  .cases h
theorem aiF{x:TS}{k:lq}{u vs:List Wd}{n:Nat}(h:Rk x=zw (k,u))(d :∀(j:Nat) w,u[j]?=zw w->vs[n+j]?=zw w):(I_ vs n k).1=x/\u.length=k.tys.length:=by
 unfold Rk at h;split at h
 .split at h
  .rename_i b;cases h;obtain⟨c,a2⟩:=ZA b d;exact⟨by simp only[I_,c],a2⟩
  .cases h
 .split at h
  .rename_i b;cases h;obtain⟨c,a2⟩:=MN b d;exact⟨by simp only[I_,c],a2⟩
  .cases h
 .cases h
theorem aiG{x:TO}{k:iY}{u vs:List Wd}{n:Nat}(h:yJ x=zw (k,u))(b :∀(j:Nat) w,u[j]?=zw w->vs[n+j]?=zw w):(FZ vs n k).1=x/\u.length=k.tys.length:=by
 cases x with
 |none=>cases h
 |box J=>
  simp only[yJ]at h;split at h
  .rename_i d;cases h;obtain⟨g,a2⟩:=MN d b;exact⟨by simp only[FZ,g],a2⟩
  .cases h
 |arr q a i e l=>
  simp only[yJ,Q0,QQ]at h;obtain⟨rfl,rfl⟩:=h;refine⟨?_,rfl⟩;have:=b 0 (vK e l) rfl;have c:vs.getD n B_=vK e l:=by rw[Q2,show vs[n]?=zw (vK e l) from this];rfl
  show TO.arr q a i e ((vs.getD n B_).as (.sl e))=.arr q a i e l;rw[c];congr 1;exact tV (.sl e) l
 |it s p=>
  simp only[yJ,Q0,QQ]at h;obtain⟨rfl,rfl⟩:=h;refine⟨?_,rfl⟩;have B:=b 0 (UM s) rfl;have d:=b 1 (jv .i64 p) rfl;have H:vs.getD n B_=UM s:=by rw[Q2,show vs[n]?=zw (UM s) from B];rfl
  have c:vs.getD (n+1) B_=jv .i64 p:=by rw[Q2,show vs[n+1]?=zw (jv .i64 p) from d];rfl
  show TO.it ((vs.getD n B_).as .str) ((vs.getD (n+1) B_).as (.int .i64))=.it s p;rw[H,c];have a0:TP.as .str (UM s)=s:=tV .str s;have g:TP.as (.int .i64) (jv .i64 p)=p:=tV (.int .i64) p;rw[a0,g]
 |aP a i e y l z=>
  simp only[yJ]at h;split at h
  .cases h;refine⟨?_,rfl⟩;have:=b 0 (vK e l) rfl;have c:vs.getD n B_=vK e l:=by rw[Q2,show vs[n]?=zw (vK e l) from this];rfl
   show TO.aP a i e y ((vs.getD n B_).as (.sl e)) zz=.aP a i e y l zz;rw[c];congr 1;exact tV (.sl e) l
  .cases h
theorem ZB{x:TW}{k:kG}{u:List Wd}(h:U6 x=zw (k,u)):u.map (·.t)=k.tys:=by
 cases x<;>try simp only[U6,Q0,QQ,reduceCtorEq]at h
 case clo f b=>
  split at h
  .cases h;rfl
  .cases h
 all_goals (obtain⟨rfl,rfl⟩:=h;rfl)
theorem MO:∀{xs:List TW} {b:List kG} {u:List Wd},yB xs=zw (b,u)->u.map (·.t)=b.flatMap kG.tys
 | [],b,u,h=>by simp only[yB,Q0,QQ]at h;obtain⟨rfl,rfl⟩:=h;rfl
 |x::xs,b,u,h=>by
  simp only[yB]at h;split at h
  .rename_i c d;cases h;simp only[Ys,ZD,ZB c,MO d]
  .cases h
theorem ZC{x:TS}{k:lq}{u:List Wd}(h:Rk x=zw (k,u)):u.map (·.t)=k.tys:=by
 unfold Rk at h;split at h
 .split at h
  .rename_i b;cases h;exact ZB b
  .cases h
 .split at h
  .rename_i b;cases h;exact MO b
  .cases h
 .cases h
theorem aiH{x:TO}{k:iY}{u:List Wd}(h:yJ x=zw (k,u)):u.map (·.t)=k.tys:=by
 cases x with
 |none=>cases h
 |box d=>
  simp only[yJ]at h;split at h
  .rename_i c;cases h;exact MO c
  .cases h
 |arr g a i e l=>simp only[yJ,Q0,QQ]at h;obtain⟨rfl,rfl⟩:=h;rfl
 |it s n=>simp only[yJ,Q0,QQ]at h;obtain⟨rfl,rfl⟩:=h;rfl
 |aP a i e j l b=>
  simp only[yJ]at h;split at h
  .cases h;rfl
  .cases h
def Vq(s:Nat->TS)(l:List (Nat×lq×Option (List Wd))):Prop :=∀t k u,(t,k,zw u)∈l->Rk (s t)=zw (k,u)
def ZE(s:Nat->TO)(l:List (Nat×iY×Option (List Wd))):Prop :=∀t k u,(t,k,zw u)∈l->yJ (s t)=zw (k,u)
theorem zL{s:Nat->TS}:∀{l:List (Nat×Md)} {r:List (Nat×lq×Option (List Wd))},Ce s l=zw r->Vq s r
 | [],r,h=>by simp only[Ce,Q0]at h;subst h;intro t k u hm;cases hm
 |(t,.keep)::l,r,h=>by
  simp only[Ce]at h;split at h
  .rename_i d b;cases h;intro c k u hm;rcases XN.1 hm with hm|hm
   .cases hm;exact d
   .exact zL b c k u hm
  .cases h
 |(t,.sl g)::l,r,h=>by
  simp only[Ce]at h;split at h
  .rename_i b;cases h;intro c k u hm;rcases XN.1 hm with hm|hm
   .cases hm
   .exact zL b c k u hm
  .cases h
theorem CP{s:Nat->TO}:∀{l:List (Nat×Mo)} {r:List (Nat×iY×Option (List Wd))},LK s l=zw r->ZE s r
 | [],r,h=>by simp only[LK,Q0]at h;subst h;intro t k u hm;cases hm
 |(t,.keep)::l,r,h=>by
  simp only[LK]at h;split at h
  .rename_i d b;cases h;intro c k u hm;rcases XN.1 hm with hm|hm
   .cases hm;exact d
   .exact CP b c k u hm
  .cases h
 |(t,.ob g)::l,r,h=>by
  simp only[LK]at h;split at h
  .rename_i b;cases h;intro c k u hm;rcases XN.1 hm with hm|hm
   .cases hm
   .exact CP b c k u hm
  .cases h
theorem Ew{s J:Nat->TS}:∀{l:List (Nat×lq×Option (List Wd))} {us rest mJ:List Wd},Vq s l->(∀t k u,(t,k,zw u)∈l->J t=s t)->oO m J (l.map λp=>(p.1,p.2.1))=zw us->
  ∃e,Rl l (us++rest)=(e,rest)/\nI l (e++mJ)=(us,mJ)/\e.map (·.t)=kD l
 | [],us,rest,mJ,c,d,h=>by simp only[V2,oO,Q0]at h;subst h;exact⟨[],rfl,rfl,rfl⟩
 |(t,k,zw u)::l,us,rest,mJ,c,d,h=>by
  simp only[Qf,oO]at h;split at h
  .rename_i q v j w;cases h;rw[d t k u (by simp)]at j;obtain⟨rfl,y⟩:=aiC (c t k u (by simp)) j;obtain⟨e,z,B,H⟩:=Ew (rest:=rest) (mJ:=mJ) (λt k u b=>c t k u (by simp[b])) (λt k u b=>d t k u (by simp[b])) w;refine⟨e,?_,?_,by simp only[kD,H]⟩
   .simp only[Rl,W4,Jx,z]
   .simp only[nI,B]
  .cases h
 |(t,k,zz)::l,us,rest,mJ,c,d,h=>by
  simp only[Qf,oO]at h;split at h
  .rename_i q v j w;cases h;have g:=(Zn j).2;have y:q.length=k.tys.length:=by rw[<-g,We]
   obtain⟨e,z,B,H⟩:=Ew (rest:=rest) (mJ:=mJ) (λt k u b=>c t k u (by simp[b])) (λt k u b=>d t k u (by simp[b])) w;refine⟨q++e,?_,?_,by simp only[Ys,g,kD,H]⟩
   .simp only[Rl,W4,<-y,Km,Jx,z]
   .simp only[nI,W4,<-y,Km,Jx,B]
  .cases h
theorem Ey{s M:Nat->TO}:∀{l:List (Nat×iY×Option (List Wd))} {us rest mJ:List Wd},ZE s l->(∀t k u,(t,k,zw u)∈l->M t=s t/\m.lookup t=zw (zw t))->qW m M (l.map λp=>(p.1,p.2.1))=zw us->
  ∃e,U7 l (us++rest)=(e,rest)/\r_ l (e++mJ)=(us,mJ)/\e.map (·.t)=qE l
 | [],us,rest,mJ,d,j,h=>by simp only[V2,qW,Q0]at h;subst h;exact⟨[],rfl,rfl,rfl⟩
 |(t,k,zw u)::l,us,rest,mJ,d,j,h=>by
  simp only[Qf,qW]at h;split at h
  .rename_i w v b y;cases h;obtain⟨z,B⟩:=j t k u (by simp);rw[B]at b;simp only at b;rw[z]at b;obtain⟨rfl,H⟩:=aiD (d t k u (by simp)) b;obtain⟨e,J,K,L⟩:=Ey (rest:=rest) (mJ:=mJ) (λt k u c=>d t k u (by simp[c])) (λt k u c=>j t k u (by simp[c])) y;refine⟨e,?_,?_,by simp only[qE,L]⟩
   .simp only[U7,W4,Jx,J]
   .simp only[r_,K]
  .cases h
 |(t,k,zz)::l,us,rest,mJ,d,j,h=>by
  simp only[Qf,qW]at h;split at h
  .rename_i w v b y;cases h;have q:w.map (·.t)=k.tys:=by
    cases hg:m.lookup t with
    |none=>rw[hg]at b;cases b
    |some N=>
     rw[hg]at b;cases N with
     |some g=>exact(Zo b).2
     |none=>
      simp only at b;split at b
      .cases b;rfl
      .cases b;rfl
      .cases b
   have H:w.length=k.tys.length:=by rw[<-q,We]
   obtain⟨e,J,K,L⟩:=Ey (rest:=rest) (mJ:=mJ) (λt k u c=>d t k u (by simp[c])) (λt k u c=>j t k u (by simp[c])) y;refine⟨w++e,?_,?_,by simp only[Ys,q,qE,L]⟩
   .simp only[U7,W4,<-H,Km,Jx,J]
   .simp only[r_,W4,<-H,Km,Jx,K]
  .cases h
theorem CS{s:List (Nat×TS)}{ds:List Nat}:∀{l:List (Nat×lq×Option (List Wd))},U8 s ds l=zj->∀t k u,(t,k,zw u)∈l->hasK t s=zj/\gy t ds=zv
 | [],h,t,k,u,hm=>by cases hm
 |(t0,b,zw c)::l,h,t,k,u,hm=>by
  simp only[U8,X1,V0]at h;rcases XN.1 hm with hm|hm
  .cases hm;exact h.1
  .exact CS h.2 t k u hm
 |(t0,b,zz)::l,h,t,k,u,hm=>by
  rcases XN.1 hm with hm|hm
  .cases hm
  .exact CS (l:=l) h t k u hm
theorem CU{s:List (Nat×TO)}{ds:List Nat}:∀{l:List (Nat×iY×Option (List Wd))},U9 s ds l=zj->∀t k u,(t,k,zw u)∈l->hasK t s=zj/\gy t ds=zv
 | [],h,t,k,u,hm=>by cases hm
 |(t0,b,zw c)::l,h,t,k,u,hm=>by
  simp only[U9,X1,V0]at h;rcases XN.1 hm with hm|hm
  .cases hm;exact h.1
  .exact CU h.2 t k u hm
 |(t0,b,zz)::l,h,t,k,u,hm=>by
  rcases XN.1 hm with hm|hm
  .cases hm
  .exact CU (l:=l) h t k u hm
end
end Go.Fg

namespace Go.Fw
variable [fH]
def apz:TypeDesc->TK
 |.int k=>.int k
 |.bool=>.bool
 |.string=>.str
 |.slice e=>.slice e
 |.pointer _=>.ptr
 |.struct gs=>.struct (gs.toList.map λf=>(f.offset,f.type))
 |.array n e=>.arr n e
 |_=>.other
theorem qM.of{Pg:Program}{t:TypeId}{i:TI}(h1:(Pg.info? t).map (λx=>(x.size,x.bytes,x.zero.map (·.cells.toList),x.zero.map λz=>match z with|.agg _=>zj|_=>zv))=zw (i.size,i.bytes,zw i.zero,zw i.agg))
  (h2:i.zero.all (·.oneCell')=zj) (h3:i.zero.length=i.size) (hk:(Pg.underlying t).map apz=zw i.k)
  (he:(!i.eq||(!Pg.stoodInHeld t&&!Pg.eqGuardType Pg.depth t&&(Pg.fieldsOf t).toList.all λf=>!(f.name == "_")))=true):qM Pg t i:=by
 refine⟨h1,h2,h3,?_,λh=>?_⟩
 rotate_left
 .rw [h]at he;simp only[Bool.not_true,K9,X1,V0,Zs]at he;exact⟨he.1.1,he.1.2,λf hf e=>by have:=he.2 f hf;rw[e]at this;simp at this⟩
 cases hu:Pg.underlying t with
 |none=>rw[hu]at hk;cases hk
 |some d=>rw[hu]at hk;simp only[W7,Q0]at hk;rw[<-hk];cases d<;>simp[apz,qo,hu]
def akR(Pg:Program):List (Nat×TI)->Prop
 | []=>True
 |p::r=>qM Pg p.1 p.2/\akR Pg r
theorem aiI{Pg:Program}(rows:List (Nat×TI))(h:akR Pg rows):jm Pg λt=>rows.lookup t:=by
 intro t i b
 induction rows with
 |nil=>cases b
 |cons p r c=>
  obtain⟨d,g⟩:=h;simp only[List.lookup]at b;split at b
  .rename_i e;have e:t=p.1:=by simpa using e
   cases b;subst e;exact d
  .exact c g b
theorem wrap64{x:Int}(b:-9223372036854775808<=x)(c:x<=9223372036854775807):IntKind.i64.wrap x=x:=by
 have e:IntKind.i64.wrap x=if x % 18446744073709551616≥9223372036854775808 then x % 18446744073709551616-18446744073709551616 else x % 18446744073709551616:=by simp[IntKind.wrap,IntKind.bits,IntKind.signed]
 rw[e];split<;>omega
end Go.Fw

namespace Go.Fg
open Go.Fw
section
variable [RE]
theorem xW:∀{l:List (Nat×iY×Option (List Wd))} {r:Ren} {t:Nat} {k:iY} {u:List Wd},(t,k,zw u)∈l->(O5 l++r).lookup t=zw (zw t)
 | [],r,t,k,u,h=>by cases h
 |(t0,c,zw d)::l,r,t,k,u,h=>by
  simp only[O5,Kj,List.lookup,Jq];cases b:Nat.beq t t0 with
  |true=>have:=Q6 b;subst this;rfl
  |false=>
   rcases XN.1 h with h|h
   .cases h;simp at b
   .exact xW h
 |(t0,c,zz)::l,r,t,k,u,h=>by
  rcases XN.1 h with h|h
  .cases h
  .exact xW (l:=l) h
structure JOk(st:jI)(j:JF):Prop where
 s:Vq st.gs j.slots
 o:ZE st.go j.bG
 ds :∀t k u,(t,k,zw u)∈j.slots->gy t (newS j.slots)=zv
 dO :∀t k u,(t,k,zw u)∈j.bG->gy t (vV j.bG)=zv
theorem Gj{b:List Nat}:∀{l:List (Nat×lq×Option (List Wd))},aeY b l=zj->∀t k u,(t,k,zw u)∈l->gy t b=zv
 | [],h,t,k,u,hm=>by cases hm
 |(t0,c,zw d)::l,h,t,k,u,hm=>by
  simp only[aeY,X1,V0]at h;rcases XN.1 hm with hm|hm
  .cases hm;exact h.1
  .exact Gj h.2 t k u hm
 |(t0,c,zz)::l,h,t,k,u,hm=>by
  rcases XN.1 hm with hm|hm
  .cases hm
  .exact Gj (l:=l) h t k u hm
theorem Gl{b:List Nat}:∀{l:List (Nat×iY×Option (List Wd))},aeZ b l=zj->∀t k u,(t,k,zw u)∈l->gy t b=zv
 | [],h,t,k,u,hm=>by cases hm
 |(t0,c,zw d)::l,h,t,k,u,hm=>by
  simp only[aeZ,X1,V0]at h;rcases XN.1 hm with hm|hm
  .cases hm;exact h.1
  .exact Gl h.2 t k u hm
 |(t0,c,zz)::l,h,t,k,u,hm=>by
  rcases XN.1 hm with hm|hm
  .cases hm
  .exact Gl (l:=l) h t k u hm
theorem afj{st:jI}{b:JT}{j:JF}(h:jOf st b=zw j):JOk st j:=by
 unfold jOf at h;split at h
 .rename_i c d;split at h
  .rename_i hd;cases h;simp only[X1]at hd;exact⟨zL c,CP d,Gj hd.1,Gl hd.2⟩
  .cases h
 .cases h
theorem X6{st:jI}{j:JF}(L:JOk st j)(x:Tup j.tys):(j.pay (Tup.m_ j.tys x)).map (·.t)=j.sh.tys:=by
 have slots :∀(l:List (Nat×lq×Option (List Wd))) (c :∀t k u,(t,k,zw u)∈l->u.map (·.t)=k.tys) (b rest:List Wd),b.map (·.t)=kD l->(nI l (b++rest)).1.map (·.t)=(l.map λp=>(p.1,p.2.1)).flatMap (λp=>p.2.tys)/\(nI l (b++rest)).2=rest:=by
  intro l
  induction l with
  |nil=>intro c b rest h;simp only[kD,List.map_eq_nil_iff]at h;subst h;exact⟨rfl,rfl⟩
  |cons p l m=>
   intro c b rest h;obtain⟨t,k,B⟩:=p;cases B with
   |some u=>obtain⟨g,a2⟩:=m (λt k u d=>c t k u (by simp[d])) b rest h;exact⟨by simp only[nI,Ys,Qf,ZD,g,c t k u (by simp)],a2⟩
   |none=>
    simp only[kD]at h;have q:k.tys.length<=b.length:=by have:=W3 List.length h;simp only[We,XX]at this;omega
    have w:(b.take k.tys.length).map (·.t)=k.tys:=by rw[US,h,Km]
    have y:(b.drop k.tys.length).map (·.t)=kD l:=by rw[Vv,h,Jx]
    have H:(b++rest).take k.tys.length=b.take k.tys.length:=Kg q;have J:(b++rest).drop k.tys.length=b.drop k.tys.length++rest:=K8 q;obtain⟨g,a2⟩:=m (λt k u d=>c t k u (by simp[d])) _ rest y;simp only[nI,H,J];exact⟨by simp only[Ys,Qf,ZD,g,w],a2⟩
 have bG :∀(l:List (Nat×iY×Option (List Wd))) (c :∀t k u,(t,k,zw u)∈l->u.map (·.t)=k.tys) (b rest:List Wd),b.map (·.t)=qE l->(r_ l (b++rest)).1.map (·.t)=(l.map λp=>(p.1,p.2.1)).flatMap (λp=>p.2.tys)/\(r_ l (b++rest)).2=rest:=by
  intro l
  induction l with
  |nil=>intro c b rest h;simp only[qE,List.map_eq_nil_iff]at h;subst h;exact⟨rfl,rfl⟩
  |cons p l m=>
   intro c b rest h;obtain⟨t,k,B⟩:=p;cases B with
   |some u=>obtain⟨g,a2⟩:=m (λt k u d=>c t k u (by simp[d])) b rest h;exact⟨by simp only[r_,Ys,Qf,ZD,g,c t k u (by simp)],a2⟩
   |none=>
    simp only[qE]at h;have q:k.tys.length<=b.length:=by have:=W3 List.length h;simp only[We,XX]at this;omega
    have w:(b.take k.tys.length).map (·.t)=k.tys:=by rw[US,h,Km]
    have y:(b.drop k.tys.length).map (·.t)=qE l:=by rw[Vv,h,Jx]
    have H:(b++rest).take k.tys.length=b.take k.tys.length:=Kg q;have J:(b++rest).drop k.tys.length=b.drop k.tys.length++rest:=K8 q;obtain⟨g,a2⟩:=m (λt k u d=>c t k u (by simp[d])) _ rest y;simp only[r_,H,J];exact⟨by simp only[Ys,Qf,ZD,g,w],a2⟩
 have M :∀t k u,(t,k,zw u)∈j.slots->u.map (·.t)=k.tys:=λt k u d=>ZC (L.s t k u d);have N :∀t k u,(t,k,zw u)∈j.bG->u.map (·.t)=k.tys:=λt k u d=>aiH (L.o t k u d);have K:(Tup.m_ j.tys x).map (·.t)=kD j.slots++qE j.bG:=xQ _ _;generalize Tup.m_ j.tys x=b at K;obtain⟨w1,z,rfl,w,y⟩ :∃w1 z,b=w1++z/\w1.map (·.t)=kD j.slots/\z.map (·.t)=qE j.bG:=by
  refine⟨b.take (kD j.slots).length,b.drop (kD j.slots).length,(K2 _ _).symm,?_,?_⟩
  .rw [US,K,Km]
  .rw [Vv,K,Jx]
 obtain⟨g,a2⟩:=slots j.slots M w1 z w;have ob:=bG j.bG N z [] y;rw[K6]at ob;unfold JF.pay;rw[a2,Ys,g,ob.1];rfl
theorem Gm{s:Nat->TS}:∀{l:List (Nat×lq×Option (List Wd))} {pre post b rest:List Wd} {t:Nat},Vq s l->b.map (·.t)=kD l->hasK t (h_ (pre++(nI l (b++rest)).1++post) pre.length (l.map λp=>(p.1,p.2.1))).1=zj->gy t (newS l)=zv->
  jZ .no (h_ (pre++(nI l (b++rest)).1++post) pre.length (l.map λp=>(p.1,p.2.1))).1 t=s t/\∃k u,(t,k,zw u)∈l
 | [],pre,post,b,rest,t,d,c,h,hn=>by cases h
 |(t0,k,zw u)::l,pre,post,b,rest,t,d,c,h,hn=>by
  have hu:=d t0 k u (by simp);have g:=aiF (vs:=pre++(u++(nI l (b++rest)).1)++post) (n:=pre.length) hu (λj w J=>by rw[W4,Wc (by omega),qT,W4,Wf (Q3.1 J).1];exact J)
  simp only[nI,Qf,h_,g.1,Eo,<-g.2]at h ⊢;have e:pre++(u++(nI l (b++rest)).1)++post=(pre++u)++(nI l (b++rest)).1++post:=by simp only[W4]
  rw[e]at h ⊢;have q:pre.length+u.length=(pre++u).length:=by rw[XX]
  rw[q]at h ⊢;simp only[hasK,jZ]at h ⊢;cases K:Nat.beq t t0 with
  |true=>have:=Q6 K;subst this;exact⟨rfl,k,u,by simp⟩
  |false=>rw[K,K9]at h;obtain⟨y,z,B,a2⟩:=Gm (l:=l) (pre:=pre++u) (λt k u H=>d t k u (by simp[H])) c h hn;exact⟨y,z,B,by simp[a2]⟩
 |(t0,k,zz)::l,pre,post,b,rest,t,d,c,h,hn=>by
  simp only[kD]at c;simp only[newS,gy,J2]at hn;have L:k.tys.length<=b.length:=by have:=W3 List.length c;simp only[We,XX]at this;omega
  have M:(b.drop k.tys.length).map (·.t)=kD l:=by rw[Vv,c,Jx]
  have N:(b++rest).take k.tys.length=b.take k.tys.length:=Kg L;have T:(b++rest).drop k.tys.length=b.drop k.tys.length++rest:=K8 L;have m:(b.take k.tys.length).length=k.tys.length:=by rw[VM];omega
  simp only[nI,Qf,h_,Eo,N,T]at h ⊢;have e:pre++(b.take k.tys.length++(nI l (b.drop k.tys.length++rest)).1)++post=(pre++b.take k.tys.length)++(nI l (b.drop k.tys.length++rest)).1++post:=by simp only[W4]
  rw[e]at h ⊢;have q:pre.length+k.tys.length=(pre++b.take k.tys.length).length:=by rw[XX,m]
  rw[q]at h ⊢;simp only[hasK,jZ,hn.1,K9,cond_false]at h ⊢;obtain⟨y,z,B,a2⟩:=Gm (pre:=pre++b.take k.tys.length) (λt k u H=>d t k u (by simp[H])) M h hn.2;exact⟨y,z,B,by simp[a2]⟩
theorem MP{s:Nat->TO}:∀{l:List (Nat×iY×Option (List Wd))} {pre post b rest:List Wd} {t:Nat},ZE s l->b.map (·.t)=qE l->hasK t (kH (pre++(r_ l (b++rest)).1++post) pre.length (l.map λp=>(p.1,p.2.1))).1=zj->gy t (vV l)=zv->
  jZ .none (kH (pre++(r_ l (b++rest)).1++post) pre.length (l.map λp=>(p.1,p.2.1))).1 t=s t/\∃k u,(t,k,zw u)∈l
 | [],pre,post,b,rest,t,d,c,h,hn=>by cases h
 |(t0,k,zw u)::l,pre,post,b,rest,t,d,c,h,hn=>by
  have hu:=d t0 k u (by simp);have g:=aiG (vs:=pre++(u++(r_ l (b++rest)).1)++post) (n:=pre.length) hu (λj w J=>by rw[W4,Wc (by omega),qT,W4,Wf (Q3.1 J).1];exact J)
  simp only[r_,Qf,kH,g.1,LV,<-g.2]at h ⊢;have e:pre++(u++(r_ l (b++rest)).1)++post=(pre++u)++(r_ l (b++rest)).1++post:=by simp only[W4]
  rw[e]at h ⊢;have q:pre.length+u.length=(pre++u).length:=by rw[XX]
  rw[q]at h ⊢;simp only[hasK,jZ]at h ⊢;cases K:Nat.beq t t0 with
  |true=>have:=Q6 K;subst this;exact⟨rfl,k,u,by simp⟩
  |false=>rw[K,K9]at h;obtain⟨y,z,B,a2⟩:=MP (l:=l) (pre:=pre++u) (λt k u H=>d t k u (by simp[H])) c h hn;exact⟨y,z,B,by simp[a2]⟩
 |(t0,k,zz)::l,pre,post,b,rest,t,d,c,h,hn=>by
  simp only[qE]at c;simp only[vV,gy,J2]at hn;have L:k.tys.length<=b.length:=by have:=W3 List.length c;simp only[We,XX]at this;omega
  have M:(b.drop k.tys.length).map (·.t)=qE l:=by rw[Vv,c,Jx]
  have N:(b++rest).take k.tys.length=b.take k.tys.length:=Kg L;have T:(b++rest).drop k.tys.length=b.drop k.tys.length++rest:=K8 L;have m:(b.take k.tys.length).length=k.tys.length:=by rw[VM];omega
  simp only[r_,Qf,kH,LV,N,T]at h ⊢;have e:pre++(b.take k.tys.length++(r_ l (b.drop k.tys.length++rest)).1)++post=(pre++b.take k.tys.length)++(r_ l (b.drop k.tys.length++rest)).1++post:=by simp only[W4]
  rw[e]at h ⊢;have q:pre.length+k.tys.length=(pre++b.take k.tys.length).length:=by rw[XX,m]
  rw[q]at h ⊢;simp only[hasK,jZ,hn.1,K9,cond_false]at h ⊢;obtain⟨y,z,B,a2⟩:=MP (pre:=pre++b.take k.tys.length) (λt k u H=>d t k u (by simp[H])) M h hn.2;exact⟨y,z,B,by simp[a2]⟩
end
end Go.Fg

namespace Go.Fg
open Go.Fw
section
variable [RE]
theorem acz{st:jI}{j:JF}(x:Tup j.tys):∃w1 c,Tup.m_ j.tys x=w1++c/\w1.map (·.t)=kD j.slots/\c.map (·.t)=qE j.bG:=by have b:(Tup.m_ j.tys x).map (·.t)=kD j.slots++qE j.bG:=xQ _ _;generalize Tup.m_ j.tys x=d at b;exact⟨d.take (kD j.slots).length,d.drop (kD j.slots).length,(K2 _ _).symm,by rw[US,b,Km],by rw[Vv,b,Jx]⟩
theorem Gn:∀{l:List (Nat×lq×Option (List Wd))} {b rest:List Wd},b.map (·.t)=kD l->(nI l (b++rest)).2=rest
 | [],b,rest,h=>by simp only[kD,List.map_eq_nil_iff]at h;subst h;rfl
 |(t,k,zw u)::l,b,rest,h=>Gn (l:=l) h
 |(t,k,zz)::l,b,rest,h=>by
  simp only[kD]at h;have c:k.tys.length<=b.length:=by have:=W3 List.length h;simp only[We,XX]at this;omega
  have d:(b.drop k.tys.length).map (·.t)=kD l:=by rw[Vv,h,Jx]
  have g:(b++rest).drop k.tys.length=b.drop k.tys.length++rest:=K8 c;simp only[nI,g];exact Gn d
theorem Gp{st:jI}{j:JF}(q:JOk st j)(x:Tup j.tys):(∀t,hasK t (zA j x).s=zj->gy t (newS j.slots)=zv->(zA j x).gs t=st.gs t/\∃k u,(t,k,zw u)∈j.slots)/\
  ∀g,hasK g (zA j x).o=zj->gy g (vV j.bG)=zv->(zA j x).go g=st.go g/\∃k u,(g,k,zw u)∈j.bG:=by
 obtain⟨w1,d,U,w,y⟩:=acz (st:=st) x;have X:=Gn (rest:=d) w;have M:j.pay (Tup.m_ j.tys x)=(nI j.slots (w1++d)).1++(r_ j.bG d).1:=by rw[U];unfold JF.pay;rw[X]
 have z:=λt a b=>Gm (pre:=[]) (post:=(r_ j.bG d).1) (rest:=d) (t:=t) q.s w a b;have B:=λt a b=>MP (pre:=(nI j.slots (w1++d)).1) (post:=[]) (rest:=[]) (t:=t) q.o y a b;simp only[qf,Kd]at z;simp only[K6]at B;rw[<-M]at z B;have H:=X6 q x;have hn:(h_ (j.pay (Tup.m_ j.tys x)) 0 j.sh.slots).2=(nI j.slots (w1++d)).1.length:=by
  rw[xO,Vi];rw[M]at H;have Y :∀(l:List (Nat×lq×Option (List Wd))) (m:Vq st.gs l) (c rest:List Wd),c.map (·.t)=kD l->(nI l (c++rest)).1.length=((l.map λp=>(p.1,p.2.1)).flatMap λp=>p.2.tys).length:=by
   intro l
   induction l with
   |nil=>intro m c rest h;rfl
   |cons p l N=>
    intro m c rest h;obtain⟨t,k,Z⟩:=p;cases Z with
    |some u=>have e:=ZC (m t k u (by simp));have e:=W3 List.length e;rw[We]at e;simp only[nI,XX,Qf,ZD,e];rw[N (λt k u J=>m t k u (by simp[J])) c rest h]
    |none=>
     simp only[kD]at h;have T:k.tys.length<=c.length:=by have:=W3 List.length h;simp only[We,XX]at this;omega
     have y:(c.drop k.tys.length).map (·.t)=kD l:=by rw[Vv,h,Jx]
     have K:(c++rest).take k.tys.length=c.take k.tys.length:=Kg T;have L:(c++rest).drop k.tys.length=c.drop k.tys.length++rest:=K8 T;simp only[nI,K,L,XX,Qf,ZD,VM];rw[N (λt k u J=>m t k u (by simp[J])) _ rest y];omega
  exact(Y j.slots q.s w1 d w).symm
 refine⟨λt a b=>z t a b,λg a b=>?_⟩;have K:(zA j x).o=(kH (j.pay (Tup.m_ j.tys x)) (nI j.slots (w1++d)).1.length (j.bG.map λp=>(p.1,p.2.1))).1:=by rw[<-hn];rfl
 have L:(zA j x).go g=jZ .none (kH (j.pay (Tup.m_ j.tys x)) (nI j.slots (w1++d)).1.length (j.bG.map λp=>(p.1,p.2.1))).1 g:=by rw[<-hn];rfl
 rw[K]at a;rw[L];exact B g a b
theorem RH{gs:List Nat}{o:Nat->TO}(c:Pl o gs)(x:TW):cZ (tpW gs o x)=Y4 gs (dh o) (cZ x):=by
 cases x with
 |own g=>
  simp only[tpW,cZ,Y4,bU];cases b:gs.contains g with
  |false=>rfl
  |true=>obtain⟨⟨a,i,e,l⟩,hg⟩:=c g (by simpa using b);simp only[cond_true,if_true,hg,(pR hg).1];rfl
 |vw g lo d=>
  simp only[tpW,cZ,Y4,bU];cases b:gs.contains g with
  |false=>rfl
  |true=>obtain⟨⟨a,i,e,l⟩,hg⟩:=c g (by simpa using b);simp only[cond_true,if_true,hg,(pR hg).1,tY];rfl
 |_=>simp only[tpW,cZ,Y4]
theorem ZF{gs:List Nat}{o:Nat->TO}(b:Pl o gs)(x:TV):kE (tpV gs o x)=plV gs (dh o) (kE x):=by
 cases x with
 |one x=>simp only[tpV,kE,plV,RH b]
 |agg xs=>simp only[tpV,kE,plV,UI,V.agg.injEq];exact W8 λx _=>RH b x
theorem aiJ{gs:List Nat}{o:Nat->TO}(b:Pl o gs)(x:TS):bI (tpS gs o x)=plS gs (dh o) (bI x):=by
 cases x with
 |v x=>simp only[tpS,bI,plS,ZF b]
 |jq xs=>simp only[tpS,bI,plS,UI,S.jq.injEq];exact W8 λx _=>ZF b x
 |no=>rfl
theorem MQ{α:Type}(d:α)(f:Nat->α->α)(hd :∀t,f t d=d):∀(l:List (Nat×α)) (t:Nat),jZ d (l.map λp=>(p.1,f p.1 p.2)) t=f t (jZ d l t)
 | [],t=>(hd t).symm
 |(k,v)::r,t=>by
  simp only[Qf,jZ];cases b:Nat.beq t k with
  |true=>have:=Q6 b;subst this;rfl
  |false=>exact MQ d f hd r t
theorem ZG(gs:List Nat)(st:jI)(t:Nat):(Oc gs st).gs t=match gs with|[]=>st.gs t|g::r=>tpS (g::r) st.go (st.gs t):=by
 cases gs with
 |nil=>rfl
 |cons g r=>exact MQ .no (λ_ x=>tpS (g::r) st.go x) (λ_=>rfl) st.s t
theorem ZH(gs:List Nat)(st:jI)(t:Nat):(Oc gs st).go t=match gs with|[]=>st.go t|g::r=>tpO (g::r) st.go t (st.go t):=by
 cases gs with
 |nil=>rfl
 |cons g r=>exact MQ .none (λt x=>tpO (g::r) st.go t x) (λ_=>rfl) st.o t
theorem RI(o:Nat->O)(x:W):Y4 [] o x=x:=by unfold Y4;split<;>first|rfl|simp
theorem ZI(o:Nat->O)(x:V):plV [] o x=x:=by
 cases x with
 |one x=>simp only[plV,RI]
 |agg xs=>
  simp only[plV,V.agg.injEq]
  conv=>rhs;rw[<-List.map_id xs]
  exact W8 λx _=>RI o x
theorem RJ(st:St):fO [] st=st:=by
 refine St.ext' (λt=>?_) (λg=>?_) λg=>rfl
 .show plS [] st.o (st.s t)=st.s t;cases st.s t with
  |v x=>simp only[plS,ZI]
  |jq xs=>
   simp only[plS,S.jq.injEq]
   conv=>rhs;rw[<-List.map_id xs]
   exact W8 λx _=>ZI _ x
  |no=>rfl
 .show plO [] st.o g=st.o g;unfold plO;cases st.o g with
  |box b=>
   simp only[O.box.injEq]
   conv=>rhs;rw[<-List.map_id b]
   exact W8 λx _=>RI _ x
  |_=>simp
theorem Vr{gs:List Nat}{st:jI}(d:Pl st.go gs):bg (Oc gs st)=fO gs (bg st):=by
 cases gs with
 |nil=>rw[RJ];rfl
 |cons g r=>
  refine St.ext' (λt=>?_) (λk=>?_) λk=>rfl
  .show bI ((Oc (g::r) st).gs t)=plS (g::r) (dh st.go) (bI (st.gs t));rw[ZG];exact aiJ d _
  .show d_ ((Oc (g::r) st).go k)=plO (g::r) (dh st.go) k;rw[ZH];simp only;have h:dh st.go k=d_ (st.go k):=rfl;cases b:st.go k with
   |none=>
    have hd:dh st.go k=.none:=by rw[h,b];rfl
    simp only[tpO,plO,hd];split
    .simp [Fw.bf,plainO,hd,d_]
    .rfl
   |box q=>simp only[tpO,plO,pO b,d_,UI,O.box.injEq];exact W8 λx _=>RH d x
   |arr w a i e l=>
    simp only[tpO,plO,iM b,d_,bU];cases j:(g::r).contains k with
    |false=>simp
    |true=>simp[Fw.bf,plainO,iM b]
   |it s n=>
    have hd:dh st.go k=.it (.str ⟨s.toArray⟩) (.int .i64 n):=by rw[h,b];rfl
    simp only[tpO,plO,hd];split
    .simp [Fw.bf,plainO,hd,d_]
    .rfl
   |aP a i e m l c=>
    have hd:dh st.go k=.aP a i (size e) (gW m) (aN e l) c:=by rw[h,b];rfl
    simp only[tpO,plO,hd,bU];cases j:(g::r).contains k with
    |false=>simp only[cond_false,Wb,if_false];rfl
    |true=>simp only[cond_true,if_true];have:=Lh (d k (by simpa using j));rw[this]
theorem afk{gs:List Nat}{o:Nat->TO}{x:TW}(h:(W.namesT x).all (λg=>!gy g gs)=zj):tpW gs o x=x:=by
 cases x with
 |own g=>
  have h:gy g gs=zv:=by simpa[W.namesT]using h
  simp only[tpW,h,cond_false]
 |vw g lo b=>
  have h:gy g gs=zv:=by simpa[W.namesT]using h
  simp only[tpW,h,cond_false]
 |_=>rfl
theorem RN{gs:List Nat}{o:Nat->TO}:∀{xs:List TW},((xs.flatMap W.namesT).all λg=>!gy g gs)=zj->xs.map (tpW gs o)=xs
 | [],_=>rfl
 |x::xs,h=>by simp only[ZD,List.all_append,X1]at h;simp only[Qf,afk h.1,RN h.2]
theorem afl{gs:List Nat}{o:Nat->TO}{x:TV}(h:((V.namesT x).all λg=>!gy g gs)=zj):tpV gs o x=x:=by
 cases x with
 |one x=>simp only[tpV,afk (x:=x) h]
 |agg xs=>simp only[tpV,RN (xs:=xs) h]
theorem Vs{gs:List Nat}{o:Nat->TO}{x:TS}(h:X3 gs x=zj):tpS gs o x=x:=by
 cases x with
 |v x=>simp only[tpS,afl (x:=x) h]
 |jq xs=>
  simp only[tpS,TS.jq.injEq];have :∀(xs:List TV),((xs.flatMap V.namesT).all λg=>!gy g gs)=zj->xs.map (tpV gs o)=xs:=by
   intro xs
   induction xs with
   |nil=>intro _;rfl
   |cons x xs b=>intro h;simp only[ZD,List.all_append,X1]at h;simp only[Qf,afl h.1,b h.2]
  exact this xs h
 |no=>rfl
theorem Vt{gs:List Nat}{o:Nat->TO}{g:Nat}{x:TO}(h:LM gs g x=zj):tpO gs o g x=x:=by
 cases x with
 |none=>rfl
 |box c=>simp only[tpO,RN (xs:=c) h]
 |arr d a i e l=>
  have h:gy g gs=zv:=by simpa[LM]using h
  simp only[tpO,h,vR]
 |it s n=>rfl
 |aP a i e j l b=>
  have h:gy g gs=zv:=by simpa[LM]using h
  simp only[tpO,h,cond_false]
theorem Gq{gs:List Nat}{s:Nat->TS}:∀{l:List (Nat×lq×Option (List Wd))},aeW gs s l=zj->∀t k u,(t,k,zw u)∈l->X3 gs (s t)=zj
 | [],h,t,k,u,hm=>by cases hm
 |(t0,b,zw c)::l,h,t,k,u,hm=>by
  simp only[aeW,X1]at h;rcases XN.1 hm with hm|hm
  .cases hm;exact h.1
  .exact Gq h.2 t k u hm
 |(t0,b,zz)::l,h,t,k,u,hm=>by
  rcases XN.1 hm with hm|hm
  .cases hm
  .exact Gq (l:=l) h t k u hm
theorem Gs{gs:List Nat}{s:Nat->TO}:∀{l:List (Nat×iY×Option (List Wd))},aeX gs s l=zj->∀t k u,(t,k,zw u)∈l->LM gs t (s t)=zj
 | [],h,t,k,u,hm=>by cases hm
 |(t0,b,zw c)::l,h,t,k,u,hm=>by
  simp only[aeX,X1]at h;rcases XN.1 hm with hm|hm
  .cases hm;exact h.1
  .exact Gs h.2 t k u hm
 |(t0,b,zz)::l,h,t,k,u,hm=>by
  rcases XN.1 hm with hm|hm
  .cases hm
  .exact Gs (l:=l) h t k u hm
theorem ZJ{gs:List Nat}{st:jI}(h:amJ st.go gs=zj):ah7 (bg st).o gs=zj/\Pl st.go gs:=by
 have j:Pl st.go gs:=λg hg=>by
  have:=(Zs.1 h) g hg;simp only[plB,X1]at this;cases b:oN st.go g with
  |some p=>exact⟨p,rfl⟩
  |none=>rw[b]at this;cases this.1
 refine⟨Zs.2 λg hg=>?_,j⟩;obtain⟨⟨a,i,e,l⟩,b⟩:=j g hg;have:=(Zs.1 h) g hg;simp only[X1]at this;obtain⟨c,d⟩:=pR b;have c:plainO (bg st).o g=_:=c;have d:((bg st).o g).names=_:=d;rw[c,d];simp only[Option.isSome_some,Bool.true_and];have m:=this.2;simp only[bU]at m;exact m
theorem pW(keep:List Nat):∀(hs:List Nat) (st:jI),bg (oP keep hs st).2=Fw.shuts (oP keep hs st).1 (bg st)
 | [],st=>rfl
 |g::gs,st=>by
  simp only[oP];split
  .rename_i d a i e h l b c;split
   .simp only[Fw.shuts];rw[pW keep gs,MC];have:=Pn b c;have this:Fw.lu (bg st).o g=_:=this;rw[this]
   .exact pW keep gs st
  .exact pW keep gs st
theorem t_{keep:List Nat}{t:Nat}(b:gy t keep=zj):∀(hs:List Nat) (st:jI),(oP keep hs st).2.go t=st.go t
 | [],st=>rfl
 |g::gs,st=>by
  simp only[oP];split
  .rename_i d a i e j l y z;split
   .rename_i m;obtain⟨c,h⟩:=jg m;rw[t_ b gs];show jZ .none (Eh st.o [(g,.aP a i e j l zz),(d,.none)]) t=jZ .none st.o t;rw[zF];have q:(t==g)=zv:=by simp only[beq_eq_false_iff_ne];intro e;subst e;rw[b]at c;cases c
    have w:(t==d)=zv:=by simp only[beq_eq_false_iff_ne];intro e;subst e;rw[b]at h;cases h
    simp only[List.lookup,q,w]
   .exact t_ b gs st
  .exact t_ b gs st
theorem Ez(keep:List Nat):∀(hs:List Nat) (st:jI),(oP keep hs st).2.s=st.s
 | [],st=>rfl
 |g::gs,st=>by
  simp only[oP];split
  .split
   .rw [Ez keep gs]
   .exact Ez keep gs st
  .exact Ez keep gs st
theorem Gt:∀{l:List (Nat×iY×Option (List Wd))} {t:Nat} {k:iY} {u:List Wd},(t,k,zw u)∈l->gy t (Bg l)=zj
 | [],t,k,u,h=>by cases h
 |(t0,b,zw c)::l,t,k,u,h=>by
  simp only[Bg,gy,Ka];rcases XN.1 h with h|h
  .cases h;exact .inl (by simp)
  .exact .inr (Gt h)
 |(t0,b,zz)::l,t,k,u,h=>by
  rcases XN.1 h with h|h
  .cases h
  .exact Gt (l:=l) h
theorem qG{R:Type}{bH:List Nat}{j:JF}{q0 q:kF}{K:Tup j.tys->Prog R}{r:R}(N:JOk q0.st j)(hr:tZ q0 q)(h:(yC bH j q K).run=zw r):
  ∃x,(K x).run=zw r/\Back bH j.sh.er (bg q.st) λvs=>vs=(j.pay (Tup.m_ j.tys x)).map dH:=by
 unfold yC at h;simp only at h;split at h
 .exact (dD h).elim
 .rename_i w;obtain⟨w,T⟩:=jg w;obtain⟨w,U⟩:=jg w;obtain⟨w,X⟩:=jg w;obtain⟨w,Y⟩:=jg w;obtain⟨h1,h2⟩:=jg w;have c:=pW (Bg j.bG) (Ro q.st.o) q.st;have d:=λt (ht:gy t (Bg j.bG)=zj)=>t_ ht (Ro q.st.o) q.st;have B:=Ez (Bg j.bG) (Ro q.st.o) q.st;generalize (oP (Bg j.bG) (Ro q.st.o) q.st).1=Z at c;generalize (oP (Bg j.bG) (Ro q.st.o) q.st).2=m at h Y X U T c d B;generalize hgs:amL bH j.sh m=gs at h Y X U T;split at h
  .exact (dD h).elim
  .rename_i vs b;split at h
   .exact (dD h).elim
   .rename_i x hx;refine⟨x,h,?_⟩;have H:j.pay (Tup.m_ j.tys x)=vs:=by
     rw[Jr _ hx];unfold Ee at b;split at b
     .split at b
      .rename_i u v hu hv;cases b;have kS :∀t k u,(t,k,zw u)∈j.slots->(Oc gs m).gs t=q0.st.gs t:=λt k u y=>by
        obtain⟨a1,a2⟩:=CS h1 t k u y;have a3:=Gq U t k u y;have a4:m.gs t=q.st.gs t:=by unfold jI.gs;rw[B]
        rw[<-(hr.s t a1 a2).2.2,ZG,<-a4];cases gs with
        |nil=>rfl
        |cons g r=>exact Vs a3
       have kO :∀t k u,(t,k,zw u)∈j.bG->(Oc gs m).go t=q0.st.go t/\(O5 j.bG++derive bH j.sh (Oc gs m)).lookup t=zw (zw t):=λt k u y=>by
        obtain⟨a1,a2⟩:=CU h2 t k u y;have a3:=Gs T t k u y;refine⟨?_,xW y⟩;rw[<-(hr.o t a1 a2).2.2,ZH,<-d t (Gt y)];cases gs with
        |nil=>rfl
        |cons g r=>exact Vt a3
       obtain⟨e,e1,_,e3⟩:=Ew (rest:=v) (mJ:=[]) N.s kS hu;obtain⟨e',z,_,e3'⟩:=Ey (rest:=[]) (mJ:=[]) N.o kO hv;obtain⟨e2,J,e22,_⟩:=Ew (rest:=v) (mJ:=e') N.s kS hu;rw[e1]at J;have:e=e2:=(Prod.mk.inj J).1;subst this;obtain⟨e4,L,M,_⟩:=Ey (rest:=[]) (mJ:=[]) N.o kO hv;rw[z]at L;have:e'=e4:=(Prod.mk.inj L).1;subst this;rw[K6]at z M;unfold JF.ext;rw[e1];simp only;rw[z];unfold JF.pay;simp only;rw[e22];simp only;rw[M]
      .cases b
     .cases b
    rw[H];obtain⟨c1,c2⟩:=L6 b;obtain⟨f1,f2⟩:=ZJ X;rw[Vr f2,c]at c1;rw[c]at f1;exact .mk Z gs _ _ f1 Y c1 rfl
theorem tZ.fresh{q c:kF}(h:tZ q.fresh c):tZ q (c.since q):=by
 refine⟨λt d b=>?_,λg d b=>?_⟩
 .have b:gy t (c.ds++q.ds)=zv:=b;rw[bU]at b;simp only[vl,J2]at b;rw[<-bU,<-bU]at b;obtain⟨j,a2,a3⟩:=h.s t d b.1;exact⟨j,b.2,a3⟩
 .have b:gy g (c.od++q.od)=zv:=b;rw[bU]at b;simp only[vl,J2]at b;rw[<-bU,<-bU]at b;obtain⟨j,a2,a3⟩:=h.o g d b.1;exact⟨j,b.2,a3⟩
theorem wo{t:Nat}{a b:List Nat}(h:gy t (a++b)=zv):gy t a=zv/\gy t b=zv:=by rw[bU]at h;simp only[vl,J2]at h;rw[<-bU,<-bU]at h;exact h
theorem afm{st:jI}{t:Nat}(h:st.gs t≠.no):hasK t st.s=zj:=by
 cases b:hasK t st.s with
 |true=>rfl
 |false=>exact absurd (vY TS.no st.s t b) h
theorem afn{st:jI}{t:Nat}(h:st.go t≠.none):hasK t st.o=zj:=by
 cases b:hasK t st.o with
 |true=>rfl
 |false=>exact absurd (vY TO.none st.o t b) h
theorem ZK{x:TS}{y:lq×List Wd}(h:Rk x=zw y):x≠.no:=by intro e;subst e;cases h
theorem ZL{x:TO}{y:iY×List Wd}(h:yJ x=zw y):x≠.none:=by intro e;subst e;cases h
theorem aiK{q:kF}{j:JF}(c:JOk q.st j)(x:Tup j.tys):tZ q ⟨zA j x,newS j.slots++q.ds,vV j.bG++q.od⟩:=by
 obtain⟨B,H⟩:=Gp c x;refine⟨λt d h=>?_,λg d h=>?_⟩
 .obtain ⟨m,w⟩:=wo (a:=newS j.slots) (b:=q.ds) h;obtain⟨y,k,u,z⟩:=B t d m;exact⟨afm (ZK (c.s t k u z)),w,y⟩
 .obtain ⟨m,w⟩:=wo (a:=vV j.bG) (b:=q.od) h;obtain⟨y,k,u,z⟩:=H g d m;exact⟨afn (ZL (c.o g k u z)),w,y⟩
theorem Px{q d:kF}{j:JF}(m:JOk q.st j){x:Tup j.tys}(h:tZ ⟨zA j x,[],[]⟩ d):tZ q (d.since ⟨d.st,newS j.slots++q.ds,vV j.bG++q.od⟩):=by
 obtain⟨L,M⟩:=Gp m x;refine⟨λt w y=>?_,λg w y=>?_⟩
 .obtain ⟨z,c⟩:=wo (a:=d.ds) (b:=newS j.slots++q.ds) y;obtain⟨c,B⟩:=wo c;obtain⟨H,a2,a3⟩:=h.s t w z;obtain⟨J,k,u,K⟩:=L t H c;exact⟨afm (ZK (m.s t k u K)),B,a3.trans J⟩
 .obtain ⟨z,c⟩:=wo (a:=d.od) (b:=vV j.bG++q.od) y;obtain⟨c,B⟩:=wo c;obtain⟨H,a2,a3⟩:=h.o g w z;obtain⟨J,k,u,K⟩:=M g H c;exact⟨afn (ZL (m.o g k u K)),B,a3.trans J⟩
theorem Ir(vs:List Wd)(t:Nat):∀(n:Nat) (l:List (Nat×lq)),hasK t (h_ vs n l).1=hasK t l
 |n,[]=>rfl
 |n,(t0,k)::l=>by simp only[h_,hasK,Ir vs t]
theorem Iu(vs:List Wd)(t:Nat):∀(n:Nat) (l:List (Nat×iY)),hasK t (kH vs n l).1=hasK t l
 |n,[]=>rfl
 |n,(t0,k)::l=>by simp only[kH,hasK,Iu vs t]
theorem MR{α:Type}{t:Nat}{x:α}:∀{l:List (Nat×α)},(t,x)∈l->hasK t l=zj
 | [],h=>by cases h
 |(t0,y)::l,h=>by
  simp only[hasK,Ka];rcases XN.1 h with h|h
  .cases h;exact .inl (by simp)
  .exact .inr (MR h)
theorem aiL{st:jI}{j:JF}(b:JOk st j)(x:Tup j.tys):JOk (zA j x) j:=by
 obtain⟨g,h⟩:=Gp b x;refine⟨λt k u c=>?_,λt k u c=>?_,b.ds,b.dO⟩
 .have d:hasK t (zA j x).s=zj:=by show hasK t (h_ _ 0 j.sh.slots).1=zj;rw[Ir];exact MR (x:=k) (XS.2 ⟨(t,k,zw u),c,rfl⟩)
  rw[(g t d (b.ds t k u c)).1];exact b.s t k u c
 .have d:hasK t (zA j x).o=zj:=by show hasK t (kH _ _ j.sh.bG).1=zj;rw[Iu];exact MR (x:=k) (XS.2 ⟨(t,k,zw u),c,rfl⟩)
  rw[(h t d (b.dO t k u c)).1];exact b.o t k u c
structure KSm{R:Type}(q:kF)(K:TK R)(r:R)(Kp:D8):Prop where
 n :∀q',tZ q q'->(K.n q').run=zw r->Kp.n (bg q'.st)
 x :∀id q',tZ q q'->(K.x id q').run=zw r->Kp.x id (bg q'.st)
 r :∀q',tZ q q'->(K.r q').run=zw r->Kp.r (bg q'.st)
theorem KSm.from{R:Type}{q q1:kF}{K:TK R}{r:R}{Kp:D8}(h:KSm q K r Kp)(d:tZ q q1):KSm q1 K r Kp:=⟨λc a b=>h.n c (d.trans a) b,λid c a b=>h.x id c (d.trans a) b,λc a b=>h.r c (d.trans a) b⟩
theorem Js{R d:Type}{p:Prog R}{r:R}(h:(p.map (Sum.inr:R->d ⊕ R)).run=zw (.inr r)):p.run=zw r:=by
 rw[run_map _ (λa b e=>Sum.inr.inj e)]at h;cases c:p.run with
 |none=>rw[c]at h;cases h
 |some a=>rw[c]at h;cases h;rfl
theorem xX{R c:Type}{p:Prog R}{x:c}(h:(p.map (Sum.inr:R->c ⊕ R)).run=zw (.inl x)):False:=by
 rw[run_map _ (λa b e=>Sum.inr.inj e)]at h;cases d:p.run with
 |none=>rw[d]at h;cases h
 |some a=>rw[d]at h;cases h
theorem MS{R:Type}{bH:List Nat}{early:Bool}{Z:JT}{here:Nat->Bool}{q:kF}{inner:(L:Type)->kF->TK L->Prog L}{K:TK R}{r:R}{E:St->D8->Prop}{Kp:D8}
  (J :∀(L:Type) (b:kF) (X:TK L) (Y:L) (M:D8),(inner L b X).run=zw Y->KSm b X Y M->E (bg b.st) M)
  (h:(O6 bH early Z here q inner K).run=zw r) (N:KSm q K r Kp):E (bg q.st) { n:=Wk bH Kp.n,x:=λid st=>bif here id then Wk bH Kp.n st else Kp.x id st,r:=Kp.r }:=by
 unfold O6 at h;split at h
 .exact (dD h).elim
 .rename_i j T;have U:=afj T;have w:JOk q.fresh.st j:=U;have fin :∀(x:Tup j.tys),(frX ⟨zA j x,newS j.slots++q.ds,vV j.bG++q.od⟩ K.n).run=zw r->∀b:kF,Back bH j.sh.er (bg b.st) (λvs=>vs=(j.pay (Tup.m_ j.tys x)).map dH)->Wk bH Kp.n (bg b.st):=by intro x B b z;rw[uQ]at B;have hn:=N.n _ (aiK U x) B;refine .back j.sh.er ?_;obtain⟨hs,gs,m,vs,h0,h1,h2,rfl⟩:=z;refine⟨hs,gs,m,_,h0,h1,h2,?_⟩;have e:=zC (X6 U x);have hn:Kp.n (bg (mkT j.sh (j.pay (Tup.m_ j.tys x)))):=hn;rw[e]at hn;exact hn
  split at h
  .obtain ⟨x,hi,B⟩:=afg h;refine J _ q.fresh _ x _ hi ⟨λb g c=>?_,λid b g c=>?_,λb g c=>(dD c).elim⟩
   .obtain ⟨y,d,z⟩:=qG w g c;have d:zw y=zw x:=d;cases d;exact fin _ B b z
   .show (bif here id then Wk bH Kp.n (bg b.st)else Kp.x id (bg b.st));have c:(bif here id then yC bH j b .ret else .stuck 41:Prog _).run=zw x:=c;cases H:here id with
    |true=>rw[H]at c;obtain⟨y,d,z⟩:=qG w g c;have d:zw y=zw x:=d;cases d;exact fin _ B b z
    |false=>rw[H]at c;exact(dD c).elim
  .rcases acy h with⟨x,hi,B⟩|hi
   .refine J _ q.fresh _ (Sum.inl x) _ hi ⟨λb g c=>?_,λid b g c=>?_,λb g c=>(xX c).elim⟩
    .obtain ⟨y,d,z⟩:=qG w g c;have d:zw (Sum.inl y:Tup j.tys ⊕ R)=zw (.inl x):=d;cases d;exact fin _ B b z
    .show (bif here id then Wk bH Kp.n (bg b.st)else Kp.x id (bg b.st));have c:(bif here id then yC bH j b (λx=>.ret (.inl x))else(K.x id (b.since q)).map .inr:Prog (Tup j.tys ⊕ R)).run=zw (.inl x):=c;cases H:here id with
     |true=>rw[H]at c;obtain⟨y,d,z⟩:=qG w g c;have d:zw (Sum.inl y:Tup j.tys ⊕ R)=zw (.inl x):=d;cases d;exact fin _ B b z
     |false=>rw[H]at c;exact(xX c).elim
   .refine J _ q.fresh _ (Sum.inr r) _ hi ⟨λb g c=>?_,λid b g c=>?_,λb g c=>?_⟩
    .obtain ⟨y,d,z⟩:=qG w g c;have d:zw (Sum.inl y:Tup j.tys ⊕ R)=zw (.inr r):=d;cases d
    .show (bif here id then Wk bH Kp.n (bg b.st)else Kp.x id (bg b.st));have c:(bif here id then yC bH j b (λx=>.ret (.inl x))else(K.x id (b.since q)).map .inr:Prog (Tup j.tys ⊕ R)).run=zw (.inr r):=c;cases H:here id with
     |true=>rw[H]at c;obtain⟨y,d,z⟩:=qG w g c;have d:zw (Sum.inl y:Tup j.tys ⊕ R)=zw (.inr r):=d;cases d
     |false=>rw[H]at c;exact N.x id (b.since q) (tZ.fresh g) (Js c)
    .exact N.r (b.since q) (tZ.fresh g) (Js c)
theorem least{p:Nat->Prop}:(∃n,p n)->∃n,p n/\∀k,k<n->¬ p k:=by
 rintro ⟨n,hn⟩
 induction n using Nat.strongRecOn with
 |ind n d=>
  by_cases h :∃k,k<n/\p k
  .obtain ⟨k,b,c⟩:=h;exact d k b c
  .exact ⟨n,hn,λk b c=>h ⟨k,b,c⟩⟩
open Classical in
noncomputable def MV(p:Nat->Prop):Nat:=if h :∃n,p n then Classical.choose (least h)else 0
theorem Iw{p:Nat->Prop}(h :∃n,p n):p (MV p)/\∀k,p k->MV p<=k:=by unfold MV;rw[dif_pos h];obtain⟨c,d⟩:=Classical.choose_spec (least h);exact⟨c,λk g=>vj λb=>d k b g⟩
theorem acA{T:lK}{tt:TT}{ety:TypeId->Option Ty}{N:Nat}:∀(c:Code) {bH:List Nat} {R:Type} {a:fU} {q:kF} {K:TK R} {r:R} {Kp:D8},(oQ T tt ety N bH c R a q K).run=zw r->KSm q K r Kp->
  exec (nJ T) tt N bH c (bg q.st) Kp:=by
 intro c
 induction c with
 |skip=>intro bH R a q K r Kp h g;exact g.n q (tZ.refl q) h
 |region id ops draw=>
  intro bH R a q K r Kp h g;show tN (nJ T) tt N ops draw (bg q.st) (Wk bH Kp.n);have h:(match a with
   |.meet e j _=>O6 bH e j (λ_=>zv) q (λ_ q K=>xK T tt ety N ops draw q K.n) K
   |_=>xK T tt ety N ops draw q K.n).run=zw r:=h
  have plain:(xK T tt ety N ops draw q K.n).run=zw r->tN (nJ T) tt N ops draw (bg q.st) (Wk bH Kp.n):=λh=>MK h λd J H=>.now (g.n d J H);cases a with
  |meet e j a=>exact MS (E:=λst K=>tN (nJ T) tt N ops draw st K.n) (λR' d K' X Y h U=>MK h λq'' J H=>U.n q'' J H) h g
  |_=>exact plain h
 |seq x y Y5 Z=>intro bH R a q K r Kp h g;refine Y5 h ⟨λd J H=>Z H (g.from J),g.x,g.r⟩
 |cond c x y Y5 Z=>
  intro bH R a q K r Kp h g;have body :∀(R:Type) (a:fU) (q:kF) (K:TK R) (r:R) (Kp:D8),(Zg c q (λq=>oQ T tt ety N bH x R a.fst q K) λq=>oQ T tt ety N bH y R a.snd q K).run=zw r->KSm q K r Kp->(match (bg q.st).dG c with
    |.v (.one (.p _ _ (.bool b)))=>bif b then exec (nJ T) tt N bH x (bg q.st) Kp else exec (nJ T) tt N bH y (bg q.st) Kp
    |_=>False):=by
   intro R a q K r Kp h g;unfold Zg at h;split at h
   .rename_i a' i' b M;change Bool at b;have hb':(bg q.st).dG c=.v (.one (.p a' i' (.bool b))):=by rw[mD,M];rfl
    rw[hb'];simp only;have kn:bg (knT c a' i' b q).st=bg q.st/\tZ q (knT c a' i' b q):=by
     unfold knT;cases c with
     |tmp t=>have M:q.st.gs t=.v (.one (.p a' i' (jC b))):=M;exact⟨zG M,zH M⟩
     |_=>exact⟨rfl,tZ.refl q⟩
    cases b with
    |true=>have h:(frX (knT c a' i' zj q) λq=>oQ T tt ety N bH x R a.fst q K).run=zw r:=h;rw[uQ]at h;have:=Y5 h (g.from kn.2);rw[kn.1]at this;exact this
    |false=>have h:(frX (knT c a' i' zv q) λq=>oQ T tt ety N bH y R a.snd q K).run=zw r:=h;rw[uQ]at h;have:=Z h (g.from kn.2);rw[kn.1]at this;exact this
   .exact (dD h).elim
  cases a with
  |meet e j a=>
   exact MS (E:=λst K=>match st.dG c with
    |.v (.one (.p _ _ (.bool b)))=>bif b then exec (nJ T) tt N bH x st K else exec (nJ T) tt N bH y st K
    |_=>False) (λR' d K' X Y h U=>body R' a d K' X Y h U) h g
  |nil=>exact body R .nil q K r { n:=Wk bH Kp.n,x:=Kp.x,r:=Kp.r } h ⟨λd a b=>.now (g.n d a b),g.x,g.r⟩
  |seq a b=>exact body R (.seq a b) q K r { n:=Wk bH Kp.n,x:=Kp.x,r:=Kp.r } h ⟨λd a b=>.now (g.n d a b),g.x,g.r⟩
  |range j s a=>exact body R (.range j s a) q K r { n:=Wk bH Kp.n,x:=Kp.x,r:=Kp.r } h ⟨λd a b=>.now (g.n d a b),g.x,g.r⟩
  |loop j a=>exact body R (.loop j a) q K r { n:=Wk bH Kp.n,x:=Kp.x,r:=Kp.r } h ⟨λd a b=>.now (g.n d a b),g.x,g.r⟩
 |block id c ih=>
  intro bH R a q K r Kp h g;have plain :∀(a:fU),(oQ T tt ety N bH c R a q { n:=K.n,x:=λw d=>bif Nat.beq w id then K.n d else K.x w d,r:=K.r }).run=zw r->exec (nJ T) tt N bH (.block id c) (bg q.st) Kp:=by
   intro a h;refine ih h ⟨λd J H=>.now (g.n d J H),λw d J H=>?_,g.r⟩;show (bif Nat.beq w id then Wk bH Kp.n (bg d.st)else Kp.x w (bg d.st));have H:(bif Nat.beq w id then K.n d else K.x w d).run=zw r:=H;cases M:Nat.beq w id with
   |true=>rw[M]at H;exact .now (g.n d J H)
   |false=>rw[M]at H;exact g.x w d J H
  cases a with
  |meet e j a=>
   have:=MS (E:=λst K=>exec (nJ T) tt N bH c st K) (λR' d K' X Y h U=>ih h U) h g;have e :∀w,Nat.beq id w=Nat.beq w id:=λw=>by rw[Bool.eq_iff_iff];simp;exact⟨λh=>h.symm,λh=>h.symm⟩
   show exec (nJ T) tt N bH c (bg q.st) { n:=Wk bH Kp.n,x:=λw st'=>bif Nat.beq w id then Wk bH Kp.n st' else Kp.x w st',r:=Kp.r };simp only[e]at this;exact this
  |nil=>exact plain _ h
  |seq a b=>exact plain _ h
  |loop j a=>exact plain _ h
  |range j s a=>exact plain _ h
 |loop c ih=>
  intro bH R a q K r Kp h g;cases a with
  |loop jt a=>
   unfold oQ at h;simp only at h;split at h
   .exact (dD h).elim
   .rename_i j hjo;have hj:=afj hjo;have hjf:JOk q.fresh.st j:=hj;obtain⟨x0,hx0,hb0⟩:=qG hjf (tZ.refl q.fresh) h;obtain⟨n0,hn0⟩:=afh hx0;generalize hB:(λz=>(frX ⟨zA j z,[],[]⟩ λd=>oQ T tt ety N bH c (Tup j.tys ⊕ R) a d
      { n:=λd=>yC bH j d λx=>.ret (.inl x),x:=λid d=>(K.x id (d.since ⟨d.st,newS j.slots++q.ds,vV j.bG++q.od⟩)).map .inr,r:=λd=>(K.r (d.since ⟨d.st,newS j.slots++q.ds,vV j.bG++q.od⟩)).map .inr }).run)=B at hn0
    let P:List P->Nat->Prop:=λvs n=>∃x,vs=(j.pay (Tup.m_ j.tys x)).map dH/\kC B n x=zw r
    refine .mk j.sh.er (λvs=>∃n,P vs n) (λvs=>MV (P vs)) ?_ ?_
    .obtain ⟨hs,gs,m,vs,h0,h1,h2,rfl⟩:=hb0;exact⟨hs,gs,m,_,h0,h1,h2,n0,x0,rfl,hn0⟩
    .intro us hI;obtain⟨⟨x,hus,L⟩,hmin⟩:=Iw hI;generalize hn:MV (P us)=n at L hmin;cases n with
     |zero=>cases L
     |succ n=>
      simp only[kC]at L;cases M:B x with
      |none=>rw[M]at L;cases L
      |some v=>
       rw[M]at L;have hb2:=M;rw[<-hB]at hb2;simp only[uQ]at hb2;have e:=zC (X6 hj x);rw[<-hus]at e;rw[<-e];refine ih hb2 ⟨λd J H=>?_,λid d J H=>?_,λd J H=>?_⟩
       .obtain ⟨y,hy,hbk⟩:=qG (q0:=⟨zA j x,[],[]⟩) (aiL hj x) J H;have hy:zw (Sum.inl y:Tup j.tys ⊕ R)=zw v:=hy;cases hy;have L:kC B n y=zw r:=L;obtain⟨hs,gs,m,vs,h0,h1,h2,rfl⟩:=hbk;have hP:P ((j.pay (Tup.m_ j.tys y)).map dH) n:=⟨y,rfl,L⟩;refine⟨hs,gs,m,_,h0,h1,h2,⟨n,hP⟩,?_⟩;have:=(Iw ⟨n,hP⟩).2 n hP;omega
       .cases v with
        |inl y=>exact(xX H).elim
        |inr X=>have L:zw X=zw r:=L;cases L;exact g.x id (d.since ⟨d.st,newS j.slots++q.ds,vV j.bG++q.od⟩) (Px hj J) (Js H)
       .cases v with
        |inl y=>exact(xX H).elim
        |inr X=>have L:zw X=zw r:=L;cases L;exact g.r (d.since ⟨d.st,newS j.slots++q.ds,vV j.bG++q.od⟩) (Px hj J) (Js H)
  |nil=>exact(dD h).elim
  |seq a b=>exact(dD h).elim
  |meet e j a=>exact(dD h).elim
  |range j s a=>exact(dD h).elim
 |exit id=>intro bH R a q K r Kp h g;exact g.x id q (tZ.refl q) h
 |ret=>intro bH R a q K r Kp h g;exact g.r q (tZ.refl q) h
 |label l=>intro bH R a q K r Kp h g;exact g.n q (tZ.refl q) h
 |scope c ih=>intro bH R a q K r Kp h g;exact ih h g
 |_=>intro bH R a q K r Kp h;exact(dD h).elim
end
end Go.Fg

namespace Go.Fg
open Go.Fw
section
variable [RE]
theorem afo{tt:TT}{st:jI}{r:ResultVar}{x:TS}(h:Zh tt st r=zw x):abW tt (bg st) r=zw (bI x):=by
 cases r with
 |tmp t=>simp only[Zh,Q0]at h;subst h;rfl
 |cell a t=>
  simp only[Zh]at h;split at h
  .rename_i i g off d j;split at h
   .rename_i m hg;obtain⟨q,h⟩:=bZ h;cases h;obtain⟨w,y⟩:=jg q;have b:(bg st).s a=.v (.one (.box g off)):=by show bI (st.gs a)=_;rw[j];rfl
    have c:(bg st).o g=.box (m.map cZ):=pO hg;simp only[abW,d,b,c,We];rw[QR ⟨Wt w,N_ y⟩,mg,US,Vv]
   .cases h
  .cases h
theorem Py{tt:TT}{st:jI}:∀{b:List ResultVar} {xs:List TS},LQ tt st b=zw xs->Ic tt (bg st) b=zw (xs.map bI)
 | [],xs,h=>by simp only[LQ,Q0]at h;subst h;rfl
 |r::b,xs,h=>by
  simp only[LQ]at h;split at h
  .rename_i c d;cases h;simp only[Ic,afo c,Py d,Qf]
  .cases h
theorem Vu:∀(xs:List TS) (n k:Nat),jZ .no (X4 n xs) (n+k)=xs.getD k .no
 | [],n,k=>rfl
 |x::xs,n,0=>by simp[X4,jZ]
 |x::xs,n,k+1=>by
  have:Nat.beq (n+(k+1)) n=zv:=by
   cases h:Nat.beq (n+(k+1)) n with
   |false=>rfl
   |true=>have:=Q6 h;omega
  simp only[X4,jZ,this,cond_false,List.getD_cons_succ];have e:n+(k+1)=(n+1)+k:=by omega
  rw[e];exact Vu xs (n+1) k
theorem ZM{tt:TT}{sp:dn}{ts:List ResultVar}{q:kF}{y:Tup sp.aW.tys}(h:(ais tt sp ts q).run=zw y):Fw.Fin tt sp.er ts ((Tup.m_ sp.aW.tys y).map dH) (bg q.st):=by
 unfold ais at h;split at h
 .exact (dD h).elim
 .rename_i xs b;simp only at h;split at h
  .exact (dD h).elim
  .rename_i c;obtain⟨c,d⟩:=jg c;split at h
   .exact (dD h).elim
   .rename_i vs j;split at h
    .exact (dD h).elim
    .rename_i x w;have h:zw x=zw y:=h;cases h;unfold Fw.Fin;rw[Py b];simp only;obtain⟨m,z⟩:=L6 j;have e:bg { s:=X4 0 xs,o:=q.st.o,u:=q.st.u }=UK (xs.map bI) (bg q.st):=by refine St.ext' (λt=>?_) (λg=>rfl) λg=>rfl;show bI (jZ .no (X4 0 xs) t)=(xs.map bI).getD t .no;have:=Vu xs 0 t;rw[Vi]at this;rw[this,O9]
     obtain⟨f1,f2⟩:=ZJ d;rw[Vr f2,pW,e]at m;rw[pW,e]at f1;refine .mk _ _ _ _ f1 c m ?_;rw[Jr _ w]
def aB(Pg:Program)(f:FuncId)(sp:aX):Prop:=Sound Pg f sp.er
def lK.of(l:List (Nat×aX)):lK:=λf=>l.lookup f
def acB(Pg:Program):List (Nat×aX)->Prop
 | []=>True
 |p::r=>aB Pg (p.1 % 1000000) p.2/\acB Pg r
theorem acB.sound{Pg:Program}:∀{l:List (Nat×aX)},acB Pg l->∀f sp,nJ (lK.of l) f=zw sp->Sound Pg (f % 1000000) sp
 | [],_,f,sp,h=>by cases h
 |(g,s)::l,⟨b,c⟩,f,sp,h=>by
  simp only[nJ,lK.of,List.lookup]at h;split at h
  .rename_i e;have e:f=g:=by simpa using e
   subst e;cases h;exact b
  .exact acB.sound c f sp h
theorem eH{Pg:Program}{f:FuncId}{fn:Func}{c:Code}{sp:aX}(hf:Pg.funcs[f]?=some fn)(hb:fn.body=some c)(hname:(fn.name == "runtime.NumGoroutine")=false)(hok:sp.sig.er.ok=true)(h :∀x,sp.f x=none):aB Pg f sp:=by
 refine⟨hok,λargs w=>?_,λE w vals gh ins dP hR=>?_⟩
 .have hname':¬ fn.name = "runtime.NumGoroutine" :=by simpa using hname
  simp[callFunc,hf,hname',hb]
 .obtain ⟨x,y,hy,_⟩:=hR;have hy:=(Ry hy).1;rw[h x]at hy;cases hy
theorem xY(e:Ty)(l:List (Dt e)):(aN e l).length=List.length (α:=Dt e) l:=by simp[aN]
theorem Gu{R:Type}{a b:Nat->TO}{K:Prog R}{y:R}:∀{gs:List Nat},(Ci a b K gs).run=zw y->K.run=zw y/\∀g∈gs,(d_ (a g)).like (d_ (b g))
 | [],h=>⟨h,λg hg=>by cases hg⟩
 |g::gs,h=>by
  unfold Ci at h;have key :∀{x y:TO},U_ x y=.yes->(d_ x).like (d_ y):=by intro x y c;cases x<;>cases y<;>simp only[U_]at c<;>first|trivial|(cases c)|(exfalso;revert c;cases Nat.beq _ _<;>intro c<;>cases c)
  have j :∀{x y:TO} {n m:Nat},U_ x y=.len n m->n=m->(d_ x).like (d_ y):=by
   intro x y n m c q;cases x<;>cases y<;>simp only[U_]at c<;>first|(cases c)|skip
   .rename_i e l _ _ _ w J;cases d:Nat.beq (size e) (size w)with
    |false=>rw[d]at c;cases c
    |true=>rw[d]at c;cases c;exact⟨Q6 d,by rw[xY,xY];exact q⟩
   .rename_i e _ l _ _ _ w _ J _;cases d:Nat.beq (size e) (size w)with
    |false=>rw[d]at c;cases c
    |true=>rw[d]at c;cases c;exact⟨Q6 d,by rw[xY,xY];exact q⟩
  split at h
  .rename_i z;obtain⟨B,H⟩:=Gu h;refine⟨B,λg' hg=>?_⟩;rcases XN.1 hg with rfl|hg
   .exact key z
   .exact H g' hg
  .exact (dD h).elim
  .rename_i n m z;have h:ck (decide (n=m)) (Ci a b K gs).run=zw y:=h;unfold ck at h;cases hd:decide (n=m)with
   |false=>rw[hd]at h;cases h
   |true=>
    rw[hd]at h;obtain⟨B,H⟩:=Gu (gs:=gs) h;refine⟨B,λg' hg=>?_⟩;rcases XN.1 hg with rfl|hg
    .exact j z (ZS hd)
    .exact H g' hg
theorem acC{Pg:Program}{tt:TT}{T:lK}{ety:TypeId->Option Ty}{f:FuncId}{fn:Func}{c:Code}{sp:aX}(ts:List ResultVar)(a:fU)(hf:Pg.funcs[f]?=some fn)(hb:fn.body=some c)(hname:(fn.name == "runtime.NumGoroutine")=false)(hres:fn.results=ts.toArray)
  (hok:sp.sig.er.ok=zj) (Ny:(sp.sig.bH.all λg=>sp.sig.pin.er.nms.contains g)=zj) (hn:sp.sig.bC<=fn.ntmps) (hnr:ts.length=sp.sig.cO)
  (hT :∀f sp,nJ T f=zw sp->Sound Pg (f % 1000000) sp) (htt:jm Pg tt) (hm:Fit Pg)
  (h :∀x,(ae0 T tt ety fn.ntmps sp.sig ts c a x).run=sp.f x):aB Pg f sp:=by
 have hcase :∀x y,sp.ff x=zw y->(tfun T tt ety fn.ntmps sp.sig ts c a x).run=zw y/\∀g∈sp.sig.er.bH,((Fw.mk sp.sig.pin.er ((Tup.m_ sp.sig.pin.tys x).map dH)).o g).like ((Fw.mk sp.sig.aW.er ((Tup.m_ sp.sig.aW.tys y).map dH)).o g):=by
  intro x y hy0;have hy:=(Ry hy0).1;have hx:=h x;rw[hy]at hx;unfold ae0 at hx;cases hbx:sp.sig.er.ama with
  |true=>rw[hbx]at hx;exact⟨hx,A_.abB hbx⟩
  |false=>
   rw[hbx]at hx;have hx:(tfun T tt ety fn.ntmps sp.sig ts c a x).run.bind (λz=>(Ci (mkT sp.sig.pin (Tup.m_ sp.sig.pin.tys x)).go (mkT sp.sig.aW (Tup.m_ sp.sig.aW.tys z)).go (.ret z) sp.sig.bH).run)=zw y:=hx;cases hr:(tfun T tt ety fn.ntmps sp.sig ts c a x).run with
   |none=>rw[hr]at hx;cases hx
   |some z=>rw[hr]at hx;obtain⟨h1,h2⟩:=Gu (R:=Tup sp.sig.aW.tys) (K:=.ret z) hx;have h1:zw z=zw y:=h1;cases h1;refine⟨rfl,λg hg=>?_⟩;have e1:=W3 (λs=>s.o g) (zC (xQ _ x));have e2:=W3 (λs=>s.o g) (zC (xQ _ y));rw[<-e1,<-e2];exact h2 g hg
 refine aen (T:=nJ T) (tt:=tt) (c:=c) ts hf hb hname hres hok Ny (λins dP ⟨x,y,hy,hi,ho⟩=>by subst hi;subst ho;exact(hcase x y hy).2) hn hnr hT htt hm ?_;rintro ins dP ⟨x,y,hy,rfl,rfl⟩;have hx:=(hcase x y hy).1;unfold tfun at hx;rw[uQ]at hx;have e:=zC (xQ _ x);have hx:=acA c hx (Kp:=amq tt sp.sig.er ts ((Tup.m_ sp.sig.aW.tys y).map dH)) ⟨λq' _ hq=>ZM hq,λid q' _ hq=>(dD hq).elim,λq' _ hq=>ZM hq⟩;have hx:exec (nJ T) tt fn.ntmps sp.sig.er.bH c (bg (mkT sp.sig.pin (Tup.m_ sp.sig.pin.tys x))) (amq tt sp.sig.er ts ((Tup.m_ sp.sig.aW.tys y).map dH)):=hx;rw[e]at hx;exact hx
end
end Go.Fg

namespace Go.Fg
open Go.Fw Go.Proofs
def RP(w:World)(l:List Int)(G:Gh):Prop:=
 (G.ad=zz/\G.cap=0/\l=[])\/
 ∃b o c e,G.ad=zw ⟨b,o,zz⟩ /\w.heap[b]?=zw (.cells c e (0,0))/\o+G.cap<=c.size/\(l.length<=G.cap/\G.cap<=9223372036854775807)/\
  ∀(n:Nat) x,l[n]?=zw x->c[o+n]?=zw (.int .i64 x)
section
variable [RE]
theorem oq(l:List Int):aN (.int .i64) l=l.map λx=>[P.int .i64 x]:=rfl
theorem aiM{E:Env}{st:St}{gh:Nat->Gh}{w:World}{a i:Bool}{l:List Int}{G:Gh}(h:jk E st gh w a i 1 (aN (.int .i64) l) G):RP w l G:=by
 rcases h with⟨j,g,d⟩|⟨ad,c,e,j,g,d,z,B,K,q⟩
 .refine .inl ⟨j,g,?_⟩;rw[oq]at d;simpa using d
 .obtain ⟨b,o,sp⟩:=ad;simp only at g d z q;subst g;refine .inr ⟨b,o,c,e,j,d,by omega,by simpa[oq]using B,λn x H=>?_⟩;have m:(aN (.int .i64) l)[n]?=zw [P.int .i64 x]:=by rw[oq,Z2,H];rfl
  obtain⟨v,y,J⟩:=q n _ m 0 (P.int .i64 x) rfl;rw[J.fF]at y;rw[<-y];congr 1;omega
theorem aiN{E:Env}{st:St}{gh:Nat->Gh}{w:World}{a i:Bool}{l:List Int}{G:Gh}(h:RP w l G):jk E st gh w a i 1 (aN (.int .i64) l) G:=by
 rcases h with⟨g,H,m⟩|⟨b,o,c,e,g,m,J,K,L⟩
 .exact .inl ⟨g,H,by rw[m];rfl⟩
 .refine .inr ⟨⟨b,o,zz⟩,c,e,g,rfl,m,by simpa using J,by simpa[oq]using K,λx d=>?_,λn x d j y q=>?_⟩
  .rw [oq,XS]at d;obtain⟨z,_,rfl⟩:=d;rfl
  .rw [oq,Z2]at d;cases B:l[n]? with
   |none=>rw[B]at d;cases d
   |some z=>
    rw[B]at d;simp only[W7,Q0]at d;subst d;cases j with
    |succ j=>simp at q
    |zero=>simp only[K3,Q0]at q;subst q;refine⟨_,?_,.int .i64 z⟩;rw[<-L n z B];congr 1;simp
end
theorem heap_setCell(w:World)(b o:Nat)(v:Value)(c:Array Value)(e:TypeId)(h:w.heap[b]?=zw (.cells c e (0,0))):
  (w.setCell ⟨b,o,zz⟩ v).heap[b]?=zw (.cells (c.setIfInBounds o v) e (0,0))/\∀d,d≠b->(w.setCell ⟨b,o,zz⟩ v).heap[d]?=w.heap[d]?:=by
 refine⟨?_,λd g=>?_⟩
 .simp [World.setCell,vh,h]
 .simp [World.setCell,vh,Ne.symm g]
theorem Bj(b:Nat)(e:TypeId):∀(vs:List Value) (o:Nat) (w:World) (c:Array Value),w.heap[b]?=zw (.cells c e (0,0))->o+vs.length<=c.size->
  ∃g,(w.setCells b o vs).heap[b]?=zw (.cells g e (0,0))/\g.size=c.size/\(∀k,g[k]?=if o<=k/\k<o+vs.length then vs[k-o]? else c[k]?)/\
   (∀d,d≠b->(w.setCells b o vs).heap[d]?=w.heap[d]?)/\(w.setCells b o vs).heap.size=w.heap.size
 | [],o,w,c,h,j=>⟨c,h,rfl,λk=>by rw[QP (by simp)],λ_ _=>rfl,rfl⟩
 |v::vs,o,w,c,h,j=>by
  simp only[Wm]at j;obtain⟨z,B⟩:=heap_setCell w b o v c e h;obtain⟨g,H,J,K,L,M⟩:=Bj b e vs (o+1) (w.setCell ⟨b,o,zz⟩ v) (c.setIfInBounds o v) z (by simp;omega);refine⟨g,H,by simpa using J,λk=>?_,λd m=>(L d m).trans (B d m),M.trans (by simp[World.setCell])⟩;rw[K];simp only[Wm];by_cases q:k=o
  .subst q;rw[QP (by omega),QR (by omega)];simp[KV];omega
  .by_cases y:o+1<=k/\k<o+1+vs.length
   .rw [QR y,QR (by omega)];rw[show k-o=(k-(o+1))+1 by omega,UX]
   .rw [QP y,QP (by omega)];simp[KV,Ne.symm q]
theorem Iy(b:Nat):∀(vs:List Value) (o:Nat) (w:World),(w.setCells b o vs).os=w.os/\(w.setCells b o vs).tape=w.tape/\(w.setCells b o vs).output=w.output
 | [],_,_=>⟨rfl,rfl,rfl⟩
 |_::vs,o,w=>Iy b vs (o+1) _
theorem enters_of{Pg:Program}{f:FuncId}{fn:Func}{c:Code}(hf:Pg.funcs[f]?=some fn)(hb:fn.body=some c)(hname:(fn.name == "runtime.NumGoroutine")=false):Fw.Enters Pg f:=λargs w=>by
 have hname':¬ fn.name = "runtime.NumGoroutine" :=by simpa using hname
 simp[callFunc,hf,hname',hb]
section
variable [RE]
end
end Go.Fg

namespace Go.Fg
open Go.Fw Go.Proofs
section
variable [RE]
def su:OZ:=⟨[],[(70000,.arr zv zv zj (.int .i64))]⟩
theorem afp{E:Env}{st:St}{gh:Nat->Gh}{val:Nat->Value}{w m:World}(h:Rel E st gh val w)(T:E.B0=w.heap.size)(l:List Int)(G:Gh)(Y:RP m l G)
  (K:w.heap.size<=m.heap.size) (L :∀b,b<w.heap.size->¬ E.Wr b->m.heap[b]?=w.heap[b]?)
  (M :∀ad,G.ad=zw ad->(w.heap.size<=ad.block\/E.Wr ad.block)/\ad.block<m.heap.size) (z:m.os=w.os/\m.tape=w.tape/\m.output=w.output) (U:Nat->Gh) (B:U 70000=G) (y :∀b,G.sub b=zz:=by first|exact λ_=>rfl|assumption) :
  Rel E (Fw.mk su.er ((Tup.m_ su.tys l).map dH)) U (λk=>([]:List Value).getD k undef) m:=by
 have H :∀t,(Fw.mk su.er ((Tup.m_ su.tys l).map dH)).s t=.no:=λt=>rfl;have N:(Fw.mk su.er ((Tup.m_ su.tys l).map dH)).o 70000=.arr zv zv zj 1 (aN (.int .i64) l):=by exact W3 (O.arr zv zv zj 1) (jO (.int .i64) l)
 have d :∀g,g≠70000->(Fw.mk su.er ((Tup.m_ su.tys l).map dH)).o g=.none:=λg hg=>by
  have Z:(g==70000)=zv:=by simpa using hg
  show (match List.lookup g [(70000,_)]with|some x=>x|none=>O.none)=_;simp only[List.lookup,Z]
 have hu:(Fw.mk su.er ((Tup.m_ su.tys l).map dH)).used 70000=zj:=rfl;have c :∀g,((Fw.mk su.er ((Tup.m_ su.tys l).map dH)).o g).bW=zj->g=70000:=λg hg=>by
  by_cases e:g=70000
  .exact e
  .rw [d g e]at hg;simp[O.bW]at hg
 generalize Fw.mk su.er ((Tup.m_ su.tys l).map dH)=s at *;exact {
  slots:=λt=>by rw[H];exact .no _
  bG:=λg=>by
   by_cases e:g=70000
   .subst e;rw[N,B];exact aiN Y
   .rw [d g e];trivial
  inj:=λg g' _ j J _ _=>(c g j).trans (c g' J).symm
  wr:=λg a j J=>by
   have:=c g j;subst this;rw[B]at J;rw[T];rcases J with⟨ad,q1,q2⟩|q
   .rw [<-q2];exact M ad q1
   .rw [y a]at q;cases q
  wi:=λg i b j J h3=>by
   by_cases e:g=70000
   .subst e;rw[N]at j;cases j;rfl
   .rw [d g e]at j;cases j
  ns:=λg j _ b=>by have:=c g j;subst this;rw[B];exact y b
  wb:=h.wb
  frame:=λb hb X=>by rw[L b (by omega) X];exact h.frame b hb X
  size:=by rw[T];exact K
  os:=z.1.trans h.os
  tape:=z.2.1.trans h.tape
  output:=z.2.2.trans h.output
  us:=λt g hg=>by rw[H]at hg;simp[S.names]at hg
  uo:=λg g' hg=>by
   by_cases e:g=70000
   .subst e;rw[N]at hg;simp[O.names]at hg
   .rw [d g e]at hg;simp[O.names]at hg
  ul:=λg hg=>by
   by_cases e:g=70000
   .subst e;exact hu
   .exact absurd (d g e) hg }
def wu:dn:={ bC:=1,pin:=⟨[(0,.one (.own 70000))],[(70000,.arr zv zv zj (.int .i64))]⟩,aW:=su,cO:=0,bH:=[70000],aY:=[] }
def acD(l:List Int):Option (List Int):=match decide (l.length<4611686018427387904)with
 |true=>zw (l.mergeSort λx y=>decide (x<=y))
 |false=>zz
def ZN:aX:=⟨wu,λx=>acD x⟩
theorem acE{Pg:Program}{f:FuncId}(atD:Fw.Enters Pg f)
  (hD :∀(b off c:Nat) (zs:List Int) (w:World),Go.Sort.Holds (Value.int .i64) w b off zs.toArray->b<w.heap.size->zs.length<4611686018427387904->
   Calls Pg f #[.slice (zw ⟨b,off,zz⟩) zs.length c] w λe z=>e=.returned (.tuple #[])/\∃n os,z=Go.Sort.grow (Go.Sort.putRow (Value.int .i64) (Go.Sort.ahead w n) b off (zs.mergeSort λx y=>decide (x<=y)).toArray) os)
  (hE :∀(a:Option Addr) (c:Nat) (w:World),Calls Pg f #[.slice a 0 c] w λe z=>e=.returned (.tuple #[])/\z=w):aB Pg f ZN:=by
 refine⟨rfl,atD,λE w h d ins dP hR hB hw0 N X=>?_⟩;obtain⟨l,y,T,rfl,rfl⟩:=hR;change List Int at l;change List Int at y;have T:acD l=zw y:=T;unfold acD at T;split at T
 .rename_i hc;simp only[Wa]at hc;cases T;have ho:(Fw.mk wu.pin.er ((Tup.m_ wu.pin.tys l).map dH)).o 70000=.arr zv zv zj 1 (aN (.int .i64) l):=by exact W3 (O.arr zv zv zj 1) (jO (.int .i64) l)
  have ho2:(Fw.mk wu.aW.er ((Tup.m_ wu.aW.tys (l.mergeSort λx y=>decide (x<=y))).map dH)).o 70000=.arr zv zv zj 1 (aN (.int .i64) (l.mergeSort λx y=>decide (x<=y))):=by exact W3 (O.arr zv zv zj 1) (jO (.int .i64) (l.mergeSort λx y=>decide (x<=y)))
  have r0:h.getD 0 undef=.slice (d 70000).ad l.length (d 70000).cap:=by
   have h0:=(N.slots 0).dS;cases h0 with
   |own _ _ hv hx=>exact(hx _ _ (O.kY ho)).trans (W3 (λn=>Value.slice (d 70000).ad n (d 70000).cap) (fE (.int .i64) l))
  have apA:h.toArray=#[.slice (d 70000).ad l.length (d 70000).cap]:=by
   have hl3:h.length=1:=X
   match h,hl3 with
   | [a],_=>simp at r0;simp[r0]
  rw[apA];have atE :∀b,(d 70000).sub b=zz:=N.ns 70000 rfl rfl;have hA:RP w l (d 70000):=by have h0:=N.bG 70000;have B:ni E _ d w (.arr zv zv zj 1 (aN (.int .i64) l)) (d 70000):=ho▸h0;exact aiM B
  have G_:((Fw.mk wu.pin.er ((Tup.m_ wu.pin.tys l).map dH)).o 70000).like ((Fw.mk wu.aW.er ((Tup.m_ wu.aW.tys (l.mergeSort λx y=>decide (x<=y))).map dH)).o 70000):=by rw[ho,ho2];refine⟨rfl,?_⟩;exact(fE (.int .i64) l).trans ((List.length_mergeSort l).symm.trans (fE (.int .i64) (l.mergeSort λx y=>decide (x<=y))).symm)
  have Xj :∀(bQ:Nat->Gh),bQ 70000=d 70000->∀g∈ZN.er.sig.bH,((bQ g).ad=(d g).ad/\(bQ g).cap=(d g).cap)/\((Fw.mk wu.pin.er ((Tup.m_ wu.pin.tys l).map dH)).o g).like ((Fw.mk wu.aW.er ((Tup.m_ wu.aW.tys (l.mergeSort λx y=>decide (x<=y))).map dH)).o g):=λbQ e g hg=>by have:g=70000:=X2.1 hg;subst this;exact⟨⟨by rw[e],by rw[e]⟩,G_⟩
  rcases hA with⟨B,h2,Y⟩|⟨b,o,c,e,B,Y,h4,h5,h7⟩
  .subst Y;refine(hE (d 70000).ad (d 70000).cap w).mono λe z ⟨he,U⟩=>?_;subst U;refine⟨[],d,rfl,by rw[he];rfl,?_,Xj d rfl⟩;have:([]:List Int).mergeSort (λx y=>decide (x<=y))=[]:=by simp
   rw[this];exact afp N hB [] (d 70000) (.inl ⟨B,h2,rfl⟩) (Z1 _) (λ_ _ _=>rfl) (λad j=>by rw[B]at j;cases j) ⟨rfl,rfl,rfl⟩ _ rfl
  .rw [B];have H:=N.wr 70000 b rfl (Gh.kL B);have L :∀k,k<l.length->w.cell? ⟨b,o+k,zz⟩=zw (.int .i64 (l.getD k 0)):=λk hk=>by have:=h7 k l[k] (Q1 hk);simp[World.cell?,Y,this,hk]
   have hH:Go.Sort.Holds (Value.int .i64) w b o l.toArray:=by
    have:=Lib.holds_of_ints (n:=l.length) (Z1 _) L (λk hk=>by simp[World.frozen?,Y])
    rwa [K7]at this
   refine(hD b o (d 70000).cap l w hH H.2 hc).mono λe' z ⟨he,q,os,U⟩=>?_;rw[Lib.putRow_eq_setCells (Value.int .i64) w b o l.toArray _ q hH (by simp)]at U;generalize hm:(l.mergeSort λx y=>decide (x<=y))=m at *;have hlen2:m.length=l.length:=by rw[<-hm];exact List.length_mergeSort l
   obtain⟨c',k1,k2,k3,k4,k5⟩:=Bj b e (m.map (Value.int .i64)) o (w.drewN q) c Y (by rw[We];omega);have hos:=Iy b (m.map (Value.int .i64)) o (w.drewN q);generalize (w.drewN q).setCells b o (m.map (Value.int .i64))=w1 at *;have Z :∀J,J<w.heap.size->z.heap[J]?=w1.heap[J]?:=λJ M=>by subst U;show (w1.heap++os)[J]?=_;exact Kc (by rw[k5];exact M)
   have hsz:w.heap.size<=z.heap.size:=by subst U;show _<=(w1.heap++os).size;rw[vB,k5];exact Nat.le_add_right _ _
   have atF:z.os=w.os/\z.tape=w.tape/\z.output=w.output:=by subst U;exact hos
   have K:=H.2;refine⟨[],d,rfl,by rw[he];rfl,?_,Xj d rfl⟩;refine afp N hB _ (d 70000) (.inr ⟨b,o,c',e,B,by rw[Z b K];exact k1,by rw[k2];exact h4,⟨by omega,h5.2⟩,λn x hx=>?_⟩)
    hsz (λJ M hnw=>(Z J M).trans (k4 J λeb=>?_)) (λad j=>?_) atF _ rfl
   .have hn:=(Q3.1 hx).1;rw[k3,QR (by simp;omega)];simp[hx]
   .subst eb;rcases H.1 with hq|hq
    .rw [hB]at hq;omega
    .exact hnw hq
   .rw [B]at j;cases j;refine⟨?_,VV K hsz⟩;have:=H.1;rw[hB]at this;exact this
 .cases T
end
end Go.Fg

namespace Go.Fw
open Go.RowKit
variable [fH]
def Gv(w:World):Prop :=∀g b rows,fH.gt g=zw (b,rows)->g<w.heap.size/\∀(n:Nat) x,rows[n]?=zw x->x.length=b/\∀(j:Nat) y,x[j]?=zw y->∃u,w.cell? ⟨g,n*b+j,zz⟩=zw u/\dB w (λ_=>False) y u
def E0(w:World)(hw:Gv w):Env:={ FA:=λ_=>True,FI:=λ_=>False,B0:=w.heap.size,w0:=w,Wr:=λ_=>False,hg:=λg b rows hg=>⟨(hw g b rows hg).1,λh=>h,(hw g b rows hg).2⟩ }
def G0:Nat->Gh:=λ_=>Gh.nil
theorem acF{Pg:Program}{f:FuncId}{sp:Spec}(hs:Sound Pg f sp)(H:sp.sig.pin.bG=[])(J:sp.sig.cO=1)(T:sp.sig.aW=⟨[(0,.one (.p zv zv))],[]⟩){vals:List Value}(q:vals.length=sp.sig.bC){w:World}(B:Gv w){ins:List P}
  (U:sp.R ins [.bool zj]) (X :∀t,dR (E0 w B) (Fw.mk sp.sig.pin ins) G0 w ((Fw.mk sp.sig.pin ins).s t) (vals.getD t undef)) :
  Calls Pg f vals.toArray w λe K=>e=.returned (.bool zj)/\Below w.heap.size w K:=by
 obtain⟨L,_,Y⟩:=hs;have c :∀g,(Fw.mk sp.sig.pin ins).o g=.none:=λg=>OD (by simp[Shape.nms,H]);have d:=L;simp only[A_.ok,X1]at d;have j:=akA d.1.1.1.1.1.1.1.1 ins;have y:Rel (E0 w B) (Fw.mk sp.sig.pin ins) G0 (λk=>vals.getD k undef) w:=⟨X,λg=>by rw[c];trivial,λg g' a (h:((Fw.mk sp.sig.pin ins).o g).bW=zj)=>(by rw[c]at h;cases h),λg a (h:((Fw.mk sp.sig.pin ins).o g).bW=zj)=>(by rw[c]at h;cases h),λg i b (h:((Fw.mk sp.sig.pin ins).o g).inner=zw i)=>(by rw[c]at h;cases h),λg (h:((Fw.mk sp.sig.pin ins).o g).bW=zj)=>(by rw[c]at h;cases h),λb M=>M.elim,λb _ _=>rfl,Z1 _,rfl,rfl,rfl,j.1,j.2.1,j.2.2⟩
 refine Calls.mono (Y (E0 w B) w vals G0 ins [.bool zj] U rfl rfl y q) λe K Z=>?_;obtain⟨rs,bQ,z,rfl,m,_⟩:=Z;rw[J]at z
 match rs,z with
 | [v],_=>
 refine⟨?_,⟨m.os,m.tape,m.output,m.size,λb M=>m.frame b M (λh=>h)⟩⟩;have N:=m.slots 0;rw[T]at N;have h1:dR (E0 w B) (Fw.mk ⟨[(0,.one (.p zv zv))],[]⟩ [.bool zj]) bQ K (.v (.one (.p zv zv (.bool zj)))) v:=N;rw[show v=.bool zj from h1.gu.oI];rfl
theorem aiO{w:World}{k:IntKind}{a:Option Addr}{len cap:Nat}{d:List Int}{ok:Nat->Prop}(B :∀b,b<w.heap.size->ok b)
  (h:(a=zz/\len=0/\cap=0/\d=[])\/∃x,a=zw x/\len<=cap/\d.length=cap/\∀i,i<d.length->w.cell? (x.add i)=zw (.int k (d.getD i 0))) :
  dB w ok (.sl 1 ((d.take len).map λz=>[.int k z])) (.slice a len cap):=by
 rcases h with⟨rfl,rfl,rfl,rfl⟩|⟨x,rfl,Y,Z,M⟩
 .exact .nil _ _ _
 .by_cases N:len=0
  .subst N;exact .nil _ _ _
  .have c:=M 0 (by omega);have H:x.spot=zz:=by
    unfold World.cell? Addr.add at c;cases T:x.spot with
    |none=>rfl
    |some s=>
     exfalso;split at c
     .simp [T]at c
     .cases c
   have U:x.block<w.heap.size:=by
    unfold World.cell? at c;have e:(x.add 0).block=x.block:=by simp[Addr.add]
    rw[e]at c;by_cases J:x.block<w.heap.size
    .exact J
    .rw [Array.getElem?_eq_none (by omega)]at c;cases c
   have m:((d.take len).map λz=>[P.int k z]).length=len:=by simp;omega
   have:=dB.sl (w:=w) (ok:=ok) 1 ((d.take len).map λz=>[P.int k z]) x cap (λi _=>.int k (d.getD i 0)) H (λ_=>B _ U) (by omega) (λr g=>by obtain⟨z,_,rfl⟩:=XS.1 g;rfl) (λi r g j y q=>?_) (λi r g j y q=>?_)
   .rw [m]at this;exact this
   all_goals
    have X:i<len:=by have:=(Q3.1 g).1;omega
    rw[Z2,W0,QR X]at g;obtain⟨z,K,rfl⟩:=Wg.1 g;have L:j=0:=by
     cases j with
     |zero=>rfl
     |succ j=>simp at q
    subst L;simp only[K3,Q0]at q;subst q
   .have:=M i (by omega);rw[<-this];have e:x.add i=⟨x.block,x.off+i,zz⟩:=by obtain⟨b,o,sp⟩:=x;simp only at H;subst H;exact Addr.jd b o i
    rw[e];simp
   .rw [Q2,K];exact .int k z
end Go.Fw
namespace Go.Fg
open Go.Fw Go.RowKit
section
variable [RE]
theorem aiP{w:World}{k:IntKind}{a:Option Addr}{len cap:Nat}{d:List Int}{ok:Nat->Prop}(g :∀b,b<w.heap.size->ok b)
  (h:(a=zz/\len=0/\cap=0/\d=[])\/∃x,a=zw x/\len<=cap/\d.length=cap/\∀i,i<d.length->w.cell? (x.add i)=zw (.int k (d.getD i 0))) :
  dB w ok (dH ⟨.sl (.int k),d.take len⟩) (.slice a len cap):=by
 have j:=aiO g h;have e:aN (.int k) (d.take len)=(d.take len).map λz=>[P.int k z]:=rfl;rw[Jk,e];have c:len=(d.take len).length:=by
  rcases h with⟨_,rfl,_,rfl⟩|⟨x,_,q,y,_⟩
  .rfl
  .simp;omega
 cases m:d.take len with
 |nil=>rw[m]at c;have c:len=0:=c;subst c;exact .nil _ _ _
 |cons z l=>rw[m]at j;exact j
end
end Go.Fg

namespace Go.Fg
open Go.Fw
def Ok{α:Type}(x:Option α)(Q:α->Prop):Prop :=∃y,x=zw y/\Q y
def MW{α β:Type}(P:α->Prop)(Q:β->Prop):α ⊕ β->Prop
 |.inl a=>P a
 |.inr b=>Q b
theorem Ap{α:Type}{y:α}{Q:α->Prop}:Ok (zw y) Q↔Q y:=⟨λ⟨_,h,b⟩=>by cases h;exact b,λh=>⟨_,rfl,h⟩⟩
theorem Jt{α β:Type}{x:Option α}{f:α->Option β}{Q:β->Prop}:Ok (Option.bind x f) Q↔Ok x λy=>Ok (f y) Q:=by
 cases x with
 |none=>exact⟨λ⟨_,h,_⟩=>(by cases h),λ⟨_,h,_⟩=>(by cases h)⟩
 |some z=>rw[Ap];rfl
theorem afq{α:Type}{b:Bool}{x:Option α}{Q:α->Prop}:Ok (ck b x) Q↔b=zj/\Ok x Q:=by
 cases b with
 |false=>exact⟨λ⟨_,h,_⟩=>(by cases h),λ⟨h,_⟩=>(by cases h)⟩
 |true=>exact⟨λh=>⟨rfl,h⟩,λh=>h.2⟩
theorem X7{α:Type}{b:Bool}{x y:Option α}{Q:α->Prop}:Ok (bif b then x else y) Q↔(b=zj->Ok x Q)/\(b=zv->Ok y Q):=by
 cases b with
 |false=>exact⟨λh=>⟨λe=>(by cases e),λ_=>h⟩,λh=>h.2 rfl⟩
 |true=>exact⟨λh=>⟨λ_=>h,λe=>(by cases e)⟩,λh=>h.1 rfl⟩
theorem afr{α β:Type}{x:Option (α ⊕ β)}{f:α->Option β}{Q:β->Prop}:Ok (dN x f) Q↔Ok x (MW (λa=>Ok (f a) Q) Q):=by
 unfold dN;refine Jt.trans ⟨λ⟨y,c,h⟩=>⟨y,c,?_⟩,λ⟨y,c,h⟩=>⟨y,c,?_⟩⟩
 .cases y with
  |inl a=>exact h
  |inr b=>exact(Ap (Q:=Q)).1 h
 .cases y with
  |inl a=>exact h
  |inr b=>exact(Ap (Q:=Q)).2 h
theorem kJ{α:Type}{x:Option α}{Q b:α->Prop}(h:Ok x Q)(c :∀y,Q y->b y):Ok x b:=let ⟨y,d,g⟩:=h;⟨y,d,c y g⟩
theorem afs{α:Type}{x:Option α}{y:α}{Q:α->Prop}(h:x=zw y)(b:Q y):Ok x Q:=⟨y,h,b⟩
theorem ok_eq{α:Type}{x:Option α}{y:α}(h:Ok x λz=>z=y):x=zw y:=let ⟨_,b,e⟩:=h;e▸b
section
variable [RE]
theorem bD{A R:Type}{body:A->Option (A ⊕ R)}{Q:R->Prop}(I:A->Prop)(μ:A->Nat){a:A}(c:I a)
  (h :∀a,I a->Ok (body a) (MW (λb=>I b/\μ b<μ a) Q)):Ok (bn body a) Q:=by
 have key :∀n a,I a->μ a<n->Ok (bn body a) Q:=by
  intro n
  induction n with
  |zero=>intro a _ hn;omega
  |succ n g=>
   intro a c hn;obtain⟨y,j,d⟩:=h a c;rw[CO,j];cases y with
   |inl b=>obtain⟨m,q⟩:I b/\μ b<μ a:=d;exact g b m (by omega)
   |inr r=>exact⟨r,rfl,d⟩
 exact key _ a c (Nat.lt_succ_self _)
end
theorem aG{x:Int}(h:-9223372036854775808<=x/\x<=9223372036854775807):bT x=x:=@wrap64 ⟨λ_=>zz,λ_ _ _ _=>False,λ_ h=>h⟩ x h.1 h.2
theorem aC{n:Int}{len:Nat}:inB n len=zj↔0<=n/\n<len:=by simp[inB]
theorem MX{lo hi:Int}{len:Nat}:I8 lo hi len=zj↔(0<=lo/\lo<=hi)/\hi<=(len:Int):=by simp[I8]
theorem qH{b:Nat}{n c:Int}:BR b n c=zj↔((0<=n/\n<=c)/\b*c<=281474976710656)/\c<=9223372036854775807:=by simp[BR]
theorem ZO{p:Prop}[Decidable p]:(decide p=zj)=p:=by simp
theorem Vx{p:Prop}[Decidable p]:(decide p=zv)=¬p:=by simp
theorem not_iff{b:Bool}:((!b)=zj)=(b=zv):=by cases b<;>simp
theorem aiQ(a b:Int):abZ a b=min a b:=by unfold abZ;split<;>omega
theorem Ju(a b:Int):FP a b=max a b:=by unfold FP;split<;>omega
theorem tmod_lt{a b:Int}(c:0<=a)(d:0<b):0<=Int.tmod a b/\Int.tmod a b<b:=⟨Int.tmod_nonneg b c,Int.tmod_lt_of_pos a d⟩
theorem getD_at{α:Type}{l:List α}{n:Nat}(d:α)(h:n<l.length):l.getD n d=l[n]:=by rw[Q2,Q1 h];rfl
end Go.Fg

namespace Go.Fg
open Go.Fw
theorem take_snoc{α:Type}{l:List α}{i:Nat}(h:i<l.length):l.take (i+1)=l.take i++[l[i]]:=by rw[List.take_add_one,Q1 h];rfl
theorem bF{α β:Type}{x:Option α}{f:α->Option β}{Q:β->Prop}(b:α->Prop)(h:Ok x b)(k :∀y,b y->Ok (f y) Q):Ok (Option.bind x f) Q:=Jt.2 (kJ h k)
theorem eP{α β:Type}{x:Option α}{f:α->Option β}{Q:β->Prop}{y:α}(h:x=zw y)(k:Ok (f y) Q):Ok (Option.bind x f) Q:=by rw[h];exact k
theorem dA{α:Type}{b:Bool}{x y:Option α}{Q:α->Prop}(c:b=zj->Ok x Q)(d:b=zv->Ok y Q):Ok (bif b then x else y) Q:=X7.2 ⟨c,d⟩
theorem b_{α:Type}{b:Bool}{x y:Option α}{Q:α->Prop}(c:b=zv)(d:Ok y Q):Ok (bif b then x else y) Q:=by rw[c];exact d
theorem goT{α:Type}{b:Bool}{x y:Option α}{Q:α->Prop}(c:b=zj)(d:Ok x Q):Ok (bif b then x else y) Q:=by rw[c];exact d
theorem bK{α:Type}{b:Bool}{x:Option α}{Q:α->Prop}(c:b=zj)(d:Ok x Q):Ok (ck b x) Q:=afq.2 ⟨c,d⟩
theorem iI{α β:Type}{x:Option (α ⊕ β)}{f:α->Option β}{Q:β->Prop}(c:α->Prop)(h:Ok x (MW c Q))(k :∀y,c y->Ok (f y) Q):Ok (dN x f) Q:=
 afr.2 (kJ h λy d=>by cases y with
  |inl a=>exact k a d
  |inr b=>exact d)
theorem aI{α:Type}{y:α}{Q:α->Prop}(h:Q y):Ok (zw y) Q:=Ap.2 h
section
variable [RE]
theorem X8{A R S E:Type}{body:A->Option (A ⊕ R)}{Q:R->Prop}(l:List E)(st:Int->S->A)(g:S->E->S)(I:Nat->S->Prop){s0:S}{a0:A}(q:a0=st 0 s0)(w:I 0 s0)
  (hs :∀i (h:i<l.length) s,I i s->s=(l.take i).foldl g s0->Ok (body (st i s)) (MW (λa=>a=st ((i:Int)+1) (g s l[i])/\I (i+1) (g s l[i])) Q))
  (z :∀s,I l.length s->s=l.foldl g s0->Ok (body (st l.length s)) (MW (λ_=>False) Q)):Ok (bn body a0) Q:=by
 have key :∀k i s,i<=l.length->l.length-i=k->I i s->s=(l.take i).foldl g s0->Ok (bn body (st i s)) Q:=by
  intro k
  induction k with
  |zero=>
   intro i s B H j b;have e:i=l.length:=by omega
   subst e;rw[K7]at b;obtain⟨y,m,c⟩:=z s j b;rw[CO,m];cases y with
   |inl a=>exact c.elim
   |inr r=>exact⟨r,rfl,c⟩
  |succ k J=>
   intro i s B H j b;have d:i<l.length:=by omega
   obtain⟨y,m,c⟩:=hs i d s j b;rw[CO,m];cases y with
   |inl a=>obtain⟨rfl,K⟩:a=st ((i:Int)+1) (g s l[i])/\I (i+1) (g s l[i]):=c;have:=J (i+1) (g s l[i]) (by omega) (by omega) K (by rw[take_snoc d,List.foldl_append,<-b];rfl);exact this
   |inr r=>exact⟨r,rfl,c⟩
 rw[q];exact key l.length 0 s0 (by omega) (by omega) w (by simp)
end
end Go.Fg

namespace Go.Fg
open Go.Fw Go.RowKit
section
variable {H:Type} {enc:TypeId×Value->H} {P:Program} {w:World} {base:Nat} {spare:Nat->Bool} {held:Bool}
end
theorem apB[fH]{pin:Shape}(h:pin.bG=[])(ins:List P)(w:World)(c:Gv w):∀b,b<w.heap.size->(E0 w c).ok (Fw.mk pin ins) G0 w zj zv b:=by intro b d;refine⟨.inl ⟨rfl,trivial⟩,d,λg ad hg=>?_⟩;rw[OD (by simp[Shape.nms,h])]at ad;cases ad
section
variable [RE]
end
end Go.Fg

namespace Go.Fg
open Go.Fw Go.RowKit
theorem MZ[fH]{P:Program}{w:World}{name:String}{g n:Nat}{t e:TypeId}{bs:List (List UInt8)}(hg:P.globalNamed name=zw g)(U:(P.globals[g]?).map (·.type)=zw t)
  (hu:P.underlying t=zw (.array n e)) (hs:P.underlying e=zw .string) (X:P.cellsOf e=1) (hn:bs.length=n)
  (Y :∀g' sz rows,fH.gt g'=zw (sz,rows)->g'=g/\sz=1/\rows=bs.map λb=>[Fw.P.str ⟨b.toArray⟩])
  (h:laidMet P [(name,.agg (bs.map λb=>.lit (.string b)))] w):Gv w:=by
 obtain⟨ps,⟨g1,t1,Z,fuel,p,q,c,J,H,hd,_,_⟩,_,_⟩:=h;obtain rfl:=Wz (hg.symm.trans c);obtain rfl:=Wz (U.symm.trans J);intro g' sz rows z;obtain⟨rfl,rfl,rfl⟩:=Y g' sz rows z;refine⟨?_,λi x B=>?_⟩
 .simp only[World.var?,c,Option.bind_some]at H;have:w.heap[g']?≠zz:=by intro d;rw[d]at H;simp at H
  rw[ne_eq,Array.getElem?_eq_none_iff]at this;omega
 .obtain ⟨xs,m,_,ex,_,hl,K⟩:=DataW.trod_array hu hd;have M:i<bs.length:=by
   rw[Z2]at B;rcases zc i bs.length with h|h
   .exact h
   .rw [Vn h]at B;cases B
  rw[Z2,Q1 M]at B;obtain rfl:=Wz B;refine⟨rfl,λj y N=>?_⟩;have hj:j=0:=by
   cases j with
   |zero=>rfl
   |succ j=>cases N
  subst hj;obtain rfl:=Wz N;have T:=K i (by omega);rw[X,Nat.mul_one,Q1 (by omega)]at T;obtain⟨s,e1,e2,_⟩:=DataW.trod_string hs T;have e3:(xs.map (·.1))=bs.map λb=>(DataW.lit (.string b):DataW Unit):=(DataW.agg.inj (Prod.mk.inj ex).1).symm;have L:(xs.map (·.1))[i]?=(bs.map λb=>(DataW.lit (.string b):DataW Unit))[i]?:=by rw[e3]
  rw[Z2,Z2,Q1 (by omega:i<xs.length),Q1 M,e2]at L;have e5:s.data.toList=bs[i]:=by simp only[W7,Q0,DataW.lit.injEq,Lit.string.injEq]at L;exact L
  have e6:(⟨bs[i].toArray⟩:ByteArray)=s:=by rw[<-e5]
  refine⟨.string s,?_,by rw[e6];exact .str s⟩;rw[Nat.mul_one,Jn,World.var?_cell c H i];have h0:((Z.toList.drop i).take 1)[0]?=zw (.string s):=by rw[e1];rfl
  simpa using h0
end Go.Fg

