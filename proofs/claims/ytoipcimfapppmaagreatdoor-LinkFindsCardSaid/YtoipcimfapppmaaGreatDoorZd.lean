/-
  The framework (a machine on plain data that answers as the program does), part 4.
-/
import Derived.Shelf.Slices.Cells
import Derived.Shelf.Slices.Empties
import Derived.Shelf.Slices.Delete
import Derived.Shelf.Spec.SlicesInsertGrow
import Derived.Shelf.Sort.Plain
import Derived.Shelf.Slices.In.SortNone
import Derived.Lib.RowBridge
import Derived.Below
import Derived.OpenShut
import Derived.FnData
import Derived.LaidMore
import Derived.Test.YtoipcimfapppmaaGreatDoorZc
set_option linter.unusedSimpArgs false
set_option linter.unusedVariables false
set_option linter.unusedSectionVars false
open Option renaming some->zw,none->zz
open Bool renaming true->zj,false->zv
variable{b:Bool}{f:Go.FuncId}{x:Int}{d:List Int}{l:List Nat}{n:Nat}{o:Go.Oper}{h:Go.Program}{A R:Type}{w:Go.World}
namespace Go.Fg
open Go.Fw
section
variable [fO]
theorem zS{T:Tab}{tt:TT}{N:Nat}{ops:Array Oper}{K c:St->Prop}(d :∀st,K st->c st):∀{b:List Nat} {st:St},xG T tt N ops b st K->xG T tt N ops b st c
 | [],st,h=>d st h
 |i::b,st,h=>by
  simp only[xG]at h ⊢;split at h
  .exact MI (λe g=>zS d g) h
  .exact h
theorem xX{T:Tab}{tt:TT}{N:Nat}{ops:Array Oper}{K c:St->List uS->Prop}(d :∀st fs,K st fs->c st fs):∀{b:List Nat} {st:St} {fs:List uS},qo T tt N ops b st fs K->qo T tt N ops b st fs c
 | [],st,fs,h=>d st fs h
 |i::b,st,fs,h=>by
  simp only[qo]at h ⊢;split at h
  .exact Gs (λe g=>xX d g) h
  .exact h
end
section
variable [RE]
def RD.ok(c:RD)(b:Bool):Prop:=match c with
 |.yes=>b=zj
 |.no=>b=zv
 |.may e=>e=zv->b=zv
def VH(a:Option RD)(b:Option (Bool->Prop)):Prop:=(a=zz->b=zz)/\∀c,a=zw c->∃p,b=zw p/\∀b,p b->c.ok b
theorem VH.none:VH zz zz:=⟨λ_=>rfl,λ_ h=>(nomatch h)⟩
theorem VH.some{c:RD}{p:Bool->Prop}(h :∀b,p b->c.ok b):VH (zw c) (zw p):=⟨λh=>(nomatch h),λd e=>⟨p,rfl,by cases e;exact h⟩⟩
variable{o:Nat->TO}{x:TS}
theorem acI:VH (LW o x) (O4 (dw o) (bJ x)):=by
 cases x with
 |v x=>
  cases x with
  |one x=>
   cases x with
   |p a i w=>
    obtain⟨t,x⟩:=w;cases t with
    |sl e=>
     change List (Dt e)at x;cases x with
     |nil=>exact .some λb c h=>by simp at h
     |cons y j=>exact .some λb c h=>c (by intro h;cases h)
    |_=>exact .none
   |own g=>
    cases hg:o g with
    |arr q a i e l=>
     have hd:(dw o g).dim=zw (size e,l.length):=qH (by simp only[Oq,hg]);simp only[LW,hg,bJ,kG,dn,O4,hd];refine .some λb c h=>c λd=>?_;cases l with
     |nil=>simp at h
     |cons y j=>cases d
    |aO a i e z l m=>
     have hd:(dw o g).dim=zw (size e,l.length):=qH (by simp only[Oq,hg]);simp only[LW,hg,bJ,kG,dn,O4,hd];refine .some λb c h=>c λd=>?_;cases l with
     |nil=>simp at h
     |cons y j=>cases d
    |_=>simp only[LW,hg,bJ,kG,dn,O4,dw,eH,O.dim];exact .none
   |dD=>exact .some λb c=>c
   |_=>exact .none
  |agg xs=>exact .none
 |_=>exact .none
theorem acJ:VH (LX o x) (Ik (dw o) (bJ x)):=by
 cases x with
 |v x=>
  cases x with
  |one x=>
   cases x with
   |p a i w=>
    obtain⟨t,x⟩:=w;cases t with
    |opq=>
     change Value at x;unfold LX;split
     .rename_i h;cases h
     .rename_i h;cases h;exact .some λb c=>c
     .rename_i j d;have:Ik (dw o) (bJ (.v (.one (.p a i ⟨.opq,x⟩))))=Option.none:=by
       show Ik (dw o) (.v (.one (.p a i (.opq x))))=Option.none;unfold Ik;split
       .rename_i h;cases h
       .rename_i h;cases h;exact(d _ _ rfl).elim
       .rfl
      rw[this];exact .none
    |sl e=>change List (Dt e)at x;cases x<;>exact .none
    |_=>exact .none
   |box g off=>
    cases hg:o g with
    |box m=>simp only[LX,hg,bJ,kG,dn,Ik,pW hg];exact .some λb c=>c
    |_=>simp only[LX,hg,bJ,kG,dn,Ik,dw,eH];exact .none
   |_=>exact .none
  |agg xs=>exact .none
 |_=>exact .none
theorem acK{k:Fw.TK}{c:Value}:VH (RF o x k c) (zn (dw o) (bJ x) k c):=by
 unfold RF;split;exact acI;exact acJ;rename_i b d;have:zn (dw o) (bJ x) k c=Option.none:=by
  unfold zn;split
  .exact (b _ rfl rfl).elim
  .exact (d rfl rfl).elim
  .rfl
 rw[this];exact .none
def afB(a:Option (Bool×RD))(b:Option (Bool×(Bool->Prop))):Prop:=(a=zz->b=zz)/\∀pos c,a=zw (pos,c)->∃p,b=zw (pos,p)/\∀b,p b->c.ok b
theorem afB.none:afB zz zz:=⟨λ_=>rfl,λ_ _ h=>(nomatch h)⟩
theorem ai2{tt:TT}{st:jL}{o:Oper}:afB (anh tt st o) (QZ tt (bD st) o):=by
 unfold anh QZ;cases d:o.guard with
 |some g=>exact .none
 |none=>
  simp only;cases j:o.op with
  |binOp op t x y u=>
   cases y with
   |const c=>
    simp only;cases z:tt t with
    |none=>exact .none
    |some i=>
     simp only;have b:=acK (o:=st.go) (x:=st.dK x) (k:=i.k) (c:=c);rw[<-mJ]at b;change VH _ (zn (bD st).o ((bD st).dK x) i.k c)at b;generalize RF st.go (st.dK x) i.k c=A at b ⊢;generalize zn (bD st).o ((bD st).dK x) i.k c=B at b ⊢;cases A with
     |none=>have:=b.1 rfl;subst this;cases op<;>exact .none
     |some m=>
      obtain⟨p,rfl,q⟩:=b.2 m rfl;cases op<;>first
       |exact .none
       |(
         refine⟨λh=>(nomatch h),λpos w h=>?_⟩;cases h;exact⟨p,rfl,q⟩)
   |_=>exact .none
  |_=>exact .none
theorem run_any{x y:Prog R}{r:R}(h:(Prog.any x y).run=zw r):x.run=zw r/\y.run=zw r:=acD h
theorem auG(pos b:Bool):({ x:=scalar (.bool (bif pos then b else !b)),aJ:=[],new:=[] }:Eff)=(sF (bif pos then b else !b)).er:=rfl
theorem afC{st:jL}{o:Oper}:Q5 (bD st) o=(aff st o).map λx=>(x.1,P.str ⟨x.2.1.toArray⟩,P.int .i64 x.2.2):=by
 unfold Q5 aff;cases o.guard with
 |some g=>rfl
 |none=>
  simp only;cases o.op with
  |next x b=>
   cases b with
   |false=>rfl
   |true=>
    simp only[mJ];cases st.dK x with
    |v x=>
     cases x with
     |one x=>
      cases x with
      |oI g=>simp only[bJ,kG,dn];have e:(bD st).o g=eH (st.go g):=rfl;rw[e];cases st.go g<;>rfl
      |_=>rfl
     |agg xs=>rfl
    |_=>rfl
  |_=>rfl
theorem itE(g:Nat)(s:List UInt8)(n:Int):KZ g (.str ⟨s.toArray⟩) (.int .i64 n)=(RI g s n).er:=rfl
theorem acL{T:lQ}{tt:TT}{ety:TypeId->Option Ty}{ops:Array Oper}{o:Oper}{q:kJ}{K:kJ->jX->Prog R}{r:R}(h:(Yc T tt ety n ops o q K).run=zw r):
  Ed (nO T) tt n ops o (bD q.st) (ZP q K r):=by
 unfold Yc at h;have hn:=ai2 (tt:=tt) (st:=q.st) (o:=o);split at h
 .rename_i pos c m;obtain⟨p,y,d⟩:=hn.2 pos c m;unfold Ed;rw[y];simp only;split at h;exact(dI h).elim;rename_i hd;refine⟨CZ _ hd,λb w=>?_⟩;have d:=d b w;rw[auG];have done:(K q (sF (bif pos then b else !b))).run=zw r->ZP q K r (sF (bif pos then b else !b)).er:=λh=>⟨q,_,rfl,rfl,ug.refl q,h⟩;refine done ?_;cases c with
  |yes=>have d:b=zj:=d;subst d;cases pos<;>exact h
  |no=>have d:b=zv:=d;subst d;cases pos<;>exact h
  |may e=>
   have h:(bif e then(Prog.any (K q (sF zj)) (K q (sF zv))).run else(K q (sF (!pos))).run)=zw r:=h;cases e with
   |true=>
    obtain⟨z,B⟩:=run_any h;cases (bif pos then b else !b)with
    |true=>exact z
    |false=>exact B
   |false=>have d:b=zv:=d rfl;subst d;cases pos<;>exact h
 .rename_i m;unfold Ed;rw[hn.1 m,afC];simp only;split at h
  .rename_i g s N j;rw[j];simp only[W7];split at h;exact(dI h).elim;rename_i hd;have h:(bif RH s N then(K q (RI g s N)).run else(K q Yb).run)=zw r:=h;have w:UU (.str ⟨s.toArray⟩) (.int .i64 N)=RH s N:=by
    unfold UU RH;have:(P.str ⟨s.toArray⟩).bytes.size=s.length:=by show s.toArray.size=_;simp
    rw[this];rfl
   rw[w];refine⟨CZ _ hd,λe=>?_,λe=>?_⟩
   .rw [e]at h;exact⟨q,RI g s N,itE g s N,rfl,ug.refl q,h⟩
   .rw [e]at h;exact⟨q,Yb,rfl,rfl,ug.refl q,h⟩
  .rename_i j;rw[j];exact VG h
theorem ZQ{R:Type}{T:lQ}{tt:TT}{ety:TypeId->Option Ty}{N:Nat}{ops:Array Oper}{r:R}{K:kJ->Prog R}:∀{l:List Oper} {i:Nat} {q:kJ},l=ops.toList.drop i->(runT T tt ety N ops l q K).run=zw r->
  xG (nO T) tt N ops (List.range' i l.length) (bD q.st) λst'=>∃b:kJ,st'=bD b.st/\ug q b/\(K b).run=zw r
 | [],i,q,c,h=>⟨q,rfl,ug.refl q,h⟩
 |o::os,i,q,c,h=>by
  have j:ops[i]?=zw o:=by have:=W2 (·[0]?) c;simpa using this.symm
  have m:os=ops.toList.drop (i+1):=by have:=W2 List.tail c;simpa using this
  simp only[Wm,qv,xG,j];refine MI ?_ (acL h);rintro e ⟨b,w,rfl,y,z,h⟩;simp only[uX]at h;have B:=ZQ m h;rw[<-y,<-PY];refine zS ?_ B;rintro st' ⟨d,rfl,g,h⟩;exact⟨d,rfl,(z.trans (ug.eff b o.dst w)).trans g,h⟩
end
end Go.Fg

namespace Go.Fg
open Go.Fw
section
variable [RE]
theorem afD{x:TS}{fn:FuncId}{caps:List W}(h:bJ x=.v (.one (.clo fn caps))):∃cs,x=.v (.one (.clo fn cs))/\caps=cs.map dn:=by
 cases x with
 |v x=>
  cases x with
  |one x=>
   cases x with
   |clo f cs=>simp only[bJ,kG,dn,S.v.injEq,V.one.injEq,W.clo.injEq,Aw]at h;obtain⟨rfl,rfl⟩:=h;exact⟨cs,rfl,rfl⟩
   |_=>simp[bJ,kG,dn]at h
  |agg xs=>simp[bJ,kG]at h
 |_=>simp[bJ]at h
theorem P7{o:Nat->O}{args:List TS}:∀{l:List (Nat×lu)},Zx args l=zj->fQ o (args.map bJ) (l.map λp=>(p.1,p.2.er))=zz
 | [],h=>by cases h
 |(t,k)::rest,h=>by
  unfold Zx at h;simp only[Qf,fQ];split at h
  .rename_i hn;have e:(args.map bJ).getD t .no=.no:=by
    simp only[Q1,Z0]at hn ⊢;cases b:args[t]? with
    |none=>simp
    |some z=>rw[b]at hn;simp at hn;subst hn;rfl
   rw[e];cases k.er<;>simp[pJ]
  .rename_i g hn;have e :∃c,(args.map bJ).getD t .no=.jy c:=by
    simp only[Q1,Z0]at hn ⊢;cases b:args[t]? with
    |none=>rw[b]at hn;simp at hn
    |some z=>rw[b]at hn;simp at hn;subst hn;exact⟨_,rfl⟩
   obtain⟨c,e⟩:=e;rw[e];cases k.er<;>simp[pJ]
  .rw [P7 h];split
   .rename_i j d;cases d
   .rfl
variable{T:lQ}
theorem acM{st:jL}(h:Yd T st o=zw l):UO (nO T) (bD st) o=l:=by
 unfold Yd at h;unfold UO;split at h
 .rename_i f args ts d;rw[d];simp only;rw[mJ];split at h
  .rename_i fn b q;rw[ZN q];simp only;split at h
   .rename_i sp w;have g:pick (nO T) fn (args.toList.map (bD st).dK)=zw sp.er:=by rw[MJ,w];rfl
    rw[g];simp only;split at h
    .rename_i c y;cases h;obtain⟨m,H⟩:=MF y;have m:jo sp.er.sig (bD st).o ((args.toList.map (bD st).dK)++(b.map dn).map λx=>S.v (.one x))=zw c.er:=by rw[MK];exact m
     rw[m];rfl
    .obtain ⟨z,h⟩:=cZ h;cases h;have m:jo sp.er.sig (bD st).o ((args.toList.map (bD st).dK)++(b.map dn).map λx=>S.v (.one x))=zz:=by rw[MK];unfold jo;have e:fQ (bD st).o (List.map bJ (List.map st.dK args.toList++List.map (λx=>TS.v (TV.one x)) b)) sp.er.sig.pin.slots=zz:=P7 z;rw[e]
     rw[m]
   .rename_i w;cases h;have g:pick (nO T) fn (args.toList.map (bD st).dK)=zz:=by rw[MJ,w];rfl
    rw[g]
  .rename_i j;cases h;split
   .rename_i fn b q;obtain⟨J,B,_⟩:=afD q;exact(j _ _ B).elim
   .rfl
 .rename_i j;cases h;split
  .rename_i f args ts d;exact(j _ _ _ d).elim
  .rfl
theorem acN{st:jL}(h:Ye T st o=zw l):Ec (nO T) (bD st) o=l:=by
 unfold Ye at h;split at h
 rotate_left
 cases h;rename_i r c;cases h;unfold Ec;rw[acM c];congr 1;congr 1;refine gU λx _=>?_;rw[mJ,<-xW];refine gU λg _=>?_;have:((bD st).o g).hn=jC (st.go g):=by
  show (eH (st.go g)).hn=_;cases st.go g with
  |aO a i e d l b=>cases b<;>rfl
  |_=>rfl
 rw[this]
theorem afE{st:jL}(h:afg T st o=zw l):uQ (nO T) (bD st) o=l:=by
 unfold afg at h;split at h
 rotate_left
 cases h;rename_i b c;split at h
 rotate_left
 cases h;rename_i j d;cases h;unfold uQ;rw[MP,<-AO c,acN d,MO];congr 1;refine gU λg _=>?_;have:((bD st).o g).hn=jC (st.go g):=Gt _;rw[this]
theorem MR(l:List (Nat×TO)):(jk l).map (·.1)=l.map (·.1):=by simp only[jk,UP];rfl
theorem acO(x y:TW):aeD (dn x) (dn y)=afh x y:=by cases x<;>cases y<;>rfl
theorem P8(g:Nat):∀(j:Nat) (xs b:List TW),Ee g j (xs.map dn) (b.map dn)=Gp g j xs b
 |_,[],[]=>rfl
 |_,[],y::b=>rfl
 |_,x::xs,[]=>rfl
 |j,x::xs,y::b=>by simp only[Qf,Ee,Gp,P8 g (j+1) xs b,acO];cases Gp g (j+1) xs b<;>rfl
theorem acP(g:Nat)(x:TO)(y:Option TO):UW g (eH x) (y.map eH)=Yf g x y:=by
 cases x with
 |box c=>
  cases y with
  |none=>rfl
  |some y=>
   cases y with
   |box b=>simp only[eH,W7,UW,Yf,P8];cases Gp g 0 c b<;>rfl
   |_=>rfl
 |_=>cases y<;>rfl
theorem zT(g:Nat):∀(l:List (Nat×TO)),(jk l).lookup g=(l.lookup g).map eH
 | []=>rfl
 |(k,x)::r=>by
  show (List.lookup g ((k,eH x)::jk r))=_;simp only[List.lookup];cases b:g==k with
  |true=>rfl
  |false=>exact zT g r
theorem acQ(x:TO)(y:Option TO):keepR n (eH x) (y.map eH)=afi n x y:=by
 cases x<;>cases y<;>first|rfl|skip
 all_goals
  rename_i y;cases y<;>rfl
theorem anq{st:jL}{e:jX}:Q7 (bD st) o e.er=kpT st o e.aJ:=by
 unfold Q7 kpT;congr 1
 .have:(λx=>((bD st).dK x).names)=λx=>S.namesT (st.dK x):=by funext x;rw[mJ];exact(xW _).symm
  rw[this]
 .show ((jk e.aJ).map (·.1)).flatMap _=_;rw[MR];refine gU λg _=>?_;show UW g (eH (st.go g)) ((jk e.aJ).lookup g)++(bif K_ o.op then keepR g (eH (st.go g)) ((jk e.aJ).lookup g)else[])=_;rw[zT,acP,acQ]
theorem afF(x:TO):kindOf (eH x)=afj x:=by cases x<;>rfl
theorem wC{α β:Type}{f g:α->Option β}:∀{l:List α},(∀x∈l,f x=g x)->l.filterMap f=l.filterMap g
 | [],_=>rfl
 |x::l,h=>by have b:l.filterMap f=l.filterMap g:=wC λy c=>h y (V1 _ c);simp only[List.filterMap_cons,h x (by simp),b]
theorem anr{st:jL}{e:jX}:XG (bD st) e.er=kdT st e.aJ:=by
 unfold XG kdT;show ((jk e.aJ).map (·.1)).filterMap _=_;rw[MR];refine wC λg _=>?_;show (match (jk e.aJ).lookup g with
  |some x=>bif Nat.beq (kindOf x) (kindOf (eH (st.go g)))then zw g else zz
  |none=>zz)=_
 rw[zT];cases e.aJ.lookup g with
 |none=>rfl
 |some x=>simp only[W7,afF]
theorem ant{tt:TT}{st:jL}:Ol tt (bD st) o=ldT tt st o:=by
 unfold Ol ldT;cases o.op with
 |load t x=>
  simp only[mJ];cases tt t with
  |none=>rfl
  |some i=>
   cases st.dK x with
   |v x=>
    cases x with
    |one x=>
     cases x with
     |ep g n off=>
      show (match eH (st.go g)with
       |.aO _ _ _ b _ _=>bif(jH b off i.size).isEmpty then zw (g,5000000,1)else zz
       |_=>zz)=_
      cases hg:st.go g<;>simp only[eH,hg]
     |_=>rfl
    |agg xs=>rfl
   |_=>rfl
 |_=>rfl
theorem VI{R:Type}{T:lQ}{tt:TT}{ety:TypeId->Option Ty}{N:Nat}{ops:Array Oper}{r:R}{K:kJ->List uS->Prog R}:∀{l:List Oper} {i:Nat} {q:kJ} {fs:List uS},l=ops.toList.drop i->(runNT T tt ety N ops l q fs K).run=zw r->
  qo (nO T) tt N ops (List.range' i l.length) (bD q.st) fs λst' c=>∃d:kJ,st'=bD d.st/\ug q d/\(K d c).run=zw r
 | [],i,q,fs,g,h=>⟨q,rfl,ug.refl q,h⟩
 |o::os,i,q,fs,g,h=>by
  have B:ops[i]?=zw o:=by have:=W2 (·[0]?) g;simpa using this.symm
  have H:os=ops.toList.drop (i+1):=by have:=W2 List.tail g;simpa using this
  simp only[Wm,qv,qo,B];unfold runNT at h;split at h;exact(dI h).elim;rename_i rd j;refine Gs ?_ (VG h);rintro e ⟨d,b,rfl,y,J,h⟩;simp only[uX,anp]at h;have z:=VI H h;rw[<-ant,<-anq,<-anr,<-y]at z;rw[afE j,<-y,<-PY];have L:b.er.aJ.map (·.1)=b.aJ.map (·.1):=MR b.aJ;have M:b.er.new=b.new:=rfl;rw[L,M];refine xX ?_ z;rintro st' c ⟨m,rfl,w,h⟩;exact⟨m,rfl,(J.trans (ug.eff d o.dst b)).trans w,h⟩
theorem MS{tt:TT}{ety:TypeId->Option Ty}{ops:Array Oper}{draw:Bool}{r:R}{K:kJ->Prog R}{q:kJ}{Kp:St->Prop}(h:(xO T tt ety n ops draw q K).run=zw r)
  (g :∀b,ug q b->(K b).run=zw r->Kp (bD b.st)):tX (nO T) tt n ops draw (bD q.st) Kp:=by
 unfold xO at h;unfold tX;cases draw with
 |false=>have:=ZQ (i:=0) (by simp) h;rw[<-vi,Array.length_toList]at this;refine zS ?_ this;rintro c ⟨b,rfl,d,h⟩;exact g b d h
 |true=>
  have:=VI (i:=0) (by simp) h;rw[<-vi,Array.length_toList]at this;refine xX ?_ this;rintro c m ⟨b,rfl,d,h⟩;split at h
  .rename_i j;exact⟨j,g b d h⟩
  .exact (dI h).elim
theorem afG{x:Prog R}{k:R->Prog A}{r:A}(h:(Prog.join x k).run=zw r):∃a,x.run=zw a/\(k a).run=zw r:=by
 have h:x.run.bind (λz=>(k z).run)=zw r:=h;cases b:x.run with
 |none=>rw[b]at h;cases h
 |some a=>rw[b]at h;exact⟨a,rfl,h⟩
theorem acR{x:Prog (R ⊕ A)}{k:R->Prog A}{r:A}(h:(Prog.Po x k).run=zw r):(∃a,x.run=zw (.inl a)/\(k a).run=zw r)\/x.run=zw (.inr r):=by
 have h:dF x.run (λz=>(k z).run)=zw r:=h;cases b:x.run with
 |none=>rw[b]at h;cases h
 |some a=>
  rw[b]at h;cases a with
  |inl a=>exact .inl ⟨a,rfl,h⟩
  |inr c=>have h:zw c=zw r:=h;cases h;exact .inr rfl
theorem sH{A R:Type}{body:A->Option (A ⊕ R)}:∀{n m:Nat} {a:A} {r:R},n<=m->jF body n a=zw r->jF body m a=zw r
 |0,m,a,r,_,h=>by cases h
 |n+1,0,a,r,c,h=>by omega
 |n+1,m+1,a,r,c,h=>by
  simp only[jF]at h ⊢;cases b:body a with
  |none=>rw[b]at h;cases h
  |some v=>
   rw[b]at h;cases v with
   |inl d=>exact sH (n:=n) (by omega) h
   |inr g=>exact h
theorem qh(body:R->Option (R ⊕ A))(a:R):bn body a=open Classical in if h :∃n r,jF body n a=zw r then jF body (Classical.choose h) a else zz:=by
 unfold bn;split
 .rename_i r h;have hex :∃n r,jF body n a=zw r:=⟨_,r,h⟩;obtain⟨c,b⟩:=zd hex;rw[dif_pos hex,b];rcases Nat.le_total 1000000 (Classical.choose hex)with hle|hle
  .exact (sH hle h).symm.trans b
  .exact h.symm.trans (sH hle b)
 .rfl
theorem Yj{body:R->Option (R ⊕ A)}{a:R}{r:A}(h:bn body a=zw r):∃n,jF body n a=zw r:=by
 rw[qh]at h;split at h
 .exact ⟨_,h⟩
 .cases h
theorem afH{a:R}{body:R->Prog (R ⊕ A)}{r:A}(h:(Prog.loop a body).run=zw r):∃n,jF (λz=>(body z).run) n a=zw r:=Yj h
theorem zU{body:R->Option (R ⊕ A)}{a:R}{r:A}(h:jF body n a=zw r):bn body a=zw r:=by
 have hex :∃n r,jF body n a=zw r:=⟨n,r,h⟩;rw[qh];rw[dif_pos hex];obtain⟨c,b⟩:=zd hex;rw[b];rcases Nat.le_total n (Classical.choose hex)with hle|hle
 .have:=sH hle h;rw[this]at b;exact b.symm
 .have:=sH hle b;rw[this]at h;exact h
theorem C9(body:R->Option (R ⊕ A))(a:R):bn body a=(body a).bind λ
  |.inl c=>bn body c
  |.inr r=>zw r:=by
 cases d:body a with
 |none=>
  have:¬∃n r,jF body n a=zw r:=by
   rintro ⟨n,r,h⟩;cases n with
   |zero=>cases h
   |succ n=>simp only[jF,d]at h;cases h
  rw[qh];rw[dif_neg this];rfl
 |some v=>
  cases v with
  |inr r=>exact zU (n:=1) (by simp only[jF,d];rfl)
  |inl c=>
   show bn body a=bn body c;by_cases hex :∃n r,jF body n c=zw r
   .obtain ⟨n,r,hn⟩:=hex;rw[zU hn];exact zU (n:=n+1) (by simp only[jF,d];exact hn)
   .have b:¬∃n r,jF body n a=zw r:=by
     rintro ⟨n,r,h⟩;cases n with
     |zero=>cases h
     |succ n=>simp only[jF,d]at h;exact hex ⟨n,r,h⟩
    rw[qh,qh];rw[dif_neg hex,dif_neg b]
theorem ZR{c:Type}{f:A->c}(d :∀a b,f a=f b->a=b):∀a b:R ⊕ A,Sum.map id f a=Sum.map id f b->a=b
 |.inl a,.inl b,h=>by cases h;rfl
 |.inl a,.inr b,h=>by cases h
 |.inr a,.inl b,h=>by cases h
 |.inr a,.inr b,h=>by have h:(Sum.inr (f a):R ⊕ c)=.inr (f b):=h;simp only[Sum.inr.injEq]at h;rw[d _ _ h]
theorem run_map(f:R->A)(c :∀a b,f a=f b->a=b)(p:Prog R):(p.map f).run=p.run.map f:=by
 induction p generalizing A with
 |ret r=>rfl
 |stuck n=>rfl
 |cond b x y q d=>show (bif b then(x.map f).run else(y.map f).run)=(bif b then x.run else y.run).map f;rw[q f c,d f c];cases b<;>rfl
 |chk b x j=>show ck b (x.map f).run=(ck b x.run).map f;rw[j f c];cases b<;>rfl
 |any x y q d=>
  show both (x.map f).run (y.map f).run=(both x.run y.run).map f;rw[q f c,d f c];unfold both;by_cases e:x.run=y.run
  .rw [QQ e,QQ (by rw[e])]
  .rw [Qt e,Qt];rfl;intro h;apply e;cases w:x.run with
   |none=>
    cases J:y.run with
    |none=>rfl
    |some b=>rw[w,J]at h;cases h
   |some a=>
    cases J:y.run with
    |none=>rw[w,J]at h;cases h
    |some b=>rw[w,J]at h;simp only[W7,Q0]at h;rw[c a b h]
 |let_ x k j=>exact j x f c
 |join x k q m=>
  show x.run.bind (λz=>((k z).map f).run)=(x.run.bind λz=>(k z).run).map f;cases x.run with
  |none=>rfl
  |some a=>exact m a f c
 |Po x k q m=>
  show dF (x.map (Sum.map id f)).run (λz=>((k z).map f).run)=(dF x.run λz=>(k z).run).map f;rw[q _ (ZR c)];cases x.run with
  |none=>rfl
  |some a=>
   cases a with
   |inl a=>exact m a f c
   |inr r=>rfl
 |loop a body j=>
  show bn (λz=>((body z).map (Sum.map id f)).run) a=(bn (λz=>(body z).run) a).map f;have e:(λz=>((body z).map (Sum.map id f)).run)=λz=>(body z).run.map (Sum.map id f):=funext λz=>j z _ (ZR c);rw[e];have key :∀n a,jF (λz=>(body z).run.map (Sum.map id f)) n a=(jF (λz=>(body z).run) n a).map f:=by
   intro n
   induction n with
   |zero=>intro a;rfl
   |succ n K=>
    intro a;simp only[jF];cases (body a).run with
    |none=>rfl
    |some v=>
     cases v with
     |inl M=>exact K M
     |inr r=>rfl
  have B:(∃n r,jF (λz=>(body z).run.map (Sum.map id f)) n a=zw r)↔∃n r,jF (λz=>(body z).run) n a=zw r:=by
   constructor
   .rintro ⟨n,r,h⟩;rw[key]at h;cases w:jF (λz=>(body z).run) n a with
    |none=>rw[w]at h;cases h
    |some N=>exact⟨n,N,w⟩
   .rintro ⟨n,r,h⟩;exact⟨n,f r,by rw[key,h];rfl⟩
  by_cases hex :∃n r,jF (λz=>(body z).run) n a=zw r
  .obtain ⟨n,r,hn⟩:=hex;have T:=zU hn;have u2:jF (λz=>(body z).run.map (Sum.map id f)) n a=zw (f r):=by rw[key,hn];rfl
   rw[T,zU u2];rfl
  .have H:=λh=>hex (B.1 h);rw[qh,qh];rw[dif_neg hex,dif_neg H];rfl
 |call n g a k j=>
  show (g a).bind (λz=>((k z).map f).run)=((g a).bind λz=>(k z).run).map f;cases g a with
  |none=>rfl
  |some y=>exact j y f c
end
end Go.Fg

namespace Go.Fg
open Go.Fw
section
variable [RE] {m:Ren}
theorem BH:∀{caps:List TW} {gs:List Nat},EC caps=zw gs->Gi gs=caps
 | [],gs,h=>by simp only[EC,Q0]at h;subst h;rfl
 |c::j,gs,h=>by
  cases c with
  |box g off=>
   unfold EC at h;obtain⟨b,h⟩:=cZ h;have b:=Q6 b;subst b;split at h
   .rename_i d hg;cases h;simp only[Gi,BH hg]
   .cases h
  |_=>cases h
variable{x:TW}{k:kH}{u:List Wd}
theorem ZT{c:List Wd}(h:Vo x=zw (k,u))(b:Gj m k x=zw c):c=u/\u.length=k.tys.length:=by
 cases x<;>try simp only[Vo,Q0,QP,reduceCtorEq]at h
 case p a i w=>
  obtain⟨rfl,rfl⟩:=h;simp only[Gj]at b;split at b
  .obtain ⟨_,rfl⟩:=EH b;exact⟨rfl,rfl⟩
  .cases b
 case dD=>obtain⟨rfl,rfl⟩:=h;simp only[Gj,Q0]at b;subst b;exact⟨rfl,rfl⟩
 case own g=>
  obtain⟨rfl,rfl⟩:=h;simp only[Gj]at b;split at b
  .cases b;exact⟨rfl,rfl⟩
  .cases b
 case box g off=>
  obtain⟨rfl,rfl⟩:=h;simp only[Gj]at b;split at b
  .cases b;exact⟨rfl,rfl⟩
  .cases b
 case clo f d=>
  split at h
  .cases h;simp only[Gj]at b;obtain⟨_,rfl⟩:=EH b;exact⟨rfl,rfl⟩
  .cases h
 case vw g lo j=>
  obtain⟨rfl,rfl⟩:=h;simp only[Gj]at b;split at b
  .cases b;exact⟨rfl,rfl⟩
  .cases b
 case ep g n off=>
  obtain⟨rfl,rfl⟩:=h;simp only[Gj]at b;split at b
  .cases b;exact⟨rfl,rfl⟩
  .cases b
 case oI g=>
  obtain⟨rfl,rfl⟩:=h;simp only[Gj]at b;split at b
  .cases b;exact⟨rfl,rfl⟩
  .cases b
theorem MV:∀{xs:List TW} {c:List kH} {u d:List Wd},yD xs=zw (c,u)->zF m c xs=zw d->d=u/\u.length=(c.flatMap kH.tys).length
 | [],c,u,d,h,b=>by simp only[yD,Q0,QP]at h;obtain⟨rfl,rfl⟩:=h;simp only[zF,Q0]at b;subst b;exact⟨rfl,rfl⟩
 |x::xs,c,u,d,h,b=>by
  simp only[yD]at h;split at h
  rotate_left
  cases h;rename_i g j;cases h;simp only[zF]at b;split at b
  .rename_i q w;cases b;obtain⟨rfl,y⟩:=ZT g q;obtain⟨rfl,z⟩:=MV j w;exact⟨rfl,by simp only[XS,Z6,y,z]⟩
  .cases b
theorem ai3{x:TS}{k:lu}{c:List Wd}(h:RJ x=zw (k,u))(d:aiM m k x=zw c):c=u/\u.length=k.tys.length:=by
 unfold RJ at h;split at h
 .split at h
  .rename_i b;cases h;exact ZT b d
  .cases h
 .split at h
  .rename_i b;cases h;exact MV b d
  .cases h
 .cases h
theorem ai4{x:TO}{k:iP}{d:List Wd}(h:yL x=zw (k,u))(b:X8 m k x=zw d):d=u/\u.length=k.tys.length:=by
 cases x with
 |none=>cases h
 |box y=>
  simp only[yL]at h;split at h
  .rename_i j;cases h;exact MV j b
  .cases h
 |arr z a i e l=>
  simp only[yL,Q0,QP]at h;obtain⟨rfl,rfl⟩:=h;simp only[X8]at b;split at b
  .rename_i q c;split at b
   .cases b;have:=iR c;exact⟨W2 (λw=>[w]) this.symm,rfl⟩
   .cases b
  .cases b
 |it s n=>simp only[yL,Q0,QP]at h;obtain⟨rfl,rfl⟩:=h;simp only[X8,Q0]at b;exact⟨b.symm,rfl⟩
 |aO a i e B l g=>
  simp only[yL]at h;split at h
  rotate_left
  cases h;cases h;simp only[X8]at b;split at b
  .rename_i q c _;split at b
   .cases b;have:=iR c;exact⟨W2 (λw=>[w]) this.symm,rfl⟩
   .cases b
  .cases b
variable{vs:List Wd}
theorem ZU(h:Vo x=zw (k,u))(c :∀(j:Nat) w,u[j]?=zw w->vs[n+j]?=zw w):(CS vs n k).1=x/\u.length=k.tys.length:=by
 cases x<;>try simp only[Vo,Q0,QP,reduceCtorEq]at h
 case p a i w=>obtain⟨rfl,rfl⟩:=h;have:=c 0 w rfl;refine⟨?_,rfl⟩;show TW.p a i (vs.getD n CP)=.p a i w;rw[Q1,show vs[n]?=zw w from this];rfl
 case vw g lo b=>
  obtain⟨rfl,rfl⟩:=h;refine⟨?_,rfl⟩;have d:=c 0 (jB .i64 lo) rfl;have H:=c 1 (jB .i64 b) rfl;have y:vs.getD n CP=jB .i64 lo:=by rw[Q1,show vs[n]?=zw (jB .i64 lo) from d];rfl
  have J:vs.getD (n+1) CP=jB .i64 b:=by rw[Q1,show vs[n+1]?=zw (jB .i64 b) from H];rfl
  show TW.vw g ((vs.getD n CP).as (.int .i64)) ((vs.getD (n+1) CP).as (.int .i64))=.vw g lo b;rw[y,J];have a0:TP.as (.int .i64) (jB .i64 lo)=lo:=tY (.int .i64) lo;have K:TP.as (.int .i64) (jB .i64 b)=b:=tY (.int .i64) b;rw[a0,K]
 case ep g q off=>
  obtain⟨rfl,rfl⟩:=h;refine⟨?_,rfl⟩;have d:=c 0 (jB .i64 q) rfl;have y:vs.getD n CP=jB .i64 q:=by rw[Q1,show vs[n]?=zw (jB .i64 q) from d];rfl
  show TW.ep g ((vs.getD n CP).as (.int .i64)) off=.ep g q off;rw[y];have a0:TP.as (.int .i64) (jB .i64 q)=q:=tY (.int .i64) q;rw[a0]
 case clo f B=>
  split at h
  .rename_i gs z;cases h;exact⟨by simp only[CS,BH z],rfl⟩
  .cases h
 all_goals (obtain⟨rfl,rfl⟩:=h;exact⟨rfl,rfl⟩)
theorem ai5{α:Type}{vs a b:List α}(h :∀(j:Nat) w,(a++b)[j]?=zw w->vs[n+j]?=zw w):∀(j:Nat) w,a[j]?=zw w->vs[n+j]?=zw w:=λj w c=>h j w (by rw[Wf (Q3.1 c).1];exact c)
theorem afI{α:Type}{vs a b:List α}(h :∀(j:Nat) w,(a++b)[j]?=zw w->vs[n+j]?=zw w):∀(j:Nat) w,b[j]?=zw w->vs[n+a.length+j]?=zw w:=λj w c=>by rw[J1];exact h (a.length+j) w (by rw[Wc (by omega)];simpa using c)
theorem MW:∀{xs:List TW} {b:List kH} {u vs:List Wd} {n:Nat},yD xs=zw (b,u)->(∀(j:Nat) w,u[j]?=zw w->vs[n+j]?=zw w)->(vX vs n b).1=xs/\u.length=(b.flatMap kH.tys).length
 | [],b,u,vs,n,h,c=>by simp only[yD,Q0,QP]at h;obtain⟨rfl,rfl⟩:=h;exact⟨rfl,rfl⟩
 |x::xs,b,u,vs,n,h,c=>by
  simp only[yD]at h;split at h
  rotate_left
  cases h;rename_i K d g q y z;cases h;obtain⟨B,a2⟩:=ZU y (ai5 c);obtain⟨H,J⟩:=MW (n:=n+d.length) z (afI c);refine⟨?_,by simp only[XS,Z6,a2,J]⟩;simp only[vX,B,EF];rw[<-a2,H]
theorem ai6{x:TS}{k:lu}(h:RJ x=zw (k,u))(d :∀(j:Nat) w,u[j]?=zw w->vs[n+j]?=zw w):(Ji vs n k).1=x/\u.length=k.tys.length:=by
 unfold RJ at h;split at h
 .split at h
  .rename_i b;cases h;obtain⟨c,a2⟩:=ZU b d;exact⟨by simp only[Ji,c],a2⟩
  .cases h
 .split at h
  .rename_i b;cases h;obtain⟨c,a2⟩:=MW b d;exact⟨by simp only[Ji,c],a2⟩
  .cases h
 .cases h
theorem ai7{x:TO}{k:iP}(h:yL x=zw (k,u))(b :∀(j:Nat) w,u[j]?=zw w->vs[n+j]?=zw w):(Gl vs n k).1=x/\u.length=k.tys.length:=by
 cases x with
 |none=>cases h
 |box J=>
  simp only[yL]at h;split at h
  .rename_i d;cases h;obtain⟨g,a2⟩:=MW d b;exact⟨by simp only[Gl,g],a2⟩
  .cases h
 |arr q a i e l=>
  simp only[yL,Q0,QP]at h;obtain⟨rfl,rfl⟩:=h;refine⟨?_,rfl⟩;have:=b 0 (vP e l) rfl;have c:vs.getD n CP=vP e l:=by rw[Q1,show vs[n]?=zw (vP e l) from this];rfl
  show TO.arr q a i e ((vs.getD n CP).as (.sl e))=.arr q a i e l;rw[c];congr 1;exact tY (.sl e) l
 |it s p=>
  simp only[yL,Q0,QP]at h;obtain⟨rfl,rfl⟩:=h;refine⟨?_,rfl⟩;have B:=b 0 (U7 s) rfl;have d:=b 1 (jB .i64 p) rfl;have H:vs.getD n CP=U7 s:=by rw[Q1,show vs[n]?=zw (U7 s) from B];rfl
  have c:vs.getD (n+1) CP=jB .i64 p:=by rw[Q1,show vs[n+1]?=zw (jB .i64 p) from d];rfl
  show TO.it ((vs.getD n CP).as .str) ((vs.getD (n+1) CP).as (.int .i64))=.it s p;rw[H,c];have a0:TP.as .str (U7 s)=s:=tY .str s;have g:TP.as (.int .i64) (jB .i64 p)=p:=tY (.int .i64) p;rw[a0,g]
 |aO a i e y l z=>
  simp only[yL]at h;split at h
  rotate_left
  cases h;cases h;refine⟨?_,rfl⟩;have:=b 0 (vP e l) rfl;have c:vs.getD n CP=vP e l:=by rw[Q1,show vs[n]?=zw (vP e l) from this];rfl
  show TO.aO a i e y ((vs.getD n CP).as (.sl e)) zz=.aO a i e y l zz;rw[c];congr 1;exact tY (.sl e) l
theorem ZV(h:Vo x=zw (k,u)):u.map (·.t)=k.tys:=by
 cases x<;>try simp only[Vo,Q0,QP,reduceCtorEq]at h
 case clo f b=>
  split at h
  .cases h;rfl
  .cases h
 all_goals (obtain⟨rfl,rfl⟩:=h;rfl)
theorem MX:∀{xs:List TW} {b:List kH} {u:List Wd},yD xs=zw (b,u)->u.map (·.t)=b.flatMap kH.tys
 | [],b,u,h=>by simp only[yD,Q0,QP]at h;obtain⟨rfl,rfl⟩:=h;rfl
 |x::xs,b,u,h=>by
  simp only[yD]at h;split at h
  .rename_i c d;cases h;simp only[XX,Z6,ZV c,MX d]
  .cases h
theorem ZW{x:TS}{k:lu}(h:RJ x=zw (k,u)):u.map (·.t)=k.tys:=by
 unfold RJ at h;split at h
 .split at h
  .rename_i b;cases h;exact ZV b
  .cases h
 .split at h
  .rename_i b;cases h;exact MX b
  .cases h
 .cases h
theorem ai8{x:TO}{k:iP}(h:yL x=zw (k,u)):u.map (·.t)=k.tys:=by
 cases x with
 |none=>cases h
 |box d=>
  simp only[yL]at h;split at h
  .rename_i c;cases h;exact MX c
  .cases h
 |arr g a i e l=>simp only[yL,Q0,QP]at h;obtain⟨rfl,rfl⟩:=h;rfl
 |it s n=>simp only[yL,Q0,QP]at h;obtain⟨rfl,rfl⟩:=h;rfl
 |aO a i e j l b=>
  simp only[yL]at h;split at h
  .cases h;rfl
  .cases h
def VJ(s:Nat->TS)(l:List (Nat×lu×Option (List Wd))):Prop :=∀t k u,(t,k,zw u)∈l->RJ (s t)=zw (k,u)
def ZX(s:Nat->TO)(l:List (Nat×iP×Option (List Wd))):Prop :=∀t k u,(t,k,zw u)∈l->yL (s t)=zw (k,u)
theorem zV{s:Nat->TS}:∀{l:List (Nat×Md)} {r:List (Nat×lu×Option (List Wd))},CV s l=zw r->VJ s r
 | [],r,h=>by simp only[CV,Q0]at h;subst h;intro t k u hm;cases hm
 |(t,.keep)::l,r,h=>by
  simp only[CV]at h;split at h
  .rename_i d b;cases h;intro c k u hm;rcases Xs.1 hm with hm|hm
   .cases hm;exact d
   .exact zV b c k u hm
  .cases h
 |(t,.sl g)::l,r,h=>by
  simp only[CV]at h;split at h
  .rename_i b;cases h;intro c k u hm;rcases Xs.1 hm with hm|hm
   .cases hm
   .exact zV b c k u hm
  .cases h
theorem C_{s:Nat->TO}:∀{l:List (Nat×Mo)} {r:List (Nat×iP×Option (List Wd))},LY s l=zw r->ZX s r
 | [],r,h=>by simp only[LY,Q0]at h;subst h;intro t k u hm;cases hm
 |(t,.keep)::l,r,h=>by
  simp only[LY]at h;split at h
  .rename_i d b;cases h;intro c k u hm;rcases Xs.1 hm with hm|hm
   .cases hm;exact d
   .exact C_ b c k u hm
  .cases h
 |(t,.ob g)::l,r,h=>by
  simp only[LY]at h;split at h
  .rename_i b;cases h;intro c k u hm;rcases Xs.1 hm with hm|hm
   .cases hm
   .exact C_ b c k u hm
  .cases h
theorem EL{s J:Nat->TS}:∀{l:List (Nat×lu×Option (List Wd))} {us rest mP:List Wd},VJ s l->(∀t k u,(t,k,zw u)∈l->J t=s t)->oV m J (l.map λp=>(p.1,p.2.1))=zw us->
  ∃e,RN l (us++rest)=(e,rest)/\nN l (e++mP)=(us,mP)/\e.map (·.t)=kF l
 | [],us,rest,mP,c,d,h=>by simp only[Vc,oV,Q0]at h;subst h;exact⟨[],rfl,rfl,rfl⟩
 |(t,k,zw u)::l,us,rest,mP,c,d,h=>by
  simp only[Qf,oV]at h;split at h
  rotate_left
  cases h;rename_i q v j w;cases h;rw[d t k u (by simp)]at j;obtain⟨rfl,y⟩:=ai3 (c t k u (by simp)) j;obtain⟨e,z,B,H⟩:=EL (rest:=rest) (mP:=mP) (λt k u b=>c t k u (by simp[b])) (λt k u b=>d t k u (by simp[b])) w;refine⟨e,?_,?_,by simp only[kF,H]⟩
  .simp only[RN,W3,Jx,z]
  .simp only[nN,B]
 |(t,k,zz)::l,us,rest,mP,c,d,h=>by
  simp only[Qf,oV]at h;split at h
  rotate_left
  cases h;rename_i q v j w;cases h;have g:=(ZH j).2;have y:q.length=k.tys.length:=by rw[<-g,We]
  obtain⟨e,z,B,H⟩:=EL (rest:=rest) (mP:=mP) (λt k u b=>c t k u (by simp[b])) (λt k u b=>d t k u (by simp[b])) w;refine⟨q++e,?_,?_,by simp only[XX,g,kF,H]⟩
  .simp only[RN,W3,<-y,Ks,Jx,z]
  .simp only[nN,W3,<-y,Ks,Jx,B]
theorem EM{s M:Nat->TO}:∀{l:List (Nat×iP×Option (List Wd))} {us rest mP:List Wd},ZX s l->(∀t k u,(t,k,zw u)∈l->M t=s t/\m.lookup t=zw (zw t))->rC m M (l.map λp=>(p.1,p.2.1))=zw us->
  ∃e,Vp l (us++rest)=(e,rest)/\sG l (e++mP)=(us,mP)/\e.map (·.t)=qK l
 | [],us,rest,mP,d,j,h=>by simp only[Vc,rC,Q0]at h;subst h;exact⟨[],rfl,rfl,rfl⟩
 |(t,k,zw u)::l,us,rest,mP,d,j,h=>by
  simp only[Qf,rC]at h;split at h
  rotate_left
  cases h;rename_i w v b y;cases h;obtain⟨z,B⟩:=j t k u (by simp);rw[B]at b;simp only at b;rw[z]at b;obtain⟨rfl,H⟩:=ai4 (d t k u (by simp)) b;obtain⟨e,J,K,L⟩:=EM (rest:=rest) (mP:=mP) (λt k u c=>d t k u (by simp[c])) (λt k u c=>j t k u (by simp[c])) y;refine⟨e,?_,?_,by simp only[qK,L]⟩
  .simp only[Vp,W3,Jx,J]
  .simp only[sG,K]
 |(t,k,zz)::l,us,rest,mP,d,j,h=>by
  simp only[Qf,rC]at h;split at h
  rotate_left
  cases h;rename_i w v b y;cases h;have q:w.map (·.t)=k.tys:=by
   cases hg:m.lookup t with
   |none=>rw[hg]at b;cases b
   |some N=>
    rw[hg]at b;cases N with
    |some g=>exact(ZI b).2
    |none=>
     simp only at b;split at b
     .cases b;rfl
     .cases b;rfl
     .cases b
  have H:w.length=k.tys.length:=by rw[<-q,We]
  obtain⟨e,J,K,L⟩:=EM (rest:=rest) (mP:=mP) (λt k u c=>d t k u (by simp[c])) (λt k u c=>j t k u (by simp[c])) y;refine⟨w++e,?_,?_,by simp only[XX,q,qK,L]⟩
  .simp only[Vp,W3,<-H,Ks,Jx,J]
  .simp only[sG,W3,<-H,Ks,Jx,K]
theorem Dc{s:List (Nat×TS)}{ds:List Nat}:∀{l:List (Nat×lu×Option (List Wd))},Vq s ds l=zj->∀t k u,(t,k,zw u)∈l->hasK t s=zj/\gG t ds=zv
 | [],h,t,k,u,hm=>by cases hm
 |(t0,b,zw c)::l,h,t,k,u,hm=>by
  simp only[Vq,QR,V0]at h;rcases Xs.1 hm with hm|hm
  .cases hm;exact h.1
  .exact Dc h.2 t k u hm
 |(t0,b,zz)::l,h,t,k,u,hm=>by
  rcases Xs.1 hm with hm|hm
  .cases hm
  .exact Dc (l:=l) h t k u hm
theorem Df{s:List (Nat×TO)}{ds:List Nat}:∀{l:List (Nat×iP×Option (List Wd))},Vr s ds l=zj->∀t k u,(t,k,zw u)∈l->hasK t s=zj/\gG t ds=zv
 | [],h,t,k,u,hm=>by cases hm
 |(t0,b,zw c)::l,h,t,k,u,hm=>by
  simp only[Vr,QR,V0]at h;rcases Xs.1 hm with hm|hm
  .cases hm;exact h.1
  .exact Df h.2 t k u hm
 |(t0,b,zz)::l,h,t,k,u,hm=>by
  rcases Xs.1 hm with hm|hm
  .cases hm
  .exact Df (l:=l) h t k u hm
end
end Go.Fg

namespace Go.Fw
variable [fO]
def aqd:TypeDesc->TK
 |.int k=>.int k
 |.bool=>.bool
 |.string=>.str
 |.slice e=>.slice e
 |.pointer _=>.ptr
 |.struct gs=>.struct (gs.toList.map λf=>(f.offset,f.type))
 |.array n e=>.arr n e
 |_=>.other
theorem qQ.of{Pg:Program}{t:TypeId}{i:TI}(h1:(Pg.info? t).map (λx=>(x.size,x.bytes,x.zero.map (·.cells.toList),x.zero.map λz=>match z with|.agg _=>zj|_=>zv))=zw (i.size,i.bytes,zw i.zero,zw i.agg))
  (h2:i.zero.all (·.oneCell')=zj) (h3:i.zero.length=i.size) (hk:(Pg.underlying t).map aqd=zw i.k)
  (he:(!i.eq||(!Pg.stoodInHeld t&&!Pg.eqGuardType Pg.depth t&&(Pg.fieldsOf t).toList.all λf=>!(f.name == "_")))=true):qQ Pg t i:=by
 refine⟨h1,h2,h3,?_,λh=>?_⟩
 rotate_left
 .rw [h]at he;simp only[Bool.not_true,Ka,QR,V0,Z3]at he;exact⟨he.1.1,he.1.2,λf hf e=>by have:=he.2 f hf;rw[e]at this;simp at this⟩
 cases hu:Pg.underlying t with
 |none=>rw[hu]at hk;cases hk
 |some d=>rw[hu]at hk;simp only[W7,Q0]at hk;rw[<-hk];cases d<;>simp[aqd,qB,hu]
def aly(Pg:Program):List (Nat×TI)->Prop
 | []=>True
 |p::r=>qQ Pg p.1 p.2/\aly Pg r
theorem ai9(rows:List (Nat×TI))(Pg:aly h rows):jv h λt=>rows.lookup t:=by
 intro t i b
 induction rows with
 |nil=>cases b
 |cons p r c=>
  obtain⟨d,g⟩:=Pg;simp only[List.lookup]at b;split at b
  .rename_i e;have e:t=p.1:=by simpa using e
   cases b;subst e;exact d
  .exact c g b
theorem wrap64{x:Int}(b:-9223372036854775808<=x)(c:x<=9223372036854775807):IntKind.i64.wrap x=x:=by
 have e:IntKind.i64.wrap x=if x % 18446744073709551616≥9223372036854775808 then x % 18446744073709551616-18446744073709551616 else x % 18446744073709551616:=by simp[IntKind.wrap,IntKind.bits,IntKind.signed]
 rw[e];split<;>omega
end Go.Fw

namespace Go.Fg
open Go.Fw
section
variable [RE]
theorem xY:∀{l:List (Nat×iP×Option (List Wd))} {r:Ren} {t:Nat} {k:iP} {u:List Wd},(t,k,zw u)∈l->(Py l++r).lookup t=zw (zw t)
 | [],r,t,k,u,h=>by cases h
 |(t0,c,zw d)::l,r,t,k,u,h=>by
  simp only[Py,Kk,List.lookup,JB];cases b:Nat.beq t t0 with
  |true=>have:=Q6 b;subst this;rfl
  |false=>
   rcases Xs.1 h with h|h
   .cases h;simp at b
   .exact xY h
 |(t0,c,zz)::l,r,t,k,u,h=>by
  rcases Xs.1 h with h|h
  .cases h
  .exact xY (l:=l) h
structure JOk(st:jL)(j:JF):Prop where
 s:VJ st.gs j.slots
 o:ZX st.go j.bI
 ds :∀t k u,(t,k,zw u)∈j.slots->gG t (newS j.slots)=zv
 dO :∀t k u,(t,k,zw u)∈j.bI->gG t (vZ j.bI)=zv
theorem Gu{b:List Nat}:∀{l:List (Nat×lu×Option (List Wd))},afn b l=zj->∀t k u,(t,k,zw u)∈l->gG t b=zv
 | [],h,t,k,u,hm=>by cases hm
 |(t0,c,zw d)::l,h,t,k,u,hm=>by
  simp only[afn,QR,V0]at h;rcases Xs.1 hm with hm|hm
  .cases hm;exact h.1
  .exact Gu h.2 t k u hm
 |(t0,c,zz)::l,h,t,k,u,hm=>by
  rcases Xs.1 hm with hm|hm
  .cases hm
  .exact Gu (l:=l) h t k u hm
theorem Gv{b:List Nat}:∀{l:List (Nat×iP×Option (List Wd))},afo b l=zj->∀t k u,(t,k,zw u)∈l->gG t b=zv
 | [],h,t,k,u,hm=>by cases hm
 |(t0,c,zw d)::l,h,t,k,u,hm=>by
  simp only[afo,QR,V0]at h;rcases Xs.1 hm with hm|hm
  .cases hm;exact h.1
  .exact Gv h.2 t k u hm
 |(t0,c,zz)::l,h,t,k,u,hm=>by
  rcases Xs.1 hm with hm|hm
  .cases hm
  .exact Gv (l:=l) h t k u hm
theorem afJ{st:jL}{b:JT}{j:JF}(h:jOf st b=zw j):JOk st j:=by
 unfold jOf at h;split at h
 rotate_left
 cases h;rename_i c d;split at h
 .rename_i hd;cases h;simp only[QR]at hd;exact⟨zV c,C_ d,Gu hd.1,Gv hd.2⟩
 .cases h
theorem Yk{st:jL}{j:JF}(L:JOk st j)(x:Tup j.tys):(j.pay (Tup.mQ j.tys x)).map (·.t)=j.sh.tys:=by
 have slots :∀(l:List (Nat×lu×Option (List Wd))) (c :∀t k u,(t,k,zw u)∈l->u.map (·.t)=k.tys) (b rest:List Wd),b.map (·.t)=kF l->(nN l (b++rest)).1.map (·.t)=(l.map λp=>(p.1,p.2.1)).flatMap (λp=>p.2.tys)/\(nN l (b++rest)).2=rest:=by
  intro l
  induction l with
  |nil=>intro c b rest h;simp only[kF,List.map_eq_nil_iff]at h;subst h;exact⟨rfl,rfl⟩
  |cons p l m=>
   intro c b rest h;obtain⟨t,k,B⟩:=p;cases B with
   |some u=>obtain⟨g,a2⟩:=m (λt k u d=>c t k u (by simp[d])) b rest h;exact⟨by simp only[nN,XX,Qf,Z6,g,c t k u (by simp)],a2⟩
   |none=>
    simp only[kF]at h;have q:k.tys.length<=b.length:=by have:=W2 List.length h;simp only[We,XS]at this;omega
    have w:(b.take k.tys.length).map (·.t)=k.tys:=by rw[UT,h,Ks]
    have y:(b.drop k.tys.length).map (·.t)=kF l:=by rw[VM,h,Jx]
    have H:(b++rest).take k.tys.length=b.take k.tys.length:=Ki q;have J:(b++rest).drop k.tys.length=b.drop k.tys.length++rest:=K9 q;obtain⟨g,a2⟩:=m (λt k u d=>c t k u (by simp[d])) _ rest y;simp only[nN,H,J];exact⟨by simp only[XX,Qf,Z6,g,w],a2⟩
 have bI :∀(l:List (Nat×iP×Option (List Wd))) (c :∀t k u,(t,k,zw u)∈l->u.map (·.t)=k.tys) (b rest:List Wd),b.map (·.t)=qK l->(sG l (b++rest)).1.map (·.t)=(l.map λp=>(p.1,p.2.1)).flatMap (λp=>p.2.tys)/\(sG l (b++rest)).2=rest:=by
  intro l
  induction l with
  |nil=>intro c b rest h;simp only[qK,List.map_eq_nil_iff]at h;subst h;exact⟨rfl,rfl⟩
  |cons p l m=>
   intro c b rest h;obtain⟨t,k,B⟩:=p;cases B with
   |some u=>obtain⟨g,a2⟩:=m (λt k u d=>c t k u (by simp[d])) b rest h;exact⟨by simp only[sG,XX,Qf,Z6,g,c t k u (by simp)],a2⟩
   |none=>
    simp only[qK]at h;have q:k.tys.length<=b.length:=by have:=W2 List.length h;simp only[We,XS]at this;omega
    have w:(b.take k.tys.length).map (·.t)=k.tys:=by rw[UT,h,Ks]
    have y:(b.drop k.tys.length).map (·.t)=qK l:=by rw[VM,h,Jx]
    have H:(b++rest).take k.tys.length=b.take k.tys.length:=Ki q;have J:(b++rest).drop k.tys.length=b.drop k.tys.length++rest:=K9 q;obtain⟨g,a2⟩:=m (λt k u d=>c t k u (by simp[d])) _ rest y;simp only[sG,H,J];exact⟨by simp only[XX,Qf,Z6,g,w],a2⟩
 have M :∀t k u,(t,k,zw u)∈j.slots->u.map (·.t)=k.tys:=λt k u d=>ZW (L.s t k u d);have N :∀t k u,(t,k,zw u)∈j.bI->u.map (·.t)=k.tys:=λt k u d=>ai8 (L.o t k u d);have K:(Tup.mQ j.tys x).map (·.t)=kF j.slots++qK j.bI:=xU _ _;generalize Tup.mQ j.tys x=b at K;obtain⟨w1,z,rfl,w,y⟩ :∃w1 z,b=w1++z/\w1.map (·.t)=kF j.slots/\z.map (·.t)=qK j.bI:=by
  refine⟨b.take (kF j.slots).length,b.drop (kF j.slots).length,(K3 _ _).symm,?_,?_⟩
  .rw [UT,K,Ks]
  .rw [VM,K,Jx]
 obtain⟨g,a2⟩:=slots j.slots M w1 z w;have ob:=bI j.bI N z [] y;rw[K6]at ob;unfold JF.pay;rw[a2,XX,g,ob.1];rfl
theorem Gw{s:Nat->TS}:∀{l:List (Nat×lu×Option (List Wd))} {pre post b rest:List Wd} {t:Nat},VJ s l->b.map (·.t)=kF l->hasK t (iq (pre++(nN l (b++rest)).1++post) pre.length (l.map λp=>(p.1,p.2.1))).1=zj->gG t (newS l)=zv->
  kC .no (iq (pre++(nN l (b++rest)).1++post) pre.length (l.map λp=>(p.1,p.2.1))).1 t=s t/\∃k u,(t,k,zw u)∈l
 | [],pre,post,b,rest,t,d,c,h,hn=>by cases h
 |(t0,k,zw u)::l,pre,post,b,rest,t,d,c,h,hn=>by
  have hu:=d t0 k u (by simp);have g:=ai6 (vs:=pre++(u++(nN l (b++rest)).1)++post) (n:=pre.length) hu (λj w J=>by rw[W3,Wc (by omega),qS,W3,Wf (Q3.1 J).1];exact J)
  simp only[nN,Qf,iq,g.1,EG,<-g.2]at h ⊢;have e:pre++(u++(nN l (b++rest)).1)++post=(pre++u)++(nN l (b++rest)).1++post:=by simp only[W3]
  rw[e]at h ⊢;have q:pre.length+u.length=(pre++u).length:=by rw[XS]
  rw[q]at h ⊢;simp only[hasK,kC]at h ⊢;cases K:Nat.beq t t0 with
  |true=>have:=Q6 K;subst this;exact⟨rfl,k,u,by simp⟩
  |false=>rw[K,Ka]at h;obtain⟨y,z,B,a2⟩:=Gw (l:=l) (pre:=pre++u) (λt k u H=>d t k u (by simp[H])) c h hn;exact⟨y,z,B,by simp[a2]⟩
 |(t0,k,zz)::l,pre,post,b,rest,t,d,c,h,hn=>by
  simp only[kF]at c;simp only[newS,gG,J2]at hn;have L:k.tys.length<=b.length:=by have:=W2 List.length c;simp only[We,XS]at this;omega
  have M:(b.drop k.tys.length).map (·.t)=kF l:=by rw[VM,c,Jx]
  have N:(b++rest).take k.tys.length=b.take k.tys.length:=Ki L;have T:(b++rest).drop k.tys.length=b.drop k.tys.length++rest:=K9 L;have m:(b.take k.tys.length).length=k.tys.length:=by rw[VV];omega
  simp only[nN,Qf,iq,EG,N,T]at h ⊢;have e:pre++(b.take k.tys.length++(nN l (b.drop k.tys.length++rest)).1)++post=(pre++b.take k.tys.length)++(nN l (b.drop k.tys.length++rest)).1++post:=by simp only[W3]
  rw[e]at h ⊢;have q:pre.length+k.tys.length=(pre++b.take k.tys.length).length:=by rw[XS,m]
  rw[q]at h ⊢;simp only[hasK,kC,hn.1,Ka,cond_false]at h ⊢;obtain⟨y,z,B,a2⟩:=Gw (pre:=pre++b.take k.tys.length) (λt k u H=>d t k u (by simp[H])) M h hn.2;exact⟨y,z,B,by simp[a2]⟩
theorem MZ{s:Nat->TO}:∀{l:List (Nat×iP×Option (List Wd))} {pre post b rest:List Wd} {t:Nat},ZX s l->b.map (·.t)=qK l->hasK t (kK (pre++(sG l (b++rest)).1++post) pre.length (l.map λp=>(p.1,p.2.1))).1=zj->gG t (vZ l)=zv->
  kC .none (kK (pre++(sG l (b++rest)).1++post) pre.length (l.map λp=>(p.1,p.2.1))).1 t=s t/\∃k u,(t,k,zw u)∈l
 | [],pre,post,b,rest,t,d,c,h,hn=>by cases h
 |(t0,k,zw u)::l,pre,post,b,rest,t,d,c,h,hn=>by
  have hu:=d t0 k u (by simp);have g:=ai7 (vs:=pre++(u++(sG l (b++rest)).1)++post) (n:=pre.length) hu (λj w J=>by rw[W3,Wc (by omega),qS,W3,Wf (Q3.1 J).1];exact J)
  simp only[sG,Qf,kK,g.1,L9,<-g.2]at h ⊢;have e:pre++(u++(sG l (b++rest)).1)++post=(pre++u)++(sG l (b++rest)).1++post:=by simp only[W3]
  rw[e]at h ⊢;have q:pre.length+u.length=(pre++u).length:=by rw[XS]
  rw[q]at h ⊢;simp only[hasK,kC]at h ⊢;cases K:Nat.beq t t0 with
  |true=>have:=Q6 K;subst this;exact⟨rfl,k,u,by simp⟩
  |false=>rw[K,Ka]at h;obtain⟨y,z,B,a2⟩:=MZ (l:=l) (pre:=pre++u) (λt k u H=>d t k u (by simp[H])) c h hn;exact⟨y,z,B,by simp[a2]⟩
 |(t0,k,zz)::l,pre,post,b,rest,t,d,c,h,hn=>by
  simp only[qK]at c;simp only[vZ,gG,J2]at hn;have L:k.tys.length<=b.length:=by have:=W2 List.length c;simp only[We,XS]at this;omega
  have M:(b.drop k.tys.length).map (·.t)=qK l:=by rw[VM,c,Jx]
  have N:(b++rest).take k.tys.length=b.take k.tys.length:=Ki L;have T:(b++rest).drop k.tys.length=b.drop k.tys.length++rest:=K9 L;have m:(b.take k.tys.length).length=k.tys.length:=by rw[VV];omega
  simp only[sG,Qf,kK,L9,N,T]at h ⊢;have e:pre++(b.take k.tys.length++(sG l (b.drop k.tys.length++rest)).1)++post=(pre++b.take k.tys.length)++(sG l (b.drop k.tys.length++rest)).1++post:=by simp only[W3]
  rw[e]at h ⊢;have q:pre.length+k.tys.length=(pre++b.take k.tys.length).length:=by rw[XS,m]
  rw[q]at h ⊢;simp only[hasK,kC,hn.1,Ka,cond_false]at h ⊢;obtain⟨y,z,B,a2⟩:=MZ (pre:=pre++b.take k.tys.length) (λt k u H=>d t k u (by simp[H])) M h hn.2;exact⟨y,z,B,by simp[a2]⟩
end
end Go.Fg

namespace Go.Fg
open Go.Fw
section
variable [RE]
variable{j:JF}
theorem acS{st:jL}(x:Tup j.tys):∃w1 c,Tup.mQ j.tys x=w1++c/\w1.map (·.t)=kF j.slots/\c.map (·.t)=qK j.bI:=by have b:(Tup.mQ j.tys x).map (·.t)=kF j.slots++qK j.bI:=xU _ _;generalize Tup.mQ j.tys x=d at b;exact⟨d.take (kF j.slots).length,d.drop (kF j.slots).length,(K3 _ _).symm,by rw[UT,b,Ks],by rw[VM,b,Jx]⟩
theorem Gx:∀{l:List (Nat×lu×Option (List Wd))} {b rest:List Wd},b.map (·.t)=kF l->(nN l (b++rest)).2=rest
 | [],b,rest,h=>by simp only[kF,List.map_eq_nil_iff]at h;subst h;rfl
 |(t,k,zw u)::l,b,rest,h=>Gx (l:=l) h
 |(t,k,zz)::l,b,rest,h=>by
  simp only[kF]at h;have c:k.tys.length<=b.length:=by have:=W2 List.length h;simp only[We,XS]at this;omega
  have d:(b.drop k.tys.length).map (·.t)=kF l:=by rw[VM,h,Jx]
  have g:(b++rest).drop k.tys.length=b.drop k.tys.length++rest:=K9 c;simp only[nN,g];exact Gx d
theorem Gy{st:jL}(q:JOk st j)(x:Tup j.tys):(∀t,hasK t (zJ j x).s=zj->gG t (newS j.slots)=zv->(zJ j x).gs t=st.gs t/\∃k u,(t,k,zw u)∈j.slots)/\
  ∀g,hasK g (zJ j x).o=zj->gG g (vZ j.bI)=zv->(zJ j x).go g=st.go g/\∃k u,(g,k,zw u)∈j.bI:=by
 obtain⟨w1,d,U,w,y⟩:=acS (st:=st) x;have X:=Gx (rest:=d) w;have M:j.pay (Tup.mQ j.tys x)=(nN j.slots (w1++d)).1++(sG j.bI d).1:=by rw[U];unfold JF.pay;rw[X]
 have z:=λt a b=>Gw (pre:=[]) (post:=(sG j.bI d).1) (rest:=d) (t:=t) q.s w a b;have B:=λt a b=>MZ (pre:=(nN j.slots (w1++d)).1) (post:=[]) (rest:=[]) (t:=t) q.o y a b;simp only[qT,Ke]at z;simp only[K6]at B;rw[<-M]at z B;have H:=Yk q x;have hn:(iq (j.pay (Tup.mQ j.tys x)) 0 j.sh.slots).2=(nN j.slots (w1++d)).1.length:=by
  rw[xQ,Vi];rw[M]at H;have Y :∀(l:List (Nat×lu×Option (List Wd))) (m:VJ st.gs l) (c rest:List Wd),c.map (·.t)=kF l->(nN l (c++rest)).1.length=((l.map λp=>(p.1,p.2.1)).flatMap λp=>p.2.tys).length:=by
   intro l
   induction l with
   |nil=>intro m c rest h;rfl
   |cons p l N=>
    intro m c rest h;obtain⟨t,k,Z⟩:=p;cases Z with
    |some u=>have e:=ZW (m t k u (by simp));have e:=W2 List.length e;rw[We]at e;simp only[nN,XS,Qf,Z6,e];rw[N (λt k u J=>m t k u (by simp[J])) c rest h]
    |none=>
     simp only[kF]at h;have T:k.tys.length<=c.length:=by have:=W2 List.length h;simp only[We,XS]at this;omega
     have y:(c.drop k.tys.length).map (·.t)=kF l:=by rw[VM,h,Jx]
     have K:(c++rest).take k.tys.length=c.take k.tys.length:=Ki T;have L:(c++rest).drop k.tys.length=c.drop k.tys.length++rest:=K9 T;simp only[nN,K,L,XS,Qf,Z6,VV];rw[N (λt k u J=>m t k u (by simp[J])) _ rest y];omega
  exact(Y j.slots q.s w1 d w).symm
 refine⟨λt a b=>z t a b,λg a b=>?_⟩;have K:(zJ j x).o=(kK (j.pay (Tup.mQ j.tys x)) (nN j.slots (w1++d)).1.length (j.bI.map λp=>(p.1,p.2.1))).1:=by rw[<-hn];rfl
 have L:(zJ j x).go g=kC .none (kK (j.pay (Tup.mQ j.tys x)) (nN j.slots (w1++d)).1.length (j.bI.map λp=>(p.1,p.2.1))).1 g:=by rw[<-hn];rfl
 rw[K]at a;rw[L];exact B g a b
variable{o:Nat->TO}
theorem Sl{gs:List Nat}(c:Pl o gs)(x:TW):dn (tpW gs o x)=Zl gs (dw o) (dn x):=by
 cases x with
 |own g=>
  simp only[tpW,dn,Zl,bZ];cases b:gs.contains g with
  |false=>rfl
  |true=>obtain⟨⟨a,i,e,l⟩,hg⟩:=c g (by simpa using b);simp only[cond_true,if_true,hg,(pX hg).1];rfl
 |vw g lo d=>
  simp only[tpW,dn,Zl,bZ];cases b:gs.contains g with
  |false=>rfl
  |true=>obtain⟨⟨a,i,e,l⟩,hg⟩:=c g (by simpa using b);simp only[cond_true,if_true,hg,(pX hg).1,t_];rfl
 |_=>simp only[tpW,dn,Zl]
theorem ZY{gs:List Nat}(b:Pl o gs)(x:TV):kG (tpV gs o x)=plV gs (dw o) (kG x):=by
 cases x with
 |one x=>simp only[tpV,kG,plV,Sl b]
 |agg xs=>simp only[tpV,kG,plV,UP,V.agg.injEq];exact W8 λx _=>Sl b x
theorem ai_{gs:List Nat}(b:Pl o gs)(x:TS):bJ (tpS gs o x)=plS gs (dw o) (bJ x):=by
 cases x with
 |v x=>simp only[tpS,bJ,plS,ZY b]
 |jy xs=>simp only[tpS,bJ,plS,UP,S.jy.injEq];exact W8 λx _=>ZY b x
 |no=>rfl
theorem M_{α:Type}(d:α)(f:Nat->α->α)(hd :∀t,f t d=d):∀(l:List (Nat×α)) (t:Nat),kC d (l.map λp=>(p.1,f p.1 p.2)) t=f t (kC d l t)
 | [],t=>(hd t).symm
 |(k,v)::r,t=>by
  simp only[Qf,kC];cases b:Nat.beq t k with
  |true=>have:=Q6 b;subst this;rfl
  |false=>exact M_ d f hd r t
theorem Z4(gs:List Nat)(st:jL)(t:Nat):(Oy gs st).gs t=match gs with|[]=>st.gs t|g::r=>tpS (g::r) st.go (st.gs t):=by
 cases gs with
 |nil=>rfl
 |cons g r=>exact M_ .no (λ_ x=>tpS (g::r) st.go x) (λ_=>rfl) st.s t
theorem Z5(gs:List Nat)(st:jL)(t:Nat):(Oy gs st).go t=match gs with|[]=>st.go t|g::r=>tpO (g::r) st.go t (st.go t):=by
 cases gs with
 |nil=>rfl
 |cons g r=>exact M_ .none (λt x=>tpO (g::r) st.go t x) (λ_=>rfl) st.o t
theorem Sm(o:Nat->O)(x:W):Zl [] o x=x:=by unfold Zl;split<;>first|rfl|simp
theorem Z7(o:Nat->O)(x:V):plV [] o x=x:=by
 cases x with
 |one x=>simp only[plV,Sm]
 |agg xs=>
  simp only[plV,V.agg.injEq]
  conv=>rhs;rw[<-List.map_id xs]
  exact W8 λx _=>Sm o x
theorem Sr(st:St):fU [] st=st:=by
 refine St.ext' (λt=>?_) (λg=>?_) λg=>rfl
 .show plS [] st.o (st.s t)=st.s t;cases st.s t with
  |v x=>simp only[plS,Z7]
  |jy xs=>
   simp only[plS,S.jy.injEq]
   conv=>rhs;rw[<-List.map_id xs]
   exact W8 λx _=>Z7 _ x
  |no=>rfl
 .show plO [] st.o g=st.o g;unfold plO;cases st.o g with
  |box b=>
   simp only[O.box.injEq]
   conv=>rhs;rw[<-List.map_id b]
   exact W8 λx _=>Sm _ x
  |_=>simp
theorem VK{gs:List Nat}{st:jL}(d:Pl st.go gs):bD (Oy gs st)=fU gs (bD st):=by
 cases gs with
 |nil=>rw[Sr];rfl
 |cons g r=>
  refine St.ext' (λt=>?_) (λk=>?_) λk=>rfl
  .show bJ ((Oy (g::r) st).gs t)=plS (g::r) (dw st.go) (bJ (st.gs t));rw[Z4];exact ai_ d _
  .show eH ((Oy (g::r) st).go k)=plO (g::r) (dw st.go) k;rw[Z5];simp only;have h:dw st.go k=eH (st.go k):=rfl;cases b:st.go k with
   |none=>
    have hd:dw st.go k=.none:=by rw[h,b];rfl
    simp only[tpO,plO,hd];split
    .simp [Fw.bC,plainO,hd,eH]
    .rfl
   |box q=>simp only[tpO,plO,pW b,eH,UP,O.box.injEq];exact W8 λx _=>Sl d x
   |arr w a i e l=>
    simp only[tpO,plO,iY b,eH,bZ];cases j:(g::r).contains k with
    |false=>simp
    |true=>simp[Fw.bC,plainO,iY b]
   |it s n=>
    have hd:dw st.go k=.it (.str ⟨s.toArray⟩) (.int .i64 n):=by rw[h,b];rfl
    simp only[tpO,plO,hd];split
    .simp [Fw.bC,plainO,hd,eH]
    .rfl
   |aO a i e m l c=>
    have hd:dw st.go k=.aO a i (size e) (gY m) (aK e l) c:=by rw[h,b];rfl
    simp only[tpO,plO,hd,bZ];cases j:(g::r).contains k with
    |false=>simp only[cond_false,Wb,if_false];rfl
    |true=>simp only[cond_true,if_true];have:=LC (d k (by simpa using j));rw[this]
theorem afK{gs:List Nat}{x:TW}(h:(W.namesT x).all (λg=>!gG g gs)=zj):tpW gs o x=x:=by
 cases x with
 |own g=>
  have h:gG g gs=zv:=by simpa[W.namesT]using h
  simp only[tpW,h,cond_false]
 |vw g lo b=>
  have h:gG g gs=zv:=by simpa[W.namesT]using h
  simp only[tpW,h,cond_false]
 |_=>rfl
theorem Sv{gs:List Nat}{o:Nat->TO}:∀{xs:List TW},((xs.flatMap W.namesT).all λg=>!gG g gs)=zj->xs.map (tpW gs o)=xs
 | [],_=>rfl
 |x::xs,h=>by simp only[Z6,List.all_append,QR]at h;simp only[Qf,afK h.1,Sv h.2]
theorem afL{gs:List Nat}{x:TV}(h:((V.namesT x).all λg=>!gG g gs)=zj):tpV gs o x=x:=by
 cases x with
 |one x=>simp only[tpV,afK (x:=x) h]
 |agg xs=>simp only[tpV,Sv (xs:=xs) h]
theorem VL{gs:List Nat}{x:TS}(h:Yh gs x=zj):tpS gs o x=x:=by
 cases x with
 |v x=>simp only[tpS,afL (x:=x) h]
 |jy xs=>
  simp only[tpS,TS.jy.injEq];have :∀(xs:List TV),((xs.flatMap V.namesT).all λg=>!gG g gs)=zj->xs.map (tpV gs o)=xs:=by
   intro xs
   induction xs with
   |nil=>intro _;rfl
   |cons x xs b=>intro h;simp only[Z6,List.all_append,QR]at h;simp only[Qf,afL h.1,b h.2]
  exact this xs h
 |no=>rfl
theorem VN{gs:List Nat}{x:TO}(h:LZ gs n x=zj):tpO gs o n x=x:=by
 cases x with
 |none=>rfl
 |box c=>simp only[tpO,Sv (xs:=c) h]
 |arr d a i e l=>
  have h:gG n gs=zv:=by simpa[LZ]using h
  simp only[tpO,h,za]
 |it s g=>rfl
 |aO a i e j l b=>
  have h:gG n gs=zv:=by simpa[LZ]using h
  simp only[tpO,h,cond_false]
theorem Gz{gs:List Nat}{s:Nat->TS}:∀{l:List (Nat×lu×Option (List Wd))},afl gs s l=zj->∀t k u,(t,k,zw u)∈l->Yh gs (s t)=zj
 | [],h,t,k,u,hm=>by cases hm
 |(t0,b,zw c)::l,h,t,k,u,hm=>by
  simp only[afl,QR]at h;rcases Xs.1 hm with hm|hm
  .cases hm;exact h.1
  .exact Gz h.2 t k u hm
 |(t0,b,zz)::l,h,t,k,u,hm=>by
  rcases Xs.1 hm with hm|hm
  .cases hm
  .exact Gz (l:=l) h t k u hm
theorem GH{gs:List Nat}{s:Nat->TO}:∀{l:List (Nat×iP×Option (List Wd))},afm gs s l=zj->∀t k u,(t,k,zw u)∈l->LZ gs t (s t)=zj
 | [],h,t,k,u,hm=>by cases hm
 |(t0,b,zw c)::l,h,t,k,u,hm=>by
  simp only[afm,QR]at h;rcases Xs.1 hm with hm|hm
  .cases hm;exact h.1
  .exact GH h.2 t k u hm
 |(t0,b,zz)::l,h,t,k,u,hm=>by
  rcases Xs.1 hm with hm|hm
  .cases hm
  .exact GH (l:=l) h t k u hm
theorem Z8{gs:List Nat}{st:jL}(h:ani st.go gs=zj):aiB (bD st).o gs=zj/\Pl st.go gs:=by
 have j:Pl st.go gs:=λg hg=>by
  have:=(Z3.1 h) g hg;simp only[plB,QR]at this;cases b:oU st.go g with
  |some p=>exact⟨p,rfl⟩
  |none=>rw[b]at this;cases this.1
 refine⟨Z3.2 λg hg=>?_,j⟩;obtain⟨⟨a,i,e,l⟩,b⟩:=j g hg;have:=(Z3.1 h) g hg;simp only[QR]at this;obtain⟨c,d⟩:=pX b;have c:plainO (bD st).o g=_:=c;have d:((bD st).o g).names=_:=d;rw[c,d];simp only[Option.isSome_some,Bool.true_and];have m:=this.2;simp only[bZ]at m;exact m
theorem qj(keep:List Nat):∀(hs:List Nat) (st:jL),bD (oW keep hs st).2=Fw.shuts (oW keep hs st).1 (bD st)
 | [],st=>rfl
 |g::gs,st=>by
  simp only[oW];split
  rotate_left
  exact qj keep gs st;rename_i d a i e h l b c;split
  .simp only[Fw.shuts];rw[qj keep gs,ML];have:=P5 b c;have this:Fw.lD (bD st).o g=_:=this;rw[this]
  .exact qj keep gs st
theorem uh{keep:List Nat}{t:Nat}(b:gG t keep=zj):∀(hs:List Nat) (st:jL),(oW keep hs st).2.go t=st.go t
 | [],st=>rfl
 |g::gs,st=>by
  simp only[oW];split
  rotate_left
  exact uh b gs st;rename_i d a i e j l y z;split
  rotate_left
  exact uh b gs st;rename_i m;obtain⟨c,h⟩:=jm m;rw[uh b gs];show kC .none (Ey st.o [(g,.aO a i e j l zz),(d,.none)]) t=kC .none st.o t;rw[zN];have q:(t==g)=zv:=by simp only[beq_eq_false_iff_ne];intro e;subst e;rw[b]at c;cases c
  have w:(t==d)=zv:=by simp only[beq_eq_false_iff_ne];intro e;subst e;rw[b]at h;cases h
  simp only[List.lookup,q,w]
theorem EO(keep:List Nat):∀(hs:List Nat) (st:jL),(oW keep hs st).2.s=st.s
 | [],st=>rfl
 |g::gs,st=>by
  simp only[oW];split
  .split
   .rw [EO keep gs]
   .exact EO keep gs st
  .exact EO keep gs st
theorem GK:∀{l:List (Nat×iP×Option (List Wd))} {t:Nat} {k:iP} {u:List Wd},(t,k,zw u)∈l->gG t (BG l)=zj
 | [],t,k,u,h=>by cases h
 |(t0,b,zw c)::l,t,k,u,h=>by
  simp only[BG,gG,Kb];rcases Xs.1 h with h|h
  .cases h;exact .inl (by simp)
  .exact .inr (GK h)
 |(t0,b,zz)::l,t,k,u,h=>by
  rcases Xs.1 h with h|h
  .cases h
  .exact GK (l:=l) h
variable{q:kJ}
theorem qM{q0:kJ}{K:Tup j.tys->Prog R}{r:R}(N:JOk q0.st j)(hr:ug q0 q)(h:(yE l j q K).run=zw r):
  ∃x,(K x).run=zw r/\Back l j.sh.er (bD q.st) λvs=>vs=(j.pay (Tup.mQ j.tys x)).map dL:=by
 unfold yE at h;simp only at h;split at h;exact(dI h).elim;rename_i w;obtain⟨w,T⟩:=jm w;obtain⟨w,U⟩:=jm w;obtain⟨w,X⟩:=jm w;obtain⟨w,Y⟩:=jm w;obtain⟨h1,h2⟩:=jm w;have c:=qj (BG j.bI) (RP q.st.o) q.st;have d:=λt (ht:gG t (BG j.bI)=zj)=>uh ht (RP q.st.o) q.st;have B:=EO (BG j.bI) (RP q.st.o) q.st;generalize (oW (BG j.bI) (RP q.st.o) q.st).1=Z at c;generalize (oW (BG j.bI) (RP q.st.o) q.st).2=m at h Y X U T c d B;generalize hgs:ank l j.sh m=gs at h Y X U T;split at h;exact(dI h).elim;rename_i vs b;split at h;exact(dI h).elim;rename_i x hx;refine⟨x,h,?_⟩;have H:j.pay (Tup.mQ j.tys x)=vs:=by
  rw[JC _ hx];unfold Et at b;split at b
  rotate_left
  cases b;split at b
  rotate_left
  cases b;rename_i u v hu hv;cases b;have kS :∀t k u,(t,k,zw u)∈j.slots->(Oy gs m).gs t=q0.st.gs t:=λt k u y=>by
   obtain⟨a1,a2⟩:=Dc h1 t k u y;have a3:=Gz U t k u y;have a4:m.gs t=q.st.gs t:=by unfold jL.gs;rw[B]
   rw[<-(hr.s t a1 a2).2.2,Z4,<-a4];cases gs with
   |nil=>rfl
   |cons g r=>exact VL a3
  have kO :∀t k u,(t,k,zw u)∈j.bI->(Oy gs m).go t=q0.st.go t/\(Py j.bI++derive l j.sh (Oy gs m)).lookup t=zw (zw t):=λt k u y=>by
   obtain⟨a1,a2⟩:=Df h2 t k u y;have a3:=GH T t k u y;refine⟨?_,xY y⟩;rw[<-(hr.o t a1 a2).2.2,Z5,<-d t (GK y)];cases gs with
   |nil=>rfl
   |cons g r=>exact VN a3
  obtain⟨e,e1,_,e3⟩:=EL (rest:=v) (mP:=[]) N.s kS hu;obtain⟨e',z,_,e3'⟩:=EM (rest:=[]) (mP:=[]) N.o kO hv;obtain⟨e2,J,e22,_⟩:=EL (rest:=v) (mP:=e') N.s kS hu;rw[e1]at J;have:e=e2:=(Prod.mk.inj J).1;subst this;obtain⟨e4,L,M,_⟩:=EM (rest:=[]) (mP:=[]) N.o kO hv;rw[z]at L;have:e'=e4:=(Prod.mk.inj L).1;subst this;rw[K6]at z M;unfold JF.ext;rw[e1];simp only;rw[z];unfold JF.pay;simp only;rw[e22];simp only;rw[M]
 rw[H];obtain⟨c1,c2⟩:=MC b;obtain⟨f1,f2⟩:=Z8 X;rw[VK f2,c]at c1;rw[c]at f1;exact .mk Z gs _ _ f1 Y c1 rfl
theorem ug.fresh{c:kJ}(h:ug q.fresh c):ug q (c.since q):=by
 refine⟨λt d b=>?_,λg d b=>?_⟩
 .have b:gG t (c.ds++q.ds)=zv:=b;rw[bZ]at b;simp only[vl,J2]at b;rw[<-bZ,<-bZ]at b;obtain⟨j,a2,a3⟩:=h.s t d b.1;exact⟨j,b.2,a3⟩
 .have b:gG g (c.od++q.od)=zv:=b;rw[bZ]at b;simp only[vl,J2]at b;rw[<-bZ,<-bZ]at b;obtain⟨j,a2,a3⟩:=h.o g d b.1;exact⟨j,b.2,a3⟩
theorem wE{a b:List Nat}(h:gG n (a++b)=zv):gG n a=zv/\gG n b=zv:=by rw[bZ]at h;simp only[vl,J2]at h;rw[<-bZ,<-bZ]at h;exact h
theorem afM{st:jL}(h:st.gs n≠.no):hasK n st.s=zj:=by
 cases b:hasK n st.s with
 |true=>rfl
 |false=>exact absurd (wz TS.no st.s n b) h
theorem afN{st:jL}(h:st.go n≠.none):hasK n st.o=zj:=by
 cases b:hasK n st.o with
 |true=>rfl
 |false=>exact absurd (wz TO.none st.o n b) h
theorem Z9{x:TS}{y:lu×List Wd}(h:RJ x=zw y):x≠.no:=by intro e;subst e;cases h
theorem Z_{x:TO}{y:iP×List Wd}(h:yL x=zw y):x≠.none:=by intro e;subst e;cases h
theorem aja(c:JOk q.st j)(x:Tup j.tys):ug q ⟨zJ j x,newS j.slots++q.ds,vZ j.bI++q.od⟩:=by
 obtain⟨B,H⟩:=Gy c x;refine⟨λt d h=>?_,λg d h=>?_⟩
 .obtain ⟨m,w⟩:=wE (a:=newS j.slots) (b:=q.ds) h;obtain⟨y,k,u,z⟩:=B t d m;exact⟨afM (Z9 (c.s t k u z)),w,y⟩
 .obtain ⟨m,w⟩:=wE (a:=vZ j.bI) (b:=q.od) h;obtain⟨y,k,u,z⟩:=H g d m;exact⟨afN (Z_ (c.o g k u z)),w,y⟩
theorem P9{d:kJ}(m:JOk q.st j){x:Tup j.tys}(h:ug ⟨zJ j x,[],[]⟩ d):ug q (d.since ⟨d.st,newS j.slots++q.ds,vZ j.bI++q.od⟩):=by
 obtain⟨L,M⟩:=Gy m x;refine⟨λt w y=>?_,λg w y=>?_⟩
 .obtain ⟨z,c⟩:=wE (a:=d.ds) (b:=newS j.slots++q.ds) y;obtain⟨c,B⟩:=wE c;obtain⟨H,a2,a3⟩:=h.s t w z;obtain⟨J,k,u,K⟩:=L t H c;exact⟨afM (Z9 (m.s t k u K)),B,a3.trans J⟩
 .obtain ⟨z,c⟩:=wE (a:=d.od) (b:=vZ j.bI++q.od) y;obtain⟨c,B⟩:=wE c;obtain⟨H,a2,a3⟩:=h.o g w z;obtain⟨J,k,u,K⟩:=M g H c;exact⟨afN (Z_ (m.o g k u K)),B,a3.trans J⟩
theorem IJ(vs:List Wd)(t:Nat):∀(n:Nat) (l:List (Nat×lu)),hasK t (iq vs n l).1=hasK t l
 |n,[]=>rfl
 |n,(t0,k)::l=>by simp only[iq,hasK,IJ vs t]
theorem IK(vs:List Wd)(t:Nat):∀(n:Nat) (l:List (Nat×iP)),hasK t (kK vs n l).1=hasK t l
 |n,[]=>rfl
 |n,(t0,k)::l=>by simp only[kK,hasK,IK vs t]
theorem Na{α:Type}{t:Nat}{x:α}:∀{l:List (Nat×α)},(t,x)∈l->hasK t l=zj
 | [],h=>by cases h
 |(t0,y)::l,h=>by
  simp only[hasK,Kb];rcases Xs.1 h with h|h
  .cases h;exact .inl (by simp)
  .exact .inr (Na h)
theorem ajb{st:jL}(b:JOk st j)(x:Tup j.tys):JOk (zJ j x) j:=by
 obtain⟨g,h⟩:=Gy b x;refine⟨λt k u c=>?_,λt k u c=>?_,b.ds,b.dO⟩
 .have d:hasK t (zJ j x).s=zj:=by show hasK t (iq _ 0 j.sh.slots).1=zj;rw[IJ];exact Na (x:=k) (XN.2 ⟨(t,k,zw u),c,rfl⟩)
  rw[(g t d (b.ds t k u c)).1];exact b.s t k u c
 .have d:hasK t (zJ j x).o=zj:=by show hasK t (kK _ _ j.sh.bI).1=zj;rw[IK];exact Na (x:=k) (XN.2 ⟨(t,k,zw u),c,rfl⟩)
  rw[(h t d (b.dO t k u c)).1];exact b.o t k u c
structure KSm{R:Type}(q:kJ)(K:TK R)(r:R)(Kp:Ei):Prop where
 n :∀q',ug q q'->(K.n q').run=zw r->Kp.n (bD q'.st)
 x :∀id q',ug q q'->(K.x id q').run=zw r->Kp.x id (bD q'.st)
 r :∀q',ug q q'->(K.r q').run=zw r->Kp.r (bD q'.st)
theorem KSm.from{q1:kJ}{K:TK R}{r:R}{Kp:Ei}(h:KSm q K r Kp)(d:ug q q1):KSm q1 K r Kp:=⟨λc a b=>h.n c (d.trans a) b,λid c a b=>h.x id c (d.trans a) b,λc a b=>h.r c (d.trans a) b⟩
theorem JD{p:Prog R}{r:R}(h:(p.map (Sum.inr:R->A ⊕ R)).run=zw (.inr r)):p.run=zw r:=by
 rw[run_map _ (λa b e=>Sum.inr.inj e)]at h;cases c:p.run with
 |none=>rw[c]at h;cases h
 |some a=>rw[c]at h;cases h;rfl
theorem xZ{p:Prog R}{x:A}(h:(p.map (Sum.inr:R->A ⊕ R)).run=zw (.inl x)):False:=by
 rw[run_map _ (λa b e=>Sum.inr.inj e)]at h;cases d:p.run with
 |none=>rw[d]at h;cases h
 |some a=>rw[d]at h;cases h
theorem Nb{early:Bool}{Z:JT}{here:Nat->Bool}{inner:(L:Type)->kJ->TK L->Prog L}{K:TK R}{r:R}{E:St->Ei->Prop}{Kp:Ei}
  (J :∀(L:Type) (b:kJ) (X:TK L) (Y:L) (M:Ei),(inner L b X).run=zw Y->KSm b X Y M->E (bD b.st) M)
  (h:(Pz l early Z here q inner K).run=zw r) (N:KSm q K r Kp):E (bD q.st) { n:=Wk l Kp.n,x:=λid st=>bif here id then Wk l Kp.n st else Kp.x id st,r:=Kp.r }:=by
 unfold Pz at h;split at h;exact(dI h).elim;rename_i j T;have U:=afJ T;have w:JOk q.fresh.st j:=U;have fin :∀(x:Tup j.tys),(frX ⟨zJ j x,newS j.slots++q.ds,vZ j.bI++q.od⟩ K.n).run=zw r->∀b:kJ,Back l j.sh.er (bD b.st) (λvs=>vs=(j.pay (Tup.mQ j.tys x)).map dL)->Wk l Kp.n (bD b.st):=by intro x B b z;rw[uX]at B;have hn:=N.n _ (aja U x) B;refine .back j.sh.er ?_;obtain⟨hs,gs,m,vs,h0,h1,h2,rfl⟩:=z;refine⟨hs,gs,m,_,h0,h1,h2,?_⟩;have e:=zL (Yk U x);have hn:Kp.n (bD (mkT j.sh (j.pay (Tup.mQ j.tys x)))):=hn;rw[e]at hn;exact hn
 split at h
 .obtain ⟨x,hi,B⟩:=afG h;refine J _ q.fresh _ x _ hi ⟨λb g c=>?_,λid b g c=>?_,λb g c=>(dI c).elim⟩
  .obtain ⟨y,d,z⟩:=qM w g c;have d:zw y=zw x:=d;cases d;exact fin _ B b z
  .show (bif here id then Wk l Kp.n (bD b.st)else Kp.x id (bD b.st));have c:(bif here id then yE l j b .ret else .stuck 41:Prog _).run=zw x:=c;cases H:here id with
   |true=>rw[H]at c;obtain⟨y,d,z⟩:=qM w g c;have d:zw y=zw x:=d;cases d;exact fin _ B b z
   |false=>rw[H]at c;exact(dI c).elim
 .rcases acR h with⟨x,hi,B⟩|hi
  .refine J _ q.fresh _ (Sum.inl x) _ hi ⟨λb g c=>?_,λid b g c=>?_,λb g c=>(xZ c).elim⟩
   .obtain ⟨y,d,z⟩:=qM w g c;have d:zw (Sum.inl y:Tup j.tys ⊕ R)=zw (.inl x):=d;cases d;exact fin _ B b z
   .show (bif here id then Wk l Kp.n (bD b.st)else Kp.x id (bD b.st));have c:(bif here id then yE l j b (λx=>.ret (.inl x))else(K.x id (b.since q)).map .inr:Prog (Tup j.tys ⊕ R)).run=zw (.inl x):=c;cases H:here id with
    |true=>rw[H]at c;obtain⟨y,d,z⟩:=qM w g c;have d:zw (Sum.inl y:Tup j.tys ⊕ R)=zw (.inl x):=d;cases d;exact fin _ B b z
    |false=>rw[H]at c;exact(xZ c).elim
  .refine J _ q.fresh _ (Sum.inr r) _ hi ⟨λb g c=>?_,λid b g c=>?_,λb g c=>?_⟩
   .obtain ⟨y,d,z⟩:=qM w g c;have d:zw (Sum.inl y:Tup j.tys ⊕ R)=zw (.inr r):=d;cases d
   .show (bif here id then Wk l Kp.n (bD b.st)else Kp.x id (bD b.st));have c:(bif here id then yE l j b (λx=>.ret (.inl x))else(K.x id (b.since q)).map .inr:Prog (Tup j.tys ⊕ R)).run=zw (.inr r):=c;cases H:here id with
    |true=>rw[H]at c;obtain⟨y,d,z⟩:=qM w g c;have d:zw (Sum.inl y:Tup j.tys ⊕ R)=zw (.inr r):=d;cases d
    |false=>rw[H]at c;exact N.x id (b.since q) (ug.fresh g) (JD c)
   .exact N.r (b.since q) (ug.fresh g) (JD c)
theorem least{p:Nat->Prop}:(∃n,p n)->∃n,p n/\∀k,k<n->¬ p k:=by
 rintro ⟨n,hn⟩
 induction n using Nat.strongRecOn with
 |ind n d=>
  by_cases h :∃k,k<n/\p k
  .obtain ⟨k,b,c⟩:=h;exact d k b c
  .exact ⟨n,hn,λk b c=>h ⟨k,b,c⟩⟩
open Classical in
noncomputable def Nc(p:Nat->Prop):Nat:=if h :∃n,p n then Classical.choose (least h)else 0
theorem IL{p:Nat->Prop}(h :∃n,p n):p (Nc p)/\∀k,p k->Nc p<=k:=by unfold Nc;rw[dif_pos h];obtain⟨c,d⟩:=zd (least h);exact⟨c,λk g=>vj λb=>d k b g⟩
theorem acT{T:lQ}{tt:TT}{ety:TypeId->Option Ty}{N:Nat}:∀(c:Code) {bH:List Nat} {R:Type} {a:fG} {q:kJ} {K:TK R} {r:R} {Kp:Ei},(oZ T tt ety N bH c R a q K).run=zw r->KSm q K r Kp->
  exec (nO T) tt N bH c (bD q.st) Kp:=by
 intro c
 induction c with
 |skip=>intro bH R a q K r Kp h g;exact g.n q (ug.refl q) h
 |region id ops draw=>
  intro bH R a q K r Kp h g;show tX (nO T) tt N ops draw (bD q.st) (Wk bH Kp.n);have h:(match a with
   |.meet e j _=>Pz bH e j (λ_=>zv) q (λ_ q K=>xO T tt ety N ops draw q K.n) K
   |_=>xO T tt ety N ops draw q K.n).run=zw r:=h
  have plain:(xO T tt ety N ops draw q K.n).run=zw r->tX (nO T) tt N ops draw (bD q.st) (Wk bH Kp.n):=λh=>MS h λd J H=>.now (g.n d J H);cases a with
  |meet e j a=>exact Nb (E:=λst K=>tX (nO T) tt N ops draw st K.n) (λR' d K' X Y h U=>MS h λq'' J H=>U.n q'' J H) h g
  |_=>exact plain h
 |seq x y Zm Z=>intro bH R a q K r Kp h g;refine Zm h ⟨λd J H=>Z H (g.from J),g.x,g.r⟩
 |cond c x y Zm Z=>
  intro bH R a q K r Kp h g;have body :∀(R:Type) (a:fG) (q:kJ) (K:TK R) (r:R) (Kp:Ei),(Zz c q (λq=>oZ T tt ety N bH x R a.fst q K) λq=>oZ T tt ety N bH y R a.snd q K).run=zw r->KSm q K r Kp->(match (bD q.st).dK c with
    |.v (.one (.p _ _ (.bool b)))=>bif b then exec (nO T) tt N bH x (bD q.st) Kp else exec (nO T) tt N bH y (bD q.st) Kp
    |_=>False):=by
   intro R a q K r Kp h g;unfold Zz at h;split at h
   rotate_left
   exact(dI h).elim;rename_i a' i' b M;change Bool at b;have hb':(bD q.st).dK c=.v (.one (.p a' i' (.bool b))):=by rw[mJ,M];rfl
   rw[hb'];simp only;have kn:bD (knT c a' i' b q).st=bD q.st/\ug q (knT c a' i' b q):=by
    unfold knT;cases c with
    |tmp t=>have M:q.st.gs t=.v (.one (.p a' i' (jE b))):=M;exact⟨zO M,zQ M⟩
    |_=>exact⟨rfl,ug.refl q⟩
   cases b with
   |true=>have h:(frX (knT c a' i' zj q) λq=>oZ T tt ety N bH x R a.fst q K).run=zw r:=h;rw[uX]at h;have:=Zm h (g.from kn.2);rw[kn.1]at this;exact this
   |false=>have h:(frX (knT c a' i' zv q) λq=>oZ T tt ety N bH y R a.snd q K).run=zw r:=h;rw[uX]at h;have:=Z h (g.from kn.2);rw[kn.1]at this;exact this
  cases a with
  |meet e j a=>
   exact Nb (E:=λst K=>match st.dK c with
    |.v (.one (.p _ _ (.bool b)))=>bif b then exec (nO T) tt N bH x st K else exec (nO T) tt N bH y st K
    |_=>False) (λR' d K' X Y h U=>body R' a d K' X Y h U) h g
  |nil=>exact body R .nil q K r { n:=Wk bH Kp.n,x:=Kp.x,r:=Kp.r } h ⟨λd a b=>.now (g.n d a b),g.x,g.r⟩
  |seq a b=>exact body R (.seq a b) q K r { n:=Wk bH Kp.n,x:=Kp.x,r:=Kp.r } h ⟨λd a b=>.now (g.n d a b),g.x,g.r⟩
  |range j s a=>exact body R (.range j s a) q K r { n:=Wk bH Kp.n,x:=Kp.x,r:=Kp.r } h ⟨λd a b=>.now (g.n d a b),g.x,g.r⟩
  |loop j a=>exact body R (.loop j a) q K r { n:=Wk bH Kp.n,x:=Kp.x,r:=Kp.r } h ⟨λd a b=>.now (g.n d a b),g.x,g.r⟩
 |block id c ih=>
  intro bH R a q K r Kp h g;have plain :∀(a:fG),(oZ T tt ety N bH c R a q { n:=K.n,x:=λw d=>bif Nat.beq w id then K.n d else K.x w d,r:=K.r }).run=zw r->exec (nO T) tt N bH (.block id c) (bD q.st) Kp:=by
   intro a h;refine ih h ⟨λd J H=>.now (g.n d J H),λw d J H=>?_,g.r⟩;show (bif Nat.beq w id then Wk bH Kp.n (bD d.st)else Kp.x w (bD d.st));have H:(bif Nat.beq w id then K.n d else K.x w d).run=zw r:=H;cases M:Nat.beq w id with
   |true=>rw[M]at H;exact .now (g.n d J H)
   |false=>rw[M]at H;exact g.x w d J H
  cases a with
  |meet e j a=>
   have:=Nb (E:=λst K=>exec (nO T) tt N bH c st K) (λR' d K' X Y h U=>ih h U) h g;have e :∀w,Nat.beq id w=Nat.beq w id:=λw=>by rw[Bool.eq_iff_iff];simp;exact⟨λh=>h.symm,λh=>h.symm⟩
   show exec (nO T) tt N bH c (bD q.st) { n:=Wk bH Kp.n,x:=λw st'=>bif Nat.beq w id then Wk bH Kp.n st' else Kp.x w st',r:=Kp.r };simp only[e]at this;exact this
  |nil=>exact plain _ h
  |seq a b=>exact plain _ h
  |loop j a=>exact plain _ h
  |range j s a=>exact plain _ h
 |loop c ih=>
  intro bH R a q K r Kp h g;cases a with
  |loop jt a=>
   unfold oZ at h;simp only at h;split at h;exact(dI h).elim;rename_i j hjo;have hj:=afJ hjo;have hjf:JOk q.fresh.st j:=hj;obtain⟨x0,hx0,hb0⟩:=qM hjf (ug.refl q.fresh) h;obtain⟨n0,hn0⟩:=afH hx0;generalize hB:(λz=>(frX ⟨zJ j z,[],[]⟩ λd=>oZ T tt ety N bH c (Tup j.tys ⊕ R) a d
     { n:=λd=>yE bH j d λx=>.ret (.inl x),x:=λid d=>(K.x id (d.since ⟨d.st,newS j.slots++q.ds,vZ j.bI++q.od⟩)).map .inr,r:=λd=>(K.r (d.since ⟨d.st,newS j.slots++q.ds,vZ j.bI++q.od⟩)).map .inr }).run)=B at hn0
   let P:List P->Nat->Prop:=λvs n=>∃x,vs=(j.pay (Tup.mQ j.tys x)).map dL/\jF B n x=zw r
   refine .mk j.sh.er (λvs=>∃n,P vs n) (λvs=>Nc (P vs)) ?_ ?_
   .obtain ⟨hs,gs,m,vs,h0,h1,h2,rfl⟩:=hb0;exact⟨hs,gs,m,_,h0,h1,h2,n0,x0,rfl,hn0⟩
   .intro us hI;obtain⟨⟨x,hus,L⟩,hmin⟩:=IL hI;generalize hn:Nc (P us)=n at L hmin;cases n with
    |zero=>cases L
    |succ n=>
     simp only[jF]at L;cases M:B x with
     |none=>rw[M]at L;cases L
     |some v=>
      rw[M]at L;have hb2:=M;rw[<-hB]at hb2;simp only[uX]at hb2;have e:=zL (Yk hj x);rw[<-hus]at e;rw[<-e];refine ih hb2 ⟨λd J H=>?_,λid d J H=>?_,λd J H=>?_⟩
      .obtain ⟨y,hy,hbk⟩:=qM (q0:=⟨zJ j x,[],[]⟩) (ajb hj x) J H;have hy:zw (Sum.inl y:Tup j.tys ⊕ R)=zw v:=hy;cases hy;have L:jF B n y=zw r:=L;obtain⟨hs,gs,m,vs,h0,h1,h2,rfl⟩:=hbk;have hP:P ((j.pay (Tup.mQ j.tys y)).map dL) n:=⟨y,rfl,L⟩;refine⟨hs,gs,m,_,h0,h1,h2,⟨n,hP⟩,?_⟩;have:=(IL ⟨n,hP⟩).2 n hP;omega
      .cases v with
       |inl y=>exact(xZ H).elim
       |inr X=>have L:zw X=zw r:=L;cases L;exact g.x id (d.since ⟨d.st,newS j.slots++q.ds,vZ j.bI++q.od⟩) (P9 hj J) (JD H)
      .cases v with
       |inl y=>exact(xZ H).elim
       |inr X=>have L:zw X=zw r:=L;cases L;exact g.r (d.since ⟨d.st,newS j.slots++q.ds,vZ j.bI++q.od⟩) (P9 hj J) (JD H)
  |nil=>exact(dI h).elim
  |seq a b=>exact(dI h).elim
  |meet e j a=>exact(dI h).elim
  |range j s a=>exact(dI h).elim
 |exit id=>intro bH R a q K r Kp h g;exact g.x id q (ug.refl q) h
 |ret=>intro bH R a q K r Kp h g;exact g.r q (ug.refl q) h
 |label l=>intro bH R a q K r Kp h g;exact g.n q (ug.refl q) h
 |scope c ih=>intro bH R a q K r Kp h g;exact ih h g
 |_=>intro bH R a q K r Kp h;exact(dI h).elim
end
end Go.Fg

namespace Go.Fg
open Go.Fw
section
variable [RE]
theorem afO{tt:TT}{st:jL}{r:ResultVar}{x:TS}(h:ZA tt st r=zw x):aci tt (bD st) r=zw (bJ x):=by
 cases r with
 |tmp t=>simp only[ZA,Q0]at h;subst h;rfl
 |cell a t=>
  simp only[ZA]at h;split at h
  rotate_left
  cases h;rename_i i g off d j;split at h
  rotate_left
  cases h;rename_i m hg;obtain⟨q,h⟩:=cZ h;cases h;obtain⟨w,y⟩:=jm q;have b:(bD st).s a=.v (.one (.box g off)):=by show bJ (st.gs a)=_;rw[j];rfl
  have c:(bD st).o g=.box (m.map dn):=pW hg;simp only[aci,d,b,c,We];rw[QQ ⟨WD w,Ou y⟩,mG,UT,VM]
theorem P_{tt:TT}{st:jL}:∀{b:List ResultVar} {xs:List TS},L6 tt st b=zw xs->Iq tt (bD st) b=zw (xs.map bJ)
 | [],xs,h=>by simp only[L6,Q0]at h;subst h;rfl
 |r::b,xs,h=>by
  simp only[L6]at h;split at h
  .rename_i c d;cases h;simp only[Iq,afO c,P_ d,Qf]
  .cases h
theorem VO:∀(xs:List TS) (n k:Nat),kC .no (Yi n xs) (n+k)=xs.getD k .no
 | [],n,k=>rfl
 |x::xs,n,0=>by simp[Yi,kC]
 |x::xs,n,k+1=>by
  have:Nat.beq (n+(k+1)) n=zv:=by
   cases h:Nat.beq (n+(k+1)) n with
   |false=>rfl
   |true=>have:=Q6 h;omega
  simp only[Yi,kC,this,cond_false,List.getD_cons_succ];have e:n+(k+1)=(n+1)+k:=by omega
  rw[e];exact VO xs (n+1) k
theorem aac{tt:TT}{sp:b_}{ts:List ResultVar}{q:kJ}{y:Tup sp.aU.tys}(h:(aiT tt sp ts q).run=zw y):Fw.Fin tt sp.er ts ((Tup.mQ sp.aU.tys y).map dL) (bD q.st):=by
 unfold aiT at h;split at h;exact(dI h).elim;rename_i xs b;simp only at h;split at h;exact(dI h).elim;rename_i c;obtain⟨c,d⟩:=jm c;split at h;exact(dI h).elim;rename_i vs j;split at h;exact(dI h).elim;rename_i x w;have h:zw x=zw y:=h;cases h;unfold Fw.Fin;rw[P_ b];simp only;obtain⟨m,z⟩:=MC j;have e:bD { s:=Yi 0 xs,o:=q.st.o,u:=q.st.u }=U5 (xs.map bJ) (bD q.st):=by refine St.ext' (λt=>?_) (λg=>rfl) λg=>rfl;show bJ (kC .no (Yi 0 xs) t)=(xs.map bJ).getD t .no;have:=VO xs 0 t;rw[Vi]at this;rw[this,PK]
 obtain⟨f1,f2⟩:=Z8 d;rw[VK f2,qj,e]at m;rw[qj,e]at f1;refine .mk _ _ _ _ f1 c m ?_;rw[JC _ w]
def aA(Pg:Program)(f:FuncId)(sp:aV):Prop:=Sound Pg f sp.er
def lQ.of(l:List (Nat×aV)):lQ:=λf=>l.lookup f
def acU(Pg:Program):List (Nat×aV)->Prop
 | []=>True
 |p::r=>aA Pg (p.1 % 1000000) p.2/\acU Pg r
theorem acU.sound:∀{l:List (Nat×aV)},acU h l->∀f sp,nO (lQ.of l) f=zw sp->Sound h (f % 1000000) sp
 | [],_,f,sp,Pg=>by cases Pg
 |(g,s)::l,⟨b,c⟩,f,sp,Pg=>by
  simp only[nO,lQ.of,List.lookup]at Pg;split at Pg
  .rename_i e;have e:f=g:=by simpa using e
   subst e;cases Pg;exact b
  .exact acU.sound c f sp Pg
theorem eX{Pg:Program}{f:FuncId}{fn:Func}{c:Code}{sp:aV}(hf:Pg.funcs[f]?=some fn)(hb:fn.body=some c)(hname:(fn.name == "runtime.NumGoroutine")=false)(hok:sp.sig.er.ok=true)(h :∀x,sp.f x=none):aA Pg f sp:=by
 refine⟨hok,λargs w=>?_,λE w vals gh ins dR hR=>?_⟩
 .have hname':¬ fn.name = "runtime.NumGoroutine" :=by simpa using hname
  simp[callFunc,hf,hname',hb]
 .obtain ⟨x,y,hy,_⟩:=hR;have hy:=(RZ hy).1;rw[h x]at hy;cases hy
theorem x9(e:Ty)(l:List (Dt e)):(aK e l).length=List.length (α:=Dt e) l:=by simp[aK]
theorem GR{R:Type}{a b:Nat->TO}{K:Prog R}{y:R}:∀{gs:List Nat},(CW a b K gs).run=zw y->K.run=zw y/\∀g∈gs,(eH (a g)).like (eH (b g))
 | [],h=>⟨h,λg hg=>by cases hg⟩
 |g::gs,h=>by
  unfold CW at h;have key :∀{x y:TO},Vs x y=.yes->(eH x).like (eH y):=by intro x y c;cases x<;>cases y<;>simp only[Vs]at c<;>first|trivial|(cases c)|(exfalso;revert c;cases Nat.beq _ _<;>intro c<;>cases c)
  have j :∀{x y:TO} {n m:Nat},Vs x y=.len n m->n=m->(eH x).like (eH y):=by
   intro x y n m c q;cases x<;>cases y<;>simp only[Vs]at c<;>first|(cases c)|skip
   .rename_i e l _ _ _ w J;cases d:Nat.beq (size e) (size w)with
    |false=>rw[d]at c;cases c
    |true=>rw[d]at c;cases c;exact⟨Q6 d,by rw[x9,x9];exact q⟩
   .rename_i e _ l _ _ _ w _ J _;cases d:Nat.beq (size e) (size w)with
    |false=>rw[d]at c;cases c
    |true=>rw[d]at c;cases c;exact⟨Q6 d,by rw[x9,x9];exact q⟩
  split at h
  .rename_i z;obtain⟨B,H⟩:=GR h;refine⟨B,λg' hg=>?_⟩;rcases Xs.1 hg with rfl|hg
   .exact key z
   .exact H g' hg
  .exact (dI h).elim
  .rename_i n m z;have h:ck (decide (n=m)) (CW a b K gs).run=zw y:=h;unfold ck at h;cases hd:decide (n=m)with
   |false=>rw[hd]at h;cases h
   |true=>
    rw[hd]at h;obtain⟨B,H⟩:=GR (gs:=gs) h;refine⟨B,λg' hg=>?_⟩;rcases Xs.1 hg with rfl|hg
    .exact j z (Zs hd)
    .exact H g' hg
theorem acV{Pg:Program}{tt:TT}{T:lQ}{ety:TypeId->Option Ty}{f:FuncId}{fn:Func}{c:Code}{sp:aV}(ts:List ResultVar)(a:fG)(hf:Pg.funcs[f]?=some fn)(hb:fn.body=some c)(hname:(fn.name == "runtime.NumGoroutine")=false)(hres:fn.results=ts.toArray)
  (hok:sp.sig.er.ok=zj) (NR:(sp.sig.bH.all λg=>sp.sig.pin.er.nms.contains g)=zj) (hn:sp.sig.bg<=fn.ntmps) (hnr:ts.length=sp.sig.bV)
  (hT :∀f sp,nO T f=zw sp->Sound Pg (f % 1000000) sp) (htt:jv Pg tt) (hm:Fit Pg)
  (h :∀x,(afp T tt ety fn.ntmps sp.sig ts c a x).run=sp.f x):aA Pg f sp:=by
 have hcase :∀x y,sp.ff x=zw y->(tfun T tt ety fn.ntmps sp.sig ts c a x).run=zw y/\∀g∈sp.sig.er.bH,((Fw.mk sp.sig.pin.er ((Tup.mQ sp.sig.pin.tys x).map dL)).o g).like ((Fw.mk sp.sig.aU.er ((Tup.mQ sp.sig.aU.tys y).map dL)).o g):=by
  intro x y hy0;have hy:=(RZ hy0).1;have hx:=h x;rw[hy]at hx;unfold afp at hx;cases hbx:sp.sig.er.amM with
  |true=>rw[hbx]at hx;exact⟨hx,Bv.abV hbx⟩
  |false=>
   rw[hbx]at hx;have hx:(tfun T tt ety fn.ntmps sp.sig ts c a x).run.bind (λz=>(CW (mkT sp.sig.pin (Tup.mQ sp.sig.pin.tys x)).go (mkT sp.sig.aU (Tup.mQ sp.sig.aU.tys z)).go (.ret z) sp.sig.bH).run)=zw y:=hx;cases hr:(tfun T tt ety fn.ntmps sp.sig ts c a x).run with
   |none=>rw[hr]at hx;cases hx
   |some z=>rw[hr]at hx;obtain⟨h1,h2⟩:=GR (R:=Tup sp.sig.aU.tys) (K:=.ret z) hx;have h1:zw z=zw y:=h1;cases h1;refine⟨rfl,λg hg=>?_⟩;have e1:=W2 (λs=>s.o g) (zL (xU _ x));have e2:=W2 (λs=>s.o g) (zL (xU _ y));rw[<-e1,<-e2];exact h2 g hg
 refine aeP (T:=nO T) (tt:=tt) (c:=c) ts hf hb hname hres hok NR (λins dR ⟨x,y,hy,hi,ho⟩=>by subst hi;subst ho;exact(hcase x y hy).2) hn hnr hT htt hm ?_;rintro ins dR ⟨x,y,hy,rfl,rfl⟩;have hx:=(hcase x y hy).1;unfold tfun at hx;rw[uX]at hx;have e:=zL (xU _ x);have hx:=acT c hx (Kp:=am1 tt sp.sig.er ts ((Tup.mQ sp.sig.aU.tys y).map dL)) ⟨λq' _ hq=>aac hq,λid q' _ hq=>(dI hq).elim,λq' _ hq=>aac hq⟩;have hx:exec (nO T) tt fn.ntmps sp.sig.er.bH c (bD (mkT sp.sig.pin (Tup.mQ sp.sig.pin.tys x))) (am1 tt sp.sig.er ts ((Tup.mQ sp.sig.aU.tys y).map dL)):=hx;rw[e]at hx;exact hx
end
end Go.Fg

namespace Go.Fg
open Go.Fw Go.Proofs
def Sz(w:World)(l:List Int)(G:Gh):Prop:=
 (G.ad=zz/\G.cap=0/\l=[])\/
 ∃b o c e,G.ad=zw ⟨b,o,zz⟩ /\w.heap[b]?=zw (.cells c e (0,0))/\o+G.cap<=c.size/\(l.length<=G.cap/\G.cap<=9223372036854775807)/\
  ∀(n:Nat) x,l[n]?=zw x->c[o+n]?=zw (.int .i64 x)
section
variable [RE]
theorem oD(l:List Int):aK (.int .i64) l=l.map λx=>[P.int .i64 x]:=rfl
theorem ajc{E:Env}{st:St}{gh:Nat->Gh}{i:Bool}{G:Gh}(h:jq E st gh w b i 1 (aK (.int .i64) d) G):Sz w d G:=by
 rcases h with⟨j,g,a⟩|⟨ad,c,e,j,g,a,z,B,K,q⟩
 .refine .inl ⟨j,g,?_⟩;rw[oD]at a;simpa using a
 .obtain ⟨l,o,sp⟩:=ad;simp only at g a z q;subst g;refine .inr ⟨l,o,c,e,j,a,by omega,by simpa[oD]using B,λn x H=>?_⟩;have m:(aK (.int .i64) d)[n]?=zw [P.int .i64 x]:=by rw[oD,Z0,H];rfl
  obtain⟨v,y,J⟩:=q n _ m 0 (P.int .i64 x) rfl;rw[J.fJ]at y;rw[<-y];congr 1;omega
theorem ajd{E:Env}{st:St}{gh:Nat->Gh}{i:Bool}{G:Gh}(h:Sz w d G):jq E st gh w b i 1 (aK (.int .i64) d) G:=by
 rcases h with⟨g,H,m⟩|⟨l,o,c,e,g,m,J,K,L⟩
 .exact .inl ⟨g,H,by rw[m];rfl⟩
 .refine .inr ⟨⟨l,o,zz⟩,c,e,g,rfl,m,by simpa using J,by simpa[oD]using K,λx a=>?_,λn x a j y q=>?_⟩
  .rw [oD,XN]at a;obtain⟨z,_,rfl⟩:=a;rfl
  .rw [oD,Z0]at a;cases B:d[n]? with
   |none=>rw[B]at a;cases a
   |some z=>
    rw[B]at a;simp only[W7,Q0]at a;subst a;cases j with
    |succ j=>simp at q
    |zero=>simp only[K4,Q0]at q;subst q;refine⟨_,?_,.int .i64 z⟩;rw[<-L n z B];congr 1;simp
end
theorem heap_setCell(w:World)(b o:Nat)(v:Value)(c:Array Value)(e:TypeId)(h:w.heap[b]?=zw (.cells c e (0,0))):
  (w.setCell ⟨b,o,zz⟩ v).heap[b]?=zw (.cells (c.setIfInBounds o v) e (0,0))/\∀d,d≠b->(w.setCell ⟨b,o,zz⟩ v).heap[d]?=w.heap[d]?:=by
 refine⟨?_,λd g=>?_⟩
 .simp [World.setCell,vh,h]
 .simp [World.setCell,vh,Ne.symm g]
theorem BJ(b:Nat)(e:TypeId):∀(vs:List Value) (o:Nat) (w:World) (c:Array Value),w.heap[b]?=zw (.cells c e (0,0))->o+vs.length<=c.size->
  ∃g,(w.setCells b o vs).heap[b]?=zw (.cells g e (0,0))/\g.size=c.size/\(∀k,g[k]?=if o<=k/\k<o+vs.length then vs[k-o]? else c[k]?)/\
   (∀d,d≠b->(w.setCells b o vs).heap[d]?=w.heap[d]?)/\(w.setCells b o vs).heap.size=w.heap.size
 | [],o,w,c,h,j=>⟨c,h,rfl,λk=>by rw[Qt (by simp)],λ_ _=>rfl,rfl⟩
 |v::vs,o,w,c,h,j=>by
  simp only[Wm]at j;obtain⟨z,B⟩:=heap_setCell w b o v c e h;obtain⟨g,H,J,K,L,M⟩:=BJ b e vs (o+1) (w.setCell ⟨b,o,zz⟩ v) (c.setIfInBounds o v) z (by simp;omega);refine⟨g,H,by simpa using J,λk=>?_,λd m=>(L d m).trans (B d m),M.trans (by simp[World.setCell])⟩;rw[K];simp only[Wm];by_cases q:k=o
  .subst q;rw[Qt (by omega),QQ (by omega)];simp[qb];omega
  .by_cases y:o+1<=k/\k<o+1+vs.length
   .rw [QQ y,QQ (by omega)];rw[show k-o=(k-(o+1))+1 by omega,J0]
   .rw [Qt y,Qt (by omega)];simp[qb,Ne.symm q]
theorem IQ(b:Nat):∀(vs:List Value) (o:Nat) (w:World),(w.setCells b o vs).os=w.os/\(w.setCells b o vs).tape=w.tape/\(w.setCells b o vs).output=w.output
 | [],_,_=>⟨rfl,rfl,rfl⟩
 |_::vs,o,w=>IQ b vs (o+1) _
theorem enters_of{Pg:Program}{f:FuncId}{fn:Func}{c:Code}(hf:Pg.funcs[f]?=some fn)(hb:fn.body=some c)(hname:(fn.name == "runtime.NumGoroutine")=false):Fw.Enters Pg f:=λargs w=>by
 have hname':¬ fn.name = "runtime.NumGoroutine" :=by simpa using hname
 simp[callFunc,hf,hname',hb]
section
variable [RE]
end
end Go.Fg

namespace Go.Fg
open Go.Fw Go.Proofs
section
variable [RE]
def sJ:Pq:=⟨[],[(70000,.arr zv zv zj (.int .i64))]⟩
theorem afP{E:Env}{st:St}{gh:Nat->Gh}{val:Nat->Value}{m:World}(h:Rel E st gh val w)(T:E.B0=w.heap.size)(l:List Int)(G:Gh)(Y:Sz m l G)
  (K:w.heap.size<=m.heap.size) (L :∀b,b<w.heap.size->¬ E.Wr b->m.heap[b]?=w.heap[b]?)
  (M :∀ad,G.ad=zw ad->(w.heap.size<=ad.block\/E.Wr ad.block)/\ad.block<m.heap.size) (z:m.os=w.os/\m.tape=w.tape/\m.output=w.output) (U:Nat->Gh) (B:U 70000=G) (y :∀b,G.sub b=zz:=by first|exact λ_=>rfl|assumption) :
  Rel E (Fw.mk sJ.er ((Tup.mQ sJ.tys l).map dL)) U (λk=>([]:List Value).getD k undef) m:=by
 have H :∀t,(Fw.mk sJ.er ((Tup.mQ sJ.tys l).map dL)).s t=.no:=λt=>rfl;have N:(Fw.mk sJ.er ((Tup.mQ sJ.tys l).map dL)).o 70000=.arr zv zv zj 1 (aK (.int .i64) l):=by exact W2 (O.arr zv zv zj 1) (jR (.int .i64) l)
 have d :∀g,g≠70000->(Fw.mk sJ.er ((Tup.mQ sJ.tys l).map dL)).o g=.none:=λg hg=>by
  have Z:(g==70000)=zv:=by simpa using hg
  show (match List.lookup g [(70000,_)]with|some x=>x|none=>O.none)=_;simp only[List.lookup,Z]
 have hu:(Fw.mk sJ.er ((Tup.mQ sJ.tys l).map dL)).used 70000=zj:=rfl;have c :∀g,((Fw.mk sJ.er ((Tup.mQ sJ.tys l).map dL)).o g).cO=zj->g=70000:=λg hg=>by
  by_cases e:g=70000
  .exact e
  .rw [d g e]at hg;simp[O.cO]at hg
 generalize Fw.mk sJ.er ((Tup.mQ sJ.tys l).map dL)=s at *;exact {
  slots:=λt=>by rw[H];exact .no _
  bI:=λg=>by
   by_cases e:g=70000
   .subst e;rw[N,B];exact ajd Y
   .rw [d g e];trivial
  inj:=λg g' _ j J _ _=>(c g j).trans (c g' J).symm
  wr:=λg a j J=>by
   have:=c g j;subst this;rw[B]at J;rw[T];rcases J with⟨ad,q1,q2⟩|q
   .rw [<-q2];exact M ad q1
   .rw [y a]at q;cases q
  wi:=λg i b j J h3=>by
   by_cases e:g=70000
   .subst e;rw[N]at j;cases j;rfl
   .rw [d g e]at j;cases j
  ns:=λg j _ b=>by have:=c g j;subst this;rw[B];exact y b
  wb:=h.wb
  frame:=λb hb X=>by rw[L b (by omega) X];exact h.frame b hb X
  size:=by rw[T];exact K
  os:=z.1.trans h.os
  tape:=z.2.1.trans h.tape
  output:=z.2.2.trans h.output
  us:=λt g hg=>by rw[H]at hg;simp[S.names]at hg
  uo:=λg g' hg=>by
   by_cases e:g=70000
   .subst e;rw[N]at hg;simp[O.names]at hg
   .rw [d g e]at hg;simp[O.names]at hg
  ul:=λg hg=>by
   by_cases e:g=70000
   .subst e;exact hu
   .exact absurd (d g e) hg }
def wF:b_:={ bg:=1,pin:=⟨[(0,.one (.own 70000))],[(70000,.arr zv zv zj (.int .i64))]⟩,aU:=sJ,bV:=0,bH:=[70000],aY:=[] }
def acW(l:List Int):Option (List Int):=match decide (l.length<4611686018427387904)with
 |true=>zw (l.mergeSort λx y=>decide (x<=y))
 |false=>zz
def aad:aV:=⟨wF,λx=>acW x⟩
theorem acX(auH:Fw.Enters h f)
  (hD :∀(b off c:Nat) (zs:List Int) (w:World),Go.Sort.Holds (Value.int .i64) w b off zs.toArray->b<w.heap.size->zs.length<4611686018427387904->
   Calls h f #[.slice (zw ⟨b,off,zz⟩) zs.length c] w λe z=>e=.returned (.tuple #[])/\∃n os,z=Go.Sort.grow (Go.Sort.putRow (Value.int .i64) (Go.Sort.ahead w n) b off (zs.mergeSort λx y=>decide (x<=y)).toArray) os)
  (hE :∀(a:Option Addr) (c:Nat) (w:World),Calls h f #[.slice a 0 c] w λe z=>e=.returned (.tuple #[])/\z=w):aA h f aad:=by
 refine⟨rfl,auH,λE w Pg d ins dR hR hB hw0 N X=>?_⟩;obtain⟨l,y,T,rfl,rfl⟩:=hR;change List Int at l;change List Int at y;have T:acW l=zw y:=T;unfold acW at T;split at T
 .rename_i hc;simp only[Wa]at hc;cases T;have ho:(Fw.mk wF.pin.er ((Tup.mQ wF.pin.tys l).map dL)).o 70000=.arr zv zv zj 1 (aK (.int .i64) l):=by exact W2 (O.arr zv zv zj 1) (jR (.int .i64) l)
  have ho2:(Fw.mk wF.aU.er ((Tup.mQ wF.aU.tys (l.mergeSort λx y=>decide (x<=y))).map dL)).o 70000=.arr zv zv zj 1 (aK (.int .i64) (l.mergeSort λx y=>decide (x<=y))):=by exact W2 (O.arr zv zv zj 1) (jR (.int .i64) (l.mergeSort λx y=>decide (x<=y)))
  have r0:Pg.getD 0 undef=.slice (d 70000).ad l.length (d 70000).cap:=by
   have h0:=(N.slots 0).dW;cases h0 with
   |own _ _ hv hx=>exact(hx _ _ (O.kZ ho)).trans (W2 (λn=>Value.slice (d 70000).ad n (d 70000).cap) (fH (.int .i64) l))
  have aqe:Pg.toArray=#[.slice (d 70000).ad l.length (d 70000).cap]:=by
   have hl3:Pg.length=1:=X
   match Pg,hl3 with
   | [a],_=>simp at r0;simp[r0]
  rw[aqe];have auI :∀b,(d 70000).sub b=zz:=N.ns 70000 rfl rfl;have hA:Sz w l (d 70000):=by have h0:=N.bI 70000;have B:nG E _ d w (.arr zv zv zj 1 (aK (.int .i64) l)) (d 70000):=ho▸h0;exact ajc B
  have Hw:((Fw.mk wF.pin.er ((Tup.mQ wF.pin.tys l).map dL)).o 70000).like ((Fw.mk wF.aU.er ((Tup.mQ wF.aU.tys (l.mergeSort λx y=>decide (x<=y))).map dL)).o 70000):=by rw[ho,ho2];refine⟨rfl,?_⟩;exact(fH (.int .i64) l).trans ((List.length_mergeSort l).symm.trans (fH (.int .i64) (l.mergeSort λx y=>decide (x<=y))).symm)
  have Xz :∀(bU:Nat->Gh),bU 70000=d 70000->∀g∈aad.er.sig.bH,((bU g).ad=(d g).ad/\(bU g).cap=(d g).cap)/\((Fw.mk wF.pin.er ((Tup.mQ wF.pin.tys l).map dL)).o g).like ((Fw.mk wF.aU.er ((Tup.mQ wF.aU.tys (l.mergeSort λx y=>decide (x<=y))).map dL)).o g):=λbU e g hg=>by have:g=70000:=X1.1 hg;subst this;exact⟨⟨by rw[e],by rw[e]⟩,Hw⟩
  rcases hA with⟨B,h2,Y⟩|⟨b,o,c,e,B,Y,h4,h5,h7⟩
  .subst Y;refine(hE (d 70000).ad (d 70000).cap w).mono λe z ⟨he,U⟩=>?_;subst U;refine⟨[],d,rfl,by rw[he];rfl,?_,Xz d rfl⟩;have:([]:List Int).mergeSort (λx y=>decide (x<=y))=[]:=by simp
   rw[this];exact afP N hB [] (d 70000) (.inl ⟨B,h2,rfl⟩) (YY _) (λ_ _ _=>rfl) (λad j=>by rw[B]at j;cases j) ⟨rfl,rfl,rfl⟩ _ rfl
  .rw [B];have H:=N.wr 70000 b rfl (Gh.kN B);have L :∀k,k<l.length->w.cell? ⟨b,o+k,zz⟩=zw (.int .i64 (l.getD k 0)):=λk hk=>by have:=h7 k l[k] (Q2 hk);simp[World.cell?,Y,this,hk]
   have hH:Go.Sort.Holds (Value.int .i64) w b o l.toArray:=by
    have:=Lib.holds_of_ints (n:=l.length) (YY _) L (λk hk=>by simp[World.frozen?,Y])
    rwa [K7]at this
   refine(hD b o (d 70000).cap l w hH H.2 hc).mono λe' z ⟨he,q,os,U⟩=>?_;rw[Lib.putRow_eq_setCells (Value.int .i64) w b o l.toArray _ q hH (by simp)]at U;generalize hm:(l.mergeSort λx y=>decide (x<=y))=m at *;have hlen2:m.length=l.length:=by rw[<-hm];exact List.length_mergeSort l
   obtain⟨c',k1,k2,k3,k4,k5⟩:=BJ b e (m.map (Value.int .i64)) o (w.drewN q) c Y (by rw[We];omega);have hos:=IQ b (m.map (Value.int .i64)) o (w.drewN q);generalize (w.drewN q).setCells b o (m.map (Value.int .i64))=w1 at *;have Z :∀J,J<w.heap.size->z.heap[J]?=w1.heap[J]?:=λJ M=>by subst U;show (w1.heap++os)[J]?=_;exact Kd (by rw[k5];exact M)
   have hsz:w.heap.size<=z.heap.size:=by subst U;show _<=(w1.heap++os).size;rw[vE,k5];exact Nat.le_add_right _ _
   have auJ:z.os=w.os/\z.tape=w.tape/\z.output=w.output:=by subst U;exact hos
   have K:=H.2;refine⟨[],d,rfl,by rw[he];rfl,?_,Xz d rfl⟩;refine afP N hB _ (d 70000) (.inr ⟨b,o,c',e,B,by rw[Z b K];exact k1,by rw[k2];exact h4,⟨by omega,h5.2⟩,λn x hx=>?_⟩)
    hsz (λJ M hnw=>(Z J M).trans (k4 J λeb=>?_)) (λad j=>?_) auJ _ rfl
   .have hn:=(Q3.1 hx).1;rw[k3,QQ (by simp;omega)];simp[hx]
   .subst eb;rcases H.1 with hq|hq
    .rw [hB]at hq;omega
    .exact hnw hq
   .rw [B]at j;cases j;refine⟨?_,Up K hsz⟩;have:=H.1;rw[hB]at this;exact this
 .cases T
end
end Go.Fg

namespace Go.Fg
open Go.Fw
theorem aje{α β:Type}{x b:Option α}{k c:α->Option β}{y:β}(d :∀z,x=zw z->b=zw z)(g :∀z,k z=zw y->c z=zw y)(h:x.bind k=zw y):b.bind c=zw y:=by
 cases e:x with
 |none=>rw[e]at h;cases h
 |some z=>rw[e]at h;rw[d z e];exact g z h
section
variable [RE]
theorem aA.le{sg:b_}{F F':Tup sg.pin.tys->Option (Tup sg.aU.tys)}(Pg:aA h f ⟨sg,F'⟩)(b :∀x y,F x=zw y->F' x=zw y):aA h f ⟨sg,F⟩:=by
 obtain⟨j,m,q⟩:=Pg;refine⟨j,m,λE w c B ins dR ⟨x,y,H,J,L⟩=>q E w c B ins dR ⟨x,y,?_,J,L⟩⟩;have key :∀(K:List Nat),(match K with
  | []=>F
  |g::gs=>λx=>(F x).bind λy=>Eu (mkT sg.pin (Tup.mQ sg.pin.tys x)).go (mkT sg.aU (Tup.mQ sg.aU.tys y)).go y (g::gs)) x=zw y->(match K with
  | []=>F'
  |g::gs=>λx=>(F' x).bind λy=>Eu (mkT sg.pin (Tup.mQ sg.pin.tys x)).go (mkT sg.aU (Tup.mQ sg.aU.tys y)).go y (g::gs)) x=zw y:=by
  intro K d;cases K with
  |nil=>exact b x y d
  |cons g gs=>exact aje (λz e=>b x z e) (λ_ e=>e) d
 exact key sg.kept H
end
end Go.Fg

namespace Go.Fw
open Go.RowKit
variable [fO]
def GV(w:World):Prop :=∀g b rows,fO.gt g=zw (b,rows)->g<w.heap.size/\∀(n:Nat) x,rows[n]?=zw x->x.length=b/\∀(j:Nat) y,x[j]?=zw y->∃u,w.cell? ⟨g,n*b+j,zz⟩=zw u/\dH w (λ_=>False) y u
def E0(w:World)(hw:GV w):Env:={ FA:=λ_=>True,FI:=λ_=>False,B0:=w.heap.size,w0:=w,Wr:=λ_=>False,hg:=λg b rows hg=>⟨(hw g b rows hg).1,λh=>h,(hw g b rows hg).2⟩ }
def G0:Nat->Gh:=λ_=>Gh.nil
theorem acY{sp:Spec}(hs:Sound h f sp)(H:sp.sig.pin.bI=[])(J:sp.sig.bV=1)(T:sp.sig.aU=⟨[(0,.one (.p zv zv))],[]⟩){vals:List Value}(q:vals.length=sp.sig.bg)(B:GV w){ins:List P}
  (U:sp.R ins [.bool zj]) (X :∀t,dU (E0 w B) (Fw.mk sp.sig.pin ins) G0 w ((Fw.mk sp.sig.pin ins).s t) (vals.getD t undef)) :
  Calls h f vals.toArray w λe K=>e=.returned (.bool zj)/\Below w.heap.size w K:=by
 obtain⟨L,_,Y⟩:=hs;have c :∀g,(Fw.mk sp.sig.pin ins).o g=.none:=λg=>OX (by simp[Shape.nms,H]);have d:=L;simp only[Bv.ok,QR]at d;have j:=ald d.1.1.1.1.1.1.1.1 ins;have y:Rel (E0 w B) (Fw.mk sp.sig.pin ins) G0 (λk=>vals.getD k undef) w:=⟨X,λg=>by rw[c];trivial,λg g' a (Pg:((Fw.mk sp.sig.pin ins).o g).cO=zj)=>(by rw[c]at Pg;cases Pg),λg a (Pg:((Fw.mk sp.sig.pin ins).o g).cO=zj)=>(by rw[c]at Pg;cases Pg),λg i b (Pg:((Fw.mk sp.sig.pin ins).o g).inner=zw i)=>(by rw[c]at Pg;cases Pg),λg (Pg:((Fw.mk sp.sig.pin ins).o g).cO=zj)=>(by rw[c]at Pg;cases Pg),λb M=>M.elim,λb _ _=>rfl,YY _,rfl,rfl,rfl,j.1,j.2.1,j.2.2⟩
 refine Calls.mono (Y (E0 w B) w vals G0 ins [.bool zj] U rfl rfl y q) λe K Z=>?_;obtain⟨rs,bU,z,rfl,m,_⟩:=Z;rw[J]at z
 match rs,z with
 | [v],_=>
 refine⟨?_,⟨m.os,m.tape,m.output,m.size,λb M=>m.frame b M (λPg=>Pg)⟩⟩;have N:=m.slots 0;rw[T]at N;have h1:dU (E0 w B) (Fw.mk ⟨[(0,.one (.p zv zv))],[]⟩ [.bool zj]) bU K (.v (.one (.p zv zv (.bool zj)))) v:=N;rw[show v=.bool zj from h1.gB.oM];rfl
theorem ajf{k:IntKind}{a:Option Addr}{len cap:Nat}{ok:Nat->Prop}(B :∀b,b<w.heap.size->ok b)
  (h:(a=zz/\len=0/\cap=0/\d=[])\/∃x,a=zw x/\len<=cap/\d.length=cap/\∀i,i<d.length->w.cell? (x.add i)=zw (.int k (d.getD i 0))) :
  dH w ok (.sl 1 ((d.take len).map λz=>[.int k z])) (.slice a len cap):=by
 rcases h with⟨rfl,rfl,rfl,rfl⟩|⟨x,rfl,Y,Z,M⟩
 .exact .nil _ _ _
 .by_cases N:len=0
  .subst N;exact .nil _ _ _
  .have c:=M 0 (by omega);have H:x.spot=zz:=by
    unfold World.cell? Addr.add at c;cases T:x.spot with
    |none=>rfl
    |some s=>
     exfalso;split at c
     .simp [T]at c
     .cases c
   have U:x.block<w.heap.size:=by
    unfold World.cell? at c;have e:(x.add 0).block=x.block:=by simp[Addr.add]
    rw[e]at c;by_cases J:x.block<w.heap.size
    .exact J
    .rw [Array.getElem?_eq_none (by omega)]at c;cases c
   have m:((d.take len).map λz=>[P.int k z]).length=len:=by simp;omega
   have:=dH.sl (w:=w) (ok:=ok) 1 ((d.take len).map λz=>[P.int k z]) x cap (λi _=>.int k (d.getD i 0)) H (λ_=>B _ U) (by omega) (λr g=>by obtain⟨z,_,rfl⟩:=XN.1 g;rfl) (λi r g j y q=>?_) (λi r g j y q=>?_)
   .rw [m]at this;exact this
   all_goals
    have X:i<len:=by have:=(Q3.1 g).1;omega
    rw[Z0,ZZ,QQ X]at g;obtain⟨z,K,rfl⟩:=Wg.1 g;have L:j=0:=by
     cases j with
     |zero=>rfl
     |succ j=>simp at q
    subst L;simp only[K4,Q0]at q;subst q
   .have:=M i (by omega);rw[<-this];have e:x.add i=⟨x.block,x.off+i,zz⟩:=by obtain⟨b,o,sp⟩:=x;simp only at H;subst H;exact Addr.ji b o i
    rw[e];simp
   .rw [Q1,K];exact .int k z
end Go.Fw
namespace Go.Fg
open Go.Fw Go.RowKit
section
variable [RE]
theorem ajg{k:IntKind}{a:Option Addr}{len cap:Nat}{ok:Nat->Prop}(g :∀b,b<w.heap.size->ok b)
  (h:(a=zz/\len=0/\cap=0/\d=[])\/∃x,a=zw x/\len<=cap/\d.length=cap/\∀i,i<d.length->w.cell? (x.add i)=zw (.int k (d.getD i 0))) :
  dH w ok (dL ⟨.sl (.int k),d.take len⟩) (.slice a len cap):=by
 have j:=ajf g h;have e:aK (.int k) (d.take len)=(d.take len).map λz=>[P.int k z]:=rfl;rw[Jv,e];have c:len=(d.take len).length:=by
  rcases h with⟨_,rfl,_,rfl⟩|⟨x,_,q,y,_⟩
  .rfl
  .simp;omega
 cases m:d.take len with
 |nil=>rw[m]at c;have c:len=0:=c;subst c;exact .nil _ _ _
 |cons z l=>rw[m]at j;exact j
end
end Go.Fg

namespace Go.Fg
open Go.Fw
def Ok{α:Type}(x:Option α)(Q:α->Prop):Prop :=∃y,x=zw y/\Q y
def Nh{α β:Type}(P:α->Prop)(Q:β->Prop):α ⊕ β->Prop
 |.inl a=>P a
 |.inr b=>Q b
theorem AP{α:Type}{y:α}{Q:α->Prop}:Ok (zw y) Q↔Q y:=⟨λ⟨_,h,b⟩=>by cases h;exact b,λh=>⟨_,rfl,h⟩⟩
theorem JE{α β:Type}{x:Option α}{f:α->Option β}{Q:β->Prop}:Ok (Option.bind x f) Q↔Ok x λy=>Ok (f y) Q:=by
 cases x with
 |none=>exact⟨λ⟨_,h,_⟩=>(by cases h),λ⟨_,h,_⟩=>(by cases h)⟩
 |some z=>rw[AP];rfl
theorem afQ{α:Type}{x:Option α}{Q:α->Prop}:Ok (ck b x) Q↔b=zj/\Ok x Q:=by
 cases b with
 |false=>exact⟨λ⟨_,h,_⟩=>(by cases h),λ⟨h,_⟩=>(by cases h)⟩
 |true=>exact⟨λh=>⟨rfl,h⟩,λh=>h.2⟩
theorem Yl{α:Type}{x y:Option α}{Q:α->Prop}:Ok (bif b then x else y) Q↔(b=zj->Ok x Q)/\(b=zv->Ok y Q):=by
 cases b with
 |false=>exact⟨λh=>⟨λe=>(by cases e),λ_=>h⟩,λh=>h.2 rfl⟩
 |true=>exact⟨λh=>⟨λ_=>h,λe=>(by cases e)⟩,λh=>h.1 rfl⟩
theorem afR{α β:Type}{x:Option (α ⊕ β)}{f:α->Option β}{Q:β->Prop}:Ok (dF x f) Q↔Ok x (Nh (λa=>Ok (f a) Q) Q):=by
 unfold dF;refine JE.trans ⟨λ⟨y,c,h⟩=>⟨y,c,?_⟩,λ⟨y,c,h⟩=>⟨y,c,?_⟩⟩
 .cases y with
  |inl a=>exact h
  |inr b=>exact(AP (Q:=Q)).1 h
 .cases y with
  |inl a=>exact h
  |inr b=>exact(AP (Q:=Q)).2 h
theorem lC{α:Type}{x:Option α}{Q b:α->Prop}(h:Ok x Q)(c :∀y,Q y->b y):Ok x b:=let ⟨y,d,g⟩:=h;⟨y,d,c y g⟩
theorem afS{α:Type}{x:Option α}{y:α}{Q:α->Prop}(h:x=zw y)(b:Q y):Ok x Q:=⟨y,h,b⟩
theorem ok_eq{α:Type}{x:Option α}{y:α}(h:Ok x λz=>z=y):x=zw y:=let ⟨_,b,e⟩:=h;e▸b
section
variable [RE]
theorem bF{body:R->Option (R ⊕ A)}{Q:A->Prop}(I:R->Prop)(μ:R->Nat){a:R}(c:I a)
  (h :∀a,I a->Ok (body a) (Nh (λb=>I b/\μ b<μ a) Q)):Ok (bn body a) Q:=by
 have key :∀n a,I a->μ a<n->Ok (bn body a) Q:=by
  intro n
  induction n with
  |zero=>intro a _ hn;omega
  |succ n g=>
   intro a c hn;obtain⟨y,j,d⟩:=h a c;rw[C9,j];cases y with
   |inl b=>obtain⟨m,q⟩:I b/\μ b<μ a:=d;exact g b m (by omega)
   |inr r=>exact⟨r,rfl,d⟩
 exact key _ a c (Nat.lt_succ_self _)
end
theorem aF(h:-9223372036854775808<=x/\x<=9223372036854775807):bP x=x:=@wrap64 ⟨λ_=>zz,λ_ _ _ _=>False,λ_ h=>h⟩ x h.1 h.2
theorem aQ{n:Int}{len:Nat}:inB n len=zj↔0<=n/\n<len:=by simp[inB]
theorem Nj{lo hi:Int}{len:Nat}:Jg lo hi len=zj↔(0<=lo/\lo<=hi)/\hi<=(len:Int):=by simp[Jg]
theorem o7{c:Int}:zy n x c=zj↔((0<=x/\x<=c)/\n*c<=281474976710656)/\c<=9223372036854775807:=by simp[zy]
theorem aae{s:Prop}[Decidable s]:(decide s=zj)=s:=by simp
theorem VP{s:Prop}[Decidable s]:(decide s=zv)=¬s:=by simp
theorem not_iff:((!b)=zj)=(b=zv):=by cases b<;>simp
theorem ajh(a b:Int):aco a b=min a b:=by unfold aco;split<;>omega
theorem JG(a b:Int):FZ a b=max a b:=by unfold FZ;split<;>omega
theorem tmod_lt{a b:Int}(c:0<=a)(d:0<b):0<=Int.tmod a b/\Int.tmod a b<b:=⟨Int.tmod_nonneg b c,Int.tmod_lt_of_pos a d⟩
theorem getD_at{α:Type}{l:List α}(d:α)(h:n<l.length):l.getD n d=l[n]:=by rw[Q1,Q2 h];rfl
end Go.Fg

namespace Go.Fg
open Go.Fw
theorem take_snoc{α:Type}{l:List α}{i:Nat}(h:i<l.length):l.take (i+1)=l.take i++[l[i]]:=by rw[List.take_add_one,Q2 h];rfl
theorem GX{p:Prop}[Decidable p](h:p:=by omega):decide p=zj:=W5 h
theorem m_{p:Prop}[Decidable p](h:¬ p:=by omega):decide p=zv:=ZS h
theorem nZ(h:0<=x/\x<n:=by omega):inB x n=zj:=aQ.2 h
theorem bG{α β:Type}{x:Option α}{f:α->Option β}{Q:β->Prop}(b:α->Prop)(h:Ok x b)(k :∀y,b y->Ok (f y) Q):Ok (Option.bind x f) Q:=JE.2 (lC h k)
theorem d_{α β:Type}{x:Option α}{f:α->Option β}{Q:β->Prop}{y:α}(h:x=zw y)(k:Ok (f y) Q):Ok (Option.bind x f) Q:=by rw[h];exact k
theorem dA{α:Type}{x y:Option α}{Q:α->Prop}(c:b=zj->Ok x Q)(d:b=zv->Ok y Q):Ok (bif b then x else y) Q:=Yl.2 ⟨c,d⟩
theorem bW{α:Type}{x y:Option α}{Q:α->Prop}(c:b=zv)(d:Ok y Q):Ok (bif b then x else y) Q:=by rw[c];exact d
theorem goT{α:Type}{x y:Option α}{Q:α->Prop}(c:b=zj)(d:Ok x Q):Ok (bif b then x else y) Q:=by rw[c];exact d
theorem bK{α:Type}{x:Option α}{Q:α->Prop}(c:b=zj)(d:Ok x Q):Ok (ck b x) Q:=afQ.2 ⟨c,d⟩
theorem iH{α β:Type}{x:Option (α ⊕ β)}{f:α->Option β}{Q:β->Prop}(c:α->Prop)(h:Ok x (Nh c Q))(k :∀y,c y->Ok (f y) Q):Ok (dF x f) Q:=
 afR.2 (lC h λy d=>by cases y with
  |inl a=>exact k a d
  |inr b=>exact d)
theorem aG{α:Type}{y:α}{Q:α->Prop}(h:Q y):Ok (zw y) Q:=AP.2 h
section
variable [RE]
theorem Ym{S E:Type}{body:R->Option (R ⊕ A)}{Q:A->Prop}(l:List E)(st:Int->S->R)(g:S->E->S)(I:Nat->S->Prop){s0:S}{a0:R}(q:a0=st 0 s0)(w:I 0 s0)
  (hs :∀i (h:i<l.length) s,I i s->s=(l.take i).foldl g s0->Ok (body (st i s)) (Nh (λa=>a=st ((i:Int)+1) (g s l[i])/\I (i+1) (g s l[i])) Q))
  (z :∀s,I l.length s->s=l.foldl g s0->Ok (body (st l.length s)) (Nh (λ_=>False) Q)):Ok (bn body a0) Q:=by
 have key :∀k i s,i<=l.length->l.length-i=k->I i s->s=(l.take i).foldl g s0->Ok (bn body (st i s)) Q:=by
  intro k
  induction k with
  |zero=>
   intro i s B H j b;have e:i=l.length:=by omega
   subst e;rw[K7]at b;obtain⟨y,m,c⟩:=z s j b;rw[C9,m];cases y with
   |inl a=>exact c.elim
   |inr r=>exact⟨r,rfl,c⟩
  |succ k J=>
   intro i s B H j b;have d:i<l.length:=by omega
   obtain⟨y,m,c⟩:=hs i d s j b;rw[C9,m];cases y with
   |inl a=>obtain⟨rfl,K⟩:a=st ((i:Int)+1) (g s l[i])/\I (i+1) (g s l[i]):=c;have:=J (i+1) (g s l[i]) (by omega) (by omega) K (by rw[take_snoc d,List.foldl_append,<-b];rfl);exact this
   |inr r=>exact⟨r,rfl,c⟩
 rw[q];exact key l.length 0 s0 (by omega) (by omega) w (by simp)
end
end Go.Fg

namespace Go.Fg
open Go.Fw Go.RowKit
section
variable {H:Type} {enc:TypeId×Value->H} {P:Program} {w:World} {base:Nat} {spare:Nat->Bool} {held:Bool}
end
theorem aqf[fO]{pin:Shape}(h:pin.bI=[])(ins:List P)(w:World)(c:GV w):∀b,b<w.heap.size->(E0 w c).ok (Fw.mk pin ins) G0 w zj zv b:=by intro b d;refine⟨.inl ⟨rfl,trivial⟩,d,λg ad hg=>?_⟩;rw[OX (by simp[Shape.nms,h])]at ad;cases ad
section
variable [RE]
theorem Nk{ok:Nat->Prop}(k:IntKind)(n:Int):dH w ok (dL ⟨.int k,n⟩) (.int k n):=.int k n
end
end Go.Fg

namespace Go.Fg
open Go.Fw Go.RowKit
theorem Nl[fO]{P:Program}{w:World}{name:String}{g n:Nat}{t e:TypeId}{bs:List (List UInt8)}(hg:P.globalNamed name=zw g)(U:(P.globals[g]?).map (·.type)=zw t)
  (hu:P.underlying t=zw (.array n e)) (hs:P.underlying e=zw .string) (X:P.cellsOf e=1) (hn:bs.length=n)
  (Y :∀g' sz rows,fO.gt g'=zw (sz,rows)->g'=g/\sz=1/\rows=bs.map λb=>[Fw.P.str ⟨b.toArray⟩])
  (h:laidMet P [(name,.agg (bs.map λb=>.lit (.string b)))] w):GV w:=by
 obtain⟨ps,⟨g1,t1,Z,fuel,p,q,c,J,H,hd,_,_⟩,_,_⟩:=h;obtain rfl:=Wt (hg.symm.trans c);obtain rfl:=Wt (U.symm.trans J);intro g' sz rows z;obtain⟨rfl,rfl,rfl⟩:=Y g' sz rows z;refine⟨?_,λi x B=>?_⟩
 .simp only[World.var?,c,Option.bind_some]at H;have:w.heap[g']?≠zz:=by intro d;rw[d]at H;simp at H
  rw[ne_eq,Array.getElem?_eq_none_iff]at this;omega
 .obtain ⟨xs,m,_,ex,_,hl,K⟩:=DataW.trod_array hu hd;have M:i<bs.length:=by
   rw[Z0]at B;rcases ze i bs.length with h|h
   .exact h
   .rw [Vv h]at B;cases B
  rw[Z0,Q2 M]at B;obtain rfl:=Wt B;refine⟨rfl,λj y N=>?_⟩;have hj:j=0:=by
   cases j with
   |zero=>rfl
   |succ j=>cases N
  subst hj;obtain rfl:=Wt N;have T:=K i (by omega);rw[X,Nat.mul_one,Q2 (by omega)]at T;obtain⟨s,e1,e2,_⟩:=DataW.trod_string hs T;have e3:(xs.map (·.1))=bs.map λb=>(DataW.lit (.string b):DataW Unit):=(DataW.agg.inj (Prod.mk.inj ex).1).symm;have L:(xs.map (·.1))[i]?=(bs.map λb=>(DataW.lit (.string b):DataW Unit))[i]?:=by rw[e3]
  rw[Z0,Z0,Q2 (by omega:i<xs.length),Q2 M,e2]at L;have e5:s.data.toList=bs[i]:=by simp only[W7,Q0,DataW.lit.injEq,Lit.string.injEq]at L;exact L
  have e6:(⟨bs[i].toArray⟩:ByteArray)=s:=by rw[<-e5]
  refine⟨.string s,?_,by rw[e6];exact .str s⟩;rw[Nat.mul_one,Jn,World.var?_cell c H i];have h0:((Z.toList.drop i).take 1)[0]?=zw (.string s):=by rw[e1];rfl
  simpa using h0
end Go.Fg

