/-
  The framework (a machine on plain data that answers as the program does), part 2.
-/
import Derived.RangeFuncOwn
import Derived.Orders
import Derived.Test.YtoipcimfapppmaaGreatDoorZa
set_option linter.unusedSimpArgs false
set_option linter.unusedVariables false
set_option linter.unusedSectionVars false
open Option renaming some->zw,none->zz
open Bool renaming true->zj,false->zv
namespace Go.Fw
variable [fH]
def uD:List Nat->Bool
 | []=>zj
 |x::xs=>!xs.contains x&&uD xs
def Fj(xs ys:List Nat):Bool:=xs.all λx=>!ys.contains x
def jE(au:List (Nat×Nat))(off n:Nat):List (Nat×Nat):=au.filter λc=>Nat.ble off c.1&&Nat.blt c.1 (off+n)
def jF(o:Nat->O)(g:Nat):Option (Bool×Bool×Nat×List (Nat×Nat)×List (List P)):=match o g with
 |.aP a i j m l b=>match b with
  |none=>zw (a,i,j,m,l)
  |some (n,c,d)=>match o d with
   |.arr zv a' i' h q=>if m.lookup c=zw h/\c<j then zw (a||a',i||i',j,m,jJ l n c (P.gQ h q))else zz
   |_=>zz
 |_=>zz
def kills(gs:List Nat):List (Nat×O):=gs.map λg=>(g,.none)
def S_(o:Nat->O)(col:Nat->Option Nat):Nat->List W->Option (List P×Bool×Bool×List Nat×List (Nat×Nat))
 |_,[]=>zw ([],zv,zv,[],[])
 |j,x::xs=>match S_ o col (j+1) xs with
  |none=>zz
  |some (c,a',i',b,es)=>match col j with
   |none=>match x.toP o with
    |some (y,a,i,gs)=>zw (y::c,a||a',i||i',gs++b,es)
    |none=>zz
   |some s=>match x with
    |.dJ=>zw (.sl 0 []::c,a',i',b,es)
    |.own e=>match o e with
     |.arr zv a i d l=>if d=s then zw (P.gQ s l::c,a||a',i||i',b,(j,e)::es)else zz
     |_=>zz
    |_=>zz
def baseD(o:Nat->O):W->Option (Prop×Bool×Bool×List (List P)×List Nat×Option (Nat×List (Nat×Nat)))
 |.dJ=>zw (True,zv,zv,[],[],zz)
 |.own g=>match jF o g with
  |some (a,i,b,c,l)=>zw (True,a,i,l,g::(o g).hn,zw (b,c))
  |none=>zz
 |.vw g lo d=>match jF o g with
  |some (a,i,b,c,l)=>zw (lo=lQ 0,a,i,l.take d.nat,g::(o g).hn,zw (b,c))
  |none=>zz
 |_=>zz
def hdr(l:List (List P)):P:=.sl 0 (List.replicate l.length [])
def Ua:List (Nat×Nat)->Bool
 | [(0,0)]=>zj
 |_=>zv
def uF(tt:TT)(o:Nat->O)(f:Operand->S)(t:TypeId)(x:Operand):Option EZ:=match tt t,f x with
 |some i,.v (.one (.ep g n off))=>match jF o g with
  |some (a,d,b,c,l)=>match c.lookup off with
   |some _=>if off<b/\i.size=1/\i.agg=zv then zw (.pure (.v (.one (.p zv zv (hdr ((l.getD n.nat []).getD off default).list)))))else zz
   |none=>zz
  |none=>zz
 |_,_=>zz
def dX(tt:TT)(dc:List (Nat×Nat))(d:Nat)(o:Nat->O)(f:Operand->S)(op:Op)(ty:TypeId):Option EZ:=
 match op with
 |.load t x=>bif Ua dc then uF tt o f t x else match tt t,f x with
  |some i,.v (.one (.ep g n off))=>match o g with
   |.aP a0 i0 X Y K q=>if off+i.size<=X/\0<i.size then match jE Y off i.size with
    | []=>zw (.pure (V.gB i.agg ((List.range i.size).map λj=>.p a0 i0 ((K.getD n.nat []).getD (off+j) (Tt i.zero j)))))
    | [(c,s)]=>match jF o g with
     |some (a,i',h,H,l)=>zw (.mk True (.sl h l) (λy=>V.gB i.agg ((List.range i.size).map λj=>if Nat.beq (off+j) c=zj then .own d else .p a i' ((y.list.getD n.nat []).getD (off+j) (Tt i.zero j))))
       (λy=>(g,.aP a i' h H y.list (zw (n.nat,c,d)))::(d,.arr zv a i' s ((y.list.getD n.nat []).getD c default).list)::kills (o g).hn) [d])
     |none=>zz
    |_=>zz
    else zz
   |_=>zz
  |_,_=>zz
 |.store t x y=>match tt t,f x,f y with
  |some i,.v (.one (.ep g n off)),.v y=>match o g with
   |.aP a0 i0 h H K q=>match S_ o (λj=>H.lookup j) off y.words with
    |some (L,a',i',gs,es)=>if off+i.size<=h/\y.words.length=i.size/\y.solid=zj/\gs.contains g=zv/\uD (es.map (·.2))=zj/\Fj (es.map (·.2)) gs=zj then
      let B (pre:Prop) (a i:Bool) (l:List (List P)) (Z:Option (Nat×Nat×Nat)) (N:List Nat):EZ:=
       .mk pre (.sl h (l.set n.nat (aZ (l.getD n.nat []) off L))) (λ_=>.no) (λz=>(g,.aP (a||a') (i||i') h H z.list Z)::kills (es.map (·.2))++kills N++gs.map (bf o)) []
      match jE H off i.size with
      | []=>zw (B True a0 i0 K q [])
      |_::_=>match q with
       |none=>zw (B True a0 i0 K zz [])
       |some (U,T,d0)=>match jF o g with
        |some (a,i1,_,_,l)=>if(es.map (·.2)).contains d0=zv/\gs.contains d0=zv then zw (B True a i1 l zz [d0])
          else if off<=T/\T<off+i.size then zw (B (U=n.nat) a0 i0 K zz [])else zz
        |none=>if off<=T/\T<off+i.size then zw (B (U=n.nat) a0 i0 K zz [])else zz
      else zz
    |none=>zz
   |_=>zz
  |_,_,_=>zz
 |.buildSlice t n parts=>match tt t,dc with
  |some { k:=.slice e,.. },_::_=>match tt e with
   |some b=>match ny (λm=>if m<n then zw (m*b.size,b.size)else zz) (iF (b.zero.map cv) n) (parts.toList.map λp=>(p.1,f p.2))with
    |some ws=>match S_ o (λj=>dc.lookup (j % b.size)) 0 ws with
     |some (L,a,i,gs,es)=>if n+n*b.size<=16777216/\uD (es.map (·.2))=zj/\Fj (es.map (·.2)) gs=zj then
       zw (.mk True (.sl b.size (chunks b.size n L)) (λ_=>.v (.one (.own d)))
        (λy=>(d,.aP a i b.size dc y.list zz)::kills (es.map (·.2))++gs.map (bf o)) [d])else zz
     |none=>zz
    |none=>zz
   |none=>zz
  |_,_=>zz
 |.makeSlice t n c=>match tt t,f n,f c,dc with
  |some { k:=.slice e,.. },.v (.one (.p _ _ n)),.v (.one (.p _ _ c)),_::_=>match tt e with
   |some b=>match S_ o (λj=>dc.lookup j) 0 (b.zero.map cv)with
    |some (L,zv,zv,[],[])=>if 0<b.size then
     zw (.mk (∃m k:Nat,n=.int .i64 m/\c=.int .i64 k/\m<=k/\b.bytes*k<=281474976710656/\k<=9223372036854775807) (.sl b.size (List.replicate n.nat L))
      (λ_=>.v (.one (.own d))) (λy=>[(d,.aP zv zv b.size dc y.list zz)]) [d])else zz
    |_=>zz
   |none=>zz
  |_,_,_,_=>zz
 |.call { callee:=.builtin .append,args,argTypes }=>match args.toList,argTypes.toList with
  | [s,x],sT::xT::_=>match tt sT,tt xT,f s,f x with
   |some { k:=.slice e,.. },zw { k:=.slice _,.. },.v (.one s),.v (.one (.own g2))=>match tt e,baseD o s,jF o g2 with
    |some b,zw (ask,a,i,M,N,src),zw (a2,i2,h,H,new)=>
     if b.bytes≠0/\h=b.size/\(src=zz\/src=zw (h,H))/\uD (N++g2::(o g2).hn)=zj then
      zw (.mk (ask/\(M.length+new.length)*b.bytes<=140737488355328) (.sl h (M++new)) (λ_=>.v (.one (.own d)))
       (λy=>(d,.aP (a||a2) (i||i2) h H y.list zz)::kills (N++g2::(o g2).hn)) [d])else zz
    |_,_,_=>zz
   |_,_,_,_=>zz
  |_,_=>zz
 |.slice t x zz J zz=>match tt t,f x with
  |some { k:=.slice e,.. },.v (.one (.own g))=>match tt e,o g with
   |some b,.arr zv a i h l=>if h=b.size then match nC (lQ l.length) (J.map f)with
    |some J=>zw (.mk (∃k:Nat,J=.int .i64 k/\k<=l.length) (.sl h (l.take J.nat)) (λ_=>.v (.one (.own d))) (λy=>[(d,.arr zv a i h y.list),(g,.none)]) [d])
    |none=>zz
    else zz
   |some b,.aP a i h H l Option.none=>if h=b.size then match nC (lQ l.length) (J.map f)with
    |some J=>zw (.mk (∃k:Nat,J=.int .i64 k/\k<=l.length) (.sl h (l.take J.nat)) (λ_=>.v (.one (.own d))) (λy=>[(d,.aP a i h H y.list Option.none),(g,.none)]) [d])
    |none=>zz
    else zz
   |_,_=>zz
  |_,_=>zz
 |_=>zz
section
variable {E:Env} {st st':St} {gh bQ:Nat->Gh} {w w':World} {val:Nat->Value} {Pg:Program} {tt:TT}
theorem tq:∀{l:List Nat},uD l=zj->l.Nodup
 | [],_=>List.nodup_nil
 |x::l,h=>by simp only[uD,X1,V0,Vc,decide_eq_false_iff_not]at h;exact K5.2 ⟨h.1,tq h.2⟩
theorem Hq{xs b:List Nat}(h:Fj xs b=zj):∀x∈xs,x∉b:=by intro x c;have:=(Zs.1 h) x c;simpa using this
theorem iT{gs:List Nat}{g:Nat}:(kills gs).lookup g=if g∈gs then zw O.none else zz:=by
 induction gs with
 |nil=>rfl
 |cons x gs b=>
  simp only[kills,Qf,List.lookup,XN];by_cases e:g=x
  .subst e;simp
  .have:(g==x)=zv:=by simpa using e
   rw[this];simp only[e,false_or];exact b
theorem w_{α:Type}{g:Nat}:∀{l r:List (Nat×α)},(l++r).lookup g=(l.lookup g).or (r.lookup g)
 | [],r=>by simp
 |(k,v)::l,r=>by
  simp only[Kj,List.lookup];split
  .rfl
  .exact w_
theorem lookup_cons{α:Type}{g k:Nat}{v:α}{r:List (Nat×α)}:((k,v)::r).lookup g=if g=k then zw v else r.lookup g:=by
 simp only[List.lookup];by_cases e:g=k
 .subst e;simp
 .have:(g==k)=zv:=by simpa using e
  rw[this,QP e]
theorem Kt{au:List (Nat×Nat)}{off n j:Nat}(h:jE au off n=[])(c:off<=j)(d:j<off+n):au.lookup j=zz:=by
 cases b:au.lookup j with
 |none=>rfl
 |some s=>
  have g:(j,s)∈au:=by
   clear h
   induction au with
   |nil=>cases b
   |cons p au m=>
    obtain⟨k,v⟩:=p;rw[lookup_cons]at b;split at b
    .rename_i e;cases b;subst e;simp
    .exact V1 _ (m b)
  have:(j,s)∈jE au off n:=v8.2 ⟨g,by simp[c,d]⟩;rw[h]at this;cases this
theorem Hr{α:Type}{g:Nat}{v:α}:∀{l:List (Nat×α)},l.lookup g=zw v->(g,v)∈l
 | [],h=>by cases h
 |(k,x)::l,h=>by
  rw[lookup_cons]at h;split at h
  .rename_i e;cases h;subst e;simp
  .exact V1 _ (Hr h)
theorem Xb{au:List (Nat×Nat)}{off n c s:Nat}(h:jE au off n=[(c,s)]):au.lookup c=zw s/\off<=c/\c<off+n/\∀j,off<=j->j<off+n->j≠c->au.lookup j=zz:=by
 have z:(c,s)∈jE au off n:=by rw[h];simp
 obtain⟨B,g⟩:=v8.1 z;simp only[X1,Nat.ble_eq,Nat.blt_eq]at g;have key :∀j d,au.lookup j=zw d->off<=j->j<off+n->(j,d)=(c,s):=by intro j d b m q;have:(j,d)∈jE au off n:=v8.2 ⟨Hr b,by simp[m,q]⟩;rw[h]at this;simpa using this
 refine⟨?_,g.1,g.2,λj m q y=>?_⟩
 .cases b:au.lookup c with
  |none=>
   exfalso;clear h z key
   induction au with
   |nil=>cases B
   |cons p au H=>
    obtain⟨k,v⟩:=p;rw[lookup_cons]at b;split at b
    .cases b
    .rename_i e;rcases XN.1 B with e1|e1
     .cases e1;exact e rfl
     .exact H e1 b
  |some d=>have:=key c d b g.1 g.2;cases this;rfl
 .cases b:au.lookup j with
  |none=>rfl
  |some d=>have:=key j d b m q;cases this;exact absurd rfl y
theorem Rel.home(h:Rel E st gh val w){g:Nat}{a i:Bool}{sz:Nat}{au:List (Nat×Nat)}{l:List (List P)}(j:jF st.o g=zw (a,i,sz,au,l)):
  ∃m q,Rel E m q val w/\Lets E st m gh q w w/\(∀x,(q x).ad=(gh x).ad/\(q x).cap=(gh x).cap)/\m.s=st.s/\(∀x,m.used x=st.used x)/\m.o g=.aP a i sz au l zz/\
   (∀d∈(st.o g).hn,m.o d=.none/\d≠g)/\∀g',g'≠g->g'∉(st.o g).hn->m.o g'=st.o g':=by
 unfold jF at j;cases y:st.o g with
 |aP a0 i0 BF lD l0 z=>
  rw[y]at j;simp only at j;rcases z with _|⟨n,c,d⟩
  .cases j;exact⟨st,gh,h,⟨λa i b M=>⟨M,rfl⟩,λg _=>.inr ⟨⟨rfl,rfl⟩,O.gq _⟩⟩,λ_=>⟨rfl,rfl⟩,rfl,λ_=>rfl,y,(λd hd=>by cases hd),λ_ _ _=>rfl⟩
  .simp only at j;cases hd:st.o d with
   |arr N a' i' T l'=>
    rw[hd]at j;cases N with
    |true=>cases j
    |false=>
     simp only at j;split at j
     .rename_i L;cases j;obtain⟨q,K,U,B⟩:=h.shut y hd L.1 L.2;have H:d≠g:=by intro e;subst e;rw[y]at hd;cases hd
      refine⟨_,q,K,U,B,rfl,λx=>by simp[St.aK],by simp[St.aK,List.lookup],λX J=>?_,λg' K Y=>?_⟩
      .simp only[O.hn,dL,X2]at J;subst J;have B:(X==g)=zv:=by simpa using H
       exact⟨by simp[St.aK,List.lookup,B],H⟩
      .have B:(g'==g)=zv:=by simpa using K
       have Z:(g'==d)=zv:=by simp;intro e;exact Y (by rw[e];simp[O.hn,dL])
       simp[St.aK,List.lookup,B,Z]
     .cases j
   |_=>rw[hd]at j;cases j
 |_=>rw[y]at j;cases j
theorem pq{o:Nat->O}{g:Nat}{a i:Bool}{sz:Nat}{au:List (Nat×Nat)}{l:List (List P)}(b:jF o g=zw (a,i,sz,au,l)):(o g).dim=zw (sz,l.length):=by
 unfold jF at b;cases j:o g with
 |aP a0 i0 m q y h=>
  rw[j]at b;simp only at b;rcases h with _|⟨n,c,d⟩
  .cases b;rfl
  .simp only at b;split at b
   .split at b
    .cases b;simp[O.dim,jD]
    .cases b
   .cases b
 |_=>rw[j]at b;cases b
theorem Ku{Q:Nat->Value->Prop}{b o n:Nat}(h :∀j,j<n->∃v,w.cell? ⟨b,o+j,zz⟩=zw v/\v.oneCell'=zj/\Q j v):
  ∃cs:List Value,cs.length=n/\(∀(j:Nat) u,cs[j]?=zw u->w.cell? ⟨b,o+j,zz⟩=zw u)/\(∀c∈cs,c.oneCell'=zj)/\∀(j:Nat) u,cs[j]?=zw u->Q j u:=by
 have key :∀j u,((List.range n).map λj=>(w.cell? ⟨b,o+j,zz⟩).getD undef)[j]?=zw u->j<n/\w.cell? ⟨b,o+j,zz⟩=zw u/\u.oneCell'=zj/\Q j u:=by intro j u hu;simp only[Z2,Wg]at hu;obtain⟨k,g,rfl⟩:=hu;obtain⟨d,rfl⟩:=Q3.1 g;simp at d ⊢;obtain⟨v,m,q,y⟩:=h j d;rw[m];exact⟨d,rfl,q,y⟩
 refine⟨(List.range n).map λj=>(w.cell? ⟨b,o+j,zz⟩).getD undef,by simp,λj u hu=>(key j u hu).2.1,λc z=>?_,λj u hu=>(key j u hu).2.2.2⟩;obtain⟨j,B⟩:=UV.1 z;exact(key j c B).2.2.1
def rU(Pg:Program)(tt:TT)(dc:List (Nat×Nat))(op:Op):Prop:=
 ∀(E:Env) (st:St) (gh:Nat->Gh) (val:Nat->Value) (w:World) (ρ:Operand->Value) (F:Operand->S) (o:Oper) (d:Nat) (r:EZ),o.op=op->Rel E st gh val w->
  (∀x,dR E st gh w (F x) (ρ x))->(∀x,∀g∈(F x).names,st.used g=zj)->dX tt dc d st.o F op o.type=zw r->r.pre->(∀g∈r.new,st.used g=zv)->
  ∃v w' bQ,Does Pg (execOp ρ o) w v w'/\Rel E (st.aK (r.aK r.val) r.new) bQ val w'/\Lets E st (st.aK (r.aK r.val) r.new) gh bQ w w'/\dR E (st.aK (r.aK r.val) r.new) bQ w' (r.dst r.val) v/\
   ∀g∈(r.dst r.val).names,(st.aK (r.aK r.val) r.new).used g=zj
theorem St.Fp{a b:St}(c:a.s=b.s)(d :∀g,a.o g=b.o g)(h :∀g,a.used g=b.used g):a=b:=by obtain⟨s,o,u⟩:=a;obtain⟨j,o',m⟩:=b;simp only at c d h;rw[c,funext d,funext h]
theorem NI(htt:jm Pg tt)(t:TypeId)(x:Operand){E:Env}{st:St}{gh:Nat->Gh}{val:Nat->Value}{w:World}{ρ:Operand->Value}{F:Operand->S}{o:Oper}{r:EZ}(ho:o.op=.load t x)(h:Rel E st gh val w)
  (hF :∀x,dR E st gh w (F x) (ρ x)) (b:uF tt st.o F t x=zw r) :
  ∃v w' bQ,Does Pg (execOp ρ o) w v w'/\Rel E (st.aK (r.aK r.val) r.new) bQ val w'/\Lets E st (st.aK (r.aK r.val) r.new) gh bQ w w'/\dR E (st.aK (r.aK r.val) r.new) bQ w' (r.dst r.val) v/\
   ∀g∈(r.dst r.val).names,(st.aK (r.aK r.val) r.new).used g=zj:=by
 unfold uF at b;split at b
 .rename_i i g n off ht z;have rx:=hF x;rw[z]at rx;split at b
  .rename_i a i' L au l hh;split at b
   .rename_i s ahX;split at b
    .rename_i M;cases b;obtain⟨st1,nY,h1,l1,e1,es,eu,eo,ek,en1⟩:=h.home hh;have NJ:=pq hh;obtain⟨ad,k,had,rfl,N,hv⟩:=(by cases rx.dS with|ep _ _ _ _ _ hb=>exact hb _ _ NJ :∃(ad:Addr) (k:Nat),(gh g).ad=zw ad/\n=.int .i64 k/\k<l.length/\ρ x=.pointer (zw ⟨ad.block,ad.off+k*L+off,zz⟩));have en:(P.int .i64 (k:Int)).nat=k:=by simp[P.nat,P.num]
     have NK:(nY g).ad=zw ad:=by rw[(e1 g).1];exact had
     have hD:lM E st1 nY w a i' L au l zz (nY g):=by have:=h1.bG g;rw[eo]at this;exact this
     rcases hD with⟨T,_⟩|⟨ad0,cs0,ty,T,k2,k3,k4,k5,k6,_,k8⟩
     .rw [NK]at T;cases T
     rw[NK]at T;cases T;have d:l[k]?=zw l[k]:=Q1 N;have hrl:l[k].length=L:=k6 _ (Xs N);have m:off<l[k].length:=by omega
     obtain⟨v,hv0,Z⟩:=k8 k _ d off _ (Q1 m);unfold jl at Z;rw[ahX]at Z;simp only[iK]at Z;obtain⟨J,ao,K,B,rfl,U,_⟩:=Z;have H:w.cell? ⟨ad.block,ad.off+k*L+off,zz⟩=zw (.slice ao J.length K):=by simp[World.cell?,k3,hv0]
     obtain⟨v,X,q⟩:=kZ (Pg:=Pg) (w:=w) (htt _ _ ht) ad.block (ad.off+k*L+off) [.slice ao J.length K] (by simp[M.2.1]) (λj c hj=>by
      cases j with
      |zero=>simp at hj;subst hj;exact H
      |succ j=>simp at hj) (λ_=>by omega)
     have hvv:v=.slice ao J.length K:=by rw[M.2.2]at q;exact q _ rfl
     have Y:hdr ((l.getD (P.int .i64 (k:Int)).nat []).getD off default).list=.sl 0 (List.replicate J.length []):=by
      rw[en];have e2:(l.getD k []).getD off default=l[k][off]:=by rw[Q2,Q2,d];simp[Q1 m]
      rw[e2,B,P.o9];rfl
     rw[Y];refine still h (v:=v) (by unfold execOp;rw[ho];exact iC (by rw[hv];simpa[Instr.loadAt,Instr.sureAddr]using X)) (dR.ofP ?_) λg' hg'=>by simp[EZ.pure,S.names,V.names,W.names]at hg'
     rw[hvv];rcases U with⟨q1,q2,q3⟩|⟨Dp,c2,e2,q1,q2,q3,q4,q5,_⟩
     .subst q3;exact .nil _ _ _
     .have q1:ao=zw Dp:=q1;have q5:J.length<=K/\K<=9223372036854775807:=q5;rw[q1];have:=dB.sl (w:=w) (ok:=E.ok st gh w zv zv) 0 (List.replicate J.length []) Dp K (λ_ _=>undef) q2 (λh0=>absurd h0 (qi 0)) (by simpa using q5.1) (λx z=>by rw[qD z];rfl)
       (λn x z j y B=>by rw[qD (Z3 z)]at B;simp at B) (λn x z j y B=>by rw[qD (Z3 z)]at B;simp at B)
      simpa using this
    .cases b
   .cases b
  .cases b
 .cases b
theorem Ub{dc:List (Nat×Nat)}(htt:jm Pg tt)(t:TypeId)(x:Operand):rU Pg tt dc (.load t x):=by
 intro E st gh val w ρ F o d r ho h hF hFn J hp hd;simp only[dX]at J;cases hhd:Ua dc with
 |true=>rw[hhd]at J;exact NI htt t x ho h hF J
 |false=>
 rw[hhd]at J;simp only[cond_false]at J;split at J
 .rename_i i g n off ht hx;have rx:=hF x;rw[hx]at rx;split at J
  .rename_i a0 i0 H lD l0 hole hog;split at J
   .rename_i hlt;have NJ:(st.o g).dim=zw (H,l0.length):=by rw[hog];rfl
    obtain⟨ad,k,had,rfl,hkl,hv⟩:=(by cases rx.dS with|ep _ _ _ _ _ hb=>exact hb _ _ NJ :∃(ad:Addr) (k:Nat),(gh g).ad=zw ad/\n=.int .i64 k/\k<l0.length/\ρ x=.pointer (zw ⟨ad.block,ad.off+k*H+off,zz⟩));have en:(P.int .i64 (k:Int)).nat=k:=by simp[P.nat,P.num]
    split at J
    .rename_i hci;cases J;have hD:lM E st gh w a0 i0 H lD l0 hole (gh g):=by have:=h.bG g;rw[hog]at this;exact this
     rcases hD with⟨X,_⟩|⟨ad0,cs0,ty,X,k2,k3,k4,k5,k6,_,k8⟩
     .rw [had]at X;cases X
     rw[had]at X;cases X;have z:l0[k]?=zw l0[k]:=Q1 hkl;have hrl:l0[k].length=H:=k6 _ (Xs hkl);have M:l0.getD (P.int .i64 (k:Int)).nat []=l0[k]:=by rw[en,Q2,z];rfl
     obtain⟨cs,hl,L,Y,Z⟩:=Ku (w:=w) (b:=ad.block) (o:=ad.off+k*H+off) (n:=i.size) (Q:=λj v=>dB w (E.ok st gh w a0 i0) (l0[k].getD (off+j) (Tt i.zero j)) v) λj hj=>by
      have K:off+j<l0[k].length:=by omega
      obtain⟨v,hv,T⟩:=k8 k _ z (off+j) _ (Q1 K);simp only[jl,Kt hci (show off<=off+j by omega) (show off+j<off+i.size by omega)]at T;have e0:ad.off+k*H+off+j=ad.off+k*H+(off+j):=by omega
      refine⟨v,by rw[e0];simp[World.cell?,k3,hv],T.oneCell,?_⟩;rw[Q2,Q1 K];exact T
     obtain⟨v,hrun,hval⟩:=kZ (Pg:=Pg) (w:=w) (htt _ _ ht) ad.block (ad.off+k*H+off) cs hl L (λ_=>hlt.2);rw[M];exact still h (v:=v) (by unfold execOp;rw[ho];exact iC (by rw[hv];simpa[Instr.loadAt,Instr.sureAddr]using hrun)) (lU (by simp[hl]) Y (λj y u hy hu=>by simp only[Z2,Wg]at hy;obtain⟨q,hq,rfl⟩:=hy;obtain⟨hlt2,rfl⟩:=Q3.1 hq;simp at hlt2 ⊢;exact .p _ _ _ _ (Z _ u hu)) v hval)
      λg' m=>by obtain⟨y,hy,m⟩:=jW m;rw[uy hy]at m;cases m
    .rename_i c s hci;split at J
     .rename_i a N sz au l U;cases J;obtain⟨st1,nY,h1,l1,e1,es,eu,eo,ek,en1⟩:=h.home U;have adS:=pq U;rw[NJ]at adS;simp only[Q0,QQ]at adS;obtain⟨rfl,hll⟩:=adS;have hcols:au=lD:=by
       unfold jF at U;rw[hog]at U;simp only at U;split at U
       .cases U;rfl
       .split at U
        .split at U
         .cases U;rfl
         .cases U
        .cases U
      subst hcols;obtain⟨c1,c2,c3,c4⟩:=Xb hci;have Ji:st.used d=zv:=hd d (by simp);have NK:(nY g).ad=zw ad:=by rw[(e1 g).1];exact had
      have hD:lM E st1 nY w a N H au l zz (nY g):=by have:=h1.bG g;rw[eo]at this;exact this
      rcases hD with⟨X,_⟩|⟨ad0,cs0,ty,X,k2,k3,k4,k5,k6,_,k8⟩
      .rw [NK]at X;cases X
      rw[NK]at X;cases X;have hkl':k<l.length:=by omega
      have z:l[k]?=zw l[k]:=Q1 hkl';have hrl:l[k].length=H:=k6 _ (Xs hkl');have M:l.getD (P.int .i64 (k:Int)).nat []=l[k]:=by rw[en,Q2,z];rfl
      have hyc:l[k][c]?=zw l[k][c]:=Q1 (by omega);obtain⟨l',ao,kc,AU,hy,⟨Dp,cs2,ty2,q1,q2,q3⟩,q4,q5,r1,r2⟩:=h1.split (d:=d) (by rw[eu];exact Ji) eo c1 z hyc;rw[NK]at q1;cases q1;rw[k3]at q2;cases q2;have hlist:((l.getD (P.int .i64 (k:Int)).nat []).getD c default).list=l':=by rw[M,Q2,hyc];show (l[k][c]).list=l';rw[hy,P.o9]
      have hgd:g≠d:=λe=>by rw[<-e,h.ul g (by rw[hog];simp)]at Ji;cases Ji
      have hst:st1.aK [(g,.aP a N H au l (zw (k,c,d))),(d,.arr zv a N s l')] [d]=st.aK ((g,.aP a N H au l (zw ((P.int .i64 (k:Int)).nat,c,d)))::(d,.arr zv a N s ((l.getD (P.int .i64 (k:Int)).nat []).getD c default).list)::kills (st.o g).hn) [d]:=by
       rw[hlist,en];refine St.Fp es (λx=>?_) (λx=>by simp[St.aK,eu]);simp only[St.aK,lookup_cons,iT];by_cases x1:x=g
       .simp only[QR x1]
       .by_cases x2:x=d
        .simp only[QP x1,QR x2]
        .simp only[QP x1,QP x2];by_cases x3:x∈(st.o g).hn
         .simp only[QR x3];exact(ek x x3).1
         .simp only[QP x3];exact en1 x x1 x3
      obtain⟨cs,hl,L,Y,Z⟩:=Ku (w:=w) (b:=ad.block) (o:=ad.off+k*H+off) (n:=i.size) (Q:=λj v=>if Nat.beq (off+j) c=zj then v=.slice ao l'.length kc else dB w (E.ok st1 nY w a N) (l[k].getD (off+j) (Tt i.zero j)) v) λj hj=>by
       have K:off+j<l[k].length:=by omega
       obtain⟨v,hv,T⟩:=k8 k _ z (off+j) _ (Q1 K);have e0:ad.off+k*H+off+j=ad.off+k*H+(off+j):=by omega
       refine⟨v,by rw[e0];simp[World.cell?,k3,hv],T.oneCell,?_⟩;by_cases B:off+j=c
       .rw [QR (by simpa using B)];rw[B]at hv;rw[hv]at q3;exact Wz q3
       .rw [QP (by simpa using B)];simp only[jl,c4 (off+j) (by omega) (by omega) B]at T;rw[Q2,Q1 K];exact T
      obtain⟨v,hrun,hval⟩:=kZ (Pg:=Pg) (w:=w) (htt _ _ ht) ad.block (ad.off+k*H+off) cs hl L (λ_=>hlt.2);have hod:(st1.aK [(g,.aP a N H au l (zw (k,c,d))),(d,.arr zv a N s l')] [d]).o d=.arr zv a N s l':=by
       have:(d==g)=zv:=by simpa using hgd.symm
       simp[St.aK,List.lookup,this]
      refine⟨v,w,AU,.inl (by unfold execOp;rw[ho];exact iC (by rw[hv];simpa[Instr.loadAt,Instr.sureAddr]using hrun)),?_,?_,?_,λg' m=>?_⟩
      .rw [hst]at r1;exact r1
      .have:=Lets.trans l1 r2 λg hg=>by rw[eu];exact hg
       rw[hst]at this;exact this
      .have hS:dR E (st1.aK [(g,.aP a N H au l (zw (k,c,d))),(d,.arr zv a N s l')] [d]) AU w (V.gB i.agg ((List.range i.size).map λj=>if Nat.beq (off+j) c=zj then W.own d else W.p a N ((l.getD (P.int .i64 (k:Int)).nat []).getD (off+j) (Tt i.zero j)))) v:=by
        rw[M];refine lU (by simp[hl]) Y (λj y u hy hu=>?_) v hval;simp only[Z2,Wg]at hy;obtain⟨q,hq,rfl⟩:=hy;obtain⟨hlt2,rfl⟩:=Q3.1 hq;simp at hlt2 ⊢;have T:=Z _ u hu;by_cases B:off+j=c
        .rw [QR B];rw[QR (by simpa using B)]at T;subst T;exact .own d _ rfl λsz3 as1 hd3=>by rw[hod]at hd3;obtain⟨_,e2⟩:=O.kV hd3;rw[q4,q5,e2]
        .rw [QP B];rw[QP (by simpa using B)]at T;exact .p _ _ _ _ (r2.lN (by simpa using T))
       rw[hst]at hS;exact hS
      .have m:g'∈(V.gB i.agg ((List.range i.size).map λj=>if Nat.beq (off+j) c=zj then W.own d else W.p a N ((l.getD (P.int .i64 (k:Int)).nat []).getD (off+j) (Tt i.zero j)))).names:=m;obtain⟨y,hy,m⟩:=jW m;obtain⟨j,_,rfl⟩:=XS.1 hy;split at m
       .simp only[W.names,X2]at m;subst m;simp[St.aK]
       .simp [W.names]at m
     .cases J
    .cases J
   .cases J
  .cases J
 .cases J
theorem PartOf.mono{a i c d:Bool}{es b:List (Nat×Nat)}{s j:Nat}{y:P}{u:Value}(h:PartOf st gh a i es s j y u)(g:a=zj->c=zj)(hi:i=zj->d=zj)(m :∀p∈es,p∈b):PartOf st gh c d b s j y u:=by obtain⟨q,z,B⟩:=h;refine⟨q,z,B.imp id ?_⟩;rintro ⟨e,H,i1,q1,q2,q3,q4,q5⟩;exact⟨e,H,i1,m _ q1,q2,λh=>g (q3 h),λh=>hi (q4 h),q5⟩
theorem DF(h:Rel E st gh val w){q:Nat->Option Nat}:∀{H:List W} {cs:List Value} {ps:List P} {a i:Bool} {gs:List Nat} {es:List (Nat×Nat)} {j0:Nat},H.length=cs.length->(∀(j:Nat) x u,H[j]?=zw x->cs[j]?=zw u->fV E st gh w x u)->
  S_ st.o q j0 H=zw (ps,a,i,gs,es)->ps.length=H.length/\yN st.o gs/\(∀p∈es,∃J i1 s l',st.o p.2=.arr zv J i1 s l'/\(i1=zj->i=zj))/\
   ∀(j:Nat) y u,ps[j]?=zw y->cs[j]?=zw u->match q (j0+j)with
    |none=>∀st',(∀g∈gs,st'.o g=(Fw.bf st.o g).2)->Rel E st' gh val w->Lets E st st' gh gh w w->dB w (E.ok st' gh w a i) y u
    |some s=>PartOf st gh a i es s (j0+j) y u
 | [],cs,ps,a,i,gs,es,j0,T,K,d=>by simp only[S_,Q0,QQ]at d;obtain⟨rfl,rfl,rfl,rfl,rfl⟩:=d;exact⟨rfl,yN.nil,(λp hp=>by cases hp),λj y u m=>by simp at m⟩
 |x::H,cs,ps,a,i,gs,es,j0,T,K,d=>by
  cases cs with
  |nil=>simp at T
  |cons c cs=>
   simp only[S_]at d;split at d
   .cases d
   .rename_i ys a' i' U X Y;obtain⟨q0,q1,Z,q2⟩:=DF h (j0:=j0+1) (by simpa using T) (λj a b N hb=>K (j+1) a b (by simpa using N) (by simpa using hb)) Y;have rest :∀(a i:Bool) (gs:List Nat) (es:List (Nat×Nat)),(a'=zj->a=zj)->(i'=zj->i=zj)->(∀g∈U,g∈gs)->(∀p∈X,p∈es)->∀(j:Nat) y u,ys[j]?=zw y->cs[j]?=zw u->match q (j0+(j+1))with
      |none=>∀st',(∀g∈gs,st'.o g=(Fw.bf st.o g).2)->Rel E st' gh val w->Lets E st st' gh gh w w->dB w (E.ok st' gh w a i) y u
      |some s=>PartOf st gh a i es s (j0+(j+1)) y u:=by
     intro a i gs es N hi hg he j y u m hu;have:=q2 j y u m hu;have e:j0+1+j=j0+(j+1):=by omega
     rw[e]at this;cases hc:q (j0+(j+1))with
     |none=>rw[hc]at this;exact λst' h1 Y h3=>(this st' (λg hg'=>h1 g (hg g hg')) Y h3).cls N hi
     |some s=>rw[hc]at this;exact this.mono N hi he
    cases z:q j0 with
    |none=>
     rw[z]at d;simp only at d;split at d
     .rename_i y1 J i1 gs1 h1;cases d;obtain⟨k1,k2⟩:=Qn h (K 0 x c rfl rfl) h1;refine⟨by simp[q0],k1.append q1,λp hp=>let ⟨a2,i2,s2,l2,z1,z2⟩:=Z p hp;⟨a2,i2,s2,l2,z1,λL=>by simp[z2 L]⟩,λj y u m hu=>?_⟩;cases j with
      |zero=>simp at m hu;subst m hu;rw[Jn,z];exact λst' hst h' M=>(k2 st' (λg hg=>hst g (by simp[hg])) h' M).cls (by simp;exact λh=>.inl h) (by simp;exact λh=>.inl h)
      |succ j=>exact rest _ _ _ _ (by simp;exact λh=>.inr h) (by simp;exact λh=>.inr h) (λg hg=>by simp[hg]) (λp hp=>hp) j y u (by simpa using m) (by simpa using hu)
     .cases d
    |some s=>
     rw[z]at d;simp only at d;split at d
     .cases d;refine⟨by simp[q0],q1,Z,λj y u m hu=>?_⟩;cases j with
      |zero=>simp at m hu;subst m hu;rw[Jn,z];have r0:=K 0 _ _ rfl rfl;cases r0;exact⟨[],rfl,.inl ⟨rfl,rfl⟩⟩
      |succ j=>exact rest _ _ _ _ id id (λg hg=>hg) (λp hp=>hp) j y u (by simpa using m) (by simpa using hu)
     .rename_i e;split at d
      .rename_i J i1 s' l1 B;split at d
       .rename_i hs;subst hs;cases d;refine⟨by simp[q0],q1,λp hp=>?_,λj y u m hu=>?_⟩
        .rcases XN.1 hp with rfl|hp
         .exact ⟨J,i1,s',l1,B,λL=>by simp[L]⟩
         .obtain ⟨a2,i2,s2,l2,z1,z2⟩:=Z p hp;exact⟨a2,i2,s2,l2,z1,λL=>by simp[z2 L]⟩
        cases j with
        |zero=>simp at m hu;subst m hu;rw[Jn,z];have r0:=K 0 _ _ rfl rfl;refine⟨l1,rfl,.inr ⟨e,J,i1,by simp,B,by simp;exact λh=>.inl h,by simp;exact λh=>.inl h,?_⟩⟩;cases r0 with|own _ _ _ hb=>exact hb _ _ (O.kY B)
        |succ j=>exact rest _ _ _ _ (by simp;exact λh=>.inr h) (by simp;exact λh=>.inr h) (λg hg=>hg) (λp hp=>by simp[hp]) j y u (by simpa using m) (by simpa using hu)
       .cases d
      .cases d
     .cases d
theorem Kv{o:Nat->O}{g:Nat}{a0 i0:Bool}{h:Nat}{j:List (Nat×Nat)}{m:List (List P)}{hole:Option (Nat×Nat×Nat)}{a i:Bool}{sz:Nat}{au:List (Nat×Nat)}{l:List (List P)}(c:o g=.aP a0 i0 h j m hole)
  (b:jF o g=zw (a,i,sz,au,l)):sz=h/\au=j/\l.length=m.length:=by
 have d:=pq b;rw[c]at d;simp only[O.dim,Q0,QQ]at d;refine⟨d.1.symm,?_,d.2.symm⟩;unfold jF at b;rw[c]at b;simp only at b;split at b
 .cases b;rfl
 .split at b
  .split at b
   .cases b;rfl
   .cases b
  .cases b
theorem xg(htt:jm Pg tt)(h:Rel E st gh val w){o:Oper}{ρ:Operand->Value}{t:TypeId}{x y:Operand}(ho:o.op=.store t x y){i:TI}(ht:tt t=zw i){y':V}(ry:sO E st gh w y' (ρ y))(hys:y'.solid=zj)(M:y'.words.length=i.size)
  {g:Nat} {H i1:Bool} {sz:Nat} {au:List (Nat×Nat)} {l:List (List P)} {hole iE:Option (Nat×Nat×Nat)} {ad:Addr} {k off:Nat} (hv:ρ x=.pointer (zw ⟨ad.block,ad.off+k*sz+off,zz⟩)) (hsz:off+i.size<=sz) (hk:k<l.length)
  {ps:List P} {a' i':Bool} {gs:List Nat} {es:List (Nat×Nat)} (hD:S_ st.o (λj=>au.lookup j) off y'.words=zw (ps,a',i',gs,es)) (hnd:(es.map (·.2)).Nodup) (hap :∀e∈es.map (·.2),e∉gs)
  {b:St} {J:Nat->Gh} (K:List Nat) (h1:Rel E b J val w) (l1:Lets E (st.aK (gs.map (Fw.bf st.o)) []) b gh J w w) (e1 :∀x,(J x).ad=(gh x).ad/\(J x).cap=(gh x).cap) (s1:b.s=st.s) (u1 :∀x,b.used x=st.used x)
  (o1:b.o g=.aP H i1 sz au l hole) (had:(gh g).ad=zw ad) (ok1 :∀d∈K,b.o d=.none/\d≠g/\d∉es.map (·.2)) (N :∀g',g'≠g->g'∉K->b.o g'=(st.aK (gs.map (Fw.bf st.o)) []).o g') (hgg:g∉gs)
  (hh1 :∀m j,¬ (m=k/\off<=j/\j<off+i.size)->∀s,au.lookup j=zw s->iK iE m j=iK hole m j) (hh2 :∀j s,off<=j->j<off+i.size->au.lookup j=zw s->iK iE k j=zz) (hh3 :∀d∈dL iE,d∈dL hole) :
  ∃v w' bQ,Does Pg (execOp ρ o) w v w'/\Rel E (st.aK ((g,.aP (H||a') (i1||i') sz au (l.set k (aZ (l.getD k []) off ps)) iE)::kills (es.map (·.2))++kills K++gs.map (Fw.bf st.o)) []) bQ val w'/\
   Lets E st (st.aK ((g,.aP (H||a') (i1||i') sz au (l.set k (aZ (l.getD k []) off ps)) iE)::kills (es.map (·.2))++kills K++gs.map (Fw.bf st.o)) []) gh bQ w w'/\
   dR E (st.aK ((g,.aP (H||a') (i1||i') sz au (l.set k (aZ (l.getD k []) off ps)) iE)::kills (es.map (·.2))++kills K++gs.map (Fw.bf st.o)) []) bQ w' .no v/\
   ∀g∈S.names .no,(st.aK ((g,.aP (H||a') (i1||i') sz au (l.set k (aZ (l.getD k []) off ps)) iE)::kills (es.map (·.2))++kills K++gs.map (Fw.bf st.o)) []).used g=zj:=by
 obtain⟨us,hus,J8,huo,hur⟩:=ry.cells hys;have adN:us.length=i.size:=by rw[J8,M]
 obtain⟨q0,q1,qe,q2⟩:=DF h J8.symm hur hD;have T:ps.length=i.size:=by rw[q0,M]
 obtain⟨f1,f2⟩:=Rel.freezes gs h q1;have NK:(J g).ad=zw ad:=by rw[(e1 g).1];exact had
 have hDA:lM E b J w H i1 sz au l hole (J g):=by have:=h1.bG g;rw[o1]at this;exact this
 rcases hDA with⟨U,_⟩|⟨ad0,cs0,ty,U,k2,k3,k4,k5,k6,_,k8⟩
 .rw [NK]at U;cases U
 rw[NK]at U;cases U;have hle:(k+1)*sz<=(J g).cap*sz:=W2 _ (by have:=k5.1;omega);rw[WK,Kx]at hle;obtain⟨w',c',r1,r2,r3,r4,r5,r6,r7,r8⟩:=uz (Pg:=Pg) (htt _ _ ht) ad.block (ad.off+k*sz+off) hus adN huo k3 (by omega);have L :∀p∈es,b.o p.2=st.o p.2:=by
  intro p X;have Y:p.2∈es.map (·.2):=XS.2 ⟨p,X,rfl⟩;obtain⟨a2,i2,s2,l2,B,_⟩:=qe p X;by_cases e:p.2=g
  .exfalso;have hog:(st.aK (gs.map (Fw.bf st.o)) []).o g=st.o g:=by rw[g_,QP hgg]
   have q:=l1.names g (by simp only[St.aK,List.contains_nil,K9];exact h.ul g (by rw[<-e,B];simp));rw[o1,hog,<-e,B]at q;rcases q with q|⟨_,q⟩
   .cases q
   .exact q
  .rw [N _ e λhk=>(ok1 _ hk).2.2 Y,g_,QP (hap _ Y)]
 have hm:=h1.al7 o1 NK hk (off:=off) (ps:=ps) (us:=us) (by omega) (by omega) a' i' es iE hnd (λp X=>by
   obtain⟨a2,i2,s2,l2,B,z2⟩:=qe p X;exact⟨a2,i2,s2,l2,by rw[L p X];exact B,z2⟩) (λj y u hy hu=>by
   have:=q2 j y u hy hu;cases hc:au.lookup (off+j)with
   |none=>rw[hc]at this;exact l1.lN (this _ (λg hg=>by rw[g_,QR hg]) f1 f2)
   |some s=>rw[hc]at this;obtain⟨l',B,z2⟩:=this;refine⟨l',B,z2.imp id ?_⟩;rintro ⟨e,a2,i2,y1,y2,y3,y4,y5⟩;exact⟨e,a2,i2,y1,by rw[L _ y1];exact y2,y3,y4,by rw[(e1 e).1,(e1 e).2];exact y5⟩)
  (by rw[T];exact hh1) (by rw[T];exact hh2) hh3 w' r4 r5 r6 r7 r8 (λc e Z=>by rw[k3]at Z;cases Z;exact⟨c',r2,r3⟩)
 obtain⟨bQ,m1,m2⟩:=hm;have hst:b.aK ((g,.aP (H||a') (i1||i') sz au (l.set k (aZ (l.getD k []) off ps)) iE)::es.map λp=>(p.2,O.none)) [] =
   st.aK ((g,.aP (H||a') (i1||i') sz au (l.set k (aZ (l.getD k []) off ps)) iE)::kills (es.map (·.2))++kills K++gs.map (Fw.bf st.o)) []:=by
  refine St.Fp s1 (λz=>?_) (λz=>by simp[St.aK,u1]);have ek:(es.map λp=>(p.2,O.none))=kills (es.map (·.2)):=by simp[kills]
  rw[ek];simp only[St.aK,Kj,lookup_cons,w_,iT];by_cases B:z=g
  .simp only[QR B]
  .simp only[QP B];by_cases z2:z∈es.map (·.2)
   .simp only[QR z2,Option.some_or]
   .simp only[QP z2,Option.none_or];by_cases z3:z∈K
    .simp only[QR z3,Option.some_or];exact(ok1 z z3).1
    .simp only[QP z3,Option.none_or];rw[N z B z3];rfl
 rw[hst]at m1 m2;refine⟨undef,w',bQ,.inr ⟨?_,rfl⟩,m1,?_,.no _,λg hg=>by simp[S.names]at hg⟩
 .unfold execOp;rw[ho];refine adJ ?_;rw[hv];simpa[Instr.storeAt,Instr.sureAddr]using r1
 .exact Lets.trans (Lets.trans f2 l1 (λg hg=>by simpa[St.aK]using hg)) m2 (λg hg=>by rw[u1];exact hg)
theorem aoY{o:Nat->O}{g:Nat}{a i:Bool}{sz:Nat}{au:List (Nat×Nat)}{l:List (List P)}{hole:Option (Nat×Nat×Nat)}(h:o g=.aP a i sz au l hole):(o g).hn=dL hole:=by rw[h];rfl
theorem Qs{g:Nat}{gs:List Nat}(hg:g∉gs)(hn :∀d∈(st.o g).hn,d∉gs):jF (st.aK (gs.map (Fw.bf st.o)) []).o g=jF st.o g:=by
 have h:(st.aK (gs.map (Fw.bf st.o)) []).o g=st.o g:=by rw[g_,QP hg]
 unfold jF;rw[h];cases j:st.o g with
 |aP a i m q l b=>
  rcases b with _|⟨n,c,d⟩
  .rfl
  .simp only;rw[g_,QP (hn d (by rw[j];simp[O.hn,dL]))]
 |_=>rfl
theorem Qu{dc:List (Nat×Nat)}(L:jm Pg tt)(t:TypeId)(x y:Operand):rU Pg tt dc (.store t x y):=by
 intro E st gh val w ρ F o d r ho h hF hFn c K hd;simp only[dX]at c;split at c
 .rename_i i g n off y' ht hx hy;have rx:=hF x;rw[hx]at rx;have ry:=hF y;rw[hy]at ry;split at c
  .rename_i a0 i0 M au l0 H q;split at c
   .rename_i ps a' i' gs es hD;split at c
    .rename_i hc;obtain⟨N,T,J,hc4,hc5,hc6⟩:=hc;have B:g∉gs:=λhm=>by simp[hm]at hc4
     have U:=tq hc5;have X:=Hq hc6;have NJ:(st.o g).dim=zw (M,l0.length):=by rw[q];rfl
     obtain⟨ad,k,Y,rfl,hkl,hv⟩:=(by cases rx.dS with|ep _ _ _ _ _ hb=>exact hb _ _ NJ :∃(ad:Addr) (k:Nat),(gh g).ad=zw ad/\n=.int .i64 k/\k<l0.length/\ρ x=.pointer (zw ⟨ad.block,ad.off+k*M+off,zz⟩));have en:(P.int .i64 (k:Int)).nat=k:=by simp[P.nat,P.num]
     have Z:(st.aK (gs.map (Fw.bf st.o)) []).o g=.aP a0 i0 M au l0 H:=by rw[g_,QP B];exact q
     obtain⟨us,hus,J8,huo,hur⟩:=ry.Ql.cells J;obtain⟨_,q1,_,_⟩:=DF h J8.symm hur hD;obtain⟨f1,f2⟩:=Rel.freezes gs h q1;have refl:Lets E (st.aK (gs.map (Fw.bf st.o)) []) (st.aK (gs.map (Fw.bf st.o)) []) gh gh w w:=⟨λa i b hb=>⟨hb,rfl⟩,λg _=>.inr ⟨⟨rfl,rfl⟩,O.gq _⟩⟩;have home :∀(a i1:Bool) (l:List (List P)),jF st.o g=zw (a,i1,M,au,l)->(∀d∈(st.o g).hn,d∉es.map (·.2)/\d∉gs)->
       ∃v w' bQ,Does Pg (execOp ρ o) w v w'/\Rel E (st.aK ((g,.aP (a||a') (i1||i') M au (l.set k (aZ (l.getD k []) off ps)) zz)::kills (es.map (·.2))++kills (st.o g).hn++gs.map (Fw.bf st.o)) []) bQ val w'/\Lets E st (st.aK ((g,.aP (a||a') (i1||i') M au (l.set k (aZ (l.getD k []) off ps)) zz)::kills (es.map (·.2))++kills (st.o g).hn++gs.map (Fw.bf st.o)) []) gh bQ w w'/\dR E (st.aK ((g,.aP (a||a') (i1||i') M au (l.set k (aZ (l.getD k []) off ps)) zz)::kills (es.map (·.2))++kills (st.o g).hn++gs.map (Fw.bf st.o)) []) bQ w' .no v/\∀g'∈S.names .no,(st.aK ((g,.aP (a||a') (i1||i') M au (l.set k (aZ (l.getD k []) off ps)) zz)::kills (es.map (·.2))++kills (st.o g).hn++gs.map (Fw.bf st.o)) []).used g'=zj:=λa i1 l hh hno=>by
      have hh':jF (st.aK (gs.map (Fw.bf st.o)) []).o g=zw (a,i1,M,au,l):=by rw[Qs B λd hd=>(hno d hd).2];exact hh
      have hhn:((st.aK (gs.map (Fw.bf st.o)) []).o g).hn=(st.o g).hn:=by rw[Z,q]
      obtain⟨st1,nY,h1,l1,e1,es1,eu,eo,ek,en1⟩:=f1.home hh';rw[hhn]at ek en1;have hll:=(Kv q hh).2.2;exact xg L h ho ht ry.Ql J T hv N (by omega) hD U X (st.o g).hn h1 l1 e1 (by rw[es1];rfl) (λz=>by rw[eu];simp[St.aK]) eo Y
       (λd hd=>⟨(ek d hd).1,(ek d hd).2,(hno d hd).1⟩) en1 B (iE:=zz) (λ_ _ _ _ _=>rfl) (λ_ _ _ _ _=>rfl) (λd hd=>by cases hd)
     have over :∀n0 c0 d0,H=zw (n0,c0,d0)->off<=c0/\c0<off+i.size->n0=k->_:=λn0 c0 d0 hho hcr K=>
      xg L h ho ht ry.Ql J T hv N hkl hD U X [] f1 refl (λ_=>⟨rfl,rfl⟩) rfl (λz=>by simp[St.aK]) Z Y (λd hd=>by cases hd) (λ_ _ _=>rfl) B
       (iE:=zz) (λm j hne s hs=>by subst hho K;simp only[iK];rw[QP λe=>hne ⟨e.1.symm,by omega,by omega⟩]) (λ_ _ _ _ _=>rfl) (λd hd=>by cases hd)
     split at c
     .rename_i hci;cases c;have:=xg L h ho ht ry.Ql J T hv N hkl hD U X [] f1 refl (λ_=>⟨rfl,rfl⟩) rfl (λz=>by simp[St.aK]) Z Y (λd hd=>by cases hd) (λ_ _ _=>rfl) B
       (iE:=H) (λ_ _ _ _ _=>rfl) (λj s h1 h2 h3=>by rw[Kt hci h1 h2]at h3;cases h3) (λd hd=>hd)
      rw[en];exact this
     .split at c
      .cases c;have:=xg L h ho ht ry.Ql J T hv N hkl hD U X [] f1 refl (λ_=>⟨rfl,rfl⟩) rfl (λz=>by simp[St.aK]) Z Y (λd hd=>by cases hd) (λ_ _ _=>rfl) B
        (iE:=zz) (λ_ _ _ _ _=>rfl) (λ_ _ _ _ _=>rfl) (λd hd=>hd)
       rw[en];exact this
      .rename_i n0 c0 d0;split at c
       .rename_i a i1 _ _ l hh;split at c
        .rename_i hcc;cases c;obtain⟨e1,e2,e3⟩:=Kv q hh;subst e1 e2;have hhn:(st.o g).hn=[d0]:=by rw[aoY q];rfl
         have:=home a i1 l hh (λd hd=>by rw[hhn,X2]at hd;subst hd;exact⟨λhm=>by have:=hcc.1;simp only[Vc,decide_eq_false_iff_not]at this;exact this hm,λhm=>by have:=hcc.2;simp[hm]at this⟩)
         rw[hhn]at this;rw[en];exact this
        .split at c
         .rename_i hcr;cases c;have K:n0=(P.int .i64 (k:Int)).nat:=K;rw[en]at K;rw[en];exact over n0 c0 d0 rfl hcr K
         .cases c
       .split at c
        .rename_i hcr;cases c;have K:n0=(P.int .i64 (k:Int)).nat:=K;rw[en]at K;rw[en];exact over n0 c0 d0 rfl hcr K
        .cases c
    .cases c
   .cases c
  .cases c
 .cases c
theorem Rel.adT(h:Rel E st gh val w){d:Nat}(hd:st.used d=zv)(a i:Bool)(sz:Nat)(au:List (Nat×Nat))(l:List (List P))(c:Array Value)(t:TypeId)(cap:Nat)(K:l.length<=cap/\cap<=9223372036854775807)(hc:cap*sz<=c.size)(B :∀x∈l,x.length=sz)
  (es:List (Nat×Nat)) (hnd:(es.map (·.2)).Nodup) (q :∀p∈es,∃a1 i1 s l',st.o p.2=.arr zv a1 i1 s l'/\(i1=zj->i=zj))
  (H :∀(n:Nat) x,l[n]?=zw x->∀(j:Nat) y,x[j]?=zw y->∃v,c[n*sz+j]?=zw v/\match au.lookup j with
   |none=>dB w (E.ok st gh w a i) y v
   |some s=>PartOf st gh a i es s (n*sz+j) y v) :
  ∃bQ,Rel E (st.aK ((d,.aP a i sz au l zz)::kills (es.map (·.2))) [d]) bQ val { w with heap:=w.heap.push (.cells c t) }/\Lets E st (st.aK ((d,.aP a i sz au l zz)::kills (es.map (·.2))) [d]) gh bQ w { w with heap:=w.heap.push (.cells c t) }/\
   (bQ d).ad=zw ⟨w.heap.size,0,zz⟩ /\(bQ d).cap=cap:=by
 have z :∀p∈es,(st.o p.2).bW=zj:=λp m=>by obtain⟨_,_,_,_,e,_⟩:=q p m;rw[e];rfl
 have hde:d∉es.map (·.2):=λX=>by obtain⟨p,m,e⟩:=XS.1 X;have:=h.ul p.2 (O.qm (z p m));rw[e,hd]at this;cases this
 let G:Gh:=⟨zw ⟨w.heap.size,0,zz⟩,cap,λb=>(whose gh es b).map λp=>(p.1/sz,p.1 % sz)⟩
 have L :∀b,(G.sub b).isSome=zj->∃p∈es,∃ad,(gh p.2).ad=zw ad/\ad.block=b:=λb M=>by
  cases J:whose gh es b with
  |none=>simp[G,J]at M
  |some p=>exact⟨p,wZ J⟩
 have X:=h.gather (λg=>g∈es.map (·.2)) hd a i sz au l G (st.aK ((d,.aP a i sz au l zz)::kills (es.map (·.2))) [d]) { w with heap:=w.heap.push (.cells c t) } rfl (by simp[St.aK,lookup_cons])
  (λg hg e=>by simp only[St.aK,lookup_cons,QP e,iT,QR hg]) (λg hg e=>by simp only[St.aK,lookup_cons,QP e,iT,QP hg]) (λg hg=>by simp[St.aK,hg]) (by simp[St.aK])
  (ad:=⟨w.heap.size,0,zz⟩) (c:=c) (ty:=t) rfl rfl (by simp) (by simpa[G]using hc) K B (by
   cases J:G.sub w.heap.size with
   |none=>rfl
   |some p=>obtain⟨p,m,ad,q1,q2⟩:=L w.heap.size (by rw[J];rfl);have:=(h.wr p.2 w.heap.size (z p m) (.inl ⟨ad,q1,q2⟩)).2;omega) (λb M=>by
   obtain⟨p,m,ad,q1,q2⟩:=L b M;refine⟨⟨p.2,XS.2 ⟨p,m,rfl⟩,z p m,.inl ⟨ad,q1,q2⟩⟩,?_⟩;obtain⟨_,_,_,_,e,_⟩:=q p m;have hA:=h.bG p.2;rw[e]at hA;rcases hA with⟨q3,_⟩|⟨Dp,c2,e2,q3,_,q4,_⟩
   .rw [q1]at q3;cases q3
   .rw [q1]at q3;cases q3;rw[<-q2];exact⟨_,_,_,q4⟩)
  (.inr ⟨Z1 _,by simp⟩) (λb M _=>wQ w _ b M) (by simp) rfl rfl rfl (λg i1 hg Y hi=>by
   obtain⟨p,m,rfl⟩:=XS.1 hg;obtain⟨_,i2,_,_,e,N⟩:=q p m;rw[e]at Y;cases Y;exact N hi) (λg hg _=>by
   obtain⟨p,m,rfl⟩:=XS.1 hg;obtain⟨_,i2,_,_,e,N⟩:=q p m;exact⟨i2,by rw[e];rfl⟩) (λn x J j y hy=>by
   obtain⟨v,hv,Z⟩:=H n x J j y hy;refine⟨v,by simpa using hv,?_⟩;cases T:au.lookup j with
   |none=>rw[T]at Z;exact Z
   |some s=>
    rw[T]at Z;have U:j<sz:=by have:=(Q3.1 hy).1;have:=B x (Z3 J);omega
    refine PartOf.aoW h Z λp m e ad had=>?_;have:=Ou h hnd z m had;simp only[G,this,W7,e];have Y:(n*sz+j)/sz=n:=by rw[qb,Nat.mul_add_div (by omega),Nat.div_eq_of_lt U,Jn]
    have e2:(n*sz+j) % sz=j:=by rw[qb,zd,Kk U]
    rw[Y,e2])
 exact⟨_,X.1,X.2,by simp[fQ,G],by simp[fQ,G]⟩
theorem Fq{dc:List (Nat×Nat)}(K:jm Pg tt)(t:TypeId)(n c:Operand):rU Pg tt dc (.makeSlice t n c):=by
 intro E st gh val w ρ F o d r ho h hF hFn J hp hd;simp only[dX]at J;split at J
 .rename_i e _ _ _ _ _ n' _ _ c' AX Fv ht hn hc;split at J
  .rename_i B he;split at J
   .rename_i ps hps;split at J
    .rename_i M;cases J;obtain⟨m,k,rfl,rfl,hmk,hby,hkm⟩:=hp;have hu:=(K _ _ ht).kind;simp only[qo]at hu;have rn:=hF n;rw[hn]at rn;have rc:=hF c;rw[hc]at rc;obtain⟨x,z,g1,g2,g3,g4,g5,g6⟩:=(K _ _ he).info;obtain⟨hone,hl,hr⟩:=uZ (E:=E) (st:=st) (gh:=gh) (w:=w) (K _ _ he);have H:=(K _ _ he).len;obtain⟨q0,q1,_,q2⟩:=DF h hl hr hps;have Ji:st.used d=zv:=hd d (by simp);have hpl:ps.length=B.size:=by rw[q0,hl,H]
     have e1:(P.int .i64 (m:Int)).nat=m:=by simp[P.nat,P.num]
     obtain⟨bQ,m1,m2,m3,m4⟩:=h.adT Ji zv zv B.size (AX::Fv) (List.replicate m ps) (iF B.zero k).toArray e k ⟨by simpa using hmk,by omega⟩ (by simp[dZ,H]) (λx L=>by
       rw[List.mem_replicate]at L;rw[L.2,hpl]) [] List.nodup_nil (λp hp=>by cases hp) (λq x L j y hy=>by
       rw[List.getElem?_replicate]at L;split at L
       .rename_i hq;cases L;have hj:j<B.size:=by have:=(Q3.1 hy).1;omega
        have hlt:q*B.size+j<k*B.zero.length:=by rw[H];have:(q+1)*B.size<=k*B.size:=W2 _ (by omega);rw[WK]at this;omega
        have N:B.zero[j]?=zw B.zero[j]:=Q1 (by omega);refine⟨B.zero[j],?_,?_⟩
        .simp only[Ke];have T:(q*B.size+j) % B.zero.length=j:=by rw[H,qb,zd,Kk hj]
         rw[jB _ _ _ hlt,T];exact N
        .have:=q2 j y _ hy N;rw[Vi]at this;cases U:(AX::Fv).lookup j with
         |none=>rw[U]at this;exact this st (by simp) h ⟨λa i b hb=>⟨hb,rfl⟩,λg _=>.inr ⟨⟨rfl,rfl⟩,O.gq _⟩⟩
         |some s=>
          rw[U]at this;obtain⟨l',z1,z2⟩:=this;rcases z2 with z2|⟨_,_,_,z3,_⟩
          .exact ⟨l',z1,.inl z2⟩
          .cases z3
       .cases L)
     refine⟨.slice (zw ⟨w.heap.size,0,zz⟩) m k,_,bQ,.inl ?_,by simpa[e1,P.list,kills]using m1,by simpa[e1,P.list,kills]using m2,dR.Jg (.own d _ rfl λsz' X Y=>?_),λg hg=>?_⟩
     .unfold execOp;rw[ho];refine iC ?_;have Z:=run_make (P:=Pg) w t e x z hu g1 g4 .i64 .i64 (m:Int) (k:Int) (by omega) (by omega) (by rw[g3];omega) (by omega);rw[rn.gu.fF,rc.gu.fF,Z];have:=oJ g5 k (by rw[H];exact M);rw[H]at this;simp only[Q4,g2,madeCells,this]
     .rw [e1]at Y;have W9:(zw (B.size,m):Option (Nat×Nat))=zw (sz',X):=by rw[<-Y];simp[St.aK,List.lookup,O.dim,P.list]
      cases W9;rw[m3,m4]
     .have hg:g∈(S.v (.one (.own d))).names:=hg;rw[dY]at hg;simp only[W.names,X2]at hg;subst hg;simp[St.aK]
    .cases J
   .cases J
  .cases J
 .cases J
theorem DJ{dc:List (Nat×Nat)}(B:jm Pg tt)(t:TypeId)(n:Nat)(parts:Array (Nat×Operand)):rU Pg tt dc (.buildSlice t n parts):=by
 intro E st gh val w ρ F o d r ho h hF hFn H hp hd;simp only[dX]at H;split at H
 .rename_i e _ _ _ AX Fv ht;split at H
  .rename_i b he;split at H
   .rename_i ws Ot;split at H
    .rename_i ps a i gs es hps;split at H
     .rename_i hcc;obtain⟨hcap0,N,T⟩:=hcc;have N:=tq N;have T:=Hq T;have hcap:n*b.size<=16777216:=by omega
      cases H;have hu:=(B _ _ ht).kind;simp only[qo]at hu;obtain⟨z,hz,hzc,_⟩:=oH (Pg:=Pg) (w:=w) (B _ _ he);obtain⟨hone,hl,hr⟩:=uZ (E:=E) (st:=st) (gh:=gh) (w:=w) (B _ _ he);have K:=(B _ _ he).len;have L:(parts.map λ(p:Nat×Operand)=>(p.1,ρ p.2)).toList=parts.toList.map λp=>(p.1,ρ p.2):=by simp
      obtain⟨M,h1,h2,h3,h4,h5⟩:=Dv (E:=E) (st:=st) (gh:=gh) (w:=w) (place':=λi=>zw (i*b.size,b.size)) (λm p U=>by split at U;exact U;cases U) _ (parts.toList.map λp=>(p.1,ρ p.2)) _ _
       (iF b.zero n) (by simp) (λj x v J hv=>Fb hF _ j x v J hv) (by rw[dZ,dZ,hl]) (λc hc=>by
        obtain⟨j,hj⟩:=UV.1 hc;have q:j<n*b.zero.length:=by have:=(Q3.1 hj).1;rwa [dZ]at this
        rw[jB _ _ _ q]at hj;exact hone c (Z3 hj)) (λj x u J hu=>by
        have q:j<n*b.zero.length:=by have:=(Q3.1 hu).1;rwa [dZ]at this
        rw[jB _ _ _ q]at hu;rw[jB _ _ _ (by rw[hl];exact q),hl]at J;exact hr _ _ _ J hu) Ot
      obtain⟨q0,q1,qe,q2⟩:=DF h h2 h4 hps;obtain⟨f1,f2⟩:=Rel.freezes gs h q1;have Ji:st.used d=zv:=hd d (by simp);have hws:ws.length=n*b.size:=by rw[h5,dZ,hl,K]
      have al3:ps.length=n*b.size:=by rw[q0,hws]
      have hfe :∀p∈es,(st.aK (gs.map (Fw.bf st.o)) []).o p.2=st.o p.2:=λp hp=>by rw[g_,QP (T _ (XS.2 ⟨p,hp,rfl⟩))]
      obtain⟨bQ,m1,m2,m3,m4⟩:=f1.adT (d:=d) (by simpa[St.aK]using Ji) a i b.size (AX::Fv) (chunks b.size n ps) M.toArray e n ⟨by rw[iR];exact Z1 _,by omega⟩ (by simp;omega) (λx J=>by
        obtain⟨m,hm⟩:=UV.1 J;have q:m<n:=by have:=(Q3.1 hm).1;rwa [iR]at this
        rw[rP _ _ _ _ q]at hm;cases hm;simp[al3];have:(m+1)*b.size<=n*b.size:=W2 _ q;rw[WK]at this;omega) es N (λp hp=>by
        obtain⟨a2,i2,s2,l2,X,z2⟩:=qe p hp;exact⟨a2,i2,s2,l2,by rw[hfe p hp];exact X,z2⟩) (λm x J j y Y=>by
        have q:m<n:=by have:=(Q3.1 J).1;rwa [iR]at this
        rw[rP _ _ _ _ q]at J;cases J;rw[W0]at Y;split at Y
        .rename_i hj;rw[Wo]at Y;have hlt2:m*b.size+j<M.length:=by have:=(Q3.1 Y).1;omega
         refine⟨M[m*b.size+j],by simp,?_⟩;have:=q2 _ y _ Y (Q1 hlt2);have em:(0+(m*b.size+j)) % b.size=j:=by rw[Vi,qb,zd,Kk hj]
         rw[em,Vi]at this;cases hcj:(AX::Fv).lookup j with
         |none=>rw[hcj]at this;exact this _ (λg hg=>by rw[g_,QR hg]) f1 f2
         |some s=>rw[hcj]at this;obtain⟨l',X,z2⟩:=this;refine⟨l',X,z2.imp id ?_⟩;rintro ⟨e,a2,i2,y1,y2,y3,y4,y5⟩;exact⟨e,a2,i2,y1,by rw[hfe _ y1];exact y2,y3,y4,y5⟩
        .cases Y)
      have hst:(st.aK (gs.map (Fw.bf st.o)) []).aK ((d,.aP a i b.size (AX::Fv) (chunks b.size n ps) zz)::kills (es.map (·.2))) [d]=st.aK ((d,.aP a i b.size (AX::Fv) (chunks b.size n ps) zz)::kills (es.map (·.2))++gs.map (Fw.bf st.o)) [d]:=by
       refine St.Fp rfl (λz=>?_) (λz=>by simp[St.aK]);simp only[St.aK,Kj,lookup_cons,w_,iT];by_cases X:z=d
       .simp only[QR X]
       .simp only[QP X];by_cases z2:z∈es.map (·.2)
        .simp only[QR z2,Option.some_or]
        .simp only[QP z2,Option.none_or]
      rw[hst]at m1 m2;refine⟨.slice (zw ⟨w.heap.size,0,zz⟩) n n,_,bQ,.inl ?_,m1,Lets.trans f2 m2 (λg hg=>by simpa[St.aK]using hg),dR.Jg (.own d _ rfl λsz' len' ho'=>?_),λg hg=>?_⟩
      .unfold execOp;rw[ho];refine iC ?_;have hle:¬ n*b.size>2 ^ 24:=by omega
       have fin :∀Z:Array Value,(Array.range (n*b.size)).map (λi=>Z[i % Z.size]!)=(iF b.zero n).toArray->
         Instr.fill (λi=>zw (i*b.size,b.size)) ((Array.range (n*b.size)).map λi=>Z[i % Z.size]!) (parts.map λ(p:Nat×Operand)=>(p.1,ρ p.2)).toList=zw M.toArray:=by
        intro Z hZ;rw[hZ,L,h1]
       by_cases h0:n*b.size=0
       .have e0:iF b.zero n=[]:=Uv (by rw[dZ,K,h0]);have e1:=fin #[] (by rw[h0,e0];simp);simp only[Instr.buildSlice,Sem.run_bind,eU hu,Result.andThen_ok,eG (B _ _ he),QP hle,QR h0,Sem.run_pure];simp only[e1];simp[newRow]
       .have hpos:0<b.zero.length:=by rw[K];rcases qa b.size with h|h;(rw[h]at h0;simp at h0);exact h
        have e1:=fin z.cells (by have:=oJ hzc n hpos;rw[K]at this;exact this);simp only[Instr.buildSlice,Sem.run_bind,eU hu,Result.andThen_ok,eG (B _ _ he),QP hle,QP h0,hz,Sem.run_pure];simp only[e1];simp[newRow]
      .have W9:(zw (b.size,n):Option (Nat×Nat))=zw (sz',len'):=by rw[<-ho'];simp[St.aK,List.lookup,O.dim,P.list,iR]
       cases W9;rw[m3,m4]
      .have hg:g∈(S.v (.one (.own d))).names:=hg;rw[dY]at hg;simp only[W.names,X2]at hg;subst hg;simp[St.aK]
     .cases H
    .cases H
   .cases H
  .cases H
 .cases H
def Aa(gh:Nat->Gh):Option Nat->Nat->Option (Nat×Nat)
 |some g,b=>(gh g).sub b
 |none,_=>zz
theorem Uc(h:Rel E st gh val w){d g2:Nat}(hd:st.used d=zv){a i a2 i2:Bool}{sz:Nat}{au:List (Nat×Nat)}{J new:List (List P)}{base:Option Nat}{bad:Option Addr}{xk m:Nat}
  (L:(base=zz/\bad=zz/\xk=0/\m=0/\J=[])\/∃g l,base=zw g/\st.o g=.aP a i sz au l zz/\bad=(gh g).ad/\(m<=xk/\xk<=(gh g).cap)/\m<=l.length/\J=l.take m/\g≠g2)
  (ho2:st.o g2=.aP a2 i2 sz au new zz)
  {ts:Array TypeId} {ty sT xT e e':TypeId} {B:TI} (h0:ts[0]?=zw sT) (h1:ts[1]?=zw xT) (hs:Pg.underlying sT=zw (.slice e)) (hxt:Pg.underlying xT=zw (.slice e')) (he:qM Pg e B) (hsz:sz=B.size)
  (hbb:(m+new.length)*B.bytes<=140737488355328) (hb0:B.bytes≠0) :
  ∃v w' bQ,(Builtin.append_ ts ty #[.slice bad m xk,.slice (gh g2).ad new.length (gh g2).cap]).run Pg w=.ok v w'/\Rel E (st.aK ((d,.aP (a||a2) (i||i2) sz au (J++new) zz)::kills (base.toList++[g2])) [d]) bQ val w'/\
   Lets E st (st.aK ((d,.aP (a||a2) (i||i2) sz au (J++new) zz)::kills (base.toList++[g2])) [d]) gh bQ w w'/\v=.slice (bQ d).ad (J++new).length (bQ d).cap:=by
 subst hsz;have ca:a=zj->(a||a2)=zj:=by simp;exact λh=>.inl h
 have ci:i=zj->(i||i2)=zj:=by simp;exact λh=>.inl h
 have ca2:a2=zj->(a||a2)=zj:=by simp;exact λh=>.inr h
 have ci2:i2=zj->(i||i2)=zj:=by simp;exact λh=>.inr h
 have hnd :∀g,st.o g≠.none->g≠d:=λg hg e=>by rw[<-e,h.ul g hg]at hd;cases hd
 have ata:g2≠d:=hnd g2 (by rw[ho2];simp);have ahY:(st.o g2).bW=zj:=by rw[ho2];rfl
 have hol:J.length=m:=by
  rcases L with⟨_,_,_,rfl,rfl⟩|⟨g,l,_,_,_,_,hm,rfl,_⟩
  .rfl
  .simp;omega
 have U:(J++new).length=m+new.length:=by rw[XX,hol]
 have hbS :∀g,g∈base.toList++[g2]->g≠d/\(st.o g).bW=zj/\∃a0 i0 l0,st.o g=.aP a0 i0 B.size au l0 zz/\(i0=zj->(i||i2)=zj):=by
  intro g hg;rcases Z0.1 hg with hg|hg
  .rcases L with⟨rfl,_⟩|⟨g',l,rfl,H,_⟩
   .simp at hg
   .simp at hg;subst hg;exact⟨hnd g (by rw[H];simp),by rw[H];rfl,a,i,l,H,ci⟩
  .rw [X2]at hg;subst hg;exact⟨ata,ahY,a2,i2,new,ho2,ci2⟩
 let sub:Nat->Option (Nat×Nat):=λb=>match (gh g2).sub b with
  |some (n,j)=>zw (n+m,j)
  |none=>Aa gh base b
 have aoZ :∀b,(Aa gh base b).isSome=zj->(gh g2).has b->False:=λb h1 h2=>by
  rcases L with⟨rfl,_⟩|⟨g,l,rfl,H,_,_,_,_,hne⟩
  .cases h1
  .exact hne (h.inj g g2 b (by rw[H];rfl) ahY (.inr h1) h2)
 have hsub :∀b,(sub b).isSome=zj->(∃g,g∈base.toList++[g2]/\(st.o g).bW=zj/\((gh g).sub b).isSome=zj):=λb M=>by
  cases hx:(gh g2).sub b with
  |some p=>exact⟨g2,by simp,ahY,by rw[hx];rfl⟩
  |none=>
   simp only[sub,hx]at M;rcases L with⟨rfl,_⟩|⟨g,l,rfl,H,_⟩
   .cases M
   .exact ⟨g,by simp,by rw[H];rfl,M⟩
 have adU :∀g,g∈base.toList++[g2]->∀b,((gh g).sub b).isSome=zj->∃c e f,w.heap[b]?=zw (.cells c e f):=λg hg b M=>by
  obtain⟨_,_,a0,i0,l0,H,_⟩:=hbS g hg;have hD:=h.bG g;rw[H]at hD;rcases hD with⟨_,_,_,q⟩|⟨_,_,_,_,_,_,_,_,_,⟨_,q⟩,_⟩
  .rw [q b]at M;cases M
  .exact q b M
 have ao0 :∀(G:Gh),G.sub=sub->∀n j y u,jl E st gh w a2 i2 (gh g2) au zz n j y u->match au.lookup j with
   |none=>dB w (E.ok st gh w (a||a2) (i||i2)) y u
   |some s=>AL E st gh w (a||a2) (i||i2) G s (n+m) j y u:=by
  intro G hG n j y u Y;unfold jl at Y;cases hc:au.lookup j with
  |none=>rw[hc]at Y;exact Y.cls ca2 ci2
  |some s=>rw[hc]at Y;simp only[iK]at Y;obtain⟨l',ao,k,q1,q2,q3,q4⟩:=Y.cls ca2 ci2;exact⟨l',ao,k,q1,q2,q3,λad had=>by rw[hG];simp only[sub,q4 ad had]⟩
 have ao1 :∀(G:Gh),G.sub=sub->∀g,base=zw g->∀n j y u,jl E st gh w a i (gh g) au zz n j y u->match au.lookup j with
   |none=>dB w (E.ok st gh w (a||a2) (i||i2)) y u
   |some s=>AL E st gh w (a||a2) (i||i2) G s n j y u:=by
  intro G hG g hgb n j y u Y;unfold jl at Y;cases hc:au.lookup j with
  |none=>rw[hc]at Y;exact Y.cls ca ci
  |some s=>
   rw[hc]at Y;simp only[iK]at Y;obtain⟨l',ao,k,q1,q2,q3,q4⟩:=Y.cls ca ci;refine⟨l',ao,k,q1,q2,q3,λad had=>?_⟩;have hq:=q4 ad had;have hb1:(Aa gh base ad.block).isSome=zj:=by rw[hgb];simp only[Aa,hq];rfl
   rw[hG];cases hx:(gh g2).sub ad.block with
   |some p=>exact(aoZ ad.block hb1 (.inr (by rw[hx];rfl))).elim
   |none=>simp only[sub,hx,hgb,Aa];exact hq
 have hD2:lM E st gh w a2 i2 B.size au new zz (gh g2):=by have:=h.bG g2;rw[ho2]at this;exact this
 have ao3 :∀X:O,∀g,g∈base.toList++[g2]->g≠d->(st.aK ((d,X)::kills (base.toList++[g2])) [d]).o g=.none:=λX g hg e=>by simp only[St.aK,lookup_cons,QP e,iT,QR hg]
 have ao4 :∀X:O,∀g,¬ g∈base.toList++[g2]->g≠d->(st.aK ((d,X)::kills (base.toList++[g2])) [d]).o g=st.o g:=λX g hg e=>by simp only[St.aK,lookup_cons,QP e,iT,QP hg]
 by_cases sZ:m+new.length<=xk
 .obtain ⟨c2,hc2,hl2,ao5,hr2,K⟩:=BD (Pg:=Pg) hD2 new.length (Z1 _);rcases L with⟨rfl,rfl,rfl,rfl,rfl⟩|⟨g,l,rfl,H,rfl,hbc,hm,rfl,ao6⟩
  .have hn0:new=[]:=Uv (by omega);subst hn0;have hk:=h.kill g2;have N:=Rel.Qg hk.1 d (by simpa[St.aK]using hd) (.aP (a||a2) (i||i2) B.size au [] zz) (.inl ⟨rfl,rfl,rfl,λ_=>rfl⟩) (λg hg=>by simp[O.names,dL]at hg);have hst:(st.aK [(g2,.none)] []).aK [(d,.aP (a||a2) (i||i2) B.size au [] zz)] [d]=st.aK ((d,.aP (a||a2) (i||i2) B.size au ([]++[]) zz)::kills ((zz:Option Nat).toList++[g2])) [d]:=by
    refine St.Fp rfl (λz=>?_) (λz=>by simp[St.aK]);simp only[St.aK,lookup_cons,iT,Option.toList,qf,X2,List.lookup_nil];by_cases Z:z=d
    .simp only[QR Z]
    .simp only[QP Z]
   rw[hst]at N;refine⟨.slice zz (0+0) 0,w,_,lC h0 h1 hs hxt he hc2 (by simp) (λa ha=>by cases ha) (λ_=>rfl),N.1,Lets.trans hk.2 N.2 (λg hg=>by simpa[St.aK]using hg),by simp[fQ,Gh.nil]⟩
  .have hD:lM E st gh w a i B.size au l zz (gh g):=by have:=h.bG g;rw[H]at this;exact this
   have hgo:(st.o g).bW=zj:=by rw[H];rfl
   rcases hD with⟨Z,z2,z3,z4⟩|⟨ad,c,e0,Z,z2,z3,z4,z5,z6,⟨z7,z7'⟩,z8⟩
   .subst z3;have hm0:m=0:=by simpa using hm
    subst hm0;have hn0:new=[]:=Uv (by omega);subst hn0;have hk:=h.kill g;have hk2:=hk.1.kill g2;have N:=Rel.Qg hk2.1 d (by simpa[St.aK]using hd) (.aP (a||a2) (i||i2) B.size au [] zz) (.inl ⟨rfl,rfl,rfl,λ_=>rfl⟩) (λg hg=>by simp[O.names,dL]at hg);have hst:((st.aK [(g,.none)] []).aK [(g2,.none)] []).aK [(d,.aP (a||a2) (i||i2) B.size au [] zz)] [d]=st.aK ((d,.aP (a||a2) (i||i2) B.size au (([]:List (List P)).take 0++[]) zz)::kills ((zw g:Option Nat).toList++[g2])) [d]:=by
     refine St.Fp rfl (λz=>?_) (λz=>by simp[St.aK]);simp only[St.aK,lookup_cons,iT,Option.toList,Kj,qf,XN,List.not_mem_nil,or_false,List.lookup_nil];by_cases Z:z=d
     .simp only[QR Z];rfl
     .simp only[QP Z];by_cases z2:z=g2
      .simp [z2]
      .simp only[QP z2];by_cases z3:z=g
       .simp [z3]
       .simp [z2,z3]
    rw[hst]at N;have al6:xk=0:=by omega
    subst al6;refine⟨.slice zz (0+0) 0,w,_,by rw[Z];exact lC h0 h1 hs hxt he hc2 (by simp) (λa ha=>by cases ha) (λ_=>rfl),N.1,Lets.trans (Lets.trans hk.2 hk2.2 (λg hg=>by simpa[St.aK]using hg)) N.2 (λg hg=>by simpa[St.aK]using hg),by simp[fQ,Gh.nil]⟩
   .have as5:m*B.size+new.length*B.size<=(gh g).cap*B.size:=by rw[<-WK];exact W2 _ (JS sZ hbc.2)
    have hbz:xk*B.size<=(gh g).cap*B.size:=W2 _ hbc.2;obtain⟨b0,o0,sp0⟩:=ad;simp only at z2 z3 z4 z7 z8;subst z2;obtain⟨w',c',s1,s2,s3,s4,s5,s6,s7,s8⟩:=nO (Pg:=Pg) b0 (o0+m*B.size) e0 c2 0 w c z3 ao5 (by omega);have Dz:c'.size=c.size:=by have:=W3 List.length s3;rw[fG (by simp;omega)]at this;simpa using this
    let G:Gh:=⟨zw ⟨b0,o0,zz⟩,xk,sub⟩
    have hn2:¬ (gh g2).has b0:=λL=>ao6 (h.inj g g2 b0 hgo ahY (Gh.kL Z) L);have hget :∀q:Nat,c'[q]?=(aZ c.toList (o0+m*B.size) c2)[q]?:=λq=>by rw[<-K1,s3,Jn]
    have hga:=h.gather (λg'=>g'∈(zw g:Option Nat).toList++[g2]) hd (a||a2) (i||i2) B.size au (l.take m++new) G (st.aK ((d,.aP (a||a2) (i||i2) B.size au (l.take m++new) zz)::kills ((zw g:Option Nat).toList++[g2])) [d]) w' rfl (by simp[St.aK,lookup_cons])
     (ao3 _) (ao4 _) (λg hg=>by simp[St.aK,hg]) (by simp[St.aK]) (ad:=⟨b0,o0,zz⟩) (c:=c') (ty:=e0) rfl rfl s2 (by rw[Dz];simp only[G];omega) ⟨by rw[U];exact sZ,by simp only[G];have:=z5.2;omega⟩ (λx hx=>by
      rcases Z0.1 hx with hx|hx
      .exact z6 x (Wl hx)
      .exact hr2 x hx) (by
      show sub b0=zz;cases hx:(gh g2).sub b0 with
      |some p=>exact(hn2 (.inr (by rw[hx];rfl))).elim
      |none=>simp only[sub,hx,Aa];exact z7) (λb L=>by
      obtain⟨g',q1,q2,q3⟩:=hsub b L;exact⟨⟨g',q1,q2,.inr q3⟩,adU g' q1 b q3⟩) (.inl ⟨g,by simp,hgo,Gh.kL Z⟩) (λb _ hne=>s4 b hne) (by omega) s6 s7 s8
     (λg' i1 T e1 hi=>by obtain⟨_,_,a0,i0,l0,hq,hi0⟩:=hbS g' T;rw[hq]at e1;cases e1;exact hi0 hi) (λg' T _=>by obtain⟨_,_,a0,i0,l0,hq,_⟩:=hbS g' T;exact⟨i0,by rw[hq];rfl⟩)
     (λn x hx j y hy=>by
      rw[Ki]at hx;split at hx
      .rename_i hn;have hnm:n<m:=by simp at hn;omega
       rw[W0,QR hnm]at hx;obtain⟨v,hv,hvr⟩:=z8 n x hx j y hy;have hj:j<B.size:=by have:=(Q3.1 hy).1;have:=z6 x (Z3 hx);omega
       have:(n+1)*B.size<=m*B.size:=W2 _ hnm;rw[WK,Kx]at this;exact⟨v,by rw[hget,fP (by simp;omega),QP (by show ¬ (_/\_);simp only;omega)];simpa using hv,ao1 G rfl g rfl n j y v hvr⟩
      .rename_i hn;have hlm:(l.take m).length=m:=by simp;omega
       rw[hlm]at hx hn;obtain⟨u,hu,hur⟩:=K _ x (by have:=(Q3.1 hx).1;omega) hx j y hy;have J8:=(Q3.1 hu).1;have hnm:n*B.size=m*B.size+(n-m)*B.size:=by rw[<-WK];congr 1;omega
       refine⟨u,?_,?_⟩
       .have e1:o0+n*B.size+j-(o0+m*B.size)=(n-m)*B.size+j:=by omega
        rw[hget,fP (by simp;omega),QR (by simp only;omega),e1];exact hu
       .have:=ao0 G rfl (n-m) j y u hur;have e2:n-m+m=n:=by omega
        rw[e2]at this;exact this)
    refine⟨_,w',_,lC h0 h1 hs hxt he hc2 sZ (λa ha=>?_) (λhn=>by rw[Z]at hn;cases hn),hga.1,hga.2,by rw[U];simp[fQ,G,Z]⟩;rw[Z]at ha;cases ha;rw[Addr.jd];simpa using s1
 .have hd1:=h.drew (w.drawn+1);have hl1:Lets E st st gh gh w { w with drawn:=w.drawn+1 }:=Rel.Fh _;have atb:lM E st gh { w with drawn:=w.drawn+1 } a2 i2 B.size au new zz (gh g2):=by have:=hd1.bG g2;rw[ho2]at this;exact this
  obtain⟨c2,hc2,hl2,ao5,hr2,K⟩:=BD (Pg:=Pg) atb new.length (Z1 _);have hbase :∃c1:List Value,(Builtin.firstCells B.size m (.slice bad m xk)).run Pg { w with drawn:=w.drawn+1 }=.ok c1.toArray { w with drawn:=w.drawn+1 }/\c1.length=m*B.size/\(∀x∈J,x.length=B.size)/\
    ∀(n:Nat) x,J[n]?=zw x->∀(j:Nat) y,x[j]?=zw y->∃u,c1[n*B.size+j]?=zw u/\∃g,base=zw g/\jl E st gh { w with drawn:=w.drawn+1 } a i (gh g) au zz n j y u:=by
   rcases L with⟨rfl,rfl,rfl,rfl,rfl⟩|⟨g,l,rfl,H,rfl,hbc,hm,rfl,ao6⟩
   .exact ⟨[],by simp[Builtin.firstCells],by simp,by simp,by simp⟩
   .have hD:lM E st gh { w with drawn:=w.drawn+1 } a i B.size au l zz (gh g):=by have:=hd1.bG g;rw[H]at this;exact this
    obtain⟨c1,k1,k2,k3,k4,k5⟩:=BD (Pg:=Pg) hD m hm;rw[yQ _ _ _ _ _ xk]at k1;refine⟨c1,k1,k2,λx hx=>k4 x (Wl hx),λn x hx j y hy=>?_⟩;rw[W0]at hx;split at hx
    .rename_i hn;obtain⟨u,q1,q2⟩:=k5 n x hn hx j y hy;exact⟨u,q1,g,rfl,q2⟩
    .cases hx
  obtain⟨c1,hc1,adP,hr1,hcell1⟩:=hbase;have hback:Lets E st st gh gh { w with drawn:=w.drawn+1 } w:=⟨λa i b L=>⟨L,rfl⟩,λg _=>.inr ⟨⟨rfl,rfl⟩,O.gq _⟩⟩;obtain⟨rest,newCap,k1,k2,k3⟩:=rQ (ty:=ty) h0 h1 hs hxt he hc2 hc1 sZ hbb hb0
  let G:Gh:=⟨zw ⟨w.heap.size,0,zz⟩,newCap,sub⟩
  have hga:=h.gather (λg'=>g'∈base.toList++[g2]) hd (a||a2) (i||i2) B.size au (J++new) G (st.aK ((d,.aP (a||a2) (i||i2) B.size au (J++new) zz)::kills (base.toList++[g2])) [d])
   { w with drawn:=w.drawn+1,heap:=w.heap.push (.cells (c1.toArray++c2.toArray++rest) e) } rfl (by simp[St.aK,lookup_cons])
   (ao3 _) (ao4 _) (λg hg=>by simp[St.aK,hg]) (by simp[St.aK]) (ad:=⟨w.heap.size,0,zz⟩) (c:=c1.toArray++c2.toArray++rest) (ty:=e) rfl rfl (by simp) (by
    simp only[vB,qq,adP,hl2,k2,G];rw[<-WK,<-WK,Vi];exact W2 _ (by omega)) ⟨by rw[U];exact k1.1,k1.2⟩ (λx hx=>by
    rcases Z0.1 hx with hx|hx
    .exact hr1 x hx
    .exact hr2 x hx) (by
    show sub w.heap.size=zz;cases hx:sub w.heap.size with
    |none=>rfl
    |some p=>obtain⟨g',q1,q2,q3⟩:=hsub w.heap.size (by rw[hx];rfl);have:=(h.wr g' _ q2 (.inr q3)).2;omega) (λb L=>by
    obtain⟨g',q1,q2,q3⟩:=hsub b L;exact⟨⟨g',q1,q2,.inr q3⟩,adU g' q1 b q3⟩) (.inr ⟨Z1 _,by simp⟩) (λb L _=>wQ w _ b L) (by simp) rfl rfl rfl
   (λg' i1 T e1 hi=>by obtain⟨_,_,a0,i0,l0,hq,hi0⟩:=hbS g' T;rw[hq]at e1;cases e1;exact hi0 hi) (λg' T _=>by obtain⟨_,_,a0,i0,l0,hq,_⟩:=hbS g' T;exact⟨i0,by rw[hq];rfl⟩)
   (λn x hx j y hy=>by
    rw[Ki]at hx;split at hx
    .rename_i hn;obtain⟨u,q1,g,q2,q3⟩:=hcell1 n x hx j y hy;have hlt:=(Q3.1 q1).1;refine⟨u,?_,ao1 G rfl g q2 n j y u (hback.YL (λ_ _=>rfl) (λg hg=>by cases hg) q3)⟩;rw[Vi,Kc (by simp;omega),Kc (by simpa using hlt)];simpa using q1
    .rename_i hn;rw[hol]at hx hn;obtain⟨u,hu,hur⟩:=K _ x (by have:=(Q3.1 hx).1;omega) hx j y hy;have J8:=(Q3.1 hu).1;have hnm:n*B.size=m*B.size+(n-m)*B.size:=by rw[<-WK];congr 1;omega
     refine⟨u,?_,?_⟩
     .rw [Vi,Kc (by simp;omega),Array.getElem?_append_right (by simp;omega)];simp only[qq,Ke];have e1:n*B.size+j-c1.length=(n-m)*B.size+j:=by omega
      rw[e1];exact hu
     .have:=ao0 G rfl (n-m) j y u (hback.YL (λ_ _=>rfl) (λg hg=>by cases hg) hur);have e2:n-m+m=n:=by omega
      rw[e2]at this;exact this)
  exact⟨_,_,_,k3,hga.1,hga.2,by rw[U];simp[fQ,G]⟩
theorem nZ{o o':Nat->O}{g:Nat}(h:Agree o o' g):jF o g=jF o' g:=by
 obtain⟨j,m⟩:=h;unfold jF;rw[<-j];cases q:o g with
 |aP a i y z l b=>
  rcases b with _|⟨n,c,d⟩
  .rfl
  .simp only;rw[m d (by rw[q];simp[O.hn,dL])]
 |_=>rfl
theorem yS(htt:jm Pg tt)(h:Rel E st gh val w){o:Oper}{ρ:Operand->Value}{s x:Operand}{ts:Array TypeId}(ho:o.op=.call { callee:=.builtin .append,args:=#[s,x],argTypes:=ts }){d g2:Nat}(hd:st.used d=zv)
  {sT xT e e':TypeId} {X:TI} (h0:ts[0]?=zw sT) (h1:ts[1]?=zw xT) (hs:Pg.underlying sT=zw (.slice e)) (hxt:Pg.underlying xT=zw (.slice e')) (he:qM Pg e X) (hb0:X.bytes≠0)
  {a i a2 i2:Bool} {sz:Nat} {au:List (Nat×Nat)} {b new:List (List P)} {base:Option Nat} {bad:Option Addr} {xk m:Nat} (hsz:sz=X.size)
  {c:St} {Y:Nat->Gh} (j:List Nat) (h1':Rel E c Y val w) (l1:Lets E st c gh Y w w) (Z :∀x,(Y x).ad=(gh x).ad/\(Y x).cap=(gh x).cap) (s1:c.s=st.s) (u1 :∀x,c.used x=st.used x)
  (hb:(base=zz/\bad=zz/\xk=0/\m=0/\b=[]/\j=[])\/∃g l,base=zw g/\c.o g=.aP a i sz au l zz/\bad=(gh g).ad/\(m<=xk/\xk<=(gh g).cap)/\m<=l.length/\b=l.take m/\j=g::(st.o g).hn)
  (ok1 :∀x∈j,(∀g,base=zw g->x≠g)->c.o x=.none) (B :∀x,x∉j->c.o x=st.o x) (hnd:(j++g2::(st.o g2).hn).Nodup)
  (h2:jF st.o g2=zw (a2,i2,sz,au,new)) (hvs:ρ s=.slice bad m xk) (hvx:ρ x=.slice (gh g2).ad new.length (gh g2).cap) (hbb:(m+new.length)*X.bytes<=140737488355328) :
  ∃v w' bQ,Does Pg (execOp ρ o) w v w'/\Rel E (st.aK ((d,.aP (a||a2) (i||i2) sz au (b++new) zz)::kills (j++g2::(st.o g2).hn)) [d]) bQ val w'/\
   Lets E st (st.aK ((d,.aP (a||a2) (i||i2) sz au (b++new) zz)::kills (j++g2::(st.o g2).hn)) [d]) gh bQ w w'/\
   dR E (st.aK ((d,.aP (a||a2) (i||i2) sz au (b++new) zz)::kills (j++g2::(st.o g2).hn)) [d]) bQ w' (.v (.one (.own d))) v/\
   ∀g∈(S.v (.one (.own d))).names,(st.aK ((d,.aP (a||a2) (i||i2) sz au (b++new) zz)::kills (j++g2::(st.o g2).hn)) [d]).used g=zj:=by
 have q :∀x∈j,x∉g2::(st.o g2).hn:=λx hx hx'=>by have:=(List.nodup_append.1 hnd).2.2 x hx x hx';exact this rfl
 have J:Agree st.o c.o g2:=⟨(B g2 λK=>q g2 K (by simp)).symm,λd' hd'=>(B d' λK=>q d' K (by simp[hd'])).symm⟩;have h2':jF c.o g2=zw (a2,i2,sz,au,new):=by rw[<-nZ J];exact h2
 obtain⟨L,AU,r2,l2,e2,s2,u2,o2,M,y⟩:=h1'.home h2';rw[<-J.1]at M y;have hb2:(base=zz/\bad=zz/\xk=0/\m=0/\b=[])\/∃g l,base=zw g/\L.o g=.aP a i sz au l zz/\bad=(AU g).ad/\(m<=xk/\xk<=(AU g).cap)/\m<=l.length/\b=l.take m/\g≠g2:=by
  rcases hb with⟨q1,q2,q3,q4,q5,_⟩|⟨g,l,q1,q2,q3,q4,q5,q6,q7⟩
  .exact .inl ⟨q1,q2,q3,q4,q5⟩
  .have N:=q g (by rw[q7];simp);have T:g≠g2:=λe=>N (by rw[e];simp);refine .inr ⟨g,l,q1,?_,by rw[(e2 g).1,(Z g).1];exact q3,by rw[(e2 g).2,(Z g).2];exact q4,q5,q6,T⟩;rw[y g T λK=>N (by simp[K])];exact q2
 obtain⟨v,w',bQ,k1,k2,k3,k4⟩:=Uc (d:=d) (ty:=o.type) r2 (by rw[u2,u1];exact hd) hb2 o2 h0 h1 hs hxt he hsz hbb hb0;have hst:L.aK ((d,.aP (a||a2) (i||i2) sz au (b++new) zz)::kills (base.toList++[g2])) [d]=st.aK ((d,.aP (a||a2) (i||i2) sz au (b++new) zz)::kills (j++g2::(st.o g2).hn)) [d]:=by
  refine St.Fp (s2.trans s1) (λz=>?_) (λz=>by simp[St.aK,u2,u1]);simp only[St.aK,lookup_cons,iT];by_cases z1:z=d
  .simp only[QR z1]
  .simp only[QP z1];by_cases z2:z∈base.toList++[g2]
   .have:z∈j++g2::(st.o g2).hn:=by
     rcases Z0.1 z2 with z2|z2
     .rcases hb with⟨q1,_⟩|⟨g,l,q1,_,_,_,_,_,q7⟩
      .rw [q1]at z2;simp at z2
      .rw [q1]at z2;simp at z2;subst z2;rw[q7];simp
     .simp at z2;subst z2;simp
    simp only[QR z2,QR this]
   .by_cases z3:z∈j++g2::(st.o g2).hn
    .simp only[QP z2,QR z3];have U:z≠g2:=λe=>z2 (by simp[e]);by_cases z4:z∈(st.o g2).hn
     .exact (M z z4).1
     .rw [y z U z4];rcases Z0.1 z3 with z5|z5
      .exact ok1 z z5 λg hg e=>z2 (by rw[hg,e];simp)
      .rcases XN.1 z5 with z5|z5
       .exact absurd z5 U
       .exact absurd z5 z4
    .simp only[QP z2,QP z3];simp only[Z0,XN,not_or]at z3;rw[y z z3.2.1 z3.2.2,B z z3.1]
 rw[hst]at k2 k3;have hod:(st.aK ((d,.aP (a||a2) (i||i2) sz au (b++new) zz)::kills (j++g2::(st.o g2).hn)) [d]).o d=.aP (a||a2) (i||i2) sz au (b++new) zz:=by simp[St.aK,lookup_cons]
 refine⟨v,w',bQ,.inl (kW ho ?_),k2,Lets.trans (Lets.trans l1 l2 (λg hg=>by rw[u1];exact hg)) k3 (λg hg=>by rw[u2,u1];exact hg),dR.Jg (.own d v (by rw[k4];rfl) λsz1 len1 H=>?_),λg hg=>?_⟩
 .rw [(e2 g2).1,(Z g2).1,(e2 g2).2,(Z g2).2]at k1;simp[builtin,hvs,hvx,k1]
 .rw [hod]at H;simp only[O.dim,Q0,QQ]at H;obtain⟨_,rfl⟩:=H;exact k4
 .rw [dY]at hg;simp only[W.names,X2]at hg;subst hg;simp[St.aK]
theorem NM{dc:List (Nat×Nat)}(q:jm Pg tt)(args:Array Operand)(ts:Array TypeId):rU Pg tt dc (.call { callee:=.builtin .append,args:=args,argTypes:=ts }):=by
 intro E st gh val w ρ F o d r ho h hF hFn J hp hd;simp only[dX]at J;split at J
 .rename_i s x sT xT tl ha hts;obtain rfl:=wR ha;have h0:ts[0]?=zw sT:=by rw[<-K1,hts];rfl
  have h1:ts[1]?=zw xT:=by rw[<-K1,hts];rfl
  split at J
  .rename_i e _ _ _ e' _ _ _ s' g2 hsT hxT hs y;have rs:=hF s;rw[hs]at rs;have rx:=hF x;rw[y]at rx;have K:=(q _ _ hsT).kind;have L:=(q _ _ hxT).kind;simp only[qo]at K L;split at J
   .rename_i ie ask a i old ks src a2 i2 sz au new he j M;split at J
    .rename_i hc;obtain⟨T,U,N,B⟩:=hc;have B:=tq B;cases J;obtain⟨hask,H⟩:=hp;have Ji:st.used d=zv:=hd d (by simp);have X:ρ x=.slice (gh g2).ad new.length (gh g2).cap:=by cases rx.dS with|own _ _ _ Y=>exact Y _ _ (pq M)
     have refl:Lets E st st gh gh w w:=⟨λa i b Y=>⟨Y,rfl⟩,λg _=>.inr ⟨⟨rfl,rfl⟩,O.gq _⟩⟩;cases s' with
     |dJ=>
      simp only[baseD,Q0,QQ]at j;obtain⟨rfl,rfl,rfl,rfl,rfl,rfl⟩:=j;have Z:ρ s=.slice zz 0 0:=by generalize hz:ρ s=z at rs;cases rs.dS;rfl
      exact yS q h ho Ji h0 h1 K L (q _ _ he) T (base:=zz) (bad:=zz) (xk:=0) (m:=0) U [] h refl (λ_=>⟨rfl,rfl⟩) rfl (λ_=>rfl) (.inl ⟨rfl,rfl,rfl,rfl,rfl,rfl⟩) (λx y=>by cases y) (λ_ _=>rfl) B M Z X (by simpa using H)
     |own g=>
      simp only[baseD]at j;split at j
      .rename_i a0 i0 BF lD l0 hh;simp only[Q0,QQ]at j;obtain⟨rfl,rfl,rfl,rfl,rfl,rfl⟩:=j;have hsc:BF=sz/\lD=au:=by rcases N with e|e;cases e;simpa using e
       obtain⟨rfl,rfl⟩:=hsc;obtain⟨st1,nY,r1,l1,e1,s1,u1,o1,ok1,oo1⟩:=h.home hh;have Z:ρ s=.slice (gh g).ad l0.length (gh g).cap:=by cases rs.dS with|own _ _ _ Y=>exact Y _ _ (pq hh)
       exact yS q h ho Ji h0 h1 K L (q _ _ he) T (base:=zw g) U (g::(st.o g).hn) r1 l1 e1 s1 u1 (.inr ⟨g,l0,rfl,o1,rfl,⟨(wS (h.bG g) (pq hh)).1,Z1 _⟩,Z1 _,by rw[K7],rfl⟩)
        (λx y hxg=>by
         rcases XN.1 y with e|e
         .exact absurd e (hxg g rfl)
         .exact (ok1 x e).1)
        (λx y=>by simp only[XN,not_or]at y;exact oo1 x y.1 y.2) B M Z X H
      .cases j
     |vw g lo hi=>
      simp only[baseD]at j;split at j
      .rename_i a0 i0 BF lD l0 hh;cases j;have hsc:BF=sz/\lD=au:=by rcases N with e|e;cases e;simpa using e
       obtain⟨rfl,rfl⟩:=hsc;obtain⟨st1,nY,r1,l1,e1,s1,u1,o1,ok1,oo1⟩:=h.home hh;obtain⟨n,m,vc,h4,rfl,h5,h6,J6,Z⟩:=(by cases rs.dS with|vw _ _ _ _ _ Y=>exact Y _ _ (pq hh) :∃n m c:Nat,lo=.int .i64 n/\hi=.int .i64 m/\n<=m/\m<=l0.length/\(m-n<=c/\n+c<=(gh g).cap)/\
        ρ s=.slice (if(gh g).cap=n then(gh g).ad else(gh g).ad.map (·.add (n*BF))) (m-n) c)
       have hn0:n=0:=by rw[hask]at h4;simp[lQ]at h4;omega
       subst hn0;have hadd:(gh g).ad.map (·.add (0*BF))=(gh g).ad:=by
        cases (gh g).ad with
        |none=>rfl
        |some a=>simp[Addr.add]
       rw[hadd]at Z;simp only[ite_self,Nat.sub_zero]at Z;have em:(P.int .i64 (m:Int)).nat=m:=by simp[P.nat,P.num]
       rw[em]at H ⊢;have atc:(m+new.length)*ie.bytes<=140737488355328:=by rw[VM,vo h6]at H;exact H
       exact yS q h ho Ji h0 h1 K L (q _ _ he) T (base:=zw g) U (g::(st.o g).hn) r1 l1 e1 s1 u1 (.inr ⟨g,l0,rfl,o1,rfl,by omega,h6,rfl,rfl⟩)
        (λx y hxg=>by
         rcases XN.1 y with e|e
         .exact absurd e (hxg g rfl)
         .exact (ok1 x e).1)
        (λx y=>by simp only[XN,not_or]at y;exact oo1 x y.1 y.2) B M Z X atc
      .cases j
     |_=>simp[baseD]at j
    .cases J
   .cases J
  .cases J
 .cases J
theorem Qv{dc:List (Nat×Nat)}(htt:jm Pg tt)(t:TypeId)(x:Operand)(lo hi mx:Option Operand):rU Pg tt dc (.slice t x lo hi mx):=by
 intro E st gh val w ρ F o d r ho h hF hFn H hp hd;cases lo with
 |some _=>simp[dX]at H
 |none=>
 cases mx with
 |some _=>simp[dX]at H
 |none=>
 simp only[dX]at H;split at H
 .rename_i e _ _ _ g ht M;have rx:=hF x;rw[M]at rx;have hu:=(htt _ _ ht).kind;simp only[qo]at hu;split at H
  .rename_i ie a i z l he K;split at H
   .rename_i hsz;split at H
    .rename_i L hhi;cases H;obtain⟨k,H,hkl⟩:=hp;have hd:=hd d (by simp);have NJ:(st.o g).dim=zw (z,l.length):=by rw[K];rfl
     have hv:=(by cases rx.dS with|own _ _ _ X=>exact X _ _ NJ:ρ x=.slice (gh g).ad l.length (gh g).cap);have J:=h.bG g;rw[K]at J;have hcap:l.length<=(gh g).cap:=Qj J;have wU:(hi.map ρ=zz/\k=l.length)\/∃kd,hi.map ρ=zw (.int kd k):=(iQ hF hhi H).imp (λ⟨a,b⟩=>⟨a,by simp[lQ]at b;omega⟩) id;have Y:(execOp ρ o).run Pg w=.ok (.value (.slice (gh g).ad k (gh g).cap)) w:=by
      have hs:=o_ (Pg:=Pg) (w:=w) (len:=l.length) (lo:=(zz:Option Value)) (hi:=hi.map ρ) (m:=0) (k:=k) (cap:=(gh g).cap) (.inl ⟨rfl,rfl⟩) wU (ve _) (by omega);have key:(execOp ρ o).run Pg w=.ok (.value (.slice (if(gh g).cap=0 then(gh g).ad else(gh g).ad.map (·.add (0*ie.size))) (k-0) ((gh g).cap-0))) w:=by unfold execOp;rw[ho];refine iC ?_;simp only[KB];simp[Instr.sliceAt,eU hu,Instr.slice,hv,hs,eG (htt _ _ he)]
      rw[key];congr 3;rcases J with⟨q1,q2,_⟩|⟨ad,c,e',q1,q2,_⟩
      .rw [q1,q2];rfl
      .rw [q1];obtain⟨b0,o0,sp0⟩:=ad;simp only at q2;subst q2;split
       .rfl
       .rw [W7,Addr.jd];simp
     have U:(st.o g).bW=zj:=by rw[K];rfl
     have Z:st.used g=zj:=h.ul g (O.qm U);have hgd:g≠d:=by intro e;subst e;rw[hd]at Z;cases Z
     have e0:(P.list (P.sl z (l.take L.nat)))=l.take k:=by rw[H];simp[P.list,P.nat,P.num]
     have Ud :∀st',st'=st.aK [(d,.arr zv a i z (l.take k)),(g,.none)] [d]->
       ∃bQ,Rel E st' bQ val w/\Lets E st st' gh bQ w w/\dR E st' bQ w (.v (.one (.own d))) (.slice (gh g).ad k (gh g).cap):=by
      intro st' B;have hod:st'.o d=.arr zv a i z (l.take k):=by rw[B];simp[St.aK,List.lookup]
      have hm:=h.merge (λg'=>g'=g) d (.arr zv a i z (l.take k)) (gh g) st' w (by rw[B];rfl) hod (λg' N e2=>by
        rw[B,N];have:(g==d)=zv:=by simpa using hgd
        simp[St.aK,List.lookup,this]) (λg' N e2=>by
        rw[B];have q1:(g'==d)=zv:=by simpa using e2
        have q2:(g'==g)=zv:=by simpa using N
        simp[St.aK,List.lookup,q1,q2]) (λg' q=>by rw[B];simp[St.aK,q]) (by rw[B];simp[St.aK]) (λhu=>by rw[hd]at hu;cases hu)
       (λb X=>.inl ⟨g,.inl rfl,U,X⟩) (λb _ _=>rfl) (Z1 _) rfl rfl rfl
       (λi1 b N X hwr=>by cases N;exact h.wi g i b (by rw[K];rfl) X hwr) (λ_ _=>h.ns g U (by rw[K];rfl)) (λhl=>?_) (λg' q=>by simp[O.names]at q)
      .refine ⟨_,hm.1,hm.2,dR.Jg (.own d _ rfl λsz' len' T=>?_)⟩;rw[hod]at T;obtain⟨rfl,rfl⟩:=O.kV T;have N:fQ gh d (gh g) d=gh g:=by simp[fQ]
       rw[N,VM,vo hkl]
      .show jk E st' _ w a i z (l.take k) (gh g);have hold:jk E st gh w a i z l (gh g):=J;rcases hold with⟨q1,q2,q3⟩|⟨ad,c,e',q1,q2,q3,q4,q5,q6,q7⟩
       .exact .inl ⟨q1,q2,by rw[q3];simp⟩
       .refine .inr ⟨ad,c,e',q1,q2,q3,q4,⟨by rw[VM];omega,q5.2⟩,λx M=>q6 x (Wl M),λn x M j y hy=>?_⟩;rw[W0]at M;split at M
        .obtain ⟨v,hv,hr⟩:=q7 n x M j y hy;exact⟨v,hv,hl.lN hr⟩
        .cases M
     show∃v w' bQ,Does Pg (execOp ρ o) w v w'/\Rel E (st.aK [(d,.arr zv a i z (P.list (P.sl z (l.take L.nat)))),(g,.none)] [d]) bQ val w'/\_;rw[e0];obtain⟨bQ,m1,m2,m3⟩:=Ud _ rfl;refine⟨_,w,bQ,.inl Y,m1,?_,?_,λg' q=>?_⟩
     .show Lets E st (st.aK [(d,.arr zv a i z (P.list (P.sl z (l.take L.nat)))),(g,.none)] [d]) gh bQ w w;rw[e0];exact m2
     .show dR E (st.aK [(d,.arr zv a i z (P.list (P.sl z (l.take L.nat)))),(g,.none)] [d]) bQ w _ _;rw[e0];exact m3
     .have q:g'∈(S.v (.one (.own d))).names:=q;have:g'=d:=by simpa[S.names,V.names,W.names]using q
      subst this;simp[St.aK]
    .cases H
   .cases H
  .rename_i ie a i z au l he K;split at H
   .rename_i hsz;split at H
    .rename_i L hhi;cases H;obtain⟨k,H,hkl⟩:=hp;have hd:=hd d (by simp);have NJ:(st.o g).dim=zw (z,l.length):=by rw[K];rfl
     have hv:=(by cases rx.dS with|own _ _ _ X=>exact X _ _ NJ:ρ x=.slice (gh g).ad l.length (gh g).cap);have J:=h.bG g;rw[K]at J;have J:lM E st gh w a i z au l zz (gh g):=J;have hcap:l.length<=(gh g).cap:=by
      rcases J with⟨_,_,q3,_⟩|⟨_,_,_,_,_,_,_,q5,_⟩
      .rw [q3];exact ve _
      .exact q5.1
     have wU:(hi.map ρ=zz/\k=l.length)\/∃kd,hi.map ρ=zw (.int kd k):=(iQ hF hhi H).imp (λ⟨a,b⟩=>⟨a,by simp[lQ]at b;omega⟩) id;have Y:(execOp ρ o).run Pg w=.ok (.value (.slice (gh g).ad k (gh g).cap)) w:=by
      have hs:=o_ (Pg:=Pg) (w:=w) (len:=l.length) (lo:=(zz:Option Value)) (hi:=hi.map ρ) (m:=0) (k:=k) (cap:=(gh g).cap) (.inl ⟨rfl,rfl⟩) wU (ve _) (by omega);have key:(execOp ρ o).run Pg w=.ok (.value (.slice (if(gh g).cap=0 then(gh g).ad else(gh g).ad.map (·.add (0*ie.size))) (k-0) ((gh g).cap-0))) w:=by unfold execOp;rw[ho];refine iC ?_;simp only[KB];simp[Instr.sliceAt,eU hu,Instr.slice,hv,hs,eG (htt _ _ he)]
      rw[key];congr 3;rcases J with⟨q1,q2,_⟩|⟨ad,c,e',q1,q2,_⟩
      .rw [q1,q2];rfl
      .rw [q1];obtain⟨b0,o0,sp0⟩:=ad;simp only at q2;subst q2;split
       .rfl
       .rw [W7,Addr.jd];simp
     have U:(st.o g).bW=zj:=by rw[K];rfl
     have Z:st.used g=zj:=h.ul g (O.qm U);have hgd:g≠d:=by intro e;subst e;rw[hd]at Z;cases Z
     have e0:(P.list (P.sl z (l.take L.nat)))=l.take k:=by rw[H];simp[P.list,P.nat,P.num]
     have Ud :∀st',st'=st.aK [(d,.aP a i z au (l.take k) zz),(g,.none)] [d]->
       ∃bQ,Rel E st' bQ val w/\Lets E st st' gh bQ w w/\dR E st' bQ w (.v (.one (.own d))) (.slice (gh g).ad k (gh g).cap):=by
      intro st' B;have hod:st'.o d=.aP a i z au (l.take k) zz:=by rw[B];simp[St.aK,List.lookup]
      have hm:=h.merge (λg'=>g'=g) d (.aP a i z au (l.take k) zz) (gh g) st' w (by rw[B];rfl) hod (λg' N e2=>by
        rw[B,N];have:(g==d)=zv:=by simpa using hgd
        simp[St.aK,List.lookup,this]) (λg' N e2=>by
        rw[B];have q1:(g'==d)=zv:=by simpa using e2
        have q2:(g'==g)=zv:=by simpa using N
        simp[St.aK,List.lookup,q1,q2]) (λg' q=>by rw[B];simp[St.aK,q]) (by rw[B];simp[St.aK]) (λhu=>by rw[hd]at hu;cases hu)
       (λb X=>.inl ⟨g,.inl rfl,U,X⟩) (λb _ _=>rfl) (Z1 _) rfl rfl rfl
       (λi1 b N X hwr=>by cases N;exact h.wi g i b (by rw[K];rfl) X hwr) (λ_ hd=>by cases hd) (λhl=>?_) (λg' q=>by simp[O.names,dL]at q)
      .refine ⟨_,hm.1,hm.2,dR.Jg (.own d _ rfl λsz' len' T=>?_)⟩;rw[hod]at T;have T:zw (z,(l.take k).length)=zw (sz',len'):=T;cases T;have N:fQ gh d (gh g) d=gh g:=by simp[fQ]
       rw[N,VM,vo hkl]
      .show lM E st' _ w a i z au (l.take k) zz (gh g);rcases J with⟨q1,q2,q3,q4⟩|⟨ad,c,e',q1,q2,q3,q4,q5,q6,q7,q8⟩
       .exact .inl ⟨q1,q2,by rw[q3];simp,q4⟩
       .refine .inr ⟨ad,c,e',q1,q2,q3,q4,⟨by rw[VM];omega,q5.2⟩,λx M=>q6 x (Wl M),q7,λn x M j y hy=>?_⟩;rw[W0]at M;split at M
        .obtain ⟨v,hv,hr⟩:=q8 n x M j y hy;exact⟨v,hv,hl.YL (λb X=>rfl) (λg hg=>by simp[dL]at hg) hr⟩
        .cases M
     show∃v w' bQ,Does Pg (execOp ρ o) w v w'/\Rel E (st.aK [(d,.aP a i z au (P.list (P.sl z (l.take L.nat))) zz),(g,.none)] [d]) bQ val w'/\_;rw[e0];obtain⟨bQ,m1,m2,m3⟩:=Ud _ rfl;refine⟨_,w,bQ,.inl Y,m1,?_,?_,λg' q=>?_⟩
     .show Lets E st (st.aK [(d,.aP a i z au (P.list (P.sl z (l.take L.nat))) zz),(g,.none)] [d]) gh bQ w w;rw[e0];exact m2
     .show dR E (st.aK [(d,.aP a i z au (P.list (P.sl z (l.take L.nat))) zz),(g,.none)] [d]) bQ w _ _;rw[e0];exact m3
     .have q:g'∈(S.v (.one (.own d))).names:=q;have:g'=d:=by simpa[S.names,V.names,W.names]using q
      subst this;simp[St.aK]
    .cases H
   .cases H
  .cases H
 .cases H
theorem NP{B:List (Nat×Nat)}(g:jm Pg tt)(op:Op):rU Pg tt B op:=by
 cases op with
 |load t x=>exact Ub g t x
 |store t x y=>exact Qu g t x y
 |buildSlice t n H=>exact DJ g t n H
 |makeSlice t n c=>exact Fq g t n c
 |slice t x lo J K=>exact Qv g t x lo J K
 |call c=>
  obtain⟨callee,args,ts⟩:=c;cases callee with
  |builtin b=>
   cases b with
   |append=>exact NM g args ts
   |_=>intro E st gh val w ρ F o d r q h z j m;simp[dX]at m
  |_=>intro E st gh val w ρ F o d r q h z j m;simp[dX]at m
 |_=>intro E st gh val w ρ F o d r q h z j m;simp[dX]at m
end
end Go.Fw

namespace Go.Fw
variable [fH]
def P.flat:P->Bool
 |.sl _ _=>zv
 |.seq _=>zv
 |_=>zj
theorem dB.flat{w:World}{ok c:Nat->Prop}{x:P}{v:Value}(d:x.flat=zj)(r:dB w ok x v):dB w c x v:=by
 cases r with
 |int k n=>exact .int k n
 |bool b=>exact .bool b
 |str s=>exact .str s
 |opq v h=>exact .opq v h
 |_=>cases d
inductive Ww(C:Bool->Bool->Bool->Bool->Prop)(m:Nat->Option Nat)(nil:Nat->Prop):W->W->Prop where
 |no (x:W):Ww C m nil x .no
 |p {a i a' i':Bool} (x:P) (hc:C a i a' i'):Ww C m nil (.p a i x) (.p a' i' x)
 |flat {a i a' i':Bool} (x:P) (hx:x.flat=zj):Ww C m nil (.p a i x) (.p a' i' x)
 |dJ:Ww C m nil .dJ .dJ
 |al8 (a i:Bool) (sz:Nat):Ww C m nil .dJ (.p a i (.sl sz []))
 |ao7 {g':Nat} (h:m g'=zz) (hn:nil g'):Ww C m nil .dJ (.own g')
 |own {g g':Nat} (h:m g'=zw g):Ww C m nil (.own g) (.own g')
 |vw {g g':Nat} (lo hi:P) (h:m g'=zw g):Ww C m nil (.vw g lo hi) (.vw g' lo hi)
 |box {g g' off:Nat} (h:m g'=zw g):Ww C m nil (.box g off) (.box g' off)
 |ep {g g':Nat} (n:P) (off:Nat) (h:m g'=zw g):Ww C m nil (.ep g n off) (.ep g' n off)
 |oD {g g':Nat} (h:m g'=zw g):Ww C m nil (.oD g) (.oD g')
 |sp {a i a' i':Bool} (row:List P) (off:Nat) (hc:C a i a' i'):Ww C m nil (.sp a i row off) (.sp a' i' row off)
 |gd (b:Bool) {x y:W} (h:Ww C m nil x y):Ww C m nil (.gd b x) (.gd b y)
 |clo (f:FuncId) (xs ys:List W) (hl:xs.length=ys.length) (h :∀(j:Nat) x y,xs[j]?=zw x->ys[j]?=zw y->Ww C m nil x y):Ww C m nil (.clo f xs) (.clo f ys)
inductive Vw(C:Bool->Bool->Bool->Bool->Prop)(m:Nat->Option Nat)(nil:Nat->Prop):V->V->Prop where
 |one {x y:W} (h:Ww C m nil x y):Vw C m nil (.one x) (.one y)
 |agg (xs ys:List W) (hl:xs.length=ys.length) (h :∀(j:Nat) x y,xs[j]?=zw x->ys[j]?=zw y->Ww C m nil x y):Vw C m nil (.agg xs) (.agg ys)
inductive Sw(C:Bool->Bool->Bool->Bool->Prop)(m:Nat->Option Nat)(nil:Nat->Prop):S->S->Prop where
 |no (x:S):Sw C m nil x .no
 |v {x y:V} (h:Vw C m nil x y):Sw C m nil (.v x) (.v y)
 |jq (xs ys:List V) (hl:xs.length=ys.length) (h :∀(j:Nat) x y,xs[j]?=zw x->ys[j]?=zw y->Vw C m nil x y):Sw C m nil (.jq xs) (.jq ys)
inductive Ow(C:Bool->Bool->Bool->Bool->Prop)(m:Nat->Option Nat)(nil:Nat->Prop):O->O->Prop where
 |none (x:O):Ow C m nil x .none
 |box (xs ys:List W) (hl:xs.length=ys.length) (h :∀(j:Nat) x y,xs[j]?=zw x->ys[j]?=zw y->Ww C m nil x y):Ow C m nil (.box xs) (.box ys)
 |arr (fz:Bool) {a i a' i':Bool} (sz:Nat) (l:List (List P)) (hc:C a i a' i'):Ow C m nil (.arr fz a i sz l) (.arr fz a' i' sz l)
 |aP {a i a' i':Bool} (sz:Nat) (au:List (Nat×Nat)) (l:List (List P)) (hc:C a i a' i'):Ow C m nil (.aP a i sz au l Option.none) (.aP a' i' sz au l Option.none)
 |it (s n:P):Ow C m nil (.it s n) (.it s n)
def O.nilA(o:O):Prop:=(∃a i b,o=.arr zv a i b [])\/∃a i b c,o=.aP a i b c [] Option.none
theorem Ow.dim{C:Bool->Bool->Bool->Bool->Prop}{m:Nat->Option Nat}{nil:Nat->Prop}{x y:O}(h:Ow C m nil x y){d:Nat×Nat}(hd:y.dim=zw d):x.dim=zw d:=by
 cases h with
 |none=>cases hd
 |box=>cases hd
 |arr=>exact hd
 |aP=>exact hd
 |it=>cases hd
theorem Ow.bW{C:Bool->Bool->Bool->Bool->Prop}{m:Nat->Option Nat}{nil:Nat->Prop}{x y:O}(h:Ow C m nil x y)(b:y.bW=zj):x.bW=zj/\x.o8=y.o8:=by
 cases h with
 |none=>cases b
 |box=>exact⟨rfl,rfl⟩
 |arr=>exact⟨b,rfl⟩
 |aP=>exact⟨rfl,rfl⟩
 |it=>exact⟨rfl,rfl⟩
theorem Ow.inner{C:Bool->Bool->Bool->Bool->Prop}{m:Nat->Option Nat}{nil:Nat->Prop}{x y:O}(h:Ow C m nil x y){i:Bool}(b:y.inner=zw i):∃g a d,C g d a i/\x.inner=zw d:=by
 cases h with
 |none=>cases b
 |box=>cases b
 |arr j q l c=>
  cases j with
  |false=>cases b;exact⟨_,_,_,c,rfl⟩
  |true=>cases b
 |aP q z l c=>cases b;exact⟨_,_,_,c,rfl⟩
 |it=>cases b
structure Cast(C:Bool->Bool->Bool->Bool->Prop)(m:Nat->Option Nat)(nil:Nat->Prop)(E E':Env)(st st':St)(gh bQ:Nat->Gh)(w:World):Prop where
 ok :∀a i a' i' b,C a i a' i'->E.ok st gh w a i b->E'.ok st' bQ w a' i' b
 arr :∀g g',m g'=zw g->∀sz len,(st'.o g').dim=zw (sz,len)->((bQ g').ad=(gh g).ad/\(bQ g').cap=(gh g).cap)/\(st.o g).dim=zw (sz,len)
 box :∀g g',m g'=zw g->∀ws,st'.o g'=.box ws->(bQ g').ad=(gh g).ad/\∃ws',st.o g=.box ws'
 it :∀g g',m g'=zw g->∀s n,st'.o g'=.it s n->(bQ g').ad=(gh g).ad/\∃s' n',st.o g=.it s' n'
 nil :∀g',nil g'->m g'=zz->∀sz len,(st'.o g').dim=zw (sz,len)->len=0/\(bQ g').ad=zz/\(bQ g').cap=0
section
variable {C:Bool->Bool->Bool->Bool->Prop} {E E':Env} {st st':St} {gh bQ:Nat->Gh} {w:World} {val:Nat->Value} {m:Nat->Option Nat} {nil:Nat->Prop}
theorem Cast.lN(r:Cast C m nil E E' st st' gh bQ w){a i c d:Bool}(g:C a i c d){x:P}{v:Value}(h:dB w (E.ok st gh w a i) x v):dB w (E'.ok st' bQ w c d) x v:=h.mono λb j=>⟨r.ok _ _ _ _ b g j,rfl⟩
theorem Cast.Bq(r:Cast C m nil E E' st st' gh bQ w){x y:W}(z:Ww C m nil x y){v:Value}(h:fV E st gh w x v):fV E' st' bQ w y v:=by
 induction z generalizing v with
 |no x=>exact .no v
 |p x H=>cases h with|p _ _ _ _ h=>exact .p _ _ _ _ (r.lN H h)
 |flat x c=>cases h with|p _ _ _ _ h=>exact .p _ _ _ _ (h.flat c)
 |dJ=>cases h;exact .dJ
 |al8 a i J=>cases h;exact .p _ _ _ _ (.nil _ _ _)
 |ao7 d hn=>cases h;refine .own _ _ rfl λJ len g=>?_;obtain⟨N,T,U⟩:=r.nil _ hn d _ _ g;rw[N,T,U]
 |own d=>
  cases h with|own _ _ q c=>
  refine .own _ _ q λJ len g=>?_;obtain⟨hg,e⟩:=r.arr _ _ d _ _ g;rw[hg.1,hg.2];exact c _ _ e
 |vw lo hi d=>
  cases h with|vw _ _ _ _ q c=>
  refine .vw _ _ _ _ q λJ len g=>?_;obtain⟨hg,e⟩:=r.arr _ _ d _ _ g;rw[hg.1,hg.2];exact c _ _ e
 |box d=>
  cases h with|box _ _ _ q c=>
  refine .box _ _ _ q λws g=>?_;obtain⟨hg,X,e⟩:=r.box _ _ d _ g;rw[hg];exact c _ e
 |ep n off d=>
  cases h with|ep _ _ _ _ q c=>
  refine .ep _ _ _ _ q λJ len g=>?_;obtain⟨hg,e⟩:=r.arr _ _ d _ _ g;rw[hg.1];exact c _ _ e
 |oD d=>
  cases h with|oD _ _ q c=>
  refine .oD _ _ q λs n g=>?_;obtain⟨hg,s',n',e⟩:=r.it _ _ d _ _ g;rw[hg];exact c _ _ e
 |sp row off H=>cases h with|sp _ _ _ _ b o K Y=>exact .sp _ _ _ _ b o (λZ=>r.ok _ _ _ _ b H (K Z)) λj y hj=>let ⟨u,hu,TY⟩:=Y j y hj;⟨u,hu,r.lN H TY⟩
 |gd b z L=>cases h with|gd _ _ _ h=>exact .gd _ _ _ λK=>L (h K)
 |clo f xs ys hl z L=>
  cases h with|clo _ _ vs hl' h=>
  exact .clo f ys vs (by omega) λj y v M q=>by
   have B:j<xs.length:=by have:=(Q3.1 M).1;omega
   exact L j _ y (Q1 B) M (h j _ v (Q1 B) q)
theorem Cast.abj(r:Cast C m nil E E' st st' gh bQ w){x y:V}(b:Vw C m nil x y){v:Value}(h:sO E st gh w x v):sO E' st' bQ w y v:=by
 cases b with
 |one b=>cases h with|one _ _ h=>exact .one _ _ (r.Bq b h)
 |agg xs q H b=>
  cases h with|agg _ z B d h=>
  exact .agg q z (by omega) d λj y v g d=>by
   have c:j<xs.length:=by have:=(Q3.1 g).1;omega
   exact r.Bq (b j _ y (Q1 c) g) (h j _ v (Q1 c) d)
theorem Cast.ahP(r:Cast C m nil E E' st st' gh bQ w){x y:S}(b:Sw C m nil x y){v:Value}(h:dR E st gh w x v):dR E' st' bQ w y v:=by
 cases b with
 |no x=>exact .no v
 |v b=>cases h with|v _ _ h=>exact .v _ _ (r.abj b h)
 |jq xs g B b=>
  cases h with|jq _ vs q h=>
  exact .jq g vs (by omega) λj y v d z=>by
   have c:j<xs.length:=by have:=(Q3.1 d).1;omega
   exact r.abj (b j _ y (Q1 c) d) (h j _ v (Q1 c) z)
theorem Cast.Dk(r:Cast C m nil E E' st st' gh bQ w){x y:O}(g:Ow C m nil x y){G:Gh}(h:ni E st gh w x G):ni E' st' bQ w y G:=by
 cases g with
 |none x=>trivial
 |box xs ys hl g=>
  obtain⟨ad,c,e,q,z,B,K,H⟩:=h;refine⟨ad,c,e,q,z,B,by omega,λj y d=>?_⟩;have L:j<xs.length:=by have:=(Q3.1 d).1;omega
  obtain⟨v,J,ho,b⟩:=H j _ (Q1 L);exact⟨v,J,ho,r.Bq (g j _ y (Q1 L) d) b⟩
 |arr fz sz l M=>
  cases fz with
  |false=>
   rcases h with Y|⟨ad,c,e,q,z,B,K,H,N,T⟩
   .exact .inl Y
   .exact .inr ⟨ad,c,e,q,z,B,K,H,N,λn x U j y d=>let ⟨v,J,b⟩:=T n x U j y d;⟨v,J,r.lN M b⟩⟩
  |true=>exact r.lN M h
 |aP sz au l M=>
  rcases h with Y|⟨ad,c,e,q,z,B,K,H,N,T,h8⟩
  .exact .inl Y
  .refine .inr ⟨ad,c,e,q,z,B,K,H,N,T,λn x U j y d=>?_⟩;obtain⟨v,J,b⟩:=h8 n x U j y d;refine⟨v,J,?_⟩;unfold jl at *;cases X:au.lookup j with
   |none=>rw[X]at b;exact r.lN M b
   |some sz'=>
    rw[X]at b;simp only[iK]at *;obtain⟨l',ao,k,k1,k2,Z,k4⟩:=b;refine⟨l',ao,k,k1,k2,?_,k4⟩;rcases Z with Z|⟨ad,c,e,q,z,B,K,H,N,T⟩
    .exact .inl Z
    .exact .inr ⟨ad,c,e,q,z,B,K,H,N,λn x U j y d=>let ⟨v,J,b⟩:=T n x U j y d;⟨v,J,r.lN M b⟩⟩
 |it s n=>exact h
end
def Cle(a i a' i':Bool):Prop:=(a=zj->a'=zj)/\(i=zj->i'=zj)
structure uG(C:Bool->Bool->Bool->Bool->Prop)(m:Nat->Option Nat)(st st':St):Prop where
 slots :∀t,Sw C m (λg=>(st'.o g).nilA) (st.s t) (st'.s t)
 bG :∀g' g,m g'=zw g->Ow C m (λg=>(st'.o g).nilA) (st.o g) (st'.o g')
 aY :∀g',m g'=zz->st'.o g'=.none\/(st'.o g').nilA
 inj :∀g1 g2 g,(st'.o g1).bW=zj->(st'.o g2).bW=zj->m g1=zw g->m g2=zw g->g1=g2
 us :∀t,∀g∈(st'.s t).names,st'.used g=zj
 uo :∀g,∀g'∈(st'.o g).names,st'.used g'=zj
 ul :∀g,st'.o g≠.none->st'.used g=zj
section
variable {C:Bool->Bool->Bool->Bool->Prop} {E E':Env} {st st':St} {gh:Nat->Gh} {w:World} {val:Nat->Value} {m:Nat->Option Nat}
def kN(gh:Nat->Gh)(m:Nat->Option Nat):Nat->Gh:=λg'=>match m g' with
 |some g=>gh g
 |none=>Gh.nil
theorem uG.bW(r:uG C m st st'){g':Nat}(h:(st'.o g').bW=zj){b:Nat}(c:(kN gh m g').has b):∃g,m g'=zw g/\(st.o g).bW=zj/\(gh g).has b:=by
 unfold kN at c;cases d:m g' with
 |none=>rw[d]at c;exact(Gh.not_nil c).elim
 |some g=>rw[d]at c;exact⟨g,rfl,((r.bG g' g d).bW h).1,c⟩
theorem uG.cast(r:uG C m st st')(q :∀a i h j b,C a i h j->E.ok st gh w a i b->E'.ok st' (kN gh m) w h j b):
  Cast C m (λg=>(st'.o g).nilA) E E' st st' gh (kN gh m) w:=by
 refine⟨q,λg g' c z len d=>⟨by simp[kN,c],(r.bG g' g c).dim d⟩,λg g' c B d=>⟨by simp[kN,c],?_⟩,λg g' c s n d=>⟨by simp[kN,c],?_⟩,λg' hn c z len d=>⟨?_,by simp[kN,c,Gh.nil],by simp[kN,c,Gh.nil]⟩⟩
 .have:=r.bG g' g c;rw[d]at this;generalize st.o g=x at this;cases this;exact⟨_,rfl⟩
 .have:=r.bG g' g c;rw[d]at this;generalize st.o g=x at this;cases this;exact⟨_,_,rfl⟩
 .rcases hn with⟨h,j,y,hn⟩|⟨h,j,y,H,hn⟩
  .rw [hn]at d;cases d;rfl
  .rw [hn]at d;cases d;rfl
theorem uG.ok(r:uG Cle m st st'):∀a i c d b,Cle a i c d->E.ok st gh w a i b->E.ok st' (kN gh m) w c d b:=by intro a i c d b q h;have:=Env.qp q.1 q.2 h;refine⟨this.1,this.2.1,λg' y j=>?_⟩;obtain⟨g,_,z,B⟩:=r.bW y j;exact h.2.2 g z B
theorem uG.Dk(r:uG C m st st')(c:Cast C m (λg=>(st'.o g).nilA) E E' st st' gh (kN gh m) w)(h :∀g,ni E st gh w (st.o g) (gh g))(g':Nat):ni E' st' (kN gh m) w (st'.o g') (kN gh m g'):=by
 cases d:m g' with
 |none=>
  rcases r.aY g' d with e|⟨a,i,j,e⟩|⟨a,i,j,q,e⟩
  .rw [e];trivial
  .rw [e];exact .inl ⟨by simp[kN,d,Gh.nil],by simp[kN,d,Gh.nil],rfl⟩
  .rw [e];exact .inl ⟨by simp[kN,d,Gh.nil],by simp[kN,d,Gh.nil],rfl,λb=>by simp[kN,d,Gh.nil]⟩
 |some g=>
  have hg:kN gh m g'=gh g:=by simp[kN,d]
  rw[hg];exact c.Dk (r.bG g' g d) (h g)
theorem Rel.adV(h:Rel E st gh val w)(r:uG Cle m st st'):Rel E st' (kN gh m) val w:=by
 have c:=r.cast (E:=E) (E':=E) (gh:=gh) (w:=w) r.ok;refine⟨λt=>c.ahP (r.slots t) (h.slots t),r.Dk c h.bG,λg1 g2 b z j H J=>?_,λg' b y d=>?_,λg' i b y d K=>?_,λg' y hd b=>?_,h.wb,h.frame,h.size,h.os,h.tape,h.output,r.us,r.uo,r.ul⟩
 .obtain ⟨q1,L,M,d1⟩:=r.bW z H;obtain⟨q2,N,T,d2⟩:=r.bW j J;have:=h.inj q1 q2 b M T d1 d2;subst this;exact r.inj g1 g2 q1 z j L N
 .obtain ⟨g,_,z,j⟩:=r.bW y d;exact h.wr g b z j
 .obtain ⟨g,B,z,j⟩:=r.bW (gh:=gh) (g':=g') (O.lT y) d;obtain⟨Y,a,U,X,q⟩:=(r.bG g' g B).inner y;exact X.2 (h.wi g U b q j K)
 .cases B:m g' with
  |none=>simp[kN,B,Gh.nil]
  |some g=>
   have hg:kN gh m g'=gh g:=by simp[kN,B]
   rw[hg];obtain⟨q1,q2⟩:=(r.bG g' g B).bW y;exact h.ns g q1 (by rw[q2];exact hd) b
end
end Go.Fw

namespace Go.Fw
variable [fH]
inductive WS where
 |p (a i:Bool)
 |dJ
 |own (g:Nat)
 |box (g off:Nat)
 |fn (f:FuncId) (gs:List Nat)
 |oD (g:Nat)
 |no
 |vw (g:Nat)
 |ep (g off:Nat)
inductive SS where
 |one (x:WS)
 |agg (xs:List WS)
inductive OS where
 |box (ws:List WS)
 |arr (fz a i:Bool) (sz:Nat)
 |it
 |aP (a i:Bool) (sz:Nat) (au:List (Nat×Nat))
structure Shape where
 slots:List (Nat×SS)
 bG:List (Nat×OS)
abbrev Ren:=List (Nat×Option Nat)
def imp(a b:Bool):Bool:=!a||b
def nodupB:List Nat->Bool
 | []=>zj
 |x::xs=>!xs.contains x&&nodupB xs
def uH(m:Ren):List Nat->List W->Bool
 | [],[]=>zj
 |g'::gs,.box g off::b=>decide (m.lookup g'=zw (zw g))&&(Nat.beq off 0&&uH m gs b)
 |_,_=>zv
def iw:List Nat->List W
 | []=>[]
 |g::gs=>.box g 0::iw gs
def Nw(m:Ren):WS->W->Option (List P)
 |.p a i,.p d h x=>if((imp d a&&imp h i)||x.flat)=zj then zw [x]else zz
 |.p _ _,.dJ=>zw [.sl 0 []]
 |.dJ,.dJ=>zw []
 |.own g',.own g=>if m.lookup g'=zw (zw g)then zw []else zz
 |.own g',.dJ=>if m.lookup g'=zw zz then zw []else zz
 |.box g' off,.box g b=>if m.lookup g'=zw (zw g)/\off=b then zw []else zz
 |.fn f gs,.clo j c=>if f=j/\uH m gs c=zj then zw []else zz
 |.oD g',.oD g=>if m.lookup g'=zw (zw g)then zw []else zz
 |.no,_=>zw []
 |.vw g',.vw g lo q=>if m.lookup g'=zw (zw g)then zw [lo,q]else zz
 |.ep g' off,.ep g n b=>if m.lookup g'=zw (zw g)/\off=b then zw [n]else zz
 |_,_=>zz
def NQ(m:Ren):List WS->List W->Option (List P)
 | [],[]=>zw []
 |k::b,x::xs=>match Nw m k x,NQ m b xs with
  |some u,zw v=>zw (u++v)
  |_,_=>zz
 |_,_=>zz
def coS(m:Ren):SS->S->Option (List P)
 |.one k,.v (.one x)=>Nw m k x
 |.agg b,.v (.agg xs)=>NQ m b xs
 |_,_=>zz
def coO(m:Ren):OS->O->Option (List P)
 |.box j,.box xs=>NQ m j xs
 |.arr q a i c,.arr d g h b l=>if q=d/\c=b/\(imp g a&&imp h i)=zj then zw [P.gQ c l]else zz
 |.it,.it s n=>zw [s,n]
 |.aP a i c w,.aP g h b y l Option.none=>if c=b/\w=y/\(imp g a&&imp h i)=zj then zw [P.gQ c l]else zz
 |_,_=>zz
def tu(m:Ren)(s:Nat->S):List (Nat×SS)->Option (List P)
 | []=>zw []
 |(t,k)::rest=>match coS m k (s t),tu m s rest with
  |some u,zw v=>zw (u++v)
  |_,_=>zz
def xq(m:Ren)(o:Nat->O):List (Nat×OS)->Option (List P)
 | []=>zw []
 |(g',k)::rest=>match (match m.lookup g' with
   |some (zw g)=>coO m k (o g)
   |some zz=>(match k with
    |.arr zv _ _ _=>zw [.sl 0 []]
    |.aP _ _ _ _=>zw [.sl 0 []]
    |_=>zz)
   |none=>zz),xq m o rest with
  |some u,zw v=>zw (u++v)
  |_,_=>zz
def WS.names:WS->List Nat
 |.own g|.box g _|.oD g|.vw g|.ep g _=>[g]
 |.fn _ gs=>gs
 |_=>[]
def SS.names:SS->List Nat
 |.one x=>x.names
 |.agg xs=>xs.flatMap WS.names
def OS.names:OS->List Nat
 |.box b=>b.flatMap WS.names
 |_=>[]
def Shape.nms(j:Shape):List Nat:=j.bG.map (·.1)
def Shape.ok(j:Shape):Bool:=nodupB j.nms&&j.slots.all (λp=>p.2.names.all λg=>j.nms.contains g)&&j.bG.all (λp=>p.2.names.all λg=>j.nms.contains g)
def aky(j:Shape)(m:Ren):Bool:=nodupB (j.nms.filterMap λg=>(m.lookup g).join)
def coerce(j:Shape)(m:Ren)(st:St):Option (List P):=
 if(j.ok&&aky j m)=zj then match tu m st.s j.slots,xq m st.o j.bG with
  |some u,zw v=>zw (u++v)
  |_,_=>zz
 else zz
def qY(vs:List P)(n:Nat):WS->W×Nat
 |.p a i=>(.p a i (vs.getD n default),n+1)
 |.dJ=>(.dJ,n)
 |.own g=>(.own g,n)
 |.box g off=>(.box g off,n)
 |.fn f gs=>(.clo f (iw gs),n)
 |.oD g=>(.oD g,n)
 |.no=>(.no,n)
 |.vw g=>(.vw g (vs.getD n default) (vs.getD (n+1) default),n+2)
 |.ep g off=>(.ep g (vs.getD n default) off,n+1)
def lV(vs:List P):Nat->List WS->List W×Nat
 |n,[]=>([],n)
 |n,k::b=>((qY vs n k).1::(lV vs (qY vs n k).2 b).1,(lV vs (qY vs n k).2 b).2)
def mkS(vs:List P)(n:Nat):SS->S×Nat
 |.one k=>(.v (.one (qY vs n k).1),(qY vs n k).2)
 |.agg b=>(.v (.agg (lV vs n b).1),(lV vs n b).2)
def u_(vs:List P)(n:Nat):OS->O×Nat
 |.box c=>(.box (lV vs n c).1,(lV vs n c).2)
 |.arr d a i b=>(.arr d a i b (vs.getD n default).list,n+1)
 |.it=>(.it (vs.getD n default) (vs.getD (n+1) default),n+2)
 |.aP a i b g=>(.aP a i b g (vs.getD n default).list Option.none,n+1)
def dQ(vs:List P):Nat->List (Nat×SS)->List (Nat×S)×Nat
 |n,[]=>([],n)
 |n,(t,k)::rest=>((t,(mkS vs n k).1)::(dQ vs (mkS vs n k).2 rest).1,(dQ vs (mkS vs n k).2 rest).2)
def iy(vs:List P):Nat->List (Nat×OS)->List (Nat×O)×Nat
 |n,[]=>([],n)
 |n,(g,k)::rest=>((g,(u_ vs n k).1)::(iy vs (u_ vs n k).2 rest).1,(iy vs (u_ vs n k).2 rest).2)
def mk(j:Shape)(vs:List P):St:=
 { s:=λt=>match (dQ vs 0 j.slots).1.lookup t with|some x=>x|none=>.no,o:=λg=>match (iy vs (dQ vs 0 j.slots).2 j.bG).1.lookup g with|some x=>x|none=>.none,used:=λg=>j.nms.contains g }
def Kw(j:Shape)(m:Ren)(g':Nat):Option Nat:=if j.nms.contains g' then(m.lookup g').join else zz
def At(vs:List P)(n:Nat)(us:List P):Prop :=∀k y,us[k]?=zw y->vs[n+k]?=zw y
theorem At.left{vs us1 us2:List P}{n:Nat}(h:At vs n (us1++us2)):At vs n us1:=λk y b=>h k y (by rw[Wf (Q3.1 b).1];exact b)
theorem At.right{vs us1 us2:List P}{n:Nat}(h:At vs n (us1++us2)):At vs (n+us1.length) us2:=λk y b=>by have:=h (us1.length+k) y (by rw[Wc (by omega),qT];exact b);rw[<-this];congr 1;omega
theorem At.head{vs:List P}{n:Nat}{x:P}(h:At vs n [x]):vs.getD n default=x:=by have:=h 0 x rfl;rw[Q2];rw[Jn]at this;rw[this];rfl
theorem vg{a b:Bool}(h:imp a b=zj):a=zj->b=zj:=by cases a<;>cases b<;>simp_all [imp]
section
variable {vs:List P} {m:Ren} {F:Nat->Option Nat} {nil:Nat->Prop}
theorem xu:∀(gs:List Nat),(iw gs).flatMap W.names=gs
 | []=>rfl
 |g::gs=>by simp[iw,W.names,xu gs]
theorem vC(f:FuncId)(caps:List W):(W.clo f caps).names=caps.flatMap W.names:=by
 have :∀(l:List W) (q :∀x∈l,x∈caps),(l.attach.flatMap λ(x:{x // x∈l})=>x.1.names)=l.flatMap W.names:=λl _=>by rw[List.flatMap_def,List.flatMap_def,List.map_attach_eq_pmap,List.pmap_eq_map]
 rw[W.names];exact this caps λx b=>b
theorem Ov:∀{gs:List Nat} {caps:List W},(∀g∈gs,F g=(m.lookup g).join)->uH m gs caps=zj->caps.length=(iw gs).length/\∀(j:Nat) x y,caps[j]?=zw x->(iw gs)[j]?=zw y->Ww Cle F nil x y
 | [],[],_,_=>⟨rfl,λj x y b=>by simp at b⟩
 | [],_::_,_,h=>by simp[uH]at h
 |_::_,[],_,h=>by simp[uH]at h
 |g'::gs,c::K,w,h=>by
  cases c with
  |box g off=>
   simp only[uH,X1,Wa]at h;obtain⟨z,q,B⟩:=h;have q:=Q6 q;subst q;obtain⟨H,J⟩:=Ov (λg hg=>w g (by simp[hg])) B;refine⟨by simp[iw,H],λj x y b d=>?_⟩;cases j with
   |zero=>simp[iw]at b d;subst b d;exact .box (by rw[w g' (by simp),z];rfl)
   |succ j=>simp[iw]at b d;exact J j x y b d
  |_=>simp[uH]at h
theorem adX{k:WS}{x:W}{us:List P}{n:Nat}(b :∀g∈k.names,F g=(m.lookup g).join)(c :∀g∈k.names,m.lookup g=zw zz->nil g)(h:Nw m k x=zw us)(d:At vs n us):
  Ww Cle F nil x (qY vs n k).1/\(qY vs n k).2=n+us.length/\(qY vs n k).1.names=k.names:=by
 cases k with
 |p a i=>
  cases x with
  |p L M y=>
   simp only[Nw]at h;split at h
   .rename_i hc;cases h;simp only[Ka,X1]at hc;refine⟨?_,rfl,by simp[qY,W.names,WS.names]⟩;simp only[qY,d.head];rcases hc with hc|hc
    .exact .p y ⟨vg hc.1,vg hc.2⟩
    .exact .flat y hc
   .cases h
  |dJ=>simp only[Nw,Q0]at h;subst h;refine⟨?_,rfl,by simp[qY,W.names,WS.names]⟩;simp only[qY,d.head];exact .al8 _ _ _
  |_=>simp[Nw]at h
 |dJ=>cases x<;>simp[Nw]at h;subst h;exact⟨.dJ,rfl,by simp[qY,W.names,WS.names]⟩
 |own g'=>
  cases x with
  |own g=>
   simp only[Nw]at h;split at h
   .rename_i hc;cases h;exact⟨.own (by rw[b g' (by simp[WS.names]),hc];rfl),rfl,by simp[qY,W.names,WS.names]⟩
   .cases h
  |dJ=>
   simp only[Nw]at h;split at h
   .rename_i hc;cases h;exact⟨.ao7 (by rw[b g' (by simp[WS.names]),hc];rfl) (c g' (by simp[WS.names]) hc),rfl,by simp[qY,W.names,WS.names]⟩
   .cases h
  |_=>simp[Nw]at h
 |box g' off=>
  cases x with
  |box g j=>
   simp only[Nw]at h;split at h
   .rename_i hc;cases h;obtain⟨hc,rfl⟩:=hc;exact⟨.box (by rw[b g' (by simp[WS.names]),hc];rfl),rfl,by simp[qY,W.names,WS.names]⟩
   .cases h
  |_=>simp[Nw]at h
 |fn f gs=>
  cases x with
  |clo N w=>
   simp only[Nw]at h;split at h
   .rename_i hc;cases h;obtain⟨rfl,hc⟩:=hc;obtain⟨B,H⟩:=Ov (nil:=nil) b hc;exact⟨.clo f w (iw gs) B H,rfl,by simp only[qY,vC,xu,WS.names]⟩
   .cases h
  |_=>simp[Nw]at h
 |oD g'=>
  cases x with
  |oD g=>
   simp only[Nw]at h;split at h
   .rename_i hc;cases h;exact⟨.oD (by rw[b g' (by simp[WS.names]),hc];rfl),rfl,by simp[qY,W.names,WS.names]⟩
   .cases h
  |_=>simp[Nw]at h
 |no=>simp[Nw]at h;subst h;exact⟨.no _,rfl,by simp[qY,W.names,WS.names]⟩
 |vw g'=>
  cases x with
  |vw g lo z=>
   simp only[Nw]at h;split at h
   .rename_i hc;cases h;have J:vs.getD n default=lo:=At.head (At.left (us1:=[lo]) (us2:=[z]) d);have K:vs.getD (n+1) default=z:=At.head (At.right (us1:=[lo]) (us2:=[z]) d);refine⟨?_,rfl,by simp[qY,W.names,WS.names]⟩;simp only[qY,J,K];exact .vw lo z (by rw[b g' (by simp[WS.names]),hc];rfl)
   .cases h
  |_=>simp[Nw]at h
 |ep g' off=>
  cases x with
  |ep g q j=>
   simp only[Nw]at h;split at h
   .rename_i hc;cases h;obtain⟨hc,rfl⟩:=hc;refine⟨?_,rfl,by simp[qY,W.names,WS.names]⟩;simp only[qY,d.head];exact .ep q off (by rw[b g' (by simp[WS.names]),hc];rfl)
   .cases h
  |_=>simp[Nw]at h
theorem Qw:∀{b:List WS} {xs:List W} {us:List P} {n:Nat},(∀k∈b,∀g∈k.names,F g=(m.lookup g).join)->(∀k∈b,∀g∈k.names,m.lookup g=zw zz->nil g)->NQ m b xs=zw us->At vs n us->
  xs.length=(lV vs n b).1.length/\(∀(j:Nat) x y,xs[j]?=zw x->(lV vs n b).1[j]?=zw y->Ww Cle F nil x y)/\(lV vs n b).2=n+us.length/\(lV vs n b).1.flatMap W.names=b.flatMap WS.names
 | [],xs,us,n,w,hn,h,z=>by
  cases xs with
  |nil=>simp[NQ]at h;subst h;exact⟨rfl,λj x y c=>by simp at c,rfl,rfl⟩
  |cons x xs=>simp[NQ]at h
 |k::b,xs,us,n,w,hn,h,z=>by
  cases xs with
  |nil=>simp[NQ]at h
  |cons x xs=>
   simp only[NQ]at h;split at h
   .rename_i u v hu H;cases h;obtain⟨J,a2,a3⟩:=adX (w k (by simp)) (hn k (by simp)) hu z.left;have d:=Qw (n:=n+u.length) (λk B=>w k (by simp[B])) (λk B=>hn k (by simp[B])) H z.right;simp only[lV,a2];refine⟨by simp[d.1],λj K L c q=>?_,by rw[d.2.2.1];simp;omega,by simp[a3,d.2.2.2]⟩;cases j with
    |zero=>simp at c q;subst c q;exact J
    |succ j=>simp at c q;exact d.2.1 j K L c q
   .cases h
theorem al9{k:SS}{x:S}{us:List P}{n:Nat}(j :∀g∈k.names,F g=(m.lookup g).join)(b :∀g∈k.names,m.lookup g=zw zz->nil g)(h:coS m k x=zw us)(q:At vs n us):
  Sw Cle F nil x (mkS vs n k).1/\(mkS vs n k).2=n+us.length/\(mkS vs n k).1.names=k.names:=by
 cases k with
 |one k=>
  cases x with
  |v x=>
   cases x with
   |one x=>obtain⟨c,a2,a3⟩:=adX j b h q;exact⟨.v (.one c),a2,by simpa[mkS,S.names,V.names,SS.names]using a3⟩
   |agg xs=>simp[coS]at h
  |_=>simp[coS]at h
 |agg w=>
  cases x with
  |v x=>
   cases x with
   |one x=>simp[coS]at h
   |agg xs=>obtain⟨a0,c,a2,a3⟩:=Qw (λk d g hg=>j g (by simp only[SS.names,Z6];exact⟨k,d,hg⟩)) (λk d g hg=>b g (by simp only[SS.names,Z6];exact⟨k,d,hg⟩)) h q;exact⟨.v (.agg _ _ a0 c),a2,by simpa[mkS,S.names,V.names,SS.names]using a3⟩
  |_=>simp[coS]at h
theorem Ky{s:Nat->S}:∀{L:List (Nat×SS)} {us:List P} {n:Nat},(∀p∈L,∀g∈p.2.names,F g=(m.lookup g).join)->(∀p∈L,∀g∈p.2.names,m.lookup g=zw zz->nil g)->tu m s L=zw us->At vs n us->
  (∀t x,(dQ vs n L).1.lookup t=zw x->Sw Cle F nil (s t) x/\∀g∈x.names,∃p∈L,g∈p.2.names)/\(dQ vs n L).2=n+us.length
 | [],us,n,d,hn,h,j=>by simp[tu]at h;subst h;exact⟨λt x b=>by simp[dQ]at b,rfl⟩
 |(t0,k)::L,us,n,d,hn,h,j=>by
  simp only[tu]at h;split at h
  .rename_i u v hu y;cases h;obtain⟨z,a2,a3⟩:=al9 (d (t0,k) (by simp)) (hn (t0,k) (by simp)) hu j.left;have w:=Ky (n:=n+u.length) (λp c=>d p (by simp[c])) (λp c=>hn p (by simp[c])) y j.right;simp only[dQ,a2];refine⟨λt x b=>?_,by rw[w.2];simp;omega⟩;simp only[List.lookup]at b;split at b
   .rename_i q;have q:t=t0:=by simpa using q
    subst q;cases b;exact⟨z,λg hg=>⟨(t,k),by simp,by rw[a3]at hg;exact hg⟩⟩
   .obtain ⟨B,H⟩:=w.1 t x b;exact⟨B,λg hg=>let ⟨p,c,hg⟩:=H g hg;⟨p,by simp[c],hg⟩⟩
  .cases h
theorem al_{k:OS}{x:O}{us:List P}{n:Nat}(B :∀g∈k.names,F g=(m.lookup g).join)(c :∀g∈k.names,m.lookup g=zw zz->nil g)(h:coO m k x=zw us)(d:At vs n us):
  Ow Cle F nil x (u_ vs n k).1/\(u_ vs n k).2=n+us.length/\(u_ vs n k).1.names=k.names:=by
 cases k with
 |box X=>
  cases x with
  |box xs=>obtain⟨a0,H,a2,a3⟩:=Qw (λk w g hg=>B g (by simp only[OS.names,Z6];exact⟨k,w,hg⟩)) (λk w g hg=>c g (by simp only[OS.names,Z6];exact⟨k,w,hg⟩)) h d;exact⟨.box _ _ a0 H,a2,by simpa[u_,O.names,OS.names]using a3⟩
  |_=>simp[coO]at h
 |arr J a i y=>
  cases x with
  |arr K L M z l=>
   simp only[coO]at h;split at h
   .rename_i b;cases h;obtain⟨rfl,rfl,b⟩:=b;simp only[X1]at b;refine⟨?_,rfl,rfl⟩;simp only[u_,d.head,P.o9];exact .arr J y l ⟨vg b.1,vg b.2⟩
   .cases h
  |_=>simp[coO]at h
 |it=>
  cases x with
  |it s p=>simp only[coO,Q0]at h;subst h;refine⟨?_,rfl,rfl⟩;have N:vs.getD n default=s:=At.head (At.left (us1:=[s]) (us2:=[p]) d);have T:vs.getD (n+1) default=p:=At.head (At.right (us1:=[s]) (us2:=[p]) d);simp only[u_,N,T];exact .it s p
  |_=>simp[coO]at h
 |aP a i y U=>
  cases x with
  |aP L M z Y l j=>
   cases j with
   |some q=>simp[coO]at h
   |none=>
    simp only[coO]at h;split at h
    .rename_i b;cases h;obtain⟨rfl,rfl,b⟩:=b;simp only[X1]at b;refine⟨?_,rfl,rfl⟩;simp only[u_,d.head,P.o9];exact .aP y U l ⟨vg b.1,vg b.2⟩
    .cases h
  |_=>simp[coO]at h
end
theorem jP:∀{l:List Nat},nodupB l=zj->l.Nodup
 | [],_=>List.nodup_nil
 |x::l,h=>by simp only[nodupB,X1,V0,Vc,decide_eq_false_iff_not]at h;exact K5.2 ⟨h.1,jP h.2⟩
theorem Ox{vs:List P}{m:Ren}{F:Nat->Option Nat}{nil:Nat->Prop}{o:Nat->O}:∀{L:List (Nat×OS)} {us:List P} {n:Nat},(∀p∈L,∀g∈p.2.names,F g=(m.lookup g).join)->(∀p∈L,∀g∈p.2.names,m.lookup g=zw zz->nil g)->
  (L.map (·.1)).Nodup->xq m o L=zw us->At vs n us->
  (∀g' x,(iy vs n L).1.lookup g'=zw x->(g'∈L.map (·.1))/\(∀g∈x.names,∃p∈L,g∈p.2.names)/\((∃g,m.lookup g'=zw (zw g)/\Ow Cle F nil (o g) x)\/(m.lookup g'=zw zz/\x.nilA)))/\
  (∀g'∈L.map (·.1),∃x,(iy vs n L).1.lookup g'=zw x)
 | [],us,n,q,hn,hd,h,d=>⟨λg x c=>by simp[iy]at c,λg hg=>by simp at hg⟩
 |(g0,k)::L,us,n,q,hn,hd,h,d=>by
  simp only[xq]at h;split at h
  .rename_i u v hu H;cases h;simp only[Qf,K5]at hd;have key:(u_ vs n k).2=n+u.length/\(u_ vs n k).1.names=k.names/\((∃g,m.lookup g0=zw (zw g)/\Ow Cle F nil (o g) (u_ vs n k).1)\/(m.lookup g0=zw zz/\(u_ vs n k).1.nilA)):=by
    split at hu
    .rename_i g hg;obtain⟨w,a2,a3⟩:=al_ (q (g0,k) (by simp)) (hn (g0,k) (by simp)) hu d.left;exact⟨a2,a3,.inl ⟨g,hg,w⟩⟩
    .rename_i hg;split at hu
     .rename_i a i y;cases hu;refine⟨rfl,rfl,.inr ⟨hg,.inl ⟨a,i,y,?_⟩⟩⟩;simp only[u_,d.left.head];rfl
     .rename_i a i y J;cases hu;refine⟨rfl,rfl,.inr ⟨hg,.inr ⟨a,i,y,J,?_⟩⟩⟩;simp only[u_,d.left.head];rfl
     .cases hu
    .cases hu
   obtain⟨a2,a3,w⟩:=key;have B:=Ox (n:=n+u.length) (λp j=>q p (by simp[j])) (λp j=>hn p (by simp[j])) hd.2 H d.right;simp only[iy,a2];refine⟨λg' x c=>?_,λg' z=>?_⟩
   .simp only[List.lookup]at c;split at c
    .rename_i b;have b:g'=g0:=by simpa using b
     subst b;cases c;exact⟨by simp,λg hg=>⟨(g',k),by simp,by rw[a3]at hg;exact hg⟩,w⟩
    .obtain ⟨K,M,N⟩:=B.1 g' x c;exact⟨by simp[K],λg hg=>let ⟨p,j,hg⟩:=M g hg;⟨p,by simp[j],hg⟩,N⟩
   .simp only[List.lookup];by_cases b:g'=g0
    .subst b;simp
    .have:(g'==g0)=zv:=by simpa using b
     rw[this];exact B.2 g' (by simpa[b]using z)
  .cases h
theorem AY{f:Nat->Option Nat}{g1 g2 g:Nat}:∀{L:List Nat},L.Nodup->(L.filterMap f).Nodup->g1∈L->g2∈L->f g1=zw g->f g2=zw g->g1=g2
 | [],_,_,h,_,_,_=>by cases h
 |y::L,d,b,h,w,j,q=>by
  simp only[K5]at d;simp only[List.filterMap_cons]at b;have c :∀{z},z∈L->f z=zw g->g∈L.filterMap f:=λB H=>qd.2 ⟨_,B,H⟩;rcases XN.1 h with e1|e1<;>rcases XN.1 w with e2|e2
  .rw [e1,e2]
  .subst e1;rw[j]at b;simp only[K5]at b;exact absurd (c e2 q) b.1
  .subst e2;rw[q]at b;simp only[K5]at b;exact absurd (c e1 j) b.1
  .refine AY d.2 ?_ e1 e2 j q;split at b
   .exact b
   .exact (K5.1 b).2
theorem AZ{j:Shape}{m:Ren}{st:St}{vs:List P}(h:coerce j m st=zw vs):uG Cle (Kw j m) st (mk j vs):=by
 unfold coerce at h;split at h
 .rename_i T;split at h
  .rename_i u v hu hv;cases h;simp only[X1,Shape.ok,Zs,Vc,Wa]at T;obtain⟨⟨⟨hnd,J⟩,K⟩,jf⟩:=T;have B:=jP hnd;have U:At (u++v) 0 (u++v):=λk y hk=>by rw[Vi];exact hk
   have L :∀g∈j.nms,Kw j m g=(m.lookup g).join:=λg hg=>by simp[Kw,hg]
   have E8:=λnil (c :∀p∈j.bG,∀g∈p.2.names,m.lookup g=zw zz->nil g)=>Ox (vs:=u++v) (F:=Kw j m) (nil:=nil) (n:=u.length) (λp w g hg=>L g (K p w g hg)) c B hv (by have:=U.right;rwa [Vi]at this)
   have rV:=λnil (c :∀p∈j.slots,∀g∈p.2.names,m.lookup g=zw zz->nil g)=>Ky (vs:=u++v) (F:=Kw j m) (nil:=nil) (n:=0) (λp w g hg=>L g (J p w g hg)) c hu U.left;have H:(dQ (u++v) 0 j.slots).2=u.length:=by have:=(rV (λ_=>True) (λ_ _ _ _ _=>trivial)).2;omega
   have c :∀g∈j.nms,m.lookup g=zw zz->((mk j (u++v)).o g).nilA:=by
    intro g hg q;have z:=E8 (λ_=>True) (λ_ _ _ _ _=>trivial);obtain⟨x,d⟩:=z.2 g hg;rcases (z.1 g x d).2.2 with⟨g2,X,_⟩|⟨_,e⟩
    .rw [q]at X;cases X
    .show O.nilA (match (iy (u++v) (dQ (u++v) 0 j.slots).2 j.bG).1.lookup g with|some x=>x|none=>.none);rw[H,d];exact e
   have z:=E8 (λg=>((mk j (u++v)).o g).nilA) (λp w g hg q=>c g (K p w g hg) q);have hS:=rV (λg=>((mk j (u++v)).o g).nilA) (λp w g hg q=>c g (J p w g hg) q);have M :∀g x,(mk j (u++v)).o g=x->x≠.none->(iy (u++v) u.length j.bG).1.lookup g=zw x:=by
    intro g x d b;have d:(match (iy (u++v) (dQ (u++v) 0 j.slots).2 j.bG).1.lookup g with|some x=>x|none=>.none)=x:=d;rw[H]at d;cases hz:(iy (u++v) u.length j.bG).1.lookup g with
    |none=>rw[hz]at d;exact absurd d.symm b
    |some y=>rw[hz]at d;rw[<-d]
   refine⟨λt=>?_,λg' g q=>?_,λg' q=>?_,λg1 g2 g h1 X m1 m2=>?_,λt g hg=>?_,λg0 g hg=>?_,λg hg=>?_⟩
   .show Sw _ _ _ (st.s t) (match (dQ (u++v) 0 j.slots).1.lookup t with|some x=>x|none=>.no);cases d:(dQ (u++v) 0 j.slots).1.lookup t with
    |none=>exact .no _
    |some x=>exact(hS.1 t x d).1
   .by_cases b:(mk j (u++v)).o g'=.none
    .rw [b];exact .none _
    .have d:=M g' _ rfl b;obtain⟨Y,b1,Z⟩:=z.1 g' _ d;rw[L g' Y]at q;rcases Z with⟨g3,N,h4⟩|⟨N,_⟩
     .rw [N]at q;cases q;exact h4
     .rw [N]at q;cases q
   .by_cases b:(mk j (u++v)).o g'=.none
    .exact .inl b
    .have d:=M g' _ rfl b;obtain⟨Y,b1,Z⟩:=z.1 g' _ d;rw[L g' Y]at q;rcases Z with⟨g3,N,h4⟩|⟨N,e⟩
     .rw [N]at q;cases q
     .exact .inr e
   .have n1:g1∈j.nms:=by have:=z.1 g1 _ (M g1 _ rfl (by intro e;rw[e]at h1;cases h1));exact this.1
    have n2:g2∈j.nms:=by have:=z.1 g2 _ (M g2 _ rfl (by intro e;rw[e]at X;cases X));exact this.1
    rw[L g1 n1]at m1;rw[L g2 n2]at m2;exact AY B (jP jf) n1 n2 m1 m2
   .have hg:g∈(match (dQ (u++v) 0 j.slots).1.lookup t with|some x=>x|none=>S.no).names:=hg;cases d:(dQ (u++v) 0 j.slots).1.lookup t with
    |none=>rw[d]at hg;simp[S.names]at hg
    |some x=>rw[d]at hg;obtain⟨p,w,hg⟩:=(hS.1 t x d).2 g hg;simpa[mk]using J p w g hg
   .by_cases b:(mk j (u++v)).o g0=.none
    .rw [b]at hg;simp[O.names]at hg
    .obtain ⟨Y,b1,Z⟩:=z.1 g0 _ (M g0 _ rfl b);obtain⟨p,w,hg⟩:=b1 g hg;simpa[mk]using K p w g hg
   .have:=(z.1 g _ (M g _ rfl hg)).1;simpa[mk,Shape.nms]using this
  .cases h
 .cases h
end Go.Fw

namespace Go.Fw
variable [fH]
structure A_ where
 bC:Nat
 pin:Shape
 aW:Shape
 cO:Nat
 bH:List Nat
 aY:List Nat
structure Spec where
 sig:A_
 R:List P->List P->Prop
abbrev Tab:=FuncId->Option Spec
def yH(x y:Bool×Bool):Bool×Bool:=(x.1||y.1,x.2||y.2)
def Qx(xs ys:List Nat):Bool:=xs.all λx=>!ys.contains x
def WS.flags(a i:Bool):WS->Bool
 |.p b c=>(a==b)&&(i==c)
 |.own _=>zj
 |.box _ off=>off==0
 |.dJ=>zv
 |.fn _ _=>zj
 |.oD _=>zv
 |.no=>zv
 |.vw _=>zv
 |.ep _ _=>zv
def SS.flags(a i:Bool):SS->Bool
 |.one x=>x.flags a i
 |.agg xs=>xs.all (WS.flags a i)
def WS.dP(aY:List Nat):WS->Bool
 |.p _ _=>zj
 |.own g=>aY.contains g
 |.box g _=>aY.contains g
 |.dJ=>zj
 |.fn _ gs=>gs.all λg=>aY.contains g
 |_=>zv
def SS.dP(aY:List Nat):SS->Bool
 |.one x=>x.dP aY
 |.agg xs=>xs.all (WS.dP aY)
def WS.isA:WS->Bool
 |.p a _=>a
 |_=>zv
def SS.isA:SS->Bool
 |.one x=>x.isA
 |.agg xs=>xs.any WS.isA
def OS.isA:OS->Bool
 |.box b=>b.any WS.isA
 |.arr _ a _ _=>a
 |.it=>zv
 |.aP a _ _ _=>a
def A_.nG(s:A_):Bool:=s.aW.slots.any (·.2.isA)||s.aW.bG.any (·.2.isA)
def OS.kin:Option OS->Option OS->Bool
 |some (.box _),zw (.box _)=>zj
 |some (.arr _ _ _ c),zw (.arr _ _ _ b)=>Nat.beq c b
 |some (.aP _ _ c _),zw (.aP _ _ b _)=>Nat.beq c b
 |_,_=>zv
def OS.adY:Option OS->Bool
 |some (.box _)=>zj
 |_=>zv
def A_.ok(s:A_):Bool:=
 s.pin.ok&&s.aW.ok&&s.pin.slots.all (λp=>p.2.flags zj zv&&decide (p.1<s.bC)) &&
 s.pin.bG.all (λp=>match p.2 with
  |.box b=>b.all (λk=>k.flags zv zj)&&s.bH.contains p.1
  |.arr c a i _=>!c&&!a&&i
  |.aP a i _ _=>!a&&i
  |.it=>zv) &&
 s.aW.slots.all (λp=>p.2.dP (s.aY++s.bH)) &&
 s.aW.bG.all (λp=>match p.2 with
  |.box b=>b.all (WS.dP (s.aY++s.bH))&&((s.bH.contains p.1&&s.pin.nms.contains p.1)||s.aY.contains p.1)
  |.arr c _ _ _=>!c&&(s.aY.contains p.1||s.bH.contains p.1)
  |.aP _ _ _ _=>s.aY.contains p.1||s.bH.contains p.1
  |.it=>zv) &&
 Qx s.bH s.aY&&nodupB s.aY&&s.bH.all (λg=>OS.kin (s.pin.bG.lookup g) (s.aW.bG.lookup g))
def A_.ama(s:A_):Bool:=s.bH.all λg=>OS.adY (s.pin.bG.lookup g)&&OS.adY (s.aW.bG.lookup g)
structure Oy where
 ins:List P
 A:Bool×Bool
 I:Bool×Bool
 wK:List Nat
 ren:List (Nat×Nat)
def oK:List Nat->List W->Option (List (Nat×Nat))
 | [],[]=>zw []
 |g'::gs,.box g 0::b=>match oK gs b with
  |some r=>zw ((g',g)::r)
  |none=>zz
 |_,_=>zz
def gI(o:Nat->O):WS->W->Option (List P×(Bool×Bool)×List Nat×List (Nat×Nat))
 |.p _ _,x=>match x.toP o with
  |some (y,a,i,gs)=>zw ([y],(a,i),gs,[])
  |none=>zz
 |.own g',.own g=>zw ([],(zv,zv),[],[(g',g)])
 |.box g' 0,.box g 0=>zw ([],(zv,zv),[],[(g',g)])
 |.fn f gs,.clo c b=>if f=c then match oK gs b with
  |some r=>zw ([],(zv,zv),[],r)
  |none=>zz
  else zz
 |_,_=>zz
def ku(o:Nat->O):List WS->List W->Option (List P×(Bool×Bool)×List Nat×List (Nat×Nat))
 | [],[]=>zw ([],(zv,zv),[],[])
 |k::b,x::xs=>match gI o k x,ku o b xs with
  |some (u,c,g,r),zw (d,h,g',j)=>zw (u++d,yH c h,g++g',r++j)
  |_,_=>zz
 |_,_=>zz
def pz(o:Nat->O):SS->S->Option (List P×(Bool×Bool)×List Nat×List (Nat×Nat))
 |.one k,.v (.one x)=>gI o k x
 |.agg b,.v (.agg xs)=>ku o b xs
 |_,_=>zz
def fM(o:Nat->O)(args:List S):List (Nat×SS)->Option (List P×(Bool×Bool)×List Nat×List (Nat×Nat))
 | []=>zw ([],(zv,zv),[],[])
 |(t,k)::rest=>match pz o k (args.getD t .no),fM o args rest with
  |some (u,c,g,r),zw (b,d,g',h)=>zw (u++b,yH c d,g++g',r++h)
  |_,_=>zz
def WO:WS->W->Option (List P×(Bool×Bool)×List (Nat×Nat))
 |.p _ _,.p a i x=>zw ([x],(a,i),[])
 |.p _ _,.dJ=>zw ([.sl 0 []],(zv,zv),[])
 |.own g',.own g=>zw ([],(zv,zv),[(g',g)])
 |.box g' 0,.box g 0=>zw ([],(zv,zv),[(g',g)])
 |.fn f gs,.clo c b=>if f=c then match oK gs b with
  |some r=>zw ([],(zv,zv),r)
  |none=>zz
  else zz
 |_,_=>zz
def Qy:List WS->List W->Option (List P×(Bool×Bool)×List (Nat×Nat))
 | [],[]=>zw ([],(zv,zv),[])
 |k::b,x::xs=>match WO k x,Qy b xs with
  |some (u,c,r),zw (d,g,h)=>zw (u++d,yH c g,r++h)
  |_,_=>zz
 |_,_=>zz
def jX(o:Nat->O):List (Nat×Nat)->List (Nat×OS)->Option (List P×(Bool×Bool)×List (Nat×Nat))
 |ren,[]=>zw ([],(zv,zv),ren)
 |ren,(g',k)::rest=>match ren.lookup g' with
  |some g=>match k,o g with
   |.box q,.box w=>match Qy q w with
    |some (u,c,r)=>match jX o (ren++r) rest with
     |some (d,h,j)=>zw (u++d,yH c h,j)
     |none=>zz
    |none=>zz
   |.arr _ _ _ m,.arr zv a i b l=>if m=b then match jX o ren rest with
    |some (d,h,j)=>zw (P.gQ m l::d,yH (a,i) h,j)
    |none=>zz
    else zz
   |.aP _ _ m y,.aP a i b z l Option.none=>if m=b/\y=z then match jX o ren rest with
    |some (d,h,j)=>zw (P.gQ m l::d,yH (a,i) h,j)
    |none=>zz
    else zz
   |_,_=>zz
  |none=>zz
def kP:List (Nat×Nat)->List (Nat×Nat)
 | []=>[]
 |p::r=>match r.any λq=>Nat.beq q.1 p.1&&Nat.beq q.2 p.2 with
  |true=>kP r
  |false=>p::kP r
def jh(s:A_)(o:Nat->O)(args:List S):Option Oy:=
 match fM o args s.pin.slots with
 |some (u,A,gs,r)=>match jX o r s.pin.bG with
  |some (b,I,c)=>zw { ins:=u++b,A,I,wK:=gs,ren:=kP c }
  |none=>zz
 |none=>zz
def Oy.fine(c:Oy)(s:A_):Bool:=nodupB (c.ren.map (·.2))&&nodupB (c.ren.map (·.1))&&Qx (c.ren.map (·.2)) c.wK&&(c.ren.map (·.1)).all (λg=>s.pin.nms.contains g)
def rW(A I:Bool×Bool)(a i:Bool):Bool×Bool:=((a&&A.1)||(i&&I.1),(a&&A.2)||(i&&I.2))
def lF(f:Nat->Nat):List W->List W
 | []=>[]
 |.box g off::r=>.box (f g) off::lF f r
 |_::r=>.no::lF f r
def WQ(A I:Bool×Bool)(f:Nat->Nat):W->W
 |.p a i x=>.p (rW A I a i).1 (rW A I a i).2 x
 |.dJ=>.dJ
 |.own g=>.own (f g)
 |.box g off=>.box (f g) off
 |.clo fn b=>.clo fn (lF f b)
 |_=>.no
def reV(A I:Bool×Bool)(f:Nat->Nat):V->V
 |.one x=>.one (WQ A I f x)
 |.agg xs=>.agg (xs.map (WQ A I f))
def YP(A I:Bool×Bool)(f:Nat->Nat):S->V
 |.v x=>reV A I f x
 |_=>.one .no
def yI(A I:Bool×Bool)(f:Nat->Nat):O->O
 |.none=>.none
 |.box c=>.box (c.map (WQ A I f))
 |.arr d a i b l=>.arr d (rW A I a i).1 (rW A I a i).2 b l
 |.it s n=>.it s n
 |.aP a i b g l _=>.aP (rW A I a i).1 (rW A I a i).2 b g l Option.none
def newName(d:Nat)(aY:List Nat)(g:Nat):Nat:=d+1000*aY.idxOf g
def callName(d:Nat)(s:A_)(ren:List (Nat×Nat))(g:Nat):Nat:=match s.bH.contains g with
 |true=>match ren.lookup g with
  |some g'=>g'
  |none=>g
 |false=>newName d s.aY g
structure Eff where
 x:S
 aK:List (Nat×O)
 new:List Nat
def abw(vs:List V):S:=match vs with
 | [x]=>.v x
 |xs=>.jq xs
def lG(s:A_)(d:Nat)(o:Nat->O)(c:Oy)(dP:List P):Eff:=
 let x:=mk s.aW dP
 let f:=callName d s c.ren
 { x:=abw ((List.range s.cO).map λk=>YP c.A c.I f (x.s k)),aK:=(if s.nG then c.wK.map (bf o)else[])++c.ren.map (λp=>(p.2,if s.bH.contains p.1 then yI c.A c.I f (x.o p.1)else .none))++s.aY.map (λg=>(f g,yI c.A c.I f (x.o g))),new:=s.aY.map f }
def DK(same:List Nat)(e:Eff):Eff:={ e with aK:=e.aK.filter λp=>!same.contains p.1 }
theorem uI{α:Type}{same:List Nat}{g:Nat}(hg:g∉same):∀(l:List (Nat×α)),(l.filter λp=>!same.contains p.1).lookup g=l.lookup g
 | []=>rfl
 |(k,x)::l=>by
  simp only[za];cases b:same.contains k with
  |true=>
   have:(g==k)=zv:=by
    cases c:g==k with
    |false=>rfl
    |true=>
     have:g=k:=by simpa using c
     subst this;simp only[Vc,Wa]at b;exact absurd b hg
   simp only[Bool.not_true,Wb,if_false,List.lookup,this];exact uI hg l
  |false=>simp only[vv,if_true,List.lookup];rw[uI hg l]
theorem nT{α:Type}{same:List Nat}{g:Nat}(hg:g∈same):∀(l:List (Nat×α)),(l.filter λp=>!same.contains p.1).lookup g=zz
 | []=>rfl
 |(k,x)::l=>by
  simp only[za];cases b:same.contains k with
  |true=>simp only[Bool.not_true,Wb,if_false];exact nT hg l
  |false=>
   have:(g==k)=zv:=by
    cases c:g==k with
    |false=>rfl
    |true=>
     have:g=k:=by simpa using c
     subst this;simp only[Vc,decide_eq_false_iff_not]at b;exact absurd hg b
   simp only[vv,if_true,List.lookup,this];exact nT hg l
theorem abx{st:St}{same:List Nat}{e:Eff}(h :∀g∈same,e.aK.lookup g=zw (st.o g)):st.aK (DK same e).aK (DK same e).new=st.aK e.aK e.new:=by
 unfold St.aK DK;congr 1;funext g;by_cases hg:g∈same
 .simp only[nT hg,h g hg]
 .simp only[uI hg]
inductive NR(x:P)(K:P->Prop):Prop where
 |mk (h :∀z,z=x->K z)
theorem NR.iff{x:P}{K:P->Prop}:NR x K↔K x:=⟨λ⟨h⟩=>h x rfl,λh=>⟨λz e=>e▸h⟩⟩
def Ht:Op->Bool
 |.pick ..|.binOp ..|.unOp ..|.convert ..|.index ..|.call ..|.makeSlice ..|.store ..|.buildSlice ..|.slice ..=>zj
 |_=>zv
def guardOf(ops:Array Oper)(st:St)(j:Nat)(want:Bool):Option Bool:=
 match (ops[j]?).bind (·.dst)with
 |some t=>match st.s t with
  |.v (.one (.p _ _ (.bool b)))=>zw (bif want then b else !b)
  |.jq []=>zw zv
  |_=>zz
 |none=>zz
def Eff.skip:Eff:={ x:=.jq [],aK:=[],new:=[] }
def ao9:S->Option Nat
 |.v (.one (.clo g _))=>zw g
 |_=>zz
def YQ:List S->Option Nat
 | []=>zz
 |x::l=>match ao9 x with
  |some g=>zw g
  |none=>YQ l
def Ue(fn:Nat)(l:List S):Nat:=match YQ l with
 |some g=>fn+1000000*(g+1)
 |none=>fn
def pick(T:Tab)(fn:Nat)(l:List S):Option Spec:=match Nat.blt fn 1000000 with
 |true=>match T (Ue fn l)with
  |some sp=>zw sp
  |none=>T fn
 |false=>zz
theorem ahZ{T:Tab}{fn:Nat}{l:List S}{sp:Spec}{p:Nat->Spec->Prop}(c :∀f sp,T f=zw sp->p (f % 1000000) sp)(h:pick T fn l=zw sp):p fn sp:=by
 unfold pick at h;split at h
 .rename_i d;have b:fn<1000000:=Wt d;split at h
  .rename_i g j;cases h;have:=c _ _ j;have e:Ue fn l % 1000000=fn:=by unfold Ue;split<;>omega
   rwa [e]at this
  .have:=c _ _ h
   rwa [Kk b]at this
 .cases h
def lg(T:Tab)(tt:TT)(d:Nat)(st:St)(o:Oper)(K:Eff->Prop):Prop:=
 match o.op with
 |.call { callee:=.value f,args,.. }=>match st.dG f with
  |.v (.one (.clo fn b))=>match pick T fn (args.toList.map st.dG)with
   |some sp=>match jh sp.sig st.o ((args.toList.map st.dG)++b.map λx=>S.v (.one x))with
    |some c=>(c.fine sp.sig&&decide (args.size+b.length=sp.sig.bC))=zj/\∃(dP:List P) (same:List Nat),sp.R c.ins dP/\(∀g∈same,g∈c.ren.map (·.2)/\(lG sp.sig d st.o c dP).aK.lookup g=zw (st.o g))/\K (DK same (lG sp.sig d st.o c dP))
    |none=>False
   |none=>False
  |_=>False
 |op=>(∃h r,dX tt h d st.o st.dG op o.type=zw r/\r.pre/\NR r.val λz=>K { x:=r.dst z,aK:=r.aK z,new:=r.new })\/match kernel tt d st.o st.dG op o.type with
  |some r=>r.pre/\bif Ht op then NR r.val λz=>K { x:=r.dst z,aK:=r.aK z,new:=r.new } else K { x:=r.dst r.val,aK:=r.aK r.val,new:=r.new }
  |none=>False
def yT:O->List Nat
 |.box b=>b.flatMap W.names
 |_=>[]
def qx(o:Nat->O):Nat->List Nat->List Nat
 |0,gs=>gs
 |n+1,gs=>gs++qx o n (gs.flatMap λg=>yT (o g))
def argNames(st:St)(o:Oper):List Nat:=match o.op with
 |.call { callee:=.value _,args,.. }=>args.toList.flatMap λx=>(st.dG x).names
 |.slice _ x _ _ _=>(st.dG x).names
 |_=>[]
def uJ(st:St)(o:Oper):List Nat:=qx st.o 2 (argNames st o)
def jG(st:St)(o:Oper):List Nat:=(uJ st o).filter λg=>match (st.o g).hn with
 | []=>zv
 |d::_=>!(argNames st o).contains d
def Ba(hs:List Nat)(st:St):List (Nat×O):=hs.flatMap λg=>(g,(Fw.shuts hs st).o g)::(st.o g).hn.map λd=>(d,(Fw.shuts hs st).o d)
def DL(hs:List Nat)(st:St)(e:Eff):Eff:=match hs with
 | []=>e
 |g::gs=>{ e with aK:=e.aK++Ba (g::gs) st }
def jH(T:Tab)(tt:TT)(d:Nat)(st:St)(o:Oper)(K:Eff->Prop):Prop:=lg T tt d (Fw.shuts (jG st o) st) o λe=>K (DL (jG st o) st e)
theorem tC{T:Tab}{tt:TT}{d:Nat}{st:St}{o:Oper}{K:Eff->Prop}(h:jG st o=[]):jH T tt d st o K↔lg T tt d st o K:=by unfold jH;rw[h];rfl
theorem Xc{st:St}{o:Oper}(h:argNames st o=[]):jG st o=[]:=by unfold jG uJ;rw[h];rfl
def St.eff(st:St)(dst:Option Tmp)(e:Eff):St:=(st.aK e.aK e.new).put dst e.x
def stepW(T:Tab)(tt:TT)(N:Nat)(ops:Array Oper)(o:Oper)(st:St)(K:Eff->Prop):Prop:=
 (match o.dst with
  |some d=>decide (d<N)
  |none=>zj)=zj/\
 match o.guard with
 |none=>jH T tt (o.dst.getD 0) st o λe=>e.new.all (λg=>!st.used g)=zj/\K e
 |some (j,want)=>match guardOf ops st j want with
  |some b=>bif b then jH T tt (o.dst.getD 0) st o λe=>e.new.all (λg=>!st.used g)=zj/\K e else K Eff.skip
  |none=>False
end Go.Fw

namespace Go.Fw
variable [fH]
theorem nH{α:Type}:∀{l:List (Nat×α)},(l.map (·.1)).Nodup->∀{k:Nat} {v:α},(k,v)∈l->l.lookup k=zw v
 | [],_,k,v,h=>by cases h
 |(c,v0)::l,hn,k,v,h=>by
  simp only[Qf,K5]at hn;simp only[List.lookup];rcases XN.1 h with e|e
  .cases e;simp
  .have b:(k==c)=zv:=by have:k∈l.map (·.1):=XS.2 ⟨(k,v),e,rfl⟩;have:k≠c:=λe=>hn.1 (by rw[<-e];exact this);simpa using this
   rw[b];exact nH hn.2 e
theorem jY{α:Type}:∀{l:List (Nat×α)} {k:Nat} {v:α},l.lookup k=zw v->(k,v)∈l
 | [],k,v,h=>by simp at h
 |(c,v0)::l,k,v,h=>by
  simp only[List.lookup]at h;split at h
  .rename_i b;have b:k=c:=by simpa using b
   simp only[Q0]at h;subst b h;simp
  .exact V1 _ (jY h)
def cin(c d:Bool×Bool):Prop:=(c.1=zj->d.1=zj)/\(c.2=zj->d.2=zj)
theorem Kz(c:Bool×Bool):cin c c:=⟨id,id⟩
theorem vF{c b d:Bool×Bool}(h:cin (yH c b) d):cin c d:=⟨λe=>h.1 (by simp[yH,e]),λe=>h.2 (by simp[yH,e])⟩
theorem qZ{c b d:Bool×Bool}(h:cin (yH c b) d):cin b d:=⟨λe=>h.1 (by simp[yH,e]),λe=>h.2 (by simp[yH,e])⟩
def Cio(I:Bool×Bool)(a i a' i':Bool):Prop:=a'=zv/\i'=zj/\cin (a,i) I
section
variable {o:Nat->O} {ins:List P} {m:Nat->Option Nat} {nil:Nat->Prop} {I:Bool×Bool}
theorem YR{a i:Bool}{b c:Bool}(h:(WS.p b c).flags a i=zj):b=a/\c=i:=by simp only[WS.flags,X1,beq_iff_eq]at h;exact⟨h.1.symm,h.2.symm⟩
theorem BG{C:Bool->Bool->Bool->Bool->Prop}:∀{gs:List Nat} {caps:List W} {r:List (Nat×Nat)},oK gs caps=zw r->(∀p∈r,m p.1=zw p.2)->caps.length=(iw gs).length/\∀(j:Nat) x y,caps[j]?=zw x->(iw gs)[j]?=zw y->Ww C m nil x y
 | [],[],r,_,_=>⟨rfl,λj x y b=>by simp at b⟩
 | [],_::_,r,h,_=>by simp[oK]at h
 |_::_,[],r,h,_=>by simp[oK]at h
 |g'::gs,c::K,r,h,z=>by
  cases c with
  |box g off=>
   cases off with
   |succ off=>simp[oK]at h
   |zero=>
    simp only[oK]at h;split at h
    .rename_i L q;cases h;obtain⟨B,H⟩:=BG (C:=C) q (λp J=>z p (by simp[J]));refine⟨by simp[iw,B],λj x y b d=>?_⟩;cases j with
     |zero=>simp[iw]at b d;subst b d;exact .box (z (g',g) (by simp))
     |succ j=>simp[iw]at b d;exact H j x y b d
    .cases h
  |_=>simp[oK]at h
theorem amc{k:WS}{x:W}{us:List P}{c:Bool×Bool}{r:List (Nat×Nat)}{n:Nat}(h:WO k x=zw (us,c,r))(B:k.flags zv zj=zj)(H:cin c I)(j :∀p∈r,m p.1=zw p.2)(z:At ins n us):
  Ww (Cio I) m nil x (qY ins n k).1/\(qY ins n k).2=n+us.length:=by
 cases k with
 |p M N=>
  obtain⟨rfl,rfl⟩:=YR B;cases x with
  |p a i y=>simp only[WO,Q0,QQ]at h;obtain⟨rfl,rfl,rfl⟩:=h;exact⟨by simp only[qY,z.head];exact .p y ⟨rfl,rfl,H⟩,rfl⟩
  |dJ=>simp only[WO,Q0,QQ]at h;obtain⟨rfl,rfl,rfl⟩:=h;exact⟨by simp only[qY,z.head];exact .al8 _ _ _,rfl⟩
  |_=>simp[WO]at h
 |own g'=>
  cases x with
  |own g=>simp only[WO,Q0,QQ]at h;obtain⟨rfl,rfl,rfl⟩:=h;exact⟨.own (j (g',g) (by simp)),rfl⟩
  |_=>simp[WO]at h
 |box g' b=>
  cases x with
  |box g off=>
   cases b with
   |succ n=>simp[WO]at h
   |zero=>
    cases off with
    |succ n=>simp[WO]at h
    |zero=>simp only[WO,Q0,QQ]at h;obtain⟨rfl,rfl,rfl⟩:=h;exact⟨.box (j (g',g) (by simp)),rfl⟩
  |_=>simp[WO]at h
 |fn f gs=>
  cases x with
  |clo T d=>
   simp only[WO]at h;split at h
   .rename_i J;subst J;split at h
    .rename_i U q;cases h;obtain⟨K,L⟩:=BG (C:=Cio I) (nil:=nil) q j;exact⟨.clo f d (iw gs) K L,rfl⟩
    .cases h
   .cases h
  |_=>simp[WO]at h
 |_=>simp[WO]at h
theorem YS:∀{b:List WS} {xs:List W} {us:List P} {c:Bool×Bool} {r:List (Nat×Nat)} {n:Nat},Qy b xs=zw (us,c,r)->(∀k∈b,k.flags zv zj=zj)->cin c I->(∀p∈r,m p.1=zw p.2)->At ins n us->
  xs.length=(lV ins n b).1.length/\(∀(j:Nat) x y,xs[j]?=zw x->(lV ins n b).1[j]?=zw y->Ww (Cio I) m nil x y)/\(lV ins n b).2=n+us.length
 | [],xs,us,c,r,n,h,q,z,B,H=>by
  cases xs with
  |nil=>simp[Qy]at h;obtain⟨rfl,_⟩:=h;exact⟨rfl,λj x y d=>by simp at d,rfl⟩
  |cons x xs=>simp[Qy]at h
 |k::b,xs,us,c,r,n,h,q,z,B,H=>by
  cases xs with
  |nil=>simp[Qy]at h
  |cons x xs=>
   simp only[Qy]at h;split at h
   .rename_i u Y Z u' c2 r2 M N;cases h;obtain⟨T,a2⟩:=amc (nil:=nil) M (q k (by simp)) (vF z) (λp J=>B p (by simp[J])) H.left;have K:=YS (n:=n+u.length) N (λk L=>q k (by simp[L])) (qZ z) (λp J=>B p (by simp[J])) H.right;simp only[lV,a2];refine⟨by simp[K.1],λj U X d g=>?_,by rw[K.2.2];simp;omega⟩;cases j with
    |zero=>simp at d g;subst d g;exact T
    |succ j=>simp at d g;exact K.2.1 j U X d g
   .cases h
theorem vG:∀{L:List (Nat×OS)} {ren d:List (Nat×Nat)} {us:List P} {c:Bool×Bool} {n:Nat},jX o ren L=zw (us,c,d)->
  (∀p∈L,match p.2 with|.box ws=>∀k∈ws,k.flags zv zj=zj|.arr fz a i _=>fz=zv/\a=zv/\i=zj|.aP a i _ _=>a=zv/\i=zj|.it=>False)->cin c I->(∀p∈d,m p.1=zw p.2)->At ins n us->
  (∃r,d=ren++r)/\∀g' x,(iy ins n L).1.lookup g'=zw x->∃g,m g'=zw g/\Ow (Cio I) m nil (o g) x/\(g',g)∈d/\(o g).bW=zj/\((∃ws,x=.box ws)\/(∃l sz,x=.arr zv zv zj sz l)\/∃l sz au,x=.aP zv zj sz au l Option.none)
 | [],ren,d,us,c,n,h,q,T,N,U=>by simp only[jX,Q0,QQ]at h;obtain⟨rfl,rfl,rfl⟩:=h;exact⟨⟨[],by simp⟩,λg' x j=>by simp[iy]at j⟩
 |(g0,k)::L,ren,d,us,c,n,h,q,T,N,U=>by
  simp only[jX]at h;split at h
  .rename_i g hg;split at h
   .rename_i ks ws z;split at h
    .rename_i u c1 r1 h1;split at h
     .rename_i u' c2 r2 h2;simp only[Q0,QQ]at h;obtain⟨rfl,rfl,rfl⟩:=h;have J:=q (g0,.box ks) (by simp);have X:=λhm'=>vG (n:=n+u.length) h2 (λp Y=>q p (by simp[Y])) (qZ T) hm' U.right;obtain⟨⟨r,M⟩,X⟩:=X N;obtain⟨b0,b1,b2⟩:=YS (nil:=nil) h1 J (vF T) (λp Y=>N p (by rw[M];simp[Y])) U.left;simp only[iy,u_,b2];refine⟨⟨r1++r,by rw[M,W4]⟩,λg' x j=>?_⟩;simp only[List.lookup]at j;split at j
      .rename_i K;have K:g'=g0:=by simpa using K
       subst K;simp only[Q0]at j;subst j;have b:(g',g)∈r2:=by rw[M,W4];exact W6 _ (jY hg)
       exact⟨g,N _ b,by rw[z];exact .box _ _ b0 b1,b,by rw[z];rfl,.inl ⟨_,rfl⟩⟩
      .exact X g' x j
     .cases h
    .cases h
   .rename_i fz0 a0 i0 sz a i sz' l z;split at h
    .rename_i Z;split at h
     .rename_i u' c2 r2 h2;simp only[Q0,QQ]at h;obtain⟨rfl,rfl,rfl⟩:=h;subst Z;have J:=q (g0,.arr fz0 a0 i0 sz) (by simp);obtain⟨rfl,rfl,rfl⟩:=J;have B:At ins n [P.gQ sz l]:=λk y q=>U k y (by cases k with|zero=>simpa using q|succ k=>simp at q);have H:At ins (n+1) u':=λk y q=>by have:=U (k+1) y (by simpa using q);rw[<-this];congr 1;omega
      obtain⟨⟨r,M⟩,X⟩:=vG (n:=n+1) h2 (λp Y=>q p (by simp[Y])) (qZ T) N H;simp only[iy,u_,B.head,P.o9];refine⟨⟨r,M⟩,λg' x j=>?_⟩;simp only[List.lookup]at j;split at j
      .rename_i K;have K:g'=g0:=by simpa using K
       subst K;simp only[Q0]at j;subst j;have b:(g',g)∈r2:=by rw[M];exact W6 _ (jY hg)
       exact⟨g,N _ b,by rw[z];exact .arr zv sz l ⟨rfl,rfl,vF T⟩,b,by rw[z];rfl,.inr (.inl ⟨_,_,rfl⟩)⟩
      .exact X g' x j
     .cases h
    .cases h
   .rename_i a0 i0 sz au a i sz' iP l z;split at h
    .rename_i Z;obtain⟨rfl,rfl⟩:=Z;split at h
     .rename_i u' c2 r2 h2;simp only[Q0,QQ]at h;obtain⟨rfl,rfl,rfl⟩:=h;have J:=q (g0,.aP a0 i0 sz au) (by simp);obtain⟨rfl,rfl⟩:=J;have B:At ins n [P.gQ sz l]:=λk y q=>U k y (by cases k with|zero=>simpa using q|succ k=>simp at q);have H:At ins (n+1) u':=λk y q=>by have:=U (k+1) y (by simpa using q);rw[<-this];congr 1;omega
      obtain⟨⟨r,M⟩,X⟩:=vG (n:=n+1) h2 (λp Y=>q p (by simp[Y])) (qZ T) N H;simp only[iy,u_,B.head,P.o9];refine⟨⟨r,M⟩,λg' x j=>?_⟩;simp only[List.lookup]at j;split at j
      .rename_i K;have K:g'=g0:=by simpa using K
       subst K;simp only[Q0]at j;subst j;have b:(g',g)∈r2:=by rw[M];exact W6 _ (jY hg)
       exact⟨g,N _ b,by rw[z];exact .aP sz au l ⟨rfl,rfl,vF T⟩,b,by rw[z];rfl,.inr (.inr ⟨_,_,_,rfl⟩)⟩
      .exact X g' x j
     .cases h
    .cases h
   .cases h
  .cases h
end
section
variable {E E':Env} {st est:St} {gh nY:Nat->Gh} {w:World} {ins:List P} {A:Bool×Bool} {wK:List Nat} {m:Nat->Option Nat} {nil:Nat->Prop} {C:Bool->Bool->Bool->Bool->Prop}
theorem Uf(K :∀x v y a i gs,fV E st gh w x v->x.toP st.o=zw (y,a,i,gs)->cin (a,i) A->(∀g∈gs,g∈wK)->dB w (E'.ok est nY w zj zv) y v)(q:Cast C m nil E E' st est gh nY w)
  {k:WS} {x:W} {v:Value} {us:List P} {c:Bool×Bool} {gs:List Nat} {r:List (Nat×Nat)} {n:Nat} (h:gI st.o k x=zw (us,c,gs,r)) (L:k.flags zj zv=zj) (M:cin c A) (z :∀g∈gs,g∈wK)
  (B :∀p∈r,m p.1=zw p.2) (N:At ins n us) (j:fV E st gh w x v):fV E' est nY w (qY ins n k).1 v/\(qY ins n k).2=n+us.length:=by
 cases k with
 |p a' i'=>
  obtain⟨rfl,rfl⟩:=YR L;simp only[gI]at h;split at h
  .rename_i y a i T U;cases h;exact⟨by simp only[qY,N.head];exact .p _ _ _ _ (K _ _ _ _ _ _ j U M z),rfl⟩
  .cases h
 |own g'=>
  cases x with
  |own g=>simp only[gI,Q0,QQ]at h;obtain⟨rfl,rfl,rfl,rfl⟩:=h;exact⟨q.Bq (.own (B (g',g) (by simp))) j,rfl⟩
  |_=>simp[gI]at h
 |box g' off=>
  cases x with
  |box g b=>
   cases off with
   |succ off=>simp[gI]at h
   |zero=>
    cases b with
    |succ b=>simp[gI]at h
    |zero=>simp only[gI,Q0,QQ]at h;obtain⟨rfl,rfl,rfl,rfl⟩:=h;exact⟨q.Bq (.box (B (g',g) (by simp))) j,rfl⟩
  |_=>cases off<;>simp[gI]at h
 |fn f H=>
  cases x with
  |clo f' d=>
   simp only[gI]at h;split at h
   .rename_i X;subst X;split at h
    .rename_i r' J;cases h;obtain⟨Y,Z⟩:=BG (C:=C) (nil:=nil) J B;exact⟨q.Bq (.clo f d (iw H) Y Z) j,rfl⟩
    .cases h
   .cases h
  |_=>simp[gI]at h
 |_=>simp[gI]at h
theorem Oz(Y :∀x v y a i gs,fV E st gh w x v->x.toP st.o=zw (y,a,i,gs)->cin (a,i) A->(∀g∈gs,g∈wK)->dB w (E'.ok est nY w zj zv) y v)(Z:Cast C m nil E E' st est gh nY w):
  ∀{q:List WS} {xs:List W} {cs:List Value} {us:List P} {c:Bool×Bool} {gs:List Nat} {r:List (Nat×Nat)} {n:Nat},ku st.o q xs=zw (us,c,gs,r)->(∀k∈q,k.flags zj zv=zj)->cin c A->(∀g∈gs,g∈wK)->
   (∀p∈r,m p.1=zw p.2)->At ins n us->xs.length=cs.length->(∀(j:Nat) x v,xs[j]?=zw x->cs[j]?=zw v->fV E st gh w x v)->
   (lV ins n q).1.length=cs.length/\(∀(j:Nat) x v,(lV ins n q).1[j]?=zw x->cs[j]?=zw v->fV E' est nY w x v)/\(lV ins n q).2=n+us.length
 | [],xs,cs,us,c,gs,r,n,h,K,L,d,M,B,H,N=>by
  cases xs with
  |nil=>simp[ku]at h;obtain⟨rfl,_⟩:=h;exact⟨H,λj x v z=>by simp[lV]at z,rfl⟩
  |cons x xs=>simp[ku]at h
 |k::q,xs,cs,us,c,gs,r,n,h,K,L,d,M,B,H,N=>by
  cases xs with
  |nil=>simp[ku]at h
  |cons x xs=>
   cases cs with
   |nil=>simp at H
   |cons v cs=>
    simp only[ku]at h;split at h
    .rename_i u c1 g1 r1 u' c2 g2 r2 h1 h2;cases h;obtain⟨a1,a2⟩:=Uf Y Z h1 (K k (by simp)) (vF L) (λg hg=>d g (by simp[hg])) (λp T=>M p (by simp[T])) B.left (N 0 x v rfl rfl);have U:=Oz Y Z (n:=n+u.length) h2 (λk X=>K k (by simp[X])) (qZ L) (λg hg=>d g (by simp[hg])) (λp T=>M p (by simp[T])) B.right (by simpa using H)
      (λj a b B hb=>N (j+1) a b (by simpa using B) (by simpa using hb))
     simp only[lV,a2];refine⟨by simp[U.1],λj x' v' z J=>?_,by rw[U.2.2];simp;omega⟩;cases j with
     |zero=>simp at z J;subst z J;exact a1
     |succ j=>simp at z J;exact U.2.1 j x' v' z J
    .cases h
theorem adZ(B :∀x v y a i gs,fV E st gh w x v->x.toP st.o=zw (y,a,i,gs)->cin (a,i) A->(∀g∈gs,g∈wK)->dB w (E'.ok est nY w zj zv) y v)(H:Cast C m nil E E' st est gh nY w)
  {k:SS} {x:S} {v:Value} {us:List P} {c:Bool×Bool} {gs:List Nat} {r:List (Nat×Nat)} {n:Nat} (h:pz st.o k x=zw (us,c,gs,r)) (j:k.flags zj zv=zj) (J:cin c A) (b :∀g∈gs,g∈wK)
  (K :∀p∈r,m p.1=zw p.2) (L:At ins n us) (M:dR E st gh w x v):dR E' est nY w (mkS ins n k).1 v/\(mkS ins n k).2=n+us.length:=by
 cases k with
 |one k=>
  cases x with
  |v x=>
   cases x with
   |one x=>obtain⟨q,a2⟩:=Uf B H h j J b K L M.dS;exact⟨dR.Jg q,a2⟩
   |agg xs=>simp[pz]at h
  |_=>simp[pz]at h
 |agg X=>
  cases x with
  |v x=>
   cases x with
   |one x=>simp[pz]at h
   |agg xs=>obtain⟨N,T,U,d,z⟩:=M.Jf;simp only[SS.flags,Zs]at j;obtain⟨a0,q,a2⟩:=Oz B H h j J b K L U z;subst T;exact⟨.v _ _ (.agg _ N a0 d q),a2⟩
  |_=>simp[pz]at h
theorem DN(K :∀x v y a i gs,fV E st gh w x v->x.toP st.o=zw (y,a,i,gs)->cin (a,i) A->(∀g∈gs,g∈wK)->dB w (E'.ok est nY w zj zv) y v)(M:Cast C m nil E E' st est gh nY w){args:List S}{vals:Nat->Value}
  (N :∀t,dR E st gh w (args.getD t .no) (vals t)) :
  ∀{L:List (Nat×SS)} {us:List P} {c:Bool×Bool} {gs:List Nat} {r:List (Nat×Nat)} {n:Nat},fM st.o args L=zw (us,c,gs,r)->(∀p∈L,p.2.flags zj zv=zj)->cin c A->(∀g∈gs,g∈wK)->
   (∀p∈r,m p.1=zw p.2)->At ins n us->(∀t x,(dQ ins n L).1.lookup t=zw x->dR E' est nY w x (vals t))/\(dQ ins n L).2=n+us.length
 | [],us,c,gs,r,n,h,q,z,b,B,H=>by simp[fM]at h;obtain⟨rfl,_⟩:=h;exact⟨λt x d=>by simp[dQ]at d,rfl⟩
 |(t0,k)::L,us,c,gs,r,n,h,q,z,b,B,H=>by
  simp only[fM]at h;split at h
  .rename_i u Z g1 r1 u' c2 g2 r2 U X;cases h;obtain⟨Y,a2⟩:=adZ K M U (q (t0,k) (by simp)) (vF z) (λg hg=>b g (by simp[hg])) (λp j=>B p (by simp[j])) H.left (N t0);have T:=DN K M N (n:=n+u.length) X (λp j=>q p (by simp[j])) (qZ z) (λg hg=>b g (by simp[hg])) (λp j=>B p (by simp[j])) H.right;simp only[dQ,a2];refine⟨λt x d=>?_,by rw[T.2];simp;omega⟩;simp only[List.lookup]at d;split at d
   .rename_i J;have J:t=t0:=by simpa using J
    subst J;cases d;exact Y
   .exact T.1 t x d
  .cases h
end
end Go.Fw

namespace Go.Fw
variable [fH]
def Enters(Pg:Program)(f:FuncId):Prop :=∀(args:Array Value) (w:World),(callFunc f args).run Pg w=.ok (.enter f args) w
def aby(rs:List Value):Value:=match rs with
 | [v]=>v
 |vs=>.tuple vs.toArray
def Sound(Pg:Program)(f:FuncId)(sp:Spec):Prop:=sp.sig.ok=zj/\Enters Pg f/\
 ∀(E:Env) (w:World) (b:List Value) (gh:Nat->Gh) (ins dP:List P),sp.R ins dP->E.B0=w.heap.size->E.w0=w->Rel E (mk sp.sig.pin ins) gh (λk=>b.getD k undef) w->b.length=sp.sig.bC->
  Calls Pg f b.toArray w λe h=>∃(c:List Value) (d:Nat->Gh),c.length=sp.sig.cO/\e=.returned (aby c)/\Rel E (mk sp.sig.aW dP) d (λk=>c.getD k undef) h/\∀g∈sp.sig.bH,((d g).ad=(gh g).ad/\(d g).cap=(gh g).cap)/\((mk sp.sig.pin ins).o g).like ((mk sp.sig.aW dP).o g)
theorem ah0{o:Nat->O}{x:W}{y:P}{a i:Bool}{gs:List Nat}(h:x.toP o=zw (y,a,i,gs)):yN o gs:=by
 cases x<;>simp only[W.toP]at h
 case p=>simp only[Q0,QQ]at h;obtain⟨_,_,_,rfl⟩:=h;exact yN.nil
 case dJ=>simp only[Q0,QQ]at h;obtain⟨_,_,_,rfl⟩:=h;exact yN.nil
 case own g=>
  split at h
  .rename_i b;simp only[Q0,QQ]at h;obtain⟨_,_,_,rfl⟩:=h;exact wX b
  .cases h
 case vw g lo c=>
  split at h
  .rename_i b;simp only[Q0,QQ]at h;obtain⟨_,_,_,rfl⟩:=h;exact wX b
  .cases h
 all_goals cases h
theorem Ug{o:Nat->O}{k:WS}{x:W}{us:List P}{c:Bool×Bool}{gs:List Nat}{r:List (Nat×Nat)}(h:gI o k x=zw (us,c,gs,r)):yN o gs:=by
 cases k with
 |p a i=>
  simp only[gI]at h;split at h
  .rename_i d;simp only[Q0,QQ]at h;obtain⟨_,_,rfl,_⟩:=h;exact ah0 d
  .cases h
 |own g'=>cases x<;>simp[gI]at h;obtain⟨_,_,rfl,_⟩:=h;exact yN.nil
 |box g' off=>
  cases off with
  |succ off=>cases x<;>simp[gI]at h
  |zero=>
   cases x with
   |box g off=>cases off<;>simp[gI]at h;obtain⟨_,_,rfl,_⟩:=h;exact yN.nil
   |_=>simp[gI]at h
 |dJ=>simp[gI]at h
 |fn f j=>
  cases x with
  |clo m b=>
   simp only[gI]at h;split at h
   .split at h
    .simp only[Q0,QQ]at h;obtain⟨_,_,rfl,_⟩:=h;exact yN.nil
    .cases h
   .cases h
  |_=>simp[gI]at h
 |oD g'=>simp[gI]at h
 |no=>simp[gI]at h
 |vw g'=>simp[gI]at h
 |ep g' off=>simp[gI]at h
theorem OA{o:Nat->O}:∀{b:List WS} {xs:List W} {us:List P} {c:Bool×Bool} {gs:List Nat} {r:List (Nat×Nat)},ku o b xs=zw (us,c,gs,r)->yN o gs
 | [],xs,us,c,gs,r,h=>by cases xs<;>simp[ku]at h;obtain⟨_,_,rfl,_⟩:=h;exact yN.nil
 |k::b,xs,us,c,gs,r,h=>by
  cases xs with
  |nil=>simp[ku]at h
  |cons x xs=>
   simp only[ku]at h;split at h
   .rename_i d g;simp only[Q0,QQ]at h;obtain⟨_,_,rfl,_⟩:=h;exact(Ug d).append (OA g)
   .cases h
theorem xw{o:Nat->O}{args:List S}:∀{L:List (Nat×SS)} {us:List P} {c:Bool×Bool} {gs:List Nat} {r:List (Nat×Nat)},fM o args L=zw (us,c,gs,r)->yN o gs
 | [],us,c,gs,r,h=>by simp[fM]at h;obtain⟨_,_,rfl,_⟩:=h;exact yN.nil
 |(t,k)::L,us,c,gs,r,h=>by
  simp only[fM]at h;split at h
  .rename_i b d;simp only[Q0,QQ]at h;obtain⟨_,_,rfl,_⟩:=h;refine yN.append ?_ (xw d)
   .cases k with
    |one k=>
     generalize args.getD t S.no=z at b;cases z with
     |v z=>
      cases z with
      |one z=>exact Ug b
      |agg z=>simp[pz]at b
     |_=>simp[pz]at b
    |agg g=>
     generalize args.getD t S.no=z at b;cases z with
     |v z=>
      cases z with
      |one z=>simp[pz]at b
      |agg z=>exact OA b
     |_=>simp[pz]at b
  .cases h
theorem xA{vs:List P}:∀{L:List (Nat×OS)} {n g:Nat},g∈L.map (·.1)->∃x,(iy vs n L).1.lookup g=zw x
 | [],n,g,h=>by simp at h
 |(g0,k)::L,n,g,h=>by
  simp only[iy,List.lookup];by_cases e:g=g0
  .subst e;simp
  .have:(g==g0)=zv:=by simpa using e
   rw[this];exact xA (by simpa[e]using h)
theorem lW{vs:List P}:∀{L:List (Nat×OS)} {n g:Nat} {x:O},(iy vs n L).1.lookup g=zw x->∃k b,(g,k)∈L/\x=(u_ vs b k).1
 | [],n,g,x,h=>by simp[iy]at h
 |(g0,k)::L,n,g,x,h=>by
  simp only[iy,List.lookup]at h;split at h
  .rename_i e;have e:g=g0:=by simpa using e
   subst e;simp only[Q0]at h;exact⟨k,n,by simp,h.symm⟩
  .obtain ⟨c,b,d,j⟩:=lW h;exact⟨c,b,by simp[d],j⟩
theorem yU{vs:List P}:∀{L:List (Nat×SS)} {n t:Nat} {x:S},(dQ vs n L).1.lookup t=zw x->∃k b,(t,k)∈L/\x=(mkS vs b k).1
 | [],n,t,x,h=>by simp[dQ]at h
 |(t0,k)::L,n,t,x,h=>by
  simp only[dQ,List.lookup]at h;split at h
  .rename_i e;have e:t=t0:=by simpa using e
   subst e;simp only[Q0]at h;exact⟨k,n,by simp,h.symm⟩
  .obtain ⟨c,b,d,g⟩:=yU h;exact⟨c,b,by simp[d],g⟩
theorem OC(vs:List P)(n:Nat)(k:WS):(qY vs n k).1.names=k.names:=by
 cases k with
 |fn f gs=>simp only[qY,vC,xu,WS.names]
 |_=>simp[qY,W.names,WS.names]
theorem BH(vs:List P):∀(n:Nat) (b:List WS),(lV vs n b).1.flatMap W.names=b.flatMap WS.names
 |n,[]=>rfl
 |n,k::b=>by simp[lV,OC,BH vs _ b]
theorem abz(vs:List P)(n:Nat)(k:SS):(mkS vs n k).1.names=k.names:=by
 cases k with
 |one k=>simpa[mkS,S.names,V.names,SS.names]using OC vs n k
 |agg b=>simpa[mkS,S.names,V.names,SS.names]using BH vs n b
theorem abA(vs:List P)(n:Nat)(k:OS):(u_ vs n k).1.names=k.names:=by
 cases k with
 |box b=>simpa[u_,O.names,OS.names]using BH vs n b
 |arr=>simp[u_,O.names,OS.names]
 |it=>simp[u_,O.names,OS.names]
 |aP=>simp[u_,O.names,OS.names,dL]
theorem Xd{j:Shape}{vs:List P}{g:Nat}(h:(mk j vs).o g≠.none):(iy vs (dQ vs 0 j.slots).2 j.bG).1.lookup g=zw ((mk j vs).o g):=by
 unfold mk at h ⊢;simp only at h ⊢;split at h
 .rename_i x b;rw[b]
 .exact absurd rfl h
theorem OD{j:Shape}{vs:List P}{g:Nat}(h:g∉j.nms):(mk j vs).o g=.none:=by
 by_cases hn:(mk j vs).o g=.none
 .exact hn
 .obtain ⟨k,c,b,d⟩:=lW (Xd hn);exact absurd (XS.2 ⟨_,b,rfl⟩) h
theorem akA{j:Shape}(h:j.ok=zj)(vs:List P):(∀t,∀g∈((mk j vs).s t).names,(mk j vs).used g=zj)/\(∀g,∀g'∈((mk j vs).o g).names,(mk j vs).used g'=zj)/\∀g,(mk j vs).o g≠.none->(mk j vs).used g=zj:=by
 simp only[X1,Shape.ok,Zs,Vc,Wa]at h;refine⟨λt g hg=>?_,λg g' b=>?_,λg hg=>?_⟩
 .have hg:g∈(match (dQ vs 0 j.slots).1.lookup t with|some x=>x|none=>S.no).names:=hg;cases m:(dQ vs 0 j.slots).1.lookup t with
  |none=>rw[m]at hg;simp[S.names]at hg
  |some x=>rw[m]at hg;obtain⟨k,q,c,d⟩:=yU m;subst d;simp only at hg;rw[abz]at hg;simpa[mk]using h.1.2 _ c g hg
 .by_cases hn:(mk j vs).o g=.none
  .rw [hn]at b;simp[O.names]at b
  .obtain ⟨k,q,c,d⟩:=lW (Xd hn);rw[d,abA]at b;simpa[mk]using h.2 _ c g' b
 .obtain ⟨k,q,c,d⟩:=lW (Xd hg);simp only[mk,Vc,Wa,Shape.nms];exact XS.2 ⟨_,c,rfl⟩
section
variable {E:Env} {st:St} {gh:Nat->Gh} {w:World} {val:Nat->Value}
def YT(h:Rel E st gh val w)(st1:St)(c:Oy):Env where
 FA:=λb=>E.ok st1 gh w c.A.1 c.A.2 b
 FI:=λb=>E.ok st gh w c.I.1 c.I.2 b
 B0:=w.heap.size
 w0:=w
 Wr:=λb=>∃p∈c.ren,(st.o p.2).bW=zj/\(gh p.2).has b
 hg:=λg B rows hg=>by
  obtain⟨g1,g2,g3⟩:=E.hg g B rows hg;refine⟨VV g1 h.size,?_,λn x z=>⟨(g3 n x z).1,λj y H=>?_⟩⟩
  .rintro ⟨p,L,J,K⟩;rcases (h.wr p.2 g J K).1 with q|q
   .omega
   .exact g2 q
  .obtain ⟨u,d,m⟩:=(g3 n x z).2 j y H;exact⟨u,(World.cell?_of_block (w:=E.w0) (h.frame g g1 g2)).trans d,m.mono λ_ f=>f.elim⟩
theorem Hu{vs:List P}:∀{L:List (Nat×OS)} {n:Nat} {g:Nat} {k:OS},L.lookup g=zw k->∃b,(iy vs n L).1.lookup g=zw (u_ vs b k).1
 | [],n,g,k,h=>by cases h
 |(g0,c)::L,n,g,k,h=>by
  simp only[iy,List.lookup]at h ⊢;split at h
  .cases h;exact⟨_,rfl⟩
  .exact Hu h
theorem Qz{j:Shape}{vs:List P}{g:Nat}{k:OS}(h:j.bG.lookup g=zw k):∃b,(mk j vs).o g=(u_ vs b k).1:=by obtain⟨b,c⟩:=Hu (vs:=vs) (n:=(dQ vs 0 j.slots).2) h;refine⟨b,?_⟩;show (match (iy vs (dQ vs 0 j.slots).2 j.bG).1.lookup g with|some x=>x|none=>O.none)=_;rw[c]
theorem Uh{j:Shape}{vs:List P}{g:Nat}(h:OS.adY (j.bG.lookup g)=zj):∃c,(mk j vs).o g=.box c:=by
 cases b:j.bG.lookup g with
 |none=>rw[b]at h;cases h
 |some k=>
  rw[b]at h;cases k with
  |box m=>obtain⟨q,d⟩:=Qz (vs:=vs) b;exact⟨_,d⟩
  |arr=>cases h
  |it=>cases h
  |aP=>cases h
theorem A_.abB{s:A_}(h:s.ama=zj){ins dP:List P}:∀g∈s.bH,((Fw.mk s.pin ins).o g).like ((Fw.mk s.aW dP).o g):=λg hg=>by have:=(Zs.1 h) g hg;simp only[X1]at this;obtain⟨j,b⟩:=Uh (vs:=ins) this.1;obtain⟨c,d⟩:=Uh (vs:=dP) this.2;rw[b,d];trivial
theorem n_{p:Nat×Nat}:∀{r:List (Nat×Nat)},p∈kP r↔p∈r
 | []=>Iff.rfl
 |q::r=>by
  simp only[kP];cases h:(r.any λx=>Nat.beq x.1 q.1&&Nat.beq x.2 q.2)with
  |true=>
   simp only[n_ (r:=r),XN];refine⟨.inr,λhp=>?_⟩;rcases hp with rfl|hp
   .obtain ⟨x,b,e⟩:=KS.1 h;simp only[X1]at e;have c:=Q6 e.1;have d:=Q6 e.2;have:x=p:=Prod.ext c d;rw[<-this];exact b
   .exact hp
  |false=>simp only[XN,n_ (r:=r)]
def tH:O->O
 |.arr d _ _ c l=>.arr d zv zv c l
 |.aP _ _ c g l b=>.aP zv zv c g l b
 |x=>x
def uK:O->Bool×Bool
 |.arr _ a i _ _=>(a,i)
 |.aP a i _ _ _ _=>(a,i)
 |_=>(zv,zv)
def Xe:O->Bool
 |.arr _ _ _ _ _=>zj
 |.aP _ _ _ _ _ _=>zj
 |_=>zv
theorem Xf{x y:O}(h:tH x=tH y)(b:uK x=uK y)(c:Xe x=zj):x=y:=by
 cases x<;>simp only[Xe,Wb]at c<;>cases y<;>simp only[tH,uK,O.arr.injEq,O.aP.injEq,QQ,reduceCtorEq]at h b
 .obtain ⟨rfl,_,_,rfl,rfl⟩:=h;obtain⟨rfl,rfl⟩:=b;rfl
 .obtain ⟨_,_,rfl,rfl,rfl,rfl⟩:=h;obtain⟨rfl,rfl⟩:=b;rfl
theorem abC{s:A_}(hok:s.ok=zj){o:Nat->O}{args:List S}{c:Oy}(U:jh s o args=zw c)(hf:c.fine s=zj):∀p∈c.ren,Xe (o p.2)=zj->tH ((mk s.pin c.ins).o p.1)=tH (o p.2):=by
 unfold jh at U;split at U
 .rename_i u A gs r hsl;split at U
  .rename_i b I K hob;cases U;simp only[Oy.fine,X1,Zs,Qx,Vc,Wa,V0,decide_eq_false_iff_not,XS,forall_exists_index,and_imp,forall_apply_eq_imp_iff₂]at hf;obtain⟨⟨⟨hn2,B⟩,hdisj⟩,M⟩:=hf;have B:=jP B;have J:=hok;simp only[A_.ok,X1]at J;obtain⟨⟨⟨⟨⟨⟨⟨⟨ad4,YU⟩,hps⟩,hpo⟩,_⟩,_⟩,_⟩,_⟩,_⟩:=J;have hm :∀p∈K,(λg'=>(kP K).lookup g') p.1=zw p.2:=λp d=>nH B (n_.2 d);have hAt:At (u++b) 0 (u++b):=λk y X=>by rw[Vi];exact X
   have amd :∀p∈s.pin.bG,match p.2 with|.box Y=>∀k∈Y,k.flags zv zj=zj|.arr fz a i _=>fz=zv/\a=zv/\i=zj|.aP a i _ _=>a=zv/\i=zj|.it=>False:=by
    intro p d;have:=(Zs.1 hpo) p d;obtain⟨g,k⟩:=p;cases k with
    |box Y=>simp only[X1,Zs]at this;exact λk X=>this.1 k X
    |arr fz a i N=>simp only[X1,V0]at this;exact⟨this.1.1,this.1.2,this.2⟩
    |aP a i N au=>simp only[X1,V0]at this;exact this
    |it=>simp at this
   have Ui:(dQ (u++b) 0 s.pin.slots).2=u.length:=by
    have :∀{L:List (Nat×SS)} {us:List P} {c:Bool×Bool} {gs:List Nat} {r:List (Nat×Nat)} {n:Nat} (vs:List P),fM o args L=zw (us,c,gs,r)->(∀p∈L,p.2.flags zj zv=zj)->(dQ vs n L).2=n+us.length:=by
     intro L
     induction L with
     |nil=>intro us c gs r n vs h _;simp[fM]at h;obtain⟨rfl,_⟩:=h;rfl
     |cons p L ih=>
      intro us c gs r n vs h X;obtain⟨t0,k⟩:=p;simp only[fM]at h;split at h
      .rename_i u c1 g1 r1 b c2 g2 r2 q h2;cases h;have e1:(mkS vs n k).2=n+u.length:=by
        have hkk:=X (t0,k) (by simp);have one :∀(k:WS) (x:W) (us:List P) (c:Bool×Bool) (gs:List Nat) (r:List (Nat×Nat)) (n:Nat),gI o k x=zw (us,c,gs,r)->(qY vs n k).2=n+us.length:=by
         intro k x us c gs r n h;cases k with
         |p a i=>
          simp only[gI]at h;split at h
          .simp only[Q0,QQ]at h;obtain⟨rfl,_⟩:=h;rfl
          .cases h
         |own g'=>cases x<;>simp[gI]at h;obtain⟨rfl,_⟩:=h;rfl
         |box g' off=>
          cases off with
          |succ off=>cases x<;>simp[gI]at h
          |zero=>
           cases x with
           |box g off=>cases off<;>simp[gI]at h;obtain⟨rfl,_⟩:=h;rfl
           |_=>simp[gI]at h
         |dJ=>simp[gI]at h
         |fn f gs0=>
          cases x with
          |clo f' caps=>
           simp only[gI]at h;split at h
           .split at h
            .simp only[Q0,QQ]at h;obtain⟨rfl,_⟩:=h;rfl
            .cases h
           .cases h
          |_=>simp[gI]at h
         |oD g'=>simp[gI]at h
         |no=>simp[gI]at h
         |vw g'=>simp[gI]at h
         |ep g' off=>simp[gI]at h
        cases k with
        |one k=>
         generalize args.getD t0 S.no=z at q;cases z with
         |v z=>
          cases z with
          |one z=>exact one k z _ _ _ _ n q
          |agg z=>simp[pz]at q
         |_=>simp[pz]at q
        |agg T=>
         generalize args.getD t0 S.no=z at q;cases z with
         |v z=>
          cases z with
          |one z=>simp[pz]at q
          |agg z=>
           have :∀(T:List WS) (z:List W) (us:List P) (c:Bool×Bool) (gs:List Nat) (r:List (Nat×Nat)) (n:Nat),ku o T z=zw (us,c,gs,r)->(lV vs n T).2=n+us.length:=by
            intro T
            induction T with
            |nil=>intro z us c gs r n h;cases z<;>simp[ku]at h;obtain⟨rfl,_⟩:=h;rfl
            |cons k T ih=>
             intro z us c gs r n h;cases z with
             |nil=>simp[ku]at h
             |cons x xs=>
              simp only[ku]at h;split at h
              .rename_i u c1 g1 r1 b c2 g2 r2 q h2;cases h;simp only[lV];rw[one k x _ _ _ _ n q,ih _ _ _ _ _ _ h2];simp;omega
              .cases h
           exact this T z _ _ _ _ n q
         |_=>simp[pz]at q
       simp only[dQ];rw[e1,ih vs h2 (λp d=>X p (by simp[d]))];simp;omega
      .cases h
    have:=this (n:=0) (u++b) hsl (λp d=>by have:=(Zs.1 hps) p d;simp only[X1]at this;exact this.1);omega
   obtain⟨⟨r0,hr0⟩,Uj⟩:=vG (m:=λg'=>(kP K).lookup g') (nil:=λ_=>False) (I:=I) (ins:=u++b) (n:=u.length) hob amd (Kz I) hm (by have:=hAt.right;rwa [Vi]at this);have E8 :∀g' x,(mk s.pin (u++b)).o g'=x->x≠.none->∃g,(kP K).lookup g'=zw g/\Ow (Cio I) (λg'=>(kP K).lookup g') (λ_=>False) (o g) x/\(g',g)∈kP K/\(o g).bW=zj/\((∃Y,x=.box Y)\/(∃l N,x=.arr zv zv zj N l)\/∃l N au,x=.aP zv zj N au l zz):=by intro g' x Z hne;have:=Xd (j:=s.pin) (vs:=u++b) (g:=g') (by rw[Z];exact hne);rw[Ui,Z]at this;obtain⟨g,k1,k2,k3,k4⟩:=Uj g' x this;exact⟨g,k1,k2,n_.2 k3,k4⟩
   intro p d ha;have hkey:p.1∈s.pin.bG.map (·.1):=M p d;obtain⟨x,Z⟩:=xA (vs:=u++b) (n:=u.length) hkey;obtain⟨g,hg,H,hmem,hown,hsh⟩:=Uj p.1 x Z;have hl:=nH B d;have:g=p.2:=by have hg':(kP K).lookup p.1=zw g:=hg;rw[hl]at hg';exact(Wz hg').symm
   subst this;have hmk:(mk s.pin (u++b)).o p.1=x:=by show (match (iy (u++b) (dQ (u++b) 0 s.pin.slots).2 s.pin.bG).1.lookup p.1 with|some x=>x|none=>O.none)=x;rw[Ui,Z]
   rw[hmk];generalize hz:o p.2=z at H ha;rcases hsh with⟨Y,rfl⟩|⟨l,N,rfl⟩|⟨l,N,au,rfl⟩
   .cases H;cases ha
   .cases H;rfl
   .cases H;rfl
  .cases U
 .cases U
theorem Xg(h:Rel E st gh val w){s:A_}(hok:s.ok=zj){args:List S}{vals:Nat->Value}(hr :∀t,dR E st gh w (args.getD t .no) (vals t)){c:Oy}(hc:jh s st.o args=zw c)(hf:c.fine s=zj)
  (st1:St) (hst1:st1=st.aK (c.wK.map (Fw.bf st.o)) []) (E':Env) (M:E'=YT h st1 c) :
  Rel E st1 gh val w/\Lets E st st1 gh gh w w/\Rel E' (mk s.pin c.ins) (kN gh λg'=>c.ren.lookup g') vals w/\
  (∀p∈c.ren,(st.o p.2).bW=zj/\p.2∉c.wK/\c.ren.lookup p.1=zw p.2/\((s.bH.contains p.1=zj/\∃ws ws',st.o p.2=.box ws/\(mk s.pin c.ins).o p.1=.box ws')\/(∃a i sz l,st.o p.2=.arr zv a i sz l/\cin (a,i) c.I/\(mk s.pin c.ins).o p.1=.arr zv zv zj sz l)\/(∃a i sz au l,st.o p.2=.aP a i sz au l zz/\cin (a,i) c.I/\(mk s.pin c.ins).o p.1=.aP zv zj sz au l zz))):=by
 unfold jh at hc;split at hc
 .rename_i u A gs r hsl;split at hc
  .rename_i B I X hob;cases hc;simp only[Oy.fine,X1,Zs,Qx,Vc,Wa,V0,decide_eq_false_iff_not,XS,forall_exists_index,and_imp,forall_apply_eq_imp_iff₂]at hf;obtain⟨⟨⟨hn2,hn1⟩,hdisj⟩,hkeys⟩:=hf;have hn1:=jP hn1;have hok':=hok;simp only[A_.ok,X1]at hok';obtain⟨⟨⟨⟨⟨⟨⟨⟨ad4,YU⟩,hps⟩,hpo⟩,_⟩,_⟩,_⟩,_⟩,_⟩:=hok';have ame:=xw hsl;obtain⟨f1,f2⟩:=Rel.freezes gs h ame;subst hst1;have hm :∀p∈X,(λg'=>(kP X).lookup g') p.1=zw p.2:=λp N=>nH hn1 (n_.2 N);have hAt:At (u++B) 0 (u++B):=λk y Y=>by rw[Vi];exact Y
   have amd :∀p∈s.pin.bG,match p.2 with|.box ws=>∀k∈ws,k.flags zv zj=zj|.arr fz a i _=>fz=zv/\a=zv/\i=zj|.aP a i _ _=>a=zv/\i=zj|.it=>False:=by
    intro p N;have:=(Zs.1 hpo) p N;obtain⟨g,k⟩:=p;cases k with
    |box ws=>simp only[X1,Zs]at this;exact λk Y=>this.1 k Y
    |arr fz a i sz=>simp only[X1,V0]at this;exact⟨this.1.1,this.1.2,this.2⟩
    |aP a i sz au=>simp only[X1,V0]at this;exact this
    |it=>simp at this
   have Ui:(dQ (u++B) 0 s.pin.slots).2=u.length:=by
    have :∀{L:List (Nat×SS)} {us:List P} {c:Bool×Bool} {gs:List Nat} {r:List (Nat×Nat)} {n:Nat} (vs:List P),fM st.o args L=zw (us,c,gs,r)->(∀p∈L,p.2.flags zj zv=zj)->(dQ vs n L).2=n+us.length:=by
     intro L
     induction L with
     |nil=>intro us c gs r n vs h _;simp[fM]at h;obtain⟨rfl,_⟩:=h;rfl
     |cons p L ih=>
      intro us c gs r n vs h Y;obtain⟨t0,k⟩:=p;simp only[fM]at h;split at h
      .rename_i u c1 g1 r1 B c2 g2 r2 H Z;cases h;have e1:(mkS vs n k).2=n+u.length:=by
        have hkk:=Y (t0,k) (by simp);have one :∀(k:WS) (x:W) (us:List P) (c:Bool×Bool) (gs:List Nat) (r:List (Nat×Nat)) (n:Nat),gI st.o k x=zw (us,c,gs,r)->(qY vs n k).2=n+us.length:=by
         intro k x us c gs r n h;cases k with
         |p a i=>
          simp only[gI]at h;split at h
          .simp only[Q0,QQ]at h;obtain⟨rfl,_⟩:=h;rfl
          .cases h
         |own g'=>cases x<;>simp[gI]at h;obtain⟨rfl,_⟩:=h;rfl
         |box g' off=>
          cases off with
          |succ off=>cases x<;>simp[gI]at h
          |zero=>
           cases x with
           |box g off=>cases off<;>simp[gI]at h;obtain⟨rfl,_⟩:=h;rfl
           |_=>simp[gI]at h
         |dJ=>simp[gI]at h
         |fn f gs0=>
          cases x with
          |clo f' caps=>
           simp only[gI]at h;split at h
           .split at h
            .simp only[Q0,QQ]at h;obtain⟨rfl,_⟩:=h;rfl
            .cases h
           .cases h
          |_=>simp[gI]at h
         |oD g'=>simp[gI]at h
         |no=>simp[gI]at h
         |vw g'=>simp[gI]at h
         |ep g' off=>simp[gI]at h
        cases k with
        |one k=>
         generalize args.getD t0 S.no=z at H;cases z with
         |v z=>
          cases z with
          |one z=>exact one k z _ _ _ _ n H
          |agg z=>simp[pz]at H
         |_=>simp[pz]at H
        |agg ks=>
         generalize args.getD t0 S.no=z at H;cases z with
         |v z=>
          cases z with
          |one z=>simp[pz]at H
          |agg z=>
           have :∀(ks:List WS) (z:List W) (us:List P) (c:Bool×Bool) (gs:List Nat) (r:List (Nat×Nat)) (n:Nat),ku st.o ks z=zw (us,c,gs,r)->(lV vs n ks).2=n+us.length:=by
            intro ks
            induction ks with
            |nil=>intro z us c gs r n h;cases z<;>simp[ku]at h;obtain⟨rfl,_⟩:=h;rfl
            |cons k ks ih=>
             intro z us c gs r n h;cases z with
             |nil=>simp[ku]at h
             |cons x xs=>
              simp only[ku]at h;split at h
              .rename_i u c1 g1 r1 B c2 g2 r2 H Z;cases h;simp only[lV];rw[one k x _ _ _ _ n H,ih _ _ _ _ _ _ Z];simp;omega
              .cases h
           exact this ks z _ _ _ _ n H
         |_=>simp[pz]at H
       simp only[dQ];rw[e1,ih vs Z (λp N=>Y p (by simp[N]))];simp;omega
      .cases h
    have:=this (n:=0) (u++B) hsl (λp N=>by have:=(Zs.1 hps) p N;simp only[X1]at this;exact this.1);omega
   obtain⟨⟨r0,hr0⟩,Uj⟩:=vG (m:=λg'=>(kP X).lookup g') (nil:=λ_=>False) (I:=I) (ins:=u++B) (n:=u.length) hob amd (Kz I) hm (by have:=hAt.right;rwa [Vi]at this);have E8 :∀g' x,(mk s.pin (u++B)).o g'=x->x≠.none->∃g,(kP X).lookup g'=zw g/\Ow (Cio I) (λg'=>(kP X).lookup g') (λ_=>False) (st.o g) x/\(g',g)∈kP X/\(st.o g).bW=zj/\((∃ws,x=.box ws)\/(∃l sz,x=.arr zv zv zj sz l)\/∃l sz au,x=.aP zv zj sz au l zz):=by intro g' x hx hne;have:=Xd (j:=s.pin) (vs:=u++B) (g:=g') (by rw[hx];exact hne);rw[Ui,hx]at this;obtain⟨g,k1,k2,k3,k4⟩:=Uj g' x this;exact⟨g,k1,k2,n_.2 k3,k4⟩
   have jf :∀p∈kP X,(st.o p.2).bW=zj/\p.2∉gs/\(kP X).lookup p.1=zw p.2/\((s.bH.contains p.1=zj/\∃ws ws',st.o p.2=.box ws/\(mk s.pin (u++B)).o p.1=.box ws')\/(∃a i sz l,st.o p.2=.arr zv a i sz l/\cin (a,i) I/\(mk s.pin (u++B)).o p.1=.arr zv zv zj sz l)\/(∃a i sz au l,st.o p.2=.aP a i sz au l zz/\cin (a,i) I/\(mk s.pin (u++B)).o p.1=.aP zv zj sz au l zz)):=by
    intro p N;have hkey:p.1∈s.pin.bG.map (·.1):=hkeys p N;obtain⟨x,hx⟩:=xA (vs:=u++B) (n:=u.length) hkey;obtain⟨g,hg,d,J,K,_⟩:=Uj p.1 x hx;have hl:=nH hn1 N;have:g=p.2:=by have hg':(kP X).lookup p.1=zw g:=hg;rw[hl]at hg';exact(Wz hg').symm
    subst this;refine⟨K,hdisj p N,hl,?_⟩;have hmk:(mk s.pin (u++B)).o p.1=x:=by show (match (iy (u++B) (dQ (u++B) 0 s.pin.slots).2 s.pin.bG).1.lookup p.1 with|some x=>x|none=>O.none)=x;rw[Ui,hx]
    obtain⟨k,n',H,Z⟩:=lW hx;have Y:=(Zs.1 hpo) _ H;rw[hmk];subst Z;cases k with
    |box ws=>simp only[X1]at Y;generalize hz:st.o p.2=z at d;cases d;exact .inl ⟨Y.2,_,_,rfl,rfl⟩
    |arr fz a i sz=>simp only[X1,V0]at Y;obtain⟨⟨rfl,rfl⟩,rfl⟩:=Y;generalize hz:st.o p.2=z at d;refine .inr (.inl ?_);cases d with|arr _ _ _ hc=>exact⟨_,_,_,_,rfl,hc.2.2,rfl⟩
    |aP a i sz au=>simp only[X1,V0]at Y;obtain⟨rfl,rfl⟩:=Y;generalize hz:st.o p.2=z at d;refine .inr (.inr ?_);cases d with|aP _ _ _ hc=>exact⟨_,_,_,_,_,rfl,hc.2.2,rfl⟩
    |it=>simp at Y
   have qL :∀g' b,((mk s.pin (u++B)).o g').bW=zj->(kN gh (λg'=>(kP X).lookup g') g').has b->∃g,(g',g)∈kP X/\(st.o g).bW=zj/\(gh g).has b/\g∉gs:=by intro g' b q T;obtain⟨g,hg,_,J,K,_⟩:=E8 g' _ rfl (by intro e;rw[e]at q;cases q);refine⟨g,J,K,?_,(jf _ J).2.1⟩;simpa[kN,hg]using T
   have ao_ :∀g,g∉gs->(st.aK (gs.map (Fw.bf st.o)) []).o g=st.o g:=by intro g hg;rw[g_,QP hg]
   have hcast:Cast (Cio I) (λg'=>(kP X).lookup g') (λ_=>False) E E' st (mk s.pin (u++B)) gh (kN gh λg'=>(kP X).lookup g') w:=by
    refine⟨λa i a' i' b hC hb=>?_,λg g' hg sz len q=>⟨by simp only[kN,hg];exact⟨trivial,trivial⟩,?_⟩,λg g' hg ws q=>⟨by simp only[kN,hg],?_⟩,λg g' hg s n q=>⟨by simp only[kN,hg],?_⟩,λg' hf=>hf.elim⟩
    .obtain ⟨rfl,rfl,hci⟩:=hC;subst M;refine⟨.inr (.inl ⟨rfl,.inl (Env.qp hci.1 hci.2 hb)⟩),hb.2.1,λg' q T=>?_⟩;obtain⟨g,_,H,Z,_⟩:=qL g' b q T;exact hb.2.2 g H Z
    .obtain ⟨g2,U,d,_⟩:=E8 g' _ rfl (by intro e;rw[e]at q;cases q);rw[hg]at U;cases U;exact d.dim q
    .obtain ⟨g2,U,d,_⟩:=E8 g' _ q (by simp);rw[hg]at U;cases U;generalize st.o g=z at d;cases d;exact⟨_,rfl⟩
    .obtain ⟨g2,U,d,_⟩:=E8 g' _ q (by simp);rw[hg]at U;cases U;generalize st.o g=z at d;cases d;exact⟨_,_,rfl⟩
   have hP :∀x v y a i gs',fV E st gh w x v->x.toP st.o=zw (y,a,i,gs')->cin (a,i) A->(∀g∈gs',g∈gs)->dB w (E'.ok (mk s.pin (u++B)) (kN gh λg'=>(kP X).lookup g') w zj zv) y v:=by intro x v y a i gs' hrx ht hci hsub;have:=(Qn h hrx ht).2 _ (λg hg=>by rw[g_,QR (hsub g hg)]) f1 f2;refine this.mono λb hb=>⟨?_,rfl⟩;subst M;refine⟨.inl ⟨rfl,Env.qp hci.1 hci.2 hb⟩,hb.2.1,λg' q T=>?_⟩;obtain⟨g,_,H,Z,h3⟩:=qL g' b q T;exact hb.2.2 g (by rw[ao_ g h3];exact H) Z
   have atd :∀p∈s.pin.slots,p.2.flags zj zv=zj:=λp N=>by have:=(Zs.1 hps) p N;simp only[X1]at this;exact this.1
   have rV:=(DN hP hcast hr (n:=0) hsl atd (Kz A) (λg hg=>hg) (λp N=>hm p (by rw[hr0];exact W6 _ N)) hAt.left).1;have hus:=akA ad4 (u++B);refine⟨f1,f2,⟨λt=>?_,λg'=>?_,λg1 g2 b H Z k1 k2=>?_,λg' b q T=>?_,λg' i b q T hw=>?_,λg' q hd b=>?_,λb hb=>?_,λb _ _=>?_,?_,?_,?_,?_,hus.1,hus.2.1,hus.2.2⟩,jf⟩
   .show dR _ _ _ _ (match (dQ (u++B) 0 s.pin.slots).1.lookup t with|some x=>x|none=>.no) _;cases hx:(dQ (u++B) 0 s.pin.slots).1.lookup t with
    |none=>exact .no _
    |some x=>exact rV t x hx
   .by_cases hne:(mk s.pin (u++B)).o g'=.none
    .rw [hne];trivial
    .obtain ⟨g,hg,d,_⟩:=E8 g' _ rfl hne;have:kN gh (λg'=>(kP X).lookup g') g'=gh g:=by simp only[kN,hg]
     rw[this];exact hcast.Dk d (h.bG g)
   .obtain ⟨q1,m1,o1,d1,_⟩:=qL g1 b H k1;obtain⟨q2,m2,o2,d2,_⟩:=qL g2 b Z k2;have:=h.inj q1 q2 b o1 o2 d1 d2;subst this;have hn2:=jP hn2;have key :∀{l:List (Nat×Nat)},(l.map (·.2)).Nodup->(g1,q1)∈l->(g2,q1)∈l->g1=g2:=by
     intro l
     induction l with
     |nil=>intro _ h;cases h
     |cons p l ih=>
      intro hn e1 e2;simp only[Qf,K5]at hn;rcases XN.1 e1 with f1|f1<;>rcases XN.1 e2 with f2|f2
      .rw [<-f1]at f2;cases f2;rfl
      .have:q1∈l.map (·.2):=XS.2 ⟨(g2,q1),f2,rfl⟩;rw[<-f1]at hn;exact absurd this hn.1
      .have:q1∈l.map (·.2):=XS.2 ⟨(g1,q1),f1,rfl⟩;rw[<-f2]at hn;exact absurd this hn.1
      .exact ih hn.2 f1 f2
    exact key hn2 m1 m2
   .obtain ⟨g,J,H,Z,_⟩:=qL g' b q T;subst M;exact⟨.inr ⟨(g',g),J,H,Z⟩,(h.wr g b H Z).2⟩
   .obtain ⟨g,hg,d,J,K,hsh⟩:=E8 g' _ rfl (by intro e;rw[e]at q;cases q);rcases hsh with⟨ws,e⟩|⟨l',sz',e⟩|⟨l',sz',au,e⟩
    .rw [e]at q;cases q
    .rw [e]at q;cases q;rfl
    .rw [e]at q;cases q;rfl
   .obtain ⟨g,hg,d,J,K,hsh⟩:=E8 g' _ rfl (by intro e;rw[e]at q;cases q);have e:kN gh (λg'=>(kP X).lookup g') g'=gh g:=by simp only[kN,hg]
    rw[e];exact h.ns g K (by rw[(d.bW q).2];exact hd) b
   .subst M;obtain⟨p,N,_,H⟩:=hb;exact(h.wr p.2 b (jf p N).1 H).2
   .subst M;rfl
   .subst M;exact Z1 _
   .subst M;rfl
   .subst M;rfl
   .subst M;rfl
  .cases hc
 .cases hc
end
end Go.Fw

namespace Go.Fw
variable [fH]
def Hw(A I:Bool×Bool)(lk:Bool)(a i a' i':Bool):Prop:=(a',i')=rW A I a i/\(a=zj->lk=zj)
section
variable {A I:Bool×Bool} {lk:Bool} {m:Nat->Option Nat} {f:Nat->Nat} {aY:List Nat} {vs:List P}
theorem akB(q :∀g∈aY,m (f g)=zw g){k:WS}(b:k.dP aY=zj)(J:k.isA=zj->lk=zj)(n:Nat):
  Ww (Hw A I lk) m (λ_=>False) (qY vs n k).1 (WQ A I f (qY vs n k).1)/\∀g∈(WQ A I f (qY vs n k).1).names,∃g0∈aY,g=f g0:=by
 cases k with
 |p a i=>exact⟨.p _ ⟨rfl,J⟩,by simp[qY,WQ,W.names]⟩
 |own g=>simp only[WS.dP,Vc,Wa]at b;exact⟨.own (q g b),λg' hg'=>⟨g,b,by simpa[qY,WQ,W.names]using hg'⟩⟩
 |dJ=>exact⟨.dJ,by simp[qY,WQ,W.names]⟩
 |box g off=>simp only[WS.dP,Vc,Wa]at b;exact⟨.box (q g b),λg' hg'=>⟨g,b,by simpa[qY,WQ,W.names]using hg'⟩⟩
 |fn fn gs=>
  have b :∀g∈gs,g∈aY:=by simpa[WS.dP,Zs]using b
  have key :∀(gs:List Nat),(∀g∈gs,g∈aY)->(iw gs).length=(lF f (iw gs)).length/\(∀(j:Nat) x y,(iw gs)[j]?=zw x->(lF f (iw gs))[j]?=zw y->Ww (Hw A I lk) m (λ_=>False) x y)/\∀g∈(lF f (iw gs)).flatMap W.names,∃g0∈aY,g=f g0:=by
   intro gs
   induction gs with
   |nil=>intro _;exact⟨rfl,λj x y c=>(by simp[iw]at c),by simp[iw,lF]⟩
   |cons g gs K=>
    intro h;obtain⟨z,B,H⟩:=K λg hg=>h g (by simp[hg]);refine⟨by simp[iw,lF,z],λj x y c d=>?_,λg' hg'=>?_⟩
    .cases j with
     |zero=>simp[iw,lF]at c d;subst c d;exact .box (q g (h g (by simp)))
     |succ j=>simp[iw,lF]at c d;exact B j x y c d
    .simp only[iw,lF,ZD,Z0]at hg';rcases hg' with hg'|hg'
     .exact ⟨g,h g (by simp),by simpa[W.names]using hg'⟩
     .exact H g' hg'
  obtain⟨z,B,H⟩:=key gs b;exact⟨.clo fn _ _ z B,λg hg=>by have hg:g∈(W.clo fn (lF f (iw gs))).names:=hg;rw[vC]at hg;exact H g hg⟩
 |oD g=>cases b
 |no=>cases b
 |vw g=>cases b
 |ep g off=>cases b
theorem Uk:∀{b:List WS} {n:Nat} {x:W},x∈(lV vs n b).1->∃k∈b,∃c,x=(qY vs c k).1
 | [],n,x,h=>by simp[lV]at h
 |k::b,n,x,h=>by
  simp only[lV,XN]at h;rcases h with h|h
  .exact ⟨k,by simp,n,h⟩
  .obtain ⟨d,g,j⟩:=Uk h;exact⟨d,by simp[g],j⟩
theorem ad5(z :∀g∈aY,m (f g)=zw g){b:List WS}(B:b.all (WS.dP aY)=zj)(H:b.any WS.isA=zj->lk=zj)(n:Nat):
  (∀(j:Nat) x y,(lV vs n b).1[j]?=zw x->((lV vs n b).1.map (WQ A I f))[j]?=zw y->Ww (Hw A I lk) m (λ_=>False) x y)/\
  ∀g∈((lV vs n b).1.map (WQ A I f)).flatMap W.names,∃g0∈aY,g=f g0:=by
 have key :∀x∈(lV vs n b).1,Ww (Hw A I lk) m (λ_=>False) x (WQ A I f x)/\∀g∈(WQ A I f x).names,∃g0∈aY,g=f g0:=by intro x c;obtain⟨k,q,J,rfl⟩:=Uk c;exact akB z ((Zs.1 B) k q) (λh=>H (KS.2 ⟨k,q,h⟩)) J
 refine⟨λj x y c d=>?_,λg hg=>?_⟩
 .rw [Z2,c]at d;simp only[W7,Q0]at d;subst d;exact(key x (Z3 c)).1
 .simp only[Z6,XS]at hg;obtain⟨_,⟨x,c,rfl⟩,hg⟩:=hg;exact(key x c).2 g hg
theorem apa(d :∀g∈aY,m (f g)=zw g){k:SS}(h:k.dP aY=zj)(j:k.isA=zj->lk=zj)(n:Nat):
  ∃x,(mkS vs n k).1=.v x/\Vw (Hw A I lk) m (λ_=>False) x (reV A I f x)/\∀g∈(reV A I f x).names,∃g0∈aY,g=f g0:=by
 cases k with
 |one k=>obtain⟨b,c⟩:=akB (vs:=vs) (A:=A) (I:=I) d h j n;exact⟨_,rfl,.one b,c⟩
 |agg q=>obtain⟨b,c⟩:=ad5 (vs:=vs) (A:=A) (I:=I) d h j n;exact⟨_,rfl,.agg _ _ (by simp) b,c⟩
theorem apb(d :∀g∈aY,m (f g)=zw g){k:OS}(h :∀c,k=.box c->c.all (WS.dP aY)=zj)(b:k.isA=zj->lk=zj)(n:Nat):
  Ow (Hw A I lk) m (λ_=>False) (u_ vs n k).1 (yI A I f (u_ vs n k).1)/\∀g∈(yI A I f (u_ vs n k).1).names,∃g0∈aY,g=f g0:=by
 cases k with
 |box j=>obtain⟨q,y⟩:=ad5 (vs:=vs) (A:=A) (I:=I) d (h j rfl) b n;exact⟨.box _ _ (by simp) q,y⟩
 |arr B a i z=>exact⟨.arr _ _ _ ⟨rfl,b⟩,by simp[u_,yI,O.names]⟩
 |it=>exact⟨.it _ _,by simp[u_,yI,O.names]⟩
 |aP a i z H=>exact⟨.aP _ _ _ ⟨rfl,b⟩,by simp[u_,yI,O.names,dL]⟩
end
theorem OE{A I:Bool×Bool}{f:Nat->Nat}(x:O):(yI A I f x).bW=x.bW:=by cases x<;>rfl
theorem Xh{A I:Bool×Bool}{f:Nat->Nat}(x:O):(yI A I f x).o8=x.o8:=by cases x<;>rfl
theorem ah1{A I:Bool×Bool}{f:Nat->Nat}(x:O):(yI A I f x).dim=x.dim:=by cases x<;>rfl
theorem abD{A I:Bool×Bool}{f:Nat->Nat}{x:O}{i:Bool}(h:(yI A I f x).inner=zw i):∃a i0,x.inner=zw i0/\i=(rW A I a i0).2:=by
 cases x with
 |arr c a i0 d l=>
  cases c with
  |false=>cases h;exact⟨a,i0,rfl,rfl⟩
  |true=>cases h
 |aP a i0 d g l b=>cases h;exact⟨a,i0,rfl,rfl⟩
 |_=>cases h
theorem ah2{A I:Bool×Bool}{f:Nat->Nat}{x:O}{c:List W}(h:yI A I f x=.box c):∃b,x=.box b:=by cases x<;>first|exact⟨_,rfl⟩|cases h
theorem amf{A I:Bool×Bool}{f:Nat->Nat}{x:O}{s n:P}(h:yI A I f x=.it s n):∃b c,x=.it b c:=by cases x<;>first|exact⟨_,_,rfl⟩|cases h
theorem Hy{d:Nat}{aY:List Nat}{g g':Nat}(hg:g∈aY)(h:newName d aY g=newName d aY g'):g=g':=by
 unfold newName at h;have e:aY.idxOf g=aY.idxOf g':=by omega
 have b:aY.idxOf g<aY.length:=List.idxOf_lt_length_of_mem hg;have c:aY.idxOf g'<aY.length:=by omega
 have j:=List.getElem_idxOf b;have a2:=List.getElem_idxOf c;rw[<-j,<-a2];congr 1
def yV(d:Nat)(aY:List Nat)(g:Nat):Option Nat:=aY.find? λg0=>newName d aY g0==g
theorem QA{d:Nat}{aY:List Nat}{g:Nat}(hg:g∈aY):yV d aY (newName d aY g)=zw g:=by
 unfold yV;cases h:aY.find? λg0=>newName d aY g0==newName d aY g with
 |none=>have:=List.find?_eq_none.1 h g hg;simp at this
 |some g'=>have b:=vp h;simp only[beq_iff_eq]at b;rw[Hy (Kn h) b]
theorem NS{d:Nat}{aY:List Nat}{g g0:Nat}(h:yV d aY g=zw g0):g0∈aY/\newName d aY g0=g:=by unfold yV at h;exact⟨Kn h,by simpa using vp h⟩
theorem mM{α:Type}{g:Nat}:∀{l r:List (Nat×α)},(l++r).lookup g=(l.lookup g).or (r.lookup g)
 | [],r=>by simp
 |(k,v)::l,r=>by
  simp only[Kj,List.lookup];split
  .rfl
  .exact mM
theorem yX{α:Type}{k:Nat->Nat}{v:Nat->α}{g:Nat}:∀{l:List Nat},(∀g'∈l,k g'≠g)->(l.map λx=>(k x,v x)).lookup g=zz
 | [],_=>rfl
 |x::l,h=>by
  have:(g==k x)=zv:=by have:=h x (by simp);simp;exact λe=>this e.symm
  simp only[Qf,List.lookup,this];exact yX λg' b=>h g' (by simp[b])
theorem yw{α:Type}{k:Nat->Nat}{v:Nat->α}{g0:Nat}:∀{l:List Nat},g0∈l->(∀g'∈l,k g'=k g0->g'=g0)->(l.map λx=>(k x,v x)).lookup (k g0)=zw (v g0)
 | [],h,_=>by cases h
 |x::l,h,c=>by
  simp only[Qf,List.lookup];by_cases e:k x=k g0
  .have:=c x (by simp) e;subst this;simp
  .have:(k g0==k x)=zv:=by simp;exact λh=>e h.symm
   rw[this];rcases XN.1 h with h|h
   .subst h;exact absurd rfl e
   .exact yw h λg' b=>c g' (by simp[b])
theorem lX{α:Type}{v:Nat×Nat->α}{p:Nat×Nat}:∀{l:List (Nat×Nat)},(l.map (·.2)).Nodup->p∈l->(l.map λp=>(p.2,v p)).lookup p.2=zw (v p)
 | [],_,h=>by cases h
 |x::l,hn,h=>by
  simp only[Qf,K5]at hn;simp only[Qf,List.lookup];rcases XN.1 h with h|h
  .subst h;simp
  .have:(p.2==x.2)=zv:=by simp only[beq_eq_false_iff_ne];intro e;exact hn.1 (e▸XS.2 ⟨p,h,rfl⟩)
   rw[this];exact lX hn.2 h
theorem mY{α:Type}{v:Nat×Nat->α}{g:Nat}:∀{l:List (Nat×Nat)},g∉l.map (·.2)->(l.map λp=>(p.2,v p)).lookup g=zz
 | [],_=>rfl
 |x::l,h=>by
  simp only[Qf,XN,not_or]at h;have:(g==x.2)=zv:=by simpa using h.1
  simp only[Qf,List.lookup,this];exact mY h.2
theorem O.OG{z:O}(h:O.none.like z):z=.none:=by cases z<;>first|rfl|exact h.elim
theorem O.KA{x y z:O}(b:x.like y)(c:y.like z):z=.none\/x.like z:=.inr (O.like.trans b c)
theorem Xi{s:A_}{o:Nat->O}{args:List S}{c:Oy}(b:jh s o args=zw c):yN o c.wK:=by
 unfold jh at b;split at b
 .rename_i d;split at b
  .cases b;exact xw d
  .cases b
 .cases b
theorem BJ{α:Type}{g:Nat}{v:α}:∀{l:List (Nat×α)},l.lookup g=zw v->(g,v)∈l
 | [],h=>by cases h
 |(k,x)::l,h=>by
  simp only[List.lookup]at h;split at h
  .rename_i e;simp only[beq_iff_eq]at e;cases h;subst e;simp
  .exact V1 _ (BJ h)
theorem tJ{o:Nat->O}:∀{L:List (Nat×OS)} {r b:List (Nat×Nat)} {u:List P} {c:Bool×Bool},jX o r L=zw (u,c,b)->(∀p∈r,p∈b)/\∀p∈L,∃q∈b,q.1=p.1
 | [],r,b,u,c,h=>by simp only[jX,Q0,QQ]at h;obtain⟨_,_,rfl⟩:=h;exact⟨λp hp=>hp,λp hp=>by cases hp⟩
 |(g',k)::rest,r,b,u,c,h=>by
  simp only[jX]at h;split at h
  .rename_i g hg;have j:=BJ hg;have fin :∀{y:List (Nat×Nat)},(∀p∈r,p∈y)->((∀p∈y,p∈b)/\∀p∈rest,∃q∈b,q.1=p.1)->(∀p∈r,p∈b)/\∀p∈(g',k)::rest,∃q∈b,q.1=p.1:=by
    intro y z ⟨d,B⟩;refine⟨λp hp=>d p (z p hp),λp hp=>?_⟩;rcases XN.1 hp with rfl|hp
    .exact ⟨_,d _ (z _ j),rfl⟩
    .exact B p hp
   split at h
   .split at h
    .split at h
     .rename_i d;simp only[Q0,QQ]at h;obtain⟨_,_,rfl⟩:=h;exact fin (λp hp=>W6 _ hp) (tJ d)
     .cases h
    .cases h
   .split at h
    .split at h
     .rename_i d;simp only[Q0,QQ]at h;obtain⟨_,_,rfl⟩:=h;exact fin (λp hp=>hp) (tJ d)
     .cases h
    .cases h
   .split at h
    .split at h
     .rename_i d;simp only[Q0,QQ]at h;obtain⟨_,_,rfl⟩:=h;exact fin (λp hp=>hp) (tJ d)
     .cases h
    .cases h
   .cases h
  .cases h
theorem ah3{j:Shape}{vs:List P}{g:Nat}{a i:Bool}{sz:Nat}{au:List (Nat×Nat)}{l:List (List P)}{hole:Option (Nat×Nat×Nat)}(h:(mk j vs).o g=.aP a i sz au l hole):hole=zz:=by have c:=Xd (j:=j) (vs:=vs) (g:=g) (by rw[h];simp);obtain⟨k,d,_,b⟩:=lW c;rw[h]at b;cases k<;>simp[u_]at b;exact b.2.2.2.2.2
theorem KC{s:A_}{d:Nat}{o:Nat->O}{c:Oy}{dP:List P}(z:c.fine s=zj){p:Nat×Nat}(B:p∈c.ren)(J:s.bH.contains p.1=zj):
  (lG s d o c dP).aK.lookup p.2=zw (yI c.A c.I (callName d s c.ren) ((mk s.aW dP).o p.1)):=by
 simp only[Oy.fine,X1]at z;obtain⟨⟨⟨h,K⟩,b⟩,j⟩:=z;have q:p.2∉c.wK:=by have:=(Zs.1 b) p.2 (XS.2 ⟨p,B,rfl⟩);simpa using this
 have L:(if s.nG=zj then c.wK.map (bf o)else[]).lookup p.2=zz:=by
  split
  .have :∀(l:List Nat),p.2∉l->(l.map (bf o)).lookup p.2=zz:=by
    intro l
    induction l with
    |nil=>intro _;rfl
    |cons g l M=>
     intro y;simp only[XN,not_or]at y;have e:(p.2==(bf o g).1)=zv:=by have:(bf o g).1=g:=rfl;rw[this];simpa using y.1
     simp only[Qf,List.lookup,e];exact M y.2
   exact this _ q
  .rfl
 have H:=lX (v:=λp=>if s.bH.contains p.1=zj then yI c.A c.I (callName d s c.ren) ((mk s.aW dP).o p.1)else .none) (jP h) B;rw[QR J]at H;show (((if s.nG=zj then c.wK.map (bf o)else[])++c.ren.map _)++s.aY.map _).lookup p.2=_;rw[mM,mM,L,H];rfl
theorem abE{s:A_}(y:s.ok=zj){d:Nat}{o:Nat->O}{args:List S}{c:Oy}(K:jh s o args=zw c)(B:c.fine s=zj){dP:List P}{p:Nat×Nat}(H:p∈c.ren)(L:s.bH.contains p.1=zj)
  (M:tH ((mk s.aW dP).o p.1)=tH ((mk s.pin c.ins).o p.1)) (q:Xe (o p.2)=zj) (h:uK (yI c.A c.I (callName d s c.ren) ((mk s.aW dP).o p.1))=uK (o p.2)) :
  (lG s d o c dP).aK.lookup p.2=zw (o p.2):=by
 rw[KC B H L];have b:=M.trans (abC y K B p H q);have J:=λ{a i:Bool} {sz:Nat} {au:List (Nat×Nat)} {l:List (List P)} {hole:Option (Nat×Nat×Nat)}=>ah3 (j:=s.aW) (vs:=dP) (g:=p.1) (a:=a) (i:=i) (sz:=sz) (au:=au) (l:=l) (hole:=hole);congr 1;generalize (mk s.aW dP).o p.1=x at b h J;have e:tH (yI c.A c.I (callName d s c.ren) x)=tH (o p.2):=by
  rw[<-b];cases x with
  |aP a i sz au l hole=>have:=J rfl;subst this;rfl
  |arr N a i sz l=>rfl
  |_=>generalize o p.2=z at b q;cases z<;>first|(cases q;done)|(simp[tH]at b;done)
 exact(Xf e.symm h.symm q).symm
theorem Ul{s:A_}{o:Nat->O}{args:List S}{c:Oy}(b:jh s o args=zw c):∀p∈s.pin.bG,∃q∈c.ren,q.1=p.1:=by
 unfold jh at b;split at b
 .split at b
  .rename_i d;cases b;exact λp g=>let ⟨q,h,j⟩:=(tJ d).2 p g;⟨q,n_.2 h,j⟩
  .cases b
 .cases b
section
variable {E:Env} {st:St} {gh:Nat->Gh} {w:World} {val:Nat->Value}
theorem abG{sp:Spec}(hok:sp.sig.ok=zj)(h:Rel E st gh val w){args:List S}{vals:List Value}(hr :∀t,dR E st gh w (args.getD t .no) (vals.getD t undef))
  {c:Oy} (hc:jh sp.sig st.o args=zw c) (hf:c.fine sp.sig=zj) :
  ∃(E':Env) (nY:Nat->Gh),E'.B0=w.heap.size/\E'.w0=w/\Rel E' (mk sp.sig.pin c.ins) nY (λk=>vals.getD k undef) w/\(∀b,E'.Wr b->∃c e f,w.heap[b]?=zw (.cells c e f))/\
  ∀(d:Nat) (dP:List P) (ef:Eff),ef=lG sp.sig d st.o c dP->(∀g∈ef.new,st.used g=zv)->∀(w':World) (rs:List Value) (AU:Nat->Gh),rs.length=sp.sig.cO->Rel E' (mk sp.sig.aW dP) AU (λk=>rs.getD k undef) w'->(∀g∈sp.sig.bH,((AU g).ad=(nY g).ad/\(AU g).cap=(nY g).cap)/\((mk sp.sig.pin c.ins).o g).like ((mk sp.sig.aW dP).o g))->
   ∃bQ,Rel E (st.aK ef.aK ef.new) bQ val w'/\Lets E st (st.aK ef.aK ef.new) gh bQ w w'/\dR E (st.aK ef.aK ef.new) bQ w' ef.x (aby rs)/\∀g∈ef.x.names,(st.aK ef.aK ef.new).used g=zj:=by
 have hrr :∀t,dR E st gh w (args.getD t .no) ((λk=>vals.getD k undef) t):=hr;obtain⟨U,hL1,hE,jf⟩:=Xg h hok hrr hc hf _ rfl _ rfl;refine⟨_,_,rfl,rfl,hE,λb B=>?_,λd dP ef hef hnew w' rs AU hrl hx Xj=>?_⟩
 .obtain ⟨p,H,ow,X⟩:=B;have hO:=h.bG p.2;rcases (jf p H).2.2.2 with⟨_,ws,_,e,_⟩|⟨a,i,sz,l,e,_⟩|⟨a,i,sz,au,l,e,_⟩
  .rw [e]at hO;obtain⟨ad',c,e',q1,_,q3,_⟩:=hO;rcases X with⟨ad,k1,k2⟩|k1
   .rw [k1]at q1;cases q1;rw[<-k2];exact⟨_,_,_,q3⟩
   .rw [h.ns p.2 ow (by rw[e];rfl) b]at k1;cases k1
  .rw [e]at hO;rcases X with⟨ad,k1,k2⟩|k1
   .rcases hO with⟨q1,_⟩|⟨ad',c,e',q1,_,q3,_⟩
    .rw [k1]at q1;cases q1
    .rw [k1]at q1;cases q1;rw[<-k2];exact⟨_,_,_,q3⟩
   .rw [h.ns p.2 ow (by rw[e];rfl) b]at k1;cases k1
  .rw [e]at hO;rcases hO with⟨q1,_,_,q2⟩|⟨ad',c,e',q1,_,q3,_,_,_,⟨_,q4⟩,_⟩
   .rcases X with⟨ad,k1,k2⟩|k1
    .rw [k1]at q1;cases q1
    .rw [q2 b]at k1;cases k1
   .rcases X with⟨ad,k1,k2⟩|k1
    .rw [k1]at q1;cases q1;rw[<-k2];exact⟨_,_,_,q3⟩
    .exact q4 b k1
 generalize hst1:st.aK (c.wK.map (Fw.bf st.o)) []=st1 at U hL1 hE hx;generalize hE':YT h st1 c=E' at hE hx;generalize abH:mk sp.sig.aW dP=Y at hx;have hok':=hok;simp only[A_.ok,X1]at hok';obtain⟨⟨⟨⟨⟨⟨⟨⟨ad4,YU⟩,hps⟩,hpo⟩,hos⟩,Bv⟩,hdisj⟩,hnn⟩,akC⟩:=hok';have hnn:=jP hnn;simp only[Oy.fine,X1]at hf;have hn2:=jP hf.1.1.1;have amg :∀g∈sp.sig.aY,sp.sig.bH.contains g=zv:=by
  intro g hg;cases N:sp.sig.bH.contains g with
  |false=>rfl
  |true=>have:=(Zs.1 hdisj) g (by simpa using N);simp[hg]at this
 generalize hfn:callName d sp.sig c.ren=f;have Um :∀g∈sp.sig.aY,f g=newName d sp.sig.aY g:=λg hg=>by subst hfn;unfold callName;rw[amg g hg]
 have awK:sp.sig.aY.map f=sp.sig.aY.map (newName d sp.sig.aY):=W8 Um;have amh :∀g,sp.sig.bH.contains g=zj->∃g',(g,g')∈c.ren/\f g=g':=by
  intro g N;have apc:=(Zs.1 akC) g (by simpa using N);cases U:sp.sig.pin.bG.lookup g with
  |none=>rw[U]at apc;cases apc
  |some k1=>obtain⟨q,hq,e⟩:=Ul hc _ (BJ U);obtain⟨q1,q2⟩:=q;simp only at e;subst e;refine⟨q2,hq,?_⟩;subst hfn;unfold callName;rw[N,(jf _ hq).2.2.1]
 generalize hbk:yV d sp.sig.aY=bk;have hbn :∀g∈sp.sig.aY,bk (f g)=zw g:=λg hg=>by rw[Um g hg];subst hbk;exact QA hg
 have hbs :∀g g0,bk g=zw g0->g0∈sp.sig.aY/\f g0=g:=λg g0 B=>by subst hbk;obtain⟨b1,b2⟩:=NS B;exact⟨b1,by rw[Um g0 b1];exact b2⟩
 have hfi :∀g∈sp.sig.aY,∀g'∈sp.sig.aY,f g=f g'->g=g':=λg hg g' Z e=>by rw[Um g hg,Um g' Z]at e;exact Hy hg e
 have ah4:ef.new=sp.sig.aY.map f:=by subst hef;subst hfn;rfl
 have ami:ef.aK=(if sp.sig.nG then c.wK.map (Fw.bf st.o)else[])++c.ren.map (λp=>(p.2,if sp.sig.bH.contains p.1 then yI c.A c.I f (Y.o p.1)else .none))++sp.sig.aY.map (λg=>(f g,yI c.A c.I f (Y.o g))):=by subst hef;subst hfn;subst abH;rfl
 have apd:ef.x=abw ((List.range sp.sig.cO).map λk=>YP c.A c.I f (Y.s k)):=by subst hef;subst hfn;subst abH;rfl
 have axH :∀g,bk g=zz->g∉ef.new:=λg B L=>by rw[ah4]at L;obtain⟨g0,U,rfl⟩:=XS.1 L;rw[hbn g0 U]at B;cases B
 have hbu :∀g,st.used g=zj->bk g=zz:=λg hu=>by
  cases B:bk g with
  |none=>rfl
  |some g0=>obtain⟨U,h2⟩:=hbs g g0 B;have:=hnew g (by rw[ah4];exact XS.2 ⟨g0,U,h2⟩);rw[hu]at this;cases this
 let J:St:=if sp.sig.nG then st1 else st
 have hB:Rel E J gh val w/\Lets E st J gh gh w w:=by
  by_cases K:sp.sig.nG=zj
  .have:J=st1:=by simp[J,K]
   rw[this];exact⟨U,hL1⟩
  .have:J=st:=by simp[J,K]
   rw[this];exact⟨h,⟨λa i b B=>⟨B,rfl⟩,λg _=>.inr ⟨⟨rfl,rfl⟩,O.gq _⟩⟩⟩
 obtain⟨hRB,hLB⟩:=hB;have hBs:J.s=st.s:=by
  by_cases K:sp.sig.nG=zj
  .have:J=st1:=by simp[J,K]
   rw[this,<-hst1];rfl
  .have:J=st:=by simp[J,K]
   rw[this]
 have hBu:J.used=st.used:=by
  by_cases K:sp.sig.nG=zj
  .have:J=st1:=by simp[J,K]
   rw[this,<-hst1];rfl
  .have:J=st:=by simp[J,K]
   rw[this]
 have hBo :∀g,J.o g=(if g∈c.wK/\sp.sig.nG=zj then(Fw.bf st.o g).2 else st.o g):=by
  intro g;by_cases K:sp.sig.nG=zj
  .have:J=st1:=by simp[J,K]
   rw[this,<-hst1,g_];by_cases hg:g∈c.wK<;>simp[hg,K]
  .have:J=st:=by simp[J,K]
   rw[this];simp[K]
 have YV :∀g,(J.o g).bW=zj->(st.o g).bW=zj:=by
  intro g hg;rw[hBo]at hg;split at hg
  .cases H:plainO st.o g with
   |none=>simpa[Fw.bf,H]using hg
   |some x=>obtain⟨a,i,sz,l⟩:=x;rw[nX H]at hg;cases hg
  .exact hg
 have hBr :∀p∈c.ren,J.o p.2=st.o p.2:=by intro p H;rw[hBo,QP λh=>(jf p H).2.1 h.1]
 generalize ah5:st.aK ef.aK ef.new=KD;have hFs:KD.s=st.s:=by subst ah5;rfl
 have hFu :∀g,st.used g=zj->KD.used g=zj:=λg hg=>by subst ah5;simp[St.aK,hg]
 have hFn :∀g∈sp.sig.aY,KD.used (f g)=zj:=λg hg=>by
  subst ah5;have:f g∈ef.new:=by rw[ah4];exact XS.2 ⟨g,hg,rfl⟩
  simp[St.aK,this]
 have YW :∀p∈c.ren,st.used p.2=zj:=λp H=>h.ul p.2 (by intro e;have:=(jf p H).1;rw[e]at this;cases this);have awM :∀g∈c.wK,st.used g=zj\/st.o g=.none:=λg hg=>by
  by_cases hn:st.o g=.none
  .exact .inr hn
  .exact .inl (h.ul g hn)
 have hFo :∀g,KD.o g=match ef.aK.lookup g with|some x=>x|none=>st.o g:=λg=>by subst ah5;rfl
 have YX :∀g∈sp.sig.aY,KD.o (f g)=yI c.A c.I f (Y.o g):=by
  intro g hg;have hfu:st.used (f g)=zv:=hnew _ (by rw[ah4];exact XS.2 ⟨g,hg,rfl⟩);have e2:(c.ren.map (λp=>(p.2,if sp.sig.bH.contains p.1 then yI c.A c.I f (Y.o p.1)else .none))).lookup (f g)=zz:=mY λL=>by obtain⟨p,H,e⟩:=XS.1 L;rw[<-e,YW p H]at hfu;cases hfu
  have e3:=yw (k:=f) (v:=λg=>yI c.A c.I f (Y.o g)) hg λg' Z e=>hfi g' Z g hg e;have X:(if sp.sig.nG then c.wK.map (Fw.bf st.o)else[]).lookup (f g)=zz:=by
   split
   .rw [nD,QP];intro L;have:=yN.used h (Xi hc) L;rw[this]at hfu;cases hfu
   .rfl
  rw[hFo,ami,mM,mM,X,e2,e3];rfl
 have OH :∀p∈c.ren,KD.o p.2=if sp.sig.bH.contains p.1 then yI c.A c.I f (Y.o p.1)else .none:=by
  intro p H;have X:(if sp.sig.nG then c.wK.map (Fw.bf st.o)else[]).lookup p.2=zz:=by
   split
   .rw [nD,QP (jf p H).2.1]
   .rfl
  have e2:=lX (v:=λp=>if sp.sig.bH.contains p.1 then yI c.A c.I f (Y.o p.1)else O.none) hn2 H;rw[hFo,ami,mM,mM,X,e2];rfl
 have Un :∀g,bk g=zz->g∉c.ren.map (·.2)->KD.o g=J.o g:=by
  intro g B hg;have e2:=mY (v:=λp=>if sp.sig.bH.contains p.1 then yI c.A c.I f (Y.o p.1)else O.none) hg;have e3:(sp.sig.aY.map (λg=>(f g,yI c.A c.I f (Y.o g)))).lookup g=zz:=yX λg' Z e=>by have:=hbn g' Z;rw[e,B]at this;cases this
  rw[hFo,ami,mM,mM,e2,e3,hBo];by_cases K:sp.sig.nG=zj
  .rw [QR K,nD];by_cases hg:g∈c.wK<;>simp[hg,K]
  .simp [K]
 have akD :∀p∈c.ren,sp.sig.bH.contains p.1=zj->(AU p.1).ad=(gh p.2).ad/\(AU p.1).cap=(gh p.2).cap:=by intro p H N;have:=(Xj p.1 (by simpa using N)).1;have e:=(jf p H).2.2.1;simp only[kN,e]at this;exact this
 generalize hbk2:(λg=>match bk g with|some g0=>zw g0|none=>(c.ren.find? (λ(p:Nat×Nat)=>p.2==g&&sp.sig.bH.contains p.1)).map (λ(p:Nat×Nat)=>p.1))=bk2;have apf :∀g g0,bk2 g=zw g0->(g0∈sp.sig.aY/\f g0=g)\/(bk g=zz/\sp.sig.bH.contains g0=zj/\(g0,g)∈c.ren):=by
  intro g g0 B;subst hbk2;simp only at B;cases U:bk g with
  |some g1=>rw[U]at B;cases B;exact .inl (hbs g _ U)
  |none=>rw[U]at B;simp only[Wg]at B;obtain⟨p,H,rfl⟩:=B;have q1:=Kn H;have q2:=vp H;simp only[X1,beq_iff_eq]at q2;obtain⟨rfl,q3⟩:=q2;exact .inr ⟨rfl,q3,q1⟩
 have hb2 :∀g∈sp.sig.aY++sp.sig.bH,bk2 (f g)=zw g:=by
  intro g hg;subst hbk2;simp only;rcases Z0.1 hg with hg|hg
  .rw [hbn g hg]
  .have N:sp.sig.bH.contains g=zj:=by simpa using hg
   obtain⟨g',L,e⟩:=amh g N;rw[e,hbu g' (YW _ L)];cases U:c.ren.find? λp=>p.2==g'&&sp.sig.bH.contains p.1 with
   |none=>have:=List.find?_eq_none.1 U _ L;simp at this;exact absurd hg this
   |some p=>
    have q1:=Kn U;have q2:=vp U;simp only[X1,beq_iff_eq]at q2;obtain⟨e2,q3⟩:=q2;have l1:=(jf _ L).2.2.1;have e3:p=(g,g'):=by have:=lX (v:=λp=>p) hn2 q1;have h2:=lX (v:=λp=>p) hn2 L;rw[e2]at this;simp only at h2;rw[this]at h2;exact Wz h2
    rw[e3];rfl
 let bQ:Nat->Gh:=λg=>match bk2 g with|some g0=>AU g0|none=>gh g
 have hfp :∀p∈c.ren,sp.sig.bH.contains p.1=zj->f p.1=p.2:=by intro p H N;obtain⟨g',L,e⟩:=amh p.1 N;have l1:=(jf _ L).2.2.1;have l2:=(jf _ H).2.2.1;simp only at l1;rw[l2]at l1;rw[e,<-Wz l1]
 have hgb :∀g g0,bk2 g=zw g0->bQ g=AU g0:=λg g0 B=>by simp only[bQ,B]
 have hgn :∀g∈sp.sig.aY,bQ (f g)=AU g:=λg hg=>hgb _ _ (hb2 g (W6 _ hg));have hgi :∀p∈c.ren,sp.sig.bH.contains p.1=zj->bQ p.2=AU p.1:=by intro p H N;have:=hb2 p.1 (UT _ (by simpa using N));rw[hfp p H N]at this;exact hgb _ _ this
 have hgo :∀g,bk g=zz->g∉c.ren.map (·.2)->bQ g=gh g:=λg B L=>by
  cases h2:bk2 g with
  |none=>simp only[bQ,h2]
  |some g0=>
   rcases apf g g0 h2 with⟨b1,b2⟩|⟨_,_,b3⟩
   .rw [<-b2,hbn g0 b1]at B;cases B
   .exact absurd (XS.2 ⟨_,b3,rfl⟩) L
 have hFb :∀g g0,bk2 g=zw g0->KD.o g=yI c.A c.I f (Y.o g0):=λg g0 B=>by
  rcases apf g g0 B with⟨b1,b2⟩|⟨_,b2,b3⟩
  .rw [<-b2];exact YX g0 b1
  .have e:=OH _ b3;simp only[b2,if_true]at e;exact e
 have ad6 :∀g∈sp.sig.aY++sp.sig.bH,KD.used (f g)=zj:=by
  intro g hg;rcases Z0.1 hg with hg|hg
  .exact hFn g hg
  .obtain ⟨g',L,e⟩:=amh g (by simpa using hg);rw[e];exact hFu _ (YW _ L)
 have hxo :∀g0,Y.o g0≠.none->∃k n',(g0,k)∈sp.sig.aW.bG/\Y.o g0=(u_ dP n' k).1:=λg0 hn=>by subst abH;exact lW (Xd hn)
 have apg :∀g0,sp.sig.bH.contains g0=zj->(∃ws,(mk sp.sig.pin c.ins).o g0=.box ws)->∃ws,Y.o g0=.box ws:=by
  rintro g0 N ⟨ws,B⟩;have hk:=(Zs.1 akC) g0 (by simpa using N);cases U:sp.sig.pin.bG.lookup g0 with
  |none=>rw[U]at hk;cases hk
  |some k1=>
   cases h2:sp.sig.aW.bG.lookup g0 with
   |none=>rw[U,h2]at hk;cases k1<;>cases hk
   |some k2=>
    rw[U,h2]at hk;obtain⟨n1,X⟩:=Qz (vs:=c.ins) U;obtain⟨n2,e2⟩:=Qz (vs:=dP) h2;rw[B]at X;cases k1 with
    |box ks=>
     cases k2 with
     |box ks'=>subst abH;exact⟨_,e2⟩
     |arr=>cases hk
     |it=>cases hk
     |aP=>cases hk
    |arr=>cases X
    |it=>cases X
    |aP=>cases X
 have ath :∀g0 k,(g0,k)∈sp.sig.aW.bG->k.isA=zj->sp.sig.nG=zj:=λg0 k L ha=>by simp only[A_.nG,Ka,KS];exact .inr ⟨_,L,ha⟩
 have ati :∀t k,(t,k)∈sp.sig.aW.slots->k.isA=zj->sp.sig.nG=zj:=λt k L ha=>by simp only[A_.nG,Ka,KS];exact .inl ⟨_,L,ha⟩
 have hOut :∀g0,Ow (Hw c.A c.I sp.sig.nG) bk2 (λ_=>False) (Y.o g0) (yI c.A c.I f (Y.o g0))/\∀g∈(yI c.A c.I f (Y.o g0)).names,∃g1∈sp.sig.aY++sp.sig.bH,g=f g1:=by
  intro g0;by_cases hn:Y.o g0=.none
  .rw [hn];exact⟨.none _,by simp[yI,O.names]⟩
  .obtain ⟨k,n',U,h2⟩:=hxo g0 hn;rw[h2];refine apb hb2 (λws e=>?_) (ath g0 k U) n';subst e;have hk:=(Zs.1 Bv) _ U;simp only[X1]at hk;exact hk.1
 have YZ :∀g,(KD.o g).bW=zj->
   (∃g0,(Y.o g0).bW=zj/\bQ g=AU g0/\KD.o g=yI c.A c.I f (Y.o g0)/\((g0∈sp.sig.aY/\g=f g0)\/(sp.sig.bH.contains g0=zj/\(g0,g)∈c.ren)))\/
   ((J.o g).bW=zj/\bQ g=gh g/\g∉c.ren.map (·.2)/\bk g=zz/\KD.o g=J.o g):=by
  intro g M;cases B:bk g with
  |some g0=>obtain⟨b1,b2⟩:=hbs g g0 B;subst b2;have e:=YX g0 b1;exact .inl ⟨g0,by rw[e,OE]at M;exact M,hgn g0 b1,e,.inl ⟨b1,rfl⟩⟩
  |none=>
   by_cases L:g∈c.ren.map (·.2)
   .obtain ⟨p,H,e⟩:=XS.1 L;subst e;have e:=OH p H;cases N:sp.sig.bH.contains p.1 with
    |false=>rw[e,N]at M;cases M
    |true=>rw[N,QR rfl]at e;exact .inl ⟨p.1,by rw[e,OE]at M;exact M,hgi p H N,e,.inr ⟨N,H⟩⟩
   .have e:=Un g B L;exact .inr ⟨by rw[e]at M;exact M,hgo g B L,L,by first|exact B|rfl,e⟩
 have hsplit :∀g b,(KD.o g).bW=zj->(bQ g).has b->
   (∃g0,(Y.o g0).bW=zj/\(AU g0).has b/\KD.o g=yI c.A c.I f (Y.o g0)/\((g0∈sp.sig.aY/\g=f g0)\/(sp.sig.bH.contains g0=zj/\(g0,g)∈c.ren)))\/
   ((J.o g).bW=zj/\(gh g).has b/\g∉c.ren.map (·.2)/\bk g=zz/\KD.o g=J.o g):=by
  intro g b M T;rcases YZ g M with⟨g0,q1,q2,q3⟩|⟨q1,q2,q3⟩
  .exact .inl ⟨g0,q1,by rw[<-q2];exact T,q3⟩
  .exact .inr ⟨q1,by rw[<-q2];exact T,q3⟩
 have ad7 :∀b,E'.Wr b->∃p∈c.ren,(gh p.2).has b:=λb B=>by subst hE';obtain⟨p,H,_,U⟩:=B;exact⟨p,H,U⟩
 have hEB:E'.B0=w.heap.size:=by subst hE';rfl
 have hEw:E'.w0=w:=by subst hE';rfl
 have hframe :∀b,b<w.heap.size->¬ E'.Wr b->w'.heap[b]?=w.heap[b]?:=λb B hw=>by rw[hx.frame b (by rw[hEB];exact B) hw,hEw]
 have amj :∀b,(∀p∈c.ren,¬ (gh p.2).has b)->¬ E'.Wr b:=λb B hw=>by obtain⟨p,H,X⟩:=ad7 b hw;exact B p H X
 have hsize:w.heap.size<=w'.heap.size:=by rw[<-hEB];exact hx.size
 have G_ :∀g,st.used g=zj->KD.o g=.none\/(((bQ g).ad=(gh g).ad/\(bQ g).cap=(gh g).cap)/\(J.o g).like (KD.o g)):=by
  intro g hu;have B:=hbu g hu;by_cases L:g∈c.ren.map (·.2)
  .obtain ⟨p,H,e⟩:=XS.1 L;subst e;cases N:sp.sig.bH.contains p.1 with
   |false=>exact .inl (by rw[OH p H,N];rfl)
   |true=>
    refine .inr ⟨by rw[hgi p H N];exact akD p H N,?_⟩;rw[hBr p H,OH p H,N,QR rfl];have K:=(Xj p.1 (by simpa using N)).2;rw[abH]at K;rcases (jf p H).2.2.2 with⟨_,ws,ws1,e,eb⟩|⟨a,i,sz,l,e,_,ea⟩|⟨a,i,sz,au,l,e,_,ea⟩
    .obtain ⟨ws',e'⟩:=apg p.1 N ⟨_,eb⟩;rw[e,e'];trivial
    .rw [ea]at K;rw[e];generalize Y.o p.1=z at K;cases z with
     |none=>trivial
     |arr=>exact K
     |aP=>exact K.elim
     |box=>exact K.elim
     |it=>exact K.elim
    .rw [ea]at K;rw[e];generalize Y.o p.1=z at K;cases z with
     |none=>trivial
     |arr=>exact K
     |aP=>exact K
     |box=>exact K.elim
     |it=>exact K.elim
  .rw [Un g B L];exact .inr ⟨by rw[hgo g B L];exact⟨rfl,rfl⟩,O.gq _⟩
 have ad8:Lets E J KD gh bQ w w':=by
  refine⟨λa i b B=>⟨⟨B.1,by have:=B.2.1;omega,λg M T=>?_⟩,?_⟩,λg hu=>G_ g (by rw[<-hBu];exact hu)⟩
  .rcases hsplit g b M T with⟨g0,o0,d0,_,_⟩|⟨o0,d0,_⟩
   .have hw0:=(hx.wr g0 b o0 d0).1;rw[hEB]at hw0;rcases hw0 with hw0|hw0
    .have:=B.2.1;omega
    .obtain ⟨p,H,X⟩:=ad7 b hw0;exact B.2.2 p.2 (by rw[hBr p H];exact(jf p H).1) X
   .exact B.2.2 g o0 d0
  .exact hframe b B.2.1 (amj b λp H X=>B.2.2 p.2 (by rw[hBr p H];exact(jf p H).1) X)
 have aph :∀b,E'.Wr b->E.Wr b->(∀g ws,Y.o g=.box ws->(AU g).has b->sp.sig.bH.contains g=zv)->c.I.2=zj:=by
  intro b B hEb hno;obtain⟨p,H,X⟩:=ad7 b B;rcases (jf p H).2.2.2 with⟨N,ws,ws1,e,eb⟩|⟨a,i,sz,l,e,hci,_⟩|⟨a,i,sz,au,l,e,hci,_⟩
  .obtain ⟨ws',e'⟩:=apg p.1 N ⟨_,eb⟩;have:=hno p.1 ws' e' (by
    rcases X with⟨ad,k1,k2⟩|k1
    .exact .inl ⟨ad,by rw[(akD p H N).1];exact k1,k2⟩
    .rw [h.ns p.2 (jf p H).1 (by rw[e];rfl) b]at k1;cases k1)
   rw[N]at this;cases this
  .exact hci.2 (h.wi p.2 i b (by rw[e];rfl) X hEb)
  .exact hci.2 (h.wi p.2 i b (by rw[e];rfl) X hEb)
 have hcls :∀{a i a' i':Bool} {A:Bool×Bool},(A.1=zj->a'=zj)->(A.2=zj->i'=zj)->∀{b:Nat},((A.1=zj/\E.FA b)\/(A.2=zj/\(E.FI b\/E.Wr b))\/E.B0<=b\/fH.has b)->((a'=zj/\E.FA b)\/(i'=zj/\(E.FI b\/E.Wr b))\/E.B0<=b\/fH.has b):=by
  intro a i a' i' A U h2 b B;rcases B with⟨q1,q2⟩|⟨q1,q2⟩|q
  .exact .inl ⟨U q1,q2⟩
  .exact .inr (.inl ⟨h2 q1,q2⟩)
  .exact .inr (.inr q)
 have hcast:Cast (Hw c.A c.I sp.sig.nG) bk2 (λ_=>False) E' E Y KD AU bQ w':=by
  refine⟨λa i a' i' b hC B=>?_,λg g' L sz len M=>⟨by rw[hgb g' g L];exact⟨rfl,rfl⟩,by rw[hFb g' g L,ah1]at M;exact M⟩,
   λg g' L ws M=>⟨by rw[hgb g' g L],by rw[hFb g' g L]at M;exact ah2 M⟩,λg g' L s n M=>⟨by rw[hgb g' g L],by rw[hFb g' g L]at M;exact amf M⟩,λg' hf=>hf.elim⟩
  obtain⟨hC,hA⟩:=hC;have ha':a'=((a&&c.A.1)||(i&&c.I.1)):=W3 Prod.fst hC;have hi':i'=((a&&c.A.2)||(i&&c.I.2)):=W3 Prod.snd hC;have akE :∀g,(Y.o g).bW=zj->¬ (AU g).has b:=B.2.2;have hcase:((a'=zj/\E.FA b)\/(i'=zj/\(E.FI b\/E.Wr b))\/E.B0<=b\/fH.has b)/\(∀g,(J.o g).bW=zj->g∉c.ren.map (·.2)->¬ (gh g).has b):=by
   have hb1:=B.1;subst hE';rcases hb1 with⟨ha,hFA⟩|⟨N,hFI|hWr⟩|hge|hgl
   .have K:=hA ha;have hst:J=st1:=by simp[J,K]
    refine⟨hcls (a:=a) (i:=i) (A:=c.A) (by intro h;simp[ha',ha,h]) (by intro h;simp[hi',ha,h]) hFA.1,λg M _=>?_⟩;rw[hst]at M;exact hFA.2.2 g M
   .refine ⟨hcls (a:=a) (i:=i) (A:=c.I) (by intro h;simp[ha',N,h]) (by intro h;simp[hi',N,h]) hFI.1,λg M _=>?_⟩;exact hFI.2.2 g (YV g M)
   .obtain ⟨p,H,ow,X⟩:=hWr;refine⟨?_,λg M hng T=>?_⟩
    .rcases (h.wr p.2 b (jf p H).1 X).1 with q|q
     .exact .inr (.inr (.inl q))
     .have:=aph b ⟨p,H,ow,X⟩ q λg ws1 o1 d1=>absurd d1 (akE g (by rw[o1];rfl));exact .inr (.inl ⟨by simp[hi',N,this],.inr q⟩)
    .have:=h.inj g p.2 b (YV g M) (jf p H).1 T X;exact hng (this▸XS.2 ⟨p,H,rfl⟩)
   .refine ⟨.inr (.inr (.inl (JS h.size hge))),λg M _ T=>?_⟩;have:=(hRB.wr g b M T).2;have hge:w.heap.size<=b:=hge;omega
   .refine ⟨.inr (.inr (.inr hgl)),λg M _ T=>?_⟩;obtain⟨g1,g2⟩:=E.adH hgl;rcases (hRB.wr g b M T).1 with q|q
    .omega
    .exact g2 q
  refine⟨hcase.1,B.2.1,λg M T=>?_⟩;rcases hsplit g b M T with⟨g0,o0,d0,_,_⟩|⟨o0,d0,n0,_⟩
  .exact akE g0 o0 d0
  .exact hcase.2 g o0 n0 d0
 have akF :∀g0,ni E KD bQ w' (yI c.A c.I f (Y.o g0)) (AU g0):=λg0=>hcast.Dk (hOut g0).1 (hx.bG g0);have NT:Rel E KD bQ val w':=by
  refine hRB.step ad8 (hFs.trans hBs.symm) (λg hg=>hFu g (by rw[<-hBu];exact hg)) (λg=>?_) (λg1 g2 b U h2 k1 k2=>?_) (λg b M T=>?_) (λg i b M T hw=>?_) (λg M hd b=>?_) (λb B hw=>?_) hsize (by rw[hx.os,hEw]) (by rw[hx.tape,hEw]) (by rw[hx.output,hEw]) (λg g' Z=>?_) (λg hg=>?_)
  .cases B:bk g with
   |some g0=>obtain⟨b1,b2⟩:=hbs g g0 B;subst b2;rw[YX g0 b1,hgn g0 b1];exact akF g0
   |none=>
    by_cases L:g∈c.ren.map (·.2)
    .obtain ⟨p,H,e⟩:=XS.1 L;subst e;rw[OH p H];cases N:sp.sig.bH.contains p.1 with
     |false=>trivial
     |true=>rw[QR rfl,hgi p H N];exact akF p.1
    .rw [Un g B L,hgo g B L];refine ad8.Dk (λM b T=>hframe _ (hRB.wr g b M T).2 (amj _ λp H X=>?_)) (λg' Z=>hRB.uo g g' Z) (hRB.bG g);have:=h.inj p.2 g b (jf p H).1 (YV g M) X T;exact L (this▸XS.2 ⟨p,H,rfl⟩)
  .have mixed :∀g1 g2 b g0,(Y.o g0).bW=zj->(AU g0).has b->(J.o g2).bW=zj->(gh g2).has b->g2∉c.ren.map (·.2)->g1=g2:=by
    intro g1 g2 b g0 o1 d1 o2 d2 n2;exfalso;rcases (hx.wr g0 b o1 d1).1 with q|q
    .rw [hEB]at q;have:=(hRB.wr g2 b o2 d2).2;omega
    .obtain ⟨p,H,X⟩:=ad7 _ q;have:=h.inj p.2 g2 b (jf p H).1 (YV g2 o2) X d2;exact n2 (this▸XS.2 ⟨p,H,rfl⟩)
   rcases hsplit g1 b U k1 with⟨q1,o1,d1,_,l1⟩|⟨o1,d1,n1,_⟩<;>rcases hsplit g2 b h2 k2 with⟨q2,o2,d2,_,l2⟩|⟨o2,d2,n2,_⟩
   .have:=hx.inj q1 q2 b o1 o2 d1 d2;subst this;rcases l1 with⟨m1,X⟩|⟨i1,m1⟩<;>rcases l2 with⟨m2,e2⟩|⟨i2,m2⟩
    .rw [X,e2]
    .rw [amg q1 m1]at i2;cases i2
    .rw [amg q1 m2]at i1;cases i1
    .have l1:=(jf _ m1).2.2.1;have l2:=(jf _ m2).2.2.1;rw[l1]at l2;exact Wz l2
   .exact mixed g1 g2 b q1 o1 d1 o2 d2 n2
   .exact (mixed g2 g1 b q2 o2 d2 o1 d1 n1).symm
   .exact hRB.inj g1 g2 b o1 o2 d1 d2
  .rcases hsplit g b M T with⟨g0,o0,d0,_,_⟩|⟨o0,d0,_⟩
   .have:=hx.wr g0 b o0 d0;refine⟨?_,this.2⟩;rcases this.1 with q|q
    .rw [hEB]at q;exact .inl (JS h.size q)
    .obtain ⟨p,H,X⟩:=ad7 _ q;exact(h.wr p.2 b (jf p H).1 X).1
   .have:=hRB.wr g b o0 d0;exact⟨this.1,by omega⟩
  .rcases hsplit g b (O.lT M) T with⟨g0,o0,d0,e0,l0⟩|⟨o0,d0,_,_,e0⟩
   .rw [e0]at M;obtain⟨a1,i1,U,e2⟩:=abD M;have hlt:b<w.heap.size:=by have:=h.wb _ hw;have:=h.size;omega
    rcases (hx.wr g0 b o0 d0).1 with q|q
    .rw [hEB]at q;omega
    .have hi1:=hx.wi g0 i1 b U d0 q;have:=aph b q hw λg3 ws3 o3 d3=>by have:=hx.inj g3 g0 b (by rw[o3];rfl) o0 d3 d0;subst this;rw[o3]at U;cases U
     rw[e2];simp[rW,hi1,this]
   .rw [e0]at M;exact hRB.wi g i b M d0 hw
  .rcases YZ g M with⟨g0,o0,e,e0,_⟩|⟨o0,e,_,_,e0⟩
   .rw [e];exact hx.ns g0 o0 (by rw[e0,Xh]at hd;exact hd) b
   .rw [e];exact hRB.ns g o0 (by rw[e0]at hd;exact hd) b
  .refine hframe b (VV B h.size) (amj b λp H X=>?_);rcases (h.wr p.2 b (jf p H).1 X).1 with q|q
   .omega
   .exact hw q
  .cases B:bk g with
   |some g0=>obtain⟨b1,b2⟩:=hbs g g0 B;subst b2;rw[YX g0 b1]at Z;obtain⟨g1,m1,rfl⟩:=(hOut g0).2 g' Z;exact ad6 g1 m1
   |none=>
    by_cases L:g∈c.ren.map (·.2)
    .obtain ⟨p,H,e⟩:=XS.1 L;subst e;rw[OH p H]at Z;cases N:sp.sig.bH.contains p.1 with
     |false=>rw[N]at Z;simp[O.names]at Z
     |true=>rw[N,QR rfl]at Z;obtain⟨g1,m1,rfl⟩:=(hOut p.1).2 g' Z;exact ad6 g1 m1
    .rw [Un g B L]at Z;exact hFu g' (by rw[<-hBu];exact hRB.uo g g' Z)
  .cases B:bk g with
   |some g0=>obtain⟨b1,b2⟩:=hbs g g0 B;subst b2;exact hFn g0 b1
   |none=>
    by_cases L:g∈c.ren.map (·.2)
    .obtain ⟨p,H,e⟩:=XS.1 L;subst e;exact hFu _ (YW p H)
    .rw [Un g B L]at hg;exact hFu g (by rw[<-hBu];exact hRB.ul g hg)
 have apj :∀k,sO E KD bQ w' (YP c.A c.I f (Y.s k)) (rs.getD k undef)/\∀g∈(YP c.A c.I f (Y.s k)).names,∃g1∈sp.sig.aY++sp.sig.bH,g=f g1:=by
  intro k;have hk:=hx.slots k;subst abH;have e0:(mk sp.sig.aW dP).s k=match (dQ dP 0 sp.sig.aW.slots).1.lookup k with|some x=>x|none=>.no:=rfl
  cases hxk:(dQ dP 0 sp.sig.aW.slots).1.lookup k with
  |none=>rw[e0,hxk];exact⟨.one _ _ (.no _),by simp[YP,V.names,W.names]⟩
  |some x=>rw[hxk]at e0;rw[e0]at hk ⊢;obtain⟨kk,n',U,h2⟩:=yU hxk;obtain⟨y,e,h3,h4⟩:=apa (vs:=dP) (A:=c.A) (I:=c.I) hb2 ((Zs.1 hos) _ U) (ati k kk U) n';simp only[h2,e]at hk ⊢;cases hk with|v _ _ hk=>exact⟨hcast.abj h3 hk,h4⟩
 refine⟨bQ,NT,⟨λa i b B=>?_,λg hu=>?_⟩,?_,?_⟩
 .obtain ⟨q1,q2⟩:=hLB.ok a i b B;exact ad8.ok a i b q1
 .rcases G_ g hu with q|⟨q1,q2⟩
  .exact .inl q
  .rcases hLB.names g hu with q|⟨_,q⟩
   .rw [q]at q2;rcases O.KA (x:=.none) (O.gq _) q2 with q|q
    .exact .inl q
    .exact .inl (O.OG q)
   .rcases O.KA q q2 with q|q
    .exact .inl q
    .exact .inr ⟨q1,q⟩
 .rw [apd];have hl:((List.range sp.sig.cO).map λk=>YP c.A c.I f (Y.s k)).length=rs.length:=by simp[hrl]
  have hj :∀(j:Nat) x v,((List.range sp.sig.cO).map λk=>YP c.A c.I f (Y.s k))[j]?=zw x->rs[j]?=zw v->sO E KD bQ w' x v:=by
   intro j x v hx' hv;rw[Z2]at hx';obtain⟨k,hk,rfl⟩:=Wg.1 hx';obtain⟨hlt,hk⟩:=Q3.1 hk;simp at hk;subst hk;have:=(apj j).1
   rwa [Q2,hv]at this
  generalize (List.range sp.sig.cO).map (λk=>YP c.A c.I f (Y.s k))=xs at hl hj;unfold abw aby
  match xs,rs,hl,hj with
  | [],[],_,hj=>exact .jq _ _ rfl hj
  | [x],[v],_,hj=>exact .v _ _ (hj 0 x v rfl rfl)
  |x::y::xs,v::u::vs,hl,hj=>exact .jq _ _ hl hj
 .intro g hg;have :∃k,g∈(YP c.A c.I f (Y.s k)).names:=by
   rw[apd]at hg;generalize hxs:(List.range sp.sig.cO).map (λk=>YP c.A c.I f (Y.s k))=xs at hg;have hin :∃x∈xs,g∈x.names:=by
    unfold abw at hg;split at hg
    .exact ⟨_,by simp,hg⟩
    .simpa [S.names,Z6]using hg
   obtain⟨x,hx1,hx2⟩:=hin;rw[<-hxs]at hx1;obtain⟨k,_,rfl⟩:=XS.1 hx1;exact⟨k,hx2⟩
  obtain⟨k,hk⟩:=this;obtain⟨g1,m1,rfl⟩:=(apj k).2 g hk;exact ad6 g1 m1
theorem Xk{Pg:Program}{fn:FuncId}{sp:Spec}(hs:Sound Pg fn sp)(h:Rel E st gh val w){args:List S}{vals:List Value}(J :∀t,dR E st gh w (args.getD t .no) (vals.getD t undef))(j:vals.length=sp.sig.bC)
  {c:Oy} (K:jh sp.sig st.o args=zw c) (L:c.fine sp.sig=zj) {dP:List P} (M:sp.R c.ins dP) (d:Nat)
  {b:Eff} (B:b=lG sp.sig d st.o c dP) (q :∀g∈b.new,st.used g=zv) :
  Calls Pg fn vals.toArray w λe y=>∃v z,e=.returned v/\Rel E (st.aK b.aK b.new) z val y/\Lets E st (st.aK b.aK b.new) gh z w y/\dR E (st.aK b.aK b.new) z y b.x v/\∀g∈b.x.names,(st.aK b.aK b.new).used g=zj:=by
 obtain⟨N,T,q1,q2,q3,_,q4⟩:=abG hs.1 h J K L;refine Calls.mono (hs.2.2 N w vals T c.ins dP M q1 q2 q3 j) λe y U=>?_;obtain⟨X,Y,H,rfl,Z,Xj⟩:=U;obtain⟨z,r1,r2,r3,r4⟩:=q4 d dP b B q y X Y H Z Xj;exact⟨_,z,rfl,r1,r2,r3,r4⟩
end
end Go.Fw

namespace Go.Fw
variable [fH]
section
variable {o o':Nat->O}
theorem Fz{g:Nat}{x:Bool×Bool×Nat×List (List P)}(h:plainO o g=zw x):(o g).names=(o g).hn/\∀d∈(o g).hn,(o d).hn=[]:=by
 obtain⟨a,i,w,l⟩:=x;rcases wW h with⟨y,h⟩|⟨j,h⟩|⟨a0,i0,j,z,n,c,d,m,B,H,q,J,h,hd,_⟩
 .rw [h];exact⟨rfl,λd hd=>by cases hd⟩
 .rw [h];exact⟨rfl,λd hd=>by cases hd⟩
 .rw [h];refine⟨rfl,λK b=>?_⟩;simp only[O.hn,dL,X2]at b;subst b;rw[hd];rfl
theorem QB{g:Nat}(h:Agree o o' g):bf o g=bf o' g:=by simp only[bf,Dl h,h.1]
theorem Uo{g d:Nat}(h:Agree o o' g){x:Bool×Bool×Nat×List (List P)}(c:plainO o g=zw x)(hd:d∈(o g).hn):Agree o o' d:=by refine⟨h.2 d hd,λj b=>?_⟩;rw[(Fz c).2 d hd]at b;cases b
theorem FB{x:W}(h :∀g∈x.names,Agree o o' g):x.toP o=x.toP o':=by cases x<;>simp only[W.toP]<;>(try rw[Dl (h _ (by simp[W.names])),(h _ (by simp[W.names])).1])
theorem BK{x:W}{y:P}{a i:Bool}{gs:List Nat}(h:x.toP o=zw (y,a,i,gs))(c :∀g∈x.names,Agree o o' g):∀g∈gs,Agree o o' g:=by
 cases x<;>simp only[W.toP]at h
 case p=>simp only[Q0,QQ]at h;obtain⟨_,_,_,rfl⟩:=h;simp
 case dJ=>simp only[Q0,QQ]at h;obtain⟨_,_,_,rfl⟩:=h;simp
 case own g=>
  split at h
  .rename_i b;simp only[Q0,QQ]at h;obtain⟨_,_,_,rfl⟩:=h;have hg:=c g (by simp[W.names]);rw[(Fz b).1];intro d hd;rcases Z0.1 hd with hd|hd
   .exact Uo hg b hd
   .rw [X2]at hd;subst hd;exact hg
  .cases h
 case vw g lo j=>
  split at h
  .rename_i b;simp only[Q0,QQ]at h;obtain⟨_,_,_,rfl⟩:=h;have hg:=c g (by simp[W.names]);rw[(Fz b).1];intro d hd;rcases Z0.1 hd with hd|hd
   .exact Uo hg b hd
   .rw [X2]at hd;subst hd;exact hg
  .cases h
 all_goals cases h
theorem xB:∀{xs:List W},(∀x∈xs,∀g∈x.names,Agree o o' g)->yG o xs=yG o' xs
 | [],_=>rfl
 |x::xs,h=>by simp only[yG];rw[FB (h x (by simp)),xB λy b=>h y (by simp[b])]
theorem yY:∀{xs:List W} {b:List P} {a i:Bool} {gs:List Nat},yG o xs=zw (b,a,i,gs)->(∀x∈xs,∀g∈x.names,Agree o o' g)->∀g∈gs,Agree o o' g
 | [],b,a,i,gs,h,_=>by simp[yG]at h;obtain⟨_,_,_,rfl⟩:=h;simp
 |x::xs,b,a,i,gs,h,c=>by
  simp only[yG]at h;split at h
  .rename_i d j;simp only[Q0,QQ]at h;obtain⟨_,_,_,rfl⟩:=h;intro g hg;rcases Z0.1 hg with hg|hg
   .exact BK d (c x (by simp)) g hg
   .exact yY j (λy m=>c y (by simp[m])) g hg
  .cases h
theorem oL{gs:List Nat}(h :∀g∈gs,Agree o o' g):gs.map (bf o)=gs.map (bf o'):=W8 λg hg=>QB (h g hg)
theorem KE{sz:Nat}{x:W}(h :∀g∈x.names,o g=o' g):x.rows o sz=x.rows o' sz:=by cases x<;>simp only[W.rows]<;>(try rw[h _ (by simp[W.names])])
theorem Hz{x:W}(h :∀g∈x.names,o g=o' g):lenOf o x=lenOf o' x:=by cases x<;>simp only[lenOf]<;>(try rw[h _ (by simp[W.names])])
theorem BL{x:W}(h :∀g∈x.names,o g=o' g):x.live o=x.live o':=by cases x<;>simp only[W.live]<;>(try rw[h _ (by simp[W.names])])
theorem QC{tt:TT}{d:Nat}{b:TypeId}{s x:W}(hs :∀g∈s.names,o g=o' g)(h :∀g∈x.names,o g=o' g):wP tt d o b s x=wP tt d o' b s x:=by
 unfold wP;split
 .split
  .split
   .rfl
   .rw [KE h];split
    .rfl
    .cases s<;>simp only<;>(try rw[hs _ (by simp[W.names])])
  .rfl
 .rfl
theorem BM{place:Nat->Option (Nat×Nat)}:∀{ps:List (Nat×S)} {b c:List W},ny place b ps=zw c->∀x∈c,x∈b\/∃p∈ps,∀g∈x.names,g∈p.2.names
 | [],b,c,h=>by simp only[ny,Q0]at h;subst h;intro x hx;exact .inl hx
 |(n,s)::ps,b,c,h=>by
  cases s with
  |v y=>
   simp only[ny]at h;split at h
   .split at h
    .intro x hx;rcases BM h x hx with hx|⟨p,d,hg⟩
     .unfold aZ at hx;rcases Z0.1 hx with hx|hx
      .rcases Z0.1 hx with hx|hx
       .exact .inl (Wl hx)
       .refine .inr ⟨(n,.v y),by simp,λg hg=>?_⟩;cases y with
        |one y=>simp only[V.words,X2]at hx;subst hx;simpa[S.names,V.names]using hg
        |agg j=>simp only[V.words]at hx;simp only[S.names,V.names,Z6];exact⟨x,hx,hg⟩
      .exact .inl (UB hx)
     .exact .inr ⟨p,by simp[d],hg⟩
    .cases h
   .cases h
  |jq=>simp[ny]at h
  |no=>simp[ny]at h
theorem HY{y:V}{x:W}(h:x∈y.words){g:Nat}(hg:g∈x.names):g∈(S.v y).names:=by
 cases y with
 |one y=>simp only[V.words,X2]at h;subst h;simpa[S.names,V.names]using hg
 |agg b=>simp only[V.words]at h;simp only[S.names,V.names,Z6];exact⟨x,h,hg⟩
theorem DR{tt:TT}{d:Nat}{F K:Operand->S}{op:Op}{ty:TypeId}(j :∀x∈op.operands.toList,F x=K x)(Z :∀x∈op.operands.toList,∀g∈(F x).names,Agree o o' g):
  kernel tt d o F op ty=kernel tt d o' K op ty:=by
 have L :∀x∈op.operands.toList,∀g∈(F x).names,o g=o' g:=λx B g hg=>(Z x B g hg).1;cases op with
 |move x=>simp only[kernel,<-j x (by simp[Op.operands])]
 |assign x=>simp only[kernel,<-j x (by simp[Op.operands])]
 |pick c x y=>simp only[kernel,<-j c (by simp[Op.operands]),<-j x (by simp[Op.operands]),<-j y (by simp[Op.operands])]
 |alloc t=>rfl
 |box t x=>simp only[kernel,<-j x (by simp[Op.operands])]
 |build t N=>
  have e:N.toList.map (λp=>(p.1,F p.2))=N.toList.map (λp=>(p.1,K p.2)):=W8 λp T=>by rw[j p.2 (by simp only[Op.operands];exact XS.2 ⟨p,T,rfl⟩)]
  simp only[kernel,<-e]
 |buildSlice t n N=>
  have e:N.toList.map (λp=>(p.1,F p.2))=N.toList.map (λp=>(p.1,K p.2)):=W8 λp T=>by rw[j p.2 (by simp only[Op.operands];exact XS.2 ⟨p,T,rfl⟩)]
  simp only[kernel,<-e];split
  .split
   .rename_i ie _;split
    .rename_i ws hws;have hn :∀x∈ws,∀g∈x.names,Agree o o' g:=by
      intro x B g hg;rcases BM hws x B with h|⟨p,T,h⟩
      .have:=yR h;obtain⟨v,_,rfl⟩:=XS.1 this;rw[qw]at hg;cases hg
      .obtain ⟨q,hq,rfl⟩:=XS.1 T;exact Z q.2 (by simp only[Op.operands];exact XS.2 ⟨q,hq,rfl⟩) g (h g hg)
     rw[<-xB hn];split
     .rename_i h;rw[oL (yY h hn)]
     .rfl
    .rfl
   .rfl
  .rfl
 |load t x=>have B:=j x (by simp[Op.operands]);have hn:=L x (by simp[Op.operands]);simp only[kernel,<-B];generalize F x=M at hn;split<;>simp_all [S.names,V.names,W.names]
 |store t x y=>
  have B:=j x (by simp[Op.operands]);have hy:=j y (by simp[Op.operands]);have hn:=L x (by simp[Op.operands]);have hm:=Z y (by simp[Op.operands]);simp only[kernel,<-B,<-hy];generalize F x=M at hn;generalize F y=sy at hm;split
  .rename_i g off y _;rw[hn g (by simp[S.names,V.names,W.names])]
  .rename_i g n off y _;rw[hn g (by simp[S.names,V.names,W.names])];have hw :∀x∈y.words,∀g∈x.names,Agree o o' g:=λx B g hg=>hm g (HY B hg);rw[<-xB hw];cases hz:yG o y.words with
   |none=>cases o' g with|arr fz _ _ _ _=>cases fz<;>rfl|_=>rfl
   |some z=>
    obtain⟨N,a',i'',gs⟩:=z;have e:=oL (yY hz hw);cases o' g with
    |arr fz _ _ _ _=>cases fz<;>simp only[e]
    |_=>rfl
  .rfl
 |nilCheck x=>
  have B:=j x (by simp[Op.operands]);have hn:=L x (by simp[Op.operands]);simp only[kernel,<-B];generalize F x=M at hn;split
  .rw [BL λg hg=>hn g (by simpa[S.names,V.names]using hg)]
  .rfl
 |binOp op t x y u=>simp only[kernel,<-j x (by simp[Op.operands]),<-j y (by simp[Op.operands])]
 |unOp op t x=>simp only[kernel,<-j x (by simp[Op.operands])]
 |convert s t x=>
  have B:=j x (by simp[Op.operands]);have hn:=L x (by simp[Op.operands]);simp only[kernel,<-B];generalize F x=M at hn;split
  .rfl
  .rw [KE λg hg=>hn g (by simpa[S.names,V.names]using hg)]
  .rfl
  .rfl
 |makeSlice t n c=>
  simp only[kernel,<-j n (by simp[Op.operands]),<-j c (by simp[Op.operands])];split
  .split
   .rename_i ie _;have:yG o (ie.zero.map cv)=yG o' (ie.zero.map cv):=xB λx B g hg=>by obtain⟨v,_,rfl⟩:=XS.1 B;rw[qw]at hg;cases hg
    rw[this]
   .rfl
  .rfl
 |slice t x lo Y mx=>
  cases mx with
  |some m=>cases lo with
   |some l=>simp only[kernel]
   |none=>cases Y with
    |none=>simp only[kernel]
    |some h=>
     have B:=j x (by simp[Op.operands]);have hn:=L x (by simp[Op.operands]);simp only[kernel,<-B,<-j h (by simp[Op.operands]),<-j m (by simp[Op.operands])];generalize F x=M at hn;unfold Dn;split
     .rename_i g _ _ h' _ _ m' _ _ _;rw[hn g (by simp[S.names,V.names,W.names])]
     .rfl
     .rfl
  |none=>
   have B:=j x (by simp[Op.operands]);have hn:=L x (by simp[Op.operands]);have hlo:lo.map F=lo.map K:=by
    cases lo with
    |none=>rfl
    |some l=>simp[j l (by simp[Op.operands])]
   have hhi:Y.map F=Y.map K:=by
    cases Y with
    |none=>rfl
    |some l=>simp[j l (by simp[Op.operands])]
   simp only[kernel,<-B,<-hlo,<-hhi];generalize F x=M at hn;split
   .rename_i x _;have hn :∀g∈x.names,o g=o' g:=λg hg=>hn g (by simpa[S.names,V.names]using hg);rw[<-Hz hn];split
    .split
     .split
      .rw [hn _ (by simp[W.names])]
      all_goals rfl
     .rfl
    .rfl
   .rfl
   .rfl
 |fieldAddr t x n=>
  have B:=j x (by simp[Op.operands]);have hn:=L x (by simp[Op.operands]);simp only[kernel,<-B];generalize F x=M at hn;split
  .rw [BL λg hg=>hn g (by simpa[S.names,V.names]using hg)]
  .rfl
 |field t x n=>simp only[kernel,<-j x (by simp[Op.operands])]
 |indexAddr t x ix=>
  have B:=j x (by simp[Op.operands]);have hn:=L x (by simp[Op.operands]);simp only[kernel,<-B,<-j ix (by simp[Op.operands])];generalize F x=M at hn;split
  .rename_i x a i n _ _;have hn :∀g∈x.names,o g=o' g:=λg hg=>hn g (by simpa[S.names,V.names]using hg);split
   .rw [hn _ (by simp[W.names])]
   .rw [hn _ (by simp[W.names])]
   all_goals rfl
  .rfl
  .rw [BL λg hg=>hn g (by simpa[S.names,V.names]using hg)]
  .rfl
 |index t x ix=>simp only[kernel,<-j x (by simp[Op.operands]),<-j ix (by simp[Op.operands])]
 |extract t n=>simp only[kernel,<-j t (by simp[Op.operands])]
 |range t x=>simp only[kernel,<-j x (by simp[Op.operands])]
 |makeFunc fn first U=>
  cases fn with
  |func g=>
   simp only[kernel];have hc :∀x∈U.toList,F x=K x:=λx B=>j x (by simp[Op.operands];exact .inr (by simpa using B));have :∀l:List Operand,(∀x∈l,F x=K x)->∀(G:Option (List W)->Option EZ),G (l.mapM (λx=>match F x with|.v (.one w)=>zw w|_=>zz))=G (l.mapM (λx=>match K x with|.v (.one w)=>zw w|_=>zz)):=by
    intro l H G;congr 1
    induction l with
    |nil=>rfl
    |cons x l ih=>simp only[vu];rw[H x (by simp),ih λy hy=>H y (by simp[hy])]
   split
   .exact this _ hc λz=>match z with|some ws=>zw (.pure (.v (.one (.clo g ws))))|none=>zz
   .rfl
  |_=>rfl
 |call c=>
  obtain⟨callee,args,ts⟩:=c;have J :∀x∈args.toList,F x=K x:=λx B=>j x (by simp[Op.operands,Call.operands];exact .inr (by simpa using B));have hb :∀x∈args.toList,∀g∈(F x).names,o g=o' g:=λx B=>L x (by simp[Op.operands,Call.operands];exact .inr (by simpa using B));cases callee with
  |builtin b=>
   cases b with
   |append=>
    simp only[kernel];split
    .rename_i s x sT xT _ H _;have hs:=J s (by rw[H];simp);have B:=J x (by rw[H];simp);have ns:=hb s (by rw[H];simp);have X:=hb x (by rw[H];simp);rw[<-hs,<-B];generalize F s=ss at ns;generalize F x=M at X;split
     .exact QC (λg hg=>ns g (by simpa[S.names,V.names]using hg)) (λg hg=>X g (by simpa[S.names,V.names]using hg))
     .rfl
    .rfl
   |len=>
    simp only[kernel];split
    .rename_i x t H _;have B:=J x (by rw[H];simp);have X:=hb x (by rw[H];simp);rw[<-B];generalize F x=M at X;split
     .rw [Hz λg hg=>X g (by simpa[S.names,V.names]using hg)]
     .rfl
     .rfl
    .rfl
   |min=>
    simp only[kernel];split
    .rename_i x y H;rw[J x (by rw[H];simp),J y (by rw[H];simp)]
    .rename_i x y z H;rw[J x (by rw[H];simp),J y (by rw[H];simp),J z (by rw[H];simp)]
    .rfl
   |max=>
    simp only[kernel];split
    .rename_i x y H;rw[J x (by rw[H];simp),J y (by rw[H];simp)]
    .rename_i x y z H;rw[J x (by rw[H];simp),J y (by rw[H];simp),J z (by rw[H];simp)]
    .rfl
   |_=>rfl
  |_=>rfl
 |_=>rfl
theorem Ac{b:Nat->Option Nat}:∀{xs:List W} {j:Nat},(∀x∈xs,∀g∈x.names,Agree o o' g)->S_ o b j xs=S_ o' b j xs
 | [],_,_=>rfl
 |x::xs,j,h=>by
  have c:=h x (by simp);simp only[S_];rw[Ac λy d=>h y (by simp[d]),FB c];cases x with
  |own e=>simp only[(c e (by simp[W.names])).1]
  |_=>rfl
theorem BN{b:Nat->Option Nat}:∀{xs:List W} {j:Nat} {c:List P} {a i:Bool} {gs:List Nat} {es:List (Nat×Nat)},S_ o b j xs=zw (c,a,i,gs,es)->(∀x∈xs,∀g∈x.names,Agree o o' g)->∀g∈gs,Agree o o' g
 | [],j,c,a,i,gs,es,h,_=>by simp[S_]at h;obtain⟨_,_,_,rfl,_⟩:=h;simp
 |x::xs,j,c,a,i,gs,es,h,m=>by
  simp only[S_]at h;split at h
  .cases h
  .rename_i q K L w z B;have d:=BN B (λy H=>m y (by simp[H]));split at h
   .split at h
    .rename_i J;simp only[Q0,QQ]at h;obtain⟨_,_,_,rfl,_⟩:=h;intro g hg;rcases Z0.1 hg with hg|hg
     .exact BK J (m x (by simp)) g hg
     .exact d g hg
    .cases h
   .split at h
    .simp only[Q0,QQ]at h;obtain⟨_,_,_,rfl,_⟩:=h;exact d
    .split at h
     .split at h
      .simp only[Q0,QQ]at h;obtain⟨_,_,_,rfl,_⟩:=h;exact d
      .cases h
     .cases h
    .cases h
theorem Ur{x:W}(h :∀g∈x.names,Agree o o' g):baseD o x=baseD o' x:=by cases x<;>simp only[baseD]<;>(try rw[nZ (h _ (by simp[W.names])),(h _ (by simp[W.names])).1])
theorem NU{tt:TT}{U:List (Nat×Nat)}{d:Nat}{F B:Operand->S}{op:Op}{ty:TypeId}(m :∀x∈op.operands.toList,F x=B x)(z :∀x∈op.operands.toList,∀g∈(F x).names,Agree o o' g):
  dX tt U d o F op ty=dX tt U d o' B op ty:=by
 cases op with
 |load t x=>
  have j:=m x (by simp[Op.operands]);have hn:=z x (by simp[Op.operands]);simp only[dX,uF,<-j];generalize F x=J at hn;congr 1
  .split
   .have hg:=hn _ (by simp[S.names,V.names,W.names];rfl);rw[<-nZ hg]
   .rfl
  .split
   .have hg:=hn _ (by simp[S.names,V.names,W.names];rfl);rw[<-nZ hg,<-hg.1]
   .rfl
 |slice t x lo K mx=>
  cases lo with
  |some _=>rfl
  |none=>
  cases mx with
  |some _=>rfl
  |none=>
  have j:=m x (by simp[Op.operands]);have hn:=z x (by simp[Op.operands]);have hh:K.map F=K.map B:=by
   cases K with
   |none=>rfl
   |some y=>simp only[W7,Q0];exact m y (by simp[Op.operands])
  simp only[dX,<-j,<-hh];generalize F x=J at hn;split
  .have hg:=hn _ (by simp[S.names,V.names,W.names];rfl);rw[<-hg.1]
  .rfl
 |store t x y=>
  have j:=m x (by simp[Op.operands]);have hy:=m y (by simp[Op.operands]);have hn:=z x (by simp[Op.operands]);have X:=z y (by simp[Op.operands]);simp only[dX,<-j,<-hy];generalize F x=J at hn;generalize F y=sy at X;split
  .rename_i g off y _;have hg:=hn _ (by simp[S.names,V.names,W.names];rfl);have Y :∀x∈y.words,∀g∈x.names,Agree o o' g:=λx j g hg=>X g (HY j hg);rw[<-nZ hg,<-hg.1];split
   .rename_i a0 i0 sz au l0 Z _;rw[<-Ac Y];split
    .rename_i L a' i' gs es hz;rw[oL (BN hz Y)]
    .rfl
   .rfl
  .rfl
 |buildSlice t n L=>
  have e:L.toList.map (λp=>(p.1,F p.2))=L.toList.map (λp=>(p.1,B p.2)):=W8 λp M=>by rw[m p.2 (by simp only[Op.operands];exact XS.2 ⟨p,M,rfl⟩)]
  simp only[dX,<-e];split
  .split
   .rename_i N _;split
    .rename_i ws T;have hn :∀x∈ws,∀g∈x.names,Agree o o' g:=by
      intro x j g hg;rcases BM T x j with h|⟨p,M,h⟩
      .have:=yR h;obtain⟨v,_,rfl⟩:=XS.1 this;rw[qw]at hg;cases hg
      .obtain ⟨q,hq,rfl⟩:=XS.1 M;exact z q.2 (by simp only[Op.operands];exact XS.2 ⟨q,hq,rfl⟩) g (h g hg)
     rw[<-Ac hn];split
     .rename_i h;rw[oL (BN h hn)]
     .rfl
    .rfl
   .rfl
  .rfl
 |makeSlice t n c=>
  simp only[dX,<-m n (by simp[Op.operands]),<-m c (by simp[Op.operands])];split
  .split
   .rename_i N _;have :∀w,S_ o w 0 (N.zero.map cv)=S_ o' w 0 (N.zero.map cv):=λw=>Ac λx j g hg=>by obtain⟨v,_,rfl⟩:=XS.1 j;rw[qw]at hg;cases hg
    rw[this]
   .rfl
  .rfl
 |call c=>
  obtain⟨callee,args,ts⟩:=c;have ha :∀x∈args.toList,F x=B x:=λx j=>m x (by simp[Op.operands,Call.operands];exact .inr (by simpa using j));have hb :∀x∈args.toList,∀g∈(F x).names,Agree o o' g:=λx j=>z x (by simp[Op.operands,Call.operands];exact .inr (by simpa using j));cases callee with
  |builtin b=>
   cases b with
   |append=>
    simp only[dX];split
    .rename_i s x sT xT _ H _;have hs:=ha s (by rw[H];simp);have j:=ha x (by rw[H];simp);have ns:=hb s (by rw[H];simp);have nx:=hb x (by rw[H];simp);rw[<-hs,<-j];generalize F s=ss at ns;generalize F x=J at nx;split
     .rename_i s' g2 _ _;have hg:=nx g2 (by simp[S.names,V.names,W.names]);rw[<-Ur (λg hg=>ns g (by simpa[S.names,V.names]using hg)),<-nZ hg,<-hg.1]
     .rfl
    .rfl
   |_=>rfl
  |_=>rfl
 |_=>rfl
end
end Go.Fw

namespace Go.Fw
open Go.RowKit
variable [fH]
def quiet:Obj->Bool
 |.loop _=>zj
 |.deferred _=>zj
 |_=>zv
theorem kX{o:Obj}(h:quiet o=zj):∀c e f,o≠.cells c e f:=by intro c e f d;subst d;cases h
theorem KF{o:Obj}(h:quiet o=zj):∀s k,o≠.stringIter s k:=by intro s k c;subst c;cases h
section
variable {w w':World} {b:Nat} {o:Obj}
theorem KG{a:Addr}{v:Value}(h:w.cell? a=zw v):∃c e f,w.heap[a.block]?=zw (.cells c e f):=by obtain⟨o,d,g⟩:=cells_of_cell h;cases o<;>first|exact⟨_,_,_,d⟩|cases g
theorem dB.turn(U:w.heap[b]?=zw o)(X:quiet o=zj)(hs :∀k,k≠b->w'.heap[k]?=w.heap[k]?){ok:Nat->Prop}{x:P}{v:Value}(r:dB w ok x v):dB w' ok x v:=by
 have ne :∀{k c e f},w.heap[k]?=zw (.cells c e f)->k≠b:=λd Y=>by subst Y;rw[U]at d;exact kX X _ _ _ (Wz d)
 induction r with
 |int k n=>exact .int k n
 |bool b=>exact .bool b
 |str s=>exact .str s
 |opq v h=>exact .opq v h
 |nil B Z cap=>exact .nil B Z cap
 |sl B l a cap f H J m q hc hr ih=>refine .sl B l a cap f H J m q (λi x K j y L=>?_) (λi x K j y L=>ih i x K j y L);have T:=hc i x K j y L;obtain⟨c,e,f,d⟩:=KG T;rw[<-T];exact World.cell?_of_block (w:=w) (hs _ (ne d))
 |seq l v S hv M N=>
  exact .seq l v S hv (λz g=>⟨(M z g).1,by obtain⟨c,e,f,d⟩:=(M z g).2;exact⟨c,e,f,(hs _ (ne d)).trans d⟩⟩)
   (fH.YK (λz g=>by obtain⟨c,e,f,d⟩:=(M z g).2;exact hs _ (ne d)) N)
variable {E:Env} {st:St} {gh:Nat->Gh}
theorem Ad(c:w'.heap.size=w.heap.size){a i:Bool}:E.ok st gh w a i=E.ok st gh w' a i:=by funext b;unfold Env.ok;rw[c]
theorem fV.turn(z:w.heap[b]?=zw o)(B:quiet o=zj)(hs :∀k,k≠b->w'.heap[k]?=w.heap[k]?)(H:w'.heap.size=w.heap.size){x:W}{v:Value}(r:fV E st gh w x v):fV E st gh w' x v:=by
 induction r with
 |p a i x v h=>exact .p a i x v (by rw[<-Ad H];exact h.turn z B hs)
 |dJ=>exact .dJ
 |own g v d h=>exact .own g v d h
 |vw g lo N v d h=>exact .vw g lo N v d h
 |box g off v d h=>exact .box g off v d h
 |ep g n off v d h=>exact .ep g n off v d h
 |sp a i row off J o' K h=>refine .sp a i row off J o' (by rw[<-Ad H];exact K) λj y T=>?_;obtain⟨u,hu,U⟩:=h j y T;obtain⟨c,e,f,q⟩:=KG hu;refine⟨u,?_,by rw[<-Ad H];exact U.turn z B hs⟩;rw[<-hu];refine World.cell?_of_block (w:=w) (hs _ λL=>?_);have q:w.heap[J]?=zw (.cells c e f):=q;have L:J=b:=L;rw[L,z]at q;exact kX B _ _ _ (Wz q)
 |gl g=>exact .gl g
 |oD g v d h=>exact .oD g v d h
 |gd b x v h M=>exact .gd b x v M
 |clo f m vs X h M=>exact .clo f m vs X M
 |no v=>exact .no v
theorem sO.turn(d:w.heap[b]?=zw o)(g:quiet o=zj)(hs :∀k,k≠b->w'.heap[k]?=w.heap[k]?)(m:w'.heap.size=w.heap.size){x:V}{v:Value}(r:sO E st gh w x v):sO E st gh w' x v:=by
 cases r with
 |one x v h=>exact .one x v (h.turn d g hs m)
 |agg xs q y z h=>exact .agg xs q y z λj x v B c=>(h j x v B c).turn d g hs m
theorem dR.turn(c:w.heap[b]?=zw o)(d:quiet o=zj)(hs :∀k,k≠b->w'.heap[k]?=w.heap[k]?)(g:w'.heap.size=w.heap.size){x:S}{v:Value}(r:dR E st gh w x v):dR E st gh w' x v:=by
 cases r with
 |v x v h=>exact .v x v (h.turn c d hs g)
 |jq xs vs m h=>exact .jq xs vs m λj x v q y=>(h j x v q y).turn c d hs g
 |no v=>exact .no v
theorem jk.turn(g:w.heap[b]?=zw o)(h:quiet o=zj)(hs :∀k,k≠b->w'.heap[k]?=w.heap[k]?)(m:w'.heap.size=w.heap.size){a i:Bool}{sz:Nat}{l:List (List P)}{G:Gh}(r:jk E st gh w a i sz l G):jk E st gh w' a i sz l G:=by
 rcases r with r|⟨ad,c,e,q,z,d,B,H,J,K⟩
 .exact .inl r
 .exact .inr ⟨ad,c,e,q,z,(hs _ λL=>by rw[L,g]at d;exact kX h _ _ _ (Wz d)).trans d,B,H,J,λn x M j y N=>let ⟨v,q1,q2⟩:=K n x M j y N;⟨v,q1,by rw[<-Ad m];exact q2.turn g h hs⟩⟩
theorem ni.turn(g:w.heap[b]?=zw o)(h:quiet o=zj)(hs :∀k,k≠b->w'.heap[k]?=w.heap[k]?)(H:w'.heap.size=w.heap.size){x:O}{G:Gh}(r:ni E st gh w x G):ni E st gh w' x G:=by
 have ne :∀{k c e f},w.heap[k]?=zw (.cells c e f)->k≠b:=λM N=>by subst N;rw[g]at M;exact kX h _ _ _ (Wz M)
 cases x with
 |none=>trivial
 |box ws=>obtain⟨ad,c,e,J,K,z,B,T⟩:=r;exact⟨ad,c,e,J,K,(hs _ (ne z)).trans z,B,λj x U=>let ⟨v,q1,q2,q3⟩:=T j x U;⟨v,q1,q2,q3.turn g h hs H⟩⟩
 |arr fz a i Y l=>
  cases fz with
  |true=>exact(by rw[<-Ad H];exact dB.turn g h hs r:dB w' (E.ok st gh w' a i) (.sl Y l) (.slice G.ad l.length G.cap))
  |false=>exact jk.turn g h hs H r
 |aP a i Y au l L=>
  rcases r with r|⟨ad,c,e,J,K,z,B,T,h6,⟨h7,X⟩,h8⟩
  .exact .inl r
  .refine .inr ⟨ad,c,e,J,K,(hs _ (ne z)).trans z,B,T,h6,⟨h7,λk M=>let ⟨c,e,f,q⟩:=X k M;⟨c,e,f,(hs _ (ne q)).trans q⟩⟩,λn x U j y hy=>?_⟩;obtain⟨v,hv,m⟩:=h8 n x U j y hy;refine⟨v,hv,?_⟩;unfold jl at *;cases Z:au.lookup j with
   |none=>rw[Z]at m;exact(by rw[<-Ad H];exact dB.turn g h hs m:dB w' (E.ok st gh w' a i) y v)
   |some sz'=>
    rw[Z]at m;simp only at *;cases hh:iK L n j with
    |some d=>rw[hh]at m;exact⟨m.1,m.2.turn g h hs H⟩
    |none=>rw[hh]at m;obtain⟨l',ao,k,q1,q2,q3,q4⟩:=m;exact⟨l',ao,k,q1,q2,q3.turn g h hs H,q4⟩
 |it s n=>obtain⟨ad,bs,k,J,K,z,B⟩:=r;refine⟨ad,bs,k,J,K,z,(hs _ λN=>?_).trans B⟩;rw[N,g]at B;exact KF h _ _ (Wz B)
theorem Rel.turn{val:Nat->Value}(h:Rel E st gh val w)(m:w.heap[b]?=zw o)(q:quiet o=zj)(H:E.B0<=b)(o':Obj):Rel E st gh val (w.putObj b o'):=by have d :∀k,k≠b->(w.putObj b o').heap[k]?=w.heap[k]?:=λk j=>World.putObj_heap_other j;have c:(w.putObj b o').heap.size=w.heap.size:=World.putObj_size;exact⟨λt=>(h.slots t).turn m q d c,λg=>(h.bG g).turn m q d c,h.inj,λg a y z=>by rw[c];exact h.wr g a y z,h.wi,h.ns,h.wb,λk j B=>(d k (by omega)).trans (h.frame k j B),by rw[c];exact h.size,h.os,h.tape,h.output,h.us,h.uo,h.ul⟩
omit [fH] in
structure DU(w w':World):Prop where
 size:w.heap.size<=w'.heap.size
 same :∀b,b<w.heap.size->w'.heap[b]?=w.heap[b]?
 os:w'.os=w.os
 tape:w'.tape=w.tape
 output:w'.output=w.output
theorem DU.alloc(w:World)(o:Obj):DU w (w.alloc o):=⟨by simp,λb c=>Below.heap_alloc w o b c,rfl,rfl,rfl⟩
theorem DU.lets(h:DU w w'):Lets E st st gh gh w w':=⟨λa i b c=>⟨⟨c.1,VV c.2.1 h.size,c.2.2⟩,h.same b c.2.1⟩,λg _=>.inr ⟨⟨rfl,rfl⟩,O.gq _⟩⟩
theorem Rel.grows{val:Nat->Value}(h:Rel E st gh val w)(hg:DU w w'):Rel E st gh val w':=by have d:Lets E st st gh gh w w':=hg.lets;refine⟨λt=>d.ahP (h.us t) (h.slots t),λg=>d.Dk (λy ad c=>hg.same _ (h.wr g ad y c).2) (h.uo g) (h.bG g),h.inj,λg a j m=>⟨(h.wr g a j m).1,VV (h.wr g a j m).2 hg.size⟩,h.wi,h.ns,h.wb,λk q z=>(hg.same k (VV q h.size)).trans (h.frame k q z),JS h.size hg.size,hg.os.trans h.os,hg.tape.trans h.tape,hg.output.trans h.output,h.us,h.uo,h.ul⟩
theorem Rel.ad9{val:Nat->Value}(h:Rel E st gh val w)(z:w.heap[b]?=zw o)(B:quiet o=zj)(M:E.B0<=b)(a i:Bool):E.ok st gh w a i b:=by
 refine⟨.inr (.inr (.inl M)),(UP.1 z).1,λg H j=>?_⟩;have m:=h.bG g;rcases j with⟨ad,j,e⟩|hsub
 case inr=>
  cases hd:(st.o g).o8 with
  |false=>rw[h.ns g H hd b]at hsub;cases hsub
  |true=>
   cases d:st.o g with
   |aP a i K N l J=>
    rw[d]at m;rcases m with⟨_,_,_,q⟩|⟨ad,c,e,_,_,_,_,_,_,⟨_,q⟩,_⟩
    .rw [q b]at hsub;cases hsub
    .obtain ⟨c,e,f,q⟩:=q b hsub;rw[z]at q;exact kX B _ _ _ (Wz q)
   |_=>rw[d]at hd;cases hd
 cases d:st.o g with
 |none=>rw[d]at H;cases H
 |box U=>rw[d]at m;obtain⟨y,c,L,q1,_,q3,_⟩:=m;rw[j]at q1;cases q1;rw[e,z]at q3;exact kX B _ _ _ (Wz q3)
 |aP a i K N l J=>
  rw[d]at m;rcases m with⟨q1,_⟩|⟨y,c,L,q1,_,q3,_⟩
  .rw [j]at q1;cases q1
  .rw [j]at q1;cases q1;rw[e,z]at q3;exact kX B _ _ _ (Wz q3)
 |arr T a i K l=>
  cases T with
  |true=>rw[d]at H;cases H
  |false=>
   rw[d]at m;rcases m with⟨q1,_⟩|⟨y,c,L,q1,_,q3,_⟩
   .rw [j]at q1;cases q1
   .rw [j]at q1;cases q1;rw[e,z]at q3;exact kX B _ _ _ (Wz q3)
 |it s n=>rw[d]at m;obtain⟨y,X,k,q1,_,_,q4⟩:=m;rw[j]at q1;cases q1;rw[e,z]at q4;exact KF B _ _ (Wz q4)
end
end Go.Fw

namespace Go.Fw
variable [fH]
section
variable {E:Env} {st st':St} {gh bQ:Nat->Gh} {w w':World} {a:Act}
theorem Xm(v:Value):dR E st gh w (wO v) v:=by
 unfold wO;split
 .rename_i c;split
  .rename_i h;have h:=Zs.1 h;refine .v _ _ (.agg _ c.toList (by simp) h λj x u b hu=>?_);rw[Z2,hu]at b;simp only[W7,Q0]at b;subst b;exact WY (h u (Z3 hu))
  .exact .no _
 .exact .no _
 .exact .v _ _ (.one _ _ (.clo _ [] [] rfl λj x v b=>by simp at b))
 .split
  .rename_i h;exact .v _ _ (.one _ _ (WY h))
  .exact .no _
theorem QD(v:Value):(wO v).names=[]:=by
 unfold wO;split
 .split
  .simp [S.names,V.names,qw]
  .rfl
 .rfl
 .simp [S.names,V.names,W.names]
 .split
  .simp [S.names,V.names,qw]
  .rfl
theorem rX(h:Rel E st gh (λt=>a.tmps.getD t undef) w)(x:Operand):dR E st gh w (st.dG x) (a.eval x):=by
 cases x with
 |tmp t=>exact h.slots t
 |const v=>exact Xm v
 |global g=>
  simp only[St.dG];split
  .exact .v _ _ (.one _ _ (.gl g))
  .exact .no _
 |func f=>exact .v _ _ (.one _ _ (.clo _ [] [] rfl λj x v b=>by simp at b))
theorem KH(h:Rel E st gh (λt=>a.tmps.getD t undef) w)(x:Operand):∀g∈(st.dG x).names,st.used g=zj:=by
 cases x with
 |tmp t=>exact h.us t
 |const v=>intro g hg;simp[St.dG,QD]at hg
 |global g=>
  intro g' hg;simp only[St.dG]at hg;split at hg
  .simp [S.names,V.names,W.names]at hg
  .simp [S.names]at hg
 |func f=>intro g hg;simp[St.dG,S.names,V.names,W.names]at hg
theorem DV(dst:Option Tmp)(v:Value)(h :∀d,dst=zw d->d<a.tmps.size):(λt=>(a.put dst v).tmps.getD t undef)=JW (λt=>a.tmps.getD t undef) dst v:=by
 cases dst with
 |none=>rfl
 |some d=>
  funext t;have hd:=h d rfl;simp only[Act.put,JW,WP];by_cases e:t=d
  .subst e;simp[hd]
  .rw [Array.getElem?_setIfInBounds_ne (Ne.symm e),QP e]
variable {Pg:Program} {T:Tab} {tt:TT}
theorem Xn(hT :∀f sp,T f=zw sp->Sound Pg (f % 1000000) sp)(z:jm Pg tt)(h:Rel E st gh (λt=>a.tmps.getD t undef) w){o:Oper}{d:Nat}{e:Eff}(hc:lg T tt d st o λe'=>e'=e)(b :∀g∈e.new,st.used g=zv)
  {K:Act->World->Prop} {Q:Exit->Act->World->Prop}
  (B :∀v w' bQ,Rel E (st.aK e.aK e.new) bQ (λt=>a.tmps.getD t undef) w'->Lets E st (st.aK e.aK e.new) gh bQ w w'->dR E (st.aK e.aK e.new) bQ w' e.x v->(∀g∈e.x.names,(st.aK e.aK e.new).used g=zj)->K (a.put o.dst v) w') :
  o.wp Pg a w K Q:=by
 unfold lg at hc;split at hc
 .rename_i f args ts ho;split at hc
  .rename_i fn m hf;split at hc
   .rename_i sp M;split at hc
    .rename_i c N;obtain⟨Y0,dP,same,hR,q,j⟩:=hc;simp only[X1,Wa]at Y0;have y:=rX h f;rw[hf]at y;generalize U:a.eval f=vf at y;cases y.dS with
     |clo _ _ vs hl X=>
     have hS:=ahZ (p:=Sound Pg) hT M;have H:(execOp a.eval o).run Pg w=.ok (.enter fn (args.toList.map a.eval++vs).toArray) w:=by
      have:(#[]++args.map a.eval)++vs.toArray=(args.toList.map a.eval++vs).toArray:=by apply Array.ext';simp
      rw[<-hS.2.1 (args.toList.map a.eval++vs).toArray w,<-this];simp only[execOp,ho,resolve,U,Deferred.ofValue];rfl
     show o.upon Pg a K Q ((execOp a.eval o).run Pg w);rw[H,Oper.upon_enter];have hr :∀t,dR E st gh w (((args.toList.map st.dG)++m.map λx=>S.v (.one x)).getD t .no) ((args.toList.map a.eval++vs).getD t undef):=by
      intro t;simp only[Q2];by_cases J:t<args.toList.length
      .rw [Wf (by simpa using J),Wf (by simpa using J),Z2,Z2,Q1 J];exact rX h _
      .rw [Wc (by simpa using J),Wc (by simpa using J)];simp only[We];rw[Z2];cases hx:m[t-args.toList.length]? with
       |none=>exact .no _
       |some x=>
        have L:t-args.toList.length<vs.length:=by rw[<-hl];exact(Q3.1 hx).1
        rw[Q1 L];exact .v _ _ (.one _ _ (X _ x _ hx (Q1 L)))
     have hu:=abx (st:=st) (e:=lG sp.sig d st.o c dP) λg hg=>(q g hg).2;have b :∀g∈(lG sp.sig d st.o c dP).new,st.used g=zv:=λg hg=>b g (by rw[<-j];exact hg);refine Calls.mono (Xk hS h hr (by simp;omega) N Y0.1 hR d rfl b) λe' w' Y=>?_;obtain⟨v,bQ,rfl,q1,q2,q3,q4⟩:=Y;rw[<-hu]at q1 q2 q3 q4;rw[j]at q1 q2 q3 q4;have q3:dR E (st.aK e.aK e.new) bQ w' e.x v:=by rw[<-j];rw[<-j]at q3;exact q3
     have q4 :∀g∈e.x.names,(st.aK e.aK e.new).used g=zj:=by rw[<-j];rw[<-j]at q4;exact q4
     exact B v w' bQ q1 q2 q3 q4
    .cases hc
   .cases hc
  .cases hc
 .rcases hc with⟨dc,r,Z,hp,hc⟩|hc
  .have j:=NR.iff.1 hc;subst j;obtain⟨v,w',bQ,hd,q1,q2,q3,q4⟩:=NP z o.op E st gh _ w a.eval st.dG o d r rfl h (rX h) (KH h) Z hp b;show o.upon Pg a K Q ((execOp a.eval o).run Pg w);rcases hd with hd|⟨hd,rfl⟩
   .rw [hd];exact B v w' bQ q1 q2 q3 q4
   .rw [hd];exact B _ w' bQ q1 q2 q3 q4
  split at hc
  .rename_i r Z;obtain⟨hp,hc⟩:=hc;have j:({ x:=r.dst r.val,aK:=r.aK r.val,new:=r.new }:Eff)=e:=by
    cases hb:Ht o.op with
    |true=>rw[hb]at hc;exact NR.iff.1 hc
    |false=>rw[hb]at hc;exact hc
   subst j;obtain⟨v,w',bQ,hd,q1,q2,q3,q4⟩:=Qq z o.op E st gh _ w a.eval st.dG o d r rfl h (rX h) (KH h) Z hp b;show o.upon Pg a K Q ((execOp a.eval o).run Pg w);rcases hd with hd|⟨hd,rfl⟩
   .rw [hd];exact B v w' bQ q1 q2 q3 q4
   .rw [hd];exact B _ w' bQ q1 q2 q3 q4
  .cases hc
def mark(D:Nat):Deferred:={ target:=.collected D,args:=#[] }
def Marks(E:Env)(a:Act)(w:World):Prop :=∃b:List Nat,a.defers=b.map mark/\b.Nodup/\∀D∈b,E.B0<=D/\w.heap[D]?=zw (.deferred (zw []))
theorem Marks.nil{E:Env}{a:Act}{w:World}(h:a.defers=[]):Marks E a w:=⟨[],h,List.nodup_nil,λD b=>by cases b⟩
structure Good(E:Env)(N:Nat)(bH:List Nat)(yM:Nat->Gh)(st:St)(a:Act)(w:World):Prop where
 ex :∃gh,Rel E st gh (λt=>a.tmps.getD t undef) w/\∀g∈bH,st.used g=zj/\(st.o g=.none\/((gh g).ad=(yM g).ad/\(gh g).cap=(yM g).cap))
 size:a.tmps.size=N
 defers:Marks E a w
theorem DW(dst:Option Tmp)(v:Value):(a.put dst v).tmps.size=a.tmps.size:=by cases dst<;>simp[Act.put]
theorem put_defers(dst:Option Tmp)(v:Value):(a.put dst v).defers=a.defers:=by cases dst<;>rfl
theorem Marks.same{E:Env}{a:Act}{w w':World}(d:Marks E a w)(h :∀D,E.B0<=D->w.heap[D]?=zw (.deferred (zw []))->w'.heap[D]?=w.heap[D]?)(dst:Option Tmp)(v:Value):Marks E (a.put dst v) w':=by obtain⟨g,j,m,b⟩:=d;exact⟨g,(put_defers dst v).trans j,m,λD c=>⟨(b D c).1,(h D (b D c).1 (b D c).2).trans (b D c).2⟩⟩
theorem Marks.step{val:Nat->Value}(b:Marks E a w)(c:Rel E st gh val w)(d:Lets E st st' gh bQ w w')(dst:Option Tmp)(v:Value):Marks E (a.put dst v) w':=b.same (λD g h=>(d.ok zv zv D (c.ad9 h rfl g _ _)).2) dst v
theorem Marks.put(b:Marks E a w)(dst:Option Tmp)(v:Value):Marks E (a.put dst v) w:=b.same (λ_ _ _=>rfl) dst v
theorem tK{d:Nat}{o:Oper}{K m:Eff->Prop}(b :∀e,K e->m e)(h:lg T tt d st o K):lg T tt d st o m:=by
 unfold lg at *;split at h
 .split at h
  .split at h
   .split at h
    .obtain ⟨c,dP,same,g,y,j⟩:=h;exact⟨c,dP,same,g,y,b _ j⟩
    .exact h
   .exact h
  .exact h
 .rcases h with⟨z,r,c,g,j⟩|h
  .exact .inl ⟨z,r,c,g,NR.iff.2 (b _ (NR.iff.1 j))⟩
  refine .inr ?_;split at h
  .refine ⟨h.1,?_⟩;obtain⟨_,h⟩:=h;cases q:Ht o.op with
   |true=>rw[q]at h;exact NR.iff.2 (b _ (NR.iff.1 h))
   |false=>rw[q]at h;exact b _ h
  .exact h
theorem KI{d:Nat}{o:Oper}{K:Eff->Prop}(h:lg T tt d st o K):∃e,lg T tt d st o (λq=>q=e)/\K e:=by
 unfold lg at *;split at h
 .split at h
  .split at h
   .split at h
    .obtain ⟨b,dP,same,c,y,g⟩:=h;exact⟨_,⟨b,dP,same,c,y,rfl⟩,g⟩
    .cases h
   .cases h
  .cases h
 .rcases h with⟨z,r,b,c,g⟩|h
  .exact ⟨_,.inl ⟨z,r,b,c,NR.iff.2 rfl⟩,NR.iff.1 g⟩
  split at h
  .obtain ⟨j,h⟩:=h;cases m:Ht o.op with
   |true=>rw[m]at h;exact⟨_,.inr ⟨j,NR.iff.2 rfl⟩,NR.iff.1 h⟩
   |false=>rw[m]at h;exact⟨_,.inr ⟨j,rfl⟩,h⟩
  .cases h
theorem ad_{o:Nat->O}{g x:Nat}(h:x≠g)(b:x∉(o g).hn):(Fw.lu o g).lookup x=zz:=by
 have j:(x==g)=zv:=by simpa using h
 unfold Fw.lu;split
 .rename_i a i y z l n c d m;rw[m]at b;have q:(x==d)=zv:=by simpa[O.hn,dL]using b
  repeat' split
  all_goals first|rfl|simp[List.lookup,j,q]
 .rfl
theorem Us{o:Nat->O}{g x:Nat}:∀y,(Fw.lu o g).lookup x=zw y->y.hn=[]:=by
 intro y b;unfold Fw.lu at b;split at b
 .rename_i a i h j l n c d m
  repeat' split at b
  all_goals first|(cases b;done)|skip
  simp only[List.lookup]at b;split at b
  .cases b;rfl
  .split at b
   .cases b;rfl
   .cases b
 .cases b
theorem H6:∀(hs:List Nat) {st:St} {x:Nat},x∉hs->(∀g∈hs,x∉(st.o g).hn)->(Fw.shuts hs st).o x=st.o x
 | [],_,_,_,_=>rfl
 |g::gs,st,x,d,j=>by
  have m:(st.aK (Fw.lu st.o g) []).o x=st.o x:=by simp only[St.aK,ad_ (λe=>d (by simp[e])) (j g (by simp))]
  show (Fw.shuts gs (st.aK (Fw.lu st.o g) [])).o x=_;rw[H6 gs (λh=>d (by simp[h])) (λg' b=>?_),m];cases c:(Fw.lu st.o g).lookup g' with
  |none=>simp only[St.aK,c];exact j g' (by simp[b])
  |some y=>simp only[St.aK,c];rw[Us y c];simp
theorem abK{hs:List Nat}{st:St}{x:Nat}:(match (Ba hs st).lookup x with
  |some y=>y
  |none=>st.o x)=(Fw.shuts hs st).o x:=by
 have key :∀(l:List (Nat×O)),(∀p∈l,p.2=(Fw.shuts hs st).o p.1)->(∀y,l.lookup x=zw y->y=(Fw.shuts hs st).o x)/\(l.lookup x=zz->∀p∈l,p.1≠x):=by
  intro l
  induction l with
  |nil=>exact λ_=>⟨λy h=>(by cases h),λ_ p hp=>(by cases hp)⟩
  |cons p l z=>
   intro b;obtain⟨i1,i2⟩:=z λq B=>b q (V1 _ B);obtain⟨k,v⟩:=p;simp only[List.lookup];cases m:x==k with
   |true=>
    have e:x=k:=by simpa using m
    subst e;exact⟨λy h=>by cases h;exact b (x,v) Kb,λh=>by cases h⟩
   |false=>
    refine⟨i1,λh p hp=>?_⟩;rcases XN.1 hp with rfl|hp
    .exact λe=>by have e:k=x:=e;rw[e]at m;simp at m
    .exact i2 h p hp
 have c :∀p∈Ba hs st,p.2=(Fw.shuts hs st).o p.1:=by
  intro p hp;obtain⟨g,hg,hp⟩:=Z6.1 hp;rcases XN.1 hp with rfl|hp
  .rfl
  .obtain ⟨d,_,rfl⟩:=XS.1 hp;rfl
 obtain⟨H,J⟩:=key _ c;cases b:(Ba hs st).lookup x with
 |some y=>exact H y b
 |none=>have j:=J b;refine(H6 hs (λh=>j (x,(Fw.shuts hs st).o x) (Z6.2 ⟨x,h,by simp⟩) rfl) λg hg h=>j (x,(Fw.shuts hs st).o x) (Z6.2 ⟨g,hg,V1 _ (XS.2 ⟨x,h,rfl⟩)⟩) rfl).symm
theorem abL{hs:List Nat}{st:St}{e:Eff}:st.aK (DL hs st e).aK (DL hs st e).new=(Fw.shuts hs st).aK e.aK e.new:=by
 cases hs with
 |nil=>rfl
 |cons g gs=>
  have ext :∀{x y:St},(∀t,x.s t=y.s t)->(∀g,x.o g=y.o g)->(∀g,x.used g=y.used g)->x=y:=λ{x y} b c d=>by cases x;cases y;simp only[St.mk.injEq];exact⟨funext b,funext c,funext d⟩
  refine ext (λt=>?_) (λx=>?_) (λx=>?_)
  .show st.s t=(Fw.shuts (g::gs) st).s t;rw[Jj]
  .show (match (e.aK++Ba (g::gs) st).lookup x with|some y=>y|none=>st.o x)=match e.aK.lookup x with|some y=>y|none=>(Fw.shuts (g::gs) st).o x
   rw[w_];cases e.aK.lookup x with
   |some y=>rfl
   |none=>exact abK
  .show (e.new.contains x||st.used x)=(e.new.contains x||(Fw.shuts (g::gs) st).used x);rw[wY]
theorem ah6{hs:List Nat}{st:St}{e:Eff}:(DL hs st e).x=e.x/\(DL hs st e).new=e.new:=by cases hs<;>exact⟨rfl,rfl⟩
theorem abM(y :∀f sp,T f=zw sp->Sound Pg (f % 1000000) sp)(j:jm Pg tt)(h:Rel E st gh (λt=>a.tmps.getD t undef) w){o:Oper}{d:Nat}{e:Eff}(m:jH T tt d st o λz=>z=e)(b :∀g∈e.new,st.used g=zv)
  {K:Act->World->Prop} {Q:Exit->Act->World->Prop}
  (B :∀v w' bQ,Rel E (st.aK e.aK e.new) bQ (λt=>a.tmps.getD t undef) w'->Lets E st (st.aK e.aK e.new) gh bQ w w'->dR E (st.aK e.aK e.new) bQ w' e.x v->(∀g∈e.x.names,(st.aK e.aK e.new).used g=zj)->K (a.put o.dst v) w') :
  o.wp Pg a w K Q:=by
 unfold jH at m;obtain⟨q,H,J⟩:=KI m;obtain⟨N,L,M,_⟩:=h.shuts (jG st o);have c:=ah6 (hs:=jG st o) (st:=st) (e:=q);have hu:=abL (hs:=jG st o) (st:=st) (e:=q);rw[J]at c hu;refine Xn y j L H (λg hg=>by rw[wY];exact b g (by rw[c.2];exact hg)) λv w' bQ q1 q2 q3 q4=>B v w' bQ ?_ ?_ ?_ ?_
 .rw [hu];exact q1
 .rw [hu];exact M.trans q2 λg hg=>by rw[wY];exact hg
 .rw [hu,c.1];exact q3
 .rw [hu,c.1];exact q4
theorem pF{d:Nat}{o:Oper}{K b:Eff->Prop}(c :∀e,K e->b e)(h:jH T tt d st o K):jH T tt d st o b:=tK (λe h=>c _ h) h
theorem FC{d:Nat}{o:Oper}{K:Eff->Prop}(h:jH T tt d st o K):∃e,jH T tt d st o (λb=>b=e)/\K e:=by obtain⟨e,c,g⟩:=KI h;exact⟨_,tK (λb j=>by rw[j]) c,g⟩
def Can(T:Tab)(tt:TT)(N:Nat)(ops:Array Oper)(st:St)(o:Oper)(e:Eff):Prop:=stepW T tt N ops o st λb=>b=e
theorem Ut{N:Nat}{ops:Array Oper}{o:Oper}{K:Eff->Prop}(h:stepW T tt N ops o st K):∃e,Can T tt N ops st o e/\K e:=by
 unfold Can;unfold stepW at *;obtain⟨hd,h⟩:=h;split at h
 .obtain ⟨e,d,g,j⟩:=FC h;exact⟨e,⟨hd,pF (λm c=>⟨by rw[c];exact g,c⟩) d⟩,j⟩
 .split at h
  .rename_i b q;cases b with
   |true=>simp only[cond_true]at h;obtain⟨e,d,g,j⟩:=FC h;refine⟨e,⟨hd,?_⟩,j⟩;simp only[cond_true];exact pF (λm c=>⟨by rw[c];exact g,c⟩) d
   |false=>exact⟨Eff.skip,⟨hd,rfl⟩,h⟩
  .cases h
theorem KJ{N:Nat}{bH:List Nat}{yM:Nat->Gh}(hT :∀f sp,T f=zw sp->Sound Pg (f % 1000000) sp)(X:jm Pg tt){ops:Array Oper}{i:Nat}{o:Oper}(hi:ops[i]?=zw o)(h:Good E N bH yM st a w){e:Eff}(c:Can T tt N ops st o e)
  {K:Act->World->Prop} {Q:Exit->Act->World->Prop} (hK :∀Y w',Good E N bH yM (st.eff o.dst e) Y w'->K Y w'):wpOp Pg ops Q i K a w:=by
 obtain⟨⟨gh,U,Ny⟩,z,J⟩:=h;unfold Can stepW at c;obtain⟨hd,c⟩:=c;have hd :∀d,o.dst=zw d->d<a.tmps.size:=by intro d e;rw[e]at hd;rw[z];simpa using hd
 have run:(jH T tt (o.dst.getD 0) st o λy=>y.new.all (λg=>!st.used g)=zj/\y=e)->o.wp Pg a w K Q:=by
  intro c;obtain⟨y,h1,h2,rfl⟩:=FC c;have L :∀g∈y.new,st.used g=zv:=λg hg=>by have:=(Zs.1 h2) g hg;simpa using this
  refine abM hT X U h1 L λv w' bQ q1 q2 q3 q4=>hK _ _ ⟨⟨bQ,?_,λg hg=>?_⟩,by rw[DW];exact z,J.step U q2 _ _⟩
  .rw [DV _ _ hd];exact q1.put o.dst q3 q4
  .obtain ⟨p1,p2⟩:=Ny g hg;have Z:(st.eff o.dst y).o g=(st.aK y.aK y.new).o g:=by unfold St.eff St.put;cases o.dst<;>rfl
   have hu:(st.eff o.dst y).used g=(st.aK y.aK y.new).used g:=by unfold St.eff St.put;cases o.dst<;>rfl
   refine⟨by rw[hu];simp[St.aK,p1],?_⟩;rw[Z];rcases q2.names g p1 with q|⟨q,qk⟩
   .exact .inl q
   .rcases p2 with p2|p2
    .rw [p2]at qk;exact .inl (O.OG qk)
    .exact .inr ⟨q.1.trans p2.1,q.2.trans p2.2⟩
 unfold wpOp;rw[hi];simp only;cases hg:o.guard with
 |none=>
  rw[hg]at c;have:Region.wanted o (yielded ops a.tmps)=zj:=by simp[Region.wanted,hg]
  rw[QR this];exact .inl (run c)
 |some p=>
  obtain⟨j,want⟩:=p;rw[hg]at c;simp only at c;split at c
  .rename_i b B;have hw:Region.wanted o (yielded ops a.tmps)=b:=by
    simp only[Region.wanted,hg,yielded];unfold guardOf at B;split at B
    .rename_i t ht;have M:=U.slots t;rw[ht];simp only[Option.bind_some];split at B
     .rename_i Y i' b' hs;rw[hs]at M;have m:=M.gu.oI;have:a.tmps[t]?=zw (.bool b'):=by
       simp only[WP]at m;cases H:a.tmps[t]? with
       |none=>rw[H]at m;cases m
       |some x=>rw[H]at m;simp at m;rw[m]
      rw[this];cases B;cases want<;>cases b'<;>rfl
     .rename_i hs;rw[hs]at M;cases B;have m:a.tmps.getD t undef=.tuple #[]:=by
       generalize a.tmps.getD t undef=v at M;cases M with|jq _ vs hl _=>
       have:vs=[]:=by cases vs<;>simp_all
       subst this;rfl
      have:a.tmps[t]?=zz\/a.tmps[t]?=zw (.tuple #[]):=by
       simp only[WP]at m;cases H:a.tmps[t]? with
       |none=>exact .inl rfl
       |some x=>rw[H]at m;simp at m;rw[m];exact .inr rfl
      rcases this with h|h<;>rw[h]<;>cases want<;>rfl
     .cases B
    .cases B
   rw[hw];cases b with
   |true=>exact .inl (run c)
   |false=>
    simp only[cond_false]at c;subst c;refine hK _ _ ⟨⟨gh,?_,λg hg=>?_⟩,by rw[DW];exact z,J.put _ _⟩
    .rw [DV _ _ hd];unfold St.eff Eff.skip;simp only[Jh];exact U.put o.dst (.jq [] [] rfl λj x v H=>by simp at H) (by simp[S.names])
    .have Z:(st.eff o.dst Eff.skip).o g=st.o g:=by unfold St.eff St.put Eff.skip;cases o.dst<;>simp[St.aK]
     have hu:(st.eff o.dst Eff.skip).used g=st.used g:=by unfold St.eff St.put Eff.skip;cases o.dst<;>simp[St.aK]
     rw[Z,hu];exact Ny g hg
  .cases c
end
end Go.Fw

namespace Go.Fw
variable [fH]
section
variable {o o':Nat->O}
theorem KL{k:WS}{x:W}(h :∀g∈x.names,Agree o o' g):gI o k x=gI o' k x:=by
 cases k with
 |p a i=>simp only[gI];rw[FB h]
 |own g'=>cases x<;>rfl
 |box g' off=>
  cases off with
  |zero=>cases x<;>first|rfl|(rename_i off;cases off<;>rfl)
  |succ off=>cases x<;>rfl
 |dJ=>cases x<;>rfl
 |fn f=>cases x<;>first|rfl|(rename_i b;cases b<;>rfl)
 |oD g=>cases x<;>rfl
 |no=>cases x<;>rfl
 |vw g=>cases x<;>rfl
 |ep g off=>cases x<;>rfl
theorem H7:∀{b:List WS} {xs:List W},(∀x∈xs,∀g∈x.names,Agree o o' g)->ku o b xs=ku o' b xs
 | [],[],_=>rfl
 | [],_::_,_=>rfl
 |_::_,[],_=>rfl
 |k::b,x::xs,h=>by simp only[ku];rw[KL (h x (by simp)),H7 λy c=>h y (by simp[c])]
theorem Xo{k:SS}{x:S}(h :∀g∈x.names,Agree o o' g):pz o k x=pz o' k x:=by
 cases k with
 |one k=>
  cases x with
  |v x=>cases x with
   |one x=>exact KL λg hg=>h g (by simpa[S.names,V.names]using hg)
   |agg xs=>rfl
  |jq=>rfl
  |no=>rfl
 |agg c=>
  cases x with
  |v x=>cases x with
   |one x=>rfl
   |agg xs=>exact H7 λx b g hg=>h g (by simp only[S.names,V.names,Z6];exact⟨x,b,hg⟩)
  |jq=>rfl
  |no=>rfl
theorem Y1{args:List S}{t:Nat}:args.getD t .no=.no\/args.getD t .no∈args:=by
 rw[Q2];cases h:args[t]? with
 |none=>exact .inl rfl
 |some x=>exact .inr (Z3 h)
theorem yZ{args:List S}(h :∀x∈args,∀g∈x.names,Agree o o' g):∀{L:List (Nat×SS)},fM o args L=fM o' args L
 | []=>rfl
 |(t,k)::L=>by
  simp only[fM];rw[Xo (o:=o) (o':=o') (k:=k) (x:=args.getD t .no) (λg hg=>by
   rcases Y1 (args:=args) (t:=t)with e|e
   .rw [e]at hg;simp[S.names]at hg
   .exact h _ e g hg),yZ h]
theorem DX{k:WS}{x:W}{us:List P}{c:Bool×Bool}{gs:List Nat}{r:List (Nat×Nat)}(h:gI o k x=zw (us,c,gs,r))(d :∀g∈x.names,Agree o o' g):∀g∈gs,Agree o o' g:=by
 cases k with
 |p a i=>
  simp only[gI]at h;split at h
  .rename_i j;simp only[Q0,QQ]at h;obtain⟨_,_,rfl,_⟩:=h;exact BK j d
  .cases h
 |own g'=>cases x<;>simp[gI]at h;obtain⟨_,_,rfl,_⟩:=h;simp
 |box g' off=>
  cases off with
  |succ off=>cases x<;>simp[gI]at h
  |zero=>
   cases x with
   |box g off=>cases off<;>simp[gI]at h;obtain⟨_,_,rfl,_⟩:=h;simp
   |_=>simp[gI]at h
 |dJ=>simp[gI]at h
 |fn f m=>
  cases x with
  |clo q b=>
   simp only[gI]at h;split at h
   .split at h
    .simp only[Q0,QQ]at h;obtain⟨_,_,rfl,_⟩:=h;simp
    .cases h
   .cases h
  |_=>simp[gI]at h
 |oD g=>simp[gI]at h
 |no=>simp[gI]at h
 |vw g=>simp[gI]at h
 |ep g off=>simp[gI]at h
theorem Bc:∀{b:List WS} {xs:List W} {us:List P} {c:Bool×Bool} {gs:List Nat} {r:List (Nat×Nat)},ku o b xs=zw (us,c,gs,r)->(∀x∈xs,∀g∈x.names,Agree o o' g)->∀g∈gs,Agree o o' g
 | [],xs,us,c,gs,r,h,_=>by cases xs<;>simp[ku]at h;obtain⟨_,_,rfl,_⟩:=h;simp
 |k::b,xs,us,c,gs,r,h,d=>by
  cases xs with
  |nil=>simp[ku]at h
  |cons x xs=>
   simp only[ku]at h;split at h
   .rename_i j m;simp only[Q0,QQ]at h;obtain⟨_,_,rfl,_⟩:=h;intro g hg;rcases Z0.1 hg with hg|hg
    .exact DX j (d _ (by simp)) g hg
    .exact Bc m (λy q=>d y (by simp[q])) g hg
   .cases h
theorem vH{args:List S}:∀{L:List (Nat×SS)} {us:List P} {c:Bool×Bool} {gs:List Nat} {r:List (Nat×Nat)},fM o args L=zw (us,c,gs,r)->(∀x∈args,∀g∈x.names,Agree o o' g)->∀g∈gs,Agree o o' g
 | [],us,c,gs,r,h,_=>by simp[fM]at h;obtain⟨_,_,rfl,_⟩:=h;simp
 |(t,k)::L,us,c,gs,r,h,j=>by
  simp only[fM]at h;split at h
  .rename_i b m;simp only[Q0,QQ]at h;obtain⟨_,_,rfl,_⟩:=h;intro g hg;rcases Z0.1 hg with hg|hg
   .have d :∀g∈(args.getD t .no).names,Agree o o' g:=by
     rcases Y1 (args:=args) (t:=t)with e|e
     .rw [e];simp[S.names]
     .exact j _ e
    .generalize args.getD t S.no=z at b d;cases k with
     |one k=>
      cases z with
      |v z=>
       cases z with
       |one z=>exact DX b (λg hg=>d g (by simpa[S.names,V.names]using hg)) g hg
       |agg z=>simp[pz]at b
      |_=>simp[pz]at b
     |agg q=>
      cases z with
      |v z=>
       cases z with
       |one z=>simp[pz]at b
       |agg z=>exact Bc b (λx j g hg=>d g (by simp only[S.names,V.names,Z6];exact⟨x,j,hg⟩)) g hg
      |_=>simp[pz]at b
   .exact vH m j g hg
  .cases h
theorem pG:∀{L:List (Nat×OS)} {r d:List (Nat×Nat)} {u:List P} {c:Bool×Bool},jX o r L=zw (u,c,d)->∀p∈r,p∈d
 | [],r,d,u,c,h=>by simp only[jX,Q0,QQ]at h;obtain⟨_,_,rfl⟩:=h;exact λp g=>g
 |(g',k)::L,r,d,u,c,h=>by
  simp only[jX]at h;split at h
  .split at h
   .split at h
    .split at h
     .rename_i b;simp only[Q0,QQ]at h;obtain⟨_,_,rfl⟩:=h;exact λp g=>pG b p (W6 _ g)
     .cases h
    .cases h
   .split at h
    .split at h
     .rename_i b;simp only[Q0,QQ]at h;obtain⟨_,_,rfl⟩:=h;exact pG b
     .cases h
    .cases h
   .split at h
    .split at h
     .rename_i b;simp only[Q0,QQ]at h;obtain⟨_,_,rfl⟩:=h;exact pG b
     .cases h
    .cases h
   .cases h
  .cases h
theorem qR:∀{L:List (Nat×OS)} {r j:List (Nat×Nat)} {u:List P} {c:Bool×Bool},jX o r L=zw (u,c,j)->(∀p∈j,o p.2=o' p.2)->jX o' r L=zw (u,c,j)
 | [],r,j,u,c,h,_=>h
 |(g',k)::L,r,j,u,c,h,y=>by
  simp only[jX]at h ⊢;split at h
  .rename_i g hg;have m:=jY hg;have key :∀z:List (Nat×Nat),(∀p∈r,p∈z)->(∀p∈z,p∈j)->o g=o' g:=λz B b=>y _ (b _ (B _ m));split at h
   .rename_i N U q;split at h
    .rename_i X B;split at h
     .rename_i b;cases h;have e:=key _ (λp w=>W6 _ w) (pG b);simp only[<-e,q,B,qR b y]
     .cases h
    .cases h
   .rename_i J K Y M a i H l q;split at h
    .rename_i d;split at h
     .rename_i b;cases h;have e:=key _ (λp w=>w) (pG b);simp only[<-e,q,qR b y,QR d]
     .cases h
    .cases h
   .rename_i J K M Z a i H iP l q;split at h
    .rename_i d;split at h
     .rename_i b;cases h;have e:=key _ (λp w=>w) (pG b);simp only[<-e,q,qR b y,QR d]
     .cases h
    .cases h
   .cases h
  .cases h
theorem QE{s:A_}{args:List S}{c:Oy}(h:jh s o args=zw c)(b :∀x∈args,∀g∈x.names,Agree o o' g)(d :∀p∈c.ren,o p.2=o' p.2):jh s o' args=zw c:=by
 unfold jh at *;rw[<-yZ b];split at h
 .rename_i q;split at h
  .rename_i j;cases h;simp only[qR j λp m=>d p (n_.2 m)]
  .cases h
 .cases h
theorem KN{s:A_}{args:List S}{c:Oy}(b:jh s o args=zw c)(h :∀x∈args,∀g∈x.names,Agree o o' g):∀g∈c.wK,Agree o o' g:=by
 unfold jh at b;split at b
 .rename_i d;split at b
  .cases b;exact vH d h
  .cases b
 .cases b
end
def Uw(T:Tab)(st:St)(o:Oper):List Nat:=
 match o.op with
 |.call { callee:=.value f,args,.. }=>match st.dG f with
  |.v (.one (.clo fn b))=>match pick T fn (args.toList.map st.dG)with
   |some sp=>match jh sp.sig st.o ((args.toList.map st.dG)++b.map λx=>S.v (.one x))with
    |some c=>c.ren.map (·.2)
    |none=>[]
   |none=>[]
  |_=>[]
 |_=>[]
def looks:Op->Bool
 |.move _|.assign _|.pick _ _ _|.build _ _|.extract _ _|.field _ _ _|.makeFunc _ _ _=>zv
 |_=>zj
theorem QF{o o':Nat->O}{tt:TT}{d:Nat}{F b:Operand->S}{op:Op}{ty:TypeId}(g:looks op=zv)(h :∀x∈op.operands.toList,F x=b x):kernel tt d o F op ty=kernel tt d o' b op ty:=by
 refine(DR (o':=o) h λ_ _ _ _=>⟨rfl,λ_ _=>rfl⟩).trans ?_;cases op<;>first
  |(cases g;done)
  |rfl
  |(rename_i fn first c;cases fn<;>rfl)
theorem NW{o:Nat->O}{tt:TT}{b:List (Nat×Nat)}{d:Nat}{F:Operand->S}{op:Op}{ty:TypeId}(c:looks op=zv):dX tt b d o F op ty=zz:=by
 cases op<;>first
  |(cases c;done)
  |rfl
def DY(T:Tab)(st:St)(o:Oper):List Nat:=(bif looks o.op then(o.op.operands.toList.flatMap λx=>(st.dG x).names.flatMap λg=>g::(st.o g).hn)else[])++Uw T st o
def uM(T:Tab)(st:St)(o:Oper):List Nat:=DY T (Fw.shuts (jG st o) st) o++(uJ st o).flatMap λg=>g::(st.o g).hn
section
variable {T:Tab} {tt:TT} {st st':St}
theorem QG{d:Nat}{o:Oper}{K:Eff->Prop}(h:lg T tt d st o K)(z :∀x∈o.op.operands.toList,st.dG x=st'.dG x)(ho :∀g∈DY T st o,st.o g=st'.o g):lg T tt d st' o K:=by
 have b:looks o.op=zj->∀x∈o.op.operands.toList,∀g∈(st.dG x).names,Agree st.o st'.o g:=λq x hm g hg=>by have key :∀d∈g::(st.o g).hn,st.o d=st'.o d:=λd hd=>ho d (W6 _ (by rw[q];exact Z6.2 ⟨x,hm,Z6.2 ⟨g,hg,hd⟩⟩));exact⟨key g (by simp),λd hd=>key d (by simp[hd])⟩
 have m :∀g∈Uw T st o,st.o g=st'.o g:=λg hg=>ho g (UT _ hg);unfold lg at *;unfold Uw at m;split at h
 .rename_i f args ts N;rw[N]at z b m;have b:=b rfl;simp only at m;have U:=z f (by simp[Op.operands,Call.operands]);have X :∀x∈args.toList,st.dG x=st'.dG x:=λx hm=>z x (by simp[Op.operands,Call.operands];exact .inr (by simpa using hm));have Y :∀x∈args.toList,∀g∈(st.dG x).names,Agree st.o st'.o g:=λx hm=>b x (by simp[Op.operands,Call.operands];exact .inr (by simpa using hm));have B:=b f (by simp[Op.operands,Call.operands]);rw[<-U];split at h
  .rename_i fn H hf;rw[hf]at B m;simp only at m;split at h
   .rename_i sp J;rw[J]at m;simp only at m;have L:args.toList.map st'.dG=args.toList.map st.dG:=W8 λx hm=>(X x hm).symm;rw[L];split at h
    .rename_i c w;rw[w]at m;have M :∀x∈(args.toList.map st.dG)++(H.map λx=>S.v (.one x)),∀g∈x.names,Agree st.o st'.o g:=by
      intro x hm g hg;rcases Z0.1 hm with hm|hm
      .obtain ⟨y,Z,rfl⟩:=XS.1 hm;exact Y y Z g hg
      .obtain ⟨y,Z,rfl⟩:=XS.1 hm;refine B g ?_;obtain⟨j,hj⟩:=UV.1 Z;simp only[S.names,V.names];exact AO hj (by simpa[S.names,V.names]using hg)
     have atj:=QE w M λp hp=>m p.2 (XS.2 ⟨p,hp,rfl⟩);have ame:c.wK.map (bf st.o)=c.wK.map (bf st'.o):=oL (KN w M);simp only[J,atj];obtain⟨q1,dP,same,q2,q4,q3⟩:=h;have:lG sp.sig d st'.o c dP=lG sp.sig d st.o c dP:=by simp only[lG,ame]
     refine⟨q1,dP,same,q2,?_,?_⟩
     .rw [this];intro g hg;obtain⟨a1,a2⟩:=q4 g hg;exact⟨a1,by rw[a2,m g a1]⟩
     .rw [this];exact q3
    .cases h
   .cases h
  .cases h
 .rcases h with⟨dc,r,h1,h2,h3⟩|h
  .refine .inl ⟨dc,r,?_,h2,h3⟩;cases q:looks o.op with
   |true=>rw[<-NU z (b q)];exact h1
   |false=>rw[NW q]at h1;cases h1
  .refine .inr ?_;cases q:looks o.op with
   |true=>rw[<-DR z (b q)];exact h
   |false=>rw[<-QF q z];exact h
theorem y7{o o':Nat->O}:∀(n:Nat) {gs:List Nat},(∀g∈qx o n gs,o g=o' g)->qx o' n gs=qx o n gs
 |0,_,_=>rfl
 |n+1,gs,h=>by
  simp only[qx]at h ⊢;have e:(gs.flatMap λg=>yT (o' g))=gs.flatMap λg=>yT (o g):=by refine W3 List.flatten (W8 λg hg=>?_);rw[h g (W6 _ hg)]
  rw[e,y7 n λg hg=>h g (UT _ hg)]
theorem Ux{o o':Nat->O}{g:Nat}(h:o g=o' g)(b :∀d∈(o g).hn,o d=o' d):Fw.lu o g=Fw.lu o' g:=by
 unfold Fw.lu;rw[<-h];split
 .rename_i a i m q l n c d j;rw[<-b d (by rw[j];simp[O.hn,dL])]
 .rfl
theorem H8:∀(hs:List Nat) {st st':St},(∀g∈hs,st.o g=st'.o g/\∀d∈(st.o g).hn,st.o d=st'.o d)->∀x,st.o x=st'.o x->(Fw.shuts hs st).o x=(Fw.shuts hs st').o x
 | [],_,_,_,_,h=>h
 |g::gs,st,st',h,x,j=>by
  have hu:=Ux (h g (by simp)).1 (h g (by simp)).2;have step :∀y,st.o y=st'.o y->(st.aK (Fw.lu st.o g) []).o y=(st'.aK (Fw.lu st'.o g) []).o y:=λy m=>by simp only[St.aK,hu,m]
  refine H8 gs (λg' b=>⟨step g' (h g' (by simp[b])).1,λd hd=>step d ?_⟩) x (step x j);cases c:(Fw.lu st.o g).lookup g' with
  |none=>simp only[St.aK,c]at hd;exact(h g' (by simp[b])).2 d hd
  |some y=>simp only[St.aK,c]at hd;rw[Us y c]at hd;cases hd
theorem Uy{d:Nat}{o:Oper}{K:Eff->Prop}(h:jH T tt d st o K)(y :∀x∈o.op.operands.toList,st.dG x=st'.dG x)(z :∀g∈uM T st o,st.o g=st'.o g):jH T tt d st' o K:=by
 have w:argNames st' o=argNames st o:=by
  unfold argNames;split
  .rename_i f args ts j;refine W3 List.flatten (W8 λx B=>?_);rw[y x (by rw[j];simp[Op.operands,Call.operands];exact .inr (by simpa using B))]
  .rename_i t x lo X Y j;rw[y x (by rw[j];simp[Op.operands])]
  .rfl
 have b :∀g∈uJ st o,st.o g=st'.o g/\∀d∈(st.o g).hn,st.o d=st'.o d:=λg hg=>⟨z g (UT _ (Z6.2 ⟨g,hg,by simp⟩)),λd hd=>z d (UT _ (Z6.2 ⟨g,hg,V1 _ hd⟩))⟩
 have H:uJ st' o=uJ st o:=by unfold uJ at b ⊢;rw[w];exact y7 2 λg hg=>(b g hg).1
 have J:jG st' o=jG st o:=by unfold jG;rw[H,w];refine List.filter_congr λg hg=>?_;rw[(b g hg).1]
 have c :∀g∈jG st o,g∈uJ st o:=λg hg=>(v8.1 hg).1;have m:=H8 (jG st o) λg hg=>b g (c g hg);have M :∀e,DL (jG st o) st e=DL (jG st o) st' e:=λe=>by
  have L:Ba (jG st o) st=Ba (jG st o) st':=by unfold Ba;refine W3 List.flatten (W8 λg hg=>?_);have q:=b g (c g hg);rw[m g q.1,<-q.1];congr 1;refine W8 λd hd=>?_;rw[m d (q.2 d hd)]
  generalize jG st o=N at L ⊢;cases N with
  |nil=>rfl
  |cons g gs=>simp only[DL,L]
 unfold jH at h ⊢;rw[J];refine QG (st:=Fw.shuts (jG st o) st) (tK (λe U=>by rw[<-M e];exact U) h) (λx B=>?_) λg hg=>?_
 .have:=y x B;cases x with
  |tmp t=>show (Fw.shuts _ st).s t=(Fw.shuts _ st').s t;rw[Jj,Jj];exact this
  |_=>rfl
 .exact m g (z g (W6 _ hg))
theorem abN{N:Nat}{ops:Array Oper}{o:Oper}{e:Eff}(c:Can T tt N ops st o e)(hs :∀t∈o.looksAt ops,st.s t=st'.s t)(q :∀g∈uM T st o,st.o g=st'.o g)(hu :∀g∈e.new,st.used g=st'.used g):Can T tt N ops st' o e:=by
 have w :∀x∈o.op.operands.toList,st.dG x=st'.dG x:=by
  intro x y;cases x with
  |tmp t=>exact hs t (W6 _ (qd.2 ⟨_,y,rfl⟩))
  |_=>rfl
 have eff:(jH T tt (o.dst.getD 0) st o λd=>d.new.all (λg=>!st.used g)=zj/\d=e)->(jH T tt (o.dst.getD 0) st' o λd=>d.new.all (λg=>!st'.used g)=zj/\d=e):=by intro h;refine pF (λd z=>?_) (Uy h w q);obtain⟨m,rfl⟩:=z;refine⟨?_,rfl⟩;rw[Zs]at m ⊢;intro g hg;rw[<-hu g hg];exact m g hg
 unfold Can stepW at *;refine⟨c.1,?_⟩;have c:=c.2;cases hg:o.guard with
 |none=>rw[hg]at c;exact eff c
 |some p=>
  obtain⟨j,want⟩:=p;rw[hg]at c;simp only at c ⊢;have:guardOf ops st j want=guardOf ops st' j want:=by
   unfold guardOf;cases hd:(ops[j]?).bind (·.dst)with
   |none=>rfl
   |some t=>simp only;rw[hs t (UT _ (by simp[hg,hd]))]
  rw[<-this];split at c
  .rename_i b B;cases b with
   |true=>exact eff c
   |false=>exact c
  .cases c
end
def OI(o:Nat->O):S->Option (Bool->Prop)
 |.v (.one (.p _ _ (.sl _ l)))=>zw λb=>l≠[]->b=zv
 |.v (.one (.own g))=>match (o g).dim with
  |some (_,l)=>zw λb=>l≠0->b=zv
  |none=>zz
 |.v (.one .dJ)=>zw λb=>b=zj
 |_=>zz
def H9(o:Nat->O):S->Option (Bool->Prop)
 |.v (.one (.box g _))=>match o g with
  |.box _=>zw λb=>b=zv
  |_=>zz
 |.v (.one (.p _ _ (.opq (.pointer zz))))=>zw λb=>b=zj
 |_=>zz
def y8(o:Nat->O)(x:S)(k:TK)(c:Value):Option (Bool->Prop):=
 match k,c with
 |.slice _,.slice zz 0 0=>OI o x
 |.ptr,.pointer zz=>H9 o x
 |_,_=>zz
def QH(tt:TT)(st:St)(o:Oper):Option (Bool×(Bool->Prop)):=
 match o.guard with
 |some _=>zz
 |none=>match o.op with
  |.binOp op t x (.const c) _=>match tt t with
   |some i=>match op,y8 st.o (st.dG x) i.k c with
    |.eql,zw p=>zw (zj,p)
    |.neq,zw p=>zw (zv,p)
    |_,_=>zz
   |none=>zz
  |_=>zz
def Uz(s n:P):Bool:=decide (n.nat<s.bytes.size)
def aea(s n:P):P:=.int .i32 (Utf8.decode s.bytes n.nat).1
def Xp(s n:P):P:=lQ (n.nat+(Utf8.decode s.bytes n.nat).2)
def QI(st:St)(o:Oper):Option (Nat×P×P):=
 match o.guard with
 |some _=>zz
 |none=>match o.op with
  |.next x zj=>match st.dG x with
   |.v (.one (.oD g))=>match st.o g with
    |.it s n=>zw (g,s,n)
    |_=>zz
   |_=>zz
  |_=>zz
def KO(g:Nat)(s n:P):Eff:={ x:=.jq [.one (.p zv zv (.bool zj)),.one (.p zv zv (lQ n.nat)),.one (.p zv zv (aea s n))],aK:=[(g,.it s (Xp s n))],new:=[] }
def OJ:Eff:={ x:=.jq [.one (.p zv zv (.bool zv))],aK:=[],new:=[] }
def DZ(T:Tab)(tt:TT)(N:Nat)(ops:Array Oper)(o:Oper)(st:St)(K:Eff->Prop):Prop:=
 match QH tt st o with
 |some (pos,p)=>(match o.dst with
  |some d=>decide (d<N)
  |none=>zj)=zj/\∀b:Bool,p b->K { x:=scalar (.bool (bif pos then b else !b)),aK:=[],new:=[] }
 |none=>match QI st o with
  |some (g,s,n)=>(match o.dst with
   |some d=>decide (d<N)
   |none=>zj)=zj/\(Uz s n=zj->K (KO g s n))/\(Uz s n=zv->K OJ)
  |none=>stepW T tt N ops o st K
def xC(T:Tab)(tt:TT)(N:Nat)(ops:Array Oper):List Nat->St->(St->Prop)->Prop
 | [],st,K=>K st
 |i::b,st,K=>match ops[i]? with
  |some o=>DZ T tt N ops o st λe=>xC T tt N ops b (st.eff o.dst e) K
  |none=>False
structure uN where
 rd:List Nat
 wr:List Nat
 new:List Nat
 ld:Option (Nat×Nat×Nat)
 kp:List (Nat×Nat)
 pk:Bool
 kd:List Nat
def aeb:W->W->Bool
 |.own g,.own g'=>Nat.beq g g'
 |.box g off,.box g' b=>Nat.beq g g'&&Nat.beq off b
 |_,_=>zv
def D5(g:Nat):Nat->List W->List W->Option (List (Nat×Nat))
 |_,[],[]=>zw []
 |j,x::xs,y::b=>match D5 g (j+1) xs b with
  |some r=>zw (match aeb x y with
   |true=>(g,j)::r
   |false=>r)
  |none=>zz
 |_,_,_=>zz
def UA(g:Nat):O->Option O->List (Nat×Nat)
 |.box c,zw (.box b)=>match D5 g 0 c b with
  |some r=>r
  |none=>[]
 |_,_=>[]
def nU:Op->Bool
 |.nilCheck _=>zj
 |.fieldAddr _ _ _=>zj
 |_=>zv
def KP:Op->Bool
 |.load _ _=>zj
 |_=>zv
def O.core:O->Option (Bool×Bool×Nat×List (Nat×Nat)×List (List P))
 |.aP a i b c l _=>zw (a,i,b,c,l)
 |_=>Option.none
def keepR(g:Nat):O->Option O->List (Nat×Nat)
 |.aP _ _ _ _ _ b,zw (.aP _ _ _ _ _ _)=>match b with
  |none=>[(g,5000000)]
  |some _=>[]
 |_,_=>[]
def QJ(st:St)(o:Oper)(e:Eff):List (Nat×Nat):=(bif nU o.op then(o.op.operands.toList.flatMap λx=>(st.dG x).names).map λg=>(g,0)else[]) ++
 (e.aK.map (·.1)).flatMap λg=>UA g (st.o g) (e.aK.lookup g)++bif KP o.op then keepR g (st.o g) (e.aK.lookup g)else[]
def kindOf:O->Nat
 |.box _=>1
 |.arr _ _ _ _ _=>2
 |.aP _ _ _ _ _ _=>2
 |.it _ _=>3
 |.none=>0
def Xq(st:St)(e:Eff):List Nat:=(e.aK.map (·.1)).filterMap λg=>match e.aK.lookup g with
 |some x=>bif Nat.beq (kindOf x) (kindOf (st.o g))then zw g else zz
 |none=>zz
def NY(tt:TT)(st:St)(o:Oper):Option (Nat×Nat×Nat):=match o.op with
 |.load t x=>match tt t,st.dG x with
  |some i,.v (.one (.box g off))=>zw (g,off,i.size)
  |some i,.v (.one (.ep g _ off))=>match st.o g with
   |.aP _ _ _ b _ _=>bif(jE b off i.size).isEmpty then zw (g,5000000,1)else zz
   |_=>zz
  |_,_=>zz
 |_=>zz
def pY(T:Tab)(tt:TT)(N:Nat)(ops:Array Oper):List Nat->St->List uN->(St->List uN->Prop)->Prop
 | [],st,b,K=>K st b
 |i::c,st,b,K=>match ops[i]? with
  |some o=>stepW T tt N ops o st λe=>pY T tt N ops c (st.eff o.dst e) (b++[{ rd:=uM T st o,wr:=e.aK.map (·.1),new:=e.new,ld:=NY tt st o,kp:=QJ st o e,pk:=nU o.op,kd:=Xq st e }]) K
  |none=>False
def mO(acc:List Nat)(o:Oper):Nat:=o.after.toList.foldl (λs e=>if Region.binds .any e=zj then s ||| (2 ^ e.on) ||| acc.getD e.on 0 else s) 0
def pI:List Oper->List Nat->List Nat
 | [],b=>b
 |o::os,b=>pI os (b++[mO b o])
def KQ(x:Option Tmp)(ts:List Tmp):Bool:=match x with
 |some t=>!ts.contains t
 |none=>zj
def H_(w r:uN):Bool:=match r.ld with
 |some (g,off,n)=>(List.range n).all λj=>w.kp.any λp=>Nat.beq p.1 g&&Nat.beq p.2 (off+j)
 |none=>r.pk&&r.kp.all λp=>!w.wr.contains p.1||w.kd.contains p.1
def aec(ops:Array Oper)(x y:Oper)(fx fy:uN):Bool:=KQ x.dst (y.looksAt ops)&&KQ y.dst (x.looksAt ops)&&KQ x.dst y.dst.toList&&(Qx fx.wr fy.rd||H_ fx fy)&&(Qx fy.wr fx.rd||H_ fy fx)&&Qx fx.wr fy.wr&&Qx fx.new fy.new
def Y2(ops:Array Oper)(fs:List uN):Bool:=
 let as:=pI ops.toList []
 (List.range ops.size).all λj=>decide (as.getD j 0<2 ^ j)&&(List.range j).all λi=>(as.getD j 0).testBit i||match ops[i]?,ops[j]?,fs[i]?,fs[j]? with
  |some x,zw y,zw b,zw c=>aec ops x y b c
  |_,_,_,_=>zv
def tN(T:Tab)(tt:TT)(N:Nat)(ops:Array Oper)(draw:Bool)(st:St)(K:St->Prop):Prop:=
 match draw with
 |false=>xC T tt N ops (List.range ops.size) st K
 |true=>pY T tt N ops (List.range ops.size) st [] λst' b=>Y2 ops b=zj/\K st'
end Go.Fw

