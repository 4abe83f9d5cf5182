/-
  The framework (a machine on plain data that answers as the program does), part 2.
-/
import Derived.RangeFuncOwn
import Derived.Orders
import Derived.Test.YtoipcimfapppmaaGreatDoorZa
set_option linter.unusedSimpArgs false
set_option linter.unusedVariables false
set_option linter.unusedSectionVars false
open Option renaming some->zw,none->zz
open Bool renaming true->zj,false->zv
variable{H a i u:Bool}{A c:Bool×Bool}{r:List (Nat×Nat)}{b:List Nat}{d g n:Nat}{J:Nat->Go.Fw.Gh}{f:Nat->Nat}{o:Go.Oper}{F:Go.Operand->Go.Fw.S}{h:Option (Nat×Nat×Nat)}{y:Go.Fw.S}{e:Go.TypeId}{M:Go.Fw.V}{v:Go.Value}{x:Go.Fw.W}
namespace Go.Fw
variable [fO]
def uI:List Nat->Bool
 | []=>zj
 |x::xs=>!xs.contains x&&uI xs
def FH(xs ys:List Nat):Bool:=xs.all λx=>!ys.contains x
def jH(au:List (Nat×Nat))(off n:Nat):List (Nat×Nat):=au.filter λc=>Nat.ble off c.1&&Nat.blt c.1 (off+n)
def jI(o:Nat->O)(g:Nat):Option (Bool×Bool×Nat×List (Nat×Nat)×List (List P)):=match o g with
 |.aO a i j m l b=>match b with
  |none=>zw (a,i,j,m,l)
  |some (n,c,d)=>match o d with
   |.arr zv a' i' h q=>if m.lookup c=zw h/\c<j then zw (a||a',i||i',j,m,jM l n c (P.gV h q))else zz
   |_=>zz
 |_=>zz
def kills(gs:List Nat):List (Nat×O):=gs.map λg=>(g,.none)
def TM(o:Nat->O)(col:Nat->Option Nat):Nat->List W->Option (List P×Bool×Bool×List Nat×List (Nat×Nat))
 |_,[]=>zw ([],zv,zv,[],[])
 |j,x::xs=>match TM o col (j+1) xs with
  |none=>zz
  |some (c,a',i',b,es)=>match col j with
   |none=>match x.toP o with
    |some (y,a,i,gs)=>zw (y::c,a||a',i||i',gs++b,es)
    |none=>zz
   |some s=>match x with
    |.dD=>zw (.sl 0 []::c,a',i',b,es)
    |.own e=>match o e with
     |.arr zv a i d l=>if d=s then zw (P.gV s l::c,a||a',i||i',b,(j,e)::es)else zz
     |_=>zz
    |_=>zz
def baseD(o:Nat->O):W->Option (Prop×Bool×Bool×List (List P)×List Nat×Option (Nat×List (Nat×Nat)))
 |.dD=>zw (True,zv,zv,[],[],zz)
 |.own g=>match jI o g with
  |some (a,i,b,c,l)=>zw (True,a,i,l,g::(o g).hn,zw (b,c))
  |none=>zz
 |.vw g lo d=>match jI o g with
  |some (a,i,b,c,l)=>zw (lo=lV 0,a,i,l.take d.nat,g::(o g).hn,zw (b,c))
  |none=>zz
 |_=>zz
def hdr(l:List (List P)):P:=.sl 0 (List.replicate l.length [])
def Us:List (Nat×Nat)->Bool
 | [(0,0)]=>zj
 |_=>zv
def uJ(tt:TT)(o:Nat->O)(f:Operand->S)(t:TypeId)(x:Operand):Option Fj:=match tt t,f x with
 |some i,.v (.one (.ep g n off))=>match jI o g with
  |some (a,d,b,c,l)=>match c.lookup off with
   |some _=>if off<b/\i.size=1/\i.agg=zv then zw (.pure (.v (.one (.p zv zv (hdr ((l.getD n.nat []).getD off default).list)))))else zz
   |none=>zz
  |none=>zz
 |_,_=>zz
def dY(tt:TT)(dc:List (Nat×Nat))(d:Nat)(o:Nat->O)(f:Operand->S)(op:Op)(ty:TypeId):Option Fj:=
 match op with
 |.load t x=>bif Us dc then uJ tt o f t x else match tt t,f x with
  |some i,.v (.one (.ep g n off))=>match o g with
   |.aO a0 i0 X Y K q=>if off+i.size<=X/\0<i.size then match jH Y off i.size with
    | []=>zw (.pure (V.gI i.agg ((List.range i.size).map λj=>.p a0 i0 ((K.getD n.nat []).getD (off+j) (Ub i.zero j)))))
    | [(c,s)]=>match jI o g with
     |some (a,i',h,H,l)=>zw (.mk True (.sl h l) (λy=>V.gI i.agg ((List.range i.size).map λj=>if Nat.beq (off+j) c=zj then .own d else .p a i' ((y.list.getD n.nat []).getD (off+j) (Ub i.zero j))))
       (λy=>(g,.aO a i' h H y.list (zw (n.nat,c,d)))::(d,.arr zv a i' s ((y.list.getD n.nat []).getD c default).list)::kills (o g).hn) [d])
     |none=>zz
    |_=>zz
    else zz
   |_=>zz
  |_,_=>zz
 |.store t x y=>match tt t,f x,f y with
  |some i,.v (.one (.ep g n off)),.v y=>match o g with
   |.aO a0 i0 h H K q=>match TM o (λj=>H.lookup j) off y.words with
    |some (L,a',i',gs,es)=>if off+i.size<=h/\y.words.length=i.size/\y.solid=zj/\gs.contains g=zv/\uI (es.map (·.2))=zj/\FH (es.map (·.2)) gs=zj then
      let B (pre:Prop) (a i:Bool) (l:List (List P)) (Z:Option (Nat×Nat×Nat)) (N:List Nat):Fj:=
       .mk pre (.sl h (l.set n.nat (bf (l.getD n.nat []) off L))) (λ_=>.no) (λz=>(g,.aO (a||a') (i||i') h H z.list Z)::kills (es.map (·.2))++kills N++gs.map (bC o)) []
      match jH H off i.size with
      | []=>zw (B True a0 i0 K q [])
      |_::_=>match q with
       |none=>zw (B True a0 i0 K zz [])
       |some (U,T,d0)=>match jI o g with
        |some (a,i1,_,_,l)=>if(es.map (·.2)).contains d0=zv/\gs.contains d0=zv then zw (B True a i1 l zz [d0])
          else if off<=T/\T<off+i.size then zw (B (U=n.nat) a0 i0 K zz [])else zz
        |none=>if off<=T/\T<off+i.size then zw (B (U=n.nat) a0 i0 K zz [])else zz
      else zz
    |none=>zz
   |_=>zz
  |_,_,_=>zz
 |.buildSlice t n parts=>match tt t,dc with
  |some { k:=.slice e,.. },_::_=>match tt e with
   |some b=>match nH (λm=>if m<n then zw (m*b.size,b.size)else zz) (iI (b.zero.map cv) n) (parts.toList.map λp=>(p.1,f p.2))with
    |some ws=>match TM o (λj=>dc.lookup (j % b.size)) 0 ws with
     |some (L,a,i,gs,es)=>if n+n*b.size<=16777216/\uI (es.map (·.2))=zj/\FH (es.map (·.2)) gs=zj then
       zw (.mk True (.sl b.size (chunks b.size n L)) (λ_=>.v (.one (.own d)))
        (λy=>(d,.aO a i b.size dc y.list zz)::kills (es.map (·.2))++gs.map (bC o)) [d])else zz
     |none=>zz
    |none=>zz
   |none=>zz
  |_,_=>zz
 |.makeSlice t n c=>match tt t,f n,f c,dc with
  |some { k:=.slice e,.. },.v (.one (.p _ _ n)),.v (.one (.p _ _ c)),_::_=>match tt e with
   |some b=>match TM o (λj=>dc.lookup j) 0 (b.zero.map cv)with
    |some (L,zv,zv,[],[])=>if 0<b.size then
     zw (.mk (∃m k:Nat,n=.int .i64 m/\c=.int .i64 k/\m<=k/\b.bytes*k<=281474976710656/\k<=9223372036854775807) (.sl b.size (List.replicate n.nat L))
      (λ_=>.v (.one (.own d))) (λy=>[(d,.aO zv zv b.size dc y.list zz)]) [d])else zz
    |_=>zz
   |none=>zz
  |_,_,_,_=>zz
 |.call { callee:=.builtin .append,args,argTypes }=>match args.toList,argTypes.toList with
  | [s,x],sT::xT::_=>match tt sT,tt xT,f s,f x with
   |some { k:=.slice e,.. },zw { k:=.slice _,.. },.v (.one s),.v (.one (.own g2))=>match tt e,baseD o s,jI o g2 with
    |some b,zw (ask,a,i,M,N,src),zw (a2,i2,h,H,new)=>
     if b.bytes≠0/\h=b.size/\(src=zz\/src=zw (h,H))/\uI (N++g2::(o g2).hn)=zj then
      zw (.mk (ask/\(M.length+new.length)*b.bytes<=140737488355328) (.sl h (M++new)) (λ_=>.v (.one (.own d)))
       (λy=>(d,.aO (a||a2) (i||i2) h H y.list zz)::kills (N++g2::(o g2).hn)) [d])else zz
    |_,_,_=>zz
   |_,_,_,_=>zz
  |_,_=>zz
 |.slice t x zz J zz=>match tt t,f x with
  |some { k:=.slice e,.. },.v (.one (.own g))=>match tt e,o g with
   |some b,.arr zv a i h l=>if h=b.size then match nI (lV l.length) (J.map f)with
    |some J=>zw (.mk (∃k:Nat,J=.int .i64 k/\k<=l.length) (.sl h (l.take J.nat)) (λ_=>.v (.one (.own d))) (λy=>[(d,.arr zv a i h y.list),(g,.none)]) [d])
    |none=>zz
    else zz
   |some b,.aO a i h H l Option.none=>if h=b.size then match nI (lV l.length) (J.map f)with
    |some J=>zw (.mk (∃k:Nat,J=.int .i64 k/\k<=l.length) (.sl h (l.take J.nat)) (λ_=>.v (.one (.own d))) (λy=>[(d,.aO a i h H y.list Option.none),(g,.none)]) [d])
    |none=>zz
    else zz
   |_,_=>zz
  |_,_=>zz
 |_=>zz
section
variable {E:Env} {st st':St} {gh bU:Nat->Gh} {w w':World} {val:Nat->Value} {Pg:Program} {tt:TT}
theorem tC:∀{l:List Nat},uI l=zj->l.Nodup
 | [],_=>List.nodup_nil
 |x::l,h=>by simp only[uI,QR,V0,V2,decide_eq_false_iff_not]at h;exact K5.2 ⟨h.1,tC h.2⟩
theorem H8{xs:List Nat}(h:FH b xs=zj):∀x∈b,x∉xs:=by intro x c;have:=(Z3.1 h) x c;simpa using this
theorem jf{gs:List Nat}:(kills gs).lookup g=if g∈gs then zw O.none else zz:=by
 induction gs with
 |nil=>rfl
 |cons x gs b=>
  simp only[kills,Qf,List.lookup,Xs];by_cases e:g=x
  .subst e;simp
  .have:(g==x)=zv:=by simpa using e
   rw[this];simp only[e,false_or];exact b
theorem xk{α:Type}{g:Nat}:∀{l r:List (Nat×α)},(l++r).lookup g=(l.lookup g).or (r.lookup g)
 | [],r=>by simp
 |(k,v)::l,r=>by
  simp only[Kk,List.lookup];split
  .rfl
  .exact xk
theorem lookup_cons{α:Type}{v:α}{r:List (Nat×α)}:((d,v)::r).lookup g=if g=d then zw v else r.lookup g:=by
 simp only[List.lookup];by_cases e:g=d
 .subst e;simp
 .have:(g==d)=zv:=by simpa using e
  rw[this,Qt e]
theorem KD{off:Nat}(h:jH r off d=[])(c:off<=n)(j:n<off+d):r.lookup n=zz:=by
 cases b:r.lookup n with
 |none=>rfl
 |some s=>
  have g:(n,s)∈r:=by
   clear h
   induction r with
   |nil=>cases b
   |cons p r m=>
    obtain⟨k,v⟩:=p;rw[lookup_cons]at b;split at b
    .rename_i e;cases b;subst e;simp
    .exact V1 _ (m b)
  have:(n,s)∈jH r off d:=v8.2 ⟨g,by simp[c,j]⟩;rw[h]at this;cases this
theorem H9{α:Type}{g:Nat}{v:α}:∀{l:List (Nat×α)},l.lookup g=zw v->(g,v)∈l
 | [],h=>by cases h
 |(k,x)::l,h=>by
  rw[lookup_cons]at h;split at h
  .rename_i e;cases h;subst e;simp
  .exact V1 _ (H9 h)
theorem Xq{off N:Nat}(h:jH r off d=[(n,N)]):r.lookup n=zw N/\off<=n/\n<off+d/\∀j,off<=j->j<off+d->j≠n->r.lookup j=zz:=by
 have z:(n,N)∈jH r off d:=by rw[h];simp
 obtain⟨B,g⟩:=v8.1 z;simp only[QR,Nat.ble_eq,Nat.blt_eq]at g;have key :∀j s,r.lookup j=zw s->off<=j->j<off+d->(j,s)=(n,N):=by intro j s b m q;have:(j,s)∈jH r off d:=v8.2 ⟨H9 b,by simp[m,q]⟩;rw[h]at this;simpa using this
 refine⟨?_,g.1,g.2,λj m q y=>?_⟩
 .cases b:r.lookup n with
  |none=>
   exfalso;clear h z key
   induction r with
   |nil=>cases B
   |cons p r H=>
    obtain⟨k,v⟩:=p;rw[lookup_cons]at b;split at b
    .cases b
    .rename_i e;rcases Xs.1 B with e1|e1
     .cases e1;exact e rfl
     .exact H e1 b
  |some s=>have:=key n s b g.1 g.2;cases this;rfl
 .cases b:r.lookup j with
  |none=>rfl
  |some s=>have:=key j s b m q;cases this;exact absurd rfl y
variable{l:List (List P)}
theorem Rel.home(h:Rel E st gh val w)(j:jI st.o g=zw (i,a,d,r,l)):
  ∃m q,Rel E m q val w/\Lets E st m gh q w w/\(∀x,(q x).ad=(gh x).ad/\(q x).cap=(gh x).cap)/\m.s=st.s/\(∀x,m.used x=st.used x)/\m.o g=.aO i a d r l zz/\
   (∀sz∈(st.o g).hn,m.o sz=.none/\sz≠g)/\∀g',g'≠g->g'∉(st.o g).hn->m.o g'=st.o g':=by
 unfold jI at j;cases y:st.o g with
 |aO a0 i0 BR lH l0 z=>
  rw[y]at j;simp only at j;rcases z with _|⟨n,c,sz⟩
  .cases j;exact⟨st,gh,h,⟨λi a b M=>⟨M,rfl⟩,λg _=>.inr ⟨⟨rfl,rfl⟩,O.gy _⟩⟩,λ_=>⟨rfl,rfl⟩,rfl,λ_=>rfl,y,(λsz hd=>by cases hd),λ_ _ _=>rfl⟩
  .simp only at j;cases hd:st.o sz with
   |arr N a' i' T l'=>
    rw[hd]at j;cases N with
    |true=>cases j
    |false=>
     simp only at j;split at j
     .rename_i L;cases j;obtain⟨q,K,U,B⟩:=h.shut y hd L.1 L.2;have H:sz≠g:=by intro e;subst e;rw[y]at hd;cases hd
      refine⟨_,q,K,U,B,rfl,λx=>by simp[St.aJ],by simp[St.aJ,List.lookup],λX J=>?_,λg' K Y=>?_⟩
      .simp only[O.hn,dN,X1]at J;subst J;have B:(X==g)=zv:=by simpa using H
       exact⟨by simp[St.aJ,List.lookup,B],H⟩
      .have B:(g'==g)=zv:=by simpa using K
       have Z:(g'==sz)=zv:=by simp;intro e;exact Y (by rw[e];simp[O.hn,dN])
       simp[St.aJ,List.lookup,B,Z]
     .cases j
   |_=>rw[hd]at j;cases j
 |_=>rw[y]at j;cases j
variable{o:Nat->O}
theorem pI(b:jI o g=zw (i,a,d,r,l)):(o g).dim=zw (d,l.length):=by
 unfold jI at b;cases j:o g with
 |aO a0 i0 m q y h=>
  rw[j]at b;simp only at b;rcases h with _|⟨n,c,sz⟩
  .cases b;rfl
  .simp only at b;split at b
   .split at b
    .cases b;simp[O.dim,jG]
    .cases b
   .cases b
 |_=>rw[j]at b;cases b
theorem KE{Q:Nat->Value->Prop}{b o:Nat}(h :∀j,j<n->∃v,w.cell? ⟨b,o+j,zz⟩=zw v/\v.oneCell'=zj/\Q j v):
  ∃cs:List Value,cs.length=n/\(∀(j:Nat) u,cs[j]?=zw u->w.cell? ⟨b,o+j,zz⟩=zw u)/\(∀c∈cs,c.oneCell'=zj)/\∀(j:Nat) u,cs[j]?=zw u->Q j u:=by
 have key :∀j u,((List.range n).map λj=>(w.cell? ⟨b,o+j,zz⟩).getD undef)[j]?=zw u->j<n/\w.cell? ⟨b,o+j,zz⟩=zw u/\u.oneCell'=zj/\Q j u:=by intro j u hu;simp only[Z0,Wg]at hu;obtain⟨k,g,rfl⟩:=hu;obtain⟨d,rfl⟩:=Q3.1 g;simp at d ⊢;obtain⟨v,m,q,y⟩:=h j d;rw[m];exact⟨d,rfl,q,y⟩
 refine⟨(List.range n).map λj=>(w.cell? ⟨b,o+j,zz⟩).getD undef,by simp,λj u hu=>(key j u hu).2.1,λc z=>?_,λj u hu=>(key j u hu).2.2.2⟩;obtain⟨j,B⟩:=UX.1 z;exact(key j c B).2.2.1
def rY(Pg:Program)(tt:TT)(dc:List (Nat×Nat))(op:Op):Prop:=
 ∀(E:Env) (st:St) (gh:Nat->Gh) (val:Nat->Value) (w:World) (ρ:Operand->Value) (F:Operand->S) (o:Oper) (d:Nat) (r:Fj),o.op=op->Rel E st gh val w->
  (∀x,dU E st gh w (F x) (ρ x))->(∀x,∀g∈(F x).names,st.used g=zj)->dY tt dc d st.o F op o.type=zw r->r.pre->(∀g∈r.new,st.used g=zv)->
  ∃v w' bU,Does Pg (execOp ρ o) w v w'/\Rel E (st.aJ (r.aJ r.val) r.new) bU val w'/\Lets E st (st.aJ (r.aJ r.val) r.new) gh bU w w'/\dU E (st.aJ (r.aJ r.val) r.new) bU w' (r.dst r.val) v/\
   ∀g∈(r.dst r.val).names,(st.aJ (r.aJ r.val) r.new).used g=zj
theorem St.FK{a b:St}(c:a.s=b.s)(d :∀g,a.o g=b.o g)(h :∀g,a.used g=b.used g):a=b:=by obtain⟨s,o,u⟩:=a;obtain⟨j,o',m⟩:=b;simp only at c d h;rw[c,funext d,funext h]
theorem N8(htt:jv Pg tt)(t:TypeId)(x:Operand){E:Env}{st:St}{gh:Nat->Gh}{val:Nat->Value}{w:World}{ρ:Operand->Value}{o:Oper}{r:Fj}(ho:o.op=.load t x)(h:Rel E st gh val w)
  (hF :∀x,dU E st gh w (F x) (ρ x)) (b:uJ tt st.o F t x=zw r) :
  ∃v w' bU,Does Pg (execOp ρ o) w v w'/\Rel E (st.aJ (r.aJ r.val) r.new) bU val w'/\Lets E st (st.aJ (r.aJ r.val) r.new) gh bU w w'/\dU E (st.aJ (r.aJ r.val) r.new) bU w' (r.dst r.val) v/\
   ∀g∈(r.dst r.val).names,(st.aJ (r.aJ r.val) r.new).used g=zj:=by
 unfold uJ at b;split at b
 .rename_i i g n off ht z;have rx:=hF x;rw[z]at rx;split at b
  .rename_i a i' L au l hh;split at b
   .rename_i s air;split at b
    .rename_i M;cases b;obtain⟨st1,oh,h1,l1,e1,es,eu,eo,ek,en1⟩:=h.home hh;have N9:=pI hh;obtain⟨ad,k,had,rfl,N,hv⟩:=(by cases rx.dW with|ep _ _ _ _ _ hb=>exact hb _ _ N9 :∃(ad:Addr) (k:Nat),(gh g).ad=zw ad/\n=.int .i64 k/\k<l.length/\ρ x=.pointer (zw ⟨ad.block,ad.off+k*L+off,zz⟩));have en:(P.int .i64 (k:Int)).nat=k:=by simp[P.nat,P.num]
     have N_:(oh g).ad=zw ad:=by rw[(e1 g).1];exact had
     have hD:lT E st1 oh w a i' L au l zz (oh g):=by have:=h1.bI g;rw[eo]at this;exact this
     rcases hD with⟨T,_⟩|⟨ad0,cs0,ty,T,k2,k3,k4,k5,k6,_,k8⟩
     .rw [N_]at T;cases T
     rw[N_]at T;cases T;have d:l[k]?=zw l[k]:=Q2 N;have hrl:l[k].length=L:=k6 _ (X2 N);have m:off<l[k].length:=by omega
     obtain⟨v,hv0,Z⟩:=k8 k _ d off _ (Q2 m);unfold jr at Z;rw[air]at Z;simp only[iT]at Z;obtain⟨J,ao,K,B,rfl,U,_⟩:=Z;have H:w.cell? ⟨ad.block,ad.off+k*L+off,zz⟩=zw (.slice ao J.length K):=by simp[World.cell?,k3,hv0]
     obtain⟨v,X,q⟩:=lg (Pg:=Pg) (w:=w) (htt _ _ ht) ad.block (ad.off+k*L+off) [.slice ao J.length K] (by simp[M.2.1]) (λj c hj=>by
      cases j with
      |zero=>simp at hj;subst hj;exact H
      |succ j=>simp at hj) (λ_=>by omega)
     have hvv:v=.slice ao J.length K:=by rw[M.2.2]at q;exact q _ rfl
     have Y:hdr ((l.getD (P.int .i64 (k:Int)).nat []).getD off default).list=.sl 0 (List.replicate J.length []):=by
      rw[en];have e2:(l.getD k []).getD off default=l[k][off]:=by rw[Q1,Q1,d];simp[Q2 m]
      rw[e2,B,P.pF];rfl
     rw[Y];refine still h (v:=v) (by unfold execOp;rw[ho];exact iE (by rw[hv];simpa[Instr.loadAt,Instr.sureAddr]using X)) (dU.ofP ?_) λg' hg'=>by simp[Fj.pure,S.names,V.names,W.names]at hg'
     rw[hvv];rcases U with⟨q1,q2,q3⟩|⟨DJ,c2,e2,q1,q2,q3,q4,q5,_⟩
     .subst q3;exact .nil _ _ _
     .have q1:ao=zw DJ:=q1;have q5:J.length<=K/\K<=9223372036854775807:=q5;rw[q1];have:=dH.sl (w:=w) (ok:=E.ok st gh w zv zv) 0 (List.replicate J.length []) DJ K (λ_ _=>undef) q2 (λh0=>absurd h0 (KV 0)) (by simpa using q5.1) (λx z=>by rw[qz z];rfl)
       (λn x z j y B=>by rw[qz (Z1 z)]at B;simp at B) (λn x z j y B=>by rw[qz (Z1 z)]at B;simp at B)
      simpa using this
    .cases b
   .cases b
  .cases b
 .cases b
theorem Ut(htt:jv Pg tt)(t:TypeId)(x:Operand):rY Pg tt r (.load t x):=by
 intro E st gh val w ρ F o d dc ho h hF hFn J hp hd;simp only[dY]at J;cases hhd:Us r with
 |true=>rw[hhd]at J;exact N8 htt t x ho h hF J
 |false=>
 rw[hhd]at J;simp only[cond_false]at J;split at J
 .rename_i i g n off ht hx;have rx:=hF x;rw[hx]at rx;split at J
  .rename_i a0 i0 H lH l0 hole hog;split at J
   .rename_i hlt;have N9:(st.o g).dim=zw (H,l0.length):=by rw[hog];rfl
    obtain⟨ad,k,had,rfl,hkl,hv⟩:=(by cases rx.dW with|ep _ _ _ _ _ hb=>exact hb _ _ N9 :∃(ad:Addr) (k:Nat),(gh g).ad=zw ad/\n=.int .i64 k/\k<l0.length/\ρ x=.pointer (zw ⟨ad.block,ad.off+k*H+off,zz⟩));have en:(P.int .i64 (k:Int)).nat=k:=by simp[P.nat,P.num]
    split at J
    .rename_i hci;cases J;have hD:lT E st gh w a0 i0 H lH l0 hole (gh g):=by have:=h.bI g;rw[hog]at this;exact this
     rcases hD with⟨X,_⟩|⟨ad0,cs0,ty,X,k2,k3,k4,k5,k6,_,k8⟩
     .rw [had]at X;cases X
     rw[had]at X;cases X;have z:l0[k]?=zw l0[k]:=Q2 hkl;have hrl:l0[k].length=H:=k6 _ (X2 hkl);have M:l0.getD (P.int .i64 (k:Int)).nat []=l0[k]:=by rw[en,Q1,z];rfl
     obtain⟨cs,hl,L,Y,Z⟩:=KE (w:=w) (b:=ad.block) (o:=ad.off+k*H+off) (n:=i.size) (Q:=λj v=>dH w (E.ok st gh w a0 i0) (l0[k].getD (off+j) (Ub i.zero j)) v) λj hj=>by
      have K:off+j<l0[k].length:=by omega
      obtain⟨v,hv,T⟩:=k8 k _ z (off+j) _ (Q2 K);simp only[jr,KD hci (show off<=off+j by omega) (show off+j<off+i.size by omega)]at T;have e0:ad.off+k*H+off+j=ad.off+k*H+(off+j):=by omega
      refine⟨v,by rw[e0];simp[World.cell?,k3,hv],T.oneCell,?_⟩;rw[Q1,Q2 K];exact T
     obtain⟨v,hrun,hval⟩:=lg (Pg:=Pg) (w:=w) (htt _ _ ht) ad.block (ad.off+k*H+off) cs hl L (λ_=>hlt.2);rw[M];exact still h (v:=v) (by unfold execOp;rw[ho];exact iE (by rw[hv];simpa[Instr.loadAt,Instr.sureAddr]using hrun)) (lX (by simp[hl]) Y (λj y u hy hu=>by simp only[Z0,Wg]at hy;obtain⟨q,hq,rfl⟩:=hy;obtain⟨hlt2,rfl⟩:=Q3.1 hq;simp at hlt2 ⊢;exact .p _ _ _ _ (Z _ u hu)) v hval)
      λg' m=>by obtain⟨y,hy,m⟩:=jZ m;rw[uG hy]at m;cases m
    .rename_i c s hci;split at J
     .rename_i a N sz au l U;cases J;obtain⟨st1,oh,h1,l1,e1,es,eu,eo,ek,en1⟩:=h.home U;have ael:=pI U;rw[N9]at ael;simp only[Q0,QP]at ael;obtain⟨rfl,hll⟩:=ael;have hcols:au=lH:=by
       unfold jI at U;rw[hog]at U;simp only at U;split at U
       .cases U;rfl
       .split at U
        .split at U
         .cases U;rfl
         .cases U
        .cases U
      subst hcols;obtain⟨c1,c2,c3,c4⟩:=Xq hci;have Jt:st.used d=zv:=hd d (by simp);have N_:(oh g).ad=zw ad:=by rw[(e1 g).1];exact had
      have hD:lT E st1 oh w a N H au l zz (oh g):=by have:=h1.bI g;rw[eo]at this;exact this
      rcases hD with⟨X,_⟩|⟨ad0,cs0,ty,X,k2,k3,k4,k5,k6,_,k8⟩
      .rw [N_]at X;cases X
      rw[N_]at X;cases X;have hkl':k<l.length:=by omega
      have z:l[k]?=zw l[k]:=Q2 hkl';have hrl:l[k].length=H:=k6 _ (X2 hkl');have M:l.getD (P.int .i64 (k:Int)).nat []=l[k]:=by rw[en,Q1,z];rfl
      have hyc:l[k][c]?=zw l[k][c]:=Q2 (by omega);obtain⟨l',ao,kc,Bh,hy,⟨DJ,cs2,ty2,q1,q2,q3⟩,q4,q5,r1,r2⟩:=h1.split (d:=d) (by rw[eu];exact Jt) eo c1 z hyc;rw[N_]at q1;cases q1;rw[k3]at q2;cases q2;have hlist:((l.getD (P.int .i64 (k:Int)).nat []).getD c default).list=l':=by rw[M,Q1,hyc];show (l[k][c]).list=l';rw[hy,P.pF]
      have hgd:g≠d:=λe=>by rw[<-e,h.ul g (by rw[hog];simp)]at Jt;cases Jt
      have hst:st1.aJ [(g,.aO a N H au l (zw (k,c,d))),(d,.arr zv a N s l')] [d]=st.aJ ((g,.aO a N H au l (zw ((P.int .i64 (k:Int)).nat,c,d)))::(d,.arr zv a N s ((l.getD (P.int .i64 (k:Int)).nat []).getD c default).list)::kills (st.o g).hn) [d]:=by
       rw[hlist,en];refine St.FK es (λx=>?_) (λx=>by simp[St.aJ,eu]);simp only[St.aJ,lookup_cons,jf];by_cases x1:x=g
       .simp only[QQ x1]
       .by_cases x2:x=d
        .simp only[Qt x1,QQ x2]
        .simp only[Qt x1,Qt x2];by_cases x3:x∈(st.o g).hn
         .simp only[QQ x3];exact(ek x x3).1
         .simp only[Qt x3];exact en1 x x1 x3
      obtain⟨cs,hl,L,Y,Z⟩:=KE (w:=w) (b:=ad.block) (o:=ad.off+k*H+off) (n:=i.size) (Q:=λj v=>if Nat.beq (off+j) c=zj then v=.slice ao l'.length kc else dH w (E.ok st1 oh w a N) (l[k].getD (off+j) (Ub i.zero j)) v) λj hj=>by
       have K:off+j<l[k].length:=by omega
       obtain⟨v,hv,T⟩:=k8 k _ z (off+j) _ (Q2 K);have e0:ad.off+k*H+off+j=ad.off+k*H+(off+j):=by omega
       refine⟨v,by rw[e0];simp[World.cell?,k3,hv],T.oneCell,?_⟩;by_cases B:off+j=c
       .rw [QQ (by simpa using B)];rw[B]at hv;rw[hv]at q3;exact Wt q3
       .rw [Qt (by simpa using B)];simp only[jr,c4 (off+j) (by omega) (by omega) B]at T;rw[Q1,Q2 K];exact T
      obtain⟨v,hrun,hval⟩:=lg (Pg:=Pg) (w:=w) (htt _ _ ht) ad.block (ad.off+k*H+off) cs hl L (λ_=>hlt.2);have hod:(st1.aJ [(g,.aO a N H au l (zw (k,c,d))),(d,.arr zv a N s l')] [d]).o d=.arr zv a N s l':=by
       have:(d==g)=zv:=by simpa using hgd.symm
       simp[St.aJ,List.lookup,this]
      refine⟨v,w,Bh,.inl (by unfold execOp;rw[ho];exact iE (by rw[hv];simpa[Instr.loadAt,Instr.sureAddr]using hrun)),?_,?_,?_,λg' m=>?_⟩
      .rw [hst]at r1;exact r1
      .have:=Lets.trans l1 r2 λg hg=>by rw[eu];exact hg
       rw[hst]at this;exact this
      .have hS:dU E (st1.aJ [(g,.aO a N H au l (zw (k,c,d))),(d,.arr zv a N s l')] [d]) Bh w (V.gI i.agg ((List.range i.size).map λj=>if Nat.beq (off+j) c=zj then W.own d else W.p a N ((l.getD (P.int .i64 (k:Int)).nat []).getD (off+j) (Ub i.zero j)))) v:=by
        rw[M];refine lX (by simp[hl]) Y (λj y u hy hu=>?_) v hval;simp only[Z0,Wg]at hy;obtain⟨q,hq,rfl⟩:=hy;obtain⟨hlt2,rfl⟩:=Q3.1 hq;simp at hlt2 ⊢;have T:=Z _ u hu;by_cases B:off+j=c
        .rw [QQ B];rw[QQ (by simpa using B)]at T;subst T;exact .own d _ rfl λsz3 atZ hd3=>by rw[hod]at hd3;obtain⟨_,e2⟩:=O.kW hd3;rw[q4,q5,e2]
        .rw [Qt B];rw[Qt (by simpa using B)]at T;exact .p _ _ _ _ (r2.lU (by simpa using T))
       rw[hst]at hS;exact hS
      .have m:g'∈(V.gI i.agg ((List.range i.size).map λj=>if Nat.beq (off+j) c=zj then W.own d else W.p a N ((l.getD (P.int .i64 (k:Int)).nat []).getD (off+j) (Ub i.zero j)))).names:=m;obtain⟨y,hy,m⟩:=jZ m;obtain⟨j,_,rfl⟩:=XN.1 hy;split at m
       .simp only[W.names,X1]at m;subst m;simp[St.aJ]
       .simp [W.names]at m
     .cases J
    .cases J
   .cases J
  .cases J
 .cases J
theorem PartOf.mono{es b:List (Nat×Nat)}{s:Nat}{y:P}(h:PartOf st gh a i es s d y v)(g:a=zj->H=zj)(hi:i=zj->u=zj)(m :∀p∈es,p∈b):PartOf st gh H u b s d y v:=by obtain⟨q,z,B⟩:=h;refine⟨q,z,B.imp id ?_⟩;rintro ⟨e,j,i1,q1,q2,q3,q4,q5⟩;exact⟨e,j,i1,m _ q1,q2,λh=>g (q3 h),λh=>hi (q4 h),q5⟩
theorem DY(h:Rel E st gh val w){q:Nat->Option Nat}:∀{H:List W} {cs:List Value} {ps:List P} {a i:Bool} {gs:List Nat} {es:List (Nat×Nat)} {j0:Nat},H.length=cs.length->(∀(j:Nat) x u,H[j]?=zw x->cs[j]?=zw u->f_ E st gh w x u)->
  TM st.o q j0 H=zw (ps,a,i,gs,es)->ps.length=H.length/\yR st.o gs/\(∀p∈es,∃J i1 s l',st.o p.2=.arr zv J i1 s l'/\(i1=zj->i=zj))/\
   ∀(j:Nat) y u,ps[j]?=zw y->cs[j]?=zw u->match q (j0+j)with
    |none=>∀st',(∀g∈gs,st'.o g=(Fw.bC st.o g).2)->Rel E st' gh val w->Lets E st st' gh gh w w->dH w (E.ok st' gh w a i) y u
    |some s=>PartOf st gh a i es s (j0+j) y u
 | [],cs,ps,a,i,gs,es,j0,T,K,d=>by simp only[TM,Q0,QP]at d;obtain⟨rfl,rfl,rfl,rfl,rfl⟩:=d;exact⟨rfl,yR.nil,(λp hp=>by cases hp),λj y u m=>by simp at m⟩
 |x::H,cs,ps,a,i,gs,es,j0,T,K,d=>by
  cases cs with
  |nil=>simp at T
  |cons c cs=>
   simp only[TM]at d;split at d
   .cases d
   .rename_i ys a' i' U X Y;obtain⟨q0,q1,Z,q2⟩:=DY h (j0:=j0+1) (by simpa using T) (λj a b N hb=>K (j+1) a b (by simpa using N) (by simpa using hb)) Y;have rest :∀(a i:Bool) (gs:List Nat) (es:List (Nat×Nat)),(a'=zj->a=zj)->(i'=zj->i=zj)->(∀g∈U,g∈gs)->(∀p∈X,p∈es)->∀(j:Nat) y u,ys[j]?=zw y->cs[j]?=zw u->match q (j0+(j+1))with
      |none=>∀st',(∀g∈gs,st'.o g=(Fw.bC st.o g).2)->Rel E st' gh val w->Lets E st st' gh gh w w->dH w (E.ok st' gh w a i) y u
      |some s=>PartOf st gh a i es s (j0+(j+1)) y u:=by
     intro a i gs es N hi hg he j y u m hu;have:=q2 j y u m hu;have e:j0+1+j=j0+(j+1):=by omega
     rw[e]at this;cases hc:q (j0+(j+1))with
     |none=>rw[hc]at this;exact λst' h1 Y h3=>(this st' (λg hg'=>h1 g (hg g hg')) Y h3).cls N hi
     |some s=>rw[hc]at this;exact this.mono N hi he
    cases z:q j0 with
    |none=>
     rw[z]at d;simp only at d;split at d
     .rename_i y1 J i1 gs1 h1;cases d;obtain⟨k1,k2⟩:=QB h (K 0 x c rfl rfl) h1;refine⟨by simp[q0],k1.append q1,λp hp=>let ⟨a2,i2,s2,l2,z1,z2⟩:=Z p hp;⟨a2,i2,s2,l2,z1,λL=>by simp[z2 L]⟩,λj y u m hu=>?_⟩;cases j with
      |zero=>simp at m hu;subst m hu;rw[Jn,z];exact λst' hst h' M=>(k2 st' (λg hg=>hst g (by simp[hg])) h' M).cls (by simp;exact λh=>.inl h) (by simp;exact λh=>.inl h)
      |succ j=>exact rest _ _ _ _ (by simp;exact λh=>.inr h) (by simp;exact λh=>.inr h) (λg hg=>by simp[hg]) (λp hp=>hp) j y u (by simpa using m) (by simpa using hu)
     .cases d
    |some s=>
     rw[z]at d;simp only at d;split at d
     .cases d;refine⟨by simp[q0],q1,Z,λj y u m hu=>?_⟩;cases j with
      |zero=>simp at m hu;subst m hu;rw[Jn,z];have r0:=K 0 _ _ rfl rfl;cases r0;exact⟨[],rfl,.inl ⟨rfl,rfl⟩⟩
      |succ j=>exact rest _ _ _ _ id id (λg hg=>hg) (λp hp=>hp) j y u (by simpa using m) (by simpa using hu)
     .rename_i e;split at d
      .rename_i J i1 s' l1 B;split at d
       .rename_i hs;subst hs;cases d;refine⟨by simp[q0],q1,λp hp=>?_,λj y u m hu=>?_⟩
        .rcases Xs.1 hp with rfl|hp
         .exact ⟨J,i1,s',l1,B,λL=>by simp[L]⟩
         .obtain ⟨a2,i2,s2,l2,z1,z2⟩:=Z p hp;exact⟨a2,i2,s2,l2,z1,λL=>by simp[z2 L]⟩
        cases j with
        |zero=>simp at m hu;subst m hu;rw[Jn,z];have r0:=K 0 _ _ rfl rfl;refine⟨l1,rfl,.inr ⟨e,J,i1,by simp,B,by simp;exact λh=>.inl h,by simp;exact λh=>.inl h,?_⟩⟩;cases r0 with|own _ _ _ hb=>exact hb _ _ (O.kZ B)
        |succ j=>exact rest _ _ _ _ (by simp;exact λh=>.inr h) (by simp;exact λh=>.inr h) (λg hg=>hg) (λp hp=>by simp[hp]) j y u (by simpa using m) (by simpa using hu)
       .cases d
      .cases d
     .cases d
theorem KF{a0 i0:Bool}{m:List (List P)}{au:List (Nat×Nat)}(c:o g=.aO a0 i0 d r m h)
  (b:jI o g=zw (H,u,n,au,l)):n=d/\au=r/\l.length=m.length:=by
 have sz:=pI b;rw[c]at sz;simp only[O.dim,Q0,QP]at sz;refine⟨sz.1.symm,?_,sz.2.symm⟩;unfold jI at b;rw[c]at b;simp only at b;split at b
 .cases b;rfl
 .split at b
  .split at b
   .cases b;rfl
   .cases b
  .cases b
theorem xq(htt:jv Pg tt)(k:Rel E st gh val w){o:Oper}{ρ:Operand->Value}{x y:Operand}(ho:o.op=.store e x y){i':TI}(ht:tt e=zw i')(ry:sV E st gh w M (ρ y))(hys:M.solid=zj)(y':M.words.length=i'.size)
   {i1:Bool}    {iG:Option (Nat×Nat×Nat)} {ad:Addr} {off:Nat} (hv:ρ x=.pointer (zw ⟨ad.block,ad.off+n*d+off,zz⟩)) (hsz:off+i'.size<=d) (hk:n<l.length)
  {ps:List P}  {gs:List Nat} {es:List (Nat×Nat)} (hD:TM st.o (λj=>r.lookup j) off M.words=zw (ps,H,u,gs,es)) (hnd:(es.map (·.2)).Nodup) (hap :∀sz∈es.map (·.2),sz∉gs)
  {b:St}  (K:List Nat) (h1:Rel E b J val w) (l1:Lets E (st.aJ (gs.map (Fw.bC st.o)) []) b gh J w w) (e1 :∀x,(J x).ad=(gh x).ad/\(J x).cap=(gh x).cap) (s1:b.s=st.s) (u1 :∀x,b.used x=st.used x)
  (o1:b.o g=.aO i i1 d r l h) (had:(gh g).ad=zw ad) (ok1 :∀t∈K,b.o t=.none/\t≠g/\t∉es.map (·.2)) (N :∀g',g'≠g->g'∉K->b.o g'=(st.aJ (gs.map (Fw.bC st.o)) []).o g') (hgg:g∉gs)
  (hh1 :∀m j,¬ (m=n/\off<=j/\j<off+i'.size)->∀s,r.lookup j=zw s->iT iG m j=iT h m j) (hh2 :∀j s,off<=j->j<off+i'.size->r.lookup j=zw s->iT iG n j=zz) (hh3 :∀t∈dN iG,t∈dN h) :
  ∃v w' bU,Does Pg (execOp ρ o) w v w'/\Rel E (st.aJ ((g,.aO (i||H) (i1||u) d r (l.set n (bf (l.getD n []) off ps)) iG)::kills (es.map (·.2))++kills K++gs.map (Fw.bC st.o)) []) bU val w'/\
   Lets E st (st.aJ ((g,.aO (i||H) (i1||u) d r (l.set n (bf (l.getD n []) off ps)) iG)::kills (es.map (·.2))++kills K++gs.map (Fw.bC st.o)) []) gh bU w w'/\
   dU E (st.aJ ((g,.aO (i||H) (i1||u) d r (l.set n (bf (l.getD n []) off ps)) iG)::kills (es.map (·.2))++kills K++gs.map (Fw.bC st.o)) []) bU w' .no v/\
   ∀g∈S.names .no,(st.aJ ((g,.aO (i||H) (i1||u) d r (l.set n (bf (l.getD n []) off ps)) iG)::kills (es.map (·.2))++kills K++gs.map (Fw.bC st.o)) []).used g=zj:=by
 obtain⟨us,hus,Kv,huo,hur⟩:=ry.cells hys;have aeg:us.length=i'.size:=by rw[Kv,y']
 obtain⟨q0,q1,qe,q2⟩:=DY k Kv.symm hur hD;have T:ps.length=i'.size:=by rw[q0,y']
 obtain⟨f1,f2⟩:=Rel.freezes gs k q1;have N_:(J g).ad=zw ad:=by rw[(e1 g).1];exact had
 have hDA:lT E b J w i i1 d r l h (J g):=by have:=h1.bI g;rw[o1]at this;exact this
 rcases hDA with⟨U,_⟩|⟨ad0,cs0,ty,U,k2,k3,k4,k5,k6,_,k8⟩
 .rw [N_]at U;cases U
 rw[N_]at U;cases U;have hle:(n+1)*d<=(J g).cap*d:=W0 _ (by have:=k5.1;omega);rw[WK,KK]at hle;obtain⟨w',c',r1,r2,r3,r4,r5,r6,r7,r8⟩:=uH (Pg:=Pg) (htt _ _ ht) ad.block (ad.off+n*d+off) hus aeg huo k3 (by omega);have L :∀p∈es,b.o p.2=st.o p.2:=by
  intro p X;have Y:p.2∈es.map (·.2):=XN.2 ⟨p,X,rfl⟩;obtain⟨a2,i2,s2,l2,B,_⟩:=qe p X;by_cases sz:p.2=g
  .exfalso;have hog:(st.aJ (gs.map (Fw.bC st.o)) []).o g=st.o g:=by rw[ig,Qt hgg]
   have q:=l1.names g (by simp only[St.aJ,List.contains_nil,Ka];exact k.ul g (by rw[<-sz,B];simp));rw[o1,hog,<-sz,B]at q;rcases q with q|⟨_,q⟩
   .cases q
   .exact q
  .rw [N _ sz λhk=>(ok1 _ hk).2.2 Y,ig,Qt (hap _ Y)]
 have hm:=h1.amI o1 N_ hk (off:=off) (ps:=ps) (us:=us) (by omega) (by omega) H u es iG hnd (λp X=>by
   obtain⟨a2,i2,s2,l2,B,z2⟩:=qe p X;exact⟨a2,i2,s2,l2,by rw[L p X];exact B,z2⟩) (λj y hole hy hu=>by
   have:=q2 j y hole hy hu;cases hc:r.lookup (off+j)with
   |none=>rw[hc]at this;exact l1.lU (this _ (λg hg=>by rw[ig,QQ hg]) f1 f2)
   |some s=>rw[hc]at this;obtain⟨l',B,z2⟩:=this;refine⟨l',B,z2.imp id ?_⟩;rintro ⟨sz,a2,i2,y1,y2,y3,y4,y5⟩;exact⟨sz,a2,i2,y1,by rw[L _ y1];exact y2,y3,y4,by rw[(e1 sz).1,(e1 sz).2];exact y5⟩)
  (by rw[T];exact hh1) (by rw[T];exact hh2) hh3 w' r4 r5 r6 r7 r8 (λc sz Z=>by rw[k3]at Z;cases Z;exact⟨c',r2,r3⟩)
 obtain⟨bU,m1,m2⟩:=hm;have hst:b.aJ ((g,.aO (i||H) (i1||u) d r (l.set n (bf (l.getD n []) off ps)) iG)::es.map λp=>(p.2,O.none)) [] =
   st.aJ ((g,.aO (i||H) (i1||u) d r (l.set n (bf (l.getD n []) off ps)) iG)::kills (es.map (·.2))++kills K++gs.map (Fw.bC st.o)) []:=by
  refine St.FK s1 (λz=>?_) (λz=>by simp[St.aJ,u1]);have ek:(es.map λp=>(p.2,O.none))=kills (es.map (·.2)):=by simp[kills]
  rw[ek];simp only[St.aJ,Kk,lookup_cons,xk,jf];by_cases B:z=g
  .simp only[QQ B]
  .simp only[Qt B];by_cases z2:z∈es.map (·.2)
   .simp only[QQ z2,Option.some_or]
   .simp only[Qt z2,Option.none_or];by_cases z3:z∈K
    .simp only[QQ z3,Option.some_or];exact(ok1 z z3).1
    .simp only[Qt z3,Option.none_or];rw[N z B z3];rfl
 rw[hst]at m1 m2;refine⟨undef,w',bU,.inr ⟨?_,rfl⟩,m1,?_,.no _,λg hg=>by simp[S.names]at hg⟩
 .unfold execOp;rw[ho];refine aec ?_;rw[hv];simpa[Instr.storeAt,Instr.sureAddr]using r1
 .exact Lets.trans (Lets.trans f2 l1 (λg hg=>by simpa[St.aJ]using hg)) m2 (λg hg=>by rw[u1];exact hg)
theorem apF(sz:o g=.aO i a d r l h):(o g).hn=dN h:=by rw[sz];rfl
theorem QG{gs:List Nat}(hg:g∉gs)(hn :∀d∈(st.o g).hn,d∉gs):jI (st.aJ (gs.map (Fw.bC st.o)) []).o g=jI st.o g:=by
 have h:(st.aJ (gs.map (Fw.bC st.o)) []).o g=st.o g:=by rw[ig,Qt hg]
 unfold jI;rw[h];cases j:st.o g with
 |aO a i m q l b=>
  rcases b with _|⟨n,c,d⟩
  .rfl
  .simp only;rw[ig,Qt (hn d (by rw[j];simp[O.hn,dN]))]
 |_=>rfl
theorem QH(L:jv Pg tt)(t:TypeId)(x y:Operand):rY Pg tt r (.store t x y):=by
 intro E st gh val w ρ F o d dc ho h hF hFn c K hd;simp only[dY]at c;split at c
 .rename_i i g n off y' ht hx hy;have rx:=hF x;rw[hx]at rx;have ry:=hF y;rw[hy]at ry;split at c
  .rename_i a0 i0 M au l0 H q;split at c
   .rename_i ps a' i' gs es hD;split at c
    .rename_i hc;obtain⟨N,T,J,hc4,hc5,hc6⟩:=hc;have B:g∉gs:=λhm=>by simp[hm]at hc4
     have U:=tC hc5;have X:=H8 hc6;have N9:(st.o g).dim=zw (M,l0.length):=by rw[q];rfl
     obtain⟨ad,k,Y,rfl,hkl,hv⟩:=(by cases rx.dW with|ep _ _ _ _ _ hb=>exact hb _ _ N9 :∃(ad:Addr) (k:Nat),(gh g).ad=zw ad/\n=.int .i64 k/\k<l0.length/\ρ x=.pointer (zw ⟨ad.block,ad.off+k*M+off,zz⟩));have en:(P.int .i64 (k:Int)).nat=k:=by simp[P.nat,P.num]
     have Z:(st.aJ (gs.map (Fw.bC st.o)) []).o g=.aO a0 i0 M au l0 H:=by rw[ig,Qt B];exact q
     obtain⟨us,hus,Kv,huo,hur⟩:=ry.Qz.cells J;obtain⟨_,q1,_,_⟩:=DY h Kv.symm hur hD;obtain⟨f1,f2⟩:=Rel.freezes gs h q1;have refl:Lets E (st.aJ (gs.map (Fw.bC st.o)) []) (st.aJ (gs.map (Fw.bC st.o)) []) gh gh w w:=⟨λa i b hb=>⟨hb,rfl⟩,λg _=>.inr ⟨⟨rfl,rfl⟩,O.gy _⟩⟩;have home :∀(a i1:Bool) (l:List (List P)),jI st.o g=zw (a,i1,M,au,l)->(∀d∈(st.o g).hn,d∉es.map (·.2)/\d∉gs)->
       ∃v w' bU,Does Pg (execOp ρ o) w v w'/\Rel E (st.aJ ((g,.aO (a||a') (i1||i') M au (l.set k (bf (l.getD k []) off ps)) zz)::kills (es.map (·.2))++kills (st.o g).hn++gs.map (Fw.bC st.o)) []) bU val w'/\Lets E st (st.aJ ((g,.aO (a||a') (i1||i') M au (l.set k (bf (l.getD k []) off ps)) zz)::kills (es.map (·.2))++kills (st.o g).hn++gs.map (Fw.bC st.o)) []) gh bU w w'/\dU E (st.aJ ((g,.aO (a||a') (i1||i') M au (l.set k (bf (l.getD k []) off ps)) zz)::kills (es.map (·.2))++kills (st.o g).hn++gs.map (Fw.bC st.o)) []) bU w' .no v/\∀g'∈S.names .no,(st.aJ ((g,.aO (a||a') (i1||i') M au (l.set k (bf (l.getD k []) off ps)) zz)::kills (es.map (·.2))++kills (st.o g).hn++gs.map (Fw.bC st.o)) []).used g'=zj:=λa i1 l hh hno=>by
      have hh':jI (st.aJ (gs.map (Fw.bC st.o)) []).o g=zw (a,i1,M,au,l):=by rw[QG B λd hd=>(hno d hd).2];exact hh
      have hhn:((st.aJ (gs.map (Fw.bC st.o)) []).o g).hn=(st.o g).hn:=by rw[Z,q]
      obtain⟨st1,oh,h1,l1,e1,es1,eu,eo,ek,en1⟩:=f1.home hh';rw[hhn]at ek en1;have hll:=(KF q hh).2.2;exact xq L h ho ht ry.Qz J T hv N (by omega) hD U X (st.o g).hn h1 l1 e1 (by rw[es1];rfl) (λz=>by rw[eu];simp[St.aJ]) eo Y
       (λd hd=>⟨(ek d hd).1,(ek d hd).2,(hno d hd).1⟩) en1 B (iG:=zz) (λ_ _ _ _ _=>rfl) (λ_ _ _ _ _=>rfl) (λd hd=>by cases hd)
     have over :∀n0 c0 d0,H=zw (n0,c0,d0)->off<=c0/\c0<off+i.size->n0=k->_:=λn0 c0 d0 hho hcr K=>
      xq L h ho ht ry.Qz J T hv N hkl hD U X [] f1 refl (λ_=>⟨rfl,rfl⟩) rfl (λz=>by simp[St.aJ]) Z Y (λd hd=>by cases hd) (λ_ _ _=>rfl) B
       (iG:=zz) (λm j hne s hs=>by subst hho K;simp only[iT];rw[Qt λe=>hne ⟨e.1.symm,by omega,by omega⟩]) (λ_ _ _ _ _=>rfl) (λd hd=>by cases hd)
     split at c
     .rename_i hci;cases c;have:=xq L h ho ht ry.Qz J T hv N hkl hD U X [] f1 refl (λ_=>⟨rfl,rfl⟩) rfl (λz=>by simp[St.aJ]) Z Y (λd hd=>by cases hd) (λ_ _ _=>rfl) B
       (iG:=H) (λ_ _ _ _ _=>rfl) (λj s h1 h2 h3=>by rw[KD hci h1 h2]at h3;cases h3) (λd hd=>hd)
      rw[en];exact this
     .split at c
      .cases c;have:=xq L h ho ht ry.Qz J T hv N hkl hD U X [] f1 refl (λ_=>⟨rfl,rfl⟩) rfl (λz=>by simp[St.aJ]) Z Y (λd hd=>by cases hd) (λ_ _ _=>rfl) B
        (iG:=zz) (λ_ _ _ _ _=>rfl) (λ_ _ _ _ _=>rfl) (λd hd=>hd)
       rw[en];exact this
      .rename_i n0 c0 d0;split at c
       .rename_i a i1 _ _ l hh;split at c
        .rename_i hcc;cases c;obtain⟨e1,e2,e3⟩:=KF q hh;subst e1 e2;have hhn:(st.o g).hn=[d0]:=by rw[apF q];rfl
         have:=home a i1 l hh (λd hd=>by rw[hhn,X1]at hd;subst hd;exact⟨λhm=>by have:=hcc.1;simp only[V2,decide_eq_false_iff_not]at this;exact this hm,λhm=>by have:=hcc.2;simp[hm]at this⟩)
         rw[hhn]at this;rw[en];exact this
        .split at c
         .rename_i hcr;cases c;have K:n0=(P.int .i64 (k:Int)).nat:=K;rw[en]at K;rw[en];exact over n0 c0 d0 rfl hcr K
         .cases c
       .split at c
        .rename_i hcr;cases c;have K:n0=(P.int .i64 (k:Int)).nat:=K;rw[en]at K;rw[en];exact over n0 c0 d0 rfl hcr K
        .cases c
    .cases c
   .cases c
  .cases c
 .cases c
theorem Rel.aem(h:Rel E st gh val w)(hd:st.used d=zv)(a i:Bool)(sz:Nat)(au:List (Nat×Nat))(l:List (List P))(c:Array Value)(t:TypeId)(cap:Nat)(K:l.length<=cap/\cap<=9223372036854775807)(hc:cap*sz<=c.size)(B :∀x∈l,x.length=sz)
  (es:List (Nat×Nat)) (hnd:(es.map (·.2)).Nodup) (q :∀p∈es,∃a1 i1 s l',st.o p.2=.arr zv a1 i1 s l'/\(i1=zj->i=zj))
  (H :∀(n:Nat) x,l[n]?=zw x->∀(j:Nat) y,x[j]?=zw y->∃v,c[n*sz+j]?=zw v/\match au.lookup j with
   |none=>dH w (E.ok st gh w a i) y v
   |some s=>PartOf st gh a i es s (n*sz+j) y v) :
  ∃bU,Rel E (st.aJ ((d,.aO a i sz au l zz)::kills (es.map (·.2))) [d]) bU val { w with heap:=w.heap.push (.cells c t) }/\Lets E st (st.aJ ((d,.aO a i sz au l zz)::kills (es.map (·.2))) [d]) gh bU w { w with heap:=w.heap.push (.cells c t) }/\
   (bU d).ad=zw ⟨w.heap.size,0,zz⟩ /\(bU d).cap=cap:=by
 have z :∀p∈es,(st.o p.2).cO=zj:=λp m=>by obtain⟨_,_,_,_,e,_⟩:=q p m;rw[e];rfl
 have hde:d∉es.map (·.2):=λX=>by obtain⟨p,m,e⟩:=XN.1 X;have:=h.ul p.2 (O.qA (z p m));rw[e,hd]at this;cases this
 let G:Gh:=⟨zw ⟨w.heap.size,0,zz⟩,cap,λb=>(whose gh es b).map λp=>(p.1/sz,p.1 % sz)⟩
 have L :∀b,(G.sub b).isSome=zj->∃p∈es,∃ad,(gh p.2).ad=zw ad/\ad.block=b:=λb M=>by
  cases J:whose gh es b with
  |none=>simp[G,J]at M
  |some p=>exact⟨p,xg J⟩
 have X:=h.gather (λg=>g∈es.map (·.2)) hd a i sz au l G (st.aJ ((d,.aO a i sz au l zz)::kills (es.map (·.2))) [d]) { w with heap:=w.heap.push (.cells c t) } rfl (by simp[St.aJ,lookup_cons])
  (λg hg e=>by simp only[St.aJ,lookup_cons,Qt e,jf,QQ hg]) (λg hg e=>by simp only[St.aJ,lookup_cons,Qt e,jf,Qt hg]) (λg hg=>by simp[St.aJ,hg]) (by simp[St.aJ])
  (ad:=⟨w.heap.size,0,zz⟩) (c:=c) (ty:=t) rfl rfl (by simp) (by simpa[G]using hc) K B (by
   cases J:G.sub w.heap.size with
   |none=>rfl
   |some p=>obtain⟨p,m,ad,q1,q2⟩:=L w.heap.size (by rw[J];rfl);have:=(h.wr p.2 w.heap.size (z p m) (.inl ⟨ad,q1,q2⟩)).2;omega) (λb M=>by
   obtain⟨p,m,ad,q1,q2⟩:=L b M;refine⟨⟨p.2,XN.2 ⟨p,m,rfl⟩,z p m,.inl ⟨ad,q1,q2⟩⟩,?_⟩;obtain⟨_,_,_,_,e,_⟩:=q p m;have hA:=h.bI p.2;rw[e]at hA;rcases hA with⟨q3,_⟩|⟨DJ,c2,e2,q3,_,q4,_⟩
   .rw [q1]at q3;cases q3
   .rw [q1]at q3;cases q3;rw[<-q2];exact⟨_,_,_,q4⟩)
  (.inr ⟨YY _,by simp⟩) (λb M _=>wS w _ b M) (by simp) rfl rfl rfl (λg i1 hg Y hi=>by
   obtain⟨p,m,rfl⟩:=XN.1 hg;obtain⟨_,i2,_,_,e,N⟩:=q p m;rw[e]at Y;cases Y;exact N hi) (λg hg _=>by
   obtain⟨p,m,rfl⟩:=XN.1 hg;obtain⟨_,i2,_,_,e,N⟩:=q p m;exact⟨i2,by rw[e];rfl⟩) (λn x J j y hy=>by
   obtain⟨v,hv,Z⟩:=H n x J j y hy;refine⟨v,by simpa using hv,?_⟩;cases T:au.lookup j with
   |none=>rw[T]at Z;exact Z
   |some s=>
    rw[T]at Z;have U:j<sz:=by have:=(Q3.1 hy).1;have:=B x (Z1 J);omega
    refine PartOf.apD h Z λp m e ad had=>?_;have:=OM h hnd z m had;simp only[G,this,W7,e];have Y:(n*sz+j)/sz=n:=by rw[qf,Nat.mul_add_div (by omega),Nat.div_eq_of_lt U,Jn]
    have e2:(n*sz+j) % sz=j:=by rw[qf,zg,Kl U]
    rw[Y,e2])
 exact⟨_,X.1,X.2,by simp[fZ,G],by simp[fZ,G]⟩
theorem FM(K:jv Pg tt)(t:TypeId)(n c:Operand):rY Pg tt r (.makeSlice t n c):=by
 intro E st gh val w ρ F o d dc ho h hF hFn J hp hd;simp only[dY]at J;split at J
 .rename_i e _ _ _ _ _ n' _ _ c' Bl FP ht hn hc;split at J
  .rename_i B he;split at J
   .rename_i ps hps;split at J
    .rename_i M;cases J;obtain⟨m,k,rfl,rfl,hmk,hby,hkm⟩:=hp;have hu:=(K _ _ ht).kind;simp only[qB]at hu;have rn:=hF n;rw[hn]at rn;have rc:=hF c;rw[hc]at rc;obtain⟨x,z,g1,g2,g3,g4,g5,g6⟩:=(K _ _ he).info;obtain⟨hone,hl,hr⟩:=vF (E:=E) (st:=st) (gh:=gh) (w:=w) (K _ _ he);have H:=(K _ _ he).len;obtain⟨q0,q1,_,q2⟩:=DY h hl hr hps;have Jt:st.used d=zv:=hd d (by simp);have hpl:ps.length=B.size:=by rw[q0,hl,H]
     have e1:(P.int .i64 (m:Int)).nat=m:=by simp[P.nat,P.num]
     obtain⟨bU,m1,m2,m3,m4⟩:=h.aem Jt zv zv B.size (Bl::FP) (List.replicate m ps) (iI B.zero k).toArray e k ⟨by simpa using hmk,by omega⟩ (by simp[eF,H]) (λx L=>by
       rw[List.mem_replicate]at L;rw[L.2,hpl]) [] List.nodup_nil (λp hp=>by cases hp) (λq x L j y hy=>by
       rw[vB]at L;split at L
       .rename_i hq;cases L;have hj:j<B.size:=by have:=(Q3.1 hy).1;omega
        have hlt:q*B.size+j<k*B.zero.length:=by rw[H];have:(q+1)*B.size<=k*B.size:=W0 _ (by omega);rw[WK]at this;omega
        have N:B.zero[j]?=zw B.zero[j]:=Q2 (by omega);refine⟨B.zero[j],?_,?_⟩
        .simp only[Kg];have T:(q*B.size+j) % B.zero.length=j:=by rw[H,qf,zg,Kl hj]
         rw[jD _ _ _ hlt,T];exact N
        .have:=q2 j y _ hy N;rw[Vi]at this;cases U:(Bl::FP).lookup j with
         |none=>rw[U]at this;exact this st (by simp) h ⟨λa i b hb=>⟨hb,rfl⟩,λg _=>.inr ⟨⟨rfl,rfl⟩,O.gy _⟩⟩
         |some s=>
          rw[U]at this;obtain⟨l',z1,z2⟩:=this;rcases z2 with z2|⟨_,_,_,z3,_⟩
          .exact ⟨l',z1,.inl z2⟩
          .cases z3
       .cases L)
     refine⟨.slice (zw ⟨w.heap.size,0,zz⟩) m k,_,bU,.inl ?_,by simpa[e1,P.list,kills]using m1,by simpa[e1,P.list,kills]using m2,dU.Jr (.own d _ rfl λsz' X Y=>?_),λg hg=>?_⟩
     .unfold execOp;rw[ho];refine iE ?_;have Z:=run_make (P:=Pg) w t e x z hu g1 g4 .i64 .i64 (m:Int) (k:Int) (by omega) (by omega) (by rw[g3];omega) (by omega);rw[rn.gB.fJ,rc.gB.fJ,Z];have:=oN g5 k (by rw[H];exact M);rw[H]at this;simp only[Q4,g2,madeCells,this]
     .rw [e1]at Y;have Xn:(zw (B.size,m):Option (Nat×Nat))=zw (sz',X):=by rw[<-Y];simp[St.aJ,List.lookup,O.dim,P.list]
      cases Xn;rw[m3,m4]
     .have hg:g∈(S.v (.one (.own d))).names:=hg;rw[dZ]at hg;simp only[W.names,X1]at hg;subst hg;simp[St.aJ]
    .cases J
   .cases J
  .cases J
 .cases J
theorem DZ(B:jv Pg tt)(t:TypeId)(n:Nat)(parts:Array (Nat×Operand)):rY Pg tt r (.buildSlice t n parts):=by
 intro E st gh val w ρ F o d dc ho h hF hFn H hp hd;simp only[dY]at H;split at H
 .rename_i e _ _ _ Bl FP ht;split at H
  .rename_i b he;split at H
   .rename_i ws OL;split at H
    .rename_i ps a i gs es hps;split at H
     .rename_i hcc;obtain⟨hcap0,N,T⟩:=hcc;have N:=tC N;have T:=H8 T;have hcap:n*b.size<=16777216:=by omega
      cases H;have hu:=(B _ _ ht).kind;simp only[qB]at hu;obtain⟨z,hz,hzc,_⟩:=oL (Pg:=Pg) (w:=w) (B _ _ he);obtain⟨hone,hl,hr⟩:=vF (E:=E) (st:=st) (gh:=gh) (w:=w) (B _ _ he);have K:=(B _ _ he).len;have L:(parts.map λ(p:Nat×Operand)=>(p.1,ρ p.2)).toList=parts.toList.map λp=>(p.1,ρ p.2):=by simp
      obtain⟨M,h1,h2,h3,h4,h5⟩:=DN (E:=E) (st:=st) (gh:=gh) (w:=w) (place':=λi=>zw (i*b.size,b.size)) (λm p U=>by split at U;exact U;cases U) _ (parts.toList.map λp=>(p.1,ρ p.2)) _ _
       (iI b.zero n) (by simp) (λj x v J hv=>FB hF _ j x v J hv) (by rw[eF,eF,hl]) (λc hc=>by
        obtain⟨j,hj⟩:=UX.1 hc;have q:j<n*b.zero.length:=by have:=(Q3.1 hj).1;rwa [eF]at this
        rw[jD _ _ _ q]at hj;exact hone c (Z1 hj)) (λj x u J hu=>by
        have q:j<n*b.zero.length:=by have:=(Q3.1 hu).1;rwa [eF]at this
        rw[jD _ _ _ q]at hu;rw[jD _ _ _ (by rw[hl];exact q),hl]at J;exact hr _ _ _ J hu) OL
      obtain⟨q0,q1,qe,q2⟩:=DY h h2 h4 hps;obtain⟨f1,f2⟩:=Rel.freezes gs h q1;have Jt:st.used d=zv:=hd d (by simp);have hws:ws.length=n*b.size:=by rw[h5,eF,hl,K]
      have amE:ps.length=n*b.size:=by rw[q0,hws]
      have hfe :∀p∈es,(st.aJ (gs.map (Fw.bC st.o)) []).o p.2=st.o p.2:=λp hp=>by rw[ig,Qt (T _ (XN.2 ⟨p,hp,rfl⟩))]
      obtain⟨bU,m1,m2,m3,m4⟩:=f1.aem (d:=d) (by simpa[St.aJ]using Jt) a i b.size (Bl::FP) (chunks b.size n ps) M.toArray e n ⟨by rw[je];exact YY _,by omega⟩ (by simp;omega) (λx J=>by
        obtain⟨m,hm⟩:=UX.1 J;have q:m<n:=by have:=(Q3.1 hm).1;rwa [je]at this
        rw[rW _ _ _ _ q]at hm;cases hm;simp[amE];have:(m+1)*b.size<=n*b.size:=W0 _ q;rw[WK]at this;omega) es N (λp hp=>by
        obtain⟨a2,i2,s2,l2,X,z2⟩:=qe p hp;exact⟨a2,i2,s2,l2,by rw[hfe p hp];exact X,z2⟩) (λm x J j y Y=>by
        have q:m<n:=by have:=(Q3.1 J).1;rwa [je]at this
        rw[rW _ _ _ _ q]at J;cases J;rw[ZZ]at Y;split at Y
        .rename_i hj;rw[Wo]at Y;have hlt2:m*b.size+j<M.length:=by have:=(Q3.1 Y).1;omega
         refine⟨M[m*b.size+j],by simp,?_⟩;have:=q2 _ y _ Y (Q2 hlt2);have em:(0+(m*b.size+j)) % b.size=j:=by rw[Vi,qf,zg,Kl hj]
         rw[em,Vi]at this;cases hcj:(Bl::FP).lookup j with
         |none=>rw[hcj]at this;exact this _ (λg hg=>by rw[ig,QQ hg]) f1 f2
         |some s=>rw[hcj]at this;obtain⟨l',X,z2⟩:=this;refine⟨l',X,z2.imp id ?_⟩;rintro ⟨e,a2,i2,y1,y2,y3,y4,y5⟩;exact⟨e,a2,i2,y1,by rw[hfe _ y1];exact y2,y3,y4,y5⟩
        .cases Y)
      have hst:(st.aJ (gs.map (Fw.bC st.o)) []).aJ ((d,.aO a i b.size (Bl::FP) (chunks b.size n ps) zz)::kills (es.map (·.2))) [d]=st.aJ ((d,.aO a i b.size (Bl::FP) (chunks b.size n ps) zz)::kills (es.map (·.2))++gs.map (Fw.bC st.o)) [d]:=by
       refine St.FK rfl (λz=>?_) (λz=>by simp[St.aJ]);simp only[St.aJ,Kk,lookup_cons,xk,jf];by_cases X:z=d
       .simp only[QQ X]
       .simp only[Qt X];by_cases z2:z∈es.map (·.2)
        .simp only[QQ z2,Option.some_or]
        .simp only[Qt z2,Option.none_or]
      rw[hst]at m1 m2;refine⟨.slice (zw ⟨w.heap.size,0,zz⟩) n n,_,bU,.inl ?_,m1,Lets.trans f2 m2 (λg hg=>by simpa[St.aJ]using hg),dU.Jr (.own d _ rfl λsz' len' ho'=>?_),λg hg=>?_⟩
      .unfold execOp;rw[ho];refine iE ?_;have hle:¬ n*b.size>2 ^ 24:=by omega
       have fin :∀Z:Array Value,(Array.range (n*b.size)).map (λi=>Z[i % Z.size]!)=(iI b.zero n).toArray->
         Instr.fill (λi=>zw (i*b.size,b.size)) ((Array.range (n*b.size)).map λi=>Z[i % Z.size]!) (parts.map λ(p:Nat×Operand)=>(p.1,ρ p.2)).toList=zw M.toArray:=by
        intro Z hZ;rw[hZ,L,h1]
       by_cases h0:n*b.size=0
       .have e0:iI b.zero n=[]:=Uv (by rw[eF,K,h0]);have e1:=fin #[] (by rw[h0,e0];simp);simp only[Instr.buildSlice,Sem.run_bind,fB hu,Result.andThen_ok,eU (B _ _ he),Qt hle,QQ h0,Sem.run_pure];simp only[e1];simp[newRow]
       .have hpos:0<b.zero.length:=by rw[K];rcases qd b.size with h|h;(rw[h]at h0;simp at h0);exact h
        have e1:=fin z.cells (by have:=oN hzc n hpos;rw[K]at this;exact this);simp only[Instr.buildSlice,Sem.run_bind,fB hu,Result.andThen_ok,eU (B _ _ he),Qt hle,Qt h0,hz,Sem.run_pure];simp only[e1];simp[newRow]
      .have Xn:(zw (b.size,n):Option (Nat×Nat))=zw (sz',len'):=by rw[<-ho'];simp[St.aJ,List.lookup,O.dim,P.list,je]
       cases Xn;rw[m3,m4]
      .have hg:g∈(S.v (.one (.own d))).names:=hg;rw[dZ]at hg;simp only[W.names,X1]at hg;subst hg;simp[St.aJ]
     .cases H
    .cases H
   .cases H
  .cases H
 .cases H
def Ap(gh:Nat->Gh):Option Nat->Nat->Option (Nat×Nat)
 |some g,b=>(gh g).sub b
 |none,_=>zz
theorem Uu(h:Rel E st gh val w){g2:Nat}(hd:st.used d=zv){a2 i2:Bool}{J new:List (List P)}{base:Option Nat}{bad:Option Addr}{N m:Nat}
  (L:(base=zz/\bad=zz/\N=0/\m=0/\J=[])\/∃g l,base=zw g/\st.o g=.aO i a n r l zz/\bad=(gh g).ad/\(m<=N/\N<=(gh g).cap)/\m<=l.length/\J=l.take m/\g≠g2)
  (ho2:st.o g2=.aO a2 i2 n r new zz)
  {ts:Array TypeId} {ty sT xT e':TypeId} {B:TI} (h0:ts[0]?=zw sT) (h1:ts[1]?=zw xT) (hs:Pg.underlying sT=zw (.slice e)) (hxt:Pg.underlying xT=zw (.slice e')) (he:qQ Pg e B) (hsz:n=B.size)
  (hbb:(m+new.length)*B.bytes<=140737488355328) (hb0:B.bytes≠0) :
  ∃v w' bU,(Builtin.append_ ts ty #[.slice bad m N,.slice (gh g2).ad new.length (gh g2).cap]).run Pg w=.ok v w'/\Rel E (st.aJ ((d,.aO (i||a2) (a||i2) n r (J++new) zz)::kills (base.toList++[g2])) [d]) bU val w'/\
   Lets E st (st.aJ ((d,.aO (i||a2) (a||i2) n r (J++new) zz)::kills (base.toList++[g2])) [d]) gh bU w w'/\v=.slice (bU d).ad (J++new).length (bU d).cap:=by
 subst hsz;have ca:i=zj->(i||a2)=zj:=by simp;exact λh=>.inl h
 have ci:a=zj->(a||i2)=zj:=by simp;exact λh=>.inl h
 have ca2:a2=zj->(i||a2)=zj:=by simp;exact λh=>.inr h
 have ci2:i2=zj->(a||i2)=zj:=by simp;exact λh=>.inr h
 have hnd :∀g,st.o g≠.none->g≠d:=λg hg e=>by rw[<-e,h.ul g hg]at hd;cases hd
 have auf:g2≠d:=hnd g2 (by rw[ho2];simp);have ais:(st.o g2).cO=zj:=by rw[ho2];rfl
 have hol:J.length=m:=by
  rcases L with⟨_,_,_,rfl,rfl⟩|⟨g,l,_,_,_,_,hm,rfl,_⟩
  .rfl
  .simp;omega
 have U:(J++new).length=m+new.length:=by rw[XS,hol]
 have hbS :∀g,g∈base.toList++[g2]->g≠d/\(st.o g).cO=zj/\∃a0 i0 l0,st.o g=.aO a0 i0 B.size r l0 zz/\(i0=zj->(a||i2)=zj):=by
  intro g hg;rcases Ys.1 hg with hg|hg
  .rcases L with⟨rfl,_⟩|⟨g',l,rfl,H,_⟩
   .simp at hg
   .simp at hg;subst hg;exact⟨hnd g (by rw[H];simp),by rw[H];rfl,i,a,l,H,ci⟩
  .rw [X1]at hg;subst hg;exact⟨auf,ais,a2,i2,new,ho2,ci2⟩
 let sub:Nat->Option (Nat×Nat):=λb=>match (gh g2).sub b with
  |some (sz,j)=>zw (sz+m,j)
  |none=>Ap gh base b
 have apG :∀b,(Ap gh base b).isSome=zj->(gh g2).has b->False:=λb h1 h2=>by
  rcases L with⟨rfl,_⟩|⟨g,l,rfl,H,_,_,_,_,hne⟩
  .cases h1
  .exact hne (h.inj g g2 b (by rw[H];rfl) ais (.inr h1) h2)
 have hsub :∀b,(sub b).isSome=zj->(∃g,g∈base.toList++[g2]/\(st.o g).cO=zj/\((gh g).sub b).isSome=zj):=λb M=>by
  cases hx:(gh g2).sub b with
  |some p=>exact⟨g2,by simp,ais,by rw[hx];rfl⟩
  |none=>
   simp only[sub,hx]at M;rcases L with⟨rfl,_⟩|⟨g,l,rfl,H,_⟩
   .cases M
   .exact ⟨g,by simp,by rw[H];rfl,M⟩
 have aen :∀g,g∈base.toList++[g2]->∀b,((gh g).sub b).isSome=zj->∃c e f,w.heap[b]?=zw (.cells c e f):=λg hg b M=>by
  obtain⟨_,_,a0,i0,l0,H,_⟩:=hbS g hg;have hD:=h.bI g;rw[H]at hD;rcases hD with⟨_,_,_,q⟩|⟨_,_,_,_,_,_,_,_,_,⟨_,q⟩,_⟩
  .rw [q b]at M;cases M
  .exact q b M
 have apH :∀(G:Gh),G.sub=sub->∀sz j y u,jr E st gh w a2 i2 (gh g2) r zz sz j y u->match r.lookup j with
   |none=>dH w (E.ok st gh w (i||a2) (a||i2)) y u
   |some s=>Bc E st gh w (i||a2) (a||i2) G s (sz+m) j y u:=by
  intro G hG sz j y u Y;unfold jr at Y;cases hc:r.lookup j with
  |none=>rw[hc]at Y;exact Y.cls ca2 ci2
  |some s=>rw[hc]at Y;simp only[iT]at Y;obtain⟨l',ao,k,q1,q2,q3,q4⟩:=Y.cls ca2 ci2;exact⟨l',ao,k,q1,q2,q3,λad had=>by rw[hG];simp only[sub,q4 ad had]⟩
 have apI :∀(G:Gh),G.sub=sub->∀g,base=zw g->∀sz j y u,jr E st gh w i a (gh g) r zz sz j y u->match r.lookup j with
   |none=>dH w (E.ok st gh w (i||a2) (a||i2)) y u
   |some s=>Bc E st gh w (i||a2) (a||i2) G s sz j y u:=by
  intro G hG g hgb sz j y u Y;unfold jr at Y;cases hc:r.lookup j with
  |none=>rw[hc]at Y;exact Y.cls ca ci
  |some s=>
   rw[hc]at Y;simp only[iT]at Y;obtain⟨l',ao,k,q1,q2,q3,q4⟩:=Y.cls ca ci;refine⟨l',ao,k,q1,q2,q3,λad had=>?_⟩;have hq:=q4 ad had;have hb1:(Ap gh base ad.block).isSome=zj:=by rw[hgb];simp only[Ap,hq];rfl
   rw[hG];cases hx:(gh g2).sub ad.block with
   |some p=>exact(apG ad.block hb1 (.inr (by rw[hx];rfl))).elim
   |none=>simp only[sub,hx,hgb,Ap];exact hq
 have hD2:lT E st gh w a2 i2 B.size r new zz (gh g2):=by have:=h.bI g2;rw[ho2]at this;exact this
 have apJ :∀X:O,∀g,g∈base.toList++[g2]->g≠d->(st.aJ ((d,X)::kills (base.toList++[g2])) [d]).o g=.none:=λX g hg e=>by simp only[St.aJ,lookup_cons,Qt e,jf,QQ hg]
 have apK :∀X:O,∀g,¬ g∈base.toList++[g2]->g≠d->(st.aJ ((d,X)::kills (base.toList++[g2])) [d]).o g=st.o g:=λX g hg e=>by simp only[St.aJ,lookup_cons,Qt e,jf,Qt hg]
 by_cases tu:m+new.length<=N
 .obtain ⟨c2,hc2,hl2,apL,hr2,K⟩:=BQ (Pg:=Pg) hD2 new.length (YY _);rcases L with⟨rfl,rfl,rfl,rfl,rfl⟩|⟨g,l,rfl,H,rfl,hbc,hm,rfl,apM⟩
  .have hn0:new=[]:=Uv (by omega);subst hn0;have hk:=h.kill g2;have xu:=Rel.Qu hk.1 d (by simpa[St.aJ]using hd) (.aO (i||a2) (a||i2) B.size r [] zz) (.inl ⟨rfl,rfl,rfl,λ_=>rfl⟩) (λg hg=>by simp[O.names,dN]at hg);have hst:(st.aJ [(g2,.none)] []).aJ [(d,.aO (i||a2) (a||i2) B.size r [] zz)] [d]=st.aJ ((d,.aO (i||a2) (a||i2) B.size r ([]++[]) zz)::kills ((zz:Option Nat).toList++[g2])) [d]:=by
    refine St.FK rfl (λz=>?_) (λz=>by simp[St.aJ]);simp only[St.aJ,lookup_cons,jf,Option.toList,qT,X1,List.lookup_nil];by_cases Z:z=d
    .simp only[QQ Z]
    .simp only[Qt Z]
   rw[hst]at xu;refine⟨.slice zz (0+0) 0,w,_,lG h0 h1 hs hxt he hc2 (by simp) (λi ha=>by cases ha) (λ_=>rfl),xu.1,Lets.trans hk.2 xu.2 (λg hg=>by simpa[St.aJ]using hg),by simp[fZ,Gh.nil]⟩
  .have hD:lT E st gh w i a B.size r l zz (gh g):=by have:=h.bI g;rw[H]at this;exact this
   have hgo:(st.o g).cO=zj:=by rw[H];rfl
   rcases hD with⟨Z,z2,z3,z4⟩|⟨ad,c,e0,Z,z2,z3,z4,z5,z6,⟨z7,z7'⟩,z8⟩
   .subst z3;have hm0:m=0:=by simpa using hm
    subst hm0;have hn0:new=[]:=Uv (by omega);subst hn0;have hk:=h.kill g;have hk2:=hk.1.kill g2;have xu:=Rel.Qu hk2.1 d (by simpa[St.aJ]using hd) (.aO (i||a2) (a||i2) B.size r [] zz) (.inl ⟨rfl,rfl,rfl,λ_=>rfl⟩) (λg hg=>by simp[O.names,dN]at hg);have hst:((st.aJ [(g,.none)] []).aJ [(g2,.none)] []).aJ [(d,.aO (i||a2) (a||i2) B.size r [] zz)] [d]=st.aJ ((d,.aO (i||a2) (a||i2) B.size r (([]:List (List P)).take 0++[]) zz)::kills ((zw g:Option Nat).toList++[g2])) [d]:=by
     refine St.FK rfl (λz=>?_) (λz=>by simp[St.aJ]);simp only[St.aJ,lookup_cons,jf,Option.toList,Kk,qT,Xs,List.not_mem_nil,or_false,List.lookup_nil];by_cases Z:z=d
     .simp only[QQ Z];rfl
     .simp only[Qt Z];by_cases z2:z=g2
      .simp [z2]
      .simp only[Qt z2];by_cases z3:z=g
       .simp [z3]
       .simp [z2,z3]
    rw[hst]at xu;have amH:N=0:=by omega
    subst amH;refine⟨.slice zz (0+0) 0,w,_,by rw[Z];exact lG h0 h1 hs hxt he hc2 (by simp) (λi ha=>by cases ha) (λ_=>rfl),xu.1,Lets.trans (Lets.trans hk.2 hk2.2 (λg hg=>by simpa[St.aJ]using hg)) xu.2 (λg hg=>by simpa[St.aJ]using hg),by simp[fZ,Gh.nil]⟩
   .have aua:m*B.size+new.length*B.size<=(gh g).cap*B.size:=by rw[<-WK];exact W0 _ (K0 tu hbc.2)
    have hbz:N*B.size<=(gh g).cap*B.size:=W0 _ hbc.2;obtain⟨b0,o0,sp0⟩:=ad;simp only at z2 z3 z4 z7 z8;subst z2;obtain⟨w',c',s1,s2,s3,s4,s5,s6,s7,s8⟩:=nS (Pg:=Pg) b0 (o0+m*B.size) e0 c2 0 w c z3 apL (by omega);have DW:c'.size=c.size:=by have:=W2 List.length s3;rw[fM (by simp;omega)]at this;simpa using this
    let G:Gh:=⟨zw ⟨b0,o0,zz⟩,N,sub⟩
    have hn2:¬ (gh g2).has b0:=λL=>apM (h.inj g g2 b0 hgo ais (Gh.kN Z) L);have hget :∀q:Nat,c'[q]?=(bf c.toList (o0+m*B.size) c2)[q]?:=λq=>by rw[<-K2,s3,Jn]
    have hga:=h.gather (λg'=>g'∈(zw g:Option Nat).toList++[g2]) hd (i||a2) (a||i2) B.size r (l.take m++new) G (st.aJ ((d,.aO (i||a2) (a||i2) B.size r (l.take m++new) zz)::kills ((zw g:Option Nat).toList++[g2])) [d]) w' rfl (by simp[St.aJ,lookup_cons])
     (apJ _) (apK _) (λg hg=>by simp[St.aJ,hg]) (by simp[St.aJ]) (ad:=⟨b0,o0,zz⟩) (c:=c') (ty:=e0) rfl rfl s2 (by rw[DW];simp only[G];omega) ⟨by rw[U];exact tu,by simp only[G];have:=z5.2;omega⟩ (λx hx=>by
      rcases Ys.1 hx with hx|hx
      .exact z6 x (Wl hx)
      .exact hr2 x hx) (by
      show sub b0=zz;cases hx:(gh g2).sub b0 with
      |some p=>exact(hn2 (.inr (by rw[hx];rfl))).elim
      |none=>simp only[sub,hx,Ap];exact z7) (λb L=>by
      obtain⟨g',q1,q2,q3⟩:=hsub b L;exact⟨⟨g',q1,q2,.inr q3⟩,aen g' q1 b q3⟩) (.inl ⟨g,by simp,hgo,Gh.kN Z⟩) (λb _ hne=>s4 b hne) (by omega) s6 s7 s8
     (λg' i1 T e1 hi=>by obtain⟨_,_,a0,i0,l0,hq,hi0⟩:=hbS g' T;rw[hq]at e1;cases e1;exact hi0 hi) (λg' T _=>by obtain⟨_,_,a0,i0,l0,hq,_⟩:=hbS g' T;exact⟨i0,by rw[hq];rfl⟩)
     (λsz x hx j y hy=>by
      rw[Kj]at hx;split at hx
      .rename_i hn;have hnm:sz<m:=by simp at hn;omega
       rw[ZZ,QQ hnm]at hx;obtain⟨v,hv,hvr⟩:=z8 sz x hx j y hy;have hj:j<B.size:=by have:=(Q3.1 hy).1;have:=z6 x (Z1 hx);omega
       have:(sz+1)*B.size<=m*B.size:=W0 _ hnm;rw[WK,KK]at this;exact⟨v,by rw[hget,fV (by simp;omega),Qt (by show ¬ (_/\_);simp only;omega)];simpa using hv,apI G rfl g rfl sz j y v hvr⟩
      .rename_i hn;have hlm:(l.take m).length=m:=by simp;omega
       rw[hlm]at hx hn;obtain⟨u,hu,hur⟩:=K _ x (by have:=(Q3.1 hx).1;omega) hx j y hy;have Kv:=(Q3.1 hu).1;have hnm:sz*B.size=m*B.size+(sz-m)*B.size:=by rw[<-WK];congr 1;omega
       refine⟨u,?_,?_⟩
       .have e1:o0+sz*B.size+j-(o0+m*B.size)=(sz-m)*B.size+j:=by omega
        rw[hget,fV (by simp;omega),QQ (by simp only;omega),e1];exact hu
       .have:=apH G rfl (sz-m) j y u hur;have e2:sz-m+m=sz:=by omega
        rw[e2]at this;exact this)
    refine⟨_,w',_,lG h0 h1 hs hxt he hc2 tu (λi ha=>?_) (λhn=>by rw[Z]at hn;cases hn),hga.1,hga.2,by rw[U];simp[fZ,G,Z]⟩;rw[Z]at ha;cases ha;rw[Addr.ji];simpa using s1
 .have hd1:=h.drew (w.drawn+1);have hl1:Lets E st st gh gh w { w with drawn:=w.drawn+1 }:=Rel.FD _;have aug:lT E st gh { w with drawn:=w.drawn+1 } a2 i2 B.size r new zz (gh g2):=by have:=hd1.bI g2;rw[ho2]at this;exact this
  obtain⟨c2,hc2,hl2,apL,hr2,K⟩:=BQ (Pg:=Pg) aug new.length (YY _);have hbase :∃c1:List Value,(Builtin.firstCells B.size m (.slice bad m N)).run Pg { w with drawn:=w.drawn+1 }=.ok c1.toArray { w with drawn:=w.drawn+1 }/\c1.length=m*B.size/\(∀x∈J,x.length=B.size)/\
    ∀(sz:Nat) x,J[sz]?=zw x->∀(j:Nat) y,x[j]?=zw y->∃u,c1[sz*B.size+j]?=zw u/\∃g,base=zw g/\jr E st gh { w with drawn:=w.drawn+1 } i a (gh g) r zz sz j y u:=by
   rcases L with⟨rfl,rfl,rfl,rfl,rfl⟩|⟨g,l,rfl,H,rfl,hbc,hm,rfl,apM⟩
   .exact ⟨[],by simp[Builtin.firstCells],by simp,by simp,by simp⟩
   .have hD:lT E st gh { w with drawn:=w.drawn+1 } i a B.size r l zz (gh g):=by have:=hd1.bI g;rw[H]at this;exact this
    obtain⟨c1,k1,k2,k3,k4,k5⟩:=BQ (Pg:=Pg) hD m hm;rw[yU _ _ _ _ _ N]at k1;refine⟨c1,k1,k2,λx hx=>k4 x (Wl hx),λsz x hx j y hy=>?_⟩;rw[ZZ]at hx;split at hx
    .rename_i hn;obtain⟨u,q1,q2⟩:=k5 sz x hn hx j y hy;exact⟨u,q1,g,rfl,q2⟩
    .cases hx
  obtain⟨c1,hc1,aei,hr1,hcell1⟩:=hbase;have hback:Lets E st st gh gh { w with drawn:=w.drawn+1 } w:=⟨λi a b L=>⟨L,rfl⟩,λg _=>.inr ⟨⟨rfl,rfl⟩,O.gy _⟩⟩;obtain⟨rest,newCap,k1,k2,k3⟩:=rX (ty:=ty) h0 h1 hs hxt he hc2 hc1 tu hbb hb0
  let G:Gh:=⟨zw ⟨w.heap.size,0,zz⟩,newCap,sub⟩
  have hga:=h.gather (λg'=>g'∈base.toList++[g2]) hd (i||a2) (a||i2) B.size r (J++new) G (st.aJ ((d,.aO (i||a2) (a||i2) B.size r (J++new) zz)::kills (base.toList++[g2])) [d])
   { w with drawn:=w.drawn+1,heap:=w.heap.push (.cells (c1.toArray++c2.toArray++rest) e) } rfl (by simp[St.aJ,lookup_cons])
   (apJ _) (apK _) (λg hg=>by simp[St.aJ,hg]) (by simp[St.aJ]) (ad:=⟨w.heap.size,0,zz⟩) (c:=c1.toArray++c2.toArray++rest) (ty:=e) rfl rfl (by simp) (by
    simp only[vE,qq,aei,hl2,k2,G];rw[<-WK,<-WK,Vi];exact W0 _ (by omega)) ⟨by rw[U];exact k1.1,k1.2⟩ (λx hx=>by
    rcases Ys.1 hx with hx|hx
    .exact hr1 x hx
    .exact hr2 x hx) (by
    show sub w.heap.size=zz;cases hx:sub w.heap.size with
    |none=>rfl
    |some p=>obtain⟨g',q1,q2,q3⟩:=hsub w.heap.size (by rw[hx];rfl);have:=(h.wr g' _ q2 (.inr q3)).2;omega) (λb L=>by
    obtain⟨g',q1,q2,q3⟩:=hsub b L;exact⟨⟨g',q1,q2,.inr q3⟩,aen g' q1 b q3⟩) (.inr ⟨YY _,by simp⟩) (λb L _=>wS w _ b L) (by simp) rfl rfl rfl
   (λg' i1 T e1 hi=>by obtain⟨_,_,a0,i0,l0,hq,hi0⟩:=hbS g' T;rw[hq]at e1;cases e1;exact hi0 hi) (λg' T _=>by obtain⟨_,_,a0,i0,l0,hq,_⟩:=hbS g' T;exact⟨i0,by rw[hq];rfl⟩)
   (λsz x hx j y hy=>by
    rw[Kj]at hx;split at hx
    .rename_i hn;obtain⟨u,q1,g,q2,q3⟩:=hcell1 sz x hx j y hy;have hlt:=(Q3.1 q1).1;refine⟨u,?_,apI G rfl g q2 sz j y u (hback.Y4 (λ_ _=>rfl) (λg hg=>by cases hg) q3)⟩;rw[Vi,Kd (by simp;omega),Kd (by simpa using hlt)];simpa using q1
    .rename_i hn;rw[hol]at hx hn;obtain⟨u,hu,hur⟩:=K _ x (by have:=(Q3.1 hx).1;omega) hx j y hy;have Kv:=(Q3.1 hu).1;have hnm:sz*B.size=m*B.size+(sz-m)*B.size:=by rw[<-WK];congr 1;omega
     refine⟨u,?_,?_⟩
     .rw [Vi,Kd (by simp;omega),Array.getElem?_append_right (by simp;omega)];simp only[qq,Kg];have e1:sz*B.size+j-c1.length=(sz-m)*B.size+j:=by omega
      rw[e1];exact hu
     .have:=apH G rfl (sz-m) j y u (hback.Y4 (λ_ _=>rfl) (λg hg=>by cases hg) hur);have e2:sz-m+m=sz:=by omega
      rw[e2]at this;exact this)
  exact⟨_,_,_,k3,hga.1,hga.2,by rw[U];simp[fZ,G]⟩
theorem oq{o':Nat->O}(h:Agree o o' g):jI o g=jI o' g:=by
 obtain⟨j,m⟩:=h;unfold jI;rw[<-j];cases q:o g with
 |aO a i y z l b=>
  rcases b with _|⟨n,c,d⟩
  .rfl
  .simp only;rw[m d (by rw[q];simp[O.hn,dN])]
 |_=>rfl
theorem yX(htt:jv Pg tt)(h:Rel E st gh val w){o:Oper}{ρ:Operand->Value}{s x:Operand}{ts:Array TypeId}(ho:o.op=.call { callee:=.builtin .append,args:=#[s,x],argTypes:=ts }){g2:Nat}(hd:st.used d=zv)
  {xT sT e':TypeId} {X:TI} (h0:ts[0]?=zw e) (h1:ts[1]?=zw xT) (hs:Pg.underlying e=zw (.slice sT)) (hxt:Pg.underlying xT=zw (.slice e')) (he:qQ Pg sT X) (hb0:X.bytes≠0)
  {a2 i2:Bool}   {b new:List (List P)} {base:Option Nat} {bad:Option Addr} {xu m:Nat} (hsz:n=X.size)
  {c:St}  (j:List Nat) (h1':Rel E c J val w) (l1:Lets E st c gh J w w) (Z :∀x,(J x).ad=(gh x).ad/\(J x).cap=(gh x).cap) (s1:c.s=st.s) (u1 :∀x,c.used x=st.used x)
  (hb:(base=zz/\bad=zz/\xu=0/\m=0/\b=[]/\j=[])\/∃g l,base=zw g/\c.o g=.aO i a n r l zz/\bad=(gh g).ad/\(m<=xu/\xu<=(gh g).cap)/\m<=l.length/\b=l.take m/\j=g::(st.o g).hn)
  (ok1 :∀x∈j,(∀g,base=zw g->x≠g)->c.o x=.none) (B :∀x,x∉j->c.o x=st.o x) (hnd:(j++g2::(st.o g2).hn).Nodup)
  (h2:jI st.o g2=zw (a2,i2,n,r,new)) (hvs:ρ s=.slice bad m xu) (hvx:ρ x=.slice (gh g2).ad new.length (gh g2).cap) (hbb:(m+new.length)*X.bytes<=140737488355328) :
  ∃v w' bU,Does Pg (execOp ρ o) w v w'/\Rel E (st.aJ ((d,.aO (i||a2) (a||i2) n r (b++new) zz)::kills (j++g2::(st.o g2).hn)) [d]) bU val w'/\
   Lets E st (st.aJ ((d,.aO (i||a2) (a||i2) n r (b++new) zz)::kills (j++g2::(st.o g2).hn)) [d]) gh bU w w'/\
   dU E (st.aJ ((d,.aO (i||a2) (a||i2) n r (b++new) zz)::kills (j++g2::(st.o g2).hn)) [d]) bU w' (.v (.one (.own d))) v/\
   ∀g∈(S.v (.one (.own d))).names,(st.aJ ((d,.aO (i||a2) (a||i2) n r (b++new) zz)::kills (j++g2::(st.o g2).hn)) [d]).used g=zj:=by
 have q :∀x∈j,x∉g2::(st.o g2).hn:=λx hx hx'=>by have:=(List.nodup_append.1 hnd).2.2 x hx x hx';exact this rfl
 have sz:Agree st.o c.o g2:=⟨(B g2 λK=>q g2 K (by simp)).symm,λd' hd'=>(B d' λK=>q d' K (by simp[hd'])).symm⟩;have h2':jI c.o g2=zw (a2,i2,n,r,new):=by rw[<-oq sz];exact h2
 obtain⟨L,Bh,r2,l2,e2,s2,u2,o2,M,y⟩:=h1'.home h2';rw[<-sz.1]at M y;have hb2:(base=zz/\bad=zz/\xu=0/\m=0/\b=[])\/∃g l,base=zw g/\L.o g=.aO i a n r l zz/\bad=(Bh g).ad/\(m<=xu/\xu<=(Bh g).cap)/\m<=l.length/\b=l.take m/\g≠g2:=by
  rcases hb with⟨q1,q2,q3,q4,q5,_⟩|⟨g,l,q1,q2,q3,q4,q5,q6,q7⟩
  .exact .inl ⟨q1,q2,q3,q4,q5⟩
  .have N:=q g (by rw[q7];simp);have T:g≠g2:=λsT=>N (by rw[sT];simp);refine .inr ⟨g,l,q1,?_,by rw[(e2 g).1,(Z g).1];exact q3,by rw[(e2 g).2,(Z g).2];exact q4,q5,q6,T⟩;rw[y g T λK=>N (by simp[K])];exact q2
 obtain⟨v,w',bU,k1,k2,k3,k4⟩:=Uu (d:=d) (ty:=o.type) r2 (by rw[u2,u1];exact hd) hb2 o2 h0 h1 hs hxt he hsz hbb hb0;have hst:L.aJ ((d,.aO (i||a2) (a||i2) n r (b++new) zz)::kills (base.toList++[g2])) [d]=st.aJ ((d,.aO (i||a2) (a||i2) n r (b++new) zz)::kills (j++g2::(st.o g2).hn)) [d]:=by
  refine St.FK (s2.trans s1) (λz=>?_) (λz=>by simp[St.aJ,u2,u1]);simp only[St.aJ,lookup_cons,jf];by_cases z1:z=d
  .simp only[QQ z1]
  .simp only[Qt z1];by_cases z2:z∈base.toList++[g2]
   .have:z∈j++g2::(st.o g2).hn:=by
     rcases Ys.1 z2 with z2|z2
     .rcases hb with⟨q1,_⟩|⟨g,l,q1,_,_,_,_,_,q7⟩
      .rw [q1]at z2;simp at z2
      .rw [q1]at z2;simp at z2;subst z2;rw[q7];simp
     .simp at z2;subst z2;simp
    simp only[QQ z2,QQ this]
   .by_cases z3:z∈j++g2::(st.o g2).hn
    .simp only[Qt z2,QQ z3];have U:z≠g2:=λsT=>z2 (by simp[sT]);by_cases z4:z∈(st.o g2).hn
     .exact (M z z4).1
     .rw [y z U z4];rcases Ys.1 z3 with z5|z5
      .exact ok1 z z5 λg hg sT=>z2 (by rw[hg,sT];simp)
      .rcases Xs.1 z5 with z5|z5
       .exact absurd z5 U
       .exact absurd z5 z4
    .simp only[Qt z2,Qt z3];simp only[Ys,Xs,not_or]at z3;rw[y z z3.2.1 z3.2.2,B z z3.1]
 rw[hst]at k2 k3;have hod:(st.aJ ((d,.aO (i||a2) (a||i2) n r (b++new) zz)::kills (j++g2::(st.o g2).hn)) [d]).o d=.aO (i||a2) (a||i2) n r (b++new) zz:=by simp[St.aJ,lookup_cons]
 refine⟨v,w',bU,.inl (kX ho ?_),k2,Lets.trans (Lets.trans l1 l2 (λg hg=>by rw[u1];exact hg)) k3 (λg hg=>by rw[u2,u1];exact hg),dU.Jr (.own d v (by rw[k4];rfl) λsz1 len1 H=>?_),λg hg=>?_⟩
 .rw [(e2 g2).1,(Z g2).1,(e2 g2).2,(Z g2).2]at k1;simp[builtin,hvs,hvx,k1]
 .rw [hod]at H;simp only[O.dim,Q0,QP]at H;obtain⟨_,rfl⟩:=H;exact k4
 .rw [dZ]at hg;simp only[W.names,X1]at hg;subst hg;simp[St.aJ]
theorem Oa(q:jv Pg tt)(args:Array Operand)(ts:Array TypeId):rY Pg tt r (.call { callee:=.builtin .append,args:=args,argTypes:=ts }):=by
 intro E st gh val w ρ F o d dc ho h hF hFn J hp hd;simp only[dY]at J;split at J
 .rename_i s x sT xT tl ha hts;obtain rfl:=wU ha;have h0:ts[0]?=zw sT:=by rw[<-K2,hts];rfl
  have h1:ts[1]?=zw xT:=by rw[<-K2,hts];rfl
  split at J
  .rename_i e _ _ _ e' _ _ _ s' g2 hsT hxT hs y;have rs:=hF s;rw[hs]at rs;have rx:=hF x;rw[y]at rx;have K:=(q _ _ hsT).kind;have L:=(q _ _ hxT).kind;simp only[qB]at K L;split at J
   .rename_i ie ask a i old ks src a2 i2 sz au new he j M;split at J
    .rename_i hc;obtain⟨T,U,N,B⟩:=hc;have B:=tC B;cases J;obtain⟨hask,H⟩:=hp;have Jt:st.used d=zv:=hd d (by simp);have X:ρ x=.slice (gh g2).ad new.length (gh g2).cap:=by cases rx.dW with|own _ _ _ Y=>exact Y _ _ (pI M)
     have refl:Lets E st st gh gh w w:=⟨λa i b Y=>⟨Y,rfl⟩,λg _=>.inr ⟨⟨rfl,rfl⟩,O.gy _⟩⟩;cases s' with
     |dD=>
      simp only[baseD,Q0,QP]at j;obtain⟨rfl,rfl,rfl,rfl,rfl,rfl⟩:=j;have Z:ρ s=.slice zz 0 0:=by generalize hz:ρ s=z at rs;cases rs.dW;rfl
      exact yX q h ho Jt h0 h1 K L (q _ _ he) T (base:=zz) (bad:=zz) (xu:=0) (m:=0) U [] h refl (λ_=>⟨rfl,rfl⟩) rfl (λ_=>rfl) (.inl ⟨rfl,rfl,rfl,rfl,rfl,rfl⟩) (λx y=>by cases y) (λ_ _=>rfl) B M Z X (by simpa using H)
     |own g=>
      simp only[baseD]at j;split at j
      .rename_i a0 i0 BR lH l0 hh;simp only[Q0,QP]at j;obtain⟨rfl,rfl,rfl,rfl,rfl,rfl⟩:=j;have hsc:BR=sz/\lH=au:=by rcases N with e|e;cases e;simpa using e
       obtain⟨rfl,rfl⟩:=hsc;obtain⟨st1,oh,r1,l1,e1,s1,u1,o1,ok1,oo1⟩:=h.home hh;have Z:ρ s=.slice (gh g).ad l0.length (gh g).cap:=by cases rs.dW with|own _ _ _ Y=>exact Y _ _ (pI hh)
       exact yX q h ho Jt h0 h1 K L (q _ _ he) T (base:=zw g) U (g::(st.o g).hn) r1 l1 e1 s1 u1 (.inr ⟨g,l0,rfl,o1,rfl,⟨(wW (h.bI g) (pI hh)).1,YY _⟩,YY _,by rw[K7],rfl⟩)
        (λx y hxg=>by
         rcases Xs.1 y with e|e
         .exact absurd e (hxg g rfl)
         .exact (ok1 x e).1)
        (λx y=>by simp only[Xs,not_or]at y;exact oo1 x y.1 y.2) B M Z X H
      .cases j
     |vw g lo hi=>
      simp only[baseD]at j;split at j
      .rename_i a0 i0 BR lH l0 hh;cases j;have hsc:BR=sz/\lH=au:=by rcases N with e|e;cases e;simpa using e
       obtain⟨rfl,rfl⟩:=hsc;obtain⟨st1,oh,r1,l1,e1,s1,u1,o1,ok1,oo1⟩:=h.home hh;obtain⟨n,m,vc,h4,rfl,h5,h6,NZ,Z⟩:=(by cases rs.dW with|vw _ _ _ _ _ Y=>exact Y _ _ (pI hh) :∃n m c:Nat,lo=.int .i64 n/\hi=.int .i64 m/\n<=m/\m<=l0.length/\(m-n<=c/\n+c<=(gh g).cap)/\
        ρ s=.slice (if(gh g).cap=n then(gh g).ad else(gh g).ad.map (·.add (n*BR))) (m-n) c)
       have hn0:n=0:=by rw[hask]at h4;simp[lV]at h4;omega
       subst hn0;have hadd:(gh g).ad.map (·.add (0*BR))=(gh g).ad:=by
        cases (gh g).ad with
        |none=>rfl
        |some a=>simp[Addr.add]
       rw[hadd]at Z;simp only[ite_self,Nat.sub_zero]at Z;have em:(P.int .i64 (m:Int)).nat=m:=by simp[P.nat,P.num]
       rw[em]at H ⊢;have auh:(m+new.length)*ie.bytes<=140737488355328:=by rw[VV,vo h6]at H;exact H
       exact yX q h ho Jt h0 h1 K L (q _ _ he) T (base:=zw g) U (g::(st.o g).hn) r1 l1 e1 s1 u1 (.inr ⟨g,l0,rfl,o1,rfl,by omega,h6,rfl,rfl⟩)
        (λx y hxg=>by
         rcases Xs.1 y with e|e
         .exact absurd e (hxg g rfl)
         .exact (ok1 x e).1)
        (λx y=>by simp only[Xs,not_or]at y;exact oo1 x y.1 y.2) B M Z X auh
      .cases j
     |_=>simp[baseD]at j
    .cases J
   .cases J
  .cases J
 .cases J
theorem QI(htt:jv Pg tt)(t:TypeId)(x:Operand)(lo hi mx:Option Operand):rY Pg tt r (.slice t x lo hi mx):=by
 intro E st gh val w ρ F o d dc ho h hF hFn H hp hd;cases lo with
 |some _=>simp[dY]at H
 |none=>
 cases mx with
 |some _=>simp[dY]at H
 |none=>
 simp only[dY]at H;split at H
 .rename_i e _ _ _ g ht M;have rx:=hF x;rw[M]at rx;have hu:=(htt _ _ ht).kind;simp only[qB]at hu;split at H
  .rename_i ie a i z l he K;split at H
   .rename_i hsz;split at H
    .rename_i L hhi;cases H;obtain⟨k,H,hkl⟩:=hp;have hd:=hd d (by simp);have N9:(st.o g).dim=zw (z,l.length):=by rw[K];rfl
     have hv:=(by cases rx.dW with|own _ _ _ X=>exact X _ _ N9:ρ x=.slice (gh g).ad l.length (gh g).cap);have J:=h.bI g;rw[K]at J;have hcap:l.length<=(gh g).cap:=Qx J;have wX:(hi.map ρ=zz/\k=l.length)\/∃kd,hi.map ρ=zw (.int kd k):=(jd hF hhi H).imp (λ⟨a,b⟩=>⟨a,by simp[lV]at b;omega⟩) id;have Y:(execOp ρ o).run Pg w=.ok (.value (.slice (gh g).ad k (gh g).cap)) w:=by
      have hs:=pG (Pg:=Pg) (w:=w) (len:=l.length) (lo:=(zz:Option Value)) (hi:=hi.map ρ) (m:=0) (k:=k) (cap:=(gh g).cap) (.inl ⟨rfl,rfl⟩) wX (ve _) (by omega);have key:(execOp ρ o).run Pg w=.ok (.value (.slice (if(gh g).cap=0 then(gh g).ad else(gh g).ad.map (·.add (0*ie.size))) (k-0) ((gh g).cap-0))) w:=by unfold execOp;rw[ho];refine iE ?_;simp only[KM];simp[Instr.sliceAt,fB hu,Instr.slice,hv,hs,eU (htt _ _ he)]
      rw[key];congr 3;rcases J with⟨q1,q2,_⟩|⟨ad,c,e',q1,q2,_⟩
      .rw [q1,q2];rfl
      .rw [q1];obtain⟨b0,o0,sp0⟩:=ad;simp only at q2;subst q2;split
       .rfl
       .rw [W7,Addr.ji];simp
     have U:(st.o g).cO=zj:=by rw[K];rfl
     have Z:st.used g=zj:=h.ul g (O.qA U);have hgd:g≠d:=by intro e;subst e;rw[hd]at Z;cases Z
     have e0:(P.list (P.sl z (l.take L.nat)))=l.take k:=by rw[H];simp[P.list,P.nat,P.num]
     have Uw :∀st',st'=st.aJ [(d,.arr zv a i z (l.take k)),(g,.none)] [d]->
       ∃bU,Rel E st' bU val w/\Lets E st st' gh bU w w/\dU E st' bU w (.v (.one (.own d))) (.slice (gh g).ad k (gh g).cap):=by
      intro st' B;have hod:st'.o d=.arr zv a i z (l.take k):=by rw[B];simp[St.aJ,List.lookup]
      have hm:=h.merge (λg'=>g'=g) d (.arr zv a i z (l.take k)) (gh g) st' w (by rw[B];rfl) hod (λg' N e2=>by
        rw[B,N];have:(g==d)=zv:=by simpa using hgd
        simp[St.aJ,List.lookup,this]) (λg' N e2=>by
        rw[B];have q1:(g'==d)=zv:=by simpa using e2
        have q2:(g'==g)=zv:=by simpa using N
        simp[St.aJ,List.lookup,q1,q2]) (λg' q=>by rw[B];simp[St.aJ,q]) (by rw[B];simp[St.aJ]) (λhu=>by rw[hd]at hu;cases hu)
       (λb X=>.inl ⟨g,.inl rfl,U,X⟩) (λb _ _=>rfl) (YY _) rfl rfl rfl
       (λi1 b N X hwr=>by cases N;exact h.wi g i b (by rw[K];rfl) X hwr) (λ_ _=>h.ns g U (by rw[K];rfl)) (λhl=>?_) (λg' q=>by simp[O.names]at q)
      .refine ⟨_,hm.1,hm.2,dU.Jr (.own d _ rfl λsz' len' T=>?_)⟩;rw[hod]at T;obtain⟨rfl,rfl⟩:=O.kW T;have N:fZ gh d (gh g) d=gh g:=by simp[fZ]
       rw[N,VV,vo hkl]
      .show jq E st' _ w a i z (l.take k) (gh g);have hold:jq E st gh w a i z l (gh g):=J;rcases hold with⟨q1,q2,q3⟩|⟨ad,c,e',q1,q2,q3,q4,q5,q6,q7⟩
       .exact .inl ⟨q1,q2,by rw[q3];simp⟩
       .refine .inr ⟨ad,c,e',q1,q2,q3,q4,⟨by rw[VV];omega,q5.2⟩,λx M=>q6 x (Wl M),λn x M j y hy=>?_⟩;rw[ZZ]at M;split at M
        .obtain ⟨v,hv,hr⟩:=q7 n x M j y hy;exact⟨v,hv,hl.lU hr⟩
        .cases M
     show∃v w' bU,Does Pg (execOp ρ o) w v w'/\Rel E (st.aJ [(d,.arr zv a i z (P.list (P.sl z (l.take L.nat)))),(g,.none)] [d]) bU val w'/\_;rw[e0];obtain⟨bU,m1,m2,m3⟩:=Uw _ rfl;refine⟨_,w,bU,.inl Y,m1,?_,?_,λg' q=>?_⟩
     .show Lets E st (st.aJ [(d,.arr zv a i z (P.list (P.sl z (l.take L.nat)))),(g,.none)] [d]) gh bU w w;rw[e0];exact m2
     .show dU E (st.aJ [(d,.arr zv a i z (P.list (P.sl z (l.take L.nat)))),(g,.none)] [d]) bU w _ _;rw[e0];exact m3
     .have q:g'∈(S.v (.one (.own d))).names:=q;have:g'=d:=by simpa[S.names,V.names,W.names]using q
      subst this;simp[St.aJ]
    .cases H
   .cases H
  .rename_i ie a i z au l he K;split at H
   .rename_i hsz;split at H
    .rename_i L hhi;cases H;obtain⟨k,H,hkl⟩:=hp;have hd:=hd d (by simp);have N9:(st.o g).dim=zw (z,l.length):=by rw[K];rfl
     have hv:=(by cases rx.dW with|own _ _ _ X=>exact X _ _ N9:ρ x=.slice (gh g).ad l.length (gh g).cap);have J:=h.bI g;rw[K]at J;have J:lT E st gh w a i z au l zz (gh g):=J;have hcap:l.length<=(gh g).cap:=by
      rcases J with⟨_,_,q3,_⟩|⟨_,_,_,_,_,_,_,q5,_⟩
      .rw [q3];exact ve _
      .exact q5.1
     have wX:(hi.map ρ=zz/\k=l.length)\/∃kd,hi.map ρ=zw (.int kd k):=(jd hF hhi H).imp (λ⟨a,b⟩=>⟨a,by simp[lV]at b;omega⟩) id;have Y:(execOp ρ o).run Pg w=.ok (.value (.slice (gh g).ad k (gh g).cap)) w:=by
      have hs:=pG (Pg:=Pg) (w:=w) (len:=l.length) (lo:=(zz:Option Value)) (hi:=hi.map ρ) (m:=0) (k:=k) (cap:=(gh g).cap) (.inl ⟨rfl,rfl⟩) wX (ve _) (by omega);have key:(execOp ρ o).run Pg w=.ok (.value (.slice (if(gh g).cap=0 then(gh g).ad else(gh g).ad.map (·.add (0*ie.size))) (k-0) ((gh g).cap-0))) w:=by unfold execOp;rw[ho];refine iE ?_;simp only[KM];simp[Instr.sliceAt,fB hu,Instr.slice,hv,hs,eU (htt _ _ he)]
      rw[key];congr 3;rcases J with⟨q1,q2,_⟩|⟨ad,c,e',q1,q2,_⟩
      .rw [q1,q2];rfl
      .rw [q1];obtain⟨b0,o0,sp0⟩:=ad;simp only at q2;subst q2;split
       .rfl
       .rw [W7,Addr.ji];simp
     have U:(st.o g).cO=zj:=by rw[K];rfl
     have Z:st.used g=zj:=h.ul g (O.qA U);have hgd:g≠d:=by intro e;subst e;rw[hd]at Z;cases Z
     have e0:(P.list (P.sl z (l.take L.nat)))=l.take k:=by rw[H];simp[P.list,P.nat,P.num]
     have Uw :∀st',st'=st.aJ [(d,.aO a i z au (l.take k) zz),(g,.none)] [d]->
       ∃bU,Rel E st' bU val w/\Lets E st st' gh bU w w/\dU E st' bU w (.v (.one (.own d))) (.slice (gh g).ad k (gh g).cap):=by
      intro st' B;have hod:st'.o d=.aO a i z au (l.take k) zz:=by rw[B];simp[St.aJ,List.lookup]
      have hm:=h.merge (λg'=>g'=g) d (.aO a i z au (l.take k) zz) (gh g) st' w (by rw[B];rfl) hod (λg' N e2=>by
        rw[B,N];have:(g==d)=zv:=by simpa using hgd
        simp[St.aJ,List.lookup,this]) (λg' N e2=>by
        rw[B];have q1:(g'==d)=zv:=by simpa using e2
        have q2:(g'==g)=zv:=by simpa using N
        simp[St.aJ,List.lookup,q1,q2]) (λg' q=>by rw[B];simp[St.aJ,q]) (by rw[B];simp[St.aJ]) (λhu=>by rw[hd]at hu;cases hu)
       (λb X=>.inl ⟨g,.inl rfl,U,X⟩) (λb _ _=>rfl) (YY _) rfl rfl rfl
       (λi1 b N X hwr=>by cases N;exact h.wi g i b (by rw[K];rfl) X hwr) (λ_ hd=>by cases hd) (λhl=>?_) (λg' q=>by simp[O.names,dN]at q)
      .refine ⟨_,hm.1,hm.2,dU.Jr (.own d _ rfl λsz' len' T=>?_)⟩;rw[hod]at T;have T:zw (z,(l.take k).length)=zw (sz',len'):=T;cases T;have N:fZ gh d (gh g) d=gh g:=by simp[fZ]
       rw[N,VV,vo hkl]
      .show lT E st' _ w a i z au (l.take k) zz (gh g);rcases J with⟨q1,q2,q3,q4⟩|⟨ad,c,e',q1,q2,q3,q4,q5,q6,q7,q8⟩
       .exact .inl ⟨q1,q2,by rw[q3];simp,q4⟩
       .refine .inr ⟨ad,c,e',q1,q2,q3,q4,⟨by rw[VV];omega,q5.2⟩,λx M=>q6 x (Wl M),q7,λn x M j y hy=>?_⟩;rw[ZZ]at M;split at M
        .obtain ⟨v,hv,hr⟩:=q8 n x M j y hy;exact⟨v,hv,hl.Y4 (λb X=>rfl) (λg hg=>by simp[dN]at hg) hr⟩
        .cases M
     show∃v w' bU,Does Pg (execOp ρ o) w v w'/\Rel E (st.aJ [(d,.aO a i z au (P.list (P.sl z (l.take L.nat))) zz),(g,.none)] [d]) bU val w'/\_;rw[e0];obtain⟨bU,m1,m2,m3⟩:=Uw _ rfl;refine⟨_,w,bU,.inl Y,m1,?_,?_,λg' q=>?_⟩
     .show Lets E st (st.aJ [(d,.aO a i z au (P.list (P.sl z (l.take L.nat))) zz),(g,.none)] [d]) gh bU w w;rw[e0];exact m2
     .show dU E (st.aJ [(d,.aO a i z au (P.list (P.sl z (l.take L.nat))) zz),(g,.none)] [d]) bU w _ _;rw[e0];exact m3
     .have q:g'∈(S.v (.one (.own d))).names:=q;have:g'=d:=by simpa[S.names,V.names,W.names]using q
      subst this;simp[St.aJ]
    .cases H
   .cases H
  .cases H
 .cases H
theorem Ob(g:jv Pg tt)(op:Op):rY Pg tt r op:=by
 cases op with
 |load t x=>exact Ut g t x
 |store t x y=>exact QH g t x y
 |buildSlice t n H=>exact DZ g t n H
 |makeSlice t n c=>exact FM g t n c
 |slice t x lo J K=>exact QI g t x lo J K
 |call c=>
  obtain⟨callee,args,ts⟩:=c;cases callee with
  |builtin b=>
   cases b with
   |append=>exact Oa g args ts
   |_=>intro E st gh val w ρ F o d B q h z j m;simp[dY]at m
  |_=>intro E st gh val w ρ F o d B q h z j m;simp[dY]at m
 |_=>intro E st gh val w ρ F o d B q h z j m;simp[dY]at m
end
end Go.Fw

namespace Go.Fw
variable [fO]
def P.flat:P->Bool
 |.sl _ _=>zv
 |.seq _=>zv
 |_=>zj
theorem dH.flat{z:World}{ok c:Nat->Prop}{x:P}(d:x.flat=zj)(r:dH z ok x v):dH z c x v:=by
 cases r with
 |int k n=>exact .int k n
 |bool b=>exact .bool b
 |str s=>exact .str s
 |opq v h=>exact .opq v h
 |_=>cases d
inductive Ww(C:Bool->Bool->Bool->Bool->Prop)(m:Nat->Option Nat)(nil:Nat->Prop):W->W->Prop where
 |no (x:W):Ww C m nil x .no
 |p {a i a' i':Bool} (x:P) (hc:C a i a' i'):Ww C m nil (.p a i x) (.p a' i' x)
 |flat {a i a' i':Bool} (x:P) (hx:x.flat=zj):Ww C m nil (.p a i x) (.p a' i' x)
 |dD:Ww C m nil .dD .dD
 |amJ (a i:Bool) (sz:Nat):Ww C m nil .dD (.p a i (.sl sz []))
 |apN {g':Nat} (h:m g'=zz) (hn:nil g'):Ww C m nil .dD (.own g')
 |own {g g':Nat} (h:m g'=zw g):Ww C m nil (.own g) (.own g')
 |vw {g g':Nat} (lo hi:P) (h:m g'=zw g):Ww C m nil (.vw g lo hi) (.vw g' lo hi)
 |box {g g' off:Nat} (h:m g'=zw g):Ww C m nil (.box g off) (.box g' off)
 |ep {g g':Nat} (n:P) (off:Nat) (h:m g'=zw g):Ww C m nil (.ep g n off) (.ep g' n off)
 |oI {g g':Nat} (h:m g'=zw g):Ww C m nil (.oI g) (.oI g')
 |sp {a i a' i':Bool} (row:List P) (off:Nat) (hc:C a i a' i'):Ww C m nil (.sp a i row off) (.sp a' i' row off)
 |gd (b:Bool) {x y:W} (h:Ww C m nil x y):Ww C m nil (.gd b x) (.gd b y)
 |clo (f:FuncId) (xs ys:List W) (hl:xs.length=ys.length) (h :∀(j:Nat) x y,xs[j]?=zw x->ys[j]?=zw y->Ww C m nil x y):Ww C m nil (.clo f xs) (.clo f ys)
inductive Vw(C:Bool->Bool->Bool->Bool->Prop)(m:Nat->Option Nat)(nil:Nat->Prop):V->V->Prop where
 |one {x y:W} (h:Ww C m nil x y):Vw C m nil (.one x) (.one y)
 |agg (xs ys:List W) (hl:xs.length=ys.length) (h :∀(j:Nat) x y,xs[j]?=zw x->ys[j]?=zw y->Ww C m nil x y):Vw C m nil (.agg xs) (.agg ys)
inductive Sw(C:Bool->Bool->Bool->Bool->Prop)(m:Nat->Option Nat)(nil:Nat->Prop):S->S->Prop where
 |no (x:S):Sw C m nil x .no
 |v {x y:V} (h:Vw C m nil x y):Sw C m nil (.v x) (.v y)
 |jy (xs ys:List V) (hl:xs.length=ys.length) (h :∀(j:Nat) x y,xs[j]?=zw x->ys[j]?=zw y->Vw C m nil x y):Sw C m nil (.jy xs) (.jy ys)
inductive Ow(C:Bool->Bool->Bool->Bool->Prop)(m:Nat->Option Nat)(nil:Nat->Prop):O->O->Prop where
 |none (x:O):Ow C m nil x .none
 |box (xs ys:List W) (hl:xs.length=ys.length) (h :∀(j:Nat) x y,xs[j]?=zw x->ys[j]?=zw y->Ww C m nil x y):Ow C m nil (.box xs) (.box ys)
 |arr (fz:Bool) {a i a' i':Bool} (sz:Nat) (l:List (List P)) (hc:C a i a' i'):Ow C m nil (.arr fz a i sz l) (.arr fz a' i' sz l)
 |aO {a i a' i':Bool} (sz:Nat) (au:List (Nat×Nat)) (l:List (List P)) (hc:C a i a' i'):Ow C m nil (.aO a i sz au l Option.none) (.aO a' i' sz au l Option.none)
 |it (s n:P):Ow C m nil (.it s n) (.it s n)
def O.nilA(o:O):Prop:=(∃a i b,o=.arr zv a i b [])\/∃a i b c,o=.aO a i b c [] Option.none
variable{C:Bool->Bool->Bool->Bool->Prop}{m:Nat->Option Nat}{x y:O}
theorem Ow.dim{nil:Nat->Prop}(h:Ow C m nil x y){d:Nat×Nat}(hd:y.dim=zw d):x.dim=zw d:=by
 cases h with
 |none=>cases hd
 |box=>cases hd
 |arr=>exact hd
 |aO=>exact hd
 |it=>cases hd
theorem Ow.cO{nil:Nat->Prop}(h:Ow C m nil x y)(b:y.cO=zj):x.cO=zj/\x.pz=y.pz:=by
 cases h with
 |none=>cases b
 |box=>exact⟨rfl,rfl⟩
 |arr=>exact⟨b,rfl⟩
 |aO=>exact⟨rfl,rfl⟩
 |it=>exact⟨rfl,rfl⟩
theorem Ow.inner{nil:Nat->Prop}(h:Ow C m nil x y)(b:y.inner=zw i):∃g a d,C g d a i/\x.inner=zw d:=by
 cases h with
 |none=>cases b
 |box=>cases b
 |arr j q l c=>
  cases j with
  |false=>cases b;exact⟨_,_,_,c,rfl⟩
  |true=>cases b
 |aO q z l c=>cases b;exact⟨_,_,_,c,rfl⟩
 |it=>cases b
structure Cast(C:Bool->Bool->Bool->Bool->Prop)(m:Nat->Option Nat)(nil:Nat->Prop)(E E':Env)(st st':St)(gh bU:Nat->Gh)(w:World):Prop where
 ok :∀a i a' i' b,C a i a' i'->E.ok st gh w a i b->E'.ok st' bU w a' i' b
 arr :∀g g',m g'=zw g->∀sz len,(st'.o g').dim=zw (sz,len)->((bU g').ad=(gh g).ad/\(bU g').cap=(gh g).cap)/\(st.o g).dim=zw (sz,len)
 box :∀g g',m g'=zw g->∀ws,st'.o g'=.box ws->(bU g').ad=(gh g).ad/\∃ws',st.o g=.box ws'
 it :∀g g',m g'=zw g->∀s n,st'.o g'=.it s n->(bU g').ad=(gh g).ad/\∃s' n',st.o g=.it s' n'
 nil :∀g',nil g'->m g'=zz->∀sz len,(st'.o g').dim=zw (sz,len)->len=0/\(bU g').ad=zz/\(bU g').cap=0
section
variable {C:Bool->Bool->Bool->Bool->Prop} {E E':Env} {st st':St} {gh bU:Nat->Gh} {w:World} {val:Nat->Value} {m:Nat->Option Nat} {nil:Nat->Prop}
theorem Cast.lU(r:Cast C m nil E E' st st' gh bU w)(g:C i a H u){x:P}(h:dH w (E.ok st gh w i a) x v):dH w (E'.ok st' bU w H u) x v:=h.mono λb j=>⟨r.ok _ _ _ _ b g j,rfl⟩
theorem Cast.BM(r:Cast C m nil E E' st st' gh bU w){x y:W}(z:Ww C m nil x y)(h:f_ E st gh w x v):f_ E' st' bU w y v:=by
 induction z generalizing v with
 |no x=>exact .no v
 |p x H=>cases h with|p _ _ _ _ h=>exact .p _ _ _ _ (r.lU H h)
 |flat x c=>cases h with|p _ _ _ _ h=>exact .p _ _ _ _ (h.flat c)
 |dD=>cases h;exact .dD
 |amJ a i J=>cases h;exact .p _ _ _ _ (.nil _ _ _)
 |apN d hn=>cases h;refine .own _ _ rfl λJ len g=>?_;obtain⟨N,T,U⟩:=r.nil _ hn d _ _ g;rw[N,T,U]
 |own d=>
  cases h with|own _ _ q c=>
  refine .own _ _ q λJ len g=>?_;obtain⟨hg,e⟩:=r.arr _ _ d _ _ g;rw[hg.1,hg.2];exact c _ _ e
 |vw lo hi d=>
  cases h with|vw _ _ _ _ q c=>
  refine .vw _ _ _ _ q λJ len g=>?_;obtain⟨hg,e⟩:=r.arr _ _ d _ _ g;rw[hg.1,hg.2];exact c _ _ e
 |box d=>
  cases h with|box _ _ _ q c=>
  refine .box _ _ _ q λws g=>?_;obtain⟨hg,X,e⟩:=r.box _ _ d _ g;rw[hg];exact c _ e
 |ep n off d=>
  cases h with|ep _ _ _ _ q c=>
  refine .ep _ _ _ _ q λJ len g=>?_;obtain⟨hg,e⟩:=r.arr _ _ d _ _ g;rw[hg.1];exact c _ _ e
 |oI d=>
  cases h with|oI _ _ q c=>
  refine .oI _ _ q λs n g=>?_;obtain⟨hg,s',n',e⟩:=r.it _ _ d _ _ g;rw[hg];exact c _ _ e
 |sp row off H=>cases h with|sp _ _ _ _ b o K Y=>exact .sp _ _ _ _ b o (λZ=>r.ok _ _ _ _ b H (K Z)) λj y hj=>let ⟨u,hu,Uo⟩:=Y j y hj;⟨u,hu,r.lU H Uo⟩
 |gd b z L=>cases h with|gd _ _ _ h=>exact .gd _ _ _ λK=>L (h K)
 |clo f xs ys hl z L=>
  cases h with|clo _ _ vs hl' h=>
  exact .clo f ys vs (by omega) λj y v M q=>by
   have B:j<xs.length:=by have:=(Q3.1 M).1;omega
   exact L j _ y (Q2 B) M (h j _ v (Q2 B) q)
theorem Cast.abD(r:Cast C m nil E E' st st' gh bU w){x y:V}(b:Vw C m nil x y)(h:sV E st gh w x v):sV E' st' bU w y v:=by
 cases b with
 |one b=>cases h with|one _ _ h=>exact .one _ _ (r.BM b h)
 |agg xs q H b=>
  cases h with|agg _ z B d h=>
  exact .agg q z (by omega) d λj y v g d=>by
   have c:j<xs.length:=by have:=(Q3.1 g).1;omega
   exact r.BM (b j _ y (Q2 c) g) (h j _ v (Q2 c) d)
theorem Cast.aii(r:Cast C m nil E E' st st' gh bU w){y x:S}(b:Sw C m nil y x)(h:dU E st gh w y v):dU E' st' bU w x v:=by
 cases b with
 |no y=>exact .no v
 |v b=>cases h with|v _ _ h=>exact .v _ _ (r.abD b h)
 |jy xs g B b=>
  cases h with|jy _ vs q h=>
  exact .jy g vs (by omega) λj x v d z=>by
   have c:j<xs.length:=by have:=(Q3.1 d).1;omega
   exact r.abD (b j _ x (Q2 c) d) (h j _ v (Q2 c) z)
theorem Cast.Dz(r:Cast C m nil E E' st st' gh bU w)(g:Ow C m nil x y){G:Gh}(h:nG E st gh w x G):nG E' st' bU w y G:=by
 cases g with
 |none x=>trivial
 |box xs ys hl g=>
  obtain⟨ad,c,e,q,z,B,K,H⟩:=h;refine⟨ad,c,e,q,z,B,by omega,λj y d=>?_⟩;have L:j<xs.length:=by have:=(Q3.1 d).1;omega
  obtain⟨v,J,ho,b⟩:=H j _ (Q2 L);exact⟨v,J,ho,r.BM (g j _ y (Q2 L) d) b⟩
 |arr fz sz l M=>
  cases fz with
  |false=>rcases h with Y|⟨ad,c,e,q,z,B,K,H,N,T⟩;exact .inl Y;exact .inr ⟨ad,c,e,q,z,B,K,H,N,λn x U j y d=>let ⟨v,J,b⟩:=T n x U j y d;⟨v,J,r.lU M b⟩⟩
  |true=>exact r.lU M h
 |aO sz au l M=>
  rcases h with Y|⟨ad,c,e,q,z,B,K,H,N,T,h8⟩;exact .inl Y;refine .inr ⟨ad,c,e,q,z,B,K,H,N,T,λn x U j y d=>?_⟩;obtain⟨v,J,b⟩:=h8 n x U j y d;refine⟨v,J,?_⟩;unfold jr at *;cases X:au.lookup j with
  |none=>rw[X]at b;exact r.lU M b
  |some sz'=>rw[X]at b;simp only[iT]at *;obtain⟨l',ao,k,k1,k2,Z,k4⟩:=b;refine⟨l',ao,k,k1,k2,?_,k4⟩;rcases Z with Z|⟨ad,c,e,q,z,B,K,H,N,T⟩;exact .inl Z;exact .inr ⟨ad,c,e,q,z,B,K,H,N,λn x U j y d=>let ⟨v,J,b⟩:=T n x U j y d;⟨v,J,r.lU M b⟩⟩
 |it s n=>exact h
end
def Cle(a i a' i':Bool):Prop:=(a=zj->a'=zj)/\(i=zj->i'=zj)
structure uK(C:Bool->Bool->Bool->Bool->Prop)(m:Nat->Option Nat)(st st':St):Prop where
 slots :∀t,Sw C m (λg=>(st'.o g).nilA) (st.s t) (st'.s t)
 bI :∀g' g,m g'=zw g->Ow C m (λg=>(st'.o g).nilA) (st.o g) (st'.o g')
 aY :∀g',m g'=zz->st'.o g'=.none\/(st'.o g').nilA
 inj :∀g1 g2 g,(st'.o g1).cO=zj->(st'.o g2).cO=zj->m g1=zw g->m g2=zw g->g1=g2
 us :∀t,∀g∈(st'.s t).names,st'.used g=zj
 uo :∀g,∀g'∈(st'.o g).names,st'.used g'=zj
 ul :∀g,st'.o g≠.none->st'.used g=zj
section
variable {C:Bool->Bool->Bool->Bool->Prop} {E E':Env} {st st':St} {gh:Nat->Gh} {w:World} {val:Nat->Value} {m:Nat->Option Nat}
def kP(gh:Nat->Gh)(m:Nat->Option Nat):Nat->Gh:=λg'=>match m g' with
 |some g=>gh g
 |none=>Gh.nil
theorem uK.cO(r:uK C m st st'){g':Nat}(h:(st'.o g').cO=zj)(c:(kP gh m g').has d):∃g,m g'=zw g/\(st.o g).cO=zj/\(gh g).has d:=by
 unfold kP at c;cases b:m g' with
 |none=>rw[b]at c;exact(Gh.not_nil c).elim
 |some g=>rw[b]at c;exact⟨g,rfl,((r.bI g' g b).cO h).1,c⟩
theorem uK.cast(r:uK C m st st')(q :∀a i h j b,C a i h j->E.ok st gh w a i b->E'.ok st' (kP gh m) w h j b):
  Cast C m (λg=>(st'.o g).nilA) E E' st st' gh (kP gh m) w:=by
 refine⟨q,λg g' c z len d=>⟨by simp[kP,c],(r.bI g' g c).dim d⟩,λg g' c B d=>⟨by simp[kP,c],?_⟩,λg g' c s n d=>⟨by simp[kP,c],?_⟩,λg' hn c z len d=>⟨?_,by simp[kP,c,Gh.nil],by simp[kP,c,Gh.nil]⟩⟩
 .have:=r.bI g' g c;rw[d]at this;generalize st.o g=x at this;cases this;exact⟨_,rfl⟩
 .have:=r.bI g' g c;rw[d]at this;generalize st.o g=x at this;cases this;exact⟨_,_,rfl⟩
 .rcases hn with⟨h,j,y,hn⟩|⟨h,j,y,H,hn⟩
  .rw [hn]at d;cases d;rfl
  .rw [hn]at d;cases d;rfl
theorem uK.ok(r:uK Cle m st st'):∀a i c d b,Cle a i c d->E.ok st gh w a i b->E.ok st' (kP gh m) w c d b:=by intro a i c d b q h;have:=Env.qC q.1 q.2 h;refine⟨this.1,this.2.1,λg' y j=>?_⟩;obtain⟨g,_,z,B⟩:=r.cO y j;exact h.2.2 g z B
theorem uK.Dz(r:uK C m st st')(c:Cast C m (λg=>(st'.o g).nilA) E E' st st' gh (kP gh m) w)(h :∀g,nG E st gh w (st.o g) (gh g))(g':Nat):nG E' st' (kP gh m) w (st'.o g') (kP gh m g'):=by
 cases d:m g' with
 |none=>
  rcases r.aY g' d with e|⟨a,i,j,e⟩|⟨a,i,j,q,e⟩
  .rw [e];trivial
  .rw [e];exact .inl ⟨by simp[kP,d,Gh.nil],by simp[kP,d,Gh.nil],rfl⟩
  .rw [e];exact .inl ⟨by simp[kP,d,Gh.nil],by simp[kP,d,Gh.nil],rfl,λb=>by simp[kP,d,Gh.nil]⟩
 |some g=>
  have hg:kP gh m g'=gh g:=by simp[kP,d]
  rw[hg];exact c.Dz (r.bI g' g d) (h g)
theorem Rel.aeo(h:Rel E st gh val w)(r:uK Cle m st st'):Rel E st' (kP gh m) val w:=by
 have c:=r.cast (E:=E) (E':=E) (gh:=gh) (w:=w) r.ok;refine⟨λt=>c.aii (r.slots t) (h.slots t),r.Dz c h.bI,λg1 g2 b z j H J=>?_,λg' b y d=>?_,λg' i b y d K=>?_,λg' y hd b=>?_,h.wb,h.frame,h.size,h.os,h.tape,h.output,r.us,r.uo,r.ul⟩
 .obtain ⟨q1,L,M,d1⟩:=r.cO z H;obtain⟨q2,N,T,d2⟩:=r.cO j J;have:=h.inj q1 q2 b M T d1 d2;subst this;exact r.inj g1 g2 q1 z j L N
 .obtain ⟨g,_,z,j⟩:=r.cO y d;exact h.wr g b z j
 .obtain ⟨g,B,z,j⟩:=r.cO (gh:=gh) (g':=g') (O.lW y) d;obtain⟨Y,a,U,X,q⟩:=(r.bI g' g B).inner y;exact X.2 (h.wi g U b q j K)
 .cases B:m g' with
  |none=>simp[kP,B,Gh.nil]
  |some g=>
   have hg:kP gh m g'=gh g:=by simp[kP,B]
   rw[hg];obtain⟨q1,q2⟩:=(r.bI g' g B).cO y;exact h.ns g q1 (by rw[q2];exact hd) b
end
end Go.Fw

namespace Go.Fw
variable [fO]
inductive WS where
 |p (a i:Bool)
 |dD
 |own (g:Nat)
 |box (g off:Nat)
 |fn (f:FuncId) (gs:List Nat)
 |oI (g:Nat)
 |no
 |vw (g:Nat)
 |ep (g off:Nat)
inductive SS where
 |one (x:WS)
 |agg (xs:List WS)
inductive OS where
 |box (ws:List WS)
 |arr (fz a i:Bool) (sz:Nat)
 |it
 |aO (a i:Bool) (sz:Nat) (au:List (Nat×Nat))
structure Shape where
 slots:List (Nat×SS)
 bI:List (Nat×OS)
abbrev Ren:=List (Nat×Option Nat)
def imp(a b:Bool):Bool:=!a||b
def nodupB:List Nat->Bool
 | []=>zj
 |x::xs=>!xs.contains x&&nodupB xs
def uM(m:Ren):List Nat->List W->Bool
 | [],[]=>zj
 |g'::gs,.box g off::b=>decide (m.lookup g'=zw (zw g))&&(Nat.beq off 0&&uM m gs b)
 |_,_=>zv
def iC:List Nat->List W
 | []=>[]
 |g::gs=>.box g 0::iC gs
def NQ(m:Ren):WS->W->Option (List P)
 |.p a i,.p d h x=>if((imp d a&&imp h i)||x.flat)=zj then zw [x]else zz
 |.p _ _,.dD=>zw [.sl 0 []]
 |.dD,.dD=>zw []
 |.own g',.own g=>if m.lookup g'=zw (zw g)then zw []else zz
 |.own g',.dD=>if m.lookup g'=zw zz then zw []else zz
 |.box g' off,.box g b=>if m.lookup g'=zw (zw g)/\off=b then zw []else zz
 |.fn f gs,.clo j c=>if f=j/\uM m gs c=zj then zw []else zz
 |.oI g',.oI g=>if m.lookup g'=zw (zw g)then zw []else zz
 |.no,_=>zw []
 |.vw g',.vw g lo q=>if m.lookup g'=zw (zw g)then zw [lo,q]else zz
 |.ep g' off,.ep g n b=>if m.lookup g'=zw (zw g)/\off=b then zw [n]else zz
 |_,_=>zz
def Oc(m:Ren):List WS->List W->Option (List P)
 | [],[]=>zw []
 |k::b,x::xs=>match NQ m k x,Oc m b xs with
  |some u,zw v=>zw (u++v)
  |_,_=>zz
 |_,_=>zz
def coS(m:Ren):SS->S->Option (List P)
 |.one k,.v (.one x)=>NQ m k x
 |.agg b,.v (.agg xs)=>Oc m b xs
 |_,_=>zz
def coO(m:Ren):OS->O->Option (List P)
 |.box j,.box xs=>Oc m j xs
 |.arr q a i c,.arr d g h b l=>if q=d/\c=b/\(imp g a&&imp h i)=zj then zw [P.gV c l]else zz
 |.it,.it s n=>zw [s,n]
 |.aO a i c w,.aO g h b y l Option.none=>if c=b/\w=y/\(imp g a&&imp h i)=zj then zw [P.gV c l]else zz
 |_,_=>zz
def tH(m:Ren)(s:Nat->S):List (Nat×SS)->Option (List P)
 | []=>zw []
 |(t,k)::rest=>match coS m k (s t),tH m s rest with
  |some u,zw v=>zw (u++v)
  |_,_=>zz
def xw(m:Ren)(o:Nat->O):List (Nat×OS)->Option (List P)
 | []=>zw []
 |(g',k)::rest=>match (match m.lookup g' with
   |some (zw g)=>coO m k (o g)
   |some zz=>(match k with
    |.arr zv _ _ _=>zw [.sl 0 []]
    |.aO _ _ _ _=>zw [.sl 0 []]
    |_=>zz)
   |none=>zz),xw m o rest with
  |some u,zw v=>zw (u++v)
  |_,_=>zz
def WS.names:WS->List Nat
 |.own g|.box g _|.oI g|.vw g|.ep g _=>[g]
 |.fn _ gs=>gs
 |_=>[]
def SS.names:SS->List Nat
 |.one x=>x.names
 |.agg xs=>xs.flatMap WS.names
def OS.names:OS->List Nat
 |.box b=>b.flatMap WS.names
 |_=>[]
def Shape.nms(j:Shape):List Nat:=j.bI.map (·.1)
def Shape.ok(j:Shape):Bool:=nodupB j.nms&&j.slots.all (λp=>p.2.names.all λg=>j.nms.contains g)&&j.bI.all (λp=>p.2.names.all λg=>j.nms.contains g)
def alb(j:Shape)(m:Ren):Bool:=nodupB (j.nms.filterMap λg=>(m.lookup g).join)
def coerce(j:Shape)(m:Ren)(st:St):Option (List P):=
 if(j.ok&&alb j m)=zj then match tH m st.s j.slots,xw m st.o j.bI with
  |some u,zw v=>zw (u++v)
  |_,_=>zz
 else zz
def rE(vs:List P)(n:Nat):WS->W×Nat
 |.p a i=>(.p a i (vs.getD n default),n+1)
 |.dD=>(.dD,n)
 |.own g=>(.own g,n)
 |.box g off=>(.box g off,n)
 |.fn f gs=>(.clo f (iC gs),n)
 |.oI g=>(.oI g,n)
 |.no=>(.no,n)
 |.vw g=>(.vw g (vs.getD n default) (vs.getD (n+1) default),n+2)
 |.ep g off=>(.ep g (vs.getD n default) off,n+1)
def lY(vs:List P):Nat->List WS->List W×Nat
 |n,[]=>([],n)
 |n,k::b=>((rE vs n k).1::(lY vs (rE vs n k).2 b).1,(lY vs (rE vs n k).2 b).2)
def mkS(vs:List P)(n:Nat):SS->S×Nat
 |.one k=>(.v (.one (rE vs n k).1),(rE vs n k).2)
 |.agg b=>(.v (.agg (lY vs n b).1),(lY vs n b).2)
def vG(vs:List P)(n:Nat):OS->O×Nat
 |.box c=>(.box (lY vs n c).1,(lY vs n c).2)
 |.arr d a i b=>(.arr d a i b (vs.getD n default).list,n+1)
 |.it=>(.it (vs.getD n default) (vs.getD (n+1) default),n+2)
 |.aO a i b g=>(.aO a i b g (vs.getD n default).list Option.none,n+1)
def dV(vs:List P):Nat->List (Nat×SS)->List (Nat×S)×Nat
 |n,[]=>([],n)
 |n,(t,k)::rest=>((t,(mkS vs n k).1)::(dV vs (mkS vs n k).2 rest).1,(dV vs (mkS vs n k).2 rest).2)
def iD(vs:List P):Nat->List (Nat×OS)->List (Nat×O)×Nat
 |n,[]=>([],n)
 |n,(g,k)::rest=>((g,(vG vs n k).1)::(iD vs (vG vs n k).2 rest).1,(iD vs (vG vs n k).2 rest).2)
def mk(j:Shape)(vs:List P):St:=
 { s:=λt=>match (dV vs 0 j.slots).1.lookup t with|some x=>x|none=>.no,o:=λg=>match (iD vs (dV vs 0 j.slots).2 j.bI).1.lookup g with|some x=>x|none=>.none,used:=λg=>j.nms.contains g }
def KG(j:Shape)(m:Ren)(g':Nat):Option Nat:=if j.nms.contains g' then(m.lookup g').join else zz
def At(vs:List P)(n:Nat)(us:List P):Prop :=∀k y,us[k]?=zw y->vs[n+k]?=zw y
variable{vs:List P}
theorem At.left{us1 us2:List P}(h:At vs n (us1++us2)):At vs n us1:=λk y b=>h k y (by rw[Wf (Q3.1 b).1];exact b)
theorem At.right{us1 us2:List P}(h:At vs n (us1++us2)):At vs (n+us1.length) us2:=λk y b=>by have:=h (us1.length+k) y (by rw[Wc (by omega),qS];exact b);rw[<-this];congr 1;omega
theorem At.head{x:P}(h:At vs n [x]):vs.getD n default=x:=by have:=h 0 x rfl;rw[Q1];rw[Jn]at this;rw[this];rfl
theorem vH(h:imp i a=zj):i=zj->a=zj:=by cases i<;>cases a<;>simp_all [imp]
section
variable {vs:List P} {m:Ren} {F:Nat->Option Nat} {nil:Nat->Prop}
theorem xA:∀(gs:List Nat),(iC gs).flatMap W.names=gs
 | []=>rfl
 |g::gs=>by simp[iC,W.names,xA gs]
theorem vI(f:FuncId)(caps:List W):(W.clo f caps).names=caps.flatMap W.names:=by
 have :∀(l:List W) (q :∀x∈l,x∈caps),(l.attach.flatMap λ(x:{x // x∈l})=>x.1.names)=l.flatMap W.names:=λl _=>by rw[List.flatMap_def,List.flatMap_def,List.map_attach_eq_pmap,List.pmap_eq_map]
 rw[W.names];exact this caps λx b=>b
theorem OO:∀{gs:List Nat} {caps:List W},(∀g∈gs,F g=(m.lookup g).join)->uM m gs caps=zj->caps.length=(iC gs).length/\∀(j:Nat) x y,caps[j]?=zw x->(iC gs)[j]?=zw y->Ww Cle F nil x y
 | [],[],_,_=>⟨rfl,λj x y b=>by simp at b⟩
 | [],_::_,_,h=>by simp[uM]at h
 |_::_,[],_,h=>by simp[uM]at h
 |g'::gs,c::K,w,h=>by
  cases c with
  |box g off=>
   simp only[uM,QR,Wa]at h;obtain⟨z,q,B⟩:=h;have q:=Q6 q;subst q;obtain⟨H,J⟩:=OO (λg hg=>w g (by simp[hg])) B;refine⟨by simp[iC,H],λj x y b d=>?_⟩;cases j with
   |zero=>simp[iC]at b d;subst b d;exact .box (by rw[w g' (by simp),z];rfl)
   |succ j=>simp[iC]at b d;exact J j x y b d
  |_=>simp[uM]at h
theorem aer{k:WS}{us:List P}(b :∀g∈k.names,F g=(m.lookup g).join)(c :∀g∈k.names,m.lookup g=zw zz->nil g)(h:NQ m k x=zw us)(d:At vs n us):
  Ww Cle F nil x (rE vs n k).1/\(rE vs n k).2=n+us.length/\(rE vs n k).1.names=k.names:=by
 cases k with
 |p a i=>
  cases x with
  |p L M y=>
   simp only[NQ]at h;split at h
   rotate_left
   cases h;rename_i hc;cases h;simp only[Kb,QR]at hc;refine⟨?_,rfl,by simp[rE,W.names,WS.names]⟩;simp only[rE,d.head];rcases hc with hc|hc
   .exact .p y ⟨vH hc.1,vH hc.2⟩
   .exact .flat y hc
  |dD=>simp only[NQ,Q0]at h;subst h;refine⟨?_,rfl,by simp[rE,W.names,WS.names]⟩;simp only[rE,d.head];exact .amJ _ _ _
  |_=>simp[NQ]at h
 |dD=>cases x<;>simp[NQ]at h;subst h;exact⟨.dD,rfl,by simp[rE,W.names,WS.names]⟩
 |own g'=>
  cases x with
  |own g=>
   simp only[NQ]at h;split at h
   .rename_i hc;cases h;exact⟨.own (by rw[b g' (by simp[WS.names]),hc];rfl),rfl,by simp[rE,W.names,WS.names]⟩
   .cases h
  |dD=>
   simp only[NQ]at h;split at h
   .rename_i hc;cases h;exact⟨.apN (by rw[b g' (by simp[WS.names]),hc];rfl) (c g' (by simp[WS.names]) hc),rfl,by simp[rE,W.names,WS.names]⟩
   .cases h
  |_=>simp[NQ]at h
 |box g' off=>
  cases x with
  |box g j=>
   simp only[NQ]at h;split at h
   .rename_i hc;cases h;obtain⟨hc,rfl⟩:=hc;exact⟨.box (by rw[b g' (by simp[WS.names]),hc];rfl),rfl,by simp[rE,W.names,WS.names]⟩
   .cases h
  |_=>simp[NQ]at h
 |fn f gs=>
  cases x with
  |clo N w=>
   simp only[NQ]at h;split at h
   .rename_i hc;cases h;obtain⟨rfl,hc⟩:=hc;obtain⟨B,H⟩:=OO (nil:=nil) b hc;exact⟨.clo f w (iC gs) B H,rfl,by simp only[rE,vI,xA,WS.names]⟩
   .cases h
  |_=>simp[NQ]at h
 |oI g'=>
  cases x with
  |oI g=>
   simp only[NQ]at h;split at h
   .rename_i hc;cases h;exact⟨.oI (by rw[b g' (by simp[WS.names]),hc];rfl),rfl,by simp[rE,W.names,WS.names]⟩
   .cases h
  |_=>simp[NQ]at h
 |no=>simp[NQ]at h;subst h;exact⟨.no _,rfl,by simp[rE,W.names,WS.names]⟩
 |vw g'=>
  cases x with
  |vw g lo z=>
   simp only[NQ]at h;split at h
   rotate_left
   cases h;rename_i hc;cases h;have J:vs.getD n default=lo:=At.head (At.left (us1:=[lo]) (us2:=[z]) d);have K:vs.getD (n+1) default=z:=At.head (At.right (us1:=[lo]) (us2:=[z]) d);refine⟨?_,rfl,by simp[rE,W.names,WS.names]⟩;simp only[rE,J,K];exact .vw lo z (by rw[b g' (by simp[WS.names]),hc];rfl)
  |_=>simp[NQ]at h
 |ep g' off=>
  cases x with
  |ep g q j=>
   simp only[NQ]at h;split at h
   .rename_i hc;cases h;obtain⟨hc,rfl⟩:=hc;refine⟨?_,rfl,by simp[rE,W.names,WS.names]⟩;simp only[rE,d.head];exact .ep q off (by rw[b g' (by simp[WS.names]),hc];rfl)
   .cases h
  |_=>simp[NQ]at h
theorem QJ:∀{b:List WS} {xs:List W} {us:List P} {n:Nat},(∀k∈b,∀g∈k.names,F g=(m.lookup g).join)->(∀k∈b,∀g∈k.names,m.lookup g=zw zz->nil g)->Oc m b xs=zw us->At vs n us->
  xs.length=(lY vs n b).1.length/\(∀(j:Nat) x y,xs[j]?=zw x->(lY vs n b).1[j]?=zw y->Ww Cle F nil x y)/\(lY vs n b).2=n+us.length/\(lY vs n b).1.flatMap W.names=b.flatMap WS.names
 | [],xs,us,n,w,hn,h,z=>by
  cases xs with
  |nil=>simp[Oc]at h;subst h;exact⟨rfl,λj x y c=>by simp at c,rfl,rfl⟩
  |cons x xs=>simp[Oc]at h
 |k::b,xs,us,n,w,hn,h,z=>by
  cases xs with
  |nil=>simp[Oc]at h
  |cons x xs=>
   simp only[Oc]at h;split at h
   rotate_left
   cases h;rename_i u v hu H;cases h;obtain⟨J,a2,a3⟩:=aer (w k (by simp)) (hn k (by simp)) hu z.left;have d:=QJ (n:=n+u.length) (λk B=>w k (by simp[B])) (λk B=>hn k (by simp[B])) H z.right;simp only[lY,a2];refine⟨by simp[d.1],λj K L c q=>?_,by rw[d.2.2.1];simp;omega,by simp[a3,d.2.2.2]⟩;cases j with
   |zero=>simp at c q;subst c q;exact J
   |succ j=>simp at c q;exact d.2.1 j K L c q
theorem amK{k:SS}{us:List P}(j :∀g∈k.names,F g=(m.lookup g).join)(b :∀g∈k.names,m.lookup g=zw zz->nil g)(h:coS m k y=zw us)(q:At vs n us):
  Sw Cle F nil y (mkS vs n k).1/\(mkS vs n k).2=n+us.length/\(mkS vs n k).1.names=k.names:=by
 cases k with
 |one k=>
  cases y with
  |v y=>
   cases y with
   |one y=>obtain⟨c,a2,a3⟩:=aer j b h q;exact⟨.v (.one c),a2,by simpa[mkS,S.names,V.names,SS.names]using a3⟩
   |agg xs=>simp[coS]at h
  |_=>simp[coS]at h
 |agg w=>
  cases y with
  |v y=>
   cases y with
   |one y=>simp[coS]at h
   |agg xs=>obtain⟨a0,c,a2,a3⟩:=QJ (λk d g hg=>j g (by simp only[SS.names,Z2];exact⟨k,d,hg⟩)) (λk d g hg=>b g (by simp only[SS.names,Z2];exact⟨k,d,hg⟩)) h q;exact⟨.v (.agg _ _ a0 c),a2,by simpa[mkS,S.names,V.names,SS.names]using a3⟩
  |_=>simp[coS]at h
theorem KH{s:Nat->S}:∀{L:List (Nat×SS)} {us:List P} {n:Nat},(∀p∈L,∀g∈p.2.names,F g=(m.lookup g).join)->(∀p∈L,∀g∈p.2.names,m.lookup g=zw zz->nil g)->tH m s L=zw us->At vs n us->
  (∀t x,(dV vs n L).1.lookup t=zw x->Sw Cle F nil (s t) x/\∀g∈x.names,∃p∈L,g∈p.2.names)/\(dV vs n L).2=n+us.length
 | [],us,n,d,hn,h,j=>by simp[tH]at h;subst h;exact⟨λt x b=>by simp[dV]at b,rfl⟩
 |(t0,k)::L,us,n,d,hn,h,j=>by
  simp only[tH]at h;split at h
  rotate_left
  cases h;rename_i u v hu y;cases h;obtain⟨z,a2,a3⟩:=amK (d (t0,k) (by simp)) (hn (t0,k) (by simp)) hu j.left;have w:=KH (n:=n+u.length) (λp c=>d p (by simp[c])) (λp c=>hn p (by simp[c])) y j.right;simp only[dV,a2];refine⟨λt x b=>?_,by rw[w.2];simp;omega⟩;simp only[List.lookup]at b;split at b
  .rename_i q;have q:t=t0:=by simpa using q
   subst q;cases b;exact⟨z,λg hg=>⟨(t,k),by simp,by rw[a3]at hg;exact hg⟩⟩
  .obtain ⟨B,H⟩:=w.1 t x b;exact⟨B,λg hg=>let ⟨p,c,hg⟩:=H g hg;⟨p,by simp[c],hg⟩⟩
theorem amL{k:OS}{x:O}{us:List P}(B :∀g∈k.names,F g=(m.lookup g).join)(c :∀g∈k.names,m.lookup g=zw zz->nil g)(h:coO m k x=zw us)(d:At vs n us):
  Ow Cle F nil x (vG vs n k).1/\(vG vs n k).2=n+us.length/\(vG vs n k).1.names=k.names:=by
 cases k with
 |box X=>
  cases x with
  |box xs=>obtain⟨a0,H,a2,a3⟩:=QJ (λk w g hg=>B g (by simp only[OS.names,Z2];exact⟨k,w,hg⟩)) (λk w g hg=>c g (by simp only[OS.names,Z2];exact⟨k,w,hg⟩)) h d;exact⟨.box _ _ a0 H,a2,by simpa[vG,O.names,OS.names]using a3⟩
  |_=>simp[coO]at h
 |arr J a i y=>
  cases x with
  |arr K L M z l=>
   simp only[coO]at h;split at h
   rotate_left
   cases h;rename_i b;cases h;obtain⟨rfl,rfl,b⟩:=b;simp only[QR]at b;refine⟨?_,rfl,rfl⟩;simp only[vG,d.head,P.pF];exact .arr J y l ⟨vH b.1,vH b.2⟩
  |_=>simp[coO]at h
 |it=>
  cases x with
  |it s p=>simp only[coO,Q0]at h;subst h;refine⟨?_,rfl,rfl⟩;have N:vs.getD n default=s:=At.head (At.left (us1:=[s]) (us2:=[p]) d);have T:vs.getD (n+1) default=p:=At.head (At.right (us1:=[s]) (us2:=[p]) d);simp only[vG,N,T];exact .it s p
  |_=>simp[coO]at h
 |aO a i y U=>
  cases x with
  |aO L M z Y l j=>
   cases j with
   |some q=>simp[coO]at h
   |none=>
    simp only[coO]at h;split at h
    rotate_left
    cases h;rename_i b;cases h;obtain⟨rfl,rfl,b⟩:=b;simp only[QR]at b;refine⟨?_,rfl,rfl⟩;simp only[vG,d.head,P.pF];exact .aO y U l ⟨vH b.1,vH b.2⟩
  |_=>simp[coO]at h
end
theorem jS:∀{l:List Nat},nodupB l=zj->l.Nodup
 | [],_=>List.nodup_nil
 |x::l,h=>by simp only[nodupB,QR,V0,V2,decide_eq_false_iff_not]at h;exact K5.2 ⟨h.1,jS h.2⟩
theorem OQ{vs:List P}{m:Ren}{F:Nat->Option Nat}{nil:Nat->Prop}{o:Nat->O}:∀{L:List (Nat×OS)} {us:List P} {n:Nat},(∀p∈L,∀g∈p.2.names,F g=(m.lookup g).join)->(∀p∈L,∀g∈p.2.names,m.lookup g=zw zz->nil g)->
  (L.map (·.1)).Nodup->xw m o L=zw us->At vs n us->
  (∀g' x,(iD vs n L).1.lookup g'=zw x->(g'∈L.map (·.1))/\(∀g∈x.names,∃p∈L,g∈p.2.names)/\((∃g,m.lookup g'=zw (zw g)/\Ow Cle F nil (o g) x)\/(m.lookup g'=zw zz/\x.nilA)))/\
  (∀g'∈L.map (·.1),∃x,(iD vs n L).1.lookup g'=zw x)
 | [],us,n,q,hn,hd,h,d=>⟨λg x c=>by simp[iD]at c,λg hg=>by simp at hg⟩
 |(g0,k)::L,us,n,q,hn,hd,h,d=>by
  simp only[xw]at h;split at h
  rotate_left
  cases h;rename_i u v hu H;cases h;simp only[Qf,K5]at hd;have key:(vG vs n k).2=n+u.length/\(vG vs n k).1.names=k.names/\((∃g,m.lookup g0=zw (zw g)/\Ow Cle F nil (o g) (vG vs n k).1)\/(m.lookup g0=zw zz/\(vG vs n k).1.nilA)):=by
   split at hu
   .rename_i g hg;obtain⟨w,a2,a3⟩:=amL (q (g0,k) (by simp)) (hn (g0,k) (by simp)) hu d.left;exact⟨a2,a3,.inl ⟨g,hg,w⟩⟩
   .rename_i hg;split at hu
    .rename_i a i y;cases hu;refine⟨rfl,rfl,.inr ⟨hg,.inl ⟨a,i,y,?_⟩⟩⟩;simp only[vG,d.left.head];rfl
    .rename_i a i y J;cases hu;refine⟨rfl,rfl,.inr ⟨hg,.inr ⟨a,i,y,J,?_⟩⟩⟩;simp only[vG,d.left.head];rfl
    .cases hu
   .cases hu
  obtain⟨a2,a3,w⟩:=key;have B:=OQ (n:=n+u.length) (λp j=>q p (by simp[j])) (λp j=>hn p (by simp[j])) hd.2 H d.right;simp only[iD,a2];refine⟨λg' x c=>?_,λg' z=>?_⟩
  .simp only[List.lookup]at c;split at c
   .rename_i b;have b:g'=g0:=by simpa using b
    subst b;cases c;exact⟨by simp,λg hg=>⟨(g',k),by simp,by rw[a3]at hg;exact hg⟩,w⟩
   .obtain ⟨K,M,N⟩:=B.1 g' x c;exact⟨by simp[K],λg hg=>let ⟨p,j,hg⟩:=M g hg;⟨p,by simp[j],hg⟩,N⟩
  .simp only[List.lookup];by_cases b:g'=g0
   .subst b;simp
   .have:(g'==g0)=zv:=by simpa using b
    rw[this];exact B.2 g' (by simpa[b]using z)
theorem Bo{f:Nat->Option Nat}{g1 g2 g:Nat}:∀{L:List Nat},L.Nodup->(L.filterMap f).Nodup->g1∈L->g2∈L->f g1=zw g->f g2=zw g->g1=g2
 | [],_,_,h,_,_,_=>by cases h
 |y::L,d,b,h,w,j,q=>by
  simp only[K5]at d;simp only[List.filterMap_cons]at b;have c :∀{z},z∈L->f z=zw g->g∈L.filterMap f:=λB H=>qi.2 ⟨_,B,H⟩;rcases Xs.1 h with e1|e1<;>rcases Xs.1 w with e2|e2
  .rw [e1,e2]
  .subst e1;rw[j]at b;simp only[K5]at b;exact absurd (c e2 q) b.1
  .subst e2;rw[q]at b;simp only[K5]at b;exact absurd (c e1 j) b.1
  .refine Bo d.2 ?_ e1 e2 j q;split at b
   .exact b
   .exact (K5.1 b).2
theorem Bq{j:Shape}{m:Ren}{st:St}(h:coerce j m st=zw vs):uK Cle (KG j m) st (mk j vs):=by
 unfold coerce at h;split at h
 rotate_left
 cases h;rename_i T;split at h
 rotate_left
 cases h;rename_i u v hu hv;cases h;simp only[QR,Shape.ok,Z3,V2,Wa]at T;obtain⟨⟨⟨hnd,J⟩,K⟩,jl⟩:=T;have B:=jS hnd;have U:At (u++v) 0 (u++v):=λk y hk=>by rw[Vi];exact hk
 have L :∀g∈j.nms,KG j m g=(m.lookup g).join:=λg hg=>by simp[KG,hg]
 have Fq:=λnil (c :∀p∈j.bI,∀g∈p.2.names,m.lookup g=zw zz->nil g)=>OQ (vs:=u++v) (F:=KG j m) (nil:=nil) (n:=u.length) (λp w g hg=>L g (K p w g hg)) c B hv (by have:=U.right;rwa [Vi]at this)
 have rZ:=λnil (c :∀p∈j.slots,∀g∈p.2.names,m.lookup g=zw zz->nil g)=>KH (vs:=u++v) (F:=KG j m) (nil:=nil) (n:=0) (λp w g hg=>L g (J p w g hg)) c hu U.left;have H:(dV (u++v) 0 j.slots).2=u.length:=by have:=(rZ (λ_=>True) (λ_ _ _ _ _=>trivial)).2;omega
 have c :∀g∈j.nms,m.lookup g=zw zz->((mk j (u++v)).o g).nilA:=by
  intro g hg q;have z:=Fq (λ_=>True) (λ_ _ _ _ _=>trivial);obtain⟨x,d⟩:=z.2 g hg;rcases (z.1 g x d).2.2 with⟨g2,X,_⟩|⟨_,e⟩
  .rw [q]at X;cases X
  .show O.nilA (match (iD (u++v) (dV (u++v) 0 j.slots).2 j.bI).1.lookup g with|some x=>x|none=>.none);rw[H,d];exact e
 have z:=Fq (λg=>((mk j (u++v)).o g).nilA) (λp w g hg q=>c g (K p w g hg) q);have hS:=rZ (λg=>((mk j (u++v)).o g).nilA) (λp w g hg q=>c g (J p w g hg) q);have M :∀g x,(mk j (u++v)).o g=x->x≠.none->(iD (u++v) u.length j.bI).1.lookup g=zw x:=by
  intro g x d b;have d:(match (iD (u++v) (dV (u++v) 0 j.slots).2 j.bI).1.lookup g with|some x=>x|none=>.none)=x:=d;rw[H]at d;cases hz:(iD (u++v) u.length j.bI).1.lookup g with
  |none=>rw[hz]at d;exact absurd d.symm b
  |some y=>rw[hz]at d;rw[<-d]
 refine⟨λt=>?_,λg' g q=>?_,λg' q=>?_,λg1 g2 g h1 X m1 m2=>?_,λt g hg=>?_,λg0 g hg=>?_,λg hg=>?_⟩
 .show Sw _ _ _ (st.s t) (match (dV (u++v) 0 j.slots).1.lookup t with|some x=>x|none=>.no);cases d:(dV (u++v) 0 j.slots).1.lookup t with
  |none=>exact .no _
  |some x=>exact(hS.1 t x d).1
 .by_cases b:(mk j (u++v)).o g'=.none
  .rw [b];exact .none _
  .have d:=M g' _ rfl b;obtain⟨Y,b1,Z⟩:=z.1 g' _ d;rw[L g' Y]at q;rcases Z with⟨g3,N,h4⟩|⟨N,_⟩
   .rw [N]at q;cases q;exact h4
   .rw [N]at q;cases q
 .by_cases b:(mk j (u++v)).o g'=.none;exact .inl b;have d:=M g' _ rfl b;obtain⟨Y,b1,Z⟩:=z.1 g' _ d;rw[L g' Y]at q;rcases Z with⟨g3,N,h4⟩|⟨N,e⟩
  .rw [N]at q;cases q
  .exact .inr e
 .have n1:g1∈j.nms:=by have:=z.1 g1 _ (M g1 _ rfl (by intro e;rw[e]at h1;cases h1));exact this.1
  have n2:g2∈j.nms:=by have:=z.1 g2 _ (M g2 _ rfl (by intro e;rw[e]at X;cases X));exact this.1
  rw[L g1 n1]at m1;rw[L g2 n2]at m2;exact Bo B (jS jl) n1 n2 m1 m2
 .have hg:g∈(match (dV (u++v) 0 j.slots).1.lookup t with|some x=>x|none=>S.no).names:=hg;cases d:(dV (u++v) 0 j.slots).1.lookup t with
  |none=>rw[d]at hg;simp[S.names]at hg
  |some x=>rw[d]at hg;obtain⟨p,w,hg⟩:=(hS.1 t x d).2 g hg;simpa[mk]using J p w g hg
 .by_cases b:(mk j (u++v)).o g0=.none
  .rw [b]at hg;simp[O.names]at hg
  .obtain ⟨Y,b1,Z⟩:=z.1 g0 _ (M g0 _ rfl b);obtain⟨p,w,hg⟩:=b1 g hg;simpa[mk]using K p w g hg
 .have:=(z.1 g _ (M g _ rfl hg)).1;simpa[mk,Shape.nms]using this
end Go.Fw

namespace Go.Fw
variable [fO]
structure Bv where
 bg:Nat
 pin:Shape
 aU:Shape
 bV:Nat
 bH:List Nat
 aY:List Nat
structure Spec where
 sig:Bv
 R:List P->List P->Prop
abbrev Tab:=FuncId->Option Spec
def yJ(x y:Bool×Bool):Bool×Bool:=(x.1||y.1,x.2||y.2)
def QK(xs ys:List Nat):Bool:=xs.all λx=>!ys.contains x
def WS.flags(a i:Bool):WS->Bool
 |.p b c=>(a==b)&&(i==c)
 |.own _=>zj
 |.box _ off=>off==0
 |.dD=>zv
 |.fn _ _=>zj
 |.oI _=>zv
 |.no=>zv
 |.vw _=>zv
 |.ep _ _=>zv
def SS.flags(a i:Bool):SS->Bool
 |.one x=>x.flags a i
 |.agg xs=>xs.all (WS.flags a i)
def WS.dR(aY:List Nat):WS->Bool
 |.p _ _=>zj
 |.own g=>aY.contains g
 |.box g _=>aY.contains g
 |.dD=>zj
 |.fn _ gs=>gs.all λg=>aY.contains g
 |_=>zv
def SS.dR(aY:List Nat):SS->Bool
 |.one x=>x.dR aY
 |.agg xs=>xs.all (WS.dR aY)
def WS.isA:WS->Bool
 |.p a _=>a
 |_=>zv
def SS.isA:SS->Bool
 |.one x=>x.isA
 |.agg xs=>xs.any WS.isA
def OS.isA:OS->Bool
 |.box b=>b.any WS.isA
 |.arr _ a _ _=>a
 |.it=>zv
 |.aO a _ _ _=>a
def Bv.nK(s:Bv):Bool:=s.aU.slots.any (·.2.isA)||s.aU.bI.any (·.2.isA)
def OS.kin:Option OS->Option OS->Bool
 |some (.box _),zw (.box _)=>zj
 |some (.arr _ _ _ c),zw (.arr _ _ _ b)=>Nat.beq c b
 |some (.aO _ _ c _),zw (.aO _ _ b _)=>Nat.beq c b
 |_,_=>zv
def OS.aes:Option OS->Bool
 |some (.box _)=>zj
 |_=>zv
def Bv.ok(s:Bv):Bool:=
 s.pin.ok&&s.aU.ok&&s.pin.slots.all (λp=>p.2.flags zj zv&&decide (p.1<s.bg)) &&
 s.pin.bI.all (λp=>match p.2 with
  |.box b=>b.all (λk=>k.flags zv zj)&&s.bH.contains p.1
  |.arr c a i _=>!c&&!a&&i
  |.aO a i _ _=>!a&&i
  |.it=>zv) &&
 s.aU.slots.all (λp=>p.2.dR (s.aY++s.bH)) &&
 s.aU.bI.all (λp=>match p.2 with
  |.box b=>b.all (WS.dR (s.aY++s.bH))&&((s.bH.contains p.1&&s.pin.nms.contains p.1)||s.aY.contains p.1)
  |.arr c _ _ _=>!c&&(s.aY.contains p.1||s.bH.contains p.1)
  |.aO _ _ _ _=>s.aY.contains p.1||s.bH.contains p.1
  |.it=>zv) &&
 QK s.bH s.aY&&nodupB s.aY&&s.bH.all (λg=>OS.kin (s.pin.bI.lookup g) (s.aU.bI.lookup g))
def Bv.amM(s:Bv):Bool:=s.bH.all λg=>OS.aes (s.pin.bI.lookup g)&&OS.aes (s.aU.bI.lookup g)
structure OT where
 ins:List P
 A:Bool×Bool
 I:Bool×Bool
 wP:List Nat
 ren:List (Nat×Nat)
def oO:List Nat->List W->Option (List (Nat×Nat))
 | [],[]=>zw []
 |g'::gs,.box g 0::b=>match oO gs b with
  |some r=>zw ((g',g)::r)
  |none=>zz
 |_,_=>zz
def gK(o:Nat->O):WS->W->Option (List P×(Bool×Bool)×List Nat×List (Nat×Nat))
 |.p _ _,x=>match x.toP o with
  |some (y,a,i,gs)=>zw ([y],(a,i),gs,[])
  |none=>zz
 |.own g',.own g=>zw ([],(zv,zv),[],[(g',g)])
 |.box g' 0,.box g 0=>zw ([],(zv,zv),[],[(g',g)])
 |.fn f gs,.clo c b=>if f=c then match oO gs b with
  |some r=>zw ([],(zv,zv),[],r)
  |none=>zz
  else zz
 |_,_=>zz
def kE(o:Nat->O):List WS->List W->Option (List P×(Bool×Bool)×List Nat×List (Nat×Nat))
 | [],[]=>zw ([],(zv,zv),[],[])
 |k::b,x::xs=>match gK o k x,kE o b xs with
  |some (u,c,g,r),zw (d,h,g',j)=>zw (u++d,yJ c h,g++g',r++j)
  |_,_=>zz
 |_,_=>zz
def pJ(o:Nat->O):SS->S->Option (List P×(Bool×Bool)×List Nat×List (Nat×Nat))
 |.one k,.v (.one x)=>gK o k x
 |.agg b,.v (.agg xs)=>kE o b xs
 |_,_=>zz
def fQ(o:Nat->O)(args:List S):List (Nat×SS)->Option (List P×(Bool×Bool)×List Nat×List (Nat×Nat))
 | []=>zw ([],(zv,zv),[],[])
 |(t,k)::rest=>match pJ o k (args.getD t .no),fQ o args rest with
  |some (u,c,g,r),zw (b,d,g',h)=>zw (u++b,yJ c d,g++g',r++h)
  |_,_=>zz
def Xc:WS->W->Option (List P×(Bool×Bool)×List (Nat×Nat))
 |.p _ _,.p a i x=>zw ([x],(a,i),[])
 |.p _ _,.dD=>zw ([.sl 0 []],(zv,zv),[])
 |.own g',.own g=>zw ([],(zv,zv),[(g',g)])
 |.box g' 0,.box g 0=>zw ([],(zv,zv),[(g',g)])
 |.fn f gs,.clo c b=>if f=c then match oO gs b with
  |some r=>zw ([],(zv,zv),r)
  |none=>zz
  else zz
 |_,_=>zz
def QL:List WS->List W->Option (List P×(Bool×Bool)×List (Nat×Nat))
 | [],[]=>zw ([],(zv,zv),[])
 |k::b,x::xs=>match Xc k x,QL b xs with
  |some (u,c,r),zw (d,g,h)=>zw (u++d,yJ c g,r++h)
  |_,_=>zz
 |_,_=>zz
def j_(o:Nat->O):List (Nat×Nat)->List (Nat×OS)->Option (List P×(Bool×Bool)×List (Nat×Nat))
 |ren,[]=>zw ([],(zv,zv),ren)
 |ren,(g',k)::rest=>match ren.lookup g' with
  |some g=>match k,o g with
   |.box q,.box w=>match QL q w with
    |some (u,c,r)=>match j_ o (ren++r) rest with
     |some (d,h,j)=>zw (u++d,yJ c h,j)
     |none=>zz
    |none=>zz
   |.arr _ _ _ m,.arr zv a i b l=>if m=b then match j_ o ren rest with
    |some (d,h,j)=>zw (P.gV m l::d,yJ (a,i) h,j)
    |none=>zz
    else zz
   |.aO _ _ m y,.aO a i b z l Option.none=>if m=b/\y=z then match j_ o ren rest with
    |some (d,h,j)=>zw (P.gV m l::d,yJ (a,i) h,j)
    |none=>zz
    else zz
   |_,_=>zz
  |none=>zz
def kQ:List (Nat×Nat)->List (Nat×Nat)
 | []=>[]
 |p::r=>match r.any λq=>Nat.beq q.1 p.1&&Nat.beq q.2 p.2 with
  |true=>kQ r
  |false=>p::kQ r
def jo(s:Bv)(o:Nat->O)(args:List S):Option OT:=
 match fQ o args s.pin.slots with
 |some (u,A,gs,r)=>match j_ o r s.pin.bI with
  |some (b,I,c)=>zw { ins:=u++b,A,I,wP:=gs,ren:=kQ c }
  |none=>zz
 |none=>zz
def OT.fine(c:OT)(s:Bv):Bool:=nodupB (c.ren.map (·.2))&&nodupB (c.ren.map (·.1))&&QK (c.ren.map (·.2)) c.wP&&(c.ren.map (·.1)).all (λg=>s.pin.nms.contains g)
def r_(A I:Bool×Bool)(a i:Bool):Bool×Bool:=((a&&A.1)||(i&&I.1),(a&&A.2)||(i&&I.2))
def lI(f:Nat->Nat):List W->List W
 | []=>[]
 |.box g off::r=>.box (f g) off::lI f r
 |_::r=>.no::lI f r
def Xd(A I:Bool×Bool)(f:Nat->Nat):W->W
 |.p a i x=>.p (r_ A I a i).1 (r_ A I a i).2 x
 |.dD=>.dD
 |.own g=>.own (f g)
 |.box g off=>.box (f g) off
 |.clo fn b=>.clo fn (lI f b)
 |_=>.no
def reV(A I:Bool×Bool)(f:Nat->Nat):V->V
 |.one x=>.one (Xd A I f x)
 |.agg xs=>.agg (xs.map (Xd A I f))
def Y8(A I:Bool×Bool)(f:Nat->Nat):S->V
 |.v x=>reV A I f x
 |_=>.one .no
def yK(A I:Bool×Bool)(f:Nat->Nat):O->O
 |.none=>.none
 |.box c=>.box (c.map (Xd A I f))
 |.arr d a i b l=>.arr d (r_ A I a i).1 (r_ A I a i).2 b l
 |.it s n=>.it s n
 |.aO a i b g l _=>.aO (r_ A I a i).1 (r_ A I a i).2 b g l Option.none
def newName(d:Nat)(aY:List Nat)(g:Nat):Nat:=d+1000*aY.idxOf g
def callName(d:Nat)(s:Bv)(ren:List (Nat×Nat))(g:Nat):Nat:=match s.bH.contains g with
 |true=>match ren.lookup g with
  |some g'=>g'
  |none=>g
 |false=>newName d s.aY g
structure Eff where
 x:S
 aJ:List (Nat×O)
 new:List Nat
def abQ(vs:List V):S:=match vs with
 | [x]=>.v x
 |xs=>.jy xs
def lJ(s:Bv)(d:Nat)(o:Nat->O)(c:OT)(dR:List P):Eff:=
 let x:=mk s.aU dR
 let f:=callName d s c.ren
 { x:=abQ ((List.range s.bV).map λk=>Y8 c.A c.I f (x.s k)),aJ:=(if s.nK then c.wP.map (bC o)else[])++c.ren.map (λp=>(p.2,if s.bH.contains p.1 then yK c.A c.I f (x.o p.1)else .none))++s.aY.map (λg=>(f g,yK c.A c.I f (x.o g))),new:=s.aY.map f }
def D5(same:List Nat)(e:Eff):Eff:={ e with aJ:=e.aJ.filter λp=>!same.contains p.1 }
theorem uN{α:Type}{same:List Nat}{g:Nat}(hg:g∉same):∀(l:List (Nat×α)),(l.filter λp=>!same.contains p.1).lookup g=l.lookup g
 | []=>rfl
 |(k,x)::l=>by
  simp only[zb];cases b:same.contains k with
  |true=>
   have:(g==k)=zv:=by
    cases c:g==k with
    |false=>rfl
    |true=>
     have:g=k:=by simpa using c
     subst this;simp only[V2,Wa]at b;exact absurd b hg
   simp only[Bool.not_true,Wb,if_false,List.lookup,this];exact uN hg l
  |false=>simp only[vz,if_true,List.lookup];rw[uN hg l]
theorem nX{α:Type}{same:List Nat}{g:Nat}(hg:g∈same):∀(l:List (Nat×α)),(l.filter λp=>!same.contains p.1).lookup g=zz
 | []=>rfl
 |(k,x)::l=>by
  simp only[zb];cases b:same.contains k with
  |true=>simp only[Bool.not_true,Wb,if_false];exact nX hg l
  |false=>
   have:(g==k)=zv:=by
    cases c:g==k with
    |false=>rfl
    |true=>
     have:g=k:=by simpa using c
     subst this;simp only[V2,decide_eq_false_iff_not]at b;exact absurd hg b
   simp only[vz,if_true,List.lookup,this];exact nX hg l
theorem abR{st:St}{same:List Nat}{e:Eff}(h :∀g∈same,e.aJ.lookup g=zw (st.o g)):st.aJ (D5 same e).aJ (D5 same e).new=st.aJ e.aJ e.new:=by
 unfold St.aJ D5;congr 1;funext g;by_cases hg:g∈same
 .simp only[nX hg,h g hg]
 .simp only[uN hg]
inductive Oe(x:P)(K:P->Prop):Prop where
 |mk (h :∀z,z=x->K z)
theorem Oe.iff{x:P}{K:P->Prop}:Oe x K↔K x:=⟨λ⟨h⟩=>h x rfl,λh=>⟨λz e=>e▸h⟩⟩
def H_:Op->Bool
 |.pick ..|.binOp ..|.unOp ..|.convert ..|.index ..|.call ..|.makeSlice ..|.store ..|.buildSlice ..|.slice ..=>zj
 |_=>zv
def guardOf(ops:Array Oper)(st:St)(j:Nat)(want:Bool):Option Bool:=
 match (ops[j]?).bind (·.dst)with
 |some t=>match st.s t with
  |.v (.one (.p _ _ (.bool b)))=>zw (bif want then b else !b)
  |.jy []=>zw zv
  |_=>zz
 |none=>zz
def Eff.skip:Eff:={ x:=.jy [],aJ:=[],new:=[] }
def apP:S->Option Nat
 |.v (.one (.clo g _))=>zw g
 |_=>zz
def Y9:List S->Option Nat
 | []=>zz
 |x::l=>match apP x with
  |some g=>zw g
  |none=>Y9 l
def Ux(fn:Nat)(l:List S):Nat:=match Y9 l with
 |some g=>fn+1000000*(g+1)
 |none=>fn
def pick(T:Tab)(fn:Nat)(l:List S):Option Spec:=match Nat.blt fn 1000000 with
 |true=>match T (Ux fn l)with
  |some sp=>zw sp
  |none=>T fn
 |false=>zz
theorem ait{T:Tab}{fn:Nat}{l:List S}{sp:Spec}{p:Nat->Spec->Prop}(c :∀f sp,T f=zw sp->p (f % 1000000) sp)(h:pick T fn l=zw sp):p fn sp:=by
 unfold pick at h;split at h
 rotate_left
 cases h;rename_i d;have b:fn<1000000:=WD d;split at h
 .rename_i g j;cases h;have:=c _ _ j;have e:Ux fn l % 1000000=fn:=by unfold Ux;split<;>omega
  rwa [e]at this
 .have:=c _ _ h
  rwa [Kl b]at this
def lq(T:Tab)(tt:TT)(d:Nat)(st:St)(o:Oper)(K:Eff->Prop):Prop:=
 match o.op with
 |.call { callee:=.value f,args,.. }=>match st.dK f with
  |.v (.one (.clo fn b))=>match pick T fn (args.toList.map st.dK)with
   |some sp=>match jo sp.sig st.o ((args.toList.map st.dK)++b.map λx=>S.v (.one x))with
    |some c=>(c.fine sp.sig&&decide (args.size+b.length=sp.sig.bg))=zj/\∃(dR:List P) (same:List Nat),sp.R c.ins dR/\(∀g∈same,g∈c.ren.map (·.2)/\(lJ sp.sig d st.o c dR).aJ.lookup g=zw (st.o g))/\K (D5 same (lJ sp.sig d st.o c dR))
    |none=>False
   |none=>False
  |_=>False
 |op=>(∃h r,dY tt h d st.o st.dK op o.type=zw r/\r.pre/\Oe r.val λz=>K { x:=r.dst z,aJ:=r.aJ z,new:=r.new })\/match kernel tt d st.o st.dK op o.type with
  |some r=>r.pre/\bif H_ op then Oe r.val λz=>K { x:=r.dst z,aJ:=r.aJ z,new:=r.new } else K { x:=r.dst r.val,aJ:=r.aJ r.val,new:=r.new }
  |none=>False
def yY:O->List Nat
 |.box b=>b.flatMap W.names
 |_=>[]
def qF(o:Nat->O):Nat->List Nat->List Nat
 |0,gs=>gs
 |n+1,gs=>gs++qF o n (gs.flatMap λg=>yY (o g))
def argNames(st:St)(o:Oper):List Nat:=match o.op with
 |.call { callee:=.value _,args,.. }=>args.toList.flatMap λx=>(st.dK x).names
 |.slice _ x _ _ _=>(st.dK x).names
 |_=>[]
def uO(st:St)(o:Oper):List Nat:=qF st.o 2 (argNames st o)
def jJ(st:St)(o:Oper):List Nat:=(uO st o).filter λg=>match (st.o g).hn with
 | []=>zv
 |d::_=>!(argNames st o).contains d
def Bz(hs:List Nat)(st:St):List (Nat×O):=hs.flatMap λg=>(g,(Fw.shuts hs st).o g)::(st.o g).hn.map λd=>(d,(Fw.shuts hs st).o d)
def D6(hs:List Nat)(st:St)(e:Eff):Eff:=match hs with
 | []=>e
 |g::gs=>{ e with aJ:=e.aJ++Bz (g::gs) st }
def jK(T:Tab)(tt:TT)(d:Nat)(st:St)(o:Oper)(K:Eff->Prop):Prop:=lq T tt d (Fw.shuts (jJ st o) st) o λe=>K (D6 (jJ st o) st e)
theorem tJ{T:Tab}{tt:TT}{st:St}{K:Eff->Prop}(h:jJ st o=[]):jK T tt g st o K↔lq T tt g st o K:=by unfold jK;rw[h];rfl
theorem Xr{st:St}(h:argNames st o=[]):jJ st o=[]:=by unfold jJ uO;rw[h];rfl
def St.eff(st:St)(dst:Option Tmp)(e:Eff):St:=(st.aJ e.aJ e.new).put dst e.x
def stepW(T:Tab)(tt:TT)(N:Nat)(ops:Array Oper)(o:Oper)(st:St)(K:Eff->Prop):Prop:=
 (match o.dst with
  |some d=>decide (d<N)
  |none=>zj)=zj/\
 match o.guard with
 |none=>jK T tt (o.dst.getD 0) st o λe=>e.new.all (λg=>!st.used g)=zj/\K e
 |some (j,want)=>match guardOf ops st j want with
  |some b=>bif b then jK T tt (o.dst.getD 0) st o λe=>e.new.all (λg=>!st.used g)=zj/\K e else K Eff.skip
  |none=>False
end Go.Fw

namespace Go.Fw
variable [fO]
theorem nM{α:Type}:∀{l:List (Nat×α)},(l.map (·.1)).Nodup->∀{k:Nat} {v:α},(k,v)∈l->l.lookup k=zw v
 | [],_,k,v,h=>by cases h
 |(c,v0)::l,hn,k,v,h=>by
  simp only[Qf,K5]at hn;simp only[List.lookup];rcases Xs.1 h with e|e
  .cases e;simp
  .have b:(k==c)=zv:=by have:k∈l.map (·.1):=XN.2 ⟨(k,v),e,rfl⟩;have:k≠c:=λe=>hn.1 (by rw[<-e];exact this);simpa using this
   rw[b];exact nM hn.2 e
theorem ku{α:Type}:∀{l:List (Nat×α)} {k:Nat} {v:α},l.lookup k=zw v->(k,v)∈l
 | [],k,v,h=>by simp at h
 |(c,v0)::l,k,v,h=>by
  simp only[List.lookup]at h;split at h
  .rename_i b;have b:k=c:=by simpa using b
   simp only[Q0]at h;subst b h;simp
  .exact V1 _ (ku h)
def cin(c d:Bool×Bool):Prop:=(c.1=zj->d.1=zj)/\(c.2=zj->d.2=zj)
theorem KI(c:Bool×Bool):cin c c:=⟨id,id⟩
theorem vJ{d:Bool×Bool}(h:cin (yJ c A) d):cin c d:=⟨λe=>h.1 (by simp[yJ,e]),λe=>h.2 (by simp[yJ,e])⟩
theorem rF{d:Bool×Bool}(h:cin (yJ c A) d):cin A d:=⟨λe=>h.1 (by simp[yJ,e]),λe=>h.2 (by simp[yJ,e])⟩
def Cio(I:Bool×Bool)(a i a' i':Bool):Prop:=a'=zv/\i'=zj/\cin (a,i) I
section
variable {o:Nat->O} {ins:List P} {m:Nat->Option Nat} {nil:Nat->Prop} {I:Bool×Bool}
theorem Y_(h:(WS.p H u).flags i a=zj):H=i/\u=a:=by simp only[WS.flags,QR,beq_iff_eq]at h;exact⟨h.1.symm,h.2.symm⟩
theorem BU{C:Bool->Bool->Bool->Bool->Prop}:∀{gs:List Nat} {caps:List W} {r:List (Nat×Nat)},oO gs caps=zw r->(∀p∈r,m p.1=zw p.2)->caps.length=(iC gs).length/\∀(j:Nat) x y,caps[j]?=zw x->(iC gs)[j]?=zw y->Ww C m nil x y
 | [],[],r,_,_=>⟨rfl,λj x y b=>by simp at b⟩
 | [],_::_,r,h,_=>by simp[oO]at h
 |_::_,[],r,h,_=>by simp[oO]at h
 |g'::gs,c::K,r,h,z=>by
  cases c with
  |box g off=>
   cases off with
   |succ off=>simp[oO]at h
   |zero=>
    simp only[oO]at h;split at h
    rotate_left
    cases h;rename_i L q;cases h;obtain⟨B,H⟩:=BU (C:=C) q (λp J=>z p (by simp[J]));refine⟨by simp[iC,B],λj x y b d=>?_⟩;cases j with
    |zero=>simp[iC]at b d;subst b d;exact .box (z (g',g) (by simp))
    |succ j=>simp[iC]at b d;exact H j x y b d
  |_=>simp[oO]at h
theorem amO{k:WS}{us:List P}(h:Xc k x=zw (us,c,r))(B:k.flags zv zj=zj)(H:cin c I)(j :∀p∈r,m p.1=zw p.2)(z:At ins n us):
  Ww (Cio I) m nil x (rE ins n k).1/\(rE ins n k).2=n+us.length:=by
 cases k with
 |p M N=>
  obtain⟨rfl,rfl⟩:=Y_ B;cases x with
  |p a i y=>simp only[Xc,Q0,QP]at h;obtain⟨rfl,rfl,rfl⟩:=h;exact⟨by simp only[rE,z.head];exact .p y ⟨rfl,rfl,H⟩,rfl⟩
  |dD=>simp only[Xc,Q0,QP]at h;obtain⟨rfl,rfl,rfl⟩:=h;exact⟨by simp only[rE,z.head];exact .amJ _ _ _,rfl⟩
  |_=>simp[Xc]at h
 |own g'=>
  cases x with
  |own g=>simp only[Xc,Q0,QP]at h;obtain⟨rfl,rfl,rfl⟩:=h;exact⟨.own (j (g',g) (by simp)),rfl⟩
  |_=>simp[Xc]at h
 |box g' b=>
  cases x with
  |box g off=>
   cases b with
   |succ n=>simp[Xc]at h
   |zero=>
    cases off with
    |succ n=>simp[Xc]at h
    |zero=>simp only[Xc,Q0,QP]at h;obtain⟨rfl,rfl,rfl⟩:=h;exact⟨.box (j (g',g) (by simp)),rfl⟩
  |_=>simp[Xc]at h
 |fn f gs=>
  cases x with
  |clo T d=>
   simp only[Xc]at h;split at h
   rotate_left
   cases h;rename_i J;subst J;split at h
   .rename_i U q;cases h;obtain⟨K,L⟩:=BU (C:=Cio I) (nil:=nil) q j;exact⟨.clo f d (iC gs) K L,rfl⟩
   .cases h
  |_=>simp[Xc]at h
 |_=>simp[Xc]at h
theorem Za:∀{b:List WS} {xs:List W} {us:List P} {c:Bool×Bool} {r:List (Nat×Nat)} {n:Nat},QL b xs=zw (us,c,r)->(∀k∈b,k.flags zv zj=zj)->cin c I->(∀p∈r,m p.1=zw p.2)->At ins n us->
  xs.length=(lY ins n b).1.length/\(∀(j:Nat) x y,xs[j]?=zw x->(lY ins n b).1[j]?=zw y->Ww (Cio I) m nil x y)/\(lY ins n b).2=n+us.length
 | [],xs,us,c,r,n,h,q,z,B,H=>by
  cases xs with
  |nil=>simp[QL]at h;obtain⟨rfl,_⟩:=h;exact⟨rfl,λj x y d=>by simp at d,rfl⟩
  |cons x xs=>simp[QL]at h
 |k::b,xs,us,c,r,n,h,q,z,B,H=>by
  cases xs with
  |nil=>simp[QL]at h
  |cons x xs=>
   simp only[QL]at h;split at h
   rotate_left
   cases h;rename_i u Y Z u' c2 r2 M N;cases h;obtain⟨T,a2⟩:=amO (nil:=nil) M (q k (by simp)) (vJ z) (λp J=>B p (by simp[J])) H.left;have K:=Za (n:=n+u.length) N (λk L=>q k (by simp[L])) (rF z) (λp J=>B p (by simp[J])) H.right;simp only[lY,a2];refine⟨by simp[K.1],λj U X d g=>?_,by rw[K.2.2];simp;omega⟩;cases j with
   |zero=>simp at d g;subst d g;exact T
   |succ j=>simp at d g;exact K.2.1 j U X d g
theorem vK:∀{L:List (Nat×OS)} {ren d:List (Nat×Nat)} {us:List P} {c:Bool×Bool} {n:Nat},j_ o ren L=zw (us,c,d)->
  (∀p∈L,match p.2 with|.box ws=>∀k∈ws,k.flags zv zj=zj|.arr fz a i _=>fz=zv/\a=zv/\i=zj|.aO a i _ _=>a=zv/\i=zj|.it=>False)->cin c I->(∀p∈d,m p.1=zw p.2)->At ins n us->
  (∃r,d=ren++r)/\∀g' x,(iD ins n L).1.lookup g'=zw x->∃g,m g'=zw g/\Ow (Cio I) m nil (o g) x/\(g',g)∈d/\(o g).cO=zj/\((∃ws,x=.box ws)\/(∃l sz,x=.arr zv zv zj sz l)\/∃l sz au,x=.aO zv zj sz au l Option.none)
 | [],ren,d,us,c,n,h,q,T,N,U=>by simp only[j_,Q0,QP]at h;obtain⟨rfl,rfl,rfl⟩:=h;exact⟨⟨[],by simp⟩,λg' x j=>by simp[iD]at j⟩
 |(g0,k)::L,ren,d,us,c,n,h,q,T,N,U=>by
  simp only[j_]at h;split at h
  rotate_left
  cases h;rename_i g hg;split at h
  .rename_i ks ws z;split at h
   rotate_left
   cases h;rename_i u c1 r1 h1;split at h
   rotate_left
   cases h;rename_i u' c2 r2 h2;simp only[Q0,QP]at h;obtain⟨rfl,rfl,rfl⟩:=h;have J:=q (g0,.box ks) (by simp);have X:=λhm'=>vK (n:=n+u.length) h2 (λp Y=>q p (by simp[Y])) (rF T) hm' U.right;obtain⟨⟨r,M⟩,X⟩:=X N;obtain⟨b0,b1,b2⟩:=Za (nil:=nil) h1 J (vJ T) (λp Y=>N p (by rw[M];simp[Y])) U.left;simp only[iD,vG,b2];refine⟨⟨r1++r,by rw[M,W3]⟩,λg' x j=>?_⟩;simp only[List.lookup]at j;split at j
   .rename_i K;have K:g'=g0:=by simpa using K
    subst K;simp only[Q0]at j;subst j;have b:(g',g)∈r2:=by rw[M,W3];exact W6 _ (ku hg)
    exact⟨g,N _ b,by rw[z];exact .box _ _ b0 b1,b,by rw[z];rfl,.inl ⟨_,rfl⟩⟩
   .exact X g' x j
  .rename_i fz0 a0 i0 sz a i sz' l z;split at h
   rotate_left
   cases h;rename_i Z;split at h
   rotate_left
   cases h;rename_i u' c2 r2 h2;simp only[Q0,QP]at h;obtain⟨rfl,rfl,rfl⟩:=h;subst Z;have J:=q (g0,.arr fz0 a0 i0 sz) (by simp);obtain⟨rfl,rfl,rfl⟩:=J;have B:At ins n [P.gV sz l]:=λk y q=>U k y (by cases k with|zero=>simpa using q|succ k=>simp at q);have H:At ins (n+1) u':=λk y q=>by have:=U (k+1) y (by simpa using q);rw[<-this];congr 1;omega
   obtain⟨⟨r,M⟩,X⟩:=vK (n:=n+1) h2 (λp Y=>q p (by simp[Y])) (rF T) N H;simp only[iD,vG,B.head,P.pF];refine⟨⟨r,M⟩,λg' x j=>?_⟩;simp only[List.lookup]at j;split at j
   .rename_i K;have K:g'=g0:=by simpa using K
    subst K;simp only[Q0]at j;subst j;have b:(g',g)∈r2:=by rw[M];exact W6 _ (ku hg)
    exact⟨g,N _ b,by rw[z];exact .arr zv sz l ⟨rfl,rfl,vJ T⟩,b,by rw[z];rfl,.inr (.inl ⟨_,_,rfl⟩)⟩
   .exact X g' x j
  .rename_i a0 i0 sz au a i sz' iZ l z;split at h
   rotate_left
   cases h;rename_i Z;obtain⟨rfl,rfl⟩:=Z;split at h
   rotate_left
   cases h;rename_i u' c2 r2 h2;simp only[Q0,QP]at h;obtain⟨rfl,rfl,rfl⟩:=h;have J:=q (g0,.aO a0 i0 sz au) (by simp);obtain⟨rfl,rfl⟩:=J;have B:At ins n [P.gV sz l]:=λk y q=>U k y (by cases k with|zero=>simpa using q|succ k=>simp at q);have H:At ins (n+1) u':=λk y q=>by have:=U (k+1) y (by simpa using q);rw[<-this];congr 1;omega
   obtain⟨⟨r,M⟩,X⟩:=vK (n:=n+1) h2 (λp Y=>q p (by simp[Y])) (rF T) N H;simp only[iD,vG,B.head,P.pF];refine⟨⟨r,M⟩,λg' x j=>?_⟩;simp only[List.lookup]at j;split at j
   .rename_i K;have K:g'=g0:=by simpa using K
    subst K;simp only[Q0]at j;subst j;have b:(g',g)∈r2:=by rw[M];exact W6 _ (ku hg)
    exact⟨g,N _ b,by rw[z];exact .aO sz au l ⟨rfl,rfl,vJ T⟩,b,by rw[z];rfl,.inr (.inr ⟨_,_,_,rfl⟩)⟩
   .exact X g' x j
  .cases h
end
section
variable {E E':Env} {st est:St} {gh oh:Nat->Gh} {w:World} {ins:List P} {A:Bool×Bool} {wP:List Nat} {m:Nat->Option Nat} {nil:Nat->Prop} {C:Bool->Bool->Bool->Bool->Prop}
theorem Uy(K :∀x v y a i gs,f_ E st gh w x v->x.toP st.o=zw (y,a,i,gs)->cin (a,i) A->(∀g∈gs,g∈wP)->dH w (E'.ok est oh w zj zv) y v)(q:Cast C m nil E E' st est gh oh w)
  {k:WS}   {us:List P}  {gs:List Nat}   (h:gK st.o k x=zw (us,c,gs,r)) (L:k.flags zj zv=zj) (M:cin c A) (z :∀g∈gs,g∈wP)
  (B :∀p∈r,m p.1=zw p.2) (N:At ins n us) (j:f_ E st gh w x v):f_ E' est oh w (rE ins n k).1 v/\(rE ins n k).2=n+us.length:=by
 cases k with
 |p a' i'=>
  obtain⟨rfl,rfl⟩:=Y_ L;simp only[gK]at h;split at h
  .rename_i y a i T U;cases h;exact⟨by simp only[rE,N.head];exact .p _ _ _ _ (K _ _ _ _ _ _ j U M z),rfl⟩
  .cases h
 |own g'=>
  cases x with
  |own g=>simp only[gK,Q0,QP]at h;obtain⟨rfl,rfl,rfl,rfl⟩:=h;exact⟨q.BM (.own (B (g',g) (by simp))) j,rfl⟩
  |_=>simp[gK]at h
 |box g' off=>
  cases x with
  |box g b=>
   cases off with
   |succ off=>simp[gK]at h
   |zero=>
    cases b with
    |succ b=>simp[gK]at h
    |zero=>simp only[gK,Q0,QP]at h;obtain⟨rfl,rfl,rfl,rfl⟩:=h;exact⟨q.BM (.box (B (g',g) (by simp))) j,rfl⟩
  |_=>cases off<;>simp[gK]at h
 |fn f H=>
  cases x with
  |clo f' d=>
   simp only[gK]at h;split at h
   rotate_left
   cases h;rename_i X;subst X;split at h
   .rename_i r' J;cases h;obtain⟨Y,Z⟩:=BU (C:=C) (nil:=nil) J B;exact⟨q.BM (.clo f d (iC H) Y Z) j,rfl⟩
   .cases h
  |_=>simp[gK]at h
 |_=>simp[gK]at h
theorem OU(Y :∀x v y a i gs,f_ E st gh w x v->x.toP st.o=zw (y,a,i,gs)->cin (a,i) A->(∀g∈gs,g∈wP)->dH w (E'.ok est oh w zj zv) y v)(Z:Cast C m nil E E' st est gh oh w):
  ∀{q:List WS} {xs:List W} {cs:List Value} {us:List P} {c:Bool×Bool} {gs:List Nat} {r:List (Nat×Nat)} {n:Nat},kE st.o q xs=zw (us,c,gs,r)->(∀k∈q,k.flags zj zv=zj)->cin c A->(∀g∈gs,g∈wP)->
   (∀p∈r,m p.1=zw p.2)->At ins n us->xs.length=cs.length->(∀(j:Nat) x v,xs[j]?=zw x->cs[j]?=zw v->f_ E st gh w x v)->
   (lY ins n q).1.length=cs.length/\(∀(j:Nat) x v,(lY ins n q).1[j]?=zw x->cs[j]?=zw v->f_ E' est oh w x v)/\(lY ins n q).2=n+us.length
 | [],xs,cs,us,c,gs,r,n,h,K,L,d,M,B,H,N=>by
  cases xs with
  |nil=>simp[kE]at h;obtain⟨rfl,_⟩:=h;exact⟨H,λj x v z=>by simp[lY]at z,rfl⟩
  |cons x xs=>simp[kE]at h
 |k::q,xs,cs,us,c,gs,r,n,h,K,L,d,M,B,H,N=>by
  cases xs with
  |nil=>simp[kE]at h
  |cons x xs=>
   cases cs with
   |nil=>simp at H
   |cons v cs=>
    simp only[kE]at h;split at h
    rotate_left
    cases h;rename_i u c1 g1 r1 u' c2 g2 r2 h1 h2;cases h;obtain⟨a1,a2⟩:=Uy Y Z h1 (K k (by simp)) (vJ L) (λg hg=>d g (by simp[hg])) (λp T=>M p (by simp[T])) B.left (N 0 x v rfl rfl);have U:=OU Y Z (n:=n+u.length) h2 (λk X=>K k (by simp[X])) (rF L) (λg hg=>d g (by simp[hg])) (λp T=>M p (by simp[T])) B.right (by simpa using H)
     (λj a b B hb=>N (j+1) a b (by simpa using B) (by simpa using hb))
    simp only[lY,a2];refine⟨by simp[U.1],λj x' v' z J=>?_,by rw[U.2.2];simp;omega⟩;cases j with
    |zero=>simp at z J;subst z J;exact a1
    |succ j=>simp at z J;exact U.2.1 j x' v' z J
theorem aeu(B :∀y v x a i gs,f_ E st gh w y v->y.toP st.o=zw (x,a,i,gs)->cin (a,i) A->(∀g∈gs,g∈wP)->dH w (E'.ok est oh w zj zv) x v)(H:Cast C m nil E E' st est gh oh w)
  {k:SS}   {us:List P}  {gs:List Nat}   (h:pJ st.o k y=zw (us,c,gs,r)) (j:k.flags zj zv=zj) (J:cin c A) (b :∀g∈gs,g∈wP)
  (K :∀p∈r,m p.1=zw p.2) (L:At ins n us) (M:dU E st gh w y v):dU E' est oh w (mkS ins n k).1 v/\(mkS ins n k).2=n+us.length:=by
 cases k with
 |one k=>
  cases y with
  |v y=>
   cases y with
   |one y=>obtain⟨q,a2⟩:=Uy B H h j J b K L M.dW;exact⟨dU.Jr q,a2⟩
   |agg xs=>simp[pJ]at h
  |_=>simp[pJ]at h
 |agg X=>
  cases y with
  |v y=>
   cases y with
   |one y=>simp[pJ]at h
   |agg xs=>obtain⟨N,T,U,d,z⟩:=M.Jq;simp only[SS.flags,Z3]at j;obtain⟨a0,q,a2⟩:=OU B H h j J b K L U z;subst T;exact⟨.v _ _ (.agg _ N a0 d q),a2⟩
  |_=>simp[pJ]at h
theorem D7(K :∀x v y a i gs,f_ E st gh w x v->x.toP st.o=zw (y,a,i,gs)->cin (a,i) A->(∀g∈gs,g∈wP)->dH w (E'.ok est oh w zj zv) y v)(M:Cast C m nil E E' st est gh oh w){args:List S}{vals:Nat->Value}
  (N :∀t,dU E st gh w (args.getD t .no) (vals t)) :
  ∀{L:List (Nat×SS)} {us:List P} {c:Bool×Bool} {gs:List Nat} {r:List (Nat×Nat)} {n:Nat},fQ st.o args L=zw (us,c,gs,r)->(∀p∈L,p.2.flags zj zv=zj)->cin c A->(∀g∈gs,g∈wP)->
   (∀p∈r,m p.1=zw p.2)->At ins n us->(∀t x,(dV ins n L).1.lookup t=zw x->dU E' est oh w x (vals t))/\(dV ins n L).2=n+us.length
 | [],us,c,gs,r,n,h,q,z,b,B,H=>by simp[fQ]at h;obtain⟨rfl,_⟩:=h;exact⟨λt x d=>by simp[dV]at d,rfl⟩
 |(t0,k)::L,us,c,gs,r,n,h,q,z,b,B,H=>by
  simp only[fQ]at h;split at h
  rotate_left
  cases h;rename_i u Z g1 r1 u' c2 g2 r2 U X;cases h;obtain⟨Y,a2⟩:=aeu K M U (q (t0,k) (by simp)) (vJ z) (λg hg=>b g (by simp[hg])) (λp j=>B p (by simp[j])) H.left (N t0);have T:=D7 K M N (n:=n+u.length) X (λp j=>q p (by simp[j])) (rF z) (λg hg=>b g (by simp[hg])) (λp j=>B p (by simp[j])) H.right;simp only[dV,a2];refine⟨λt x d=>?_,by rw[T.2];simp;omega⟩;simp only[List.lookup]at d;split at d
  .rename_i J;have J:t=t0:=by simpa using J
   subst J;cases d;exact Y
  .exact T.1 t x d
end
end Go.Fw

namespace Go.Fw
variable [fO]
def Enters(Pg:Program)(f:FuncId):Prop :=∀(args:Array Value) (w:World),(callFunc f args).run Pg w=.ok (.enter f args) w
def abS(rs:List Value):Value:=match rs with
 | [v]=>v
 |vs=>.tuple vs.toArray
def Sound(Pg:Program)(f:FuncId)(sp:Spec):Prop:=sp.sig.ok=zj/\Enters Pg f/\
 ∀(E:Env) (w:World) (b:List Value) (gh:Nat->Gh) (ins dR:List P),sp.R ins dR->E.B0=w.heap.size->E.w0=w->Rel E (mk sp.sig.pin ins) gh (λk=>b.getD k undef) w->b.length=sp.sig.bg->
  Calls Pg f b.toArray w λe h=>∃(c:List Value) (d:Nat->Gh),c.length=sp.sig.bV/\e=.returned (abS c)/\Rel E (mk sp.sig.aU dR) d (λk=>c.getD k undef) h/\∀g∈sp.sig.bH,((d g).ad=(gh g).ad/\(d g).cap=(gh g).cap)/\((mk sp.sig.pin ins).o g).like ((mk sp.sig.aU dR).o g)
variable{o:Nat->O}
theorem aiu{y:P}{gs:List Nat}(h:x.toP o=zw (y,i,a,gs)):yR o gs:=by
 cases x<;>simp only[W.toP]at h
 case p=>simp only[Q0,QP]at h;obtain⟨_,_,_,rfl⟩:=h;exact yR.nil
 case dD=>simp only[Q0,QP]at h;obtain⟨_,_,_,rfl⟩:=h;exact yR.nil
 case own g=>
  split at h
  .rename_i b;simp only[Q0,QP]at h;obtain⟨_,_,_,rfl⟩:=h;exact wZ b
  .cases h
 case vw g lo c=>
  split at h
  .rename_i b;simp only[Q0,QP]at h;obtain⟨_,_,_,rfl⟩:=h;exact wZ b
  .cases h
 all_goals cases h
theorem Uz{k:WS}{us:List P}{gs:List Nat}(h:gK o k x=zw (us,c,gs,r)):yR o gs:=by
 cases k with
 |p a i=>
  simp only[gK]at h;split at h
  .rename_i d;simp only[Q0,QP]at h;obtain⟨_,_,rfl,_⟩:=h;exact aiu d
  .cases h
 |own g'=>cases x<;>simp[gK]at h;obtain⟨_,_,rfl,_⟩:=h;exact yR.nil
 |box g' off=>
  cases off with
  |succ off=>cases x<;>simp[gK]at h
  |zero=>
   cases x with
   |box g off=>cases off<;>simp[gK]at h;obtain⟨_,_,rfl,_⟩:=h;exact yR.nil
   |_=>simp[gK]at h
 |dD=>simp[gK]at h
 |fn f j=>
  cases x with
  |clo m b=>
   simp only[gK]at h;split at h
   .split at h
    .simp only[Q0,QP]at h;obtain⟨_,_,rfl,_⟩:=h;exact yR.nil
    .cases h
   .cases h
  |_=>simp[gK]at h
 |oI g'=>simp[gK]at h
 |no=>simp[gK]at h
 |vw g'=>simp[gK]at h
 |ep g' off=>simp[gK]at h
theorem OV{o:Nat->O}:∀{b:List WS} {xs:List W} {us:List P} {c:Bool×Bool} {gs:List Nat} {r:List (Nat×Nat)},kE o b xs=zw (us,c,gs,r)->yR o gs
 | [],xs,us,c,gs,r,h=>by cases xs<;>simp[kE]at h;obtain⟨_,_,rfl,_⟩:=h;exact yR.nil
 |k::b,xs,us,c,gs,r,h=>by
  cases xs with
  |nil=>simp[kE]at h
  |cons x xs=>
   simp only[kE]at h;split at h
   .rename_i d g;simp only[Q0,QP]at h;obtain⟨_,_,rfl,_⟩:=h;exact(Uz d).append (OV g)
   .cases h
theorem xB{o:Nat->O}{args:List S}:∀{L:List (Nat×SS)} {us:List P} {c:Bool×Bool} {gs:List Nat} {r:List (Nat×Nat)},fQ o args L=zw (us,c,gs,r)->yR o gs
 | [],us,c,gs,r,h=>by simp[fQ]at h;obtain⟨_,_,rfl,_⟩:=h;exact yR.nil
 |(t,k)::L,us,c,gs,r,h=>by
  simp only[fQ]at h;split at h
  rotate_left
  cases h;rename_i b d;simp only[Q0,QP]at h;obtain⟨_,_,rfl,_⟩:=h;refine yR.append ?_ (xB d)
  .cases k with
   |one k=>
    generalize args.getD t S.no=z at b;cases z with
    |v z=>
     cases z with
     |one z=>exact Uz b
     |agg z=>simp[pJ]at b
    |_=>simp[pJ]at b
   |agg g=>
    generalize args.getD t S.no=z at b;cases z with
    |v z=>
     cases z with
     |one z=>simp[pJ]at b
     |agg z=>exact OV b
    |_=>simp[pJ]at b
theorem xC{vs:List P}:∀{L:List (Nat×OS)} {n g:Nat},g∈L.map (·.1)->∃x,(iD vs n L).1.lookup g=zw x
 | [],n,g,h=>by simp at h
 |(g0,k)::L,n,g,h=>by
  simp only[iD,List.lookup];by_cases e:g=g0
  .subst e;simp
  .have:(g==g0)=zv:=by simpa using e
   rw[this];exact xC (by simpa[e]using h)
theorem lZ{vs:List P}:∀{L:List (Nat×OS)} {n g:Nat} {x:O},(iD vs n L).1.lookup g=zw x->∃k b,(g,k)∈L/\x=(vG vs b k).1
 | [],n,g,x,h=>by simp[iD]at h
 |(g0,k)::L,n,g,x,h=>by
  simp only[iD,List.lookup]at h;split at h
  .rename_i e;have e:g=g0:=by simpa using e
   subst e;simp only[Q0]at h;exact⟨k,n,by simp,h.symm⟩
  .obtain ⟨c,b,d,j⟩:=lZ h;exact⟨c,b,by simp[d],j⟩
theorem yZ{vs:List P}:∀{L:List (Nat×SS)} {n t:Nat} {x:S},(dV vs n L).1.lookup t=zw x->∃k b,(t,k)∈L/\x=(mkS vs b k).1
 | [],n,t,x,h=>by simp[dV]at h
 |(t0,k)::L,n,t,x,h=>by
  simp only[dV,List.lookup]at h;split at h
  .rename_i e;have e:t=t0:=by simpa using e
   subst e;simp only[Q0]at h;exact⟨k,n,by simp,h.symm⟩
  .obtain ⟨c,b,d,g⟩:=yZ h;exact⟨c,b,by simp[d],g⟩
theorem OW(vs:List P)(n:Nat)(k:WS):(rE vs n k).1.names=k.names:=by
 cases k with
 |fn f gs=>simp only[rE,vI,xA,WS.names]
 |_=>simp[rE,W.names,WS.names]
theorem BZ(vs:List P):∀(n:Nat) (b:List WS),(lY vs n b).1.flatMap W.names=b.flatMap WS.names
 |n,[]=>rfl
 |n,k::b=>by simp[lY,OW,BZ vs _ b]
theorem abT(vs:List P)(n:Nat)(k:SS):(mkS vs n k).1.names=k.names:=by
 cases k with
 |one k=>simpa[mkS,S.names,V.names,SS.names]using OW vs n k
 |agg b=>simpa[mkS,S.names,V.names,SS.names]using BZ vs n b
theorem abU(vs:List P)(n:Nat)(k:OS):(vG vs n k).1.names=k.names:=by
 cases k with
 |box b=>simpa[vG,O.names,OS.names]using BZ vs n b
 |arr=>simp[vG,O.names,OS.names]
 |it=>simp[vG,O.names,OS.names]
 |aO=>simp[vG,O.names,OS.names,dN]
variable{j:Shape}{vs:List P}
theorem Xt(h:(mk j vs).o g≠.none):(iD vs (dV vs 0 j.slots).2 j.bI).1.lookup g=zw ((mk j vs).o g):=by
 unfold mk at h ⊢;simp only at h ⊢;split at h
 .rename_i x b;rw[b]
 .exact absurd rfl h
theorem OX(h:g∉j.nms):(mk j vs).o g=.none:=by by_cases hn:(mk j vs).o g=.none;exact hn;obtain⟨k,c,b,d⟩:=lZ (Xt hn);exact absurd (XN.2 ⟨_,b,rfl⟩) h
theorem ald(h:j.ok=zj)(vs:List P):(∀t,∀g∈((mk j vs).s t).names,(mk j vs).used g=zj)/\(∀g,∀g'∈((mk j vs).o g).names,(mk j vs).used g'=zj)/\∀g,(mk j vs).o g≠.none->(mk j vs).used g=zj:=by
 simp only[QR,Shape.ok,Z3,V2,Wa]at h;refine⟨λt g hg=>?_,λg g' b=>?_,λg hg=>?_⟩
 .have hg:g∈(match (dV vs 0 j.slots).1.lookup t with|some x=>x|none=>S.no).names:=hg;cases m:(dV vs 0 j.slots).1.lookup t with
  |none=>rw[m]at hg;simp[S.names]at hg
  |some x=>rw[m]at hg;obtain⟨k,q,c,d⟩:=yZ m;subst d;simp only at hg;rw[abT]at hg;simpa[mk]using h.1.2 _ c g hg
 .by_cases hn:(mk j vs).o g=.none
  .rw [hn]at b;simp[O.names]at b
  .obtain ⟨k,q,c,d⟩:=lZ (Xt hn);rw[d,abU]at b;simpa[mk]using h.2 _ c g' b
 .obtain ⟨k,q,c,d⟩:=lZ (Xt hg);simp only[mk,V2,Wa,Shape.nms];exact XN.2 ⟨_,c,rfl⟩
section
variable {E:Env} {st:St} {gh:Nat->Gh} {w:World} {val:Nat->Value}
def Zb(h:Rel E st gh val w)(st1:St)(c:OT):Env where
 FA:=λb=>E.ok st1 gh w c.A.1 c.A.2 b
 FI:=λb=>E.ok st gh w c.I.1 c.I.2 b
 B0:=w.heap.size
 w0:=w
 Wr:=λb=>∃p∈c.ren,(st.o p.2).cO=zj/\(gh p.2).has b
 hg:=λg B rows hg=>by
  obtain⟨g1,g2,g3⟩:=E.hg g B rows hg;refine⟨Up g1 h.size,?_,λn x z=>⟨(g3 n x z).1,λj y H=>?_⟩⟩
  .rintro ⟨p,L,J,K⟩;rcases (h.wr p.2 g J K).1 with q|q
   .omega
   .exact g2 q
  .obtain ⟨u,d,m⟩:=(g3 n x z).2 j y H;exact⟨u,(World.cell?_of_block (w:=E.w0) (h.frame g g1 g2)).trans d,m.mono λ_ f=>f.elim⟩
theorem Ia{vs:List P}:∀{L:List (Nat×OS)} {n:Nat} {g:Nat} {k:OS},L.lookup g=zw k->∃b,(iD vs n L).1.lookup g=zw (vG vs b k).1
 | [],n,g,k,h=>by cases h
 |(g0,c)::L,n,g,k,h=>by
  simp only[iD,List.lookup]at h ⊢;split at h
  .cases h;exact⟨_,rfl⟩
  .exact Ia h
theorem QM{k:OS}(h:j.bI.lookup g=zw k):∃b,(mk j vs).o g=(vG vs b k).1:=by obtain⟨b,c⟩:=Ia (vs:=vs) (n:=(dV vs 0 j.slots).2) h;refine⟨b,?_⟩;show (match (iD vs (dV vs 0 j.slots).2 j.bI).1.lookup g with|some x=>x|none=>O.none)=_;rw[c]
theorem UA(h:OS.aes (j.bI.lookup g)=zj):∃c,(mk j vs).o g=.box c:=by
 cases b:j.bI.lookup g with
 |none=>rw[b]at h;cases h
 |some k=>
  rw[b]at h;cases k with
  |box m=>obtain⟨q,d⟩:=QM (vs:=vs) b;exact⟨_,d⟩
  |arr=>cases h
  |it=>cases h
  |aO=>cases h
variable{s:Bv}
theorem Bv.abV(h:s.amM=zj){ins dR:List P}:∀g∈s.bH,((Fw.mk s.pin ins).o g).like ((Fw.mk s.aU dR).o g):=λg hg=>by have:=(Z3.1 h) g hg;simp only[QR]at this;obtain⟨j,b⟩:=UA (vs:=ins) this.1;obtain⟨c,d⟩:=UA (vs:=dR) this.2;rw[b,d];trivial
theorem oz{p:Nat×Nat}:∀{r:List (Nat×Nat)},p∈kQ r↔p∈r
 | []=>Iff.rfl
 |q::r=>by
  simp only[kQ];cases h:(r.any λx=>Nat.beq x.1 q.1&&Nat.beq x.2 q.2)with
  |true=>
   simp only[oz (r:=r),Xs];refine⟨.inr,λhp=>?_⟩;rcases hp with rfl|hp
   .obtain ⟨x,b,e⟩:=qa.1 h;simp only[QR]at e;have c:=Q6 e.1;have d:=Q6 e.2;have:x=p:=Prod.ext c d;rw[<-this];exact b
   .exact hp
  |false=>simp only[Xs,oz (r:=r)]
def tK:O->O
 |.arr d _ _ c l=>.arr d zv zv c l
 |.aO _ _ c g l b=>.aO zv zv c g l b
 |x=>x
def uP:O->Bool×Bool
 |.arr _ a i _ _=>(a,i)
 |.aO a i _ _ _ _=>(a,i)
 |_=>(zv,zv)
def Xu:O->Bool
 |.arr _ _ _ _ _=>zj
 |.aO _ _ _ _ _ _=>zj
 |_=>zv
theorem Xv{x y:O}(h:tK x=tK y)(b:uP x=uP y)(c:Xu x=zj):x=y:=by
 cases x<;>simp only[Xu,Wb]at c<;>cases y<;>simp only[tK,uP,O.arr.injEq,O.aO.injEq,QP,reduceCtorEq]at h b
 .obtain ⟨rfl,_,_,rfl,rfl⟩:=h;obtain⟨rfl,rfl⟩:=b;rfl
 .obtain ⟨_,_,rfl,rfl,rfl,rfl⟩:=h;obtain⟨rfl,rfl⟩:=b;rfl
theorem abW(hok:s.ok=zj){args:List S}{c:OT}(U:jo s o args=zw c)(hf:c.fine s=zj):∀p∈c.ren,Xu (o p.2)=zj->tK ((mk s.pin c.ins).o p.1)=tK (o p.2):=by
 unfold jo at U;split at U
 rotate_left
 cases U;rename_i u A gs r hsl;split at U
 rotate_left
 cases U;rename_i b I K hob;cases U;simp only[OT.fine,QR,Z3,QK,V2,Wa,V0,decide_eq_false_iff_not,XN,forall_exists_index,and_imp,forall_apply_eq_imp_iff₂]at hf;obtain⟨⟨⟨hn2,B⟩,hdisj⟩,M⟩:=hf;have B:=jS B;have J:=hok;simp only[Bv.ok,QR]at J;obtain⟨⟨⟨⟨⟨⟨⟨⟨aev,Zc⟩,hps⟩,hpo⟩,_⟩,_⟩,_⟩,_⟩,_⟩:=J;have hm :∀p∈K,(λg'=>(kQ K).lookup g') p.1=zw p.2:=λp d=>nM B (oz.2 d);have hAt:At (u++b) 0 (u++b):=λk y X=>by rw[Vi];exact X
 have amP :∀p∈s.pin.bI,match p.2 with|.box Y=>∀k∈Y,k.flags zv zj=zj|.arr fz a i _=>fz=zv/\a=zv/\i=zj|.aO a i _ _=>a=zv/\i=zj|.it=>False:=by
  intro p d;have:=(Z3.1 hpo) p d;obtain⟨g,k⟩:=p;cases k with
  |box Y=>simp only[QR,Z3]at this;exact λk X=>this.1 k X
  |arr fz a i N=>simp only[QR,V0]at this;exact⟨this.1.1,this.1.2,this.2⟩
  |aO a i N au=>simp only[QR,V0]at this;exact this
  |it=>simp at this
 have UC:(dV (u++b) 0 s.pin.slots).2=u.length:=by
  have :∀{L:List (Nat×SS)} {us:List P} {c:Bool×Bool} {gs:List Nat} {r:List (Nat×Nat)} {n:Nat} (vs:List P),fQ o args L=zw (us,c,gs,r)->(∀p∈L,p.2.flags zj zv=zj)->(dV vs n L).2=n+us.length:=by
   intro L
   induction L with
   |nil=>intro us c gs r n vs h _;simp[fQ]at h;obtain⟨rfl,_⟩:=h;rfl
   |cons p L ih=>
    intro us c gs r n vs h X;obtain⟨t0,k⟩:=p;simp only[fQ]at h;split at h
    rotate_left
    cases h;rename_i u c1 g1 r1 b c2 g2 r2 q h2;cases h;have e1:(mkS vs n k).2=n+u.length:=by
     have hkk:=X (t0,k) (by simp);have one :∀(k:WS) (x:W) (us:List P) (c:Bool×Bool) (gs:List Nat) (r:List (Nat×Nat)) (n:Nat),gK o k x=zw (us,c,gs,r)->(rE vs n k).2=n+us.length:=by
      intro k x us c gs r n h;cases k with
      |p a i=>
       simp only[gK]at h;split at h
       .simp only[Q0,QP]at h;obtain⟨rfl,_⟩:=h;rfl
       .cases h
      |own g'=>cases x<;>simp[gK]at h;obtain⟨rfl,_⟩:=h;rfl
      |box g' off=>
       cases off with
       |succ off=>cases x<;>simp[gK]at h
       |zero=>
        cases x with
        |box g off=>cases off<;>simp[gK]at h;obtain⟨rfl,_⟩:=h;rfl
        |_=>simp[gK]at h
      |dD=>simp[gK]at h
      |fn f gs0=>
       cases x with
       |clo f' caps=>
        simp only[gK]at h;split at h
        .split at h
         .simp only[Q0,QP]at h;obtain⟨rfl,_⟩:=h;rfl
         .cases h
        .cases h
       |_=>simp[gK]at h
      |oI g'=>simp[gK]at h
      |no=>simp[gK]at h
      |vw g'=>simp[gK]at h
      |ep g' off=>simp[gK]at h
     cases k with
     |one k=>
      generalize args.getD t0 S.no=z at q;cases z with
      |v z=>
       cases z with
       |one z=>exact one k z _ _ _ _ n q
       |agg z=>simp[pJ]at q
      |_=>simp[pJ]at q
     |agg T=>
      generalize args.getD t0 S.no=z at q;cases z with
      |v z=>
       cases z with
       |one z=>simp[pJ]at q
       |agg z=>
        have :∀(T:List WS) (z:List W) (us:List P) (c:Bool×Bool) (gs:List Nat) (r:List (Nat×Nat)) (n:Nat),kE o T z=zw (us,c,gs,r)->(lY vs n T).2=n+us.length:=by
         intro T
         induction T with
         |nil=>intro z us c gs r n h;cases z<;>simp[kE]at h;obtain⟨rfl,_⟩:=h;rfl
         |cons k T ih=>
          intro z us c gs r n h;cases z with
          |nil=>simp[kE]at h
          |cons x xs=>
           simp only[kE]at h;split at h
           .rename_i u c1 g1 r1 b c2 g2 r2 q h2;cases h;simp only[lY];rw[one k x _ _ _ _ n q,ih _ _ _ _ _ _ h2];simp;omega
           .cases h
        exact this T z _ _ _ _ n q
      |_=>simp[pJ]at q
    simp only[dV];rw[e1,ih vs h2 (λp d=>X p (by simp[d]))];simp;omega
  have:=this (n:=0) (u++b) hsl (λp d=>by have:=(Z3.1 hps) p d;simp only[QR]at this;exact this.1);omega
 obtain⟨⟨r0,hr0⟩,UD⟩:=vK (m:=λg'=>(kQ K).lookup g') (nil:=λ_=>False) (I:=I) (ins:=u++b) (n:=u.length) hob amP (KI I) hm (by have:=hAt.right;rwa [Vi]at this);have Fq :∀g' x,(mk s.pin (u++b)).o g'=x->x≠.none->∃g,(kQ K).lookup g'=zw g/\Ow (Cio I) (λg'=>(kQ K).lookup g') (λ_=>False) (o g) x/\(g',g)∈kQ K/\(o g).cO=zj/\((∃Y,x=.box Y)\/(∃l N,x=.arr zv zv zj N l)\/∃l N au,x=.aO zv zj N au l zz):=by intro g' x Z hne;have:=Xt (j:=s.pin) (vs:=u++b) (g:=g') (by rw[Z];exact hne);rw[UC,Z]at this;obtain⟨g,k1,k2,k3,k4⟩:=UD g' x this;exact⟨g,k1,k2,oz.2 k3,k4⟩
 intro p d ha;have hkey:p.1∈s.pin.bI.map (·.1):=M p d;obtain⟨x,Z⟩:=xC (vs:=u++b) (n:=u.length) hkey;obtain⟨g,hg,H,hmem,hown,hsh⟩:=UD p.1 x Z;have hl:=nM B d;have:g=p.2:=by have hg':(kQ K).lookup p.1=zw g:=hg;rw[hl]at hg';exact(Wt hg').symm
 subst this;have hmk:(mk s.pin (u++b)).o p.1=x:=by show (match (iD (u++b) (dV (u++b) 0 s.pin.slots).2 s.pin.bI).1.lookup p.1 with|some x=>x|none=>O.none)=x;rw[UC,Z]
 rw[hmk];generalize hz:o p.2=z at H ha;rcases hsh with⟨Y,rfl⟩|⟨l,N,rfl⟩|⟨l,N,au,rfl⟩
 .cases H;cases ha
 .cases H;rfl
 .cases H;rfl
theorem Xw(h:Rel E st gh val w)(hok:s.ok=zj){args:List S}{q:Nat->Value}(hr :∀t,dU E st gh w (args.getD t .no) (q t)){c:OT}(hc:jo s st.o args=zw c)(hf:c.fine s=zj)
  (st1:St) (hst1:st1=st.aJ (c.wP.map (Fw.bC st.o)) []) (E':Env) (M:E'=Zb h st1 c) :
  Rel E st1 gh val w/\Lets E st st1 gh gh w w/\Rel E' (mk s.pin c.ins) (kP gh λg'=>c.ren.lookup g') q w/\
  (∀p∈c.ren,(st.o p.2).cO=zj/\p.2∉c.wP/\c.ren.lookup p.1=zw p.2/\((s.bH.contains p.1=zj/\∃ws ws',st.o p.2=.box ws/\(mk s.pin c.ins).o p.1=.box ws')\/(∃a i sz l,st.o p.2=.arr zv a i sz l/\cin (a,i) c.I/\(mk s.pin c.ins).o p.1=.arr zv zv zj sz l)\/(∃a i sz au l,st.o p.2=.aO a i sz au l zz/\cin (a,i) c.I/\(mk s.pin c.ins).o p.1=.aO zv zj sz au l zz))):=by
 unfold jo at hc;split at hc
 rotate_left
 cases hc;rename_i u A gs r hsl;split at hc
 rotate_left
 cases hc;rename_i B I X hob;cases hc;simp only[OT.fine,QR,Z3,QK,V2,Wa,V0,decide_eq_false_iff_not,XN,forall_exists_index,and_imp,forall_apply_eq_imp_iff₂]at hf;obtain⟨⟨⟨hn2,hn1⟩,hdisj⟩,hkeys⟩:=hf;have hn1:=jS hn1;have hok':=hok;simp only[Bv.ok,QR]at hok';obtain⟨⟨⟨⟨⟨⟨⟨⟨aev,Zc⟩,hps⟩,hpo⟩,_⟩,_⟩,_⟩,_⟩,_⟩:=hok';have amQ:=xB hsl;obtain⟨f1,f2⟩:=Rel.freezes gs h amQ;subst hst1;have hm :∀p∈X,(λg'=>(kQ X).lookup g') p.1=zw p.2:=λp N=>nM hn1 (oz.2 N);have hAt:At (u++B) 0 (u++B):=λk y Y=>by rw[Vi];exact Y
 have amP :∀p∈s.pin.bI,match p.2 with|.box ws=>∀k∈ws,k.flags zv zj=zj|.arr fz a i _=>fz=zv/\a=zv/\i=zj|.aO a i _ _=>a=zv/\i=zj|.it=>False:=by
  intro p N;have:=(Z3.1 hpo) p N;obtain⟨g,k⟩:=p;cases k with
  |box ws=>simp only[QR,Z3]at this;exact λk Y=>this.1 k Y
  |arr fz a i sz=>simp only[QR,V0]at this;exact⟨this.1.1,this.1.2,this.2⟩
  |aO a i sz au=>simp only[QR,V0]at this;exact this
  |it=>simp at this
 have UC:(dV (u++B) 0 s.pin.slots).2=u.length:=by
  have :∀{L:List (Nat×SS)} {us:List P} {c:Bool×Bool} {gs:List Nat} {r:List (Nat×Nat)} {n:Nat} (vs:List P),fQ st.o args L=zw (us,c,gs,r)->(∀p∈L,p.2.flags zj zv=zj)->(dV vs n L).2=n+us.length:=by
   intro L
   induction L with
   |nil=>intro us c gs r n vs h _;simp[fQ]at h;obtain⟨rfl,_⟩:=h;rfl
   |cons p L ih=>
    intro us c gs r n vs h Y;obtain⟨t0,k⟩:=p;simp only[fQ]at h;split at h
    rotate_left
    cases h;rename_i u c1 g1 r1 B c2 g2 r2 H Z;cases h;have e1:(mkS vs n k).2=n+u.length:=by
     have hkk:=Y (t0,k) (by simp);have one :∀(k:WS) (x:W) (us:List P) (c:Bool×Bool) (gs:List Nat) (r:List (Nat×Nat)) (n:Nat),gK st.o k x=zw (us,c,gs,r)->(rE vs n k).2=n+us.length:=by
      intro k x us c gs r n h;cases k with
      |p a i=>
       simp only[gK]at h;split at h
       .simp only[Q0,QP]at h;obtain⟨rfl,_⟩:=h;rfl
       .cases h
      |own g'=>cases x<;>simp[gK]at h;obtain⟨rfl,_⟩:=h;rfl
      |box g' off=>
       cases off with
       |succ off=>cases x<;>simp[gK]at h
       |zero=>
        cases x with
        |box g off=>cases off<;>simp[gK]at h;obtain⟨rfl,_⟩:=h;rfl
        |_=>simp[gK]at h
      |dD=>simp[gK]at h
      |fn f gs0=>
       cases x with
       |clo f' caps=>
        simp only[gK]at h;split at h
        .split at h
         .simp only[Q0,QP]at h;obtain⟨rfl,_⟩:=h;rfl
         .cases h
        .cases h
       |_=>simp[gK]at h
      |oI g'=>simp[gK]at h
      |no=>simp[gK]at h
      |vw g'=>simp[gK]at h
      |ep g' off=>simp[gK]at h
     cases k with
     |one k=>
      generalize args.getD t0 S.no=z at H;cases z with
      |v z=>
       cases z with
       |one z=>exact one k z _ _ _ _ n H
       |agg z=>simp[pJ]at H
      |_=>simp[pJ]at H
     |agg ks=>
      generalize args.getD t0 S.no=z at H;cases z with
      |v z=>
       cases z with
       |one z=>simp[pJ]at H
       |agg z=>
        have :∀(ks:List WS) (z:List W) (us:List P) (c:Bool×Bool) (gs:List Nat) (r:List (Nat×Nat)) (n:Nat),kE st.o ks z=zw (us,c,gs,r)->(lY vs n ks).2=n+us.length:=by
         intro ks
         induction ks with
         |nil=>intro z us c gs r n h;cases z<;>simp[kE]at h;obtain⟨rfl,_⟩:=h;rfl
         |cons k ks ih=>
          intro z us c gs r n h;cases z with
          |nil=>simp[kE]at h
          |cons x xs=>
           simp only[kE]at h;split at h
           .rename_i u c1 g1 r1 B c2 g2 r2 H Z;cases h;simp only[lY];rw[one k x _ _ _ _ n H,ih _ _ _ _ _ _ Z];simp;omega
           .cases h
        exact this ks z _ _ _ _ n H
      |_=>simp[pJ]at H
    simp only[dV];rw[e1,ih vs Z (λp N=>Y p (by simp[N]))];simp;omega
  have:=this (n:=0) (u++B) hsl (λp N=>by have:=(Z3.1 hps) p N;simp only[QR]at this;exact this.1);omega
 obtain⟨⟨r0,hr0⟩,UD⟩:=vK (m:=λg'=>(kQ X).lookup g') (nil:=λ_=>False) (I:=I) (ins:=u++B) (n:=u.length) hob amP (KI I) hm (by have:=hAt.right;rwa [Vi]at this);have Fq :∀g' x,(mk s.pin (u++B)).o g'=x->x≠.none->∃g,(kQ X).lookup g'=zw g/\Ow (Cio I) (λg'=>(kQ X).lookup g') (λ_=>False) (st.o g) x/\(g',g)∈kQ X/\(st.o g).cO=zj/\((∃ws,x=.box ws)\/(∃l sz,x=.arr zv zv zj sz l)\/∃l sz au,x=.aO zv zj sz au l zz):=by intro g' x hx hne;have:=Xt (j:=s.pin) (vs:=u++B) (g:=g') (by rw[hx];exact hne);rw[UC,hx]at this;obtain⟨g,k1,k2,k3,k4⟩:=UD g' x this;exact⟨g,k1,k2,oz.2 k3,k4⟩
 have jl :∀p∈kQ X,(st.o p.2).cO=zj/\p.2∉gs/\(kQ X).lookup p.1=zw p.2/\((s.bH.contains p.1=zj/\∃ws ws',st.o p.2=.box ws/\(mk s.pin (u++B)).o p.1=.box ws')\/(∃a i sz l,st.o p.2=.arr zv a i sz l/\cin (a,i) I/\(mk s.pin (u++B)).o p.1=.arr zv zv zj sz l)\/(∃a i sz au l,st.o p.2=.aO a i sz au l zz/\cin (a,i) I/\(mk s.pin (u++B)).o p.1=.aO zv zj sz au l zz)):=by
  intro p N;have hkey:p.1∈s.pin.bI.map (·.1):=hkeys p N;obtain⟨x,hx⟩:=xC (vs:=u++B) (n:=u.length) hkey;obtain⟨g,hg,d,J,K,_⟩:=UD p.1 x hx;have hl:=nM hn1 N;have:g=p.2:=by have hg':(kQ X).lookup p.1=zw g:=hg;rw[hl]at hg';exact(Wt hg').symm
  subst this;refine⟨K,hdisj p N,hl,?_⟩;have hmk:(mk s.pin (u++B)).o p.1=x:=by show (match (iD (u++B) (dV (u++B) 0 s.pin.slots).2 s.pin.bI).1.lookup p.1 with|some x=>x|none=>O.none)=x;rw[UC,hx]
  obtain⟨k,n',H,Z⟩:=lZ hx;have Y:=(Z3.1 hpo) _ H;rw[hmk];subst Z;cases k with
  |box ws=>simp only[QR]at Y;generalize hz:st.o p.2=z at d;cases d;exact .inl ⟨Y.2,_,_,rfl,rfl⟩
  |arr fz a i sz=>simp only[QR,V0]at Y;obtain⟨⟨rfl,rfl⟩,rfl⟩:=Y;generalize hz:st.o p.2=z at d;refine .inr (.inl ?_);cases d with|arr _ _ _ hc=>exact⟨_,_,_,_,rfl,hc.2.2,rfl⟩
  |aO a i sz au=>simp only[QR,V0]at Y;obtain⟨rfl,rfl⟩:=Y;generalize hz:st.o p.2=z at d;refine .inr (.inr ?_);cases d with|aO _ _ _ hc=>exact⟨_,_,_,_,_,rfl,hc.2.2,rfl⟩
  |it=>simp at Y
 have qP :∀g' b,((mk s.pin (u++B)).o g').cO=zj->(kP gh (λg'=>(kQ X).lookup g') g').has b->∃g,(g',g)∈kQ X/\(st.o g).cO=zj/\(gh g).has b/\g∉gs:=by intro g' b vals T;obtain⟨g,hg,_,J,K,_⟩:=Fq g' _ rfl (by intro e;rw[e]at vals;cases vals);refine⟨g,J,K,?_,(jl _ J).2.1⟩;simpa[kP,hg]using T
 have apQ :∀g,g∉gs->(st.aJ (gs.map (Fw.bC st.o)) []).o g=st.o g:=by intro g hg;rw[ig,Qt hg]
 have hcast:Cast (Cio I) (λg'=>(kQ X).lookup g') (λ_=>False) E E' st (mk s.pin (u++B)) gh (kP gh λg'=>(kQ X).lookup g') w:=by
  refine⟨λa i a' i' b hC hb=>?_,λg g' hg sz len vals=>⟨by simp only[kP,hg];exact⟨trivial,trivial⟩,?_⟩,λg g' hg ws vals=>⟨by simp only[kP,hg],?_⟩,λg g' hg s n vals=>⟨by simp only[kP,hg],?_⟩,λg' hf=>hf.elim⟩
  .obtain ⟨rfl,rfl,hci⟩:=hC;subst M;refine⟨.inr (.inl ⟨rfl,.inl (Env.qC hci.1 hci.2 hb)⟩),hb.2.1,λg' vals T=>?_⟩;obtain⟨g,_,H,Z,_⟩:=qP g' b vals T;exact hb.2.2 g H Z
  .obtain ⟨g2,U,d,_⟩:=Fq g' _ rfl (by intro e;rw[e]at vals;cases vals);rw[hg]at U;cases U;exact d.dim vals
  .obtain ⟨g2,U,d,_⟩:=Fq g' _ vals (by simp);rw[hg]at U;cases U;generalize st.o g=z at d;cases d;exact⟨_,rfl⟩
  .obtain ⟨g2,U,d,_⟩:=Fq g' _ vals (by simp);rw[hg]at U;cases U;generalize st.o g=z at d;cases d;exact⟨_,_,rfl⟩
 have hP :∀x v y a i gs',f_ E st gh w x v->x.toP st.o=zw (y,a,i,gs')->cin (a,i) A->(∀g∈gs',g∈gs)->dH w (E'.ok (mk s.pin (u++B)) (kP gh λg'=>(kQ X).lookup g') w zj zv) y v:=by intro x v y a i gs' hrx ht hci hsub;have:=(QB h hrx ht).2 _ (λg hg=>by rw[ig,QQ (hsub g hg)]) f1 f2;refine this.mono λb hb=>⟨?_,rfl⟩;subst M;refine⟨.inl ⟨rfl,Env.qC hci.1 hci.2 hb⟩,hb.2.1,λg' vals T=>?_⟩;obtain⟨g,_,H,Z,h3⟩:=qP g' b vals T;exact hb.2.2 g (by rw[apQ g h3];exact H) Z
 have aui :∀p∈s.pin.slots,p.2.flags zj zv=zj:=λp N=>by have:=(Z3.1 hps) p N;simp only[QR]at this;exact this.1
 have rZ:=(D7 hP hcast hr (n:=0) hsl aui (KI A) (λg hg=>hg) (λp N=>hm p (by rw[hr0];exact W6 _ N)) hAt.left).1;have hus:=ald aev (u++B);refine⟨f1,f2,⟨λt=>?_,λg'=>?_,λg1 g2 b H Z k1 k2=>?_,λg' b vals T=>?_,λg' i b vals T hw=>?_,λg' vals hd b=>?_,λb hb=>?_,λb _ _=>?_,?_,?_,?_,?_,hus.1,hus.2.1,hus.2.2⟩,jl⟩
 .show dU _ _ _ _ (match (dV (u++B) 0 s.pin.slots).1.lookup t with|some x=>x|none=>.no) _;cases hx:(dV (u++B) 0 s.pin.slots).1.lookup t with
  |none=>exact .no _
  |some x=>exact rZ t x hx
 .by_cases hne:(mk s.pin (u++B)).o g'=.none
  .rw [hne];trivial
  .obtain ⟨g,hg,d,_⟩:=Fq g' _ rfl hne;have:kP gh (λg'=>(kQ X).lookup g') g'=gh g:=by simp only[kP,hg]
   rw[this];exact hcast.Dz d (h.bI g)
 .obtain ⟨q1,m1,o1,d1,_⟩:=qP g1 b H k1;obtain⟨q2,m2,o2,d2,_⟩:=qP g2 b Z k2;have:=h.inj q1 q2 b o1 o2 d1 d2;subst this;have hn2:=jS hn2;have key :∀{l:List (Nat×Nat)},(l.map (·.2)).Nodup->(g1,q1)∈l->(g2,q1)∈l->g1=g2:=by
   intro l
   induction l with
   |nil=>intro _ h;cases h
   |cons p l ih=>
    intro hn e1 e2;simp only[Qf,K5]at hn;rcases Xs.1 e1 with f1|f1<;>rcases Xs.1 e2 with f2|f2
    .rw [<-f1]at f2;cases f2;rfl
    .have:q1∈l.map (·.2):=XN.2 ⟨(g2,q1),f2,rfl⟩;rw[<-f1]at hn;exact absurd this hn.1
    .have:q1∈l.map (·.2):=XN.2 ⟨(g1,q1),f1,rfl⟩;rw[<-f2]at hn;exact absurd this hn.1
    .exact ih hn.2 f1 f2
  exact key hn2 m1 m2
 .obtain ⟨g,J,H,Z,_⟩:=qP g' b vals T;subst M;exact⟨.inr ⟨(g',g),J,H,Z⟩,(h.wr g b H Z).2⟩
 .obtain ⟨g,hg,d,J,K,hsh⟩:=Fq g' _ rfl (by intro e;rw[e]at vals;cases vals);rcases hsh with⟨ws,e⟩|⟨l',sz',e⟩|⟨l',sz',au,e⟩
  .rw [e]at vals;cases vals
  .rw [e]at vals;cases vals;rfl
  .rw [e]at vals;cases vals;rfl
 .obtain ⟨g,hg,d,J,K,hsh⟩:=Fq g' _ rfl (by intro e;rw[e]at vals;cases vals);have e:kP gh (λg'=>(kQ X).lookup g') g'=gh g:=by simp only[kP,hg]
  rw[e];exact h.ns g K (by rw[(d.cO vals).2];exact hd) b
 .subst M;obtain⟨p,N,_,H⟩:=hb;exact(h.wr p.2 b (jl p N).1 H).2
 .subst M;rfl
 .subst M;exact YY _
 .subst M;rfl
 .subst M;rfl
 .subst M;rfl
end
end Go.Fw

namespace Go.Fw
variable [fO]
def Ib(A I:Bool×Bool)(lk:Bool)(a i a' i':Bool):Prop:=(a',i')=r_ A I a i/\(a=zj->lk=zj)
section
variable {A I:Bool×Bool} {lk:Bool} {m:Nat->Option Nat} {f:Nat->Nat} {aY:List Nat} {vs:List P}
theorem ale(q :∀g∈aY,m (f g)=zw g){k:WS}(b:k.dR aY=zj)(J:k.isA=zj->lk=zj)(n:Nat):
  Ww (Ib A I lk) m (λ_=>False) (rE vs n k).1 (Xd A I f (rE vs n k).1)/\∀g∈(Xd A I f (rE vs n k).1).names,∃g0∈aY,g=f g0:=by
 cases k with
 |p a i=>exact⟨.p _ ⟨rfl,J⟩,by simp[rE,Xd,W.names]⟩
 |own g=>simp only[WS.dR,V2,Wa]at b;exact⟨.own (q g b),λg' hg'=>⟨g,b,by simpa[rE,Xd,W.names]using hg'⟩⟩
 |dD=>exact⟨.dD,by simp[rE,Xd,W.names]⟩
 |box g off=>simp only[WS.dR,V2,Wa]at b;exact⟨.box (q g b),λg' hg'=>⟨g,b,by simpa[rE,Xd,W.names]using hg'⟩⟩
 |fn fn gs=>
  have b :∀g∈gs,g∈aY:=by simpa[WS.dR,Z3]using b
  have key :∀(gs:List Nat),(∀g∈gs,g∈aY)->(iC gs).length=(lI f (iC gs)).length/\(∀(j:Nat) x y,(iC gs)[j]?=zw x->(lI f (iC gs))[j]?=zw y->Ww (Ib A I lk) m (λ_=>False) x y)/\∀g∈(lI f (iC gs)).flatMap W.names,∃g0∈aY,g=f g0:=by
   intro gs
   induction gs with
   |nil=>intro _;exact⟨rfl,λj x y c=>(by simp[iC]at c),by simp[iC,lI]⟩
   |cons g gs K=>
    intro h;obtain⟨z,B,H⟩:=K λg hg=>h g (by simp[hg]);refine⟨by simp[iC,lI,z],λj x y c d=>?_,λg' hg'=>?_⟩
    .cases j with
     |zero=>simp[iC,lI]at c d;subst c d;exact .box (q g (h g (by simp)))
     |succ j=>simp[iC,lI]at c d;exact B j x y c d
    .simp only[iC,lI,Z6,Ys]at hg';rcases hg' with hg'|hg'
     .exact ⟨g,h g (by simp),by simpa[W.names]using hg'⟩
     .exact H g' hg'
  obtain⟨z,B,H⟩:=key gs b;exact⟨.clo fn _ _ z B,λg hg=>by have hg:g∈(W.clo fn (lI f (iC gs))).names:=hg;rw[vI]at hg;exact H g hg⟩
 |oI g=>cases b
 |no=>cases b
 |vw g=>cases b
 |ep g off=>cases b
theorem UE:∀{b:List WS} {n:Nat} {x:W},x∈(lY vs n b).1->∃k∈b,∃c,x=(rE vs c k).1
 | [],n,x,h=>by simp[lY]at h
 |k::b,n,x,h=>by
  simp only[lY,Xs]at h;rcases h with h|h
  .exact ⟨k,by simp,n,h⟩
  .obtain ⟨d,g,j⟩:=UE h;exact⟨d,by simp[g],j⟩
theorem aew(z :∀g∈aY,m (f g)=zw g){b:List WS}(B:b.all (WS.dR aY)=zj)(H:b.any WS.isA=zj->lk=zj)(n:Nat):
  (∀(j:Nat) x y,(lY vs n b).1[j]?=zw x->((lY vs n b).1.map (Xd A I f))[j]?=zw y->Ww (Ib A I lk) m (λ_=>False) x y)/\
  ∀g∈((lY vs n b).1.map (Xd A I f)).flatMap W.names,∃g0∈aY,g=f g0:=by
 have key :∀x∈(lY vs n b).1,Ww (Ib A I lk) m (λ_=>False) x (Xd A I f x)/\∀g∈(Xd A I f x).names,∃g0∈aY,g=f g0:=by intro x c;obtain⟨k,q,J,rfl⟩:=UE c;exact ale z ((Z3.1 B) k q) (λh=>H (qa.2 ⟨k,q,h⟩)) J
 refine⟨λj x y c d=>?_,λg hg=>?_⟩
 .rw [Z0,c]at d;simp only[W7,Q0]at d;subst d;exact(key x (Z1 c)).1
 .simp only[Z2,XN]at hg;obtain⟨_,⟨x,c,rfl⟩,hg⟩:=hg;exact(key x c).2 g hg
theorem apR(d :∀g∈aY,m (f g)=zw g){k:SS}(h:k.dR aY=zj)(j:k.isA=zj->lk=zj)(n:Nat):
  ∃x,(mkS vs n k).1=.v x/\Vw (Ib A I lk) m (λ_=>False) x (reV A I f x)/\∀g∈(reV A I f x).names,∃g0∈aY,g=f g0:=by
 cases k with
 |one k=>obtain⟨b,c⟩:=ale (vs:=vs) (A:=A) (I:=I) d h j n;exact⟨_,rfl,.one b,c⟩
 |agg q=>obtain⟨b,c⟩:=aew (vs:=vs) (A:=A) (I:=I) d h j n;exact⟨_,rfl,.agg _ _ (by simp) b,c⟩
theorem apS(d :∀g∈aY,m (f g)=zw g){k:OS}(h :∀c,k=.box c->c.all (WS.dR aY)=zj)(b:k.isA=zj->lk=zj)(n:Nat):
  Ow (Ib A I lk) m (λ_=>False) (vG vs n k).1 (yK A I f (vG vs n k).1)/\∀g∈(yK A I f (vG vs n k).1).names,∃g0∈aY,g=f g0:=by
 cases k with
 |box j=>obtain⟨q,y⟩:=aew (vs:=vs) (A:=A) (I:=I) d (h j rfl) b n;exact⟨.box _ _ (by simp) q,y⟩
 |arr B a i z=>exact⟨.arr _ _ _ ⟨rfl,b⟩,by simp[vG,yK,O.names]⟩
 |it=>exact⟨.it _ _,by simp[vG,yK,O.names]⟩
 |aO a i z H=>exact⟨.aO _ _ _ ⟨rfl,b⟩,by simp[vG,yK,O.names,dN]⟩
end
theorem OY(x:O):(yK c A f x).cO=x.cO:=by cases x<;>rfl
variable{I:Bool×Bool}
theorem Xx(x:O):(yK A I f x).pz=x.pz:=by cases x<;>rfl
theorem aiv(x:O):(yK A I f x).dim=x.dim:=by cases x<;>rfl
variable{x:O}
theorem abX(h:(yK c A f x).inner=zw i):∃a i0,x.inner=zw i0/\i=(r_ c A a i0).2:=by
 cases x with
 |arr I a i0 d l=>
  cases I with
  |false=>cases h;exact⟨a,i0,rfl,rfl⟩
  |true=>cases h
 |aO a i0 d g l b=>cases h;exact⟨a,i0,rfl,rfl⟩
 |_=>cases h
theorem aiw{c:List W}(h:yK A I f x=.box c):∃b,x=.box b:=by cases x<;>first|exact⟨_,rfl⟩|cases h
theorem amR{s n:P}(h:yK A I f x=.it s n):∃b c,x=.it b c:=by cases x<;>first|exact⟨_,_,rfl⟩|cases h
theorem Ic(hg:d∈b)(h:newName g b d=newName g b n):d=n:=by
 unfold newName at h;have e:b.idxOf d=b.idxOf n:=by omega
 have g':b.idxOf d<b.length:=List.idxOf_lt_length_of_mem hg;have c:b.idxOf n<b.length:=by omega
 have j:=List.getElem_idxOf g';have a2:=List.getElem_idxOf c;rw[<-j,<-a2];congr 1
def zf(d:Nat)(aY:List Nat)(g:Nat):Option Nat:=aY.find? λg0=>newName d aY g0==g
theorem QN(hg:d∈b):zf g b (newName g b d)=zw d:=by
 unfold zf;cases h:b.find? λg0=>newName g b g0==newName g b d with
 |none=>have:=vr.1 h d hg;simp at this
 |some g'=>have aY:=vp h;simp only[beq_iff_eq]at aY;rw[Ic (Kx h) aY]
theorem Og{g0:Nat}(h:zf g b d=zw g0):g0∈b/\newName g b g0=d:=by unfold zf at h;exact⟨Kx h,by simpa using vp h⟩
theorem mV{α:Type}{g:Nat}:∀{l r:List (Nat×α)},(l++r).lookup g=(l.lookup g).or (r.lookup g)
 | [],r=>by simp
 |(k,v)::l,r=>by
  simp only[Kk,List.lookup];split
  .rfl
  .exact mV
theorem zh{α:Type}{k:Nat->Nat}{v:Nat->α}{g:Nat}:∀{l:List Nat},(∀g'∈l,k g'≠g)->(l.map λx=>(k x,v x)).lookup g=zz
 | [],_=>rfl
 |x::l,h=>by
  have:(g==k x)=zv:=by have:=h x (by simp);simp;exact λe=>this e.symm
  simp only[Qf,List.lookup,this];exact zh λg' b=>h g' (by simp[b])
theorem yA{α:Type}{k:Nat->Nat}{v:Nat->α}{g0:Nat}:∀{l:List Nat},g0∈l->(∀g'∈l,k g'=k g0->g'=g0)->(l.map λx=>(k x,v x)).lookup (k g0)=zw (v g0)
 | [],h,_=>by cases h
 |x::l,h,c=>by
  simp only[Qf,List.lookup];by_cases e:k x=k g0
  .have:=c x (by simp) e;subst this;simp
  .have:(k g0==k x)=zv:=by simp;exact λh=>e h.symm
   rw[this];rcases Xs.1 h with h|h
   .subst h;exact absurd rfl e
   .exact yA h λg' b=>c g' (by simp[b])
theorem mg{α:Type}{v:Nat×Nat->α}{p:Nat×Nat}:∀{l:List (Nat×Nat)},(l.map (·.2)).Nodup->p∈l->(l.map λp=>(p.2,v p)).lookup p.2=zw (v p)
 | [],_,h=>by cases h
 |x::l,hn,h=>by
  simp only[Qf,K5]at hn;simp only[Qf,List.lookup];rcases Xs.1 h with h|h
  .subst h;simp
  .have:(p.2==x.2)=zv:=by simp only[beq_eq_false_iff_ne];intro e;exact hn.1 (e▸XN.2 ⟨p,h,rfl⟩)
   rw[this];exact mg hn.2 h
theorem ny{α:Type}{v:Nat×Nat->α}{g:Nat}:∀{l:List (Nat×Nat)},g∉l.map (·.2)->(l.map λp=>(p.2,v p)).lookup g=zz
 | [],_=>rfl
 |x::l,h=>by
  simp only[Qf,Xs,not_or]at h;have:(g==x.2)=zv:=by simpa using h.1
  simp only[Qf,List.lookup,this];exact ny h.2
theorem O.OZ{z:O}(h:O.none.like z):z=.none:=by cases z<;>first|rfl|exact h.elim
theorem O.KJ{y z:O}(b:x.like y)(c:y.like z):z=.none\/x.like z:=.inr (O.like.trans b c)
variable{s:Bv}{o:Nat->O}{c:OT}
theorem Xy{args:List S}(b:jo s o args=zw c):yR o c.wP:=by
 unfold jo at b;split at b
 .rename_i d;split at b
  .cases b;exact xB d
  .cases b
 .cases b
theorem B_{α:Type}{g:Nat}{v:α}:∀{l:List (Nat×α)},l.lookup g=zw v->(g,v)∈l
 | [],h=>by cases h
 |(k,x)::l,h=>by
  simp only[List.lookup]at h;split at h
  .rename_i e;simp only[beq_iff_eq]at e;cases h;subst e;simp
  .exact V1 _ (B_ h)
theorem tN{o:Nat->O}:∀{L:List (Nat×OS)} {r b:List (Nat×Nat)} {u:List P} {c:Bool×Bool},j_ o r L=zw (u,c,b)->(∀p∈r,p∈b)/\∀p∈L,∃q∈b,q.1=p.1
 | [],r,b,u,c,h=>by simp only[j_,Q0,QP]at h;obtain⟨_,_,rfl⟩:=h;exact⟨λp hp=>hp,λp hp=>by cases hp⟩
 |(g',k)::rest,r,b,u,c,h=>by
  simp only[j_]at h;split at h
  rotate_left
  cases h;rename_i g hg;have j:=B_ hg;have fin :∀{y:List (Nat×Nat)},(∀p∈r,p∈y)->((∀p∈y,p∈b)/\∀p∈rest,∃q∈b,q.1=p.1)->(∀p∈r,p∈b)/\∀p∈(g',k)::rest,∃q∈b,q.1=p.1:=by
   intro y z ⟨d,B⟩;refine⟨λp hp=>d p (z p hp),λp hp=>?_⟩;rcases Xs.1 hp with rfl|hp
   .exact ⟨_,d _ (z _ j),rfl⟩
   .exact B p hp
  split at h
  .split at h
   .split at h
    .rename_i d;simp only[Q0,QP]at h;obtain⟨_,_,rfl⟩:=h;exact fin (λp hp=>W6 _ hp) (tN d)
    .cases h
   .cases h
  .split at h
   .split at h
    .rename_i d;simp only[Q0,QP]at h;obtain⟨_,_,rfl⟩:=h;exact fin (λp hp=>hp) (tN d)
    .cases h
   .cases h
  .split at h
   .split at h
    .rename_i d;simp only[Q0,QP]at h;obtain⟨_,_,rfl⟩:=h;exact fin (λp hp=>hp) (tN d)
    .cases h
   .cases h
  .cases h
theorem aix{j:Shape}{vs:List P}{sz:Nat}{au:List (Nat×Nat)}{l:List (List P)}{hole:Option (Nat×Nat×Nat)}(h:(mk j vs).o g=.aO a i sz au l hole):hole=zz:=by have c:=Xt (j:=j) (vs:=vs) (g:=g) (by rw[h];simp);obtain⟨k,d,_,b⟩:=lZ c;rw[h]at b;cases k<;>simp[vG]at b;exact b.2.2.2.2.2
theorem KL{dR:List P}(z:c.fine s=zj){p:Nat×Nat}(B:p∈c.ren)(J:s.bH.contains p.1=zj):
  (lJ s g o c dR).aJ.lookup p.2=zw (yK c.A c.I (callName g s c.ren) ((mk s.aU dR).o p.1)):=by
 simp only[OT.fine,QR]at z;obtain⟨⟨⟨h,K⟩,b⟩,j⟩:=z;have q:p.2∉c.wP:=by have:=(Z3.1 b) p.2 (XN.2 ⟨p,B,rfl⟩);simpa using this
 have L:(if s.nK=zj then c.wP.map (bC o)else[]).lookup p.2=zz:=by
  split
  rotate_left
  rfl;have :∀(l:List Nat),p.2∉l->(l.map (bC o)).lookup p.2=zz:=by
   intro l
   induction l with
   |nil=>intro _;rfl
   |cons d l M=>
    intro y;simp only[Xs,not_or]at y;have e:(p.2==(bC o d).1)=zv:=by have:(bC o d).1=d:=rfl;rw[this];simpa using y.1
    simp only[Qf,List.lookup,e];exact M y.2
  exact this _ q
 have H:=mg (v:=λp=>if s.bH.contains p.1=zj then yK c.A c.I (callName g s c.ren) ((mk s.aU dR).o p.1)else .none) (jS h) B;rw[QQ J]at H;show (((if s.nK=zj then c.wP.map (bC o)else[])++c.ren.map _)++s.aY.map _).lookup p.2=_;rw[mV,mV,L,H];rfl
theorem abY(y:s.ok=zj){args:List S}(K:jo s o args=zw c)(B:c.fine s=zj){dR:List P}{p:Nat×Nat}(H:p∈c.ren)(L:s.bH.contains p.1=zj)
  (M:tK ((mk s.aU dR).o p.1)=tK ((mk s.pin c.ins).o p.1)) (q:Xu (o p.2)=zj) (h:uP (yK c.A c.I (callName d s c.ren) ((mk s.aU dR).o p.1))=uP (o p.2)) :
  (lJ s d o c dR).aJ.lookup p.2=zw (o p.2):=by
 rw[KL B H L];have b:=M.trans (abW y K B p H q);have J:=λ{a i:Bool} {sz:Nat} {au:List (Nat×Nat)} {l:List (List P)} {hole:Option (Nat×Nat×Nat)}=>aix (j:=s.aU) (vs:=dR) (g:=p.1) (a:=a) (i:=i) (sz:=sz) (au:=au) (l:=l) (hole:=hole);congr 1;generalize (mk s.aU dR).o p.1=x at b h J;have e:tK (yK c.A c.I (callName d s c.ren) x)=tK (o p.2):=by
  rw[<-b];cases x with
  |aO a i sz au l hole=>have:=J rfl;subst this;rfl
  |arr N a i sz l=>rfl
  |_=>generalize o p.2=z at b q;cases z<;>first|(cases q;done)|(simp[tK]at b;done)
 exact(Xv e.symm h.symm q).symm
theorem UF{args:List S}(b:jo s o args=zw c):∀p∈s.pin.bI,∃q∈c.ren,q.1=p.1:=by
 unfold jo at b;split at b
 .split at b
  .rename_i d;cases b;exact λp g=>let ⟨q,h,j⟩:=(tN d).2 p g;⟨q,oz.2 h,j⟩
  .cases b
 .cases b
section
variable {E:Env} {st:St} {gh:Nat->Gh} {w:World} {val:Nat->Value}
theorem abZ{sp:Spec}(hok:sp.sig.ok=zj)(h:Rel E st gh val w){args:List S}{vals:List Value}(hr :∀t,dU E st gh w (args.getD t .no) (vals.getD t undef))
   (hc:jo sp.sig st.o args=zw c) (hf:c.fine sp.sig=zj) :
  ∃(E':Env) (oh:Nat->Gh),E'.B0=w.heap.size/\E'.w0=w/\Rel E' (mk sp.sig.pin c.ins) oh (λk=>vals.getD k undef) w/\(∀b,E'.Wr b->∃c e f,w.heap[b]?=zw (.cells c e f))/\
  ∀(d:Nat) (dR:List P) (ef:Eff),ef=lJ sp.sig d st.o c dR->(∀g∈ef.new,st.used g=zv)->∀(w':World) (rs:List Value) (Bh:Nat->Gh),rs.length=sp.sig.bV->Rel E' (mk sp.sig.aU dR) Bh (λk=>rs.getD k undef) w'->(∀g∈sp.sig.bH,((Bh g).ad=(oh g).ad/\(Bh g).cap=(oh g).cap)/\((mk sp.sig.pin c.ins).o g).like ((mk sp.sig.aU dR).o g))->
   ∃bU,Rel E (st.aJ ef.aJ ef.new) bU val w'/\Lets E st (st.aJ ef.aJ ef.new) gh bU w w'/\dU E (st.aJ ef.aJ ef.new) bU w' ef.x (abS rs)/\∀g∈ef.x.names,(st.aJ ef.aJ ef.new).used g=zj:=by
 have hrr :∀t,dU E st gh w (args.getD t .no) ((λk=>vals.getD k undef) t):=hr;obtain⟨U,hL1,hE,jl⟩:=Xw h hok hrr hc hf _ rfl _ rfl;refine⟨_,_,rfl,rfl,hE,λb B=>?_,λd dR ef hef hnew w' rs Bh hrl hx Xz=>?_⟩
 .obtain ⟨p,H,ow,X⟩:=B;have hO:=h.bI p.2;rcases (jl p H).2.2.2 with⟨_,ws,_,e,_⟩|⟨a,i,sz,l,e,_⟩|⟨a,i,sz,au,l,e,_⟩
  .rw [e]at hO;obtain⟨ad',c,e',q1,_,q3,_⟩:=hO;rcases X with⟨ad,k1,k2⟩|k1
   .rw [k1]at q1;cases q1;rw[<-k2];exact⟨_,_,_,q3⟩
   .rw [h.ns p.2 ow (by rw[e];rfl) b]at k1;cases k1
  .rw [e]at hO;rcases X with⟨ad,k1,k2⟩|k1
   .rcases hO with⟨q1,_⟩|⟨ad',c,e',q1,_,q3,_⟩
    .rw [k1]at q1;cases q1
    .rw [k1]at q1;cases q1;rw[<-k2];exact⟨_,_,_,q3⟩
   .rw [h.ns p.2 ow (by rw[e];rfl) b]at k1;cases k1
  .rw [e]at hO;rcases hO with⟨q1,_,_,q2⟩|⟨ad',c,e',q1,_,q3,_,_,_,⟨_,q4⟩,_⟩
   .rcases X with⟨ad,k1,k2⟩|k1
    .rw [k1]at q1;cases q1
    .rw [q2 b]at k1;cases k1
   .rcases X with⟨ad,k1,k2⟩|k1
    .rw [k1]at q1;cases q1;rw[<-k2];exact⟨_,_,_,q3⟩
    .exact q4 b k1
 generalize hst1:st.aJ (c.wP.map (Fw.bC st.o)) []=st1 at U hL1 hE hx;generalize hE':Zb h st1 c=E' at hE hx;generalize ab1:mk sp.sig.aU dR=Y at hx;have hok':=hok;simp only[Bv.ok,QR]at hok';obtain⟨⟨⟨⟨⟨⟨⟨⟨aev,Zc⟩,hps⟩,hpo⟩,hos⟩,BN⟩,hdisj⟩,hnn⟩,alf⟩:=hok';have hnn:=jS hnn;simp only[OT.fine,QR]at hf;have hn2:=jS hf.1.1.1;have amS :∀g∈sp.sig.aY,sp.sig.bH.contains g=zv:=by
  intro g hg;cases N:sp.sig.bH.contains g with
  |false=>rfl
  |true=>have:=(Z3.1 hdisj) g (by simpa using N);simp[hg]at this
 generalize hfn:callName d sp.sig c.ren=f;have UG :∀g∈sp.sig.aY,f g=newName d sp.sig.aY g:=λg hg=>by subst hfn;unfold callName;rw[amS g hg]
 have ax1:sp.sig.aY.map f=sp.sig.aY.map (newName d sp.sig.aY):=W8 UG;have amT :∀g,sp.sig.bH.contains g=zj->∃g',(g,g')∈c.ren/\f g=g':=by
  intro g N;have apT:=(Z3.1 alf) g (by simpa using N);cases U:sp.sig.pin.bI.lookup g with
  |none=>rw[U]at apT;cases apT
  |some k1=>obtain⟨q,hq,e⟩:=UF hc _ (B_ U);obtain⟨q1,q2⟩:=q;simp only at e;subst e;refine⟨q2,hq,?_⟩;subst hfn;unfold callName;rw[N,(jl _ hq).2.2.1]
 generalize hbk:zf d sp.sig.aY=bk;have hbn :∀g∈sp.sig.aY,bk (f g)=zw g:=λg hg=>by rw[UG g hg];subst hbk;exact QN hg
 have hbs :∀g g0,bk g=zw g0->g0∈sp.sig.aY/\f g0=g:=λg g0 B=>by subst hbk;obtain⟨b1,b2⟩:=Og B;exact⟨b1,by rw[UG g0 b1];exact b2⟩
 have hfi :∀g∈sp.sig.aY,∀g'∈sp.sig.aY,f g=f g'->g=g':=λg hg g' Z e=>by rw[UG g hg,UG g' Z]at e;exact Ic hg e
 have aiy:ef.new=sp.sig.aY.map f:=by subst hef;subst hfn;rfl
 have amU:ef.aJ=(if sp.sig.nK then c.wP.map (Fw.bC st.o)else[])++c.ren.map (λp=>(p.2,if sp.sig.bH.contains p.1 then yK c.A c.I f (Y.o p.1)else .none))++sp.sig.aY.map (λg=>(f g,yK c.A c.I f (Y.o g))):=by subst hef;subst hfn;subst ab1;rfl
 have apU:ef.x=abQ ((List.range sp.sig.bV).map λk=>Y8 c.A c.I f (Y.s k)):=by subst hef;subst hfn;subst ab1;rfl
 have ay2 :∀g,bk g=zz->g∉ef.new:=λg B L=>by rw[aiy]at L;obtain⟨g0,U,rfl⟩:=XN.1 L;rw[hbn g0 U]at B;cases B
 have hbu :∀g,st.used g=zj->bk g=zz:=λg hu=>by
  cases B:bk g with
  |none=>rfl
  |some g0=>obtain⟨U,h2⟩:=hbs g g0 B;have:=hnew g (by rw[aiy];exact XN.2 ⟨g0,U,h2⟩);rw[hu]at this;cases this
 let J:St:=if sp.sig.nK then st1 else st
 have hB:Rel E J gh val w/\Lets E st J gh gh w w:=by
  by_cases K:sp.sig.nK=zj
  .have:J=st1:=by simp[J,K]
   rw[this];exact⟨U,hL1⟩
  .have:J=st:=by simp[J,K]
   rw[this];exact⟨h,⟨λa i b B=>⟨B,rfl⟩,λg _=>.inr ⟨⟨rfl,rfl⟩,O.gy _⟩⟩⟩
 obtain⟨hRB,hLB⟩:=hB;have hBs:J.s=st.s:=by
  by_cases K:sp.sig.nK=zj
  .have:J=st1:=by simp[J,K]
   rw[this,<-hst1];rfl
  .have:J=st:=by simp[J,K]
   rw[this]
 have hBu:J.used=st.used:=by
  by_cases K:sp.sig.nK=zj
  .have:J=st1:=by simp[J,K]
   rw[this,<-hst1];rfl
  .have:J=st:=by simp[J,K]
   rw[this]
 have hBo :∀g,J.o g=(if g∈c.wP/\sp.sig.nK=zj then(Fw.bC st.o g).2 else st.o g):=by
  intro g;by_cases K:sp.sig.nK=zj
  .have:J=st1:=by simp[J,K]
   rw[this,<-hst1,ig];by_cases hg:g∈c.wP<;>simp[hg,K]
  .have:J=st:=by simp[J,K]
   rw[this];simp[K]
 have Zd :∀g,(J.o g).cO=zj->(st.o g).cO=zj:=by
  intro g hg;rw[hBo]at hg;split at hg
  .cases H:plainO st.o g with
   |none=>simpa[Fw.bC,H]using hg
   |some x=>obtain⟨a,i,sz,l⟩:=x;rw[n_ H]at hg;cases hg
  .exact hg
 have hBr :∀p∈c.ren,J.o p.2=st.o p.2:=by intro p H;rw[hBo,Qt λh=>(jl p H).2.1 h.1]
 generalize aiz:st.aJ ef.aJ ef.new=KN;have hFs:KN.s=st.s:=by subst aiz;rfl
 have hFu :∀g,st.used g=zj->KN.used g=zj:=λg hg=>by subst aiz;simp[St.aJ,hg]
 have hFn :∀g∈sp.sig.aY,KN.used (f g)=zj:=λg hg=>by
  subst aiz;have:f g∈ef.new:=by rw[aiy];exact XN.2 ⟨g,hg,rfl⟩
  simp[St.aJ,this]
 have Ze :∀p∈c.ren,st.used p.2=zj:=λp H=>h.ul p.2 (by intro e;have:=(jl p H).1;rw[e]at this;cases this);have ax3 :∀g∈c.wP,st.used g=zj\/st.o g=.none:=λg hg=>by
  by_cases hn:st.o g=.none
  .exact .inr hn
  .exact .inl (h.ul g hn)
 have hFo :∀g,KN.o g=match ef.aJ.lookup g with|some x=>x|none=>st.o g:=λg=>by subst aiz;rfl
 have Zf :∀g∈sp.sig.aY,KN.o (f g)=yK c.A c.I f (Y.o g):=by
  intro g hg;have hfu:st.used (f g)=zv:=hnew _ (by rw[aiy];exact XN.2 ⟨g,hg,rfl⟩);have e2:(c.ren.map (λp=>(p.2,if sp.sig.bH.contains p.1 then yK c.A c.I f (Y.o p.1)else .none))).lookup (f g)=zz:=ny λL=>by obtain⟨p,H,e⟩:=XN.1 L;rw[<-e,Ze p H]at hfu;cases hfu
  have e3:=yA (k:=f) (v:=λg=>yK c.A c.I f (Y.o g)) hg λg' Z e=>hfi g' Z g hg e;have X:(if sp.sig.nK then c.wP.map (Fw.bC st.o)else[]).lookup (f g)=zz:=by
   split
   .rw [nJ,Qt];intro L;have:=yR.used h (Xy hc) L;rw[this]at hfu;cases hfu
   .rfl
  rw[hFo,amU,mV,mV,X,e2,e3];rfl
 have O1 :∀p∈c.ren,KN.o p.2=if sp.sig.bH.contains p.1 then yK c.A c.I f (Y.o p.1)else .none:=by
  intro p H;have X:(if sp.sig.nK then c.wP.map (Fw.bC st.o)else[]).lookup p.2=zz:=by
   split
   .rw [nJ,Qt (jl p H).2.1]
   .rfl
  have e2:=mg (v:=λp=>if sp.sig.bH.contains p.1 then yK c.A c.I f (Y.o p.1)else O.none) hn2 H;rw[hFo,amU,mV,mV,X,e2];rfl
 have UH :∀g,bk g=zz->g∉c.ren.map (·.2)->KN.o g=J.o g:=by
  intro g B hg;have e2:=ny (v:=λp=>if sp.sig.bH.contains p.1 then yK c.A c.I f (Y.o p.1)else O.none) hg;have e3:(sp.sig.aY.map (λg=>(f g,yK c.A c.I f (Y.o g)))).lookup g=zz:=zh λg' Z e=>by have:=hbn g' Z;rw[e,B]at this;cases this
  rw[hFo,amU,mV,mV,e2,e3,hBo];by_cases K:sp.sig.nK=zj
  .rw [QQ K,nJ];by_cases hg:g∈c.wP<;>simp[hg,K]
  .simp [K]
 have alg :∀p∈c.ren,sp.sig.bH.contains p.1=zj->(Bh p.1).ad=(gh p.2).ad/\(Bh p.1).cap=(gh p.2).cap:=by intro p H N;have:=(Xz p.1 (by simpa using N)).1;have e:=(jl p H).2.2.1;simp only[kP,e]at this;exact this
 generalize hbk2:(λg=>match bk g with|some g0=>zw g0|none=>(c.ren.find? (λ(p:Nat×Nat)=>p.2==g&&sp.sig.bH.contains p.1)).map (λ(p:Nat×Nat)=>p.1))=bk2;have apW :∀g g0,bk2 g=zw g0->(g0∈sp.sig.aY/\f g0=g)\/(bk g=zz/\sp.sig.bH.contains g0=zj/\(g0,g)∈c.ren):=by
  intro g g0 B;subst hbk2;simp only at B;cases U:bk g with
  |some g1=>rw[U]at B;cases B;exact .inl (hbs g _ U)
  |none=>rw[U]at B;simp only[Wg]at B;obtain⟨p,H,rfl⟩:=B;have q1:=Kx H;have q2:=vp H;simp only[QR,beq_iff_eq]at q2;obtain⟨rfl,q3⟩:=q2;exact .inr ⟨rfl,q3,q1⟩
 have hb2 :∀g∈sp.sig.aY++sp.sig.bH,bk2 (f g)=zw g:=by
  intro g hg;subst hbk2;simp only;rcases Ys.1 hg with hg|hg
  .rw [hbn g hg]
  .have N:sp.sig.bH.contains g=zj:=by simpa using hg
   obtain⟨g',L,e⟩:=amT g N;rw[e,hbu g' (Ze _ L)];cases U:c.ren.find? λp=>p.2==g'&&sp.sig.bH.contains p.1 with
   |none=>have:=vr.1 U _ L;simp at this;exact absurd hg this
   |some p=>
    have q1:=Kx U;have q2:=vp U;simp only[QR,beq_iff_eq]at q2;obtain⟨e2,q3⟩:=q2;have l1:=(jl _ L).2.2.1;have e3:p=(g,g'):=by have:=mg (v:=λp=>p) hn2 q1;have h2:=mg (v:=λp=>p) hn2 L;rw[e2]at this;simp only at h2;rw[this]at h2;exact Wt h2
    rw[e3];rfl
 let bU:Nat->Gh:=λg=>match bk2 g with|some g0=>Bh g0|none=>gh g
 have hfp :∀p∈c.ren,sp.sig.bH.contains p.1=zj->f p.1=p.2:=by intro p H N;obtain⟨g',L,e⟩:=amT p.1 N;have l1:=(jl _ L).2.2.1;have l2:=(jl _ H).2.2.1;simp only at l1;rw[l2]at l1;rw[e,<-Wt l1]
 have hgb :∀g g0,bk2 g=zw g0->bU g=Bh g0:=λg g0 B=>by simp only[bU,B]
 have hgn :∀g∈sp.sig.aY,bU (f g)=Bh g:=λg hg=>hgb _ _ (hb2 g (W6 _ hg));have hgi :∀p∈c.ren,sp.sig.bH.contains p.1=zj->bU p.2=Bh p.1:=by intro p H N;have:=hb2 p.1 (UV _ (by simpa using N));rw[hfp p H N]at this;exact hgb _ _ this
 have hgo :∀g,bk g=zz->g∉c.ren.map (·.2)->bU g=gh g:=λg B L=>by
  cases h2:bk2 g with
  |none=>simp only[bU,h2]
  |some g0=>
   rcases apW g g0 h2 with⟨b1,b2⟩|⟨_,_,b3⟩
   .rw [<-b2,hbn g0 b1]at B;cases B
   .exact absurd (XN.2 ⟨_,b3,rfl⟩) L
 have hFb :∀g g0,bk2 g=zw g0->KN.o g=yK c.A c.I f (Y.o g0):=λg g0 B=>by
  rcases apW g g0 B with⟨b1,b2⟩|⟨_,b2,b3⟩
  .rw [<-b2];exact Zf g0 b1
  .have e:=O1 _ b3;simp only[b2,if_true]at e;exact e
 have aex :∀g∈sp.sig.aY++sp.sig.bH,KN.used (f g)=zj:=by intro g hg;rcases Ys.1 hg with hg|hg;exact hFn g hg;obtain⟨g',L,e⟩:=amT g (by simpa using hg);rw[e];exact hFu _ (Ze _ L)
 have hxo :∀g0,Y.o g0≠.none->∃k n',(g0,k)∈sp.sig.aU.bI/\Y.o g0=(vG dR n' k).1:=λg0 hn=>by subst ab1;exact lZ (Xt hn)
 have apX :∀g0,sp.sig.bH.contains g0=zj->(∃ws,(mk sp.sig.pin c.ins).o g0=.box ws)->∃ws,Y.o g0=.box ws:=by
  rintro g0 N ⟨ws,B⟩;have hk:=(Z3.1 alf) g0 (by simpa using N);cases U:sp.sig.pin.bI.lookup g0 with
  |none=>rw[U]at hk;cases hk
  |some k1=>
   cases h2:sp.sig.aU.bI.lookup g0 with
   |none=>rw[U,h2]at hk;cases k1<;>cases hk
   |some k2=>
    rw[U,h2]at hk;obtain⟨n1,X⟩:=QM (vs:=c.ins) U;obtain⟨n2,e2⟩:=QM (vs:=dR) h2;rw[B]at X;cases k1 with
    |box ks=>
     cases k2 with
     |box ks'=>subst ab1;exact⟨_,e2⟩
     |arr=>cases hk
     |it=>cases hk
     |aO=>cases hk
    |arr=>cases X
    |it=>cases X
    |aO=>cases X
 have aum :∀g0 k,(g0,k)∈sp.sig.aU.bI->k.isA=zj->sp.sig.nK=zj:=λg0 k L ha=>by simp only[Bv.nK,Kb,qa];exact .inr ⟨_,L,ha⟩
 have aun :∀t k,(t,k)∈sp.sig.aU.slots->k.isA=zj->sp.sig.nK=zj:=λt k L ha=>by simp only[Bv.nK,Kb,qa];exact .inl ⟨_,L,ha⟩
 have hOut :∀g0,Ow (Ib c.A c.I sp.sig.nK) bk2 (λ_=>False) (Y.o g0) (yK c.A c.I f (Y.o g0))/\∀g∈(yK c.A c.I f (Y.o g0)).names,∃g1∈sp.sig.aY++sp.sig.bH,g=f g1:=by
  intro g0;by_cases hn:Y.o g0=.none
  .rw [hn];exact⟨.none _,by simp[yK,O.names]⟩
  .obtain ⟨k,n',U,h2⟩:=hxo g0 hn;rw[h2];refine apS hb2 (λws e=>?_) (aum g0 k U) n';subst e;have hk:=(Z3.1 BN) _ U;simp only[QR]at hk;exact hk.1
 have Zg :∀g,(KN.o g).cO=zj->
   (∃g0,(Y.o g0).cO=zj/\bU g=Bh g0/\KN.o g=yK c.A c.I f (Y.o g0)/\((g0∈sp.sig.aY/\g=f g0)\/(sp.sig.bH.contains g0=zj/\(g0,g)∈c.ren)))\/
   ((J.o g).cO=zj/\bU g=gh g/\g∉c.ren.map (·.2)/\bk g=zz/\KN.o g=J.o g):=by
  intro g M;cases B:bk g with
  |some g0=>obtain⟨b1,b2⟩:=hbs g g0 B;subst b2;have e:=Zf g0 b1;exact .inl ⟨g0,by rw[e,OY]at M;exact M,hgn g0 b1,e,.inl ⟨b1,rfl⟩⟩
  |none=>
   by_cases L:g∈c.ren.map (·.2)
   .obtain ⟨p,H,e⟩:=XN.1 L;subst e;have e:=O1 p H;cases N:sp.sig.bH.contains p.1 with
    |false=>rw[e,N]at M;cases M
    |true=>rw[N,QQ rfl]at e;exact .inl ⟨p.1,by rw[e,OY]at M;exact M,hgi p H N,e,.inr ⟨N,H⟩⟩
   .have e:=UH g B L;exact .inr ⟨by rw[e]at M;exact M,hgo g B L,L,by first|exact B|rfl,e⟩
 have hsplit :∀g b,(KN.o g).cO=zj->(bU g).has b->
   (∃g0,(Y.o g0).cO=zj/\(Bh g0).has b/\KN.o g=yK c.A c.I f (Y.o g0)/\((g0∈sp.sig.aY/\g=f g0)\/(sp.sig.bH.contains g0=zj/\(g0,g)∈c.ren)))\/
   ((J.o g).cO=zj/\(gh g).has b/\g∉c.ren.map (·.2)/\bk g=zz/\KN.o g=J.o g):=by
  intro g b M T;rcases Zg g M with⟨g0,q1,q2,q3⟩|⟨q1,q2,q3⟩
  .exact .inl ⟨g0,q1,by rw[<-q2];exact T,q3⟩
  .exact .inr ⟨q1,by rw[<-q2];exact T,q3⟩
 have aey :∀b,E'.Wr b->∃p∈c.ren,(gh p.2).has b:=λb B=>by subst hE';obtain⟨p,H,_,U⟩:=B;exact⟨p,H,U⟩
 have hEB:E'.B0=w.heap.size:=by subst hE';rfl
 have hEw:E'.w0=w:=by subst hE';rfl
 have hframe :∀b,b<w.heap.size->¬ E'.Wr b->w'.heap[b]?=w.heap[b]?:=λb B hw=>by rw[hx.frame b (by rw[hEB];exact B) hw,hEw]
 have amV :∀b,(∀p∈c.ren,¬ (gh p.2).has b)->¬ E'.Wr b:=λb B hw=>by obtain⟨p,H,X⟩:=aey b hw;exact B p H X
 have hsize:w.heap.size<=w'.heap.size:=by rw[<-hEB];exact hx.size
 have Hw :∀g,st.used g=zj->KN.o g=.none\/(((bU g).ad=(gh g).ad/\(bU g).cap=(gh g).cap)/\(J.o g).like (KN.o g)):=by
  intro g hu;have B:=hbu g hu;by_cases L:g∈c.ren.map (·.2)
  .obtain ⟨p,H,e⟩:=XN.1 L;subst e;cases N:sp.sig.bH.contains p.1 with
   |false=>exact .inl (by rw[O1 p H,N];rfl)
   |true=>
    refine .inr ⟨by rw[hgi p H N];exact alg p H N,?_⟩;rw[hBr p H,O1 p H,N,QQ rfl];have K:=(Xz p.1 (by simpa using N)).2;rw[ab1]at K;rcases (jl p H).2.2.2 with⟨_,ws,ws1,e,eb⟩|⟨a,i,sz,l,e,_,ea⟩|⟨a,i,sz,au,l,e,_,ea⟩
    .obtain ⟨ws',e'⟩:=apX p.1 N ⟨_,eb⟩;rw[e,e'];trivial
    .rw [ea]at K;rw[e];generalize Y.o p.1=z at K;cases z with
     |none=>trivial
     |arr=>exact K
     |aO=>exact K.elim
     |box=>exact K.elim
     |it=>exact K.elim
    .rw [ea]at K;rw[e];generalize Y.o p.1=z at K;cases z with
     |none=>trivial
     |arr=>exact K
     |aO=>exact K
     |box=>exact K.elim
     |it=>exact K.elim
  .rw [UH g B L];exact .inr ⟨by rw[hgo g B L];exact⟨rfl,rfl⟩,O.gy _⟩
 have aez:Lets E J KN gh bU w w':=by
  refine⟨λa i b B=>⟨⟨B.1,by have:=B.2.1;omega,λg M T=>?_⟩,?_⟩,λg hu=>Hw g (by rw[<-hBu];exact hu)⟩
  .rcases hsplit g b M T with⟨g0,o0,d0,_,_⟩|⟨o0,d0,_⟩
   .have hw0:=(hx.wr g0 b o0 d0).1;rw[hEB]at hw0;rcases hw0 with hw0|hw0
    .have:=B.2.1;omega
    .obtain ⟨p,H,X⟩:=aey b hw0;exact B.2.2 p.2 (by rw[hBr p H];exact(jl p H).1) X
   .exact B.2.2 g o0 d0
  .exact hframe b B.2.1 (amV b λp H X=>B.2.2 p.2 (by rw[hBr p H];exact(jl p H).1) X)
 have apY :∀b,E'.Wr b->E.Wr b->(∀g ws,Y.o g=.box ws->(Bh g).has b->sp.sig.bH.contains g=zv)->c.I.2=zj:=by
  intro b B hEb hno;obtain⟨p,H,X⟩:=aey b B;rcases (jl p H).2.2.2 with⟨N,ws,ws1,e,eb⟩|⟨a,i,sz,l,e,hci,_⟩|⟨a,i,sz,au,l,e,hci,_⟩
  .obtain ⟨ws',e'⟩:=apX p.1 N ⟨_,eb⟩;have:=hno p.1 ws' e' (by
    rcases X with⟨ad,k1,k2⟩|k1
    .exact .inl ⟨ad,by rw[(alg p H N).1];exact k1,k2⟩
    .rw [h.ns p.2 (jl p H).1 (by rw[e];rfl) b]at k1;cases k1)
   rw[N]at this;cases this
  .exact hci.2 (h.wi p.2 i b (by rw[e];rfl) X hEb)
  .exact hci.2 (h.wi p.2 i b (by rw[e];rfl) X hEb)
 have hcls :∀{a i a' i':Bool} {A:Bool×Bool},(A.1=zj->a'=zj)->(A.2=zj->i'=zj)->∀{b:Nat},((A.1=zj/\E.FA b)\/(A.2=zj/\(E.FI b\/E.Wr b))\/E.B0<=b\/fO.has b)->((a'=zj/\E.FA b)\/(i'=zj/\(E.FI b\/E.Wr b))\/E.B0<=b\/fO.has b):=by
  intro a i a' i' A U h2 b B;rcases B with⟨q1,q2⟩|⟨q1,q2⟩|q
  .exact .inl ⟨U q1,q2⟩
  .exact .inr (.inl ⟨h2 q1,q2⟩)
  .exact .inr (.inr q)
 have hcast:Cast (Ib c.A c.I sp.sig.nK) bk2 (λ_=>False) E' E Y KN Bh bU w':=by
  refine⟨λa i a' i' b hC B=>?_,λg g' L sz len M=>⟨by rw[hgb g' g L];exact⟨rfl,rfl⟩,by rw[hFb g' g L,aiv]at M;exact M⟩,
   λg g' L ws M=>⟨by rw[hgb g' g L],by rw[hFb g' g L]at M;exact aiw M⟩,λg g' L s n M=>⟨by rw[hgb g' g L],by rw[hFb g' g L]at M;exact amR M⟩,λg' hf=>hf.elim⟩
  obtain⟨hC,hA⟩:=hC;have ha':a'=((a&&c.A.1)||(i&&c.I.1)):=W2 Prod.fst hC;have hi':i'=((a&&c.A.2)||(i&&c.I.2)):=W2 Prod.snd hC;have alh :∀g,(Y.o g).cO=zj->¬ (Bh g).has b:=B.2.2;have hcase:((a'=zj/\E.FA b)\/(i'=zj/\(E.FI b\/E.Wr b))\/E.B0<=b\/fO.has b)/\(∀g,(J.o g).cO=zj->g∉c.ren.map (·.2)->¬ (gh g).has b):=by
   have hb1:=B.1;subst hE';rcases hb1 with⟨ha,hFA⟩|⟨N,hFI|hWr⟩|hge|hgl
   .have K:=hA ha;have hst:J=st1:=by simp[J,K]
    refine⟨hcls (a:=a) (i:=i) (A:=c.A) (by intro h;simp[ha',ha,h]) (by intro h;simp[hi',ha,h]) hFA.1,λg M _=>?_⟩;rw[hst]at M;exact hFA.2.2 g M
   .refine ⟨hcls (a:=a) (i:=i) (A:=c.I) (by intro h;simp[ha',N,h]) (by intro h;simp[hi',N,h]) hFI.1,λg M _=>?_⟩;exact hFI.2.2 g (Zd g M)
   .obtain ⟨p,H,ow,X⟩:=hWr;refine⟨?_,λg M hng T=>?_⟩
    .rcases (h.wr p.2 b (jl p H).1 X).1 with q|q;exact .inr (.inr (.inl q));have:=apY b ⟨p,H,ow,X⟩ q λg ws1 o1 d1=>absurd d1 (alh g (by rw[o1];rfl));exact .inr (.inl ⟨by simp[hi',N,this],.inr q⟩)
    .have:=h.inj g p.2 b (Zd g M) (jl p H).1 T X;exact hng (this▸XN.2 ⟨p,H,rfl⟩)
   .refine ⟨.inr (.inr (.inl (K0 h.size hge))),λg M _ T=>?_⟩;have:=(hRB.wr g b M T).2;have hge:w.heap.size<=b:=hge;omega
   .refine ⟨.inr (.inr (.inr hgl)),λg M _ T=>?_⟩;obtain⟨g1,g2⟩:=E.aea hgl;rcases (hRB.wr g b M T).1 with q|q
    .omega
    .exact g2 q
  refine⟨hcase.1,B.2.1,λg M T=>?_⟩;rcases hsplit g b M T with⟨g0,o0,d0,_,_⟩|⟨o0,d0,n0,_⟩
  .exact alh g0 o0 d0
  .exact hcase.2 g o0 n0 d0
 have ali :∀g0,nG E KN bU w' (yK c.A c.I f (Y.o g0)) (Bh g0):=λg0=>hcast.Dz (hOut g0).1 (hx.bI g0);have Oh:Rel E KN bU val w':=by
  refine hRB.step aez (hFs.trans hBs.symm) (λg hg=>hFu g (by rw[<-hBu];exact hg)) (λg=>?_) (λg1 g2 b U h2 k1 k2=>?_) (λg b M T=>?_) (λg i b M T hw=>?_) (λg M hd b=>?_) (λb B hw=>?_) hsize (by rw[hx.os,hEw]) (by rw[hx.tape,hEw]) (by rw[hx.output,hEw]) (λg g' Z=>?_) (λg hg=>?_)
  .cases B:bk g with
   |some g0=>obtain⟨b1,b2⟩:=hbs g g0 B;subst b2;rw[Zf g0 b1,hgn g0 b1];exact ali g0
   |none=>
    by_cases L:g∈c.ren.map (·.2)
    .obtain ⟨p,H,e⟩:=XN.1 L;subst e;rw[O1 p H];cases N:sp.sig.bH.contains p.1 with
     |false=>trivial
     |true=>rw[QQ rfl,hgi p H N];exact ali p.1
    .rw [UH g B L,hgo g B L];refine aez.Dz (λM b T=>hframe _ (hRB.wr g b M T).2 (amV _ λp H X=>?_)) (λg' Z=>hRB.uo g g' Z) (hRB.bI g);have:=h.inj p.2 g b (jl p H).1 (Zd g M) X T;exact L (this▸XN.2 ⟨p,H,rfl⟩)
  .have mixed :∀g1 g2 b g0,(Y.o g0).cO=zj->(Bh g0).has b->(J.o g2).cO=zj->(gh g2).has b->g2∉c.ren.map (·.2)->g1=g2:=by
    intro g1 g2 b g0 o1 d1 o2 d2 n2;exfalso;rcases (hx.wr g0 b o1 d1).1 with q|q
    .rw [hEB]at q;have:=(hRB.wr g2 b o2 d2).2;omega
    .obtain ⟨p,H,X⟩:=aey _ q;have:=h.inj p.2 g2 b (jl p H).1 (Zd g2 o2) X d2;exact n2 (this▸XN.2 ⟨p,H,rfl⟩)
   rcases hsplit g1 b U k1 with⟨q1,o1,d1,_,l1⟩|⟨o1,d1,n1,_⟩<;>rcases hsplit g2 b h2 k2 with⟨q2,o2,d2,_,l2⟩|⟨o2,d2,n2,_⟩
   rotate_left
   exact mixed g1 g2 b q1 o1 d1 o2 d2 n2;exact(mixed g2 g1 b q2 o2 d2 o1 d1 n1).symm;exact hRB.inj g1 g2 b o1 o2 d1 d2;have:=hx.inj q1 q2 b o1 o2 d1 d2;subst this;rcases l1 with⟨m1,X⟩|⟨i1,m1⟩<;>rcases l2 with⟨m2,e2⟩|⟨i2,m2⟩
   .rw [X,e2]
   .rw [amS q1 m1]at i2;cases i2
   .rw [amS q1 m2]at i1;cases i1
   .have l1:=(jl _ m1).2.2.1;have l2:=(jl _ m2).2.2.1;rw[l1]at l2;exact Wt l2
  .rcases hsplit g b M T with⟨g0,o0,d0,_,_⟩|⟨o0,d0,_⟩
   .have:=hx.wr g0 b o0 d0;refine⟨?_,this.2⟩;rcases this.1 with q|q
    .rw [hEB]at q;exact .inl (K0 h.size q)
    .obtain ⟨p,H,X⟩:=aey _ q;exact(h.wr p.2 b (jl p H).1 X).1
   .have:=hRB.wr g b o0 d0;exact⟨this.1,by omega⟩
  .rcases hsplit g b (O.lW M) T with⟨g0,o0,d0,e0,l0⟩|⟨o0,d0,_,_,e0⟩
   .rw [e0]at M;obtain⟨a1,i1,U,e2⟩:=abX M;have hlt:b<w.heap.size:=by have:=h.wb _ hw;have:=h.size;omega
    rcases (hx.wr g0 b o0 d0).1 with q|q
    .rw [hEB]at q;omega
    .have hi1:=hx.wi g0 i1 b U d0 q;have:=apY b q hw λg3 ws3 o3 d3=>by have:=hx.inj g3 g0 b (by rw[o3];rfl) o0 d3 d0;subst this;rw[o3]at U;cases U
     rw[e2];simp[r_,hi1,this]
   .rw [e0]at M;exact hRB.wi g i b M d0 hw
  .rcases Zg g M with⟨g0,o0,e,e0,_⟩|⟨o0,e,_,_,e0⟩
   .rw [e];exact hx.ns g0 o0 (by rw[e0,Xx]at hd;exact hd) b
   .rw [e];exact hRB.ns g o0 (by rw[e0]at hd;exact hd) b
  .refine hframe b (Up B h.size) (amV b λp H X=>?_);rcases (h.wr p.2 b (jl p H).1 X).1 with q|q
   .omega
   .exact hw q
  .cases B:bk g with
   |some g0=>obtain⟨b1,b2⟩:=hbs g g0 B;subst b2;rw[Zf g0 b1]at Z;obtain⟨g1,m1,rfl⟩:=(hOut g0).2 g' Z;exact aex g1 m1
   |none=>
    by_cases L:g∈c.ren.map (·.2)
    .obtain ⟨p,H,e⟩:=XN.1 L;subst e;rw[O1 p H]at Z;cases N:sp.sig.bH.contains p.1 with
     |false=>rw[N]at Z;simp[O.names]at Z
     |true=>rw[N,QQ rfl]at Z;obtain⟨g1,m1,rfl⟩:=(hOut p.1).2 g' Z;exact aex g1 m1
    .rw [UH g B L]at Z;exact hFu g' (by rw[<-hBu];exact hRB.uo g g' Z)
  .cases B:bk g with
   |some g0=>obtain⟨b1,b2⟩:=hbs g g0 B;subst b2;exact hFn g0 b1
   |none=>
    by_cases L:g∈c.ren.map (·.2)
    .obtain ⟨p,H,e⟩:=XN.1 L;subst e;exact hFu _ (Ze p H)
    .rw [UH g B L]at hg;exact hFu g (by rw[<-hBu];exact hRB.ul g hg)
 have apZ :∀k,sV E KN bU w' (Y8 c.A c.I f (Y.s k)) (rs.getD k undef)/\∀g∈(Y8 c.A c.I f (Y.s k)).names,∃g1∈sp.sig.aY++sp.sig.bH,g=f g1:=by
  intro k;have hk:=hx.slots k;subst ab1;have e0:(mk sp.sig.aU dR).s k=match (dV dR 0 sp.sig.aU.slots).1.lookup k with|some x=>x|none=>.no:=rfl
  cases hxk:(dV dR 0 sp.sig.aU.slots).1.lookup k with
  |none=>rw[e0,hxk];exact⟨.one _ _ (.no _),by simp[Y8,V.names,W.names]⟩
  |some x=>rw[hxk]at e0;rw[e0]at hk ⊢;obtain⟨kk,n',U,h2⟩:=yZ hxk;obtain⟨y,e,h3,h4⟩:=apR (vs:=dR) (A:=c.A) (I:=c.I) hb2 ((Z3.1 hos) _ U) (aun k kk U) n';simp only[h2,e]at hk ⊢;cases hk with|v _ _ hk=>exact⟨hcast.abD h3 hk,h4⟩
 refine⟨bU,Oh,⟨λa i b B=>?_,λg hu=>?_⟩,?_,?_⟩
 .obtain ⟨q1,q2⟩:=hLB.ok a i b B;exact aez.ok a i b q1
 .rcases Hw g hu with q|⟨q1,q2⟩;exact .inl q;rcases hLB.names g hu with q|⟨_,q⟩
  .rw [q]at q2;rcases O.KJ (x:=.none) (O.gy _) q2 with q|q
   .exact .inl q
   .exact .inl (O.OZ q)
  .rcases O.KJ q q2 with q|q
   .exact .inl q
   .exact .inr ⟨q1,q⟩
 .rw [apU];have hl:((List.range sp.sig.bV).map λk=>Y8 c.A c.I f (Y.s k)).length=rs.length:=by simp[hrl]
  have hj :∀(j:Nat) x v,((List.range sp.sig.bV).map λk=>Y8 c.A c.I f (Y.s k))[j]?=zw x->rs[j]?=zw v->sV E KN bU w' x v:=by
   intro j x v hx' hv;rw[Z0]at hx';obtain⟨k,hk,rfl⟩:=Wg.1 hx';obtain⟨hlt,hk⟩:=Q3.1 hk;simp at hk;subst hk;have:=(apZ j).1
   rwa [Q1,hv]at this
  generalize (List.range sp.sig.bV).map (λk=>Y8 c.A c.I f (Y.s k))=xs at hl hj;unfold abQ abS
  match xs,rs,hl,hj with
  | [],[],_,hj=>exact .jy _ _ rfl hj
  | [x],[v],_,hj=>exact .v _ _ (hj 0 x v rfl rfl)
  |x::y::xs,v::u::vs,hl,hj=>exact .jy _ _ hl hj
 .intro g hg;have :∃k,g∈(Y8 c.A c.I f (Y.s k)).names:=by
   rw[apU]at hg;generalize hxs:(List.range sp.sig.bV).map (λk=>Y8 c.A c.I f (Y.s k))=xs at hg;have hin :∃x∈xs,g∈x.names:=by
    unfold abQ at hg;split at hg
    .exact ⟨_,by simp,hg⟩
    .simpa [S.names,Z2]using hg
   obtain⟨x,hx1,hx2⟩:=hin;rw[<-hxs]at hx1;obtain⟨k,_,rfl⟩:=XN.1 hx1;exact⟨k,hx2⟩
  obtain⟨k,hk⟩:=this;obtain⟨g1,m1,rfl⟩:=(apZ k).2 g hk;exact aex g1 m1
theorem XA{Pg:Program}{fn:FuncId}{sp:Spec}(hs:Sound Pg fn sp)(h:Rel E st gh val w){args:List S}{vals:List Value}(J :∀t,dU E st gh w (args.getD t .no) (vals.getD t undef))(j:vals.length=sp.sig.bg)
   (K:jo sp.sig st.o args=zw c) (L:c.fine sp.sig=zj) {dR:List P} (M:sp.R c.ins dR) (d:Nat)
  {b:Eff} (B:b=lJ sp.sig d st.o c dR) (q :∀g∈b.new,st.used g=zv) :
  Calls Pg fn vals.toArray w λe y=>∃v z,e=.returned v/\Rel E (st.aJ b.aJ b.new) z val y/\Lets E st (st.aJ b.aJ b.new) gh z w y/\dU E (st.aJ b.aJ b.new) z y b.x v/\∀g∈b.x.names,(st.aJ b.aJ b.new).used g=zj:=by
 obtain⟨N,T,q1,q2,q3,_,q4⟩:=abZ hs.1 h J K L;refine Calls.mono (hs.2.2 N w vals T c.ins dR M q1 q2 q3 j) λe y U=>?_;obtain⟨X,Y,H,rfl,Z,Xz⟩:=U;obtain⟨z,r1,r2,r3,r4⟩:=q4 d dR b B q y X Y H Z Xz;exact⟨_,z,rfl,r1,r2,r3,r4⟩
end
end Go.Fw

namespace Go.Fw
variable [fO]
section
variable {o o':Nat->O}
theorem FQ{x:Bool×Bool×Nat×List (List P)}(h:plainO o g=zw x):(o g).names=(o g).hn/\∀d∈(o g).hn,(o d).hn=[]:=by
 obtain⟨a,i,w,l⟩:=x;rcases wY h with⟨y,h⟩|⟨j,h⟩|⟨a0,i0,j,z,n,c,d,m,B,H,q,J,h,hd,_⟩
 .rw [h];exact⟨rfl,λd hd=>by cases hd⟩
 .rw [h];exact⟨rfl,λd hd=>by cases hd⟩
 .rw [h];refine⟨rfl,λK b=>?_⟩;simp only[O.hn,dN,X1]at b;subst b;rw[hd];rfl
theorem QO(h:Agree o o' g):bC o g=bC o' g:=by simp only[bC,DC h,h.1]
theorem UJ(h:Agree o o' g){x:Bool×Bool×Nat×List (List P)}(c:plainO o g=zw x)(hd:d∈(o g).hn):Agree o o' d:=by refine⟨h.2 d hd,λj b=>?_⟩;rw[(FQ c).2 d hd]at b;cases b
theorem FT(h :∀g∈x.names,Agree o o' g):x.toP o=x.toP o':=by cases x<;>simp only[W.toP]<;>(try rw[DC (h _ (by simp[W.names])),(h _ (by simp[W.names])).1])
theorem Cb{y:P}{gs:List Nat}(h:x.toP o=zw (y,i,a,gs))(c :∀g∈x.names,Agree o o' g):∀g∈gs,Agree o o' g:=by
 cases x<;>simp only[W.toP]at h
 case p=>simp only[Q0,QP]at h;obtain⟨_,_,_,rfl⟩:=h;simp
 case dD=>simp only[Q0,QP]at h;obtain⟨_,_,_,rfl⟩:=h;simp
 case own g=>
  split at h
  rotate_left
  cases h;rename_i b;simp only[Q0,QP]at h;obtain⟨_,_,_,rfl⟩:=h;have hg:=c g (by simp[W.names]);rw[(FQ b).1];intro d hd;rcases Ys.1 hd with hd|hd;exact UJ hg b hd;rw[X1]at hd;subst hd;exact hg
 case vw g lo j=>
  split at h
  rotate_left
  cases h;rename_i b;simp only[Q0,QP]at h;obtain⟨_,_,_,rfl⟩:=h;have hg:=c g (by simp[W.names]);rw[(FQ b).1];intro d hd;rcases Ys.1 hd with hd|hd;exact UJ hg b hd;rw[X1]at hd;subst hd;exact hg
 all_goals cases h
theorem xE:∀{xs:List W},(∀x∈xs,∀g∈x.names,Agree o o' g)->yI o xs=yI o' xs
 | [],_=>rfl
 |x::xs,h=>by simp only[yI];rw[FT (h x (by simp)),xE λy b=>h y (by simp[b])]
theorem zi:∀{xs:List W} {b:List P} {a i:Bool} {gs:List Nat},yI o xs=zw (b,a,i,gs)->(∀x∈xs,∀g∈x.names,Agree o o' g)->∀g∈gs,Agree o o' g
 | [],b,a,i,gs,h,_=>by simp[yI]at h;obtain⟨_,_,_,rfl⟩:=h;simp
 |x::xs,b,a,i,gs,h,c=>by
  simp only[yI]at h;split at h
  rotate_left
  cases h;rename_i d j;simp only[Q0,QP]at h;obtain⟨_,_,_,rfl⟩:=h;intro g hg;rcases Ys.1 hg with hg|hg
  .exact Cb d (c x (by simp)) g hg
  .exact zi j (λy m=>c y (by simp[m])) g hg
theorem oP{gs:List Nat}(h :∀g∈gs,Agree o o' g):gs.map (bC o)=gs.map (bC o'):=W8 λg hg=>QO (h g hg)
theorem KO(h :∀sz∈x.names,o sz=o' sz):x.rows o g=x.rows o' g:=by cases x<;>simp only[W.rows]<;>(try rw[h _ (by simp[W.names])])
theorem Ie(h :∀g∈x.names,o g=o' g):lenOf o x=lenOf o' x:=by cases x<;>simp only[lenOf]<;>(try rw[h _ (by simp[W.names])])
theorem Cc(h :∀g∈x.names,o g=o' g):x.live o=x.live o':=by cases x<;>simp only[W.live]<;>(try rw[h _ (by simp[W.names])])
theorem QT{tt:TT}{d:W}(hs :∀s∈x.names,o s=o' s)(h :∀s∈d.names,o s=o' s):wR tt g o e x d=wR tt g o' e x d:=by
 unfold wR;split
 rotate_left
 rfl;split
 .split;rfl;rw[KO h];split;rfl;cases x<;>simp only<;>(try rw[hs _ (by simp[W.names])])
 .rfl
theorem Ce{place:Nat->Option (Nat×Nat)}:∀{ps:List (Nat×S)} {b c:List W},nH place b ps=zw c->∀x∈c,x∈b\/∃p∈ps,∀g∈x.names,g∈p.2.names
 | [],b,c,h=>by simp only[nH,Q0]at h;subst h;intro x hx;exact .inl hx
 |(n,s)::ps,b,c,h=>by
  cases s with
  |v y=>
   simp only[nH]at h;split at h
   rotate_left
   cases h;split at h
   rotate_left
   cases h;intro x hx;rcases Ce h x hx with hx|⟨p,d,hg⟩
   .unfold bf at hx;rcases Ys.1 hx with hx|hx
    .rcases Ys.1 hx with hx|hx;exact .inl (Wl hx);refine .inr ⟨(n,.v y),by simp,λg hg=>?_⟩;cases y with
     |one y=>simp only[V.words,X1]at hx;subst hx;simpa[S.names,V.names]using hg
     |agg j=>simp only[V.words]at hx;simp only[S.names,V.names,Z2];exact⟨x,hx,hg⟩
    .exact .inl (UB hx)
   .exact .inr ⟨p,by simp[d],hg⟩
  |jy=>simp[nH]at h
  |no=>simp[nH]at h
theorem Ig(h:x∈M.words)(hg:g∈x.names):g∈(S.v M).names:=by
 cases M with
 |one M=>simp only[V.words,X1]at h;subst h;simpa[S.names,V.names]using hg
 |agg b=>simp only[V.words]at h;simp only[S.names,V.names,Z2];exact⟨x,h,hg⟩
theorem D8{tt:TT}{F':Operand->S}{op:Op}(j :∀x∈op.operands.toList,F x=F' x)(Y :∀x∈op.operands.toList,∀d∈(F x).names,Agree o o' d):
  kernel tt g o F op e=kernel tt g o' F' op e:=by
 have K :∀x∈op.operands.toList,∀d∈(F x).names,o d=o' d:=λx B d hg=>(Y x B d hg).1;cases op with
 |move x=>simp only[kernel,<-j x (by simp[Op.operands])]
 |assign x=>simp only[kernel,<-j x (by simp[Op.operands])]
 |pick c x y=>simp only[kernel,<-j c (by simp[Op.operands]),<-j x (by simp[Op.operands]),<-j y (by simp[Op.operands])]
 |alloc t=>rfl
 |box t x=>simp only[kernel,<-j x (by simp[Op.operands])]
 |build t M=>
  have ty:M.toList.map (λp=>(p.1,F p.2))=M.toList.map (λp=>(p.1,F' p.2)):=W8 λp N=>by rw[j p.2 (by simp only[Op.operands];exact XN.2 ⟨p,N,rfl⟩)]
  simp only[kernel,<-ty]
 |buildSlice t n M=>
  have ty:M.toList.map (λp=>(p.1,F p.2))=M.toList.map (λp=>(p.1,F' p.2)):=W8 λp N=>by rw[j p.2 (by simp only[Op.operands];exact XN.2 ⟨p,N,rfl⟩)]
  simp only[kernel,<-ty];split
  rotate_left
  rfl;split
  rotate_left
  rfl;rename_i Z _;split
  rotate_left
  rfl;rename_i ws hws;have hn :∀x∈ws,∀d∈x.names,Agree o o' d:=by
   intro x B d hg;rcases Ce hws x B with h|⟨p,N,h⟩
   .have:=yV h;obtain⟨v,_,rfl⟩:=XN.1 this;rw[qE]at hg;cases hg
   .obtain ⟨q,hq,rfl⟩:=XN.1 N;exact Y q.2 (by simp only[Op.operands];exact XN.2 ⟨q,hq,rfl⟩) d (h d hg)
  rw[<-xE hn];split
  .rename_i h;rw[oP (zi h hn)]
  .rfl
 |load t x=>have B:=j x (by simp[Op.operands]);have hn:=K x (by simp[Op.operands]);simp only[kernel,<-B];generalize F x=L at hn;split<;>simp_all [S.names,V.names,W.names]
 |store t x y=>
  have B:=j x (by simp[Op.operands]);have hy:=j y (by simp[Op.operands]);have hn:=K x (by simp[Op.operands]);have hm:=Y y (by simp[Op.operands]);simp only[kernel,<-B,<-hy];generalize F x=L at hn;generalize F y=sy at hm;split
  .rename_i d off y _;rw[hn d (by simp[S.names,V.names,W.names])]
  .rename_i d n off y _;rw[hn d (by simp[S.names,V.names,W.names])];have hw :∀x∈y.words,∀d∈x.names,Agree o o' d:=λx B d hg=>hm d (Ig B hg);rw[<-xE hw];cases hz:yI o y.words with
   |none=>cases o' d with|arr fz _ _ _ _=>cases fz<;>rfl|_=>rfl
   |some z=>
    obtain⟨M,a',i'',gs⟩:=z;have ty:=oP (zi hz hw);cases o' d with
    |arr fz _ _ _ _=>cases fz<;>simp only[ty]
    |_=>rfl
  .rfl
 |nilCheck x=>
  have B:=j x (by simp[Op.operands]);have hn:=K x (by simp[Op.operands]);simp only[kernel,<-B];generalize F x=L at hn;split
  .rw [Cc λd hg=>hn d (by simpa[S.names,V.names]using hg)]
  .rfl
 |binOp op t x y u=>simp only[kernel,<-j x (by simp[Op.operands]),<-j y (by simp[Op.operands])]
 |unOp op t x=>simp only[kernel,<-j x (by simp[Op.operands])]
 |convert s t x=>
  have B:=j x (by simp[Op.operands]);have hn:=K x (by simp[Op.operands]);simp only[kernel,<-B];generalize F x=L at hn;split
  .rfl
  .rw [KO λd hg=>hn d (by simpa[S.names,V.names]using hg)]
  .rfl
  .rfl
 |makeSlice t n c=>
  simp only[kernel,<-j n (by simp[Op.operands]),<-j c (by simp[Op.operands])];split
  rotate_left
  rfl;split
  .rename_i Z _;have:yI o (Z.zero.map cv)=yI o' (Z.zero.map cv):=xE λx B d hg=>by obtain⟨v,_,rfl⟩:=XN.1 B;rw[qE]at hg;cases hg
   rw[this]
  .rfl
 |slice t x lo X mx=>
  cases mx with
  |some m=>cases lo with
   |some l=>simp only[kernel]
   |none=>cases X with
    |none=>simp only[kernel]
    |some h=>
     have B:=j x (by simp[Op.operands]);have hn:=K x (by simp[Op.operands]);simp only[kernel,<-B,<-j h (by simp[Op.operands]),<-j m (by simp[Op.operands])];generalize F x=L at hn;unfold DF;split
     .rename_i d _ _ h' _ _ m' _ _ _;rw[hn d (by simp[S.names,V.names,W.names])]
     .rfl
     .rfl
  |none=>
   have B:=j x (by simp[Op.operands]);have hn:=K x (by simp[Op.operands]);have hlo:lo.map F=lo.map F':=by
    cases lo with
    |none=>rfl
    |some l=>simp[j l (by simp[Op.operands])]
   have hhi:X.map F=X.map F':=by
    cases X with
    |none=>rfl
    |some l=>simp[j l (by simp[Op.operands])]
   simp only[kernel,<-B,<-hlo,<-hhi];generalize F x=L at hn;split
   rotate_left
   rfl;rfl;rename_i x _;have hn :∀d∈x.names,o d=o' d:=λd hg=>hn d (by simpa[S.names,V.names]using hg);rw[<-Ie hn];split
   .split
    .split
     .rw [hn _ (by simp[W.names])]
     all_goals rfl
    .rfl
   .rfl
 |fieldAddr t x n=>
  have B:=j x (by simp[Op.operands]);have hn:=K x (by simp[Op.operands]);simp only[kernel,<-B];generalize F x=L at hn;split
  .rw [Cc λd hg=>hn d (by simpa[S.names,V.names]using hg)]
  .rfl
 |field t x n=>simp only[kernel,<-j x (by simp[Op.operands])]
 |indexAddr t x ix=>
  have B:=j x (by simp[Op.operands]);have hn:=K x (by simp[Op.operands]);simp only[kernel,<-B,<-j ix (by simp[Op.operands])];generalize F x=L at hn;split
  .rename_i x a i n _ _;have hn :∀d∈x.names,o d=o' d:=λd hg=>hn d (by simpa[S.names,V.names]using hg);split
   .rw [hn _ (by simp[W.names])]
   .rw [hn _ (by simp[W.names])]
   all_goals rfl
  .rfl
  .rw [Cc λd hg=>hn d (by simpa[S.names,V.names]using hg)]
  .rfl
 |index t x ix=>simp only[kernel,<-j x (by simp[Op.operands]),<-j ix (by simp[Op.operands])]
 |extract t n=>simp only[kernel,<-j t (by simp[Op.operands])]
 |range t x=>simp only[kernel,<-j x (by simp[Op.operands])]
 |makeFunc fn first T=>
  cases fn with
  |func d=>
   simp only[kernel];have hc :∀x∈T.toList,F x=F' x:=λx B=>j x (by simp[Op.operands];exact .inr (by simpa using B));have :∀l:List Operand,(∀x∈l,F x=F' x)->∀(G:Option (List W)->Option Fj),G (l.mapM (λx=>match F x with|.v (.one w)=>zw w|_=>zz))=G (l.mapM (λx=>match F' x with|.v (.one w)=>zw w|_=>zz)):=by
    intro l H G;congr 1
    induction l with
    |nil=>rfl
    |cons x l ih=>simp only[vv];rw[H x (by simp),ih λy hy=>H y (by simp[hy])]
   split
   .exact this _ hc λz=>match z with|some ws=>zw (.pure (.v (.one (.clo d ws))))|none=>zz
   .rfl
  |_=>rfl
 |call c=>
  obtain⟨callee,args,ts⟩:=c;have J :∀x∈args.toList,F x=F' x:=λx B=>j x (by simp[Op.operands,Call.operands];exact .inr (by simpa using B));have hb :∀x∈args.toList,∀d∈(F x).names,o d=o' d:=λx B=>K x (by simp[Op.operands,Call.operands];exact .inr (by simpa using B));cases callee with
  |builtin b=>
   cases b with
   |append=>
    simp only[kernel];split
    rotate_left
    rfl;rename_i s x sT xT _ H _;have hs:=J s (by rw[H];simp);have B:=J x (by rw[H];simp);have ns:=hb s (by rw[H];simp);have U:=hb x (by rw[H];simp);rw[<-hs,<-B];generalize F s=ss at ns;generalize F x=L at U;split
    .exact QT (λd hg=>ns d (by simpa[S.names,V.names]using hg)) (λd hg=>U d (by simpa[S.names,V.names]using hg))
    .rfl
   |len=>
    simp only[kernel];split
    rotate_left
    rfl;rename_i x t H _;have B:=J x (by rw[H];simp);have U:=hb x (by rw[H];simp);rw[<-B];generalize F x=L at U;split
    .rw [Ie λd hg=>U d (by simpa[S.names,V.names]using hg)]
    .rfl
    .rfl
   |min=>
    simp only[kernel];split
    .rename_i x y H;rw[J x (by rw[H];simp),J y (by rw[H];simp)]
    .rename_i x y z H;rw[J x (by rw[H];simp),J y (by rw[H];simp),J z (by rw[H];simp)]
    .rfl
   |max=>
    simp only[kernel];split
    .rename_i x y H;rw[J x (by rw[H];simp),J y (by rw[H];simp)]
    .rename_i x y z H;rw[J x (by rw[H];simp),J y (by rw[H];simp),J z (by rw[H];simp)]
    .rfl
   |_=>rfl
  |_=>rfl
 |_=>rfl
theorem Aq{b:Nat->Option Nat}:∀{xs:List W} {j:Nat},(∀x∈xs,∀g∈x.names,Agree o o' g)->TM o b j xs=TM o' b j xs
 | [],_,_=>rfl
 |x::xs,j,h=>by
  have c:=h x (by simp);simp only[TM];rw[Aq λy d=>h y (by simp[d]),FT c];cases x with
  |own e=>simp only[(c e (by simp[W.names])).1]
  |_=>rfl
theorem Ci{b:Nat->Option Nat}:∀{xs:List W} {j:Nat} {c:List P} {a i:Bool} {gs:List Nat} {es:List (Nat×Nat)},TM o b j xs=zw (c,a,i,gs,es)->(∀x∈xs,∀g∈x.names,Agree o o' g)->∀g∈gs,Agree o o' g
 | [],j,c,a,i,gs,es,h,_=>by simp[TM]at h;obtain⟨_,_,_,rfl,_⟩:=h;simp
 |x::xs,j,c,a,i,gs,es,h,m=>by
  simp only[TM]at h;split at h;cases h;rename_i q K L w z B;have d:=Ci B (λy H=>m y (by simp[H]));split at h
  .split at h
   rotate_left
   cases h;rename_i J;simp only[Q0,QP]at h;obtain⟨_,_,_,rfl,_⟩:=h;intro g hg;rcases Ys.1 hg with hg|hg
   .exact Cb J (m x (by simp)) g hg
   .exact d g hg
  .split at h
   .simp only[Q0,QP]at h;obtain⟨_,_,_,rfl,_⟩:=h;exact d
   .split at h
    .split at h
     .simp only[Q0,QP]at h;obtain⟨_,_,_,rfl,_⟩:=h;exact d
     .cases h
    .cases h
   .cases h
theorem UK(h :∀g∈x.names,Agree o o' g):baseD o x=baseD o' x:=by cases x<;>simp only[baseD]<;>(try rw[oq (h _ (by simp[W.names])),(h _ (by simp[W.names])).1])
theorem Oi{tt:TT}{F':Operand->S}{op:Op}(m :∀x∈op.operands.toList,F x=F' x)(z :∀x∈op.operands.toList,∀d∈(F x).names,Agree o o' d):
  dY tt r g o F op e=dY tt r g o' F' op e:=by
 cases op with
 |load t x=>
  have j:=m x (by simp[Op.operands]);have hn:=z x (by simp[Op.operands]);simp only[dY,uJ,<-j];generalize F x=H at hn;congr 1
  .split
   .have hg:=hn _ (by simp[S.names,V.names,W.names];rfl);rw[<-oq hg]
   .rfl
  .split
   .have hg:=hn _ (by simp[S.names,V.names,W.names];rfl);rw[<-oq hg,<-hg.1]
   .rfl
 |slice t x lo J mx=>
  cases lo with
  |some _=>rfl
  |none=>
  cases mx with
  |some _=>rfl
  |none=>
  have j:=m x (by simp[Op.operands]);have hn:=z x (by simp[Op.operands]);have hh:J.map F=J.map F':=by
   cases J with
   |none=>rfl
   |some y=>simp only[W7,Q0];exact m y (by simp[Op.operands])
  simp only[dY,<-j,<-hh];generalize F x=H at hn;split
  .have hg:=hn _ (by simp[S.names,V.names,W.names];rfl);rw[<-hg.1]
  .rfl
 |store t x y=>
  have j:=m x (by simp[Op.operands]);have hy:=m y (by simp[Op.operands]);have hn:=z x (by simp[Op.operands]);have U:=z y (by simp[Op.operands]);simp only[dY,<-j,<-hy];generalize F x=H at hn;generalize F y=sy at U;split
  rotate_left
  rfl;rename_i d off y _;have hg:=hn _ (by simp[S.names,V.names,W.names];rfl);have X :∀x∈y.words,∀d∈x.names,Agree o o' d:=λx j d hg=>U d (Ig j hg);rw[<-oq hg,<-hg.1];split
  .rename_i a0 i0 sz au l0 Y _;rw[<-Aq X];split
   .rename_i K a' i' gs es hz;rw[oP (Ci hz X)]
   .rfl
  .rfl
 |buildSlice t n K=>
  have ty:K.toList.map (λp=>(p.1,F p.2))=K.toList.map (λp=>(p.1,F' p.2)):=W8 λp L=>by rw[m p.2 (by simp only[Op.operands];exact XN.2 ⟨p,L,rfl⟩)]
  simp only[dY,<-ty];split
  rotate_left
  rfl;split
  rotate_left
  rfl;rename_i M _;split
  rotate_left
  rfl;rename_i ws N;have hn :∀x∈ws,∀d∈x.names,Agree o o' d:=by
   intro x j d hg;rcases Ce N x j with h|⟨p,L,h⟩
   .have:=yV h;obtain⟨v,_,rfl⟩:=XN.1 this;rw[qE]at hg;cases hg
   .obtain ⟨q,hq,rfl⟩:=XN.1 L;exact z q.2 (by simp only[Op.operands];exact XN.2 ⟨q,hq,rfl⟩) d (h d hg)
  rw[<-Aq hn];split
  .rename_i h;rw[oP (Ci h hn)]
  .rfl
 |makeSlice t n c=>
  simp only[dY,<-m n (by simp[Op.operands]),<-m c (by simp[Op.operands])];split
  rotate_left
  rfl;split
  .rename_i M _;have :∀w,TM o w 0 (M.zero.map cv)=TM o' w 0 (M.zero.map cv):=λw=>Aq λx j d hg=>by obtain⟨v,_,rfl⟩:=XN.1 j;rw[qE]at hg;cases hg
   rw[this]
  .rfl
 |call c=>
  obtain⟨callee,args,ts⟩:=c;have Z :∀x∈args.toList,F x=F' x:=λx j=>m x (by simp[Op.operands,Call.operands];exact .inr (by simpa using j));have hb :∀x∈args.toList,∀d∈(F x).names,Agree o o' d:=λx j=>z x (by simp[Op.operands,Call.operands];exact .inr (by simpa using j));cases callee with
  |builtin b=>
   cases b with
   |append=>
    simp only[dY];split
    rotate_left
    rfl;rename_i s x sT xT _ B _;have hs:=Z s (by rw[B];simp);have j:=Z x (by rw[B];simp);have ns:=hb s (by rw[B];simp);have nx:=hb x (by rw[B];simp);rw[<-hs,<-j];generalize F s=ss at ns;generalize F x=H at nx;split
    .rename_i s' g2 _ _;have hg:=nx g2 (by simp[S.names,V.names,W.names]);rw[<-UK (λd hg=>ns d (by simpa[S.names,V.names]using hg)),<-oq hg,<-hg.1]
    .rfl
   |_=>rfl
  |_=>rfl
 |_=>rfl
end
end Go.Fw

namespace Go.Fw
open Go.RowKit
variable [fO]
def quiet:Obj->Bool
 |.loop _=>zj
 |.deferred _=>zj
 |_=>zv
theorem kY{o:Obj}(h:quiet o=zj):∀c e f,o≠.cells c e f:=by intro c e f d;subst d;cases h
theorem KP{o:Obj}(h:quiet o=zj):∀s k,o≠.stringIter s k:=by intro s k c;subst c;cases h
section
variable {w w':World} {b:Nat} {o:Obj}
theorem KQ{a:Addr}(h:w.cell? a=zw v):∃c e f,w.heap[a.block]?=zw (.cells c e f):=by obtain⟨o,d,g⟩:=cells_of_cell h;cases o<;>first|exact⟨_,_,_,d⟩|cases g
theorem dH.turn(U:w.heap[b]?=zw o)(X:quiet o=zj)(hs :∀k,k≠b->w'.heap[k]?=w.heap[k]?){ok:Nat->Prop}{x:P}(r:dH w ok x v):dH w' ok x v:=by
 have ne :∀{k c e f},w.heap[k]?=zw (.cells c e f)->k≠b:=λd Y=>by subst Y;rw[U]at d;exact kY X _ _ _ (Wt d)
 induction r with
 |int k n=>exact .int k n
 |bool b=>exact .bool b
 |str s=>exact .str s
 |opq v h=>exact .opq v h
 |nil B Z cap=>exact .nil B Z cap
 |sl B l a cap f H J m q hc hr ih=>refine .sl B l a cap f H J m q (λi x K j y L=>?_) (λi x K j y L=>ih i x K j y L);have T:=hc i x K j y L;obtain⟨c,e,f,d⟩:=KQ T;rw[<-T];exact World.cell?_of_block (w:=w) (hs _ (ne d))
 |seq l v S hv M N=>
  exact .seq l v S hv (λz g=>⟨(M z g).1,by obtain⟨c,e,f,d⟩:=(M z g).2;exact⟨c,e,f,(hs _ (ne d)).trans d⟩⟩)
   (fO.Y3 (λz g=>by obtain⟨c,e,f,d⟩:=(M z g).2;exact hs _ (ne d)) N)
variable {E:Env} {st:St} {gh:Nat->Gh}
theorem Ar(c:w'.heap.size=w.heap.size):E.ok st gh w i a=E.ok st gh w' i a:=by funext b;unfold Env.ok;rw[c]
theorem f_.turn(z:w.heap[b]?=zw o)(B:quiet o=zj)(hs :∀k,k≠b->w'.heap[k]?=w.heap[k]?)(H:w'.heap.size=w.heap.size)(r:f_ E st gh w x v):f_ E st gh w' x v:=by
 induction r with
 |p a i x v h=>exact .p a i x v (by rw[<-Ar H];exact h.turn z B hs)
 |dD=>exact .dD
 |own g v d h=>exact .own g v d h
 |vw g lo N v d h=>exact .vw g lo N v d h
 |box g off v d h=>exact .box g off v d h
 |ep g n off v d h=>exact .ep g n off v d h
 |sp a i row off J o' K h=>refine .sp a i row off J o' (by rw[<-Ar H];exact K) λj y T=>?_;obtain⟨u,hu,U⟩:=h j y T;obtain⟨c,e,f,q⟩:=KQ hu;refine⟨u,?_,by rw[<-Ar H];exact U.turn z B hs⟩;rw[<-hu];refine World.cell?_of_block (w:=w) (hs _ λL=>?_);have q:w.heap[J]?=zw (.cells c e f):=q;have L:J=b:=L;rw[L,z]at q;exact kY B _ _ _ (Wt q)
 |gl g=>exact .gl g
 |oI g v d h=>exact .oI g v d h
 |gd b x v h M=>exact .gd b x v M
 |clo f m vs X h M=>exact .clo f m vs X M
 |no v=>exact .no v
theorem sV.turn(d:w.heap[b]?=zw o)(g:quiet o=zj)(hs :∀k,k≠b->w'.heap[k]?=w.heap[k]?)(m:w'.heap.size=w.heap.size)(r:sV E st gh w M v):sV E st gh w' M v:=by
 cases r with
 |one M v h=>exact .one M v (h.turn d g hs m)
 |agg xs q y z h=>exact .agg xs q y z λj M v B c=>(h j M v B c).turn d g hs m
theorem dU.turn(c:w.heap[b]?=zw o)(d:quiet o=zj)(hs :∀k,k≠b->w'.heap[k]?=w.heap[k]?)(g:w'.heap.size=w.heap.size)(r:dU E st gh w y v):dU E st gh w' y v:=by
 cases r with
 |v y v h=>exact .v y v (h.turn c d hs g)
 |jy xs vs m h=>exact .jy xs vs m λj y v q x=>(h j y v q x).turn c d hs g
 |no v=>exact .no v
theorem jq.turn(sz:w.heap[b]?=zw o)(h:quiet o=zj)(hs :∀k,k≠b->w'.heap[k]?=w.heap[k]?)(m:w'.heap.size=w.heap.size){l:List (List P)}{G:Gh}(r:jq E st gh w i a g l G):jq E st gh w' i a g l G:=by
 rcases r with r|⟨ad,c,e,q,z,d,B,H,J,K⟩
 .exact .inl r
 .exact .inr ⟨ad,c,e,q,z,(hs _ λL=>by rw[L,sz]at d;exact kY h _ _ _ (Wt d)).trans d,B,H,J,λn x M j y N=>let ⟨v,q1,q2⟩:=K n x M j y N;⟨v,q1,by rw[<-Ar m];exact q2.turn sz h hs⟩⟩
theorem nG.turn(g:w.heap[b]?=zw o)(h:quiet o=zj)(hs :∀k,k≠b->w'.heap[k]?=w.heap[k]?)(H:w'.heap.size=w.heap.size){x:O}{G:Gh}(r:nG E st gh w x G):nG E st gh w' x G:=by
 have ne :∀{k c e f},w.heap[k]?=zw (.cells c e f)->k≠b:=λM N=>by subst N;rw[g]at M;exact kY h _ _ _ (Wt M)
 cases x with
 |none=>trivial
 |box ws=>obtain⟨ad,c,e,J,K,z,B,T⟩:=r;exact⟨ad,c,e,J,K,(hs _ (ne z)).trans z,B,λj x U=>let ⟨v,q1,q2,q3⟩:=T j x U;⟨v,q1,q2,q3.turn g h hs H⟩⟩
 |arr fz a i Y l=>
  cases fz with
  |true=>exact(by rw[<-Ar H];exact dH.turn g h hs r:dH w' (E.ok st gh w' a i) (.sl Y l) (.slice G.ad l.length G.cap))
  |false=>exact jq.turn g h hs H r
 |aO a i Y au l L=>
  rcases r with r|⟨ad,c,e,J,K,z,B,T,h6,⟨h7,X⟩,h8⟩
  .exact .inl r
  .refine .inr ⟨ad,c,e,J,K,(hs _ (ne z)).trans z,B,T,h6,⟨h7,λk M=>let ⟨c,e,f,q⟩:=X k M;⟨c,e,f,(hs _ (ne q)).trans q⟩⟩,λn x U j y hy=>?_⟩;obtain⟨v,hv,m⟩:=h8 n x U j y hy;refine⟨v,hv,?_⟩;unfold jr at *;cases Z:au.lookup j with
   |none=>rw[Z]at m;exact(by rw[<-Ar H];exact dH.turn g h hs m:dH w' (E.ok st gh w' a i) y v)
   |some sz'=>
    rw[Z]at m;simp only at *;cases hh:iT L n j with
    |some d=>rw[hh]at m;exact⟨m.1,m.2.turn g h hs H⟩
    |none=>rw[hh]at m;obtain⟨l',ao,k,q1,q2,q3,q4⟩:=m;exact⟨l',ao,k,q1,q2,q3.turn g h hs H,q4⟩
 |it s n=>obtain⟨ad,bs,k,J,K,z,B⟩:=r;refine⟨ad,bs,k,J,K,z,(hs _ λN=>?_).trans B⟩;rw[N,g]at B;exact KP h _ _ (Wt B)
theorem Rel.turn{val:Nat->Value}(h:Rel E st gh val w)(m:w.heap[b]?=zw o)(q:quiet o=zj)(H:E.B0<=b)(o':Obj):Rel E st gh val (w.putObj b o'):=by have d :∀k,k≠b->(w.putObj b o').heap[k]?=w.heap[k]?:=λk j=>World.putObj_heap_other j;have c:(w.putObj b o').heap.size=w.heap.size:=World.putObj_size;exact⟨λt=>(h.slots t).turn m q d c,λg=>(h.bI g).turn m q d c,h.inj,λg a y z=>by rw[c];exact h.wr g a y z,h.wi,h.ns,h.wb,λk j B=>(d k (by omega)).trans (h.frame k j B),by rw[c];exact h.size,h.os,h.tape,h.output,h.us,h.uo,h.ul⟩
omit [fO] in
structure D9(w w':World):Prop where
 size:w.heap.size<=w'.heap.size
 same :∀b,b<w.heap.size->w'.heap[b]?=w.heap[b]?
 os:w'.os=w.os
 tape:w'.tape=w.tape
 output:w'.output=w.output
theorem D9.alloc(w:World)(o:Obj):D9 w (w.alloc o):=⟨by simp,λb c=>Below.heap_alloc w o b c,rfl,rfl,rfl⟩
theorem D9.lets(h:D9 w w'):Lets E st st gh gh w w':=⟨λa i b c=>⟨⟨c.1,Up c.2.1 h.size,c.2.2⟩,h.same b c.2.1⟩,λg _=>.inr ⟨⟨rfl,rfl⟩,O.gy _⟩⟩
theorem Rel.grows{val:Nat->Value}(h:Rel E st gh val w)(hg:D9 w w'):Rel E st gh val w':=by have d:Lets E st st gh gh w w':=hg.lets;refine⟨λt=>d.aii (h.us t) (h.slots t),λg=>d.Dz (λy ad c=>hg.same _ (h.wr g ad y c).2) (h.uo g) (h.bI g),h.inj,λg a j m=>⟨(h.wr g a j m).1,Up (h.wr g a j m).2 hg.size⟩,h.wi,h.ns,h.wb,λk q z=>(hg.same k (Up q h.size)).trans (h.frame k q z),K0 h.size hg.size,hg.os.trans h.os,hg.tape.trans h.tape,hg.output.trans h.output,h.us,h.uo,h.ul⟩
theorem Rel.aeA{val:Nat->Value}(h:Rel E st gh val w)(z:w.heap[b]?=zw o)(B:quiet o=zj)(M:E.B0<=b)(a i:Bool):E.ok st gh w a i b:=by
 refine⟨.inr (.inr (.inl M)),(US.1 z).1,λg H j=>?_⟩;have m:=h.bI g;rcases j with⟨ad,j,e⟩|hsub
 case inr=>
  cases hd:(st.o g).pz with
  |false=>rw[h.ns g H hd b]at hsub;cases hsub
  |true=>
   cases d:st.o g with
   |aO a i K N l J=>
    rw[d]at m;rcases m with⟨_,_,_,q⟩|⟨ad,c,e,_,_,_,_,_,_,⟨_,q⟩,_⟩
    .rw [q b]at hsub;cases hsub
    .obtain ⟨c,e,f,q⟩:=q b hsub;rw[z]at q;exact kY B _ _ _ (Wt q)
   |_=>rw[d]at hd;cases hd
 cases d:st.o g with
 |none=>rw[d]at H;cases H
 |box U=>rw[d]at m;obtain⟨y,c,L,q1,_,q3,_⟩:=m;rw[j]at q1;cases q1;rw[e,z]at q3;exact kY B _ _ _ (Wt q3)
 |aO a i K N l J=>
  rw[d]at m;rcases m with⟨q1,_⟩|⟨y,c,L,q1,_,q3,_⟩
  .rw [j]at q1;cases q1
  .rw [j]at q1;cases q1;rw[e,z]at q3;exact kY B _ _ _ (Wt q3)
 |arr T a i K l=>
  cases T with
  |true=>rw[d]at H;cases H
  |false=>
   rw[d]at m;rcases m with⟨q1,_⟩|⟨y,c,L,q1,_,q3,_⟩
   .rw [j]at q1;cases q1
   .rw [j]at q1;cases q1;rw[e,z]at q3;exact kY B _ _ _ (Wt q3)
 |it s n=>rw[d]at m;obtain⟨y,X,k,q1,_,_,q4⟩:=m;rw[j]at q1;cases q1;rw[e,z]at q4;exact KP B _ _ (Wt q4)
end
end Go.Fw

namespace Go.Fw
variable [fO]
section
variable {E:Env} {st st':St} {gh bU:Nat->Gh} {w w':World} {a:Act}
theorem XC(v:Value):dU E st gh w (wQ v) v:=by
 unfold wQ;split
 .rename_i c;split
  rotate_left
  exact .no _;rename_i h;have h:=Z3.1 h;refine .v _ _ (.agg _ c.toList (by simp) h λj x u b hu=>?_);rw[Z0,hu]at b;simp only[W7,Q0]at b;subst b;exact Xl (h u (Z1 hu))
 .exact .no _
 .exact .v _ _ (.one _ _ (.clo _ [] [] rfl λj x v b=>by simp at b))
 .split
  .rename_i h;exact .v _ _ (.one _ _ (Xl h))
  .exact .no _
theorem QU(v:Value):(wQ v).names=[]:=by
 unfold wQ;split
 .split
  .simp [S.names,V.names,qE]
  .rfl
 .rfl
 .simp [S.names,V.names,W.names]
 .split
  .simp [S.names,V.names,qE]
  .rfl
theorem su(h:Rel E st gh (λt=>a.tmps.getD t undef) w)(x:Operand):dU E st gh w (st.dK x) (a.eval x):=by
 cases x with
 |tmp t=>exact h.slots t
 |const v=>exact XC v
 |global g=>
  simp only[St.dK];split
  .exact .v _ _ (.one _ _ (.gl g))
  .exact .no _
 |func f=>exact .v _ _ (.one _ _ (.clo _ [] [] rfl λj x v b=>by simp at b))
theorem KR(h:Rel E st gh (λt=>a.tmps.getD t undef) w)(x:Operand):∀g∈(st.dK x).names,st.used g=zj:=by
 cases x with
 |tmp t=>exact h.us t
 |const v=>intro g hg;simp[St.dK,QU]at hg
 |global g=>
  intro g' hg;simp only[St.dK]at hg;split at hg
  .simp [S.names,V.names,W.names]at hg
  .simp [S.names]at hg
 |func f=>intro g hg;simp[St.dK,S.names,V.names,W.names]at hg
theorem D_(dst:Option Tmp)(v:Value)(h :∀d,dst=zw d->d<a.tmps.size):(λt=>(a.put dst v).tmps.getD t undef)=J8 (λt=>a.tmps.getD t undef) dst v:=by
 cases dst with
 |none=>rfl
 |some d=>
  funext t;have hd:=h d rfl;simp only[Act.put,J8,WP];by_cases e:t=d
  .subst e;simp[hd]
  .rw [Array.getElem?_setIfInBounds_ne (Ne.symm e),Qt e]
variable {Pg:Program} {T:Tab} {tt:TT}
variable{e:Eff}{K:Act->World->Prop}{Q:Exit->Act->World->Prop}
theorem XD(hT :∀f sp,T f=zw sp->Sound Pg (f % 1000000) sp)(z:jv Pg tt)(h:Rel E st gh (λt=>a.tmps.getD t undef) w)(hc:lq T tt g st o λe'=>e'=e)(b :∀d∈e.new,st.used d=zv)
   
  (B :∀v w' bU,Rel E (st.aJ e.aJ e.new) bU (λt=>a.tmps.getD t undef) w'->Lets E st (st.aJ e.aJ e.new) gh bU w w'->dU E (st.aJ e.aJ e.new) bU w' e.x v->(∀d∈e.x.names,(st.aJ e.aJ e.new).used d=zj)->K (a.put o.dst v) w') :
  o.wp Pg a w K Q:=by
 unfold lq at hc;split at hc
 .rename_i f args ts ho;split at hc
  rotate_left
  cases hc;rename_i fn m hf;split at hc
  rotate_left
  cases hc;rename_i sp M;split at hc
  rotate_left
  cases hc;rename_i c N;obtain⟨Zh,dR,same,hR,q,j⟩:=hc;simp only[QR,Wa]at Zh;have y:=su h f;rw[hf]at y;generalize U:a.eval f=vf at y;cases y.dW with
  |clo _ _ vs hl X=>
  have hS:=ait (p:=Sound Pg) hT M;have H:(execOp a.eval o).run Pg w=.ok (.enter fn (args.toList.map a.eval++vs).toArray) w:=by
   have:(#[]++args.map a.eval)++vs.toArray=(args.toList.map a.eval++vs).toArray:=by apply Array.ext';simp
   rw[<-hS.2.1 (args.toList.map a.eval++vs).toArray w,<-this];simp only[execOp,ho,resolve,U,Deferred.ofValue];rfl
  show o.upon Pg a K Q ((execOp a.eval o).run Pg w);rw[H,Oper.upon_enter];have hr :∀t,dU E st gh w (((args.toList.map st.dK)++m.map λx=>S.v (.one x)).getD t .no) ((args.toList.map a.eval++vs).getD t undef):=by
   intro t;simp only[Q1];by_cases J:t<args.toList.length
   .rw [Wf (by simpa using J),Wf (by simpa using J),Z0,Z0,Q2 J];exact su h _
   .rw [Wc (by simpa using J),Wc (by simpa using J)];simp only[We];rw[Z0];cases hx:m[t-args.toList.length]? with
    |none=>exact .no _
    |some x=>
     have L:t-args.toList.length<vs.length:=by rw[<-hl];exact(Q3.1 hx).1
     rw[Q2 L];exact .v _ _ (.one _ _ (X _ x _ hx (Q2 L)))
  have hu:=abR (st:=st) (e:=lJ sp.sig g st.o c dR) λd hg=>(q d hg).2;have b :∀d∈(lJ sp.sig g st.o c dR).new,st.used d=zv:=λd hg=>b d (by rw[<-j];exact hg);refine Calls.mono (XA hS h hr (by simp;omega) N Zh.1 hR g rfl b) λe' w' Y=>?_;obtain⟨v,bU,rfl,q1,q2,q3,q4⟩:=Y;rw[<-hu]at q1 q2 q3 q4;rw[j]at q1 q2 q3 q4;have q3:dU E (st.aJ e.aJ e.new) bU w' e.x v:=by rw[<-j];rw[<-j]at q3;exact q3
  have q4 :∀d∈e.x.names,(st.aJ e.aJ e.new).used d=zj:=by rw[<-j];rw[<-j]at q4;exact q4
  exact B v w' bU q1 q2 q3 q4
 .rcases hc with⟨dc,r,Z,hp,hc⟩|hc
  .have j:=Oe.iff.1 hc;subst j;obtain⟨v,w',bU,hd,q1,q2,q3,q4⟩:=Ob z o.op E st gh _ w a.eval st.dK o g r rfl h (su h) (KR h) Z hp b;show o.upon Pg a K Q ((execOp a.eval o).run Pg w);rcases hd with hd|⟨hd,rfl⟩
   .rw [hd];exact B v w' bU q1 q2 q3 q4
   .rw [hd];exact B _ w' bU q1 q2 q3 q4
  split at hc
  rotate_left
  cases hc;rename_i r Z;obtain⟨hp,hc⟩:=hc;have j:({ x:=r.dst r.val,aJ:=r.aJ r.val,new:=r.new }:Eff)=e:=by
   cases hb:H_ o.op with
   |true=>rw[hb]at hc;exact Oe.iff.1 hc
   |false=>rw[hb]at hc;exact hc
  subst j;obtain⟨v,w',bU,hd,q1,q2,q3,q4⟩:=QE z o.op E st gh _ w a.eval st.dK o g r rfl h (su h) (KR h) Z hp b;show o.upon Pg a K Q ((execOp a.eval o).run Pg w);rcases hd with hd|⟨hd,rfl⟩
  .rw [hd];exact B v w' bU q1 q2 q3 q4
  .rw [hd];exact B _ w' bU q1 q2 q3 q4
def mark(D:Nat):Deferred:={ target:=.collected D,args:=#[] }
def Marks(E:Env)(a:Act)(w:World):Prop :=∃b:List Nat,a.defers=b.map mark/\b.Nodup/\∀D∈b,E.B0<=D/\w.heap[D]?=zw (.deferred (zw []))
theorem Marks.nil{E:Env}{a:Act}{w:World}(h:a.defers=[]):Marks E a w:=⟨[],h,List.nodup_nil,λD b=>by cases b⟩
structure Good(E:Env)(N:Nat)(bH:List Nat)(yP:Nat->Gh)(st:St)(a:Act)(w:World):Prop where
 ex :∃gh,Rel E st gh (λt=>a.tmps.getD t undef) w/\∀g∈bH,st.used g=zj/\(st.o g=.none\/((gh g).ad=(yP g).ad/\(gh g).cap=(yP g).cap))
 size:a.tmps.size=N
 defers:Marks E a w
theorem Ea(dst:Option Tmp)(v:Value):(a.put dst v).tmps.size=a.tmps.size:=by cases dst<;>simp[Act.put]
theorem put_defers(dst:Option Tmp)(v:Value):(a.put dst v).defers=a.defers:=by cases dst<;>rfl
theorem Marks.same{E:Env}{a:Act}{w w':World}(d:Marks E a w)(h :∀D,E.B0<=D->w.heap[D]?=zw (.deferred (zw []))->w'.heap[D]?=w.heap[D]?)(dst:Option Tmp)(v:Value):Marks E (a.put dst v) w':=by obtain⟨g,j,m,b⟩:=d;exact⟨g,(put_defers dst v).trans j,m,λD c=>⟨(b D c).1,(h D (b D c).1 (b D c).2).trans (b D c).2⟩⟩
theorem Marks.step{val:Nat->Value}(b:Marks E a w)(c:Rel E st gh val w)(d:Lets E st st' gh bU w w')(dst:Option Tmp)(v:Value):Marks E (a.put dst v) w':=b.same (λD g h=>(d.ok zv zv D (c.aeA h rfl g _ _)).2) dst v
theorem Marks.put(b:Marks E a w)(dst:Option Tmp)(v:Value):Marks E (a.put dst v) w:=b.same (λ_ _ _=>rfl) dst v
theorem tV{K m:Eff->Prop}(b :∀e,K e->m e)(h:lq T tt g st o K):lq T tt g st o m:=by
 unfold lq at *;split at h
 .split at h
  .split at h
   .split at h
    .obtain ⟨c,dR,same,d,y,j⟩:=h;exact⟨c,dR,same,d,y,b _ j⟩
    .exact h
   .exact h
  .exact h
 .rcases h with⟨z,r,c,d,j⟩|h
  .exact .inl ⟨z,r,c,d,Oe.iff.2 (b _ (Oe.iff.1 j))⟩
  refine .inr ?_;split at h
  .refine ⟨h.1,?_⟩;obtain⟨_,h⟩:=h;cases q:H_ o.op with
   |true=>rw[q]at h;exact Oe.iff.2 (b _ (Oe.iff.1 h))
   |false=>rw[q]at h;exact b _ h
  .exact h
theorem KT{K:Eff->Prop}(h:lq T tt g st o K):∃e,lq T tt g st o (λq=>q=e)/\K e:=by
 unfold lq at *;split at h
 .split at h
  .split at h
   .split at h
    .obtain ⟨b,dR,same,c,y,d⟩:=h;exact⟨_,⟨b,dR,same,c,y,rfl⟩,d⟩
    .cases h
   .cases h
  .cases h
 .rcases h with⟨z,r,b,c,d⟩|h
  .exact ⟨_,.inl ⟨z,r,b,c,Oe.iff.2 rfl⟩,Oe.iff.1 d⟩
  split at h
  .obtain ⟨j,h⟩:=h;cases m:H_ o.op with
   |true=>rw[m]at h;exact⟨_,.inr ⟨j,Oe.iff.2 rfl⟩,Oe.iff.1 h⟩
   |false=>rw[m]at h;exact⟨_,.inr ⟨j,rfl⟩,h⟩
  .cases h
theorem aeB{o:Nat->O}(h:d≠g)(b:d∉(o g).hn):(Fw.lD o g).lookup d=zz:=by
 have j:(d==g)=zv:=by simpa using h
 unfold Fw.lD;split
 .rename_i a i y z l n c x m;rw[m]at b;have q:(d==x)=zv:=by simpa[O.hn,dN]using b
  repeat' split
  all_goals first|rfl|simp[List.lookup,j,q]
 .rfl
theorem UL{o:Nat->O}:∀y,(Fw.lD o g).lookup d=zw y->y.hn=[]:=by
 intro y b;unfold Fw.lD at b;split at b
 rotate_left
 cases b;rename_i a i h j l n c x m
 repeat' split at b
 all_goals first|(cases b;done)|skip
 simp only[List.lookup]at b;split at b
 .cases b;rfl
 .split at b
  .cases b;rfl
  .cases b
theorem Ih:∀(hs:List Nat) {st:St} {x:Nat},x∉hs->(∀g∈hs,x∉(st.o g).hn)->(Fw.shuts hs st).o x=st.o x
 | [],_,_,_,_=>rfl
 |g::gs,st,x,d,j=>by
  have m:(st.aJ (Fw.lD st.o g) []).o x=st.o x:=by simp only[St.aJ,aeB (λe=>d (by simp[e])) (j g (by simp))]
  show (Fw.shuts gs (st.aJ (Fw.lD st.o g) [])).o x=_;rw[Ih gs (λh=>d (by simp[h])) (λg' b=>?_),m];cases c:(Fw.lD st.o g).lookup g' with
  |none=>simp only[St.aJ,c];exact j g' (by simp[b])
  |some y=>simp only[St.aJ,c];rw[UL y c];simp
variable{hs:List Nat}
theorem ab4{st:St}:(match (Bz hs st).lookup g with
  |some y=>y
  |none=>st.o g)=(Fw.shuts hs st).o g:=by
 have key :∀(l:List (Nat×O)),(∀p∈l,p.2=(Fw.shuts hs st).o p.1)->(∀y,l.lookup g=zw y->y=(Fw.shuts hs st).o g)/\(l.lookup g=zz->∀p∈l,p.1≠g):=by
  intro l
  induction l with
  |nil=>exact λ_=>⟨λy h=>(by cases h),λ_ p hp=>(by cases hp)⟩
  |cons p l z=>
   intro b;obtain⟨i1,i2⟩:=z λq B=>b q (V1 _ B);obtain⟨k,v⟩:=p;simp only[List.lookup];cases m:g==k with
   |true=>
    have e:g=k:=by simpa using m
    subst e;exact⟨λy h=>by cases h;exact b (g,v) Kc,λh=>by cases h⟩
   |false=>
    refine⟨i1,λh p hp=>?_⟩;rcases Xs.1 hp with rfl|hp
    .exact λe=>by have e:k=g:=e;rw[e]at m;simp at m
    .exact i2 h p hp
 have c :∀p∈Bz hs st,p.2=(Fw.shuts hs st).o p.1:=by intro p hp;obtain⟨x,hg,hp⟩:=Z2.1 hp;rcases Xs.1 hp with rfl|hp;rfl;obtain⟨d,_,rfl⟩:=XN.1 hp;rfl
 obtain⟨H,J⟩:=key _ c;cases b:(Bz hs st).lookup g with
 |some y=>exact H y b
 |none=>have j:=J b;refine(Ih hs (λh=>j (g,(Fw.shuts hs st).o g) (Z2.2 ⟨g,h,by simp⟩) rfl) λx hg h=>j (g,(Fw.shuts hs st).o g) (Z2.2 ⟨x,hg,V1 _ (XN.2 ⟨g,h,rfl⟩)⟩) rfl).symm
theorem ab5{st:St}:st.aJ (D6 hs st e).aJ (D6 hs st e).new=(Fw.shuts hs st).aJ e.aJ e.new:=by
 cases hs with
 |nil=>rfl
 |cons g gs=>
  have ext :∀{x y:St},(∀t,x.s t=y.s t)->(∀g,x.o g=y.o g)->(∀g,x.used g=y.used g)->x=y:=λ{x y} b c d=>by cases x;cases y;simp only[St.mk.injEq];exact⟨funext b,funext c,funext d⟩
  refine ext (λt=>?_) (λx=>?_) (λx=>?_)
  .show st.s t=(Fw.shuts (g::gs) st).s t;rw[Ju]
  .show (match (e.aJ++Bz (g::gs) st).lookup x with|some y=>y|none=>st.o x)=match e.aJ.lookup x with|some y=>y|none=>(Fw.shuts (g::gs) st).o x
   rw[xk];cases e.aJ.lookup x with
   |some y=>rfl
   |none=>exact ab4
  .show (e.new.contains x||st.used x)=(e.new.contains x||(Fw.shuts (g::gs) st).used x);rw[w_]
theorem aiA{st:St}:(D6 hs st e).x=e.x/\(D6 hs st e).new=e.new:=by cases hs<;>exact⟨rfl,rfl⟩
theorem ab6(y :∀f sp,T f=zw sp->Sound Pg (f % 1000000) sp)(j:jv Pg tt)(h:Rel E st gh (λt=>a.tmps.getD t undef) w)(m:jK T tt g st o λz=>z=e)(b :∀d∈e.new,st.used d=zv)
   
  (B :∀v w' bU,Rel E (st.aJ e.aJ e.new) bU (λt=>a.tmps.getD t undef) w'->Lets E st (st.aJ e.aJ e.new) gh bU w w'->dU E (st.aJ e.aJ e.new) bU w' e.x v->(∀d∈e.x.names,(st.aJ e.aJ e.new).used d=zj)->K (a.put o.dst v) w') :
  o.wp Pg a w K Q:=by
 unfold jK at m;obtain⟨q,H,J⟩:=KT m;obtain⟨N,L,M,_⟩:=h.shuts (jJ st o);have c:=aiA (hs:=jJ st o) (st:=st) (e:=q);have hu:=ab5 (hs:=jJ st o) (st:=st) (e:=q);rw[J]at c hu;refine XD y j L H (λd hg=>by rw[w_];exact b d (by rw[c.2];exact hg)) λv w' bU q1 q2 q3 q4=>B v w' bU ?_ ?_ ?_ ?_
 .rw [hu];exact q1
 .rw [hu];exact M.trans q2 λd hg=>by rw[w_];exact hg
 .rw [hu,c.1];exact q3
 .rw [hu,c.1];exact q4
theorem pK{K b:Eff->Prop}(c :∀e,K e->b e)(h:jK T tt g st o K):jK T tt g st o b:=tV (λe h=>c _ h) h
theorem FU{K:Eff->Prop}(h:jK T tt g st o K):∃e,jK T tt g st o (λb=>b=e)/\K e:=by obtain⟨e,c,d⟩:=KT h;exact⟨_,tV (λb j=>by rw[j]) c,d⟩
def Can(T:Tab)(tt:TT)(N:Nat)(ops:Array Oper)(st:St)(o:Oper)(e:Eff):Prop:=stepW T tt N ops o st λb=>b=e
theorem UM{ops:Array Oper}{K:Eff->Prop}(h:stepW T tt g ops o st K):∃e,Can T tt g ops st o e/\K e:=by
 unfold Can;unfold stepW at *;obtain⟨hd,h⟩:=h;split at h
 .obtain ⟨e,d,N,j⟩:=FU h;exact⟨e,⟨hd,pK (λm c=>⟨by rw[c];exact N,c⟩) d⟩,j⟩
 .split at h
  rotate_left
  cases h;rename_i b q;cases b with
  |true=>simp only[cond_true]at h;obtain⟨e,d,N,j⟩:=FU h;refine⟨e,⟨hd,?_⟩,j⟩;simp only[cond_true];exact pK (λm c=>⟨by rw[c];exact N,c⟩) d
  |false=>exact⟨Eff.skip,⟨hd,rfl⟩,h⟩
theorem KU(hT :∀f sp,T f=zw sp->Sound Pg (f % 1000000) sp)(X:jv Pg tt){ops:Array Oper}(hi:ops[d]?=zw o)(h:Good E g b J st a w)(c:Can T tt g ops st o e)
    (hK :∀Y w',Good E g b J (st.eff o.dst e) Y w'->K Y w'):wpOp Pg ops Q d K a w:=by
 obtain⟨⟨gh,U,NR⟩,z,yP⟩:=h;unfold Can stepW at c;obtain⟨hd,c⟩:=c;have hd :∀bH,o.dst=zw bH->bH<a.tmps.size:=by intro bH e;rw[e]at hd;rw[z];simpa using hd
 have run:(jK T tt (o.dst.getD 0) st o λy=>y.new.all (λN=>!st.used N)=zj/\y=e)->o.wp Pg a w K Q:=by
  intro c;obtain⟨y,h1,h2,rfl⟩:=FU c;have L :∀N∈y.new,st.used N=zv:=λN hg=>by have:=(Z3.1 h2) N hg;simpa using this
  refine ab6 hT X U h1 L λv w' bU q1 q2 q3 q4=>hK _ _ ⟨⟨bU,?_,λN hg=>?_⟩,by rw[Ea];exact z,yP.step U q2 _ _⟩
  .rw [D_ _ _ hd];exact q1.put o.dst q3 q4
  .obtain ⟨p1,p2⟩:=NR N hg;have Z:(st.eff o.dst y).o N=(st.aJ y.aJ y.new).o N:=by unfold St.eff St.put;cases o.dst<;>rfl
   have hu:(st.eff o.dst y).used N=(st.aJ y.aJ y.new).used N:=by unfold St.eff St.put;cases o.dst<;>rfl
   refine⟨by rw[hu];simp[St.aJ,p1],?_⟩;rw[Z];rcases q2.names N p1 with q|⟨q,qk⟩;exact .inl q;rcases p2 with p2|p2
   .rw [p2]at qk;exact .inl (O.OZ qk)
   .exact .inr ⟨q.1.trans p2.1,q.2.trans p2.2⟩
 unfold wpOp;rw[hi];simp only;cases hg:o.guard with
 |none=>
  rw[hg]at c;have:Region.wanted o (yielded ops a.tmps)=zj:=by simp[Region.wanted,hg]
  rw[QQ this];exact .inl (run c)
 |some p=>
  obtain⟨j,want⟩:=p;rw[hg]at c;simp only at c;split at c
  rotate_left
  cases c;rename_i i B;have hw:Region.wanted o (yielded ops a.tmps)=i:=by
   simp only[Region.wanted,hg,yielded];unfold guardOf at B;split at B
   rotate_left
   cases B;rename_i t ht;have M:=U.slots t;rw[ht];simp only[Option.bind_some];split at B
   .rename_i Y i' b' hs;rw[hs]at M;have m:=M.gB.oM;have:a.tmps[t]?=zw (.bool b'):=by
     simp only[WP]at m;cases H:a.tmps[t]? with
     |none=>rw[H]at m;cases m
     |some x=>rw[H]at m;simp at m;rw[m]
    rw[this];cases B;cases want<;>cases b'<;>rfl
   .rename_i hs;rw[hs]at M;cases B;have m:a.tmps.getD t undef=.tuple #[]:=by
     generalize a.tmps.getD t undef=v at M;cases M with|jy _ vs hl _=>
     have:vs=[]:=by cases vs<;>simp_all
     subst this;rfl
    have:a.tmps[t]?=zz\/a.tmps[t]?=zw (.tuple #[]):=by
     simp only[WP]at m;cases H:a.tmps[t]? with
     |none=>exact .inl rfl
     |some x=>rw[H]at m;simp at m;rw[m];exact .inr rfl
    rcases this with h|h<;>rw[h]<;>cases want<;>rfl
   .cases B
  rw[hw];cases i with
  |true=>exact .inl (run c)
  |false=>
   simp only[cond_false]at c;subst c;refine hK _ _ ⟨⟨gh,?_,λN hg=>?_⟩,by rw[Ea];exact z,yP.put _ _⟩
   .rw [D_ _ _ hd];unfold St.eff Eff.skip;simp only[Js];exact U.put o.dst (.jy [] [] rfl λj x v H=>by simp at H) (by simp[S.names])
   .have Z:(st.eff o.dst Eff.skip).o N=st.o N:=by unfold St.eff St.put Eff.skip;cases o.dst<;>simp[St.aJ]
    have hu:(st.eff o.dst Eff.skip).used N=st.used N:=by unfold St.eff St.put Eff.skip;cases o.dst<;>simp[St.aJ]
    rw[Z,hu];exact NR N hg
end
end Go.Fw

namespace Go.Fw
variable [fO]
section
variable {o o':Nat->O}
theorem KW{k:WS}(h :∀g∈x.names,Agree o o' g):gK o k x=gK o' k x:=by
 cases k with
 |p a i=>simp only[gK];rw[FT h]
 |own g'=>cases x<;>rfl
 |box g' off=>
  cases off with
  |zero=>cases x<;>first|rfl|(rename_i off;cases off<;>rfl)
  |succ off=>cases x<;>rfl
 |dD=>cases x<;>rfl
 |fn f=>cases x<;>first|rfl|(rename_i b;cases b<;>rfl)
 |oI g=>cases x<;>rfl
 |no=>cases x<;>rfl
 |vw g=>cases x<;>rfl
 |ep g off=>cases x<;>rfl
theorem Ii:∀{b:List WS} {xs:List W},(∀x∈xs,∀g∈x.names,Agree o o' g)->kE o b xs=kE o' b xs
 | [],[],_=>rfl
 | [],_::_,_=>rfl
 |_::_,[],_=>rfl
 |k::b,x::xs,h=>by simp only[kE];rw[KW (h x (by simp)),Ii λy c=>h y (by simp[c])]
theorem XE{k:SS}{x:S}(h :∀g∈x.names,Agree o o' g):pJ o k x=pJ o' k x:=by
 cases k with
 |one k=>
  cases x with
  |v x=>cases x with
   |one x=>exact KW λg hg=>h g (by simpa[S.names,V.names]using hg)
   |agg xs=>rfl
  |jy=>rfl
  |no=>rfl
 |agg c=>
  cases x with
  |v x=>cases x with
   |one x=>rfl
   |agg xs=>exact Ii λx b g hg=>h g (by simp only[S.names,V.names,Z2];exact⟨x,b,hg⟩)
  |jy=>rfl
  |no=>rfl
theorem Zi{args:List S}{t:Nat}:args.getD t .no=.no\/args.getD t .no∈args:=by
 rw[Q1];cases h:args[t]? with
 |none=>exact .inl rfl
 |some x=>exact .inr (Z1 h)
theorem zk{args:List S}(h :∀x∈args,∀g∈x.names,Agree o o' g):∀{L:List (Nat×SS)},fQ o args L=fQ o' args L
 | []=>rfl
 |(t,k)::L=>by
  simp only[fQ];rw[XE (o:=o) (o':=o') (k:=k) (x:=args.getD t .no) (λg hg=>by
   rcases Zi (args:=args) (t:=t)with e|e
   .rw [e]at hg;simp[S.names]at hg
   .exact h _ e g hg),zk h]
theorem Eb{k:WS}{us:List P}{gs:List Nat}(h:gK o k x=zw (us,c,gs,r))(d :∀g∈x.names,Agree o o' g):∀g∈gs,Agree o o' g:=by
 cases k with
 |p a i=>
  simp only[gK]at h;split at h
  .rename_i j;simp only[Q0,QP]at h;obtain⟨_,_,rfl,_⟩:=h;exact Cb j d
  .cases h
 |own g'=>cases x<;>simp[gK]at h;obtain⟨_,_,rfl,_⟩:=h;simp
 |box g' off=>
  cases off with
  |succ off=>cases x<;>simp[gK]at h
  |zero=>
   cases x with
   |box g off=>cases off<;>simp[gK]at h;obtain⟨_,_,rfl,_⟩:=h;simp
   |_=>simp[gK]at h
 |dD=>simp[gK]at h
 |fn f m=>
  cases x with
  |clo q b=>
   simp only[gK]at h;split at h
   .split at h
    .simp only[Q0,QP]at h;obtain⟨_,_,rfl,_⟩:=h;simp
    .cases h
   .cases h
  |_=>simp[gK]at h
 |oI g=>simp[gK]at h
 |no=>simp[gK]at h
 |vw g=>simp[gK]at h
 |ep g off=>simp[gK]at h
theorem BA:∀{b:List WS} {xs:List W} {us:List P} {c:Bool×Bool} {gs:List Nat} {r:List (Nat×Nat)},kE o b xs=zw (us,c,gs,r)->(∀x∈xs,∀g∈x.names,Agree o o' g)->∀g∈gs,Agree o o' g
 | [],xs,us,c,gs,r,h,_=>by cases xs<;>simp[kE]at h;obtain⟨_,_,rfl,_⟩:=h;simp
 |k::b,xs,us,c,gs,r,h,d=>by
  cases xs with
  |nil=>simp[kE]at h
  |cons x xs=>
   simp only[kE]at h;split at h
   rotate_left
   cases h;rename_i j m;simp only[Q0,QP]at h;obtain⟨_,_,rfl,_⟩:=h;intro g hg;rcases Ys.1 hg with hg|hg
   .exact Eb j (d _ (by simp)) g hg
   .exact BA m (λy q=>d y (by simp[q])) g hg
theorem vM{args:List S}:∀{L:List (Nat×SS)} {us:List P} {c:Bool×Bool} {gs:List Nat} {r:List (Nat×Nat)},fQ o args L=zw (us,c,gs,r)->(∀x∈args,∀g∈x.names,Agree o o' g)->∀g∈gs,Agree o o' g
 | [],us,c,gs,r,h,_=>by simp[fQ]at h;obtain⟨_,_,rfl,_⟩:=h;simp
 |(t,k)::L,us,c,gs,r,h,j=>by
  simp only[fQ]at h;split at h
  rotate_left
  cases h;rename_i b m;simp only[Q0,QP]at h;obtain⟨_,_,rfl,_⟩:=h;intro g hg;rcases Ys.1 hg with hg|hg
  rotate_left
  exact vM m j g hg;have d :∀g∈(args.getD t .no).names,Agree o o' g:=by
   rcases Zi (args:=args) (t:=t)with e|e
   .rw [e];simp[S.names]
   .exact j _ e
  .generalize args.getD t S.no=z at b d;cases k with
   |one k=>
    cases z with
    |v z=>
     cases z with
     |one z=>exact Eb b (λg hg=>d g (by simpa[S.names,V.names]using hg)) g hg
     |agg z=>simp[pJ]at b
    |_=>simp[pJ]at b
   |agg q=>
    cases z with
    |v z=>
     cases z with
     |one z=>simp[pJ]at b
     |agg z=>exact BA b (λx j g hg=>d g (by simp only[S.names,V.names,Z2];exact⟨x,j,hg⟩)) g hg
    |_=>simp[pJ]at b
theorem pO:∀{L:List (Nat×OS)} {r d:List (Nat×Nat)} {u:List P} {c:Bool×Bool},j_ o r L=zw (u,c,d)->∀p∈r,p∈d
 | [],r,d,u,c,h=>by simp only[j_,Q0,QP]at h;obtain⟨_,_,rfl⟩:=h;exact λp g=>g
 |(g',k)::L,r,d,u,c,h=>by
  simp only[j_]at h;split at h
  rotate_left
  cases h;split at h
  .split at h
   .split at h
    .rename_i b;simp only[Q0,QP]at h;obtain⟨_,_,rfl⟩:=h;exact λp g=>pO b p (W6 _ g)
    .cases h
   .cases h
  .split at h
   .split at h
    .rename_i b;simp only[Q0,QP]at h;obtain⟨_,_,rfl⟩:=h;exact pO b
    .cases h
   .cases h
  .split at h
   .split at h
    .rename_i b;simp only[Q0,QP]at h;obtain⟨_,_,rfl⟩:=h;exact pO b
    .cases h
   .cases h
  .cases h
theorem qX:∀{L:List (Nat×OS)} {r j:List (Nat×Nat)} {u:List P} {c:Bool×Bool},j_ o r L=zw (u,c,j)->(∀p∈j,o p.2=o' p.2)->j_ o' r L=zw (u,c,j)
 | [],r,j,u,c,h,_=>h
 |(g',k)::L,r,j,u,c,h,y=>by
  simp only[j_]at h ⊢;split at h
  rotate_left
  cases h;rename_i g hg;have m:=ku hg;have key :∀z:List (Nat×Nat),(∀p∈r,p∈z)->(∀p∈z,p∈j)->o g=o' g:=λz B b=>y _ (b _ (B _ m));split at h
  .rename_i N U q;split at h
   rotate_left
   cases h;rename_i X B;split at h
   .rename_i b;cases h;have e:=key _ (λp w=>W6 _ w) (pO b);simp only[<-e,q,B,qX b y]
   .cases h
  .rename_i J K Y M a i H l q;split at h
   rotate_left
   cases h;rename_i d;split at h
   .rename_i b;cases h;have e:=key _ (λp w=>w) (pO b);simp only[<-e,q,qX b y,QQ d]
   .cases h
  .rename_i J K M Z a i H iZ l q;split at h
   rotate_left
   cases h;rename_i d;split at h
   .rename_i b;cases h;have e:=key _ (λp w=>w) (pO b);simp only[<-e,q,qX b y,QQ d]
   .cases h
  .cases h
theorem QV{s:Bv}{args:List S}{c:OT}(h:jo s o args=zw c)(b :∀x∈args,∀g∈x.names,Agree o o' g)(d :∀p∈c.ren,o p.2=o' p.2):jo s o' args=zw c:=by
 unfold jo at *;rw[<-zk b];split at h
 .rename_i q;split at h
  .rename_i j;cases h;simp only[qX j λp m=>d p (oz.2 m)]
  .cases h
 .cases h
theorem KY{s:Bv}{args:List S}{c:OT}(b:jo s o args=zw c)(h :∀x∈args,∀g∈x.names,Agree o o' g):∀g∈c.wP,Agree o o' g:=by
 unfold jo at b;split at b
 .rename_i d;split at b
  .cases b;exact vM d h
  .cases b
 .cases b
end
def UO(T:Tab)(st:St)(o:Oper):List Nat:=
 match o.op with
 |.call { callee:=.value f,args,.. }=>match st.dK f with
  |.v (.one (.clo fn b))=>match pick T fn (args.toList.map st.dK)with
   |some sp=>match jo sp.sig st.o ((args.toList.map st.dK)++b.map λx=>S.v (.one x))with
    |some c=>c.ren.map (·.2)
    |none=>[]
   |none=>[]
  |_=>[]
 |_=>[]
def looks:Op->Bool
 |.move _|.assign _|.pick _ _ _|.build _ _|.extract _ _|.field _ _ _|.makeFunc _ _ _=>zv
 |_=>zj
variable{o:Nat->O}
theorem QW{o':Nat->O}{tt:TT}{F':Operand->S}{op:Op}(c:looks op=zv)(ty :∀x∈op.operands.toList,F x=F' x):kernel tt g o F op e=kernel tt g o' F' op e:=by
 refine(D8 (o':=o) ty λ_ _ _ _=>⟨rfl,λ_ _=>rfl⟩).trans ?_;cases op<;>first
  |(cases c;done)
  |rfl
  |(rename_i fn first b;cases fn<;>rfl)
theorem Oj{tt:TT}{op:Op}(c:looks op=zv):dY tt r g o F op e=zz:=by
 cases op<;>first
  |(cases c;done)
  |rfl
def Ec(T:Tab)(st:St)(o:Oper):List Nat:=(bif looks o.op then(o.op.operands.toList.flatMap λx=>(st.dK x).names.flatMap λg=>g::(st.o g).hn)else[])++UO T st o
def uQ(T:Tab)(st:St)(o:Oper):List Nat:=Ec T (Fw.shuts (jJ st o) st) o++(uO st o).flatMap λg=>g::(st.o g).hn
section
variable {T:Tab} {tt:TT} {st st':St}
theorem QY{o:Oper}{K:Eff->Prop}(h:lq T tt g st o K)(z :∀x∈o.op.operands.toList,st.dK x=st'.dK x)(ho :∀d∈Ec T st o,st.o d=st'.o d):lq T tt g st' o K:=by
 have b:looks o.op=zj->∀x∈o.op.operands.toList,∀d∈(st.dK x).names,Agree st.o st'.o d:=λq x hm d hg=>by have key :∀g∈d::(st.o d).hn,st.o g=st'.o g:=λg hd=>ho g (W6 _ (by rw[q];exact Z2.2 ⟨x,hm,Z2.2 ⟨d,hg,hd⟩⟩));exact⟨key d (by simp),λg hd=>key g (by simp[hd])⟩
 have m :∀d∈UO T st o,st.o d=st'.o d:=λd hg=>ho d (UV _ hg);unfold lq at *;unfold UO at m;split at h
 .rename_i f args ts N;rw[N]at z b m;have b:=b rfl;simp only at m;have U:=z f (by simp[Op.operands,Call.operands]);have X :∀x∈args.toList,st.dK x=st'.dK x:=λx hm=>z x (by simp[Op.operands,Call.operands];exact .inr (by simpa using hm));have Y :∀x∈args.toList,∀d∈(st.dK x).names,Agree st.o st'.o d:=λx hm=>b x (by simp[Op.operands,Call.operands];exact .inr (by simpa using hm));have B:=b f (by simp[Op.operands,Call.operands]);rw[<-U];split at h
  rotate_left
  cases h;rename_i fn H hf;rw[hf]at B m;simp only at m;split at h
  rotate_left
  cases h;rename_i sp J;rw[J]at m;simp only at m;have L:args.toList.map st'.dK=args.toList.map st.dK:=W8 λx hm=>(X x hm).symm;rw[L];split at h
  rotate_left
  cases h;rename_i c w;rw[w]at m;have M :∀x∈(args.toList.map st.dK)++(H.map λx=>S.v (.one x)),∀d∈x.names,Agree st.o st'.o d:=by
   intro x hm d hg;rcases Ys.1 hm with hm|hm
   .obtain ⟨y,Z,rfl⟩:=XN.1 hm;exact Y y Z d hg
   .obtain ⟨y,Z,rfl⟩:=XN.1 hm;refine B d ?_;obtain⟨j,hj⟩:=UX.1 Z;simp only[S.names,V.names];exact Bd hj (by simpa[S.names,V.names]using hg)
  have auo:=QV w M λp hp=>m p.2 (XN.2 ⟨p,hp,rfl⟩);have amQ:c.wP.map (bC st.o)=c.wP.map (bC st'.o):=oP (KY w M);simp only[J,auo];obtain⟨q1,dR,same,q2,q4,q3⟩:=h;have:lJ sp.sig g st'.o c dR=lJ sp.sig g st.o c dR:=by simp only[lJ,amQ]
  refine⟨q1,dR,same,q2,?_,?_⟩
  .rw [this];intro d hg;obtain⟨a1,a2⟩:=q4 d hg;exact⟨a1,by rw[a2,m d a1]⟩
  .rw [this];exact q3
 .rcases h with⟨dc,r,h1,h2,h3⟩|h
  .refine .inl ⟨dc,r,?_,h2,h3⟩;cases q:looks o.op with
   |true=>rw[<-Oi z (b q)];exact h1
   |false=>rw[Oj q]at h1;cases h1
  .refine .inr ?_;cases q:looks o.op with
   |true=>rw[<-D8 z (b q)];exact h
   |false=>rw[<-QW q z];exact h
theorem zl{o o':Nat->O}:∀(n:Nat) {gs:List Nat},(∀g∈qF o n gs,o g=o' g)->qF o' n gs=qF o n gs
 |0,_,_=>rfl
 |n+1,gs,h=>by
  simp only[qF]at h ⊢;have e:(gs.flatMap λg=>yY (o' g))=gs.flatMap λg=>yY (o g):=by refine W2 List.flatten (W8 λg hg=>?_);rw[h g (W6 _ hg)]
  rw[e,zl n λg hg=>h g (UV _ hg)]
theorem UQ{o':Nat->O}(h:o g=o' g)(b :∀d∈(o g).hn,o d=o' d):Fw.lD o g=Fw.lD o' g:=by
 unfold Fw.lD;rw[<-h];split
 .rename_i a i m q l n c d j;rw[<-b d (by rw[j];simp[O.hn,dN])]
 .rfl
theorem Ij:∀(hs:List Nat) {st st':St},(∀g∈hs,st.o g=st'.o g/\∀d∈(st.o g).hn,st.o d=st'.o d)->∀x,st.o x=st'.o x->(Fw.shuts hs st).o x=(Fw.shuts hs st').o x
 | [],_,_,_,_,h=>h
 |g::gs,st,st',h,x,j=>by
  have hu:=UQ (h g (by simp)).1 (h g (by simp)).2;have step :∀y,st.o y=st'.o y->(st.aJ (Fw.lD st.o g) []).o y=(st'.aJ (Fw.lD st'.o g) []).o y:=λy m=>by simp only[St.aJ,hu,m]
  refine Ij gs (λg' b=>⟨step g' (h g' (by simp[b])).1,λd hd=>step d ?_⟩) x (step x j);cases c:(Fw.lD st.o g).lookup g' with
  |none=>simp only[St.aJ,c]at hd;exact(h g' (by simp[b])).2 d hd
  |some y=>simp only[St.aJ,c]at hd;rw[UL y c]at hd;cases hd
theorem UR{o:Oper}{K:Eff->Prop}(h:jK T tt g st o K)(y :∀x∈o.op.operands.toList,st.dK x=st'.dK x)(z :∀d∈uQ T st o,st.o d=st'.o d):jK T tt g st' o K:=by
 have w:argNames st' o=argNames st o:=by
  unfold argNames;split
  .rename_i f args ts j;refine W2 List.flatten (W8 λx B=>?_);rw[y x (by rw[j];simp[Op.operands,Call.operands];exact .inr (by simpa using B))]
  .rename_i t x lo X Y j;rw[y x (by rw[j];simp[Op.operands])]
  .rfl
 have b :∀d∈uO st o,st.o d=st'.o d/\∀g∈(st.o d).hn,st.o g=st'.o g:=λd hg=>⟨z d (UV _ (Z2.2 ⟨d,hg,by simp⟩)),λg hd=>z g (UV _ (Z2.2 ⟨d,hg,V1 _ hd⟩))⟩
 have H:uO st' o=uO st o:=by unfold uO at b ⊢;rw[w];exact zl 2 λd hg=>(b d hg).1
 have J:jJ st' o=jJ st o:=by unfold jJ;rw[H,w];refine List.filter_congr λd hg=>?_;rw[(b d hg).1]
 have c :∀d∈jJ st o,d∈uO st o:=λd hg=>(v8.1 hg).1;have m:=Ij (jJ st o) λd hg=>b d (c d hg);have M :∀e,D6 (jJ st o) st e=D6 (jJ st o) st' e:=λe=>by
  have L:Bz (jJ st o) st=Bz (jJ st o) st':=by unfold Bz;refine W2 List.flatten (W8 λd hg=>?_);have q:=b d (c d hg);rw[m d q.1,<-q.1];congr 1;refine W8 λg hd=>?_;rw[m g (q.2 g hd)]
  generalize jJ st o=N at L ⊢;cases N with
  |nil=>rfl
  |cons d gs=>simp only[D6,L]
 unfold jK at h ⊢;rw[J];refine QY (st:=Fw.shuts (jJ st o) st) (tV (λe U=>by rw[<-M e];exact U) h) (λx B=>?_) λd hg=>?_
 .have:=y x B;cases x with
  |tmp t=>show (Fw.shuts _ st).s t=(Fw.shuts _ st').s t;rw[Ju,Ju];exact this
  |_=>rfl
 .exact m d (z d (W6 _ hg))
theorem ab7{ops:Array Oper}{o:Oper}{e:Eff}(c:Can T tt g ops st o e)(hs :∀t∈o.looksAt ops,st.s t=st'.s t)(q :∀N∈uQ T st o,st.o N=st'.o N)(hu :∀N∈e.new,st.used N=st'.used N):Can T tt g ops st' o e:=by
 have w :∀x∈o.op.operands.toList,st.dK x=st'.dK x:=by
  intro x y;cases x with
  |tmp t=>exact hs t (W6 _ (qi.2 ⟨_,y,rfl⟩))
  |_=>rfl
 have eff:(jK T tt (o.dst.getD 0) st o λd=>d.new.all (λN=>!st.used N)=zj/\d=e)->(jK T tt (o.dst.getD 0) st' o λd=>d.new.all (λN=>!st'.used N)=zj/\d=e):=by intro h;refine pK (λd z=>?_) (UR h w q);obtain⟨m,rfl⟩:=z;refine⟨?_,rfl⟩;rw[Z3]at m ⊢;intro N hg;rw[<-hu N hg];exact m N hg
 unfold Can stepW at *;refine⟨c.1,?_⟩;have c:=c.2;cases hg:o.guard with
 |none=>rw[hg]at c;exact eff c
 |some p=>
  obtain⟨j,want⟩:=p;rw[hg]at c;simp only at c ⊢;have:guardOf ops st j want=guardOf ops st' j want:=by
   unfold guardOf;cases hd:(ops[j]?).bind (·.dst)with
   |none=>rfl
   |some t=>simp only;rw[hs t (UV _ (by simp[hg,hd]))]
  rw[<-this];split at c
  .rename_i b B;cases b with
   |true=>exact eff c
   |false=>exact c
  .cases c
end
def O4(o:Nat->O):S->Option (Bool->Prop)
 |.v (.one (.p _ _ (.sl _ l)))=>zw λb=>l≠[]->b=zv
 |.v (.one (.own g))=>match (o g).dim with
  |some (_,l)=>zw λb=>l≠0->b=zv
  |none=>zz
 |.v (.one .dD)=>zw λb=>b=zj
 |_=>zz
def Ik(o:Nat->O):S->Option (Bool->Prop)
 |.v (.one (.box g _))=>match o g with
  |.box _=>zw λb=>b=zv
  |_=>zz
 |.v (.one (.p _ _ (.opq (.pointer zz))))=>zw λb=>b=zj
 |_=>zz
def zn(o:Nat->O)(x:S)(k:TK)(c:Value):Option (Bool->Prop):=
 match k,c with
 |.slice _,.slice zz 0 0=>O4 o x
 |.ptr,.pointer zz=>Ik o x
 |_,_=>zz
def QZ(tt:TT)(st:St)(o:Oper):Option (Bool×(Bool->Prop)):=
 match o.guard with
 |some _=>zz
 |none=>match o.op with
  |.binOp op t x (.const c) _=>match tt t with
   |some i=>match op,zn st.o (st.dK x) i.k c with
    |.eql,zw p=>zw (zj,p)
    |.neq,zw p=>zw (zv,p)
    |_,_=>zz
   |none=>zz
  |_=>zz
def UU(s n:P):Bool:=decide (n.nat<s.bytes.size)
def aeC(s n:P):P:=.int .i32 (Utf8.decode s.bytes n.nat).1
def XF(s n:P):P:=lV (n.nat+(Utf8.decode s.bytes n.nat).2)
def Q5(st:St)(o:Oper):Option (Nat×P×P):=
 match o.guard with
 |some _=>zz
 |none=>match o.op with
  |.next x zj=>match st.dK x with
   |.v (.one (.oI g))=>match st.o g with
    |.it s n=>zw (g,s,n)
    |_=>zz
   |_=>zz
  |_=>zz
def KZ(g:Nat)(s n:P):Eff:={ x:=.jy [.one (.p zv zv (.bool zj)),.one (.p zv zv (lV n.nat)),.one (.p zv zv (aeC s n))],aJ:=[(g,.it s (XF s n))],new:=[] }
def O5:Eff:={ x:=.jy [.one (.p zv zv (.bool zv))],aJ:=[],new:=[] }
def Ed(T:Tab)(tt:TT)(N:Nat)(ops:Array Oper)(o:Oper)(st:St)(K:Eff->Prop):Prop:=
 match QZ tt st o with
 |some (pos,p)=>(match o.dst with
  |some d=>decide (d<N)
  |none=>zj)=zj/\∀b:Bool,p b->K { x:=scalar (.bool (bif pos then b else !b)),aJ:=[],new:=[] }
 |none=>match Q5 st o with
  |some (g,s,n)=>(match o.dst with
   |some d=>decide (d<N)
   |none=>zj)=zj/\(UU s n=zj->K (KZ g s n))/\(UU s n=zv->K O5)
  |none=>stepW T tt N ops o st K
def xG(T:Tab)(tt:TT)(N:Nat)(ops:Array Oper):List Nat->St->(St->Prop)->Prop
 | [],st,K=>K st
 |i::b,st,K=>match ops[i]? with
  |some o=>Ed T tt N ops o st λe=>xG T tt N ops b (st.eff o.dst e) K
  |none=>False
structure uS where
 rd:List Nat
 wr:List Nat
 new:List Nat
 ld:Option (Nat×Nat×Nat)
 kp:List (Nat×Nat)
 pk:Bool
 kd:List Nat
def aeD:W->W->Bool
 |.own g,.own g'=>Nat.beq g g'
 |.box g off,.box g' b=>Nat.beq g g'&&Nat.beq off b
 |_,_=>zv
def Ee(g:Nat):Nat->List W->List W->Option (List (Nat×Nat))
 |_,[],[]=>zw []
 |j,x::xs,y::b=>match Ee g (j+1) xs b with
  |some r=>zw (match aeD x y with
   |true=>(g,j)::r
   |false=>r)
  |none=>zz
 |_,_,_=>zz
def UW(g:Nat):O->Option O->List (Nat×Nat)
 |.box c,zw (.box b)=>match Ee g 0 c b with
  |some r=>r
  |none=>[]
 |_,_=>[]
def nY:Op->Bool
 |.nilCheck _=>zj
 |.fieldAddr _ _ _=>zj
 |_=>zv
def K_:Op->Bool
 |.load _ _=>zj
 |_=>zv
def O.core:O->Option (Bool×Bool×Nat×List (Nat×Nat)×List (List P))
 |.aO a i b c l _=>zw (a,i,b,c,l)
 |_=>Option.none
def keepR(g:Nat):O->Option O->List (Nat×Nat)
 |.aO _ _ _ _ _ b,zw (.aO _ _ _ _ _ _)=>match b with
  |none=>[(g,5000000)]
  |some _=>[]
 |_,_=>[]
def Q7(st:St)(o:Oper)(e:Eff):List (Nat×Nat):=(bif nY o.op then(o.op.operands.toList.flatMap λx=>(st.dK x).names).map λg=>(g,0)else[]) ++
 (e.aJ.map (·.1)).flatMap λg=>UW g (st.o g) (e.aJ.lookup g)++bif K_ o.op then keepR g (st.o g) (e.aJ.lookup g)else[]
def kindOf:O->Nat
 |.box _=>1
 |.arr _ _ _ _ _=>2
 |.aO _ _ _ _ _ _=>2
 |.it _ _=>3
 |.none=>0
def XG(st:St)(e:Eff):List Nat:=(e.aJ.map (·.1)).filterMap λg=>match e.aJ.lookup g with
 |some x=>bif Nat.beq (kindOf x) (kindOf (st.o g))then zw g else zz
 |none=>zz
def Ol(tt:TT)(st:St)(o:Oper):Option (Nat×Nat×Nat):=match o.op with
 |.load t x=>match tt t,st.dK x with
  |some i,.v (.one (.box g off))=>zw (g,off,i.size)
  |some i,.v (.one (.ep g _ off))=>match st.o g with
   |.aO _ _ _ b _ _=>bif(jH b off i.size).isEmpty then zw (g,5000000,1)else zz
   |_=>zz
  |_,_=>zz
 |_=>zz
def qo(T:Tab)(tt:TT)(N:Nat)(ops:Array Oper):List Nat->St->List uS->(St->List uS->Prop)->Prop
 | [],st,b,K=>K st b
 |i::c,st,b,K=>match ops[i]? with
  |some o=>stepW T tt N ops o st λe=>qo T tt N ops c (st.eff o.dst e) (b++[{ rd:=uQ T st o,wr:=e.aJ.map (·.1),new:=e.new,ld:=Ol tt st o,kp:=Q7 st o e,pk:=nY o.op,kd:=XG st e }]) K
  |none=>False
def mW(acc:List Nat)(o:Oper):Nat:=o.after.toList.foldl (λs e=>if Region.binds .any e=zj then s ||| (2 ^ e.on) ||| acc.getD e.on 0 else s) 0
def pR:List Oper->List Nat->List Nat
 | [],b=>b
 |o::os,b=>pR os (b++[mW b o])
def La(x:Option Tmp)(ts:List Tmp):Bool:=match x with
 |some t=>!ts.contains t
 |none=>zj
def Il(w r:uS):Bool:=match r.ld with
 |some (g,off,n)=>(List.range n).all λj=>w.kp.any λp=>Nat.beq p.1 g&&Nat.beq p.2 (off+j)
 |none=>r.pk&&r.kp.all λp=>!w.wr.contains p.1||w.kd.contains p.1
def aeE(ops:Array Oper)(x y:Oper)(fx fy:uS):Bool:=La x.dst (y.looksAt ops)&&La y.dst (x.looksAt ops)&&La x.dst y.dst.toList&&(QK fx.wr fy.rd||Il fx fy)&&(QK fy.wr fx.rd||Il fy fx)&&QK fx.wr fy.wr&&QK fx.new fy.new
def Zj(ops:Array Oper)(fs:List uS):Bool:=
 let as:=pR ops.toList []
 (List.range ops.size).all λj=>decide (as.getD j 0<2 ^ j)&&(List.range j).all λi=>(as.getD j 0).testBit i||match ops[i]?,ops[j]?,fs[i]?,fs[j]? with
  |some x,zw y,zw b,zw c=>aeE ops x y b c
  |_,_,_,_=>zv
def tX(T:Tab)(tt:TT)(N:Nat)(ops:Array Oper)(draw:Bool)(st:St)(K:St->Prop):Prop:=
 match draw with
 |false=>xG T tt N ops (List.range ops.size) st K
 |true=>qo T tt N ops (List.range ops.size) st [] λst' b=>Zj ops b=zj/\K st'
end Go.Fw

