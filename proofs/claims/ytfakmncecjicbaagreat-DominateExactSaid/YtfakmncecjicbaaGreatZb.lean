/-
  The framework (a machine on plain data that answers as the program does), part 2.
-/
import Derived.RangeFuncOwn
import Derived.Orders
import Derived.Test.YtfakmncecjicbaaGreatZa
set_option linter.unusedSimpArgs false
set_option linter.unusedVariables false
set_option linter.unusedSectionVars false
namespace Go.Fw
variable [dV]
def rO:List Nat->Bool
 | []=>true
 |x::xs=>!xs.contains x&&rO xs
def Dj(xs ys:List Nat):Bool:=xs.all λx=>!ys.contains x
def iL(ah:List (Nat×Nat))(off n:Nat):List (Nat×Nat):=ah.filter λc=>Nat.ble off c.1&&Nat.blt c.1 (off+n)
def iM(o:Nat->O)(g:Nat):Option (Bool×Bool×Nat×List (Nat×Nat)×List (List P)):=match o g with
 |.aF a i sz ah l hole=>match hole with
  |none=>some (a,i,sz,ah,l)
  |some (n,c,d)=>match o d with
   |.arr false a' i' sz' l'=>if ah.lookup c=some sz'/\c<sz then some (a||a',i||i',sz,ah,iR l n c (P.fG sz' l'))else none
   |_=>none
 |_=>none
def kills(gs:List Nat):List (Nat×O):=gs.map λg=>(g,.none)
def Pv(o:Nat->O)(col:Nat->Option Nat):Nat->List W->Option (List P×Bool×Bool×List Nat×List (Nat×Nat))
 |_,[]=>some ([],false,false,[],[])
 |j,x::xs=>match Pv o col (j+1) xs with
  |none=>none
  |some (ys,a',i',gs',es)=>match col j with
   |none=>match x.toP o with
    |some (y,a,i,gs)=>some (y::ys,a||a',i||i',gs++gs',es)
    |none=>none
   |some s=>match x with
    |.b_=>some (.sl 0 []::ys,a',i',gs',es)
    |.own e=>match o e with
     |.arr false a i s' l=>if s'=s then some (P.fG s l::ys,a||a',i||i',gs',(j,e)::es)else none
     |_=>none
    |_=>none
def baseD(o:Nat->O):W->Option (Prop×Bool×Bool×List (List P)×List Nat×Option (Nat×List (Nat×Nat)))
 |.b_=>some (True,false,false,[],[],none)
 |.own g=>match iM o g with
  |some (a,i,sz,ah,l)=>some (True,a,i,l,g::(o g).hn,some (sz,ah))
  |none=>none
 |.vw g lo hi=>match iM o g with
  |some (a,i,sz,ah,l)=>some (lo=kE 0,a,i,l.take hi.nat,g::(o g).hn,some (sz,ah))
  |none=>none
 |_=>none
def hdr(l:List (List P)):P:=.sl 0 (List.replicate l.length [])
def Qc:List (Nat×Nat)->Bool
 | [(0,0)]=>true
 |_=>false
def rP(tt:TT)(o:Nat->O)(f:Operand->S)(t:TypeId)(x:Operand):Option Et:=match tt t,f x with
 |some i,.v (.one (.ep g n off))=>match iM o g with
  |some (a,i',sz,ah,l)=>match ah.lookup off with
   |some _=>if off<sz/\i.size=1/\i.agg=false then some (.pure (.v (.one (.p false false (hdr ((l.getD n.nat []).getD off default).list)))))else none
   |none=>none
  |none=>none
 |_,_=>none
def dF(tt:TT)(dc:List (Nat×Nat))(d:Nat)(o:Nat->O)(f:Operand->S)(op:Op)(ty:TypeId):Option Et:=
 match op with
 |.load t x=>bif Qc dc then rP tt o f t x else match tt t,f x with
  |some i,.v (.one (.ep g n off))=>match o g with
   |.aF a0 i0 zI jV l0 hole=>if off+i.size<=zI/\0<i.size then match iL jV off i.size with
    | []=>some (.pure (V.fA i.agg ((List.range i.size).map λj=>.p a0 i0 ((l0.getD n.nat []).getD (off+j) (PI i.zero j)))))
    | [(c,s)]=>match iM o g with
     |some (a,i',sz,ah,l)=>some (.mk True (.sl sz l) (λy=>V.fA i.agg ((List.range i.size).map λj=>if Nat.beq (off+j) c=true then .own d else .p a i' ((y.list.getD n.nat []).getD (off+j) (PI i.zero j))))
       (λy=>(g,.aF a i' sz ah y.list (some (n.nat,c,d)))::(d,.arr false a i' s ((y.list.getD n.nat []).getD c default).list)::kills (o g).hn) [d])
     |none=>none
    |_=>none
    else none
   |_=>none
  |_,_=>none
 |.store t x y=>match tt t,f x,f y with
  |some i,.v (.one (.ep g n off)),.v y=>match o g with
   |.aF a0 i0 sz ah l0 hole=>match Pv o (λj=>ah.lookup j) off y.words with
    |some (ps,a',i',gs,es)=>if off+i.size<=sz/\y.words.length=i.size/\y.solid=true/\gs.contains g=false/\rO (es.map (·.2))=true/\Dj (es.map (·.2)) gs=true then
      let res (pre:Prop) (a i:Bool) (l:List (List P)) (fV:Option (Nat×Nat×Nat)) (ks:List Nat):Et:=
       .mk pre (.sl sz (l.set n.nat (aJ (l.getD n.nat []) off ps))) (λ_=>.no) (λz=>(g,.aF (a||a') (i||i') sz ah z.list fV)::kills (es.map (·.2))++kills ks++gs.map (aN o)) []
      match iL ah off i.size with
      | []=>some (res True a0 i0 l0 hole [])
      |_::_=>match hole with
       |none=>some (res True a0 i0 l0 none [])
       |some (n0,c0,d0)=>match iM o g with
        |some (a,i1,_,_,l)=>if(es.map (·.2)).contains d0=false/\gs.contains d0=false then some (res True a i1 l none [d0])
          else if off<=c0/\c0<off+i.size then some (res (n0=n.nat) a0 i0 l0 none [])else none
        |none=>if off<=c0/\c0<off+i.size then some (res (n0=n.nat) a0 i0 l0 none [])else none
      else none
    |none=>none
   |_=>none
  |_,_,_=>none
 |.buildSlice t n parts=>match tt t,dc with
  |some { k:=.slice e,.. },_::_=>match tt e with
   |some ie=>match lG (λm=>if m<n then some (m*ie.size,ie.size)else none) (fZ (ie.zero.map cv) n) (parts.toList.map λp=>(p.1,f p.2))with
    |some ws=>match Pv o (λj=>dc.lookup (j % ie.size)) 0 ws with
     |some (ps,a,i,gs,es)=>if n+n*ie.size<=16777216/\rO (es.map (·.2))=true/\Dj (es.map (·.2)) gs=true then
       some (.mk True (.sl ie.size (chunks ie.size n ps)) (λ_=>.v (.one (.own d)))
        (λy=>(d,.aF a i ie.size dc y.list none)::kills (es.map (·.2))++gs.map (aN o)) [d])else none
     |none=>none
    |none=>none
   |none=>none
  |_,_=>none
 |.makeSlice t n c=>match tt t,f n,f c,dc with
  |some { k:=.slice e,.. },.v (.one (.p _ _ n)),.v (.one (.p _ _ c)),_::_=>match tt e with
   |some ie=>match Pv o (λj=>dc.lookup j) 0 (ie.zero.map cv)with
    |some (ps,false,false,[],[])=>if 0<ie.size then
     some (.mk (∃m k:Nat,n=.int .i64 m/\c=.int .i64 k/\m<=k/\ie.bytes*k<=281474976710656/\k<=9223372036854775807) (.sl ie.size (List.replicate n.nat ps))
      (λ_=>.v (.one (.own d))) (λy=>[(d,.aF false false ie.size dc y.list none)]) [d])else none
    |_=>none
   |none=>none
  |_,_,_,_=>none
 |.call { callee:=.builtin .append,args,argTypes }=>match args.toList,argTypes.toList with
  | [s,x],sT::xT::_=>match tt sT,tt xT,f s,f x with
   |some { k:=.slice e,.. },some { k:=.slice _,.. },.v (.one s),.v (.one (.own g2))=>match tt e,baseD o s,iM o g2 with
    |some ie,some (ask,a,i,old,ks,src),some (a2,i2,sz,ah,new)=>
     if ie.bytes≠0/\sz=ie.size/\(src=none\/src=some (sz,ah))/\rO (ks++g2::(o g2).hn)=true then
      some (.mk (ask/\(old.length+new.length)*ie.bytes<=140737488355328) (.sl sz (old++new)) (λ_=>.v (.one (.own d)))
       (λy=>(d,.aF (a||a2) (i||i2) sz ah y.list none)::kills (ks++g2::(o g2).hn)) [d])else none
    |_,_,_=>none
   |_,_,_,_=>none
  |_,_=>none
 |.slice t x none hi none=>match tt t,f x with
  |some { k:=.slice e,.. },.v (.one (.own g))=>match tt e,o g with
   |some ie,.arr false a i sz l=>if sz=ie.size then match lH (kE l.length) (hi.map f)with
    |some hi=>some (.mk (∃k:Nat,hi=.int .i64 k/\k<=l.length) (.sl sz (l.take hi.nat)) (λ_=>.v (.one (.own d))) (λy=>[(d,.arr false a i sz y.list),(g,.none)]) [d])
    |none=>none
    else none
   |some ie,.aF a i sz ah l Option.none=>if sz=ie.size then match lH (kE l.length) (hi.map f)with
    |some hi=>some (.mk (∃k:Nat,hi=.int .i64 k/\k<=l.length) (.sl sz (l.take hi.nat)) (λ_=>.v (.one (.own d))) (λy=>[(d,.aF a i sz ah y.list Option.none),(g,.none)]) [d])
    |none=>none
    else none
   |_,_=>none
  |_,_=>none
 |_=>none
section
variable {E:Env} {st st':St} {gh bG:Nat->Gh} {w w':World} {val:Nat->Value} {Pg:Program} {tt:TT}
theorem qM:∀{l:List Nat},rO l=true->l.Nodup
 | [],_=>List.nodup_nil
 |x::l,h=>by simp only[rO,X1,WD,WP,decide_eq_false_iff_not]at h;exact UI.2 ⟨h.1,qM h.2⟩
theorem EG{xs ys:List Nat}(h:Dj xs ys=true):∀x∈xs,x∉ys:=by intro x hx;have:=(Z1.1 h) x hx;simpa using this
theorem gU{gs:List Nat}{g:Nat}:(kills gs).lookup g=if g∈gs then some O.none else none:=by
 induction gs with
 |nil=>rfl
 |cons x gs ih=>
  simp only[kills,X2,List.lookup,Xs];by_cases e:g=x
  .subst e;simp
  .have:(g==x)=false:=by simpa using e
   rw[this];simp only[e,false_or];exact ih
theorem uS{α:Type}{g:Nat}:∀{l r:List (Nat×α)},(l++r).lookup g=(l.lookup g).or (r.lookup g)
 | [],r=>by simp
 |(k,v)::l,r=>by
  simp only[Ke,List.lookup];split
  .rfl
  .exact uS
theorem lookup_cons{α:Type}{g k:Nat}{v:α}{r:List (Nat×α)}:((k,v)::r).lookup g=if g=k then some v else r.lookup g:=by
 simp only[List.lookup];by_cases e:g=k
 .subst e;simp
 .have:(g==k)=false:=by simpa using e
  rw[this,QR e]
theorem Ic{ah:List (Nat×Nat)}{off n j:Nat}(h:iL ah off n=[])(h1:off<=j)(h2:j<off+n):ah.lookup j=none:=by
 cases hl:ah.lookup j with
 |none=>rfl
 |some s=>
  have hm:(j,s)∈ah:=by
   clear h
   induction ah with
   |nil=>cases hl
   |cons p ah ih=>
    obtain⟨k,v⟩:=p;rw[lookup_cons]at hl;split at hl
    .rename_i e;cases hl;subst e;simp
    .exact WK _ (ih hl)
  have:(j,s)∈iL ah off n:=Jn.2 ⟨hm,by simp[h1,h2]⟩;rw[h]at this;cases this
theorem EH{α:Type}{g:Nat}{v:α}:∀{l:List (Nat×α)},l.lookup g=some v->(g,v)∈l
 | [],h=>by cases h
 |(k,x)::l,h=>by
  rw[lookup_cons]at h;split at h
  .rename_i e;cases h;subst e;simp
  .exact WK _ (EH h)
theorem Uk{ah:List (Nat×Nat)}{off n c s:Nat}(h:iL ah off n=[(c,s)]):ah.lookup c=some s/\off<=c/\c<off+n/\∀j,off<=j->j<off+n->j≠c->ah.lookup j=none:=by
 have hm:(c,s)∈iL ah off n:=by rw[h];simp
 obtain⟨m1,m2⟩:=Jn.1 hm;simp only[X1,Nat.ble_eq,Nat.blt_eq]at m2;have key :∀j s',ah.lookup j=some s'->off<=j->j<off+n->(j,s')=(c,s):=by intro j s' hl h1 h2;have:(j,s')∈iL ah off n:=Jn.2 ⟨EH hl,by simp[h1,h2]⟩;rw[h]at this;simpa using this
 refine⟨?_,m2.1,m2.2,λj h1 h2 hne=>?_⟩
 .cases hl:ah.lookup c with
  |none=>
   exfalso;clear h hm key
   induction ah with
   |nil=>cases m1
   |cons p ah ih=>
    obtain⟨k,v⟩:=p;rw[lookup_cons]at hl;split at hl
    .cases hl
    .rename_i e;rcases Xs.1 m1 with e1|e1
     .cases e1;exact e rfl
     .exact ih e1 hl
  |some s'=>have:=key c s' hl m2.1 m2.2;cases this;rfl
 .cases hl:ah.lookup j with
  |none=>rfl
  |some s'=>have:=key j s' hl h1 h2;cases this;exact absurd rfl hne
theorem Rel.home(h:Rel E st gh val w){g:Nat}{a i:Bool}{sz:Nat}{ah:List (Nat×Nat)}{l:List (List P)}(hh:iM st.o g=some (a,i,sz,ah,l)):
  ∃st1 lZ,Rel E st1 lZ val w/\Lets E st st1 gh lZ w w/\(∀x,(lZ x).ad=(gh x).ad/\(lZ x).cap=(gh x).cap)/\st1.s=st.s/\(∀x,st1.used x=st.used x)/\st1.o g=.aF a i sz ah l none/\
   (∀d∈(st.o g).hn,st1.o d=.none/\d≠g)/\∀g',g'≠g->g'∉(st.o g).hn->st1.o g'=st.o g':=by
 unfold iM at hh;cases ho:st.o g with
 |aF a0 i0 zI jV l0 hole=>
  rw[ho]at hh;simp only at hh;rcases hole with _|⟨n,c,d⟩
  .cases hh;exact⟨st,gh,h,⟨λa i b hb=>⟨hb,rfl⟩,λg _=>.inr ⟨⟨rfl,rfl⟩,O.eU _⟩⟩,λ_=>⟨rfl,rfl⟩,rfl,λ_=>rfl,ho,(λd hd=>by cases hd),λ_ _ _=>rfl⟩
  .simp only at hh;cases hd:st.o d with
   |arr fz a' i' sz' l'=>
    rw[hd]at hh;cases fz with
    |true=>cases hh
    |false=>
     simp only at hh;split at hh
     .rename_i hc;cases hh;obtain⟨lZ,h1,l1,e1⟩:=h.shut ho hd hc.1 hc.2;have hne:d≠g:=by intro e;subst e;rw[ho]at hd;cases hd
      refine⟨_,lZ,h1,l1,e1,rfl,λx=>by simp[St.aB],by simp[St.aB,List.lookup],λd' hd'=>?_,λg' h1 h2=>?_⟩
      .simp only[O.hn,bZ,Q6]at hd';subst hd';have e1:(d'==g)=false:=by simpa using hne
       exact⟨by simp[St.aB,List.lookup,e1],hne⟩
      .have e1:(g'==g)=false:=by simpa using h1
       have e2:(g'==d)=false:=by simp;intro e;exact h2 (by rw[e];simp[O.hn,bZ])
       simp[St.aB,List.lookup,e1,e2]
     .cases hh
   |_=>rw[hd]at hh;cases hh
 |_=>rw[ho]at hh;cases hh
theorem nK{o:Nat->O}{g:Nat}{a i:Bool}{sz:Nat}{ah:List (Nat×Nat)}{l:List (List P)}(hh:iM o g=some (a,i,sz,ah,l)):(o g).dim=some (sz,l.length):=by
 unfold iM at hh;cases ho:o g with
 |aF a0 i0 zI jV l0 hole=>
  rw[ho]at hh;simp only at hh;rcases hole with _|⟨n,c,d⟩
  .cases hh;rfl
  .simp only at hh;split at hh
   .split at hh
    .cases hh;simp[O.dim,iK]
    .cases hh
   .cases hh
 |_=>rw[ho]at hh;cases hh
theorem Ie{Q:Nat->Value->Prop}{b o n:Nat}(h :∀j,j<n->∃v,w.cell? ⟨b,o+j,none⟩=some v/\v.oneCell'=true/\Q j v):
  ∃cs:List Value,cs.length=n/\(∀(j:Nat) u,cs[j]?=some u->w.cell? ⟨b,o+j,none⟩=some u)/\(∀c∈cs,c.oneCell'=true)/\∀(j:Nat) u,cs[j]?=some u->Q j u:=by
 have key :∀j u,((List.range n).map λj=>(w.cell? ⟨b,o+j,none⟩).getD undef)[j]?=some u->j<n/\w.cell? ⟨b,o+j,none⟩=some u/\u.oneCell'=true/\Q j u:=by intro j u hu;simp only[Z3,W7]at hu;obtain⟨k,hk,rfl⟩:=hu;obtain⟨hlt,rfl⟩:=Q4.1 hk;simp at hlt ⊢;obtain⟨v,hv,h1,h2⟩:=h j hlt;rw[hv];exact⟨hlt,rfl,h1,h2⟩
 refine⟨(List.range n).map λj=>(w.cell? ⟨b,o+j,none⟩).getD undef,by simp,λj u hu=>(key j u hu).2.1,λc hc=>?_,λj u hu=>(key j u hu).2.2.2⟩;obtain⟨j,hj⟩:=VS.1 hc;exact(key j c hj).2.2.1
def qh(Pg:Program)(tt:TT)(dc:List (Nat×Nat))(op:Op):Prop:=
 ∀(E:Env) (st:St) (gh:Nat->Gh) (val:Nat->Value) (w:World) (ρ:Operand->Value) (F:Operand->S) (o:Oper) (d:Nat) (r:Et),o.op=op->Rel E st gh val w->
  (∀x,dn E st gh w (F x) (ρ x))->(∀x,∀g∈(F x).names,st.used g=true)->dF tt dc d st.o F op o.type=some r->r.pre->(∀g∈r.new,st.used g=false)->
  ∃v w' bG,Does Pg (execOp ρ o) w v w'/\Rel E (st.aB (r.aB r.val) r.new) bG val w'/\Lets E st (st.aB (r.aB r.val) r.new) gh bG w w'/\dn E (st.aB (r.aB r.val) r.new) bG w' (r.dst r.val) v/\
   ∀g∈(r.dst r.val).names,(st.aB (r.aB r.val) r.new).used g=true
theorem St.Dk{a b:St}(h1:a.s=b.s)(h2 :∀g,a.o g=b.o g)(h3 :∀g,a.used g=b.used g):a=b:=by obtain⟨s,o,u⟩:=a;obtain⟨s',o',u'⟩:=b;simp only at h1 h2 h3;rw[h1,funext h2,funext h3]
theorem Ky(htt:iC Pg tt)(t:TypeId)(x:Operand){E:Env}{st:St}{gh:Nat->Gh}{val:Nat->Value}{w:World}{ρ:Operand->Value}{F:Operand->S}{o:Oper}{r:Et}(ho:o.op=.load t x)(h:Rel E st gh val w)
  (hF :∀x,dn E st gh w (F x) (ρ x)) (hk:rP tt st.o F t x=some r) :
  ∃v w' bG,Does Pg (execOp ρ o) w v w'/\Rel E (st.aB (r.aB r.val) r.new) bG val w'/\Lets E st (st.aB (r.aB r.val) r.new) gh bG w w'/\dn E (st.aB (r.aB r.val) r.new) bG w' (r.dst r.val) v/\
   ∀g∈(r.dst r.val).names,(st.aB (r.aB r.val) r.new).used g=true:=by
 unfold rP at hk;split at hk
 .rename_i i g n off ht hx;have rx:=hF x;rw[hx]at rx;split at hk
  .rename_i a i' sz ah l hh;split at hk
   .rename_i s aem;split at hk
    .rename_i hlt;cases hk;obtain⟨st1,lZ,h1,l1,e1,es,eu,eo,ek,en1⟩:=h.home hh;have Kz:=nK hh;obtain⟨ad,k,had,rfl,hkl,hv⟩:=(by cases rx.dB with|ep _ _ _ _ _ hb=>exact hb _ _ Kz :∃(ad:Addr) (k:Nat),(gh g).ad=some ad/\n=.int .i64 k/\k<l.length/\ρ x=.pointer (some ⟨ad.block,ad.off+k*sz+off,none⟩));have en:(P.int .i64 (k:Int)).nat=k:=by simp[P.nat,P.num]
     have KA:(lZ g).ad=some ad:=by rw[(e1 g).1];exact had
     have hD:kC E st1 lZ w a i' sz ah l none (lZ g):=by have:=h1.aW g;rw[eo]at this;exact this
     rcases hD with⟨k1,_⟩|⟨ad0,cs0,ty,k1,k2,k3,k4,k5,k6,_,k8⟩
     .rw [KA]at k1;cases k1
     rw[KA]at k1;cases k1;have hrow:l[k]?=some l[k]:=Q3 hkl;have hrl:l[k].length=sz:=k6 _ (Z2 hkl);have hoff:off<l[k].length:=by omega
     obtain⟨v,hv0,hr⟩:=k8 k _ hrow off _ (Q3 hoff);unfold iy at hr;rw[aem]at hr;simp only[gB]at hr;obtain⟨l',ao,kk,hy,rfl,harr,_⟩:=hr;have hcell:w.cell? ⟨ad.block,ad.off+k*sz+off,none⟩=some (.slice ao l'.length kk):=by simp[World.cell?,k3,hv0]
     obtain⟨v,hrun,hval⟩:=jO (Pg:=Pg) (w:=w) (htt _ _ ht) ad.block (ad.off+k*sz+off) [.slice ao l'.length kk] (by simp[hlt.2.1]) (λj c hj=>by
      cases j with
      |zero=>simp at hj;subst hj;exact hcell
      |succ j=>simp at hj) (λ_=>by omega)
     have hvv:v=.slice ao l'.length kk:=by rw[hlt.2.2]at hval;exact hval _ rfl
     have hdr':hdr ((l.getD (P.int .i64 (k:Int)).nat []).getD off default).list=.sl 0 (List.replicate l'.length []):=by
      rw[en];have e2:(l.getD k []).getD off default=l[k][off]:=by rw[Q2,Q2,hrow];simp[Q3 hoff]
      rw[e2,hy,P.nI];rfl
     rw[hdr'];refine still h (v:=v) (by unfold execOp;rw[ho];exact fQ (by rw[hv];simpa[Instr.loadAt,Instr.sureAddr]using hrun)) (dn.ofP ?_) λg' hg'=>by simp[Et.pure,S.names,V.names,W.names]at hg'
     rw[hvv];rcases harr with⟨q1,q2,q3⟩|⟨AL,c2,e2,q1,q2,q3,q4,q5,_⟩
     .subst q3;exact .nil _ _ _
     .have q1:ao=some AL:=q1;have q5:l'.length<=kk/\kk<=9223372036854775807:=q5;rw[q1];have:=bU.sl (w:=w) (ok:=E.ok st gh w false false) 0 (List.replicate l'.length []) AL kk (λ_ _=>undef) q2 (λh0=>absurd h0 (KB 0)) (by simpa using q5.1) (λx hx=>by rw[vD hx];rfl)
       (λn x hx j y hy=>by rw[vD (Ys hx)]at hy;simp at hy) (λn x hx j y hy=>by rw[vD (Ys hx)]at hy;simp at hy)
      simpa using this
    .cases hk
   .cases hk
  .cases hk
 .cases hk
theorem Qd{dc:List (Nat×Nat)}(htt:iC Pg tt)(t:TypeId)(x:Operand):qh Pg tt dc (.load t x):=by
 intro E st gh val w ρ F o d r ho h hF hFn hk hp hd;simp only[dF]at hk;cases hhd:Qc dc with
 |true=>rw[hhd]at hk;exact Ky htt t x ho h hF hk
 |false=>
 rw[hhd]at hk;simp only[cond_false]at hk;split at hk
 .rename_i i g n off ht hx;have rx:=hF x;rw[hx]at rx;split at hk
  .rename_i a0 i0 zI jV l0 hole hog;split at hk
   .rename_i hlt;have Kz:(st.o g).dim=some (zI,l0.length):=by rw[hog];rfl
    obtain⟨ad,k,had,rfl,hkl,hv⟩:=(by cases rx.dB with|ep _ _ _ _ _ hb=>exact hb _ _ Kz :∃(ad:Addr) (k:Nat),(gh g).ad=some ad/\n=.int .i64 k/\k<l0.length/\ρ x=.pointer (some ⟨ad.block,ad.off+k*zI+off,none⟩));have en:(P.int .i64 (k:Int)).nat=k:=by simp[P.nat,P.num]
    split at hk
    .rename_i hci;cases hk;have hD:kC E st gh w a0 i0 zI jV l0 hole (gh g):=by have:=h.aW g;rw[hog]at this;exact this
     rcases hD with⟨k1,_⟩|⟨ad0,cs0,ty,k1,k2,k3,k4,k5,k6,_,k8⟩
     .rw [had]at k1;cases k1
     rw[had]at k1;cases k1;have hrow:l0[k]?=some l0[k]:=Q3 hkl;have hrl:l0[k].length=zI:=k6 _ (Z2 hkl);have hget:l0.getD (P.int .i64 (k:Int)).nat []=l0[k]:=by rw[en,Q2,hrow];rfl
     obtain⟨cs,hl,hcell,hone,hrep⟩:=Ie (w:=w) (b:=ad.block) (o:=ad.off+k*zI+off) (n:=i.size) (Q:=λj v=>bU w (E.ok st gh w a0 i0) (l0[k].getD (off+j) (PI i.zero j)) v) λj hj=>by
      have hlt':off+j<l0[k].length:=by omega
      obtain⟨v,hv,hr⟩:=k8 k _ hrow (off+j) _ (Q3 hlt');simp only[iy,Ic hci (show off<=off+j by omega) (show off+j<off+i.size by omega)]at hr;have e0:ad.off+k*zI+off+j=ad.off+k*zI+(off+j):=by omega
      refine⟨v,by rw[e0];simp[World.cell?,k3,hv],hr.oneCell,?_⟩;rw[Q2,Q3 hlt'];exact hr
     obtain⟨v,hrun,hval⟩:=jO (Pg:=Pg) (w:=w) (htt _ _ ht) ad.block (ad.off+k*zI+off) cs hl hcell (λ_=>hlt.2);rw[hget];exact still h (v:=v) (by unfold execOp;rw[ho];exact fQ (by rw[hv];simpa[Instr.loadAt,Instr.sureAddr]using hrun)) (kG (by simp[hl]) hone (λj y u hy hu=>by simp only[Z3,W7]at hy;obtain⟨q,hq,rfl⟩:=hy;obtain⟨hlt2,rfl⟩:=Q4.1 hq;simp at hlt2 ⊢;exact .p _ _ _ _ (hrep _ u hu)) v hval)
      λg' hg'=>by obtain⟨y,hy,hg'⟩:=jh hg';rw[rJ hy]at hg';cases hg'
    .rename_i c s hci;split at hk
     .rename_i a i' sz ah l hh;cases hk;obtain⟨st1,lZ,h1,l1,e1,es,eu,eo,ek,en1⟩:=h.home hh;have aau:=nK hh;rw[Kz]at aau;simp only[Q0,QP]at aau;obtain⟨rfl,hll⟩:=aau;have hcols:ah=jV:=by
       unfold iM at hh;rw[hog]at hh;simp only at hh;split at hh
       .cases hh;rfl
       .split at hh
        .split at hh
         .cases hh;rfl
         .cases hh
        .cases hh
      subst hcols;obtain⟨c1,c2,c3,c4⟩:=Uk hci;have Gw:st.used d=false:=hd d (by simp);have KA:(lZ g).ad=some ad:=by rw[(e1 g).1];exact had
      have hD:kC E st1 lZ w a i' zI ah l none (lZ g):=by have:=h1.aW g;rw[eo]at this;exact this
      rcases hD with⟨k1,_⟩|⟨ad0,cs0,ty,k1,k2,k3,k4,k5,k6,_,k8⟩
      .rw [KA]at k1;cases k1
      rw[KA]at k1;cases k1;have hkl':k<l.length:=by omega
      have hrow:l[k]?=some l[k]:=Q3 hkl';have hrl:l[k].length=zI:=k6 _ (Z2 hkl');have hget:l.getD (P.int .i64 (k:Int)).nat []=l[k]:=by rw[en,Q2,hrow];rfl
      have hyc:l[k][c]?=some l[k][c]:=Q3 (by omega);obtain⟨l',ao,kc,yY,hy,⟨AL,cs2,ty2,q1,q2,q3⟩,q4,q5,r1,r2⟩:=h1.split (d:=d) (by rw[eu];exact Gw) eo c1 hrow hyc;rw[KA]at q1;cases q1;rw[k3]at q2;cases q2;have hlist:((l.getD (P.int .i64 (k:Int)).nat []).getD c default).list=l':=by rw[hget,Q2,hyc];show (l[k][c]).list=l';rw[hy,P.nI]
      have hgd:g≠d:=λe=>by rw[<-e,h.ul g (by rw[hog];simp)]at Gw;cases Gw
      have hst:st1.aB [(g,.aF a i' zI ah l (some (k,c,d))),(d,.arr false a i' s l')] [d]=st.aB ((g,.aF a i' zI ah l (some ((P.int .i64 (k:Int)).nat,c,d)))::(d,.arr false a i' s ((l.getD (P.int .i64 (k:Int)).nat []).getD c default).list)::kills (st.o g).hn) [d]:=by
       rw[hlist,en];refine St.Dk es (λx=>?_) (λx=>by simp[St.aB,eu]);simp only[St.aB,lookup_cons,gU];by_cases x1:x=g
       .simp only[Qt x1]
       .by_cases x2:x=d
        .simp only[QR x1,Qt x2]
        .simp only[QR x1,QR x2];by_cases x3:x∈(st.o g).hn
         .simp only[Qt x3];exact(ek x x3).1
         .simp only[QR x3];exact en1 x x1 x3
      obtain⟨cs,hl,hcell,hone,hrep⟩:=Ie (w:=w) (b:=ad.block) (o:=ad.off+k*zI+off) (n:=i.size) (Q:=λj v=>if Nat.beq (off+j) c=true then v=.slice ao l'.length kc else bU w (E.ok st1 lZ w a i') (l[k].getD (off+j) (PI i.zero j)) v) λj hj=>by
       have hlt':off+j<l[k].length:=by omega
       obtain⟨v,hv,hr⟩:=k8 k _ hrow (off+j) _ (Q3 hlt');have e0:ad.off+k*zI+off+j=ad.off+k*zI+(off+j):=by omega
       refine⟨v,by rw[e0];simp[World.cell?,k3,hv],hr.oneCell,?_⟩;by_cases hjc:off+j=c
       .rw [Qt (by simpa using hjc)];rw[hjc]at hv;rw[hv]at q3;exact WN q3
       .rw [QR (by simpa using hjc)];simp only[iy,c4 (off+j) (by omega) (by omega) hjc]at hr;rw[Q2,Q3 hlt'];exact hr
      obtain⟨v,hrun,hval⟩:=jO (Pg:=Pg) (w:=w) (htt _ _ ht) ad.block (ad.off+k*zI+off) cs hl hcell (λ_=>hlt.2);have hod:(st1.aB [(g,.aF a i' zI ah l (some (k,c,d))),(d,.arr false a i' s l')] [d]).o d=.arr false a i' s l':=by
       have:(d==g)=false:=by simpa using hgd.symm
       simp[St.aB,List.lookup,this]
      refine⟨v,w,yY,.inl (by unfold execOp;rw[ho];exact fQ (by rw[hv];simpa[Instr.loadAt,Instr.sureAddr]using hrun)),?_,?_,?_,λg' hg'=>?_⟩
      .rw [hst]at r1;exact r1
      .have:=Lets.trans l1 r2 λg hg=>by rw[eu];exact hg
       rw[hst]at this;exact this
      .have hS:dn E (st1.aB [(g,.aF a i' zI ah l (some (k,c,d))),(d,.arr false a i' s l')] [d]) yY w (V.fA i.agg ((List.range i.size).map λj=>if Nat.beq (off+j) c=true then W.own d else W.p a i' ((l.getD (P.int .i64 (k:Int)).nat []).getD (off+j) (PI i.zero j)))) v:=by
        rw[hget];refine kG (by simp[hl]) hone (λj y u hy hu=>?_) v hval;simp only[Z3,W7]at hy;obtain⟨q,hq,rfl⟩:=hy;obtain⟨hlt2,rfl⟩:=Q4.1 hq;simp at hlt2 ⊢;have hr:=hrep _ u hu;by_cases hjc:off+j=c
        .rw [Qt hjc];rw[Qt (by simpa using hjc)]at hr;subst hr;exact .own d _ rfl λsz3 aoc hd3=>by rw[hod]at hd3;obtain⟨_,e2⟩:=O.jJ hd3;rw[q4,q5,e2]
        .rw [QR hjc];rw[QR (by simpa using hjc)]at hr;exact .p _ _ _ _ (r2.kD (by simpa using hr))
       rw[hst]at hS;exact hS
      .have hg':g'∈(V.fA i.agg ((List.range i.size).map λj=>if Nat.beq (off+j) c=true then W.own d else W.p a i' ((l.getD (P.int .i64 (k:Int)).nat []).getD (off+j) (PI i.zero j)))).names:=hg';obtain⟨y,hy,hg'⟩:=jh hg';obtain⟨j,_,rfl⟩:=XN.1 hy;split at hg'
       .simp only[W.names,Q6]at hg';subst hg';simp[St.aB]
       .simp [W.names]at hg'
     .cases hk
    .cases hk
   .cases hk
  .cases hk
 .cases hk
theorem PartOf.mono{a i a' i':Bool}{es es':List (Nat×Nat)}{s j:Nat}{y:P}{u:Value}(h:PartOf st gh a i es s j y u)(ha:a=true->a'=true)(hi:i=true->i'=true)(he :∀p∈es,p∈es'):PartOf st gh a' i' es' s j y u:=by obtain⟨l',h1,h2⟩:=h;refine⟨l',h1,h2.imp id ?_⟩;rintro ⟨e,a1,i1,q1,q2,q3,q4,q5⟩;exact⟨e,a1,i1,he _ q1,q2,λh=>ha (q3 h),λh=>hi (q4 h),q5⟩
theorem A_(h:Rel E st gh val w){col:Nat->Option Nat}:∀{ws:List W} {cs:List Value} {ps:List P} {a i:Bool} {gs:List Nat} {es:List (Nat×Nat)} {j0:Nat},ws.length=cs.length->(∀(j:Nat) x u,ws[j]?=some x->cs[j]?=some u->eH E st gh w x u)->
  Pv st.o col j0 ws=some (ps,a,i,gs,es)->ps.length=ws.length/\wU st.o gs/\(∀p∈es,∃a1 i1 s l',st.o p.2=.arr false a1 i1 s l'/\(i1=true->i=true))/\
   ∀(j:Nat) y u,ps[j]?=some y->cs[j]?=some u->match col (j0+j)with
    |none=>∀st',(∀g∈gs,st'.o g=(Fw.aN st.o g).2)->Rel E st' gh val w->Lets E st st' gh gh w w->bU w (E.ok st' gh w a i) y u
    |some s=>PartOf st gh a i es s (j0+j) y u
 | [],cs,ps,a,i,gs,es,j0,hl,hr,ht=>by simp only[Pv,Q0,QP]at ht;obtain⟨rfl,rfl,rfl,rfl,rfl⟩:=ht;exact⟨rfl,wU.nil,(λp hp=>by cases hp),λj y u hy=>by simp at hy⟩
 |x::ws,cs,ps,a,i,gs,es,j0,hl,hr,ht=>by
  cases cs with
  |nil=>simp at hl
  |cons c cs=>
   simp only[Pv]at ht;split at ht
   .cases ht
   .rename_i ys a' i' gs' es' h2;obtain⟨q0,q1,qe,q2⟩:=A_ h (j0:=j0+1) (by simpa using hl) (λj a b ha hb=>hr (j+1) a b (by simpa using ha) (by simpa using hb)) h2;have rest :∀(a i:Bool) (gs:List Nat) (es:List (Nat×Nat)),(a'=true->a=true)->(i'=true->i=true)->(∀g∈gs',g∈gs)->(∀p∈es',p∈es)->∀(j:Nat) y u,ys[j]?=some y->cs[j]?=some u->match col (j0+(j+1))with
      |none=>∀st',(∀g∈gs,st'.o g=(Fw.aN st.o g).2)->Rel E st' gh val w->Lets E st st' gh gh w w->bU w (E.ok st' gh w a i) y u
      |some s=>PartOf st gh a i es s (j0+(j+1)) y u:=by
     intro a i gs es ha hi hg he j y u hy hu;have:=q2 j y u hy hu;have e:j0+1+j=j0+(j+1):=by omega
     rw[e]at this;cases hc:col (j0+(j+1))with
     |none=>rw[hc]at this;exact λst' h1 h2 h3=>(this st' (λg hg'=>h1 g (hg g hg')) h2 h3).cls ha hi
     |some s=>rw[hc]at this;exact this.mono ha hi he
    cases hc0:col j0 with
    |none=>
     rw[hc0]at ht;simp only at ht;split at ht
     .rename_i y1 a1 i1 gs1 h1;cases ht;obtain⟨k1,k2⟩:=NG h (hr 0 x c rfl rfl) h1;refine⟨by simp[q0],k1.append q1,λp hp=>let ⟨a2,i2,s2,l2,z1,z2⟩:=qe p hp;⟨a2,i2,s2,l2,z1,λhh=>by simp[z2 hh]⟩,λj y u hy hu=>?_⟩;cases j with
      |zero=>simp at hy hu;subst hy hu;rw[Uq,hc0];exact λst' hst h' hlet=>(k2 st' (λg hg=>hst g (by simp[hg])) h' hlet).cls (by simp;exact λh=>.inl h) (by simp;exact λh=>.inl h)
      |succ j=>exact rest _ _ _ _ (by simp;exact λh=>.inr h) (by simp;exact λh=>.inr h) (λg hg=>by simp[hg]) (λp hp=>hp) j y u (by simpa using hy) (by simpa using hu)
     .cases ht
    |some s=>
     rw[hc0]at ht;simp only at ht;split at ht
     .cases ht;refine⟨by simp[q0],q1,qe,λj y u hy hu=>?_⟩;cases j with
      |zero=>simp at hy hu;subst hy hu;rw[Uq,hc0];have r0:=hr 0 _ _ rfl rfl;cases r0;exact⟨[],rfl,.inl ⟨rfl,rfl⟩⟩
      |succ j=>exact rest _ _ _ _ id id (λg hg=>hg) (λp hp=>hp) j y u (by simpa using hy) (by simpa using hu)
     .rename_i e;split at ht
      .rename_i a1 i1 s' l1 hoe;split at ht
       .rename_i hs;subst hs;cases ht;refine⟨by simp[q0],q1,λp hp=>?_,λj y u hy hu=>?_⟩
        .rcases Xs.1 hp with rfl|hp
         .exact ⟨a1,i1,s',l1,hoe,λhh=>by simp[hh]⟩
         .obtain ⟨a2,i2,s2,l2,z1,z2⟩:=qe p hp;exact⟨a2,i2,s2,l2,z1,λhh=>by simp[z2 hh]⟩
        cases j with
        |zero=>simp at hy hu;subst hy hu;rw[Uq,hc0];have r0:=hr 0 _ _ rfl rfl;refine⟨l1,rfl,.inr ⟨e,a1,i1,by simp,hoe,by simp;exact λh=>.inl h,by simp;exact λh=>.inl h,?_⟩⟩;cases r0 with|own _ _ _ hb=>exact hb _ _ (O.jM hoe)
        |succ j=>exact rest _ _ _ _ (by simp;exact λh=>.inr h) (by simp;exact λh=>.inr h) (λg hg=>hg) (λp hp=>by simp[hp]) j y u (by simpa using hy) (by simpa using hu)
       .cases ht
      .cases ht
     .cases ht
theorem Ig{o:Nat->O}{g:Nat}{a0 i0:Bool}{zI:Nat}{jV:List (Nat×Nat)}{l0:List (List P)}{hole:Option (Nat×Nat×Nat)}{a i:Bool}{sz:Nat}{ah:List (Nat×Nat)}{l:List (List P)}(hog:o g=.aF a0 i0 zI jV l0 hole)
  (hh:iM o g=some (a,i,sz,ah,l)):sz=zI/\ah=jV/\l.length=l0.length:=by
 have h1:=nK hh;rw[hog]at h1;simp only[O.dim,Q0,QP]at h1;refine⟨h1.1.symm,?_,h1.2.symm⟩;unfold iM at hh;rw[hog]at hh;simp only at hh;split at hh
 .cases hh;rfl
 .split at hh
  .split at hh
   .cases hh;rfl
   .cases hh
  .cases hh
theorem uT(htt:iC Pg tt)(h:Rel E st gh val w){o:Oper}{ρ:Operand->Value}{t:TypeId}{x y:Operand}(ho:o.op=.store t x y){i:TI}(ht:tt t=some i){y':V}(ry:qH E st gh w y' (ρ y))(hys:y'.solid=true)(hyl:y'.words.length=i.size)
  {g:Nat} {a1 i1:Bool} {sz:Nat} {ah:List (Nat×Nat)} {l:List (List P)} {hole fV:Option (Nat×Nat×Nat)} {ad:Addr} {k off:Nat} (hv:ρ x=.pointer (some ⟨ad.block,ad.off+k*sz+off,none⟩)) (hsz:off+i.size<=sz) (hk:k<l.length)
  {ps:List P} {a' i':Bool} {gs:List Nat} {es:List (Nat×Nat)} (hD:Pv st.o (λj=>ah.lookup j) off y'.words=some (ps,a',i',gs,es)) (hnd:(es.map (·.2)).Nodup) (hap :∀e∈es.map (·.2),e∉gs)
  {st1:St} {lZ:Nat->Gh} (ks:List Nat) (h1:Rel E st1 lZ val w) (l1:Lets E (st.aB (gs.map (Fw.aN st.o)) []) st1 gh lZ w w) (e1 :∀x,(lZ x).ad=(gh x).ad/\(lZ x).cap=(gh x).cap) (s1:st1.s=st.s) (u1 :∀x,st1.used x=st.used x)
  (o1:st1.o g=.aF a1 i1 sz ah l hole) (had:(gh g).ad=some ad) (ok1 :∀d∈ks,st1.o d=.none/\d≠g/\d∉es.map (·.2)) (oo1 :∀g',g'≠g->g'∉ks->st1.o g'=(st.aB (gs.map (Fw.aN st.o)) []).o g') (hgg:g∉gs)
  (hh1 :∀m j,¬ (m=k/\off<=j/\j<off+i.size)->∀s,ah.lookup j=some s->gB fV m j=gB hole m j) (hh2 :∀j s,off<=j->j<off+i.size->ah.lookup j=some s->gB fV k j=none) (hh3 :∀d∈bZ fV,d∈bZ hole) :
  ∃v w' bG,Does Pg (execOp ρ o) w v w'/\Rel E (st.aB ((g,.aF (a1||a') (i1||i') sz ah (l.set k (aJ (l.getD k []) off ps)) fV)::kills (es.map (·.2))++kills ks++gs.map (Fw.aN st.o)) []) bG val w'/\
   Lets E st (st.aB ((g,.aF (a1||a') (i1||i') sz ah (l.set k (aJ (l.getD k []) off ps)) fV)::kills (es.map (·.2))++kills ks++gs.map (Fw.aN st.o)) []) gh bG w w'/\
   dn E (st.aB ((g,.aF (a1||a') (i1||i') sz ah (l.set k (aJ (l.getD k []) off ps)) fV)::kills (es.map (·.2))++kills ks++gs.map (Fw.aN st.o)) []) bG w' .no v/\
   ∀g∈S.names .no,(st.aB ((g,.aF (a1||a') (i1||i') sz ah (l.set k (aJ (l.getD k []) off ps)) fV)::kills (es.map (·.2))++kills ks++gs.map (Fw.aN st.o)) []).used g=true:=by
 obtain⟨us,hus,Ue,huo,hur⟩:=ry.cells hys;have aap:us.length=i.size:=by rw[Ue,hyl]
 obtain⟨q0,q1,qe,q2⟩:=A_ h Ue.symm hur hD;have hpl:ps.length=i.size:=by rw[q0,hyl]
 obtain⟨f1,f2⟩:=Rel.freezes gs h q1;have KA:(lZ g).ad=some ad:=by rw[(e1 g).1];exact had
 have hDA:kC E st1 lZ w a1 i1 sz ah l hole (lZ g):=by have:=h1.aW g;rw[o1]at this;exact this
 rcases hDA with⟨k1,_⟩|⟨ad0,cs0,ty,k1,k2,k3,k4,k5,k6,_,k8⟩
 .rw [KA]at k1;cases k1
 rw[KA]at k1;cases k1;have hle:(k+1)*sz<=(lZ g).cap*sz:=Zs _ (by have:=k5.1;omega);rw[Wl,Kk]at hle;obtain⟨w',c',r1,r2,r3,r4,r5,r6,r7,r8⟩:=rM (Pg:=Pg) (htt _ _ ht) ad.block (ad.off+k*sz+off) hus aap huo k3 (by omega);have hes1 :∀p∈es,st1.o p.2=st.o p.2:=by
  intro p hp;have hpm:p.2∈es.map (·.2):=XN.2 ⟨p,hp,rfl⟩;obtain⟨a2,i2,s2,l2,z1,_⟩:=qe p hp;by_cases e:p.2=g
  .exfalso;have hog:(st.aB (gs.map (Fw.aN st.o)) []).o g=st.o g:=by rw[fJ,QR hgg]
   have hlk:=l1.names g (by simp only[St.aB,List.contains_nil,K2];exact h.ul g (by rw[<-e,z1];simp));rw[o1,hog,<-e,z1]at hlk;rcases hlk with hlk|⟨_,hlk⟩
   .cases hlk
   .exact hlk
  .rw [oo1 _ e λhk=>(ok1 _ hk).2.2 hpm,fJ,QR (hap _ hpm)]
 have hm:=h1.ahR o1 KA hk (off:=off) (ps:=ps) (us:=us) (by omega) (by omega) a' i' es fV hnd (λp hp=>by
   obtain⟨a2,i2,s2,l2,z1,z2⟩:=qe p hp;exact⟨a2,i2,s2,l2,by rw[hes1 p hp];exact z1,z2⟩) (λj y u hy hu=>by
   have:=q2 j y u hy hu;cases hc:ah.lookup (off+j)with
   |none=>rw[hc]at this;exact l1.kD (this _ (λg hg=>by rw[fJ,Qt hg]) f1 f2)
   |some s=>rw[hc]at this;obtain⟨l',z1,z2⟩:=this;refine⟨l',z1,z2.imp id ?_⟩;rintro ⟨e,a2,i2,y1,y2,y3,y4,y5⟩;exact⟨e,a2,i2,y1,by rw[hes1 _ y1];exact y2,y3,y4,by rw[(e1 e).1,(e1 e).2];exact y5⟩)
  (by rw[hpl];exact hh1) (by rw[hpl];exact hh2) hh3 w' r4 r5 r6 r7 r8 (λc e hce=>by rw[k3]at hce;cases hce;exact⟨c',r2,r3⟩)
 obtain⟨bG,m1,m2⟩:=hm;have hst:st1.aB ((g,.aF (a1||a') (i1||i') sz ah (l.set k (aJ (l.getD k []) off ps)) fV)::es.map λp=>(p.2,O.none)) [] =
   st.aB ((g,.aF (a1||a') (i1||i') sz ah (l.set k (aJ (l.getD k []) off ps)) fV)::kills (es.map (·.2))++kills ks++gs.map (Fw.aN st.o)) []:=by
  refine St.Dk s1 (λz=>?_) (λz=>by simp[St.aB,u1]);have ek:(es.map λp=>(p.2,O.none))=kills (es.map (·.2)):=by simp[kills]
  rw[ek];simp only[St.aB,Ke,lookup_cons,uS,gU];by_cases z1:z=g
  .simp only[Qt z1]
  .simp only[QR z1];by_cases z2:z∈es.map (·.2)
   .simp only[Qt z2,Option.some_or]
   .simp only[QR z2,Option.none_or];by_cases z3:z∈ks
    .simp only[Qt z3,Option.some_or];exact(ok1 z z3).1
    .simp only[QR z3,Option.none_or];rw[oo1 z z1 z3];rfl
 rw[hst]at m1 m2;refine⟨undef,w',bG,.inr ⟨?_,rfl⟩,m1,?_,.no _,λg hg=>by simp[S.names]at hg⟩
 .unfold execOp;rw[ho];refine aal ?_;rw[hv];simpa[Instr.storeAt,Instr.sureAddr]using r1
 .exact Lets.trans (Lets.trans f2 l1 (λg hg=>by simpa[St.aB]using hg)) m2 (λg hg=>by rw[u1];exact hg)
theorem aku{o:Nat->O}{g:Nat}{a i:Bool}{sz:Nat}{ah:List (Nat×Nat)}{l:List (List P)}{hole:Option (Nat×Nat×Nat)}(h:o g=.aF a i sz ah l hole):(o g).hn=bZ hole:=by rw[h];rfl
theorem NM{g:Nat}{gs:List Nat}(hg:g∉gs)(hn :∀d∈(st.o g).hn,d∉gs):iM (st.aB (gs.map (Fw.aN st.o)) []).o g=iM st.o g:=by
 have e1:(st.aB (gs.map (Fw.aN st.o)) []).o g=st.o g:=by rw[fJ,QR hg]
 unfold iM;rw[e1];cases ho:st.o g with
 |aF a i sz ah l hole=>
  rcases hole with _|⟨n,c,d⟩
  .rfl
  .simp only;rw[fJ,QR (hn d (by rw[ho];simp[O.hn,bZ]))]
 |_=>rfl
theorem NP{dc:List (Nat×Nat)}(htt:iC Pg tt)(t:TypeId)(x y:Operand):qh Pg tt dc (.store t x y):=by
 intro E st gh val w ρ F o d r ho h hF hFn hk hp hd;simp only[dF]at hk;split at hk
 .rename_i i g n off y' ht hx hy;have rx:=hF x;rw[hx]at rx;have ry:=hF y;rw[hy]at ry;split at hk
  .rename_i a0 i0 sz ah l0 hole hog;split at hk
   .rename_i ps a' i' gs es hD;split at hk
    .rename_i hc;obtain⟨hc1,hc2,hc3,hc4,hc5,hc6⟩:=hc;have hgg:g∉gs:=λhm=>by simp[hm]at hc4
     have hnd:=qM hc5;have hap:=EG hc6;have Kz:(st.o g).dim=some (sz,l0.length):=by rw[hog];rfl
     obtain⟨ad,k,had,rfl,hkl,hv⟩:=(by cases rx.dB with|ep _ _ _ _ _ hb=>exact hb _ _ Kz :∃(ad:Addr) (k:Nat),(gh g).ad=some ad/\n=.int .i64 k/\k<l0.length/\ρ x=.pointer (some ⟨ad.block,ad.off+k*sz+off,none⟩));have en:(P.int .i64 (k:Int)).nat=k:=by simp[P.nat,P.num]
     have ogf:(st.aB (gs.map (Fw.aN st.o)) []).o g=.aF a0 i0 sz ah l0 hole:=by rw[fJ,QR hgg];exact hog
     obtain⟨us,hus,Ue,huo,hur⟩:=ry.NC.cells hc3;obtain⟨_,q1,_,_⟩:=A_ h Ue.symm hur hD;obtain⟨f1,f2⟩:=Rel.freezes gs h q1;have refl:Lets E (st.aB (gs.map (Fw.aN st.o)) []) (st.aB (gs.map (Fw.aN st.o)) []) gh gh w w:=⟨λa i b hb=>⟨hb,rfl⟩,λg _=>.inr ⟨⟨rfl,rfl⟩,O.eU _⟩⟩;have home :∀(a i1:Bool) (l:List (List P)),iM st.o g=some (a,i1,sz,ah,l)->(∀d∈(st.o g).hn,d∉es.map (·.2)/\d∉gs)->
       ∃v w' bG,Does Pg (execOp ρ o) w v w'/\Rel E (st.aB ((g,.aF (a||a') (i1||i') sz ah (l.set k (aJ (l.getD k []) off ps)) none)::kills (es.map (·.2))++kills (st.o g).hn++gs.map (Fw.aN st.o)) []) bG val w'/\Lets E st (st.aB ((g,.aF (a||a') (i1||i') sz ah (l.set k (aJ (l.getD k []) off ps)) none)::kills (es.map (·.2))++kills (st.o g).hn++gs.map (Fw.aN st.o)) []) gh bG w w'/\dn E (st.aB ((g,.aF (a||a') (i1||i') sz ah (l.set k (aJ (l.getD k []) off ps)) none)::kills (es.map (·.2))++kills (st.o g).hn++gs.map (Fw.aN st.o)) []) bG w' .no v/\∀g'∈S.names .no,(st.aB ((g,.aF (a||a') (i1||i') sz ah (l.set k (aJ (l.getD k []) off ps)) none)::kills (es.map (·.2))++kills (st.o g).hn++gs.map (Fw.aN st.o)) []).used g'=true:=λa i1 l hh hno=>by
      have hh':iM (st.aB (gs.map (Fw.aN st.o)) []).o g=some (a,i1,sz,ah,l):=by rw[NM hgg λd hd=>(hno d hd).2];exact hh
      have hhn:((st.aB (gs.map (Fw.aN st.o)) []).o g).hn=(st.o g).hn:=by rw[ogf,hog]
      obtain⟨st1,lZ,h1,l1,e1,es1,eu,eo,ek,en1⟩:=f1.home hh';rw[hhn]at ek en1;have hll:=(Ig hog hh).2.2;exact uT htt h ho ht ry.NC hc3 hc2 hv hc1 (by omega) hD hnd hap (st.o g).hn h1 l1 e1 (by rw[es1];rfl) (λz=>by rw[eu];simp[St.aB]) eo had
       (λd hd=>⟨(ek d hd).1,(ek d hd).2,(hno d hd).1⟩) en1 hgg (fV:=none) (λ_ _ _ _ _=>rfl) (λ_ _ _ _ _=>rfl) (λd hd=>by cases hd)
     have over :∀n0 c0 d0,hole=some (n0,c0,d0)->off<=c0/\c0<off+i.size->n0=k->_:=λn0 c0 d0 hho hcr hp=>
      uT htt h ho ht ry.NC hc3 hc2 hv hc1 hkl hD hnd hap [] f1 refl (λ_=>⟨rfl,rfl⟩) rfl (λz=>by simp[St.aB]) ogf had (λd hd=>by cases hd) (λ_ _ _=>rfl) hgg
       (fV:=none) (λm j hne s hs=>by subst hho hp;simp only[gB];rw[QR λe=>hne ⟨e.1.symm,by omega,by omega⟩]) (λ_ _ _ _ _=>rfl) (λd hd=>by cases hd)
     split at hk
     .rename_i hci;cases hk;have:=uT htt h ho ht ry.NC hc3 hc2 hv hc1 hkl hD hnd hap [] f1 refl (λ_=>⟨rfl,rfl⟩) rfl (λz=>by simp[St.aB]) ogf had (λd hd=>by cases hd) (λ_ _ _=>rfl) hgg
       (fV:=hole) (λ_ _ _ _ _=>rfl) (λj s h1 h2 h3=>by rw[Ic hci h1 h2]at h3;cases h3) (λd hd=>hd)
      rw[en];exact this
     .split at hk
      .cases hk;have:=uT htt h ho ht ry.NC hc3 hc2 hv hc1 hkl hD hnd hap [] f1 refl (λ_=>⟨rfl,rfl⟩) rfl (λz=>by simp[St.aB]) ogf had (λd hd=>by cases hd) (λ_ _ _=>rfl) hgg
        (fV:=none) (λ_ _ _ _ _=>rfl) (λ_ _ _ _ _=>rfl) (λd hd=>hd)
       rw[en];exact this
      .rename_i n0 c0 d0;split at hk
       .rename_i a i1 _ _ l hh;split at hk
        .rename_i hcc;cases hk;obtain⟨e1,e2,e3⟩:=Ig hog hh;subst e1 e2;have hhn:(st.o g).hn=[d0]:=by rw[aku hog];rfl
         have:=home a i1 l hh (λd hd=>by rw[hhn,Q6]at hd;subst hd;exact⟨λhm=>by have:=hcc.1;simp only[WP,decide_eq_false_iff_not]at this;exact this hm,λhm=>by have:=hcc.2;simp[hm]at this⟩)
         rw[hhn]at this;rw[en];exact this
        .split at hk
         .rename_i hcr;cases hk;have hp:n0=(P.int .i64 (k:Int)).nat:=hp;rw[en]at hp;rw[en];exact over n0 c0 d0 rfl hcr hp
         .cases hk
       .split at hk
        .rename_i hcr;cases hk;have hp:n0=(P.int .i64 (k:Int)).nat:=hp;rw[en]at hp;rw[en];exact over n0 c0 d0 rfl hcr hp
        .cases hk
    .cases hk
   .cases hk
  .cases hk
 .cases hk
theorem Rel.aav(h:Rel E st gh val w){d:Nat}(hd:st.used d=false)(a i:Bool)(sz:Nat)(ah:List (Nat×Nat))(l:List (List P))(c:Array Value)(t:TypeId)(cap:Nat)(hcap:l.length<=cap/\cap<=9223372036854775807)(hc:cap*sz<=c.size)(hrow :∀x∈l,x.length=sz)
  (es:List (Nat×Nat)) (hnd:(es.map (·.2)).Nodup) (hes :∀p∈es,∃a1 i1 s l',st.o p.2=.arr false a1 i1 s l'/\(i1=true->i=true))
  (hcell :∀(n:Nat) x,l[n]?=some x->∀(j:Nat) y,x[j]?=some y->∃v,c[n*sz+j]?=some v/\match ah.lookup j with
   |none=>bU w (E.ok st gh w a i) y v
   |some s=>PartOf st gh a i es s (n*sz+j) y v) :
  ∃bG,Rel E (st.aB ((d,.aF a i sz ah l none)::kills (es.map (·.2))) [d]) bG val { w with heap:=w.heap.push (.cells c t) }/\Lets E st (st.aB ((d,.aF a i sz ah l none)::kills (es.map (·.2))) [d]) gh bG w { w with heap:=w.heap.push (.cells c t) }/\
   (bG d).ad=some ⟨w.heap.size,0,none⟩ /\(bG d).cap=cap:=by
 have heo :∀p∈es,(st.o p.2).bJ=true:=λp hp=>by obtain⟨_,_,_,_,e,_⟩:=hes p hp;rw[e];rfl
 have hde:d∉es.map (·.2):=λhm=>by obtain⟨p,hp,e⟩:=XN.1 hm;have:=h.ul p.2 (O.oD (heo p hp));rw[e,hd]at this;cases this
 let G:Gh:=⟨some ⟨w.heap.size,0,none⟩,cap,λb=>(whose gh es b).map λp=>(p.1/sz,p.1 % sz)⟩
 have hwb :∀b,(G.sub b).isSome=true->∃p∈es,∃ad,(gh p.2).ad=some ad/\ad.block=b:=λb hb=>by
  cases hx:whose gh es b with
  |none=>simp[G,hx]at hb
  |some p=>exact⟨p,uQ hx⟩
 have hm:=h.gather (λg=>g∈es.map (·.2)) hd a i sz ah l G (st.aB ((d,.aF a i sz ah l none)::kills (es.map (·.2))) [d]) { w with heap:=w.heap.push (.cells c t) } rfl (by simp[St.aB,lookup_cons])
  (λg hg e=>by simp only[St.aB,lookup_cons,QR e,gU,Qt hg]) (λg hg e=>by simp only[St.aB,lookup_cons,QR e,gU,QR hg]) (λg hg=>by simp[St.aB,hg]) (by simp[St.aB])
  (ad:=⟨w.heap.size,0,none⟩) (c:=c) (ty:=t) rfl rfl (by simp) (by simpa[G]using hc) hcap hrow (by
   cases hx:G.sub w.heap.size with
   |none=>rfl
   |some p=>obtain⟨p,hp,ad,q1,q2⟩:=hwb w.heap.size (by rw[hx];rfl);have:=(h.wr p.2 w.heap.size (heo p hp) (.inl ⟨ad,q1,q2⟩)).2;omega) (λb hb=>by
   obtain⟨p,hp,ad,q1,q2⟩:=hwb b hb;refine⟨⟨p.2,XN.2 ⟨p,hp,rfl⟩,heo p hp,.inl ⟨ad,q1,q2⟩⟩,?_⟩;obtain⟨_,_,_,_,e,_⟩:=hes p hp;have hA:=h.aW p.2;rw[e]at hA;rcases hA with⟨q3,_⟩|⟨AL,c2,e2,q3,_,q4,_⟩
   .rw [q1]at q3;cases q3
   .rw [q1]at q3;cases q3;rw[<-q2];exact⟨_,_,_,q4⟩)
  (.inr ⟨ZD _,by simp⟩) (λb hb _=>uI w _ b hb) (by simp) rfl rfl rfl (λg i1 hg e1 hi=>by
   obtain⟨p,hp,rfl⟩:=XN.1 hg;obtain⟨_,i2,_,_,e,hi2⟩:=hes p hp;rw[e]at e1;cases e1;exact hi2 hi) (λg hg _=>by
   obtain⟨p,hp,rfl⟩:=XN.1 hg;obtain⟨_,i2,_,_,e,hi2⟩:=hes p hp;exact⟨i2,by rw[e];rfl⟩) (λn x hx j y hy=>by
   obtain⟨v,hv,hr⟩:=hcell n x hx j y hy;refine⟨v,by simpa using hv,?_⟩;cases hcj:ah.lookup j with
   |none=>rw[hcj]at hr;exact hr
   |some s=>
    rw[hcj]at hr;have hjs:j<sz:=by have:=(Q4.1 hy).1;have:=hrow x (Ys hx);omega
    refine PartOf.aks h hr λp hp e ad had=>?_;have:=K_ h hnd heo hp had;simp only[G,this,W2,e];have e1:(n*sz+j)/sz=n:=by rw[vd,Nat.mul_add_div (by omega),Nat.div_eq_of_lt hjs,Uq]
    have e2:(n*sz+j) % sz=j:=by rw[vd,zg,qv hjs]
    rw[e1,e2])
 exact⟨_,hm.1,hm.2,by simp[eG,G],by simp[eG,G]⟩
theorem Dl{dc:List (Nat×Nat)}(htt:iC Pg tt)(t:TypeId)(n c:Operand):qh Pg tt dc (.makeSlice t n c):=by
 intro E st gh val w ρ F o d r ho h hF hFn hk hp hd;simp only[dF]at hk;split at hk
 .rename_i e _ _ _ _ _ n' _ _ c' y7 Dn ht hn hc;split at hk
  .rename_i ie he;split at hk
   .rename_i ps hps;split at hk
    .rename_i hpos;cases hk;obtain⟨m,k,rfl,rfl,hmk,hby,hkm⟩:=hp;have hu:=(htt _ _ ht).kind;simp only[oG]at hu;have rn:=hF n;rw[hn]at rn;have rc:=hF c;rw[hc]at rc;obtain⟨x,z,g1,g2,g3,g4,g5,g6⟩:=(htt _ _ he).info;obtain⟨hone,hl,hr⟩:=sK (E:=E) (st:=st) (gh:=gh) (w:=w) (htt _ _ he);have hzl:=(htt _ _ he).len;obtain⟨q0,q1,_,q2⟩:=A_ h hl hr hps;have Gw:st.used d=false:=hd d (by simp);have hpl:ps.length=ie.size:=by rw[q0,hl,hzl]
     have e1:(P.int .i64 (m:Int)).nat=m:=by simp[P.nat,P.num]
     obtain⟨bG,m1,m2,m3,m4⟩:=h.aav Gw false false ie.size (y7::Dn) (List.replicate m ps) (fZ ie.zero k).toArray e k ⟨by simpa using hmk,by omega⟩ (by simp[dH,hzl]) (λx hx=>by
       rw[List.mem_replicate]at hx;rw[hx.2,hpl]) [] List.nodup_nil (λp hp=>by cases hp) (λq x hx j y hy=>by
       rw[KK]at hx;split at hx
       .rename_i hq;cases hx;have hj:j<ie.size:=by have:=(Q4.1 hy).1;omega
        have hlt:q*ie.size+j<k*ie.zero.length:=by rw[hzl];have:(q+1)*ie.size<=k*ie.size:=Zs _ (by omega);rw[Wl]at this;omega
        have hz':ie.zero[j]?=some ie.zero[j]:=Q3 (by omega);refine⟨ie.zero[j],?_,?_⟩
        .simp only[K4];have hmod:(q*ie.size+j) % ie.zero.length=j:=by rw[hzl,vd,zg,qv hj]
         rw[iH _ _ _ hlt,hmod];exact hz'
        .have:=q2 j y _ hy hz';rw[V1]at this;cases hcj:(y7::Dn).lookup j with
         |none=>rw[hcj]at this;exact this st (by simp) h ⟨λa i b hb=>⟨hb,rfl⟩,λg _=>.inr ⟨⟨rfl,rfl⟩,O.eU _⟩⟩
         |some s=>
          rw[hcj]at this;obtain⟨l',z1,z2⟩:=this;rcases z2 with z2|⟨_,_,_,z3,_⟩
          .exact ⟨l',z1,.inl z2⟩
          .cases z3
       .cases hx)
     refine⟨.slice (some ⟨w.heap.size,0,none⟩) m k,_,bG,.inl ?_,by simpa[e1,P.list,kills]using m1,by simpa[e1,P.list,kills]using m2,dn.Gu (.own d _ rfl λsz' len' ho'=>?_),λg hg=>?_⟩
     .unfold execOp;rw[ho];refine fQ ?_;have hrun:=run_make (P:=Pg) w t e x z hu g1 g4 .i64 .i64 (m:Int) (k:Int) (by omega) (by omega) (by rw[g3];omega) (by omega);rw[rn.eX.dR,rc.eX.dR,hrun];have:=mW g5 k (by rw[hzl];exact hpos);rw[hzl]at this;simp only[Q1,g2,madeCells,this]
     .rw [e1]at ho';have Uh:(some (ie.size,m):Option (Nat×Nat))=some (sz',len'):=by rw[<-ho'];simp[St.aB,List.lookup,O.dim,P.list]
      cases Uh;rw[m3,m4]
     .have hg:g∈(S.v (.one (.own d))).names:=hg;rw[dG]at hg;simp only[W.names,Q6]at hg;subst hg;simp[St.aB]
    .cases hk
   .cases hk
  .cases hk
 .cases hk
theorem Ba{dc:List (Nat×Nat)}(htt:iC Pg tt)(t:TypeId)(n:Nat)(parts:Array (Nat×Operand)):qh Pg tt dc (.buildSlice t n parts):=by
 intro E st gh val w ρ F o d r ho h hF hFn hk hp hd;simp only[dF]at hk;split at hk
 .rename_i e _ _ _ y7 Dn ht;split at hk
  .rename_i ie he;split at hk
   .rename_i ws EC;split at hk
    .rename_i ps a i gs es hps;split at hk
     .rename_i hcc;obtain⟨hcap0,hnd,hap⟩:=hcc;have hnd:=qM hnd;have hap:=EG hap;have hcap:n*ie.size<=16777216:=by omega
      cases hk;have hu:=(htt _ _ ht).kind;simp only[oG]at hu;obtain⟨z,hz,hzc,_⟩:=mQ (Pg:=Pg) (w:=w) (htt _ _ he);obtain⟨hone,hl,hr⟩:=sK (E:=E) (st:=st) (gh:=gh) (w:=w) (htt _ _ he);have hzl:=(htt _ _ he).len;have hparts:(parts.map λ(p:Nat×Operand)=>(p.1,ρ p.2)).toList=parts.toList.map λp=>(p.1,ρ p.2):=by simp
      obtain⟨cs',h1,h2,h3,h4,h5⟩:=AQ (E:=E) (st:=st) (gh:=gh) (w:=w) (place':=λi=>some (i*ie.size,ie.size)) (λm p hpm=>by split at hpm;exact hpm;cases hpm) _ (parts.toList.map λp=>(p.1,ρ p.2)) _ _
       (fZ ie.zero n) (by simp) (λj x v hx hv=>Df hF _ j x v hx hv) (by rw[dH,dH,hl]) (λc hc=>by
        obtain⟨j,hj⟩:=VS.1 hc;have hlt:j<n*ie.zero.length:=by have:=(Q4.1 hj).1;rwa [dH]at this
        rw[iH _ _ _ hlt]at hj;exact hone c (Ys hj)) (λj x u hx hu=>by
        have hlt:j<n*ie.zero.length:=by have:=(Q4.1 hu).1;rwa [dH]at this
        rw[iH _ _ _ hlt]at hu;rw[iH _ _ _ (by rw[hl];exact hlt),hl]at hx;exact hr _ _ _ hx hu) EC
      obtain⟨q0,q1,qe,q2⟩:=A_ h h2 h4 hps;obtain⟨f1,f2⟩:=Rel.freezes gs h q1;have Gw:st.used d=false:=hd d (by simp);have hws:ws.length=n*ie.size:=by rw[h5,dH,hl,hzl]
      have ahN:ps.length=n*ie.size:=by rw[q0,hws]
      have hfe :∀p∈es,(st.aB (gs.map (Fw.aN st.o)) []).o p.2=st.o p.2:=λp hp=>by rw[fJ,QR (hap _ (XN.2 ⟨p,hp,rfl⟩))]
      obtain⟨bG,m1,m2,m3,m4⟩:=f1.aav (d:=d) (by simpa[St.aB]using Gw) a i ie.size (y7::Dn) (chunks ie.size n ps) cs'.toArray e n ⟨by rw[gQ];exact ZD _,by omega⟩ (by simp;omega) (λx hx=>by
        obtain⟨m,hm⟩:=VS.1 hx;have hlt:m<n:=by have:=(Q4.1 hm).1;rwa [gQ]at this
        rw[pY _ _ _ _ hlt]at hm;cases hm;simp[ahN];have:(m+1)*ie.size<=n*ie.size:=Zs _ hlt;rw[Wl]at this;omega) es hnd (λp hp=>by
        obtain⟨a2,i2,s2,l2,z1,z2⟩:=qe p hp;exact⟨a2,i2,s2,l2,by rw[hfe p hp];exact z1,z2⟩) (λm x hx j y hy=>by
        have hlt:m<n:=by have:=(Q4.1 hx).1;rwa [gQ]at this
        rw[pY _ _ _ _ hlt]at hx;cases hx;rw[ZZ]at hy;split at hy
        .rename_i hj;rw[Wb]at hy;have hlt2:m*ie.size+j<cs'.length:=by have:=(Q4.1 hy).1;omega
         refine⟨cs'[m*ie.size+j],by simp,?_⟩;have:=q2 _ y _ hy (Q3 hlt2);have em:(0+(m*ie.size+j)) % ie.size=j:=by rw[V1,vd,zg,qv hj]
         rw[em,V1]at this;cases hcj:(y7::Dn).lookup j with
         |none=>rw[hcj]at this;exact this _ (λg hg=>by rw[fJ,Qt hg]) f1 f2
         |some s=>rw[hcj]at this;obtain⟨l',z1,z2⟩:=this;refine⟨l',z1,z2.imp id ?_⟩;rintro ⟨e,a2,i2,y1,y2,y3,y4,y5⟩;exact⟨e,a2,i2,y1,by rw[hfe _ y1];exact y2,y3,y4,y5⟩
        .cases hy)
      have hst:(st.aB (gs.map (Fw.aN st.o)) []).aB ((d,.aF a i ie.size (y7::Dn) (chunks ie.size n ps) none)::kills (es.map (·.2))) [d]=st.aB ((d,.aF a i ie.size (y7::Dn) (chunks ie.size n ps) none)::kills (es.map (·.2))++gs.map (Fw.aN st.o)) [d]:=by
       refine St.Dk rfl (λz=>?_) (λz=>by simp[St.aB]);simp only[St.aB,Ke,lookup_cons,uS,gU];by_cases z1:z=d
       .simp only[Qt z1]
       .simp only[QR z1];by_cases z2:z∈es.map (·.2)
        .simp only[Qt z2,Option.some_or]
        .simp only[QR z2,Option.none_or]
      rw[hst]at m1 m2;refine⟨.slice (some ⟨w.heap.size,0,none⟩) n n,_,bG,.inl ?_,m1,Lets.trans f2 m2 (λg hg=>by simpa[St.aB]using hg),dn.Gu (.own d _ rfl λsz' len' ho'=>?_),λg hg=>?_⟩
      .unfold execOp;rw[ho];refine fQ ?_;have hle:¬ n*ie.size>2 ^ 24:=by omega
       have fin :∀Z:Array Value,(Array.range (n*ie.size)).map (λi=>Z[i % Z.size]!)=(fZ ie.zero n).toArray->
         Instr.fill (λi=>some (i*ie.size,ie.size)) ((Array.range (n*ie.size)).map λi=>Z[i % Z.size]!) (parts.map λ(p:Nat×Operand)=>(p.1,ρ p.2)).toList=some cs'.toArray:=by
        intro Z hZ;rw[hZ,hparts,h1]
       by_cases h0:n*ie.size=0
       .have e0:fZ ie.zero n=[]:=Vv (by rw[dH,hzl,h0]);have e1:=fin #[] (by rw[h0,e0];simp);simp only[Instr.buildSlice,Sem.run_bind,dN hu,Result.andThen_ok,dL (htt _ _ he),QR hle,Qt h0,Sem.run_pure];simp only[e1];simp[newRow]
       .have hpos:0<ie.zero.length:=by rw[hzl];rcases vB ie.size with h|h;(rw[h]at h0;simp at h0);exact h
        have e1:=fin z.cells (by have:=mW hzc n hpos;rw[hzl]at this;exact this);simp only[Instr.buildSlice,Sem.run_bind,dN hu,Result.andThen_ok,dL (htt _ _ he),QR hle,QR h0,hz,Sem.run_pure];simp only[e1];simp[newRow]
      .have Uh:(some (ie.size,n):Option (Nat×Nat))=some (sz',len'):=by rw[<-ho'];simp[St.aB,List.lookup,O.dim,P.list,gQ]
       cases Uh;rw[m3,m4]
      .have hg:g∈(S.v (.one (.own d))).names:=hg;rw[dG]at hg;simp only[W.names,Q6]at hg;subst hg;simp[St.aB]
     .cases hk
    .cases hk
   .cases hk
  .cases hk
 .cases hk
def yD(gh:Nat->Gh):Option Nat->Nat->Option (Nat×Nat)
 |some g,b=>(gh g).sub b
 |none,_=>none
theorem Qe(h:Rel E st gh val w){d g2:Nat}(hd:st.used d=false){a i a2 i2:Bool}{sz:Nat}{ah:List (Nat×Nat)}{old new:List (List P)}{base:Option Nat}{bad:Option Addr}{uU m:Nat}
  (hb:(base=none/\bad=none/\uU=0/\m=0/\old=[])\/∃g l,base=some g/\st.o g=.aF a i sz ah l none/\bad=(gh g).ad/\(m<=uU/\uU<=(gh g).cap)/\m<=l.length/\old=l.take m/\g≠g2)
  (ho2:st.o g2=.aF a2 i2 sz ah new none)
  {ts:Array TypeId} {ty sT xT e e':TypeId} {ie:TI} (h0:ts[0]?=some sT) (h1:ts[1]?=some xT) (hs:Pg.underlying sT=some (.slice e)) (hxt:Pg.underlying xT=some (.slice e')) (he:oW Pg e ie) (hsz:sz=ie.size)
  (hbb:(m+new.length)*ie.bytes<=140737488355328) (hb0:ie.bytes≠0) :
  ∃v w' bG,(Builtin.append_ ts ty #[.slice bad m uU,.slice (gh g2).ad new.length (gh g2).cap]).run Pg w=.ok v w'/\Rel E (st.aB ((d,.aF (a||a2) (i||i2) sz ah (old++new) none)::kills (base.toList++[g2])) [d]) bG val w'/\
   Lets E st (st.aB ((d,.aF (a||a2) (i||i2) sz ah (old++new) none)::kills (base.toList++[g2])) [d]) gh bG w w'/\v=.slice (bG d).ad (old++new).length (bG d).cap:=by
 subst hsz;have ca:a=true->(a||a2)=true:=by simp;exact λh=>.inl h
 have ci:i=true->(i||i2)=true:=by simp;exact λh=>.inl h
 have ca2:a2=true->(a||a2)=true:=by simp;exact λh=>.inr h
 have ci2:i2=true->(i||i2)=true:=by simp;exact λh=>.inr h
 have hnd :∀g,st.o g≠.none->g≠d:=λg hg e=>by rw[<-e,h.ul g hg]at hd;cases hd
 have aom:g2≠d:=hnd g2 (by rw[ho2];simp);have aen:(st.o g2).bJ=true:=by rw[ho2];rfl
 have hol:old.length=m:=by
  rcases hb with⟨_,_,_,rfl,rfl⟩|⟨g,l,_,_,_,_,hm,rfl,_⟩
  .rfl
  .simp;omega
 have hlen:(old++new).length=m+new.length:=by rw[Z0,hol]
 have hbS :∀g,g∈base.toList++[g2]->g≠d/\(st.o g).bJ=true/\∃a0 i0 l0,st.o g=.aF a0 i0 ie.size ah l0 none/\(i0=true->(i||i2)=true):=by
  intro g hg;rcases QQ.1 hg with hg|hg
  .rcases hb with⟨rfl,_⟩|⟨g',l,rfl,hog,_⟩
   .simp at hg
   .simp at hg;subst hg;exact⟨hnd g (by rw[hog];simp),by rw[hog];rfl,a,i,l,hog,ci⟩
  .rw [Q6]at hg;subst hg;exact⟨aom,aen,a2,i2,new,ho2,ci2⟩
 let sub:Nat->Option (Nat×Nat):=λb=>match (gh g2).sub b with
  |some (n,j)=>some (n+m,j)
  |none=>yD gh base b
 have akv :∀b,(yD gh base b).isSome=true->(gh g2).has b->False:=λb h1 h2=>by
  rcases hb with⟨rfl,_⟩|⟨g,l,rfl,hog,_,_,_,_,hne⟩
  .cases h1
  .exact hne (h.inj g g2 b (by rw[hog];rfl) aen (.inr h1) h2)
 have hsub :∀b,(sub b).isSome=true->(∃g,g∈base.toList++[g2]/\(st.o g).bJ=true/\((gh g).sub b).isSome=true):=λb hbs=>by
  cases hx:(gh g2).sub b with
  |some p=>exact⟨g2,by simp,aen,by rw[hx];rfl⟩
  |none=>
   simp only[sub,hx]at hbs;rcases hb with⟨rfl,_⟩|⟨g,l,rfl,hog,_⟩
   .cases hbs
   .exact ⟨g,by simp,by rw[hog];rfl,hbs⟩
 have aaw :∀g,g∈base.toList++[g2]->∀b,((gh g).sub b).isSome=true->∃c e f,w.heap[b]?=some (.cells c e f):=λg hg b hbs=>by
  obtain⟨_,_,a0,i0,l0,hog,_⟩:=hbS g hg;have hD:=h.aW g;rw[hog]at hD;rcases hD with⟨_,_,_,q⟩|⟨_,_,_,_,_,_,_,_,_,⟨_,q⟩,_⟩
  .rw [q b]at hbs;cases hbs
  .exact q b hbs
 have akw :∀(G:Gh),G.sub=sub->∀n j y u,iy E st gh w a2 i2 (gh g2) ah none n j y u->match ah.lookup j with
   |none=>bU w (E.ok st gh w (a||a2) (i||i2)) y u
   |some s=>yT E st gh w (a||a2) (i||i2) G s (n+m) j y u:=by
  intro G hG n j y u hr;unfold iy at hr;cases hc:ah.lookup j with
  |none=>rw[hc]at hr;exact hr.cls ca2 ci2
  |some s=>rw[hc]at hr;simp only[gB]at hr;obtain⟨l',ao,k,q1,q2,q3,q4⟩:=hr.cls ca2 ci2;exact⟨l',ao,k,q1,q2,q3,λad had=>by rw[hG];simp only[sub,q4 ad had]⟩
 have akx :∀(G:Gh),G.sub=sub->∀g,base=some g->∀n j y u,iy E st gh w a i (gh g) ah none n j y u->match ah.lookup j with
   |none=>bU w (E.ok st gh w (a||a2) (i||i2)) y u
   |some s=>yT E st gh w (a||a2) (i||i2) G s n j y u:=by
  intro G hG g hgb n j y u hr;unfold iy at hr;cases hc:ah.lookup j with
  |none=>rw[hc]at hr;exact hr.cls ca ci
  |some s=>
   rw[hc]at hr;simp only[gB]at hr;obtain⟨l',ao,k,q1,q2,q3,q4⟩:=hr.cls ca ci;refine⟨l',ao,k,q1,q2,q3,λad had=>?_⟩;have hq:=q4 ad had;have hb1:(yD gh base ad.block).isSome=true:=by rw[hgb];simp only[yD,hq];rfl
   rw[hG];cases hx:(gh g2).sub ad.block with
   |some p=>exact(akv ad.block hb1 (.inr (by rw[hx];rfl))).elim
   |none=>simp only[sub,hx,hgb,yD];exact hq
 have hD2:kC E st gh w a2 i2 ie.size ah new none (gh g2):=by have:=h.aW g2;rw[ho2]at this;exact this
 have aky :∀X:O,∀g,g∈base.toList++[g2]->g≠d->(st.aB ((d,X)::kills (base.toList++[g2])) [d]).o g=.none:=λX g hg e=>by simp only[St.aB,lookup_cons,QR e,gU,Qt hg]
 have akz :∀X:O,∀g,¬ g∈base.toList++[g2]->g≠d->(st.aB ((d,X)::kills (base.toList++[g2])) [d]).o g=st.o g:=λX g hg e=>by simp only[St.aB,lookup_cons,QR e,gU,QR hg]
 by_cases qL:m+new.length<=uU
 .obtain ⟨c2,hc2,hl2,akA,hr2,hcell2⟩:=zH (Pg:=Pg) hD2 new.length (ZD _);rcases hb with⟨rfl,rfl,rfl,rfl,rfl⟩|⟨g,l,rfl,hog,rfl,hbc,hm,rfl,akB⟩
  .have hn0:new=[]:=Vv (by omega);subst hn0;have hk:=h.kill g2;have hmk:=Rel.Nu hk.1 d (by simpa[St.aB]using hd) (.aF (a||a2) (i||i2) ie.size ah [] none) (.inl ⟨rfl,rfl,rfl,λ_=>rfl⟩) (λg hg=>by simp[O.names,bZ]at hg);have hst:(st.aB [(g2,.none)] []).aB [(d,.aF (a||a2) (i||i2) ie.size ah [] none)] [d]=st.aB ((d,.aF (a||a2) (i||i2) ie.size ah ([]++[]) none)::kills ((none:Option Nat).toList++[g2])) [d]:=by
    refine St.Dk rfl (λz=>?_) (λz=>by simp[St.aB]);simp only[St.aB,lookup_cons,gU,Option.toList,qa,Q6,List.lookup_nil];by_cases z1:z=d
    .simp only[Qt z1]
    .simp only[QR z1]
   rw[hst]at hmk;refine⟨.slice none (0+0) 0,w,_,jT h0 h1 hs hxt he hc2 (by simp) (λa ha=>by cases ha) (λ_=>rfl),hmk.1,Lets.trans hk.2 hmk.2 (λg hg=>by simpa[St.aB]using hg),by simp[eG,Gh.nil]⟩
  .have hD:kC E st gh w a i ie.size ah l none (gh g):=by have:=h.aW g;rw[hog]at this;exact this
   have hgo:(st.o g).bJ=true:=by rw[hog];rfl
   rcases hD with⟨z1,z2,z3,z4⟩|⟨ad,c,e0,z1,z2,z3,z4,z5,z6,⟨z7,z7'⟩,z8⟩
   .subst z3;have hm0:m=0:=by simpa using hm
    subst hm0;have hn0:new=[]:=Vv (by omega);subst hn0;have hk:=h.kill g;have hk2:=hk.1.kill g2;have hmk:=Rel.Nu hk2.1 d (by simpa[St.aB]using hd) (.aF (a||a2) (i||i2) ie.size ah [] none) (.inl ⟨rfl,rfl,rfl,λ_=>rfl⟩) (λg hg=>by simp[O.names,bZ]at hg);have hst:((st.aB [(g,.none)] []).aB [(g2,.none)] []).aB [(d,.aF (a||a2) (i||i2) ie.size ah [] none)] [d]=st.aB ((d,.aF (a||a2) (i||i2) ie.size ah (([]:List (List P)).take 0++[]) none)::kills ((some g:Option Nat).toList++[g2])) [d]:=by
     refine St.Dk rfl (λz=>?_) (λz=>by simp[St.aB]);simp only[St.aB,lookup_cons,gU,Option.toList,Ke,qa,Xs,K0,or_false,List.lookup_nil];by_cases z1:z=d
     .simp only[Qt z1];rfl
     .simp only[QR z1];by_cases z2:z=g2
      .simp [z2]
      .simp only[QR z2];by_cases z3:z=g
       .simp [z3]
       .simp [z2,z3]
    rw[hst]at hmk;have ahQ:uU=0:=by omega
    subst ahQ;refine⟨.slice none (0+0) 0,w,_,by rw[z1];exact jT h0 h1 hs hxt he hc2 (by simp) (λa ha=>by cases ha) (λ_=>rfl),hmk.1,Lets.trans (Lets.trans hk.2 hk2.2 (λg hg=>by simpa[St.aB]using hg)) hmk.2 (λg hg=>by simpa[St.aB]using hg),by simp[eG,Gh.nil]⟩
   .have aoh:m*ie.size+new.length*ie.size<=(gh g).cap*ie.size:=by rw[<-Wl];exact Zs _ (J0 qL hbc.2)
    have hbz:uU*ie.size<=(gh g).cap*ie.size:=Zs _ hbc.2;obtain⟨b0,o0,sp0⟩:=ad;simp only at z2 z3 z4 z7 z8;subst z2;obtain⟨w',c',s1,s2,s3,s4,s5,s6,s7,s8⟩:=lT (Pg:=Pg) b0 (o0+m*ie.size) e0 c2 0 w c z3 akA (by omega);have AY:c'.size=c.size:=by have:=ZS List.length s3;rw[dS (by simp;omega)]at this;simpa using this
    let G:Gh:=⟨some ⟨b0,o0,none⟩,uU,sub⟩
    have hn2:¬ (gh g2).has b0:=λhb=>akB (h.inj g g2 b0 hgo aen (Gh.jC z1) hb);have hget :∀q:Nat,c'[q]?=(aJ c.toList (o0+m*ie.size) c2)[q]?:=λq=>by rw[<-J1,s3,Uq]
    have hga:=h.gather (λg'=>g'∈(some g:Option Nat).toList++[g2]) hd (a||a2) (i||i2) ie.size ah (l.take m++new) G (st.aB ((d,.aF (a||a2) (i||i2) ie.size ah (l.take m++new) none)::kills ((some g:Option Nat).toList++[g2])) [d]) w' rfl (by simp[St.aB,lookup_cons])
     (aky _) (akz _) (λg hg=>by simp[St.aB,hg]) (by simp[St.aB]) (ad:=⟨b0,o0,none⟩) (c:=c') (ty:=e0) rfl rfl s2 (by rw[AY];simp only[G];omega) ⟨by rw[hlen];exact qL,by simp only[G];have:=z5.2;omega⟩ (λx hx=>by
      rcases QQ.1 hx with hx|hx
      .exact z6 x (W6 hx)
      .exact hr2 x hx) (by
      show sub b0=none;cases hx:(gh g2).sub b0 with
      |some p=>exact(hn2 (.inr (by rw[hx];rfl))).elim
      |none=>simp only[sub,hx,yD];exact z7) (λb hb=>by
      obtain⟨g',q1,q2,q3⟩:=hsub b hb;exact⟨⟨g',q1,q2,.inr q3⟩,aaw g' q1 b q3⟩) (.inl ⟨g,by simp,hgo,Gh.jC z1⟩) (λb _ hne=>s4 b hne) (by omega) s6 s7 s8
     (λg' i1 hg' e1 hi=>by obtain⟨_,_,a0,i0,l0,hq,hi0⟩:=hbS g' hg';rw[hq]at e1;cases e1;exact hi0 hi) (λg' hg' _=>by obtain⟨_,_,a0,i0,l0,hq,_⟩:=hbS g' hg';exact⟨i0,by rw[hq];rfl⟩)
     (λn x hx j y hy=>by
      rw[K9]at hx;split at hx
      .rename_i hn;have hnm:n<m:=by simp at hn;omega
       rw[ZZ,Qt hnm]at hx;obtain⟨v,hv,hvr⟩:=z8 n x hx j y hy;have hj:j<ie.size:=by have:=(Q4.1 hy).1;have:=z6 x (Ys hx);omega
       have:(n+1)*ie.size<=m*ie.size:=Zs _ hnm;rw[Wl,Kk]at this;exact⟨v,by rw[hget,eF (by simp;omega),QR (by show ¬ (_/\_);simp only;omega)];simpa using hv,akx G rfl g rfl n j y v hvr⟩
      .rename_i hn;have hlm:(l.take m).length=m:=by simp;omega
       rw[hlm]at hx hn;obtain⟨u,hu,hur⟩:=hcell2 _ x (by have:=(Q4.1 hx).1;omega) hx j y hy;have Ue:=(Q4.1 hu).1;have hnm:n*ie.size=m*ie.size+(n-m)*ie.size:=by rw[<-Wl];congr 1;omega
       refine⟨u,?_,?_⟩
       .have e1:o0+n*ie.size+j-(o0+m*ie.size)=(n-m)*ie.size+j:=by omega
        rw[hget,eF (by simp;omega),Qt (by simp only;omega),e1];exact hu
       .have:=akw G rfl (n-m) j y u hur;have e2:n-m+m=n:=by omega
        rw[e2]at this;exact this)
    refine⟨_,w',_,jT h0 h1 hs hxt he hc2 qL (λa ha=>?_) (λhn=>by rw[z1]at hn;cases hn),hga.1,hga.2,by rw[hlen];simp[eG,G,z1]⟩;rw[z1]at ha;cases ha;rw[Addr.gX];simpa using s1
 .have hd1:=h.drew (w.drawn+1);have hl1:Lets E st st gh gh w { w with drawn:=w.drawn+1 }:=Rel.Di _;have aon:kC E st gh { w with drawn:=w.drawn+1 } a2 i2 ie.size ah new none (gh g2):=by have:=hd1.aW g2;rw[ho2]at this;exact this
  obtain⟨c2,hc2,hl2,akA,hr2,hcell2⟩:=zH (Pg:=Pg) aon new.length (ZD _);have hbase :∃c1:List Value,(Builtin.firstCells ie.size m (.slice bad m uU)).run Pg { w with drawn:=w.drawn+1 }=.ok c1.toArray { w with drawn:=w.drawn+1 }/\c1.length=m*ie.size/\(∀x∈old,x.length=ie.size)/\
    ∀(n:Nat) x,old[n]?=some x->∀(j:Nat) y,x[j]?=some y->∃u,c1[n*ie.size+j]?=some u/\∃g,base=some g/\iy E st gh { w with drawn:=w.drawn+1 } a i (gh g) ah none n j y u:=by
   rcases hb with⟨rfl,rfl,rfl,rfl,rfl⟩|⟨g,l,rfl,hog,rfl,hbc,hm,rfl,akB⟩
   .exact ⟨[],by simp[Builtin.firstCells],by simp,by simp,by simp⟩
   .have hD:kC E st gh { w with drawn:=w.drawn+1 } a i ie.size ah l none (gh g):=by have:=hd1.aW g;rw[hog]at this;exact this
    obtain⟨c1,k1,k2,k3,k4,k5⟩:=zH (Pg:=Pg) hD m hm;rw[wY _ _ _ _ _ uU]at k1;refine⟨c1,k1,k2,λx hx=>k4 x (W6 hx),λn x hx j y hy=>?_⟩;rw[ZZ]at hx;split at hx
    .rename_i hn;obtain⟨u,q1,q2⟩:=k5 n x hn hx j y hy;exact⟨u,q1,g,rfl,q2⟩
    .cases hx
  obtain⟨c1,hc1,aar,hr1,hcell1⟩:=hbase;have hback:Lets E st st gh gh { w with drawn:=w.drawn+1 } w:=⟨λa i b hb=>⟨hb,rfl⟩,λg _=>.inr ⟨⟨rfl,rfl⟩,O.eU _⟩⟩;obtain⟨rest,newCap,k1,k2,k3⟩:=qg (ty:=ty) h0 h1 hs hxt he hc2 hc1 qL hbb hb0
  let G:Gh:=⟨some ⟨w.heap.size,0,none⟩,newCap,sub⟩
  have hga:=h.gather (λg'=>g'∈base.toList++[g2]) hd (a||a2) (i||i2) ie.size ah (old++new) G (st.aB ((d,.aF (a||a2) (i||i2) ie.size ah (old++new) none)::kills (base.toList++[g2])) [d])
   { w with drawn:=w.drawn+1,heap:=w.heap.push (.cells (c1.toArray++c2.toArray++rest) e) } rfl (by simp[St.aB,lookup_cons])
   (aky _) (akz _) (λg hg=>by simp[St.aB,hg]) (by simp[St.aB]) (ad:=⟨w.heap.size,0,none⟩) (c:=c1.toArray++c2.toArray++rest) (ty:=e) rfl rfl (by simp) (by
    simp only[za,qq,aar,hl2,k2,G];rw[<-Wl,<-Wl,V1];exact Zs _ (by omega)) ⟨by rw[hlen];exact k1.1,k1.2⟩ (λx hx=>by
    rcases QQ.1 hx with hx|hx
    .exact hr1 x hx
    .exact hr2 x hx) (by
    show sub w.heap.size=none;cases hx:sub w.heap.size with
    |none=>rfl
    |some p=>obtain⟨g',q1,q2,q3⟩:=hsub w.heap.size (by rw[hx];rfl);have:=(h.wr g' _ q2 (.inr q3)).2;omega) (λb hb=>by
    obtain⟨g',q1,q2,q3⟩:=hsub b hb;exact⟨⟨g',q1,q2,.inr q3⟩,aaw g' q1 b q3⟩) (.inr ⟨ZD _,by simp⟩) (λb hb _=>uI w _ b hb) (by simp) rfl rfl rfl
   (λg' i1 hg' e1 hi=>by obtain⟨_,_,a0,i0,l0,hq,hi0⟩:=hbS g' hg';rw[hq]at e1;cases e1;exact hi0 hi) (λg' hg' _=>by obtain⟨_,_,a0,i0,l0,hq,_⟩:=hbS g' hg';exact⟨i0,by rw[hq];rfl⟩)
   (λn x hx j y hy=>by
    rw[K9]at hx;split at hx
    .rename_i hn;obtain⟨u,q1,g,q2,q3⟩:=hcell1 n x hx j y hy;have hlt:=(Q4.1 q1).1;refine⟨u,?_,akx G rfl g q2 n j y u (hback.VU (λ_ _=>rfl) (λg hg=>by cases hg) q3)⟩;rw[V1,K1 (by simp;omega),K1 (by simpa using hlt)];simpa using q1
    .rename_i hn;rw[hol]at hx hn;obtain⟨u,hu,hur⟩:=hcell2 _ x (by have:=(Q4.1 hx).1;omega) hx j y hy;have Ue:=(Q4.1 hu).1;have hnm:n*ie.size=m*ie.size+(n-m)*ie.size:=by rw[<-Wl];congr 1;omega
     refine⟨u,?_,?_⟩
     .rw [V1,K1 (by simp;omega),Array.getElem?_append_right (by simp;omega)];simp only[qq,K4];have e1:n*ie.size+j-c1.length=(n-m)*ie.size+j:=by omega
      rw[e1];exact hu
     .have:=akw G rfl (n-m) j y u (hback.VU (λ_ _=>rfl) (λg hg=>by cases hg) hur);have e2:n-m+m=n:=by omega
      rw[e2]at this;exact this)
  exact⟨_,_,_,k3,hga.1,hga.2,by rw[hlen];simp[eG,G]⟩
theorem mg{o o':Nat->O}{g:Nat}(h:Agree o o' g):iM o g=iM o' g:=by
 obtain⟨h1,h2⟩:=h;unfold iM;rw[<-h1];cases ho:o g with
 |aF a i sz ah l hole=>
  rcases hole with _|⟨n,c,d⟩
  .rfl
  .simp only;rw[h2 d (by rw[ho];simp[O.hn,bZ])]
 |_=>rfl
theorem w_(htt:iC Pg tt)(h:Rel E st gh val w){o:Oper}{ρ:Operand->Value}{s x:Operand}{ts:Array TypeId}(ho:o.op=.call { callee:=.builtin .append,args:=#[s,x],argTypes:=ts }){d g2:Nat}(hd:st.used d=false)
  {sT xT e e':TypeId} {ie:TI} (h0:ts[0]?=some sT) (h1:ts[1]?=some xT) (hs:Pg.underlying sT=some (.slice e)) (hxt:Pg.underlying xT=some (.slice e')) (he:oW Pg e ie) (hb0:ie.bytes≠0)
  {a i a2 i2:Bool} {sz:Nat} {ah:List (Nat×Nat)} {old new:List (List P)} {base:Option Nat} {bad:Option Addr} {uU m:Nat} (hsz:sz=ie.size)
  {st1:St} {lZ:Nat->Gh} (ks:List Nat) (h1':Rel E st1 lZ val w) (l1:Lets E st st1 gh lZ w w) (e1 :∀x,(lZ x).ad=(gh x).ad/\(lZ x).cap=(gh x).cap) (s1:st1.s=st.s) (u1 :∀x,st1.used x=st.used x)
  (hb:(base=none/\bad=none/\uU=0/\m=0/\old=[]/\ks=[])\/∃g l,base=some g/\st1.o g=.aF a i sz ah l none/\bad=(gh g).ad/\(m<=uU/\uU<=(gh g).cap)/\m<=l.length/\old=l.take m/\ks=g::(st.o g).hn)
  (ok1 :∀x∈ks,(∀g,base=some g->x≠g)->st1.o x=.none) (oo1 :∀x,x∉ks->st1.o x=st.o x) (hnd:(ks++g2::(st.o g2).hn).Nodup)
  (h2:iM st.o g2=some (a2,i2,sz,ah,new)) (hvs:ρ s=.slice bad m uU) (hvx:ρ x=.slice (gh g2).ad new.length (gh g2).cap) (hbb:(m+new.length)*ie.bytes<=140737488355328) :
  ∃v w' bG,Does Pg (execOp ρ o) w v w'/\Rel E (st.aB ((d,.aF (a||a2) (i||i2) sz ah (old++new) none)::kills (ks++g2::(st.o g2).hn)) [d]) bG val w'/\
   Lets E st (st.aB ((d,.aF (a||a2) (i||i2) sz ah (old++new) none)::kills (ks++g2::(st.o g2).hn)) [d]) gh bG w w'/\
   dn E (st.aB ((d,.aF (a||a2) (i||i2) sz ah (old++new) none)::kills (ks++g2::(st.o g2).hn)) [d]) bG w' (.v (.one (.own d))) v/\
   ∀g∈(S.v (.one (.own d))).names,(st.aB ((d,.aF (a||a2) (i||i2) sz ah (old++new) none)::kills (ks++g2::(st.o g2).hn)) [d]).used g=true:=by
 have hdis :∀x∈ks,x∉g2::(st.o g2).hn:=λx hx hx'=>by have:=(UT.1 hnd).2.2 x hx x hx';exact this rfl
 have hag:Agree st.o st1.o g2:=⟨(oo1 g2 λhm=>hdis g2 hm (by simp)).symm,λd' hd'=>(oo1 d' λhm=>hdis d' hm (by simp[hd'])).symm⟩;have h2':iM st1.o g2=some (a2,i2,sz,ah,new):=by rw[<-mg hag];exact h2
 obtain⟨st2,yY,r2,l2,e2,s2,u2,o2,ok2,oo2⟩:=h1'.home h2';rw[<-hag.1]at ok2 oo2;have hb2:(base=none/\bad=none/\uU=0/\m=0/\old=[])\/∃g l,base=some g/\st2.o g=.aF a i sz ah l none/\bad=(yY g).ad/\(m<=uU/\uU<=(yY g).cap)/\m<=l.length/\old=l.take m/\g≠g2:=by
  rcases hb with⟨q1,q2,q3,q4,q5,_⟩|⟨g,l,q1,q2,q3,q4,q5,q6,q7⟩
  .exact .inl ⟨q1,q2,q3,q4,q5⟩
  .have hgk:=hdis g (by rw[q7];simp);have hg2:g≠g2:=λe=>hgk (by rw[e];simp);refine .inr ⟨g,l,q1,?_,by rw[(e2 g).1,(e1 g).1];exact q3,by rw[(e2 g).2,(e1 g).2];exact q4,q5,q6,hg2⟩;rw[oo2 g hg2 λhm=>hgk (by simp[hm])];exact q2
 obtain⟨v,w',bG,k1,k2,k3,k4⟩:=Qe (d:=d) (ty:=o.type) r2 (by rw[u2,u1];exact hd) hb2 o2 h0 h1 hs hxt he hsz hbb hb0;have hst:st2.aB ((d,.aF (a||a2) (i||i2) sz ah (old++new) none)::kills (base.toList++[g2])) [d]=st.aB ((d,.aF (a||a2) (i||i2) sz ah (old++new) none)::kills (ks++g2::(st.o g2).hn)) [d]:=by
  refine St.Dk (s2.trans s1) (λz=>?_) (λz=>by simp[St.aB,u2,u1]);simp only[St.aB,lookup_cons,gU];by_cases z1:z=d
  .simp only[Qt z1]
  .simp only[QR z1];by_cases z2:z∈base.toList++[g2]
   .have:z∈ks++g2::(st.o g2).hn:=by
     rcases QQ.1 z2 with z2|z2
     .rcases hb with⟨q1,_⟩|⟨g,l,q1,_,_,_,_,_,q7⟩
      .rw [q1]at z2;simp at z2
      .rw [q1]at z2;simp at z2;subst z2;rw[q7];simp
     .simp at z2;subst z2;simp
    simp only[Qt z2,Qt this]
   .by_cases z3:z∈ks++g2::(st.o g2).hn
    .simp only[QR z2,Qt z3];have hzg:z≠g2:=λe=>z2 (by simp[e]);by_cases z4:z∈(st.o g2).hn
     .exact (ok2 z z4).1
     .rw [oo2 z hzg z4];rcases QQ.1 z3 with z5|z5
      .exact ok1 z z5 λg hg e=>z2 (by rw[hg,e];simp)
      .rcases Xs.1 z5 with z5|z5
       .exact absurd z5 hzg
       .exact absurd z5 z4
    .simp only[QR z2,QR z3];simp only[QQ,Xs,not_or]at z3;rw[oo2 z z3.2.1 z3.2.2,oo1 z z3.1]
 rw[hst]at k2 k3;have hod:(st.aB ((d,.aF (a||a2) (i||i2) sz ah (old++new) none)::kills (ks++g2::(st.o g2).hn)) [d]).o d=.aF (a||a2) (i||i2) sz ah (old++new) none:=by simp[St.aB,lookup_cons]
 refine⟨v,w',bG,.inl (jK ho ?_),k2,Lets.trans (Lets.trans l1 l2 (λg hg=>by rw[u1];exact hg)) k3 (λg hg=>by rw[u2,u1];exact hg),dn.Gu (.own d v (by rw[k4];rfl) λsz1 len1 ho1=>?_),λg hg=>?_⟩
 .rw [(e2 g2).1,(e1 g2).1,(e2 g2).2,(e1 g2).2]at k1;simp[builtin,hvs,hvx,k1]
 .rw [hod]at ho1;simp only[O.dim,Q0,QP]at ho1;obtain⟨_,rfl⟩:=ho1;exact k4
 .rw [dG]at hg;simp only[W.names,Q6]at hg;subst hg;simp[St.aB]
theorem KC{dc:List (Nat×Nat)}(htt:iC Pg tt)(args:Array Operand)(ts:Array TypeId):qh Pg tt dc (.call { callee:=.builtin .append,args:=args,argTypes:=ts }):=by
 intro E st gh val w ρ F o d r ho h hF hFn hk hp hd;simp only[dF]at hk;split at hk
 .rename_i s x sT xT tl ha hts;obtain rfl:=uJ ha;have h0:ts[0]?=some sT:=by rw[<-J1,hts];rfl
  have h1:ts[1]?=some xT:=by rw[<-J1,hts];rfl
  split at hk
  .rename_i e _ _ _ e' _ _ _ s' g2 hsT hxT hs hx;have rs:=hF s;rw[hs]at rs;have rx:=hF x;rw[hx]at rx;have huS:=(htt _ _ hsT).kind;have huX:=(htt _ _ hxT).kind;simp only[oG]at huS huX;split at hk
   .rename_i ie ask a i old ks src a2 i2 sz ah new he hbD hh2;split at hk
    .rename_i hc;obtain⟨hb0,hsz,hsrc,hnd⟩:=hc;have hnd:=qM hnd;cases hk;obtain⟨hask,hbb⟩:=hp;have Gw:st.used d=false:=hd d (by simp);have hvx:ρ x=.slice (gh g2).ad new.length (gh g2).cap:=by cases rx.dB with|own _ _ _ hb=>exact hb _ _ (nK hh2)
     have refl:Lets E st st gh gh w w:=⟨λa i b hb=>⟨hb,rfl⟩,λg _=>.inr ⟨⟨rfl,rfl⟩,O.eU _⟩⟩;cases s' with
     |b_=>
      simp only[baseD,Q0,QP]at hbD;obtain⟨rfl,rfl,rfl,rfl,rfl,rfl⟩:=hbD;have hv:ρ s=.slice none 0 0:=by generalize hz:ρ s=z at rs;cases rs.dB;rfl
      exact w_ htt h ho Gw h0 h1 huS huX (htt _ _ he) hb0 (base:=none) (bad:=none) (uU:=0) (m:=0) hsz [] h refl (λ_=>⟨rfl,rfl⟩) rfl (λ_=>rfl) (.inl ⟨rfl,rfl,rfl,rfl,rfl,rfl⟩) (λx hx=>by cases hx) (λ_ _=>rfl) hnd hh2 hv hvx (by simpa using hbb)
     |own g=>
      simp only[baseD]at hbD;split at hbD
      .rename_i a0 i0 zI jV l0 hh;simp only[Q0,QP]at hbD;obtain⟨rfl,rfl,rfl,rfl,rfl,rfl⟩:=hbD;have hsc:zI=sz/\jV=ah:=by rcases hsrc with e|e;cases e;simpa using e
       obtain⟨rfl,rfl⟩:=hsc;obtain⟨st1,lZ,r1,l1,e1,s1,u1,o1,ok1,oo1⟩:=h.home hh;have hv:ρ s=.slice (gh g).ad l0.length (gh g).cap:=by cases rs.dB with|own _ _ _ hb=>exact hb _ _ (nK hh)
       exact w_ htt h ho Gw h0 h1 huS huX (htt _ _ he) hb0 (base:=some g) hsz (g::(st.o g).hn) r1 l1 e1 s1 u1 (.inr ⟨g,l0,rfl,o1,rfl,⟨(uK (h.aW g) (nK hh)).1,ZD _⟩,ZD _,by rw[W8],rfl⟩)
        (λx hx hxg=>by
         rcases Xs.1 hx with e|e
         .exact absurd e (hxg g rfl)
         .exact (ok1 x e).1)
        (λx hx=>by simp only[Xs,not_or]at hx;exact oo1 x hx.1 hx.2) hnd hh2 hv hvx hbb
      .cases hbD
     |vw g lo hi=>
      simp only[baseD]at hbD;split at hbD
      .rename_i a0 i0 zI jV l0 hh;cases hbD;have hsc:zI=sz/\jV=ah:=by rcases hsrc with e|e;cases e;simpa using e
       obtain⟨rfl,rfl⟩:=hsc;obtain⟨st1,lZ,r1,l1,e1,s1,u1,o1,ok1,oo1⟩:=h.home hh;obtain⟨n,m,vc,h4,rfl,h5,h6,hvc,hv⟩:=(by cases rs.dB with|vw _ _ _ _ _ hb=>exact hb _ _ (nK hh) :∃n m c:Nat,lo=.int .i64 n/\hi=.int .i64 m/\n<=m/\m<=l0.length/\(m-n<=c/\n+c<=(gh g).cap)/\
        ρ s=.slice (if(gh g).cap=n then(gh g).ad else(gh g).ad.map (·.add (n*zI))) (m-n) c)
       have hn0:n=0:=by rw[hask]at h4;simp[kE]at h4;omega
       subst hn0;have hadd:(gh g).ad.map (·.add (0*zI))=(gh g).ad:=by
        cases (gh g).ad with
        |none=>rfl
        |some a=>simp[Addr.add]
       rw[hadd]at hv;simp only[ite_self,Nat.sub_zero]at hv;have em:(P.int .i64 (m:Int)).nat=m:=by simp[P.nat,P.num]
       rw[em]at hbb ⊢;have aoo:(m+new.length)*ie.bytes<=140737488355328:=by rw[WF,vr h6]at hbb;exact hbb
       exact w_ htt h ho Gw h0 h1 huS huX (htt _ _ he) hb0 (base:=some g) hsz (g::(st.o g).hn) r1 l1 e1 s1 u1 (.inr ⟨g,l0,rfl,o1,rfl,by omega,h6,rfl,rfl⟩)
        (λx hx hxg=>by
         rcases Xs.1 hx with e|e
         .exact absurd e (hxg g rfl)
         .exact (ok1 x e).1)
        (λx hx=>by simp only[Xs,not_or]at hx;exact oo1 x hx.1 hx.2) hnd hh2 hv hvx aoo
      .cases hbD
     |_=>simp[baseD]at hbD
    .cases hk
   .cases hk
  .cases hk
 .cases hk
theorem NQ{dc:List (Nat×Nat)}(htt:iC Pg tt)(t:TypeId)(x:Operand)(lo hi mx:Option Operand):qh Pg tt dc (.slice t x lo hi mx):=by
 intro E st gh val w ρ F o d r ho h hF hFn hk hp hd;cases lo with
 |some _=>simp[dF]at hk
 |none=>
 cases mx with
 |some _=>simp[dF]at hk
 |none=>
 simp only[dF]at hk;split at hk
 .rename_i e _ _ _ g ht hx;have rx:=hF x;rw[hx]at rx;have hu:=(htt _ _ ht).kind;simp only[oG]at hu;split at hk
  .rename_i ie a i sz l he hog;split at hk
   .rename_i hsz;split at hk
    .rename_i hi' hhi;cases hk;obtain⟨k,hk,hkl⟩:=hp;have hd:=hd d (by simp);have Kz:(st.o g).dim=some (sz,l.length):=by rw[hog];rfl
     have hv:=(by cases rx.dB with|own _ _ _ hb=>exact hb _ _ Kz:ρ x=.slice (gh g).ad l.length (gh g).cap);have hob:=h.aW g;rw[hog]at hob;have hcap:l.length<=(gh g).cap:=Ny hob;have uM:(hi.map ρ=none/\k=l.length)\/∃kd,hi.map ρ=some (.int kd k):=(gK hF hhi hk).imp (λ⟨a,b⟩=>⟨a,by simp[kE]at b;omega⟩) id;have hrun:(execOp ρ o).run Pg w=.ok (.value (.slice (gh g).ad k (gh g).cap)) w:=by
      have hs:=nJ (Pg:=Pg) (w:=w) (len:=l.length) (lo:=(none:Option Value)) (hi:=hi.map ρ) (m:=0) (k:=k) (cap:=(gh g).cap) (.inl ⟨rfl,rfl⟩) uM (vb _) (by omega);have key:(execOp ρ o).run Pg w=.ok (.value (.slice (if(gh g).cap=0 then(gh g).ad else(gh g).ad.map (·.add (0*ie.size))) (k-0) ((gh g).cap-0))) w:=by unfold execOp;rw[ho];refine fQ ?_;simp only[Kl];simp[Instr.sliceAt,dN hu,Instr.slice,hv,hs,dL (htt _ _ he)]
      rw[key];congr 3;rcases hob with⟨q1,q2,_⟩|⟨ad,c,e',q1,q2,_⟩
      .rw [q1,q2];rfl
      .rw [q1];obtain⟨b0,o0,sp0⟩:=ad;simp only at q2;subst q2;split
       .rfl
       .rw [W2,Addr.gX];simp
     have hgo:(st.o g).bJ=true:=by rw[hog];rfl
     have hgu:st.used g=true:=h.ul g (O.oD hgo);have hgd:g≠d:=by intro e;subst e;rw[hd]at hgu;cases hgu
     have e0:(P.list (P.sl sz (l.take hi'.nat)))=l.take k:=by rw[hk];simp[P.list,P.nat,P.num]
     have Qg :∀st',st'=st.aB [(d,.arr false a i sz (l.take k)),(g,.none)] [d]->
       ∃bG,Rel E st' bG val w/\Lets E st st' gh bG w w/\dn E st' bG w (.v (.one (.own d))) (.slice (gh g).ad k (gh g).cap):=by
      intro st' hst;have hod:st'.o d=.arr false a i sz (l.take k):=by rw[hst];simp[St.aB,List.lookup]
      have hm:=h.merge (λg'=>g'=g) d (.arr false a i sz (l.take k)) (gh g) st' w (by rw[hst];rfl) hod (λg' e1 e2=>by
        rw[hst,e1];have:(g==d)=false:=by simpa using hgd
        simp[St.aB,List.lookup,this]) (λg' e1 e2=>by
        rw[hst];have q1:(g'==d)=false:=by simpa using e2
        have q2:(g'==g)=false:=by simpa using e1
        simp[St.aB,List.lookup,q1,q2]) (λg' hg'=>by rw[hst];simp[St.aB,hg']) (by rw[hst];simp[St.aB]) (λhu=>by rw[hd]at hu;cases hu)
       (λb hb=>.inl ⟨g,.inl rfl,hgo,hb⟩) (λb _ _=>rfl) (ZD _) rfl rfl rfl
       (λi1 b e1 hb hwr=>by cases e1;exact h.wi g i b (by rw[hog];rfl) hb hwr) (λ_ _=>h.ns g hgo (by rw[hog];rfl)) (λhl=>?_) (λg' hg'=>by simp[O.names]at hg')
      .refine ⟨_,hm.1,hm.2,dn.Gu (.own d _ rfl λsz' len' hd'=>?_)⟩;rw[hod]at hd';obtain⟨rfl,rfl⟩:=O.jJ hd';have e1:eG gh d (gh g) d=gh g:=by simp[eG]
       rw[e1,WF,vr hkl]
      .show iw E st' _ w a i sz (l.take k) (gh g);have hold:iw E st gh w a i sz l (gh g):=hob;rcases hold with⟨q1,q2,q3⟩|⟨ad,c,e',q1,q2,q3,q4,q5,q6,q7⟩
       .exact .inl ⟨q1,q2,by rw[q3];simp⟩
       .refine .inr ⟨ad,c,e',q1,q2,q3,q4,⟨by rw[WF];omega,q5.2⟩,λx hx=>q6 x (W6 hx),λn x hx j y hy=>?_⟩;rw[ZZ]at hx;split at hx
        .obtain ⟨v,hv,hr⟩:=q7 n x hx j y hy;exact⟨v,hv,hl.kD hr⟩
        .cases hx
     show∃v w' bG,Does Pg (execOp ρ o) w v w'/\Rel E (st.aB [(d,.arr false a i sz (P.list (P.sl sz (l.take hi'.nat)))),(g,.none)] [d]) bG val w'/\_;rw[e0];obtain⟨bG,m1,m2,m3⟩:=Qg _ rfl;refine⟨_,w,bG,.inl hrun,m1,?_,?_,λg' hg'=>?_⟩
     .show Lets E st (st.aB [(d,.arr false a i sz (P.list (P.sl sz (l.take hi'.nat)))),(g,.none)] [d]) gh bG w w;rw[e0];exact m2
     .show dn E (st.aB [(d,.arr false a i sz (P.list (P.sl sz (l.take hi'.nat)))),(g,.none)] [d]) bG w _ _;rw[e0];exact m3
     .have hg':g'∈(S.v (.one (.own d))).names:=hg';have:g'=d:=by simpa[S.names,V.names,W.names]using hg'
      subst this;simp[St.aB]
    .cases hk
   .cases hk
  .rename_i ie a i sz ah l he hog;split at hk
   .rename_i hsz;split at hk
    .rename_i hi' hhi;cases hk;obtain⟨k,hk,hkl⟩:=hp;have hd:=hd d (by simp);have Kz:(st.o g).dim=some (sz,l.length):=by rw[hog];rfl
     have hv:=(by cases rx.dB with|own _ _ _ hb=>exact hb _ _ Kz:ρ x=.slice (gh g).ad l.length (gh g).cap);have hob:=h.aW g;rw[hog]at hob;have hob:kC E st gh w a i sz ah l none (gh g):=hob;have hcap:l.length<=(gh g).cap:=by
      rcases hob with⟨_,_,q3,_⟩|⟨_,_,_,_,_,_,_,q5,_⟩
      .rw [q3];exact vb _
      .exact q5.1
     have uM:(hi.map ρ=none/\k=l.length)\/∃kd,hi.map ρ=some (.int kd k):=(gK hF hhi hk).imp (λ⟨a,b⟩=>⟨a,by simp[kE]at b;omega⟩) id;have hrun:(execOp ρ o).run Pg w=.ok (.value (.slice (gh g).ad k (gh g).cap)) w:=by
      have hs:=nJ (Pg:=Pg) (w:=w) (len:=l.length) (lo:=(none:Option Value)) (hi:=hi.map ρ) (m:=0) (k:=k) (cap:=(gh g).cap) (.inl ⟨rfl,rfl⟩) uM (vb _) (by omega);have key:(execOp ρ o).run Pg w=.ok (.value (.slice (if(gh g).cap=0 then(gh g).ad else(gh g).ad.map (·.add (0*ie.size))) (k-0) ((gh g).cap-0))) w:=by unfold execOp;rw[ho];refine fQ ?_;simp only[Kl];simp[Instr.sliceAt,dN hu,Instr.slice,hv,hs,dL (htt _ _ he)]
      rw[key];congr 3;rcases hob with⟨q1,q2,_⟩|⟨ad,c,e',q1,q2,_⟩
      .rw [q1,q2];rfl
      .rw [q1];obtain⟨b0,o0,sp0⟩:=ad;simp only at q2;subst q2;split
       .rfl
       .rw [W2,Addr.gX];simp
     have hgo:(st.o g).bJ=true:=by rw[hog];rfl
     have hgu:st.used g=true:=h.ul g (O.oD hgo);have hgd:g≠d:=by intro e;subst e;rw[hd]at hgu;cases hgu
     have e0:(P.list (P.sl sz (l.take hi'.nat)))=l.take k:=by rw[hk];simp[P.list,P.nat,P.num]
     have Qg :∀st',st'=st.aB [(d,.aF a i sz ah (l.take k) none),(g,.none)] [d]->
       ∃bG,Rel E st' bG val w/\Lets E st st' gh bG w w/\dn E st' bG w (.v (.one (.own d))) (.slice (gh g).ad k (gh g).cap):=by
      intro st' hst;have hod:st'.o d=.aF a i sz ah (l.take k) none:=by rw[hst];simp[St.aB,List.lookup]
      have hm:=h.merge (λg'=>g'=g) d (.aF a i sz ah (l.take k) none) (gh g) st' w (by rw[hst];rfl) hod (λg' e1 e2=>by
        rw[hst,e1];have:(g==d)=false:=by simpa using hgd
        simp[St.aB,List.lookup,this]) (λg' e1 e2=>by
        rw[hst];have q1:(g'==d)=false:=by simpa using e2
        have q2:(g'==g)=false:=by simpa using e1
        simp[St.aB,List.lookup,q1,q2]) (λg' hg'=>by rw[hst];simp[St.aB,hg']) (by rw[hst];simp[St.aB]) (λhu=>by rw[hd]at hu;cases hu)
       (λb hb=>.inl ⟨g,.inl rfl,hgo,hb⟩) (λb _ _=>rfl) (ZD _) rfl rfl rfl
       (λi1 b e1 hb hwr=>by cases e1;exact h.wi g i b (by rw[hog];rfl) hb hwr) (λ_ hd=>by cases hd) (λhl=>?_) (λg' hg'=>by simp[O.names,bZ]at hg')
      .refine ⟨_,hm.1,hm.2,dn.Gu (.own d _ rfl λsz' len' hd'=>?_)⟩;rw[hod]at hd';have hd':some (sz,(l.take k).length)=some (sz',len'):=hd';cases hd';have e1:eG gh d (gh g) d=gh g:=by simp[eG]
       rw[e1,WF,vr hkl]
      .show kC E st' _ w a i sz ah (l.take k) none (gh g);rcases hob with⟨q1,q2,q3,q4⟩|⟨ad,c,e',q1,q2,q3,q4,q5,q6,q7,q8⟩
       .exact .inl ⟨q1,q2,by rw[q3];simp,q4⟩
       .refine .inr ⟨ad,c,e',q1,q2,q3,q4,⟨by rw[WF];omega,q5.2⟩,λx hx=>q6 x (W6 hx),q7,λn x hx j y hy=>?_⟩;rw[ZZ]at hx;split at hx
        .obtain ⟨v,hv,hr⟩:=q8 n x hx j y hy;exact⟨v,hv,hl.VU (λb hb=>rfl) (λg hg=>by simp[bZ]at hg) hr⟩
        .cases hx
     show∃v w' bG,Does Pg (execOp ρ o) w v w'/\Rel E (st.aB [(d,.aF a i sz ah (P.list (P.sl sz (l.take hi'.nat))) none),(g,.none)] [d]) bG val w'/\_;rw[e0];obtain⟨bG,m1,m2,m3⟩:=Qg _ rfl;refine⟨_,w,bG,.inl hrun,m1,?_,?_,λg' hg'=>?_⟩
     .show Lets E st (st.aB [(d,.aF a i sz ah (P.list (P.sl sz (l.take hi'.nat))) none),(g,.none)] [d]) gh bG w w;rw[e0];exact m2
     .show dn E (st.aB [(d,.aF a i sz ah (P.list (P.sl sz (l.take hi'.nat))) none),(g,.none)] [d]) bG w _ _;rw[e0];exact m3
     .have hg':g'∈(S.v (.one (.own d))).names:=hg';have:g'=d:=by simpa[S.names,V.names,W.names]using hg'
      subst this;simp[St.aB]
    .cases hk
   .cases hk
  .cases hk
 .cases hk
theorem KD{dc:List (Nat×Nat)}(htt:iC Pg tt)(op:Op):qh Pg tt dc op:=by
 cases op with
 |load t x=>exact Qd htt t x
 |store t x y=>exact NP htt t x y
 |buildSlice t n ps=>exact Ba htt t n ps
 |makeSlice t n c=>exact Dl htt t n c
 |slice t x lo hi mx=>exact NQ htt t x lo hi mx
 |call c=>
  obtain⟨callee,args,ts⟩:=c;cases callee with
  |builtin b=>
   cases b with
   |append=>exact KC htt args ts
   |_=>intro E st gh val w ρ F o d r ho h hF hFn hk;simp[dF]at hk
  |_=>intro E st gh val w ρ F o d r ho h hF hFn hk;simp[dF]at hk
 |_=>intro E st gh val w ρ F o d r ho h hF hFn hk;simp[dF]at hk
end
end Go.Fw

namespace Go.Fw
variable [dV]
def P.flat:P->Bool
 |.sl _ _=>false
 |.seq _=>false
 |_=>true
theorem bU.flat{w:World}{ok ok':Nat->Prop}{x:P}{v:Value}(hx:x.flat=true)(r:bU w ok x v):bU w ok' x v:=by
 cases r with
 |int k n=>exact .int k n
 |bool b=>exact .bool b
 |str s=>exact .str s
 |opq v h=>exact .opq v h
 |_=>cases hx
inductive Ww(C:Bool->Bool->Bool->Bool->Prop)(m:Nat->Option Nat)(nil:Nat->Prop):W->W->Prop where
 |no (x:W):Ww C m nil x .no
 |p {a i a' i':Bool} (x:P) (hc:C a i a' i'):Ww C m nil (.p a i x) (.p a' i' x)
 |flat {a i a' i':Bool} (x:P) (hx:x.flat=true):Ww C m nil (.p a i x) (.p a' i' x)
 |b_:Ww C m nil .b_ .b_
 |ahS (a i:Bool) (sz:Nat):Ww C m nil .b_ (.p a i (.sl sz []))
 |akC {g':Nat} (h:m g'=none) (hn:nil g'):Ww C m nil .b_ (.own g')
 |own {g g':Nat} (h:m g'=some g):Ww C m nil (.own g) (.own g')
 |vw {g g':Nat} (lo hi:P) (h:m g'=some g):Ww C m nil (.vw g lo hi) (.vw g' lo hi)
 |box {g g' off:Nat} (h:m g'=some g):Ww C m nil (.box g off) (.box g' off)
 |ep {g g':Nat} (n:P) (off:Nat) (h:m g'=some g):Ww C m nil (.ep g n off) (.ep g' n off)
 |mO {g g':Nat} (h:m g'=some g):Ww C m nil (.mO g) (.mO g')
 |sp {a i a' i':Bool} (row:List P) (off:Nat) (hc:C a i a' i'):Ww C m nil (.sp a i row off) (.sp a' i' row off)
 |gd (b:Bool) {x y:W} (h:Ww C m nil x y):Ww C m nil (.gd b x) (.gd b y)
 |clo (f:FuncId) (xs ys:List W) (hl:xs.length=ys.length) (h :∀(j:Nat) x y,xs[j]?=some x->ys[j]?=some y->Ww C m nil x y):Ww C m nil (.clo f xs) (.clo f ys)
inductive Vw(C:Bool->Bool->Bool->Bool->Prop)(m:Nat->Option Nat)(nil:Nat->Prop):V->V->Prop where
 |one {x y:W} (h:Ww C m nil x y):Vw C m nil (.one x) (.one y)
 |agg (xs ys:List W) (hl:xs.length=ys.length) (h :∀(j:Nat) x y,xs[j]?=some x->ys[j]?=some y->Ww C m nil x y):Vw C m nil (.agg xs) (.agg ys)
inductive Sw(C:Bool->Bool->Bool->Bool->Prop)(m:Nat->Option Nat)(nil:Nat->Prop):S->S->Prop where
 |no (x:S):Sw C m nil x .no
 |v {x y:V} (h:Vw C m nil x y):Sw C m nil (.v x) (.v y)
 |lq (xs ys:List V) (hl:xs.length=ys.length) (h :∀(j:Nat) x y,xs[j]?=some x->ys[j]?=some y->Vw C m nil x y):Sw C m nil (.lq xs) (.lq ys)
inductive Ow(C:Bool->Bool->Bool->Bool->Prop)(m:Nat->Option Nat)(nil:Nat->Prop):O->O->Prop where
 |none (x:O):Ow C m nil x .none
 |box (xs ys:List W) (hl:xs.length=ys.length) (h :∀(j:Nat) x y,xs[j]?=some x->ys[j]?=some y->Ww C m nil x y):Ow C m nil (.box xs) (.box ys)
 |arr (fz:Bool) {a i a' i':Bool} (sz:Nat) (l:List (List P)) (hc:C a i a' i'):Ow C m nil (.arr fz a i sz l) (.arr fz a' i' sz l)
 |aF {a i a' i':Bool} (sz:Nat) (ah:List (Nat×Nat)) (l:List (List P)) (hc:C a i a' i'):Ow C m nil (.aF a i sz ah l Option.none) (.aF a' i' sz ah l Option.none)
 |it (s n:P):Ow C m nil (.it s n) (.it s n)
def O.nilA(o:O):Prop:=(∃a i sz,o=.arr false a i sz [])\/∃a i sz ah,o=.aF a i sz ah [] Option.none
theorem Ow.dim{C:Bool->Bool->Bool->Bool->Prop}{m:Nat->Option Nat}{nil:Nat->Prop}{x y:O}(h:Ow C m nil x y){d:Nat×Nat}(hd:y.dim=some d):x.dim=some d:=by
 cases h with
 |none=>cases hd
 |box=>cases hd
 |arr=>exact hd
 |aF=>exact hd
 |it=>cases hd
theorem Ow.bJ{C:Bool->Bool->Bool->Bool->Prop}{m:Nat->Option Nat}{nil:Nat->Prop}{x y:O}(h:Ow C m nil x y)(hy:y.bJ=true):x.bJ=true/\x.nH=y.nH:=by
 cases h with
 |none=>cases hy
 |box=>exact⟨rfl,rfl⟩
 |arr=>exact⟨hy,rfl⟩
 |aF=>exact⟨rfl,rfl⟩
 |it=>exact⟨rfl,rfl⟩
theorem Ow.inner{C:Bool->Bool->Bool->Bool->Prop}{m:Nat->Option Nat}{nil:Nat->Prop}{x y:O}(h:Ow C m nil x y){i:Bool}(hy:y.inner=some i):∃a' a i',C a' i' a i/\x.inner=some i':=by
 cases h with
 |none=>cases hy
 |box=>cases hy
 |arr fz sz l hc=>
  cases fz with
  |false=>cases hy;exact⟨_,_,_,hc,rfl⟩
  |true=>cases hy
 |aF sz ah l hc=>cases hy;exact⟨_,_,_,hc,rfl⟩
 |it=>cases hy
structure Cast(C:Bool->Bool->Bool->Bool->Prop)(m:Nat->Option Nat)(nil:Nat->Prop)(E E':Env)(st st':St)(gh bG:Nat->Gh)(w:World):Prop where
 ok :∀a i a' i' b,C a i a' i'->E.ok st gh w a i b->E'.ok st' bG w a' i' b
 arr :∀g g',m g'=some g->∀sz len,(st'.o g').dim=some (sz,len)->((bG g').ad=(gh g).ad/\(bG g').cap=(gh g).cap)/\(st.o g).dim=some (sz,len)
 box :∀g g',m g'=some g->∀ws,st'.o g'=.box ws->(bG g').ad=(gh g).ad/\∃ws',st.o g=.box ws'
 it :∀g g',m g'=some g->∀s n,st'.o g'=.it s n->(bG g').ad=(gh g).ad/\∃s' n',st.o g=.it s' n'
 nil :∀g',nil g'->m g'=none->∀sz len,(st'.o g').dim=some (sz,len)->len=0/\(bG g').ad=none/\(bG g').cap=0
section
variable {C:Bool->Bool->Bool->Bool->Prop} {E E':Env} {st st':St} {gh bG:Nat->Gh} {w:World} {val:Nat->Value} {m:Nat->Option Nat} {nil:Nat->Prop}
theorem Cast.kD(r:Cast C m nil E E' st st' gh bG w){a i a' i':Bool}(hc:C a i a' i'){x:P}{v:Value}(h:bU w (E.ok st gh w a i) x v):bU w (E'.ok st' bG w a' i') x v:=h.mono λb hb=>⟨r.ok _ _ _ _ b hc hb,rfl⟩
theorem Cast.zC(r:Cast C m nil E E' st st' gh bG w){x y:W}(hxy:Ww C m nil x y){v:Value}(h:eH E st gh w x v):eH E' st' bG w y v:=by
 induction hxy generalizing v with
 |no x=>exact .no v
 |p x hc=>cases h with|p _ _ _ _ h=>exact .p _ _ _ _ (r.kD hc h)
 |flat x hx=>cases h with|p _ _ _ _ h=>exact .p _ _ _ _ (h.flat hx)
 |b_=>cases h;exact .b_
 |ahS a i sz=>cases h;exact .p _ _ _ _ (.nil _ _ _)
 |akC hm hn=>cases h;refine .own _ _ rfl λsz len ho=>?_;obtain⟨h1,h2,h3⟩:=r.nil _ hn hm _ _ ho;rw[h1,h2,h3]
 |own hm=>
  cases h with|own _ _ hv hx=>
  refine .own _ _ hv λsz len ho=>?_;obtain⟨hg,e⟩:=r.arr _ _ hm _ _ ho;rw[hg.1,hg.2];exact hx _ _ e
 |vw lo hi hm=>
  cases h with|vw _ _ _ _ hv hx=>
  refine .vw _ _ _ _ hv λsz len ho=>?_;obtain⟨hg,e⟩:=r.arr _ _ hm _ _ ho;rw[hg.1,hg.2];exact hx _ _ e
 |box hm=>
  cases h with|box _ _ _ hv hx=>
  refine .box _ _ _ hv λws ho=>?_;obtain⟨hg,ws',e⟩:=r.box _ _ hm _ ho;rw[hg];exact hx _ e
 |ep n off hm=>
  cases h with|ep _ _ _ _ hv hx=>
  refine .ep _ _ _ _ hv λsz len ho=>?_;obtain⟨hg,e⟩:=r.arr _ _ hm _ _ ho;rw[hg.1];exact hx _ _ e
 |mO hm=>
  cases h with|mO _ _ hv hx=>
  refine .mO _ _ hv λs n ho=>?_;obtain⟨hg,s',n',e⟩:=r.it _ _ hm _ _ ho;rw[hg];exact hx _ _ e
 |sp row off hc=>cases h with|sp _ _ _ _ b o hb hr=>exact .sp _ _ _ _ b o (λh0=>r.ok _ _ _ _ b hc (hb h0)) λj y hj=>let ⟨u,hu,Qa⟩:=hr j y hj;⟨u,hu,r.kD hc Qa⟩
 |gd b hxy ih=>cases h with|gd _ _ _ h=>exact .gd _ _ _ λhb=>ih (h hb)
 |clo f xs ys hl hxy ih=>
  cases h with|clo _ _ vs hl' h=>
  exact .clo f ys vs (by omega) λj y v hy hv=>by
   have hlt:j<xs.length:=by have:=(Q4.1 hy).1;omega
   exact ih j _ y (Q3 hlt) hy (h j _ v (Q3 hlt) hv)
theorem Cast.Yj(r:Cast C m nil E E' st st' gh bG w){x y:V}(hxy:Vw C m nil x y){v:Value}(h:qH E st gh w x v):qH E' st' bG w y v:=by
 cases hxy with
 |one hxy=>cases h with|one _ _ h=>exact .one _ _ (r.zC hxy h)
 |agg xs ys hl hxy=>
  cases h with|agg _ cs hl' hv h=>
  exact .agg ys cs (by omega) hv λj y v hy hv=>by
   have hlt:j<xs.length:=by have:=(Q4.1 hy).1;omega
   exact r.zC (hxy j _ y (Q3 hlt) hy) (h j _ v (Q3 hlt) hv)
theorem Cast.aed(r:Cast C m nil E E' st st' gh bG w){x y:S}(hxy:Sw C m nil x y){v:Value}(h:dn E st gh w x v):dn E' st' bG w y v:=by
 cases hxy with
 |no x=>exact .no v
 |v hxy=>cases h with|v _ _ h=>exact .v _ _ (r.Yj hxy h)
 |lq xs ys hl hxy=>
  cases h with|lq _ vs hl' h=>
  exact .lq ys vs (by omega) λj y v hy hv=>by
   have hlt:j<xs.length:=by have:=(Q4.1 hy).1;omega
   exact r.Yj (hxy j _ y (Q3 hlt) hy) (h j _ v (Q3 hlt) hv)
theorem Cast.Az(r:Cast C m nil E E' st st' gh bG w){x y:O}(hxy:Ow C m nil x y){G:Gh}(h:lF E st gh w x G):lF E' st' bG w y G:=by
 cases hxy with
 |none x=>trivial
 |box xs ys hl hxy=>
  obtain⟨ad,c,e,h1,h2,h3,h4,h5⟩:=h;refine⟨ad,c,e,h1,h2,h3,by omega,λj y hy=>?_⟩;have hlt:j<xs.length:=by have:=(Q4.1 hy).1;omega
  obtain⟨v,hv,ho,hr⟩:=h5 j _ (Q3 hlt);exact⟨v,hv,ho,r.zC (hxy j _ y (Q3 hlt) hy) hr⟩
 |arr fz sz l hc=>
  cases fz with
  |false=>rcases h with hO|⟨ad,c,e,h1,h2,h3,h4,h5,h6,h7⟩;exact .inl hO;exact .inr ⟨ad,c,e,h1,h2,h3,h4,h5,h6,λn x hx j y hy=>let ⟨v,hv,hr⟩:=h7 n x hx j y hy;⟨v,hv,r.kD hc hr⟩⟩
  |true=>exact r.kD hc h
 |aF sz ah l hc=>
  rcases h with hO|⟨ad,c,e,h1,h2,h3,h4,h5,h6,h7,h8⟩;exact .inl hO;refine .inr ⟨ad,c,e,h1,h2,h3,h4,h5,h6,h7,λn x hx j y hy=>?_⟩;obtain⟨v,hv,hr⟩:=h8 n x hx j y hy;refine⟨v,hv,?_⟩;unfold iy at *;cases hcl:ah.lookup j with
  |none=>rw[hcl]at hr;exact r.kD hc hr
  |some sz'=>rw[hcl]at hr;simp only[gB]at *;obtain⟨l',ao,k,k1,k2,k3,k4⟩:=hr;refine⟨l',ao,k,k1,k2,?_,k4⟩;rcases k3 with k3|⟨ad,c,e,h1,h2,h3,h4,h5,h6,h7⟩;exact .inl k3;exact .inr ⟨ad,c,e,h1,h2,h3,h4,h5,h6,λn x hx j y hy=>let ⟨v,hv,hr⟩:=h7 n x hx j y hy;⟨v,hv,r.kD hc hr⟩⟩
 |it s n=>exact h
end
def Z4(a i a' i':Bool):Prop:=(a=true->a'=true)/\(i=true->i'=true)
structure rQ(C:Bool->Bool->Bool->Bool->Prop)(m:Nat->Option Nat)(st st':St):Prop where
 slots :∀t,Sw C m (λg=>(st'.o g).nilA) (st.s t) (st'.s t)
 aW :∀g' g,m g'=some g->Ow C m (λg=>(st'.o g).nilA) (st.o g) (st'.o g')
 aQ :∀g',m g'=none->st'.o g'=.none\/(st'.o g').nilA
 inj :∀g1 g2 g,(st'.o g1).bJ=true->(st'.o g2).bJ=true->m g1=some g->m g2=some g->g1=g2
 us :∀t,∀g∈(st'.s t).names,st'.used g=true
 uo :∀g,∀g'∈(st'.o g).names,st'.used g'=true
 ul :∀g,st'.o g≠.none->st'.used g=true
section
variable {C:Bool->Bool->Bool->Bool->Prop} {E E':Env} {st st':St} {gh:Nat->Gh} {w:World} {val:Nat->Value} {m:Nat->Option Nat}
def jD(gh:Nat->Gh)(m:Nat->Option Nat):Nat->Gh:=λg'=>match m g' with
 |some g=>gh g
 |none=>Gh.nil
theorem rQ.bJ(r:rQ C m st st'){g':Nat}(h:(st'.o g').bJ=true){b:Nat}(had:(jD gh m g').has b):∃g,m g'=some g/\(st.o g).bJ=true/\(gh g).has b:=by
 unfold jD at had;cases hm:m g' with
 |none=>rw[hm]at had;exact(Gh.not_nil had).elim
 |some g=>rw[hm]at had;exact⟨g,rfl,((r.aW g' g hm).bJ h).1,had⟩
theorem rQ.cast(r:rQ C m st st')(hok :∀a i a' i' b,C a i a' i'->E.ok st gh w a i b->E'.ok st' (jD gh m) w a' i' b):
  Cast C m (λg=>(st'.o g).nilA) E E' st st' gh (jD gh m) w:=by
 refine⟨hok,λg g' hm sz len ho=>⟨by simp[jD,hm],(r.aW g' g hm).dim ho⟩,λg g' hm ws ho=>⟨by simp[jD,hm],?_⟩,λg g' hm s n ho=>⟨by simp[jD,hm],?_⟩,λg' hn hm sz len ho=>⟨?_,by simp[jD,hm,Gh.nil],by simp[jD,hm,Gh.nil]⟩⟩
 .have:=r.aW g' g hm;rw[ho]at this;generalize st.o g=x at this;cases this;exact⟨_,rfl⟩
 .have:=r.aW g' g hm;rw[ho]at this;generalize st.o g=x at this;cases this;exact⟨_,_,rfl⟩
 .rcases hn with⟨a',i',sz',hn⟩|⟨a',i',sz',ah,hn⟩
  .rw [hn]at ho;cases ho;rfl
  .rw [hn]at ho;cases ho;rfl
theorem rQ.ok(r:rQ Z4 m st st'):∀a i a' i' b,Z4 a i a' i'->E.ok st gh w a i b->E.ok st' (jD gh m) w a' i' b:=by intro a i a' i' b hc h;have:=Env.oH hc.1 hc.2 h;refine⟨this.1,this.2.1,λg' ho had=>?_⟩;obtain⟨g,_,h1,h2⟩:=r.bJ ho had;exact h.2.2 g h1 h2
theorem rQ.Az(r:rQ C m st st')(c:Cast C m (λg=>(st'.o g).nilA) E E' st st' gh (jD gh m) w)(h :∀g,lF E st gh w (st.o g) (gh g))(g':Nat):lF E' st' (jD gh m) w (st'.o g') (jD gh m g'):=by
 cases hm:m g' with
 |none=>
  rcases r.aQ g' hm with e|⟨a,i,sz,e⟩|⟨a,i,sz,ah,e⟩
  .rw [e];trivial
  .rw [e];exact .inl ⟨by simp[jD,hm,Gh.nil],by simp[jD,hm,Gh.nil],rfl⟩
  .rw [e];exact .inl ⟨by simp[jD,hm,Gh.nil],by simp[jD,hm,Gh.nil],rfl,λb=>by simp[jD,hm,Gh.nil]⟩
 |some g=>
  have hg:jD gh m g'=gh g:=by simp[jD,hm]
  rw[hg];exact c.Az (r.aW g' g hm) (h g)
theorem Rel.aax(h:Rel E st gh val w)(r:rQ Z4 m st st'):Rel E st' (jD gh m) val w:=by
 have c:=r.cast (E:=E) (E':=E) (gh:=gh) (w:=w) r.ok;refine⟨λt=>c.aed (r.slots t) (h.slots t),r.Az c h.aW,λg1 g2 b h1 h2 k1 k2=>?_,λg' b ho had=>?_,λg' i b ho had hw=>?_,λg' ho hd b=>?_,h.wb,h.frame,h.size,h.os,h.tape,h.output,r.us,r.uo,r.ul⟩
 .obtain ⟨q1,m1,o1,d1⟩:=r.bJ h1 k1;obtain⟨q2,m2,o2,d2⟩:=r.bJ h2 k2;have:=h.inj q1 q2 b o1 o2 d1 d2;subst this;exact r.inj g1 g2 q1 h1 h2 m1 m2
 .obtain ⟨g,_,h1,h2⟩:=r.bJ ho had;exact h.wr g b h1 h2
 .obtain ⟨g,hm,h1,h2⟩:=r.bJ (gh:=gh) (g':=g') (O.kF ho) had;obtain⟨a',a,i',hc,q⟩:=(r.aW g' g hm).inner ho;exact hc.2 (h.wi g i' b q h2 hw)
 .cases hm:m g' with
  |none=>simp[jD,hm,Gh.nil]
  |some g=>
   have hg:jD gh m g'=gh g:=by simp[jD,hm]
   rw[hg];obtain⟨q1,q2⟩:=(r.aW g' g hm).bJ ho;exact h.ns g q1 (by rw[q2];exact hd) b
end
end Go.Fw

namespace Go.Fw
variable [dV]
inductive WS where
 |p (a i:Bool)
 |b_
 |own (g:Nat)
 |box (g off:Nat)
 |fn (f:FuncId) (gs:List Nat)
 |mO (g:Nat)
 |no
 |vw (g:Nat)
 |ep (g off:Nat)
inductive SS where
 |one (x:WS)
 |agg (xs:List WS)
inductive OS where
 |box (ws:List WS)
 |arr (fz a i:Bool) (sz:Nat)
 |it
 |aF (a i:Bool) (sz:Nat) (ah:List (Nat×Nat))
structure Shape where
 slots:List (Nat×SS)
 aW:List (Nat×OS)
abbrev Ren:=List (Nat×Option Nat)
def imp(a b:Bool):Bool:=!a||b
def nodupB:List Nat->Bool
 | []=>true
 |x::xs=>!xs.contains x&&nodupB xs
def rU(m:Ren):List Nat->List W->Bool
 | [],[]=>true
 |g'::gs,.box g off::cs=>decide (m.lookup g'=some (some g))&&(Nat.beq off 0&&rU m gs cs)
 |_,_=>false
def fO:List Nat->List W
 | []=>[]
 |g::gs=>.box g 0::fO gs
def Kr(m:Ren):WS->W->Option (List P)
 |.p a i,.p a' i' x=>if((imp a' a&&imp i' i)||x.flat)=true then some [x]else none
 |.p _ _,.b_=>some [.sl 0 []]
 |.b_,.b_=>some []
 |.own g',.own g=>if m.lookup g'=some (some g)then some []else none
 |.own g',.b_=>if m.lookup g'=some none then some []else none
 |.box g' off,.box g off'=>if m.lookup g'=some (some g)/\off=off' then some []else none
 |.fn f gs,.clo f' caps=>if f=f'/\rU m gs caps=true then some []else none
 |.mO g',.mO g=>if m.lookup g'=some (some g)then some []else none
 |.no,_=>some []
 |.vw g',.vw g lo hi=>if m.lookup g'=some (some g)then some [lo,hi]else none
 |.ep g' off,.ep g n off'=>if m.lookup g'=some (some g)/\off=off' then some [n]else none
 |_,_=>none
def KE(m:Ren):List WS->List W->Option (List P)
 | [],[]=>some []
 |k::ks,x::xs=>match Kr m k x,KE m ks xs with
  |some u,some v=>some (u++v)
  |_,_=>none
 |_,_=>none
def coS(m:Ren):SS->S->Option (List P)
 |.one k,.v (.one x)=>Kr m k x
 |.agg ks,.v (.agg xs)=>KE m ks xs
 |_,_=>none
def Z5(m:Ren):OS->O->Option (List P)
 |.box ks,.box xs=>KE m ks xs
 |.arr fz a i sz,.arr fz' a' i' sz' l=>if fz=fz'/\sz=sz'/\(imp a' a&&imp i' i)=true then some [P.fG sz l]else none
 |.it,.it s n=>some [s,n]
 |.aF a i sz ah,.aF a' i' sz' gJ l Option.none=>if sz=sz'/\ah=gJ/\(imp a' a&&imp i' i)=true then some [P.fG sz l]else none
 |_,_=>none
def qN(m:Ren)(s:Nat->S):List (Nat×SS)->Option (List P)
 | []=>some []
 |(t,k)::rest=>match coS m k (s t),qN m s rest with
  |some u,some v=>some (u++v)
  |_,_=>none
def uV(m:Ren)(o:Nat->O):List (Nat×OS)->Option (List P)
 | []=>some []
 |(g',k)::rest=>match (match m.lookup g' with
   |some (some g)=>Z5 m k (o g)
   |some none=>(match k with
    |.arr false _ _ _=>some [.sl 0 []]
    |.aF _ _ _ _=>some [.sl 0 []]
    |_=>none)
   |none=>none),uV m o rest with
  |some u,some v=>some (u++v)
  |_,_=>none
def WS.names:WS->List Nat
 |.own g|.box g _|.mO g|.vw g|.ep g _=>[g]
 |.fn _ gs=>gs
 |_=>[]
def SS.names:SS->List Nat
 |.one x=>x.names
 |.agg xs=>xs.flatMap WS.names
def OS.names:OS->List Nat
 |.box ws=>ws.flatMap WS.names
 |_=>[]
def Shape.nms(j:Shape):List Nat:=j.aW.map (·.1)
def Shape.ok(j:Shape):Bool:=nodupB j.nms&&j.slots.all (λp=>p.2.names.all λg=>j.nms.contains g)&&j.aW.all (λp=>p.2.names.all λg=>j.nms.contains g)
def agV(j:Shape)(m:Ren):Bool:=nodupB (j.nms.filterMap λg=>(m.lookup g).join)
def coerce(j:Shape)(m:Ren)(st:St):Option (List P):=
 if(j.ok&&agV j m)=true then match qN m st.s j.slots,uV m st.o j.aW with
  |some u,some v=>some (u++v)
  |_,_=>none
 else none
def pG(vs:List P)(n:Nat):WS->W×Nat
 |.p a i=>(.p a i (vs.getD n default),n+1)
 |.b_=>(.b_,n)
 |.own g=>(.own g,n)
 |.box g off=>(.box g off,n)
 |.fn f gs=>(.clo f (fO gs),n)
 |.mO g=>(.mO g,n)
 |.no=>(.no,n)
 |.vw g=>(.vw g (vs.getD n default) (vs.getD (n+1) default),n+2)
 |.ep g off=>(.ep g (vs.getD n default) off,n+1)
def kH(vs:List P):Nat->List WS->List W×Nat
 |n,[]=>([],n)
 |n,k::ks=>((pG vs n k).1::(kH vs (pG vs n k).2 ks).1,(kH vs (pG vs n k).2 ks).2)
def mkS(vs:List P)(n:Nat):SS->S×Nat
 |.one k=>(.v (.one (pG vs n k).1),(pG vs n k).2)
 |.agg ks=>(.v (.agg (kH vs n ks).1),(kH vs n ks).2)
def sN(vs:List P)(n:Nat):OS->O×Nat
 |.box ks=>(.box (kH vs n ks).1,(kH vs n ks).2)
 |.arr fz a i sz=>(.arr fz a i sz (vs.getD n default).list,n+1)
 |.it=>(.it (vs.getD n default) (vs.getD (n+1) default),n+2)
 |.aF a i sz ah=>(.aF a i sz ah (vs.getD n default).list Option.none,n+1)
def dh(vs:List P):Nat->List (Nat×SS)->List (Nat×S)×Nat
 |n,[]=>([],n)
 |n,(t,k)::rest=>((t,(mkS vs n k).1)::(dh vs (mkS vs n k).2 rest).1,(dh vs (mkS vs n k).2 rest).2)
def fP(vs:List P):Nat->List (Nat×OS)->List (Nat×O)×Nat
 |n,[]=>([],n)
 |n,(g,k)::rest=>((g,(sN vs n k).1)::(fP vs (sN vs n k).2 rest).1,(fP vs (sN vs n k).2 rest).2)
def mk(j:Shape)(vs:List P):St:=
 { s:=λt=>match (dh vs 0 j.slots).1.lookup t with|some x=>x|none=>.no,o:=λg=>match (fP vs (dh vs 0 j.slots).2 j.aW).1.lookup g with|some x=>x|none=>.none,used:=λg=>j.nms.contains g }
def Ih(j:Shape)(m:Ren)(g':Nat):Option Nat:=if j.nms.contains g' then(m.lookup g').join else none
def At(vs:List P)(n:Nat)(us:List P):Prop :=∀k y,us[k]?=some y->vs[n+k]?=some y
theorem At.left{vs us1 us2:List P}{n:Nat}(h:At vs n (us1++us2)):At vs n us1:=λk y hk=>h k y (by rw[Wt (Q4.1 hk).1];exact hk)
theorem At.right{vs us1 us2:List P}{n:Nat}(h:At vs n (us1++us2)):At vs (n+us1.length) us2:=λk y hk=>by have:=h (us1.length+k) y (by rw[Wg (by omega),qD];exact hk);rw[<-this];congr 1;omega
theorem At.head{vs:List P}{n:Nat}{x:P}(h:At vs n [x]):vs.getD n default=x:=by have:=h 0 x rfl;rw[Q2];rw[Uq]at this;rw[this];rfl
theorem sO{a b:Bool}(h:imp a b=true):a=true->b=true:=by cases a<;>cases b<;>simp_all [imp]
section
variable {vs:List P} {m:Ren} {F:Nat->Option Nat} {nil:Nat->Prop}
theorem uX:∀(gs:List Nat),(fO gs).flatMap W.names=gs
 | []=>rfl
 |g::gs=>by simp[fO,W.names,uX gs]
theorem sQ(f:FuncId)(caps:List W):(W.clo f caps).names=caps.flatMap W.names:=by
 have :∀(l:List W) (q :∀x∈l,x∈caps),(l.attach.flatMap λ(x:{x // x∈l})=>x.1.names)=l.flatMap W.names:=λl _=>by rw[List.flatMap_def,List.flatMap_def,List.map_attach_eq_pmap,List.pmap_eq_map]
 rw[W.names];exact this caps λx hx=>hx
theorem La:∀{gs:List Nat} {caps:List W},(∀g∈gs,F g=(m.lookup g).join)->rU m gs caps=true->caps.length=(fO gs).length/\∀(j:Nat) x y,caps[j]?=some x->(fO gs)[j]?=some y->Ww Z4 F nil x y
 | [],[],_,_=>⟨rfl,λj x y hx=>by simp at hx⟩
 | [],_::_,_,h=>by simp[rU]at h
 |_::_,[],_,h=>by simp[rU]at h
 |g'::gs,c::cs,hF,h=>by
  cases c with
  |box g off=>
   simp only[rU,X1,XX]at h;obtain⟨h1,h2,h3⟩:=h;have h2:=Qf h2;subst h2;obtain⟨e1,e2⟩:=La (λg hg=>hF g (by simp[hg])) h3;refine⟨by simp[fO,e1],λj x y hx hy=>?_⟩;cases j with
   |zero=>simp[fO]at hx hy;subst hx hy;exact .box (by rw[hF g' (by simp),h1];rfl)
   |succ j=>simp[fO]at hx hy;exact e2 j x y hx hy
  |_=>simp[rU]at h
theorem aaz{k:WS}{x:W}{us:List P}{n:Nat}(hF :∀g∈k.names,F g=(m.lookup g).join)(hnil :∀g∈k.names,m.lookup g=some none->nil g)(h:Kr m k x=some us)(ha:At vs n us):
  Ww Z4 F nil x (pG vs n k).1/\(pG vs n k).2=n+us.length/\(pG vs n k).1.names=k.names:=by
 cases k with
 |p a i=>
  cases x with
  |p a' i' y=>
   simp only[Kr]at h;split at h
   rotate_left
   cases h;rename_i hc;cases h;simp only[K3,X1]at hc;refine⟨?_,rfl,by simp[pG,W.names,WS.names]⟩;simp only[pG,ha.head];rcases hc with hc|hc
   .exact .p y ⟨sO hc.1,sO hc.2⟩
   .exact .flat y hc
  |b_=>simp only[Kr,Q0]at h;subst h;refine⟨?_,rfl,by simp[pG,W.names,WS.names]⟩;simp only[pG,ha.head];exact .ahS _ _ _
  |_=>simp[Kr]at h
 |b_=>cases x<;>simp[Kr]at h;subst h;exact⟨.b_,rfl,by simp[pG,W.names,WS.names]⟩
 |own g'=>
  cases x with
  |own g=>
   simp only[Kr]at h;split at h
   .rename_i hc;cases h;exact⟨.own (by rw[hF g' (by simp[WS.names]),hc];rfl),rfl,by simp[pG,W.names,WS.names]⟩
   .cases h
  |b_=>
   simp only[Kr]at h;split at h
   .rename_i hc;cases h;exact⟨.akC (by rw[hF g' (by simp[WS.names]),hc];rfl) (hnil g' (by simp[WS.names]) hc),rfl,by simp[pG,W.names,WS.names]⟩
   .cases h
  |_=>simp[Kr]at h
 |box g' off=>
  cases x with
  |box g off'=>
   simp only[Kr]at h;split at h
   .rename_i hc;cases h;obtain⟨hc,rfl⟩:=hc;exact⟨.box (by rw[hF g' (by simp[WS.names]),hc];rfl),rfl,by simp[pG,W.names,WS.names]⟩
   .cases h
  |_=>simp[Kr]at h
 |fn f gs=>
  cases x with
  |clo f' caps=>
   simp only[Kr]at h;split at h
   .rename_i hc;cases h;obtain⟨rfl,hc⟩:=hc;obtain⟨e1,e2⟩:=La (nil:=nil) hF hc;exact⟨.clo f caps (fO gs) e1 e2,rfl,by simp only[pG,sQ,uX,WS.names]⟩
   .cases h
  |_=>simp[Kr]at h
 |mO g'=>
  cases x with
  |mO g=>
   simp only[Kr]at h;split at h
   .rename_i hc;cases h;exact⟨.mO (by rw[hF g' (by simp[WS.names]),hc];rfl),rfl,by simp[pG,W.names,WS.names]⟩
   .cases h
  |_=>simp[Kr]at h
 |no=>simp[Kr]at h;subst h;exact⟨.no _,rfl,by simp[pG,W.names,WS.names]⟩
 |vw g'=>
  cases x with
  |vw g lo hi=>
   simp only[Kr]at h;split at h
   rotate_left
   cases h;rename_i hc;cases h;have h0:vs.getD n default=lo:=At.head (At.left (us1:=[lo]) (us2:=[hi]) ha);have h1:vs.getD (n+1) default=hi:=At.head (At.right (us1:=[lo]) (us2:=[hi]) ha);refine⟨?_,rfl,by simp[pG,W.names,WS.names]⟩;simp only[pG,h0,h1];exact .vw lo hi (by rw[hF g' (by simp[WS.names]),hc];rfl)
  |_=>simp[Kr]at h
 |ep g' off=>
  cases x with
  |ep g q off'=>
   simp only[Kr]at h;split at h
   .rename_i hc;cases h;obtain⟨hc,rfl⟩:=hc;refine⟨?_,rfl,by simp[pG,W.names,WS.names]⟩;simp only[pG,ha.head];exact .ep q off (by rw[hF g' (by simp[WS.names]),hc];rfl)
   .cases h
  |_=>simp[Kr]at h
theorem NR:∀{ks:List WS} {xs:List W} {us:List P} {n:Nat},(∀k∈ks,∀g∈k.names,F g=(m.lookup g).join)->(∀k∈ks,∀g∈k.names,m.lookup g=some none->nil g)->KE m ks xs=some us->At vs n us->
  xs.length=(kH vs n ks).1.length/\(∀(j:Nat) x y,xs[j]?=some x->(kH vs n ks).1[j]?=some y->Ww Z4 F nil x y)/\(kH vs n ks).2=n+us.length/\(kH vs n ks).1.flatMap W.names=ks.flatMap WS.names
 | [],xs,us,n,hF,hn,h,ha=>by
  cases xs with
  |nil=>simp[KE]at h;subst h;exact⟨rfl,λj x y hx=>by simp at hx,rfl,rfl⟩
  |cons x xs=>simp[KE]at h
 |k::ks,xs,us,n,hF,hn,h,ha=>by
  cases xs with
  |nil=>simp[KE]at h
  |cons x xs=>
   simp only[KE]at h;split at h
   rotate_left
   cases h;rename_i u v hu hv;cases h;obtain⟨a1,a2,a3⟩:=aaz (hF k (by simp)) (hn k (by simp)) hu ha.left;have ih:=NR (n:=n+u.length) (λk hk=>hF k (by simp[hk])) (λk hk=>hn k (by simp[hk])) hv ha.right;simp only[kH,a2];refine⟨by simp[ih.1],λj x' y' hx hy=>?_,by rw[ih.2.2.1];simp;omega,by simp[a3,ih.2.2.2]⟩;cases j with
   |zero=>simp at hx hy;subst hx hy;exact a1
   |succ j=>simp at hx hy;exact ih.2.1 j x' y' hx hy
theorem ahT{k:SS}{x:S}{us:List P}{n:Nat}(hF :∀g∈k.names,F g=(m.lookup g).join)(hnil :∀g∈k.names,m.lookup g=some none->nil g)(h:coS m k x=some us)(ha:At vs n us):
  Sw Z4 F nil x (mkS vs n k).1/\(mkS vs n k).2=n+us.length/\(mkS vs n k).1.names=k.names:=by
 cases k with
 |one k=>
  cases x with
  |v x=>
   cases x with
   |one x=>obtain⟨a1,a2,a3⟩:=aaz hF hnil h ha;exact⟨.v (.one a1),a2,by simpa[mkS,S.names,V.names,SS.names]using a3⟩
   |agg xs=>simp[coS]at h
  |_=>simp[coS]at h
 |agg ks=>
  cases x with
  |v x=>
   cases x with
   |one x=>simp[coS]at h
   |agg xs=>obtain⟨a0,a1,a2,a3⟩:=NR (λk hk g hg=>hF g (by simp only[SS.names,YY];exact⟨k,hk,hg⟩)) (λk hk g hg=>hnil g (by simp only[SS.names,YY];exact⟨k,hk,hg⟩)) h ha;exact⟨.v (.agg _ _ a0 a1),a2,by simpa[mkS,S.names,V.names,SS.names]using a3⟩
  |_=>simp[coS]at h
theorem Ii{s:Nat->S}:∀{L:List (Nat×SS)} {us:List P} {n:Nat},(∀p∈L,∀g∈p.2.names,F g=(m.lookup g).join)->(∀p∈L,∀g∈p.2.names,m.lookup g=some none->nil g)->qN m s L=some us->At vs n us->
  (∀t x,(dh vs n L).1.lookup t=some x->Sw Z4 F nil (s t) x/\∀g∈x.names,∃p∈L,g∈p.2.names)/\(dh vs n L).2=n+us.length
 | [],us,n,hF,hn,h,ha=>by simp[qN]at h;subst h;exact⟨λt x hx=>by simp[dh]at hx,rfl⟩
 |(t0,k)::L,us,n,hF,hn,h,ha=>by
  simp only[qN]at h;split at h
  rotate_left
  cases h;rename_i u v hu hv;cases h;obtain⟨a1,a2,a3⟩:=ahT (hF (t0,k) (by simp)) (hn (t0,k) (by simp)) hu ha.left;have ih:=Ii (n:=n+u.length) (λp hp=>hF p (by simp[hp])) (λp hp=>hn p (by simp[hp])) hv ha.right;simp only[dh,a2];refine⟨λt x hx=>?_,by rw[ih.2];simp;omega⟩;simp only[List.lookup]at hx;split at hx
  .rename_i he;have he:t=t0:=by simpa using he
   subst he;cases hx;exact⟨a1,λg hg=>⟨(t,k),by simp,by rw[a3]at hg;exact hg⟩⟩
  .obtain ⟨b1,b2⟩:=ih.1 t x hx;exact⟨b1,λg hg=>let ⟨p,hp,hg⟩:=b2 g hg;⟨p,by simp[hp],hg⟩⟩
theorem ahU{k:OS}{x:O}{us:List P}{n:Nat}(hF :∀g∈k.names,F g=(m.lookup g).join)(hnil :∀g∈k.names,m.lookup g=some none->nil g)(h:Z5 m k x=some us)(ha:At vs n us):
  Ow Z4 F nil x (sN vs n k).1/\(sN vs n k).2=n+us.length/\(sN vs n k).1.names=k.names:=by
 cases k with
 |box ks=>
  cases x with
  |box xs=>obtain⟨a0,a1,a2,a3⟩:=NR (λk hk g hg=>hF g (by simp only[OS.names,YY];exact⟨k,hk,hg⟩)) (λk hk g hg=>hnil g (by simp only[OS.names,YY];exact⟨k,hk,hg⟩)) h ha;exact⟨.box _ _ a0 a1,a2,by simpa[sN,O.names,OS.names]using a3⟩
  |_=>simp[Z5]at h
 |arr fz a i sz=>
  cases x with
  |arr fz' a' i' sz' l=>
   simp only[Z5]at h;split at h
   rotate_left
   cases h;rename_i hc;cases h;obtain⟨rfl,rfl,hc⟩:=hc;simp only[X1]at hc;refine⟨?_,rfl,rfl⟩;simp only[sN,ha.head,P.nI];exact .arr fz sz l ⟨sO hc.1,sO hc.2⟩
  |_=>simp[Z5]at h
 |it=>
  cases x with
  |it s p=>simp only[Z5,Q0]at h;subst h;refine⟨?_,rfl,rfl⟩;have h0:vs.getD n default=s:=At.head (At.left (us1:=[s]) (us2:=[p]) ha);have h1:vs.getD (n+1) default=p:=At.head (At.right (us1:=[s]) (us2:=[p]) ha);simp only[sN,h0,h1];exact .it s p
  |_=>simp[Z5]at h
 |aF a i sz ah=>
  cases x with
  |aF a' i' sz' gJ l hole=>
   cases hole with
   |some q=>simp[Z5]at h
   |none=>
    simp only[Z5]at h;split at h
    rotate_left
    cases h;rename_i hc;cases h;obtain⟨rfl,rfl,hc⟩:=hc;simp only[X1]at hc;refine⟨?_,rfl,rfl⟩;simp only[sN,ha.head,P.nI];exact .aF sz ah l ⟨sO hc.1,sO hc.2⟩
  |_=>simp[Z5]at h
end
theorem iW:∀{l:List Nat},nodupB l=true->l.Nodup
 | [],_=>List.nodup_nil
 |x::l,h=>by simp only[nodupB,X1,WD,WP,decide_eq_false_iff_not]at h;exact UI.2 ⟨h.1,iW h.2⟩
theorem Lc{vs:List P}{m:Ren}{F:Nat->Option Nat}{nil:Nat->Prop}{o:Nat->O}:∀{L:List (Nat×OS)} {us:List P} {n:Nat},(∀p∈L,∀g∈p.2.names,F g=(m.lookup g).join)->(∀p∈L,∀g∈p.2.names,m.lookup g=some none->nil g)->
  (L.map (·.1)).Nodup->uV m o L=some us->At vs n us->
  (∀g' x,(fP vs n L).1.lookup g'=some x->(g'∈L.map (·.1))/\(∀g∈x.names,∃p∈L,g∈p.2.names)/\((∃g,m.lookup g'=some (some g)/\Ow Z4 F nil (o g) x)\/(m.lookup g'=some none/\x.nilA)))/\
  (∀g'∈L.map (·.1),∃x,(fP vs n L).1.lookup g'=some x)
 | [],us,n,hF,hn,hd,h,ha=>⟨λg x hx=>by simp[fP]at hx,λg hg=>by simp at hg⟩
 |(g0,k)::L,us,n,hF,hn,hd,h,ha=>by
  simp only[uV]at h;split at h
  rotate_left
  cases h;rename_i u v hu hv;cases h;simp only[X2,UI]at hd;have key:(sN vs n k).2=n+u.length/\(sN vs n k).1.names=k.names/\((∃g,m.lookup g0=some (some g)/\Ow Z4 F nil (o g) (sN vs n k).1)\/(m.lookup g0=some none/\(sN vs n k).1.nilA)):=by
   split at hu
   .rename_i g hg;obtain⟨a1,a2,a3⟩:=ahU (hF (g0,k) (by simp)) (hn (g0,k) (by simp)) hu ha.left;exact⟨a2,a3,.inl ⟨g,hg,a1⟩⟩
   .rename_i hg;split at hu
    .rename_i a i sz;cases hu;refine⟨rfl,rfl,.inr ⟨hg,.inl ⟨a,i,sz,?_⟩⟩⟩;simp only[sN,ha.left.head];rfl
    .rename_i a i sz ah;cases hu;refine⟨rfl,rfl,.inr ⟨hg,.inr ⟨a,i,sz,ah,?_⟩⟩⟩;simp only[sN,ha.left.head];rfl
    .cases hu
   .cases hu
  obtain⟨a2,a3,a1⟩:=key;have ih:=Lc (n:=n+u.length) (λp hp=>hF p (by simp[hp])) (λp hp=>hn p (by simp[hp])) hd.2 hv ha.right;simp only[fP,a2];refine⟨λg' x hx=>?_,λg' hg'=>?_⟩
  .simp only[List.lookup]at hx;split at hx
   .rename_i he;have he:g'=g0:=by simpa using he
    subst he;cases hx;exact⟨by simp,λg hg=>⟨(g',k),by simp,by rw[a3]at hg;exact hg⟩,a1⟩
   .obtain ⟨b0,b1,b2⟩:=ih.1 g' x hx;exact⟨by simp[b0],λg hg=>let ⟨p,hp,hg⟩:=b1 g hg;⟨p,by simp[hp],hg⟩,b2⟩
  .simp only[List.lookup];by_cases he:g'=g0
   .subst he;simp
   .have:(g'==g0)=false:=by simpa using he
    rw[this];exact ih.2 g' (by simpa[he]using hg')
theorem y8{f:Nat->Option Nat}{g1 g2 g:Nat}:∀{L:List Nat},L.Nodup->(L.filterMap f).Nodup->g1∈L->g2∈L->f g1=some g->f g2=some g->g1=g2
 | [],_,_,n1,_,_,_=>by cases n1
 |y::L,hnd,h_,n1,n2,m1,m2=>by
  simp only[UI]at hnd;simp only[List.filterMap_cons]at h_;have hsub :∀{z},z∈L->f z=some g->g∈L.filterMap f:=λhz he=>KS.2 ⟨_,hz,he⟩;rcases Xs.1 n1 with e1|e1<;>rcases Xs.1 n2 with e2|e2
  .rw [e1,e2]
  .subst e1;rw[m1]at h_;simp only[UI]at h_;exact absurd (hsub e2 m2) h_.1
  .subst e2;rw[m2]at h_;simp only[UI]at h_;exact absurd (hsub e1 m1) h_.1
  .refine y8 hnd.2 ?_ e1 e2 m1 m2;split at h_
   .exact h_
   .exact (UI.1 h_).2
theorem y9{j:Shape}{m:Ren}{st:St}{vs:List P}(h:coerce j m st=some vs):rQ Z4 (Ih j m) st (mk j vs):=by
 unfold coerce at h;split at h
 rotate_left
 cases h;rename_i hok;split at h
 rotate_left
 cases h;rename_i u v hu hv;cases h;simp only[X1,Shape.ok,Z1,WP,XX]at hok;obtain⟨⟨⟨hnd,hsl⟩,hob⟩,h_⟩:=hok;have hnd':=iW hnd;have hAt:At (u++v) 0 (u++v):=λk y hk=>by rw[V1];exact hk
 have hF :∀g∈j.nms,Ih j m g=(m.lookup g).join:=λg hg=>by simp[Ih,hg]
 have C9:=λnil (hnil :∀p∈j.aW,∀g∈p.2.names,m.lookup g=some none->nil g)=>Lc (vs:=u++v) (F:=Ih j m) (nil:=nil) (n:=u.length) (λp hp g hg=>hF g (hob p hp g hg)) hnil hnd' hv (by have:=hAt.right;rwa [V1]at this)
 have qj:=λnil (hnil :∀p∈j.slots,∀g∈p.2.names,m.lookup g=some none->nil g)=>Ii (vs:=u++v) (F:=Ih j m) (nil:=nil) (n:=0) (λp hp g hg=>hF g (hsl p hp g hg)) hnil hu hAt.left;have hlen:(dh (u++v) 0 j.slots).2=u.length:=by have:=(qj (λ_=>True) (λ_ _ _ _ _=>trivial)).2;omega
 have hnil :∀g∈j.nms,m.lookup g=some none->((mk j (u++v)).o g).nilA:=by
  intro g hg hm;have hO:=C9 (λ_=>True) (λ_ _ _ _ _=>trivial);obtain⟨x,hx⟩:=hO.2 g hg;rcases (hO.1 g x hx).2.2 with⟨g2,h2,_⟩|⟨_,e⟩
  .rw [hm]at h2;cases h2
  .show O.nilA (match (fP (u++v) (dh (u++v) 0 j.slots).2 j.aW).1.lookup g with|some x=>x|none=>.none);rw[hlen,hx];exact e
 have hO:=C9 (λg=>((mk j (u++v)).o g).nilA) (λp hp g hg hm=>hnil g (hob p hp g hg) hm);have hS:=qj (λg=>((mk j (u++v)).o g).nilA) (λp hp g hg hm=>hnil g (hsl p hp g hg) hm);have zD :∀g x,(mk j (u++v)).o g=x->x≠.none->(fP (u++v) u.length j.aW).1.lookup g=some x:=by
  intro g x hx hne;have hx:(match (fP (u++v) (dh (u++v) 0 j.slots).2 j.aW).1.lookup g with|some x=>x|none=>.none)=x:=hx;rw[hlen]at hx;cases hz:(fP (u++v) u.length j.aW).1.lookup g with
  |none=>rw[hz]at hx;exact absurd hx.symm hne
  |some y=>rw[hz]at hx;rw[<-hx]
 refine⟨λt=>?_,λg' g hm=>?_,λg' hm=>?_,λg1 g2 g h1 h2 m1 m2=>?_,λt g hg=>?_,λg0 g hg=>?_,λg hg=>?_⟩
 .show Sw _ _ _ (st.s t) (match (dh (u++v) 0 j.slots).1.lookup t with|some x=>x|none=>.no);cases hx:(dh (u++v) 0 j.slots).1.lookup t with
  |none=>exact .no _
  |some x=>exact(hS.1 t x hx).1
 .by_cases hne:(mk j (u++v)).o g'=.none
  .rw [hne];exact .none _
  .have hx:=zD g' _ rfl hne;obtain⟨b0,b1,b2⟩:=hO.1 g' _ hx;rw[hF g' b0]at hm;rcases b2 with⟨g3,h3,h4⟩|⟨h3,_⟩
   .rw [h3]at hm;cases hm;exact h4
   .rw [h3]at hm;cases hm
 .by_cases hne:(mk j (u++v)).o g'=.none;exact .inl hne;have hx:=zD g' _ rfl hne;obtain⟨b0,b1,b2⟩:=hO.1 g' _ hx;rw[hF g' b0]at hm;rcases b2 with⟨g3,h3,h4⟩|⟨h3,e⟩
  .rw [h3]at hm;cases hm
  .exact .inr e
 .have n1:g1∈j.nms:=by have:=hO.1 g1 _ (zD g1 _ rfl (by intro e;rw[e]at h1;cases h1));exact this.1
  have n2:g2∈j.nms:=by have:=hO.1 g2 _ (zD g2 _ rfl (by intro e;rw[e]at h2;cases h2));exact this.1
  rw[hF g1 n1]at m1;rw[hF g2 n2]at m2;exact y8 hnd' (iW h_) n1 n2 m1 m2
 .have hg:g∈(match (dh (u++v) 0 j.slots).1.lookup t with|some x=>x|none=>S.no).names:=hg;cases hx:(dh (u++v) 0 j.slots).1.lookup t with
  |none=>rw[hx]at hg;simp[S.names]at hg
  |some x=>rw[hx]at hg;obtain⟨p,hp,hg⟩:=(hS.1 t x hx).2 g hg;simpa[mk]using hsl p hp g hg
 .by_cases hne:(mk j (u++v)).o g0=.none
  .rw [hne]at hg;simp[O.names]at hg
  .obtain ⟨b0,b1,b2⟩:=hO.1 g0 _ (zD g0 _ rfl hne);obtain⟨p,hp,hg⟩:=b1 g hg;simpa[mk]using hob p hp g hg
 .have:=(hO.1 g _ (zD g _ rfl hg)).1;simpa[mk,Shape.nms]using this
end Go.Fw

namespace Go.Fw
variable [dV]
structure zf where
 bD:Nat
 pin:Shape
 aO:Shape
 cO:Nat
 bC:List Nat
 aQ:List Nat
structure Spec where
 sig:zf
 R:List P->List P->Prop
abbrev Tab:=FuncId->Option Spec
def wL(x y:Bool×Bool):Bool×Bool:=(x.1||y.1,x.2||y.2)
def NS(xs ys:List Nat):Bool:=xs.all λx=>!ys.contains x
def WS.flags(a i:Bool):WS->Bool
 |.p a' i'=>(a==a')&&(i==i')
 |.own _=>true
 |.box _ off=>off==0
 |.b_=>false
 |.fn _ _=>true
 |.mO _=>false
 |.no=>false
 |.vw _=>false
 |.ep _ _=>false
def SS.flags(a i:Bool):SS->Bool
 |.one x=>x.flags a i
 |.agg xs=>xs.all (WS.flags a i)
def WS.cZ(aQ:List Nat):WS->Bool
 |.p _ _=>true
 |.own g=>aQ.contains g
 |.box g _=>aQ.contains g
 |.b_=>true
 |.fn _ gs=>gs.all λg=>aQ.contains g
 |_=>false
def SS.cZ(aQ:List Nat):SS->Bool
 |.one x=>x.cZ aQ
 |.agg xs=>xs.all (WS.cZ aQ)
def WS.isA:WS->Bool
 |.p a _=>a
 |_=>false
def SS.isA:SS->Bool
 |.one x=>x.isA
 |.agg xs=>xs.any WS.isA
def OS.isA:OS->Bool
 |.box ws=>ws.any WS.isA
 |.arr _ a _ _=>a
 |.it=>false
 |.aF a _ _ _=>a
def zf.lJ(s:zf):Bool:=s.aO.slots.any (·.2.isA)||s.aO.aW.any (·.2.isA)
def OS.kin:Option OS->Option OS->Bool
 |some (.box _),some (.box _)=>true
 |some (.arr _ _ _ sz),some (.arr _ _ _ sz')=>Nat.beq sz sz'
 |some (.aF _ _ sz _),some (.aF _ _ sz' _)=>Nat.beq sz sz'
 |_,_=>false
def OS.aaA:Option OS->Bool
 |some (.box _)=>true
 |_=>false
def zf.ok(s:zf):Bool:=
 s.pin.ok&&s.aO.ok&&s.pin.slots.all (λp=>p.2.flags true false&&decide (p.1<s.bD)) &&
 s.pin.aW.all (λp=>match p.2 with
  |.box ws=>ws.all (λk=>k.flags false true)&&s.bC.contains p.1
  |.arr fz a i _=>!fz&&!a&&i
  |.aF a i _ _=>!a&&i
  |.it=>false) &&
 s.aO.slots.all (λp=>p.2.cZ (s.aQ++s.bC)) &&
 s.aO.aW.all (λp=>match p.2 with
  |.box ws=>ws.all (WS.cZ (s.aQ++s.bC))&&((s.bC.contains p.1&&s.pin.nms.contains p.1)||s.aQ.contains p.1)
  |.arr fz _ _ _=>!fz&&(s.aQ.contains p.1||s.bC.contains p.1)
  |.aF _ _ _ _=>s.aQ.contains p.1||s.bC.contains p.1
  |.it=>false) &&
 NS s.bC s.aQ&&nodupB s.aQ&&s.bC.all (λg=>OS.kin (s.pin.aW.lookup g) (s.aO.aW.lookup g))
def zf.ahV(s:zf):Bool:=s.bC.all λg=>OS.aaA (s.pin.aW.lookup g)&&OS.aaA (s.aO.aW.lookup g)
structure Ld where
 ins:List P
 A:Bool×Bool
 I:Bool×Bool
 uD:List Nat
 ren:List (Nat×Nat)
def mX:List Nat->List W->Option (List (Nat×Nat))
 | [],[]=>some []
 |g'::gs,.box g 0::cs=>match mX gs cs with
  |some r=>some ((g',g)::r)
  |none=>none
 |_,_=>none
def fC(o:Nat->O):WS->W->Option (List P×(Bool×Bool)×List Nat×List (Nat×Nat))
 |.p _ _,x=>match x.toP o with
  |some (y,a,i,gs)=>some ([y],(a,i),gs,[])
  |none=>none
 |.own g',.own g=>some ([],(false,false),[],[(g',g)])
 |.box g' 0,.box g 0=>some ([],(false,false),[],[(g',g)])
 |.fn f gs,.clo f' caps=>if f=f' then match mX gs caps with
  |some r=>some ([],(false,false),[],r)
  |none=>none
  else none
 |_,_=>none
def jo(o:Nat->O):List WS->List W->Option (List P×(Bool×Bool)×List Nat×List (Nat×Nat))
 | [],[]=>some ([],(false,false),[],[])
 |k::ks,x::xs=>match fC o k x,jo o ks xs with
  |some (u,c,g,r),some (u',c',g',r')=>some (u++u',wL c c',g++g',r++r')
  |_,_=>none
 |_,_=>none
def nM(o:Nat->O):SS->S->Option (List P×(Bool×Bool)×List Nat×List (Nat×Nat))
 |.one k,.v (.one x)=>fC o k x
 |.agg ks,.v (.agg xs)=>jo o ks xs
 |_,_=>none
def dW(o:Nat->O)(args:List S):List (Nat×SS)->Option (List P×(Bool×Bool)×List Nat×List (Nat×Nat))
 | []=>some ([],(false,false),[],[])
 |(t,k)::rest=>match nM o k (args.getD t .no),dW o args rest with
  |some (u,c,g,r),some (u',c',g',r')=>some (u++u',wL c c',g++g',r++r')
  |_,_=>none
def TM:WS->W->Option (List P×(Bool×Bool)×List (Nat×Nat))
 |.p _ _,.p a i x=>some ([x],(a,i),[])
 |.p _ _,.b_=>some ([.sl 0 []],(false,false),[])
 |.own g',.own g=>some ([],(false,false),[(g',g)])
 |.box g' 0,.box g 0=>some ([],(false,false),[(g',g)])
 |.fn f gs,.clo f' caps=>if f=f' then match mX gs caps with
  |some r=>some ([],(false,false),r)
  |none=>none
  else none
 |_,_=>none
def NT:List WS->List W->Option (List P×(Bool×Bool)×List (Nat×Nat))
 | [],[]=>some ([],(false,false),[])
 |k::ks,x::xs=>match TM k x,NT ks xs with
  |some (u,c,r),some (u',c',r')=>some (u++u',wL c c',r++r')
  |_,_=>none
 |_,_=>none
def ji(o:Nat->O):List (Nat×Nat)->List (Nat×OS)->Option (List P×(Bool×Bool)×List (Nat×Nat))
 |ren,[]=>some ([],(false,false),ren)
 |ren,(g',k)::rest=>match ren.lookup g' with
  |some g=>match k,o g with
   |.box ks,.box ws=>match NT ks ws with
    |some (u,c,r)=>match ji o (ren++r) rest with
     |some (u',c',r')=>some (u++u',wL c c',r')
     |none=>none
    |none=>none
   |.arr _ _ _ sz,.arr false a i sz' l=>if sz=sz' then match ji o ren rest with
    |some (u',c',r')=>some (P.fG sz l::u',wL (a,i) c',r')
    |none=>none
    else none
   |.aF _ _ sz ah,.aF a i sz' gJ l Option.none=>if sz=sz'/\ah=gJ then match ji o ren rest with
    |some (u',c',r')=>some (P.fG sz l::u',wL (a,i) c',r')
    |none=>none
    else none
   |_,_=>none
  |none=>none
def jE:List (Nat×Nat)->List (Nat×Nat)
 | []=>[]
 |p::r=>match r.any λq=>Nat.beq q.1 p.1&&Nat.beq q.2 p.2 with
  |true=>jE r
  |false=>p::jE r
def iq(s:zf)(o:Nat->O)(args:List S):Option Ld:=
 match dW o args s.pin.slots with
 |some (u,A,gs,r)=>match ji o r s.pin.aW with
  |some (u',I,r')=>some { ins:=u++u',A,I,uD:=gs,ren:=jE r' }
  |none=>none
 |none=>none
def Ld.fine(c:Ld)(s:zf):Bool:=nodupB (c.ren.map (·.2))&&nodupB (c.ren.map (·.1))&&NS (c.ren.map (·.2)) c.uD&&(c.ren.map (·.1)).all (λg=>s.pin.nms.contains g)
def ql(A I:Bool×Bool)(a i:Bool):Bool×Bool:=((a&&A.1)||(i&&I.1),(a&&A.2)||(i&&I.2))
def jW(f:Nat->Nat):List W->List W
 | []=>[]
 |.box g off::r=>.box (f g) off::jW f r
 |_::r=>.no::jW f r
def TN(A I:Bool×Bool)(f:Nat->Nat):W->W
 |.p a i x=>.p (ql A I a i).1 (ql A I a i).2 x
 |.b_=>.b_
 |.own g=>.own (f g)
 |.box g off=>.box (f g) off
 |.clo fn caps=>.clo fn (jW f caps)
 |_=>.no
def reV(A I:Bool×Bool)(f:Nat->Nat):V->V
 |.one x=>.one (TN A I f x)
 |.agg xs=>.agg (xs.map (TN A I f))
def VZ(A I:Bool×Bool)(f:Nat->Nat):S->V
 |.v x=>reV A I f x
 |_=>.one .no
def wM(A I:Bool×Bool)(f:Nat->Nat):O->O
 |.none=>.none
 |.box ws=>.box (ws.map (TN A I f))
 |.arr fz a i sz l=>.arr fz (ql A I a i).1 (ql A I a i).2 sz l
 |.it s n=>.it s n
 |.aF a i sz ah l _=>.aF (ql A I a i).1 (ql A I a i).2 sz ah l Option.none
def newName(d:Nat)(aQ:List Nat)(g:Nat):Nat:=d+1000*aQ.idxOf g
def callName(d:Nat)(s:zf)(ren:List (Nat×Nat))(g:Nat):Nat:=match s.bC.contains g with
 |true=>match ren.lookup g with
  |some g'=>g'
  |none=>g
 |false=>newName d s.aQ g
structure Eff where
 x:S
 aB:List (Nat×O)
 new:List Nat
def Yv(vs:List V):S:=match vs with
 | [x]=>.v x
 |xs=>.lq xs
def jX(s:zf)(d:Nat)(o:Nat->O)(c:Ld)(cZ:List P):Eff:=
 let x:=mk s.aO cZ
 let f:=callName d s c.ren
 { x:=Yv ((List.range s.cO).map λk=>VZ c.A c.I f (x.s k)),aB:=(if s.lJ then c.uD.map (aN o)else[])++c.ren.map (λp=>(p.2,if s.bC.contains p.1 then wM c.A c.I f (x.o p.1)else .none))++s.aQ.map (λg=>(f g,wM c.A c.I f (x.o g))),new:=s.aQ.map f }
def Bc(same:List Nat)(e:Eff):Eff:={ e with aB:=e.aB.filter λp=>!same.contains p.1 }
theorem rV{α:Type}{same:List Nat}{g:Nat}(hg:g∉same):∀(l:List (Nat×α)),(l.filter λp=>!same.contains p.1).lookup g=l.lookup g
 | []=>rfl
 |(k,x)::l=>by
  simp only[zb];cases hk:same.contains k with
  |true=>
   have:(g==k)=false:=by
    cases hb:g==k with
    |false=>rfl
    |true=>
     have:g=k:=by simpa using hb
     subst this;simp only[WP,XX]at hk;exact absurd hk hg
   simp only[Bool.not_true,Wa,if_false,List.lookup,this];exact rV hg l
  |false=>simp only[vR,if_true,List.lookup];rw[rV hg l]
theorem lW{α:Type}{same:List Nat}{g:Nat}(hg:g∈same):∀(l:List (Nat×α)),(l.filter λp=>!same.contains p.1).lookup g=none
 | []=>rfl
 |(k,x)::l=>by
  simp only[zb];cases hk:same.contains k with
  |true=>simp only[Bool.not_true,Wa,if_false];exact lW hg l
  |false=>
   have:(g==k)=false:=by
    cases hb:g==k with
    |false=>rfl
    |true=>
     have:g=k:=by simpa using hb
     subst this;simp only[WP,decide_eq_false_iff_not]at hk;exact absurd hg hk
   simp only[vR,if_true,List.lookup,this];exact lW hg l
theorem Yw{st:St}{same:List Nat}{e:Eff}(h :∀g∈same,e.aB.lookup g=some (st.o g)):st.aB (Bc same e).aB (Bc same e).new=st.aB e.aB e.new:=by
 unfold St.aB Bc;congr 1;funext g;by_cases hg:g∈same
 .simp only[lW hg,h g hg]
 .simp only[rV hg]
inductive KF(x:P)(K:P->Prop):Prop where
 |mk (h :∀z,z=x->K z)
theorem KF.iff{x:P}{K:P->Prop}:KF x K↔K x:=⟨λ⟨h⟩=>h x rfl,λh=>⟨λz e=>e▸h⟩⟩
def EI:Op->Bool
 |.pick ..|.binOp ..|.unOp ..|.convert ..|.index ..|.call ..|.makeSlice ..|.store ..|.buildSlice ..|.slice ..=>true
 |_=>false
def guardOf(ops:Array Oper)(st:St)(j:Nat)(want:Bool):Option Bool:=
 match (ops[j]?).bind (·.dst)with
 |some t=>match st.s t with
  |.v (.one (.p _ _ (.bool b)))=>some (bif want then b else !b)
  |.lq []=>some false
  |_=>none
 |none=>none
def Eff.skip:Eff:={ x:=.lq [],aB:=[],new:=[] }
def akE:S->Option Nat
 |.v (.one (.clo g _))=>some g
 |_=>none
def V3:List S->Option Nat
 | []=>none
 |x::l=>match akE x with
  |some g=>some g
  |none=>V3 l
def Qh(fn:Nat)(l:List S):Nat:=match V3 l with
 |some g=>fn+1000000*(g+1)
 |none=>fn
def pick(T:Tab)(fn:Nat)(l:List S):Option Spec:=match Nat.blt fn 1000000 with
 |true=>match T (Qh fn l)with
  |some sp=>some sp
  |none=>T fn
 |false=>none
theorem aeo{T:Tab}{fn:Nat}{l:List S}{sp:Spec}{p:Nat->Spec->Prop}(hT :∀f sp,T f=some sp->p (f % 1000000) sp)(h:pick T fn l=some sp):p fn sp:=by
 unfold pick at h;split at h
 rotate_left
 cases h;rename_i hb;have hlt:fn<1000000:=Wf hb;split at h
 .rename_i sp' h';cases h;have:=hT _ _ h';have e:Qh fn l % 1000000=fn:=by unfold Qh;split<;>omega
  rwa [e]at this
 .have:=hT _ _ h
  rwa [qv hlt]at this
def jP(T:Tab)(tt:TT)(d:Nat)(st:St)(o:Oper)(K:Eff->Prop):Prop:=
 match o.op with
 |.call { callee:=.value f,args,.. }=>match st.bW f with
  |.v (.one (.clo fn caps))=>match pick T fn (args.toList.map st.bW)with
   |some sp=>match iq sp.sig st.o ((args.toList.map st.bW)++caps.map λx=>S.v (.one x))with
    |some c=>(c.fine sp.sig&&decide (args.size+caps.length=sp.sig.bD))=true/\∃(cZ:List P) (same:List Nat),sp.R c.ins cZ/\(∀g∈same,g∈c.ren.map (·.2)/\(jX sp.sig d st.o c cZ).aB.lookup g=some (st.o g))/\K (Bc same (jX sp.sig d st.o c cZ))
    |none=>False
   |none=>False
  |_=>False
 |op=>(∃dc r,dF tt dc d st.o st.bW op o.type=some r/\r.pre/\KF r.val λz=>K { x:=r.dst z,aB:=r.aB z,new:=r.new })\/match kernel tt d st.o st.bW op o.type with
  |some r=>r.pre/\bif EI op then KF r.val λz=>K { x:=r.dst z,aB:=r.aB z,new:=r.new } else K { x:=r.dst r.val,aB:=r.aB r.val,new:=r.new }
  |none=>False
def xg:O->List Nat
 |.box ws=>ws.flatMap W.names
 |_=>[]
def oJ(o:Nat->O):Nat->List Nat->List Nat
 |0,gs=>gs
 |n+1,gs=>gs++oJ o n (gs.flatMap λg=>xg (o g))
def argNames(st:St)(o:Oper):List Nat:=match o.op with
 |.call { callee:=.value _,args,.. }=>args.toList.flatMap λx=>(st.bW x).names
 |.slice _ x _ _ _=>(st.bW x).names
 |_=>[]
def rW(st:St)(o:Oper):List Nat:=oJ st.o 2 (argNames st o)
def iO(st:St)(o:Oper):List Nat:=(rW st o).filter λg=>match (st.o g).hn with
 | []=>false
 |d::_=>!(argNames st o).contains d
def zh(hs:List Nat)(st:St):List (Nat×O):=hs.flatMap λg=>(g,(Fw.shuts hs st).o g)::(st.o g).hn.map λd=>(d,(Fw.shuts hs st).o d)
def Bg(hs:List Nat)(st:St)(e:Eff):Eff:=match hs with
 | []=>e
 |g::gs=>{ e with aB:=e.aB++zh (g::gs) st }
def iP(T:Tab)(tt:TT)(d:Nat)(st:St)(o:Oper)(K:Eff->Prop):Prop:=jP T tt d (Fw.shuts (iO st o) st) o λe=>K (Bg (iO st o) st e)
theorem qO{T:Tab}{tt:TT}{d:Nat}{st:St}{o:Oper}{K:Eff->Prop}(h:iO st o=[]):iP T tt d st o K↔jP T tt d st o K:=by unfold iP;rw[h];rfl
theorem Ul{st:St}{o:Oper}(h:argNames st o=[]):iO st o=[]:=by unfold iO rW;rw[h];rfl
def St.eff(st:St)(dst:Option Tmp)(e:Eff):St:=(st.aB e.aB e.new).put dst e.x
def stepW(T:Tab)(tt:TT)(N:Nat)(ops:Array Oper)(o:Oper)(st:St)(K:Eff->Prop):Prop:=
 (match o.dst with
  |some d=>decide (d<N)
  |none=>true)=true/\
 match o.guard with
 |none=>iP T tt (o.dst.getD 0) st o λe=>e.new.all (λg=>!st.used g)=true/\K e
 |some (j,want)=>match guardOf ops st j want with
  |some b=>bif b then iP T tt (o.dst.getD 0) st o λe=>e.new.all (λg=>!st.used g)=true/\K e else K Eff.skip
  |none=>False
end Go.Fw

namespace Go.Fw
variable [dV]
theorem lK{α:Type}:∀{l:List (Nat×α)},(l.map (·.1)).Nodup->∀{k:Nat} {v:α},(k,v)∈l->l.lookup k=some v
 | [],_,k,v,h=>by cases h
 |(k0,v0)::l,hn,k,v,h=>by
  simp only[X2,UI]at hn;simp only[List.lookup];rcases Xs.1 h with e|e
  .cases e;simp
  .have hne:(k==k0)=false:=by have:k∈l.map (·.1):=XN.2 ⟨(k,v),e,rfl⟩;have:k≠k0:=λe=>hn.1 (by rw[<-e];exact this);simpa using this
   rw[hne];exact lK hn.2 e
theorem jk{α:Type}:∀{l:List (Nat×α)} {k:Nat} {v:α},l.lookup k=some v->(k,v)∈l
 | [],k,v,h=>by simp at h
 |(k0,v0)::l,k,v,h=>by
  simp only[List.lookup]at h;split at h
  .rename_i he;have he:k=k0:=by simpa using he
   simp only[Q0]at h;subst he h;simp
  .exact WK _ (jk h)
def cin(c d:Bool×Bool):Prop:=(c.1=true->d.1=true)/\(c.2=true->d.2=true)
theorem Ij(c:Bool×Bool):cin c c:=⟨id,id⟩
theorem sS{c c' d:Bool×Bool}(h:cin (wL c c') d):cin c d:=⟨λe=>h.1 (by simp[wL,e]),λe=>h.2 (by simp[wL,e])⟩
theorem pI{c c' d:Bool×Bool}(h:cin (wL c c') d):cin c' d:=⟨λe=>h.1 (by simp[wL,e]),λe=>h.2 (by simp[wL,e])⟩
def Cio(I:Bool×Bool)(a i a' i':Bool):Prop:=a'=false/\i'=true/\cin (a,i) I
section
variable {o:Nat->O} {ins:List P} {m:Nat->Option Nat} {nil:Nat->Prop} {I:Bool×Bool}
theorem V4{a i:Bool}{a' i':Bool}(h:(WS.p a' i').flags a i=true):a'=a/\i'=i:=by simp only[WS.flags,X1,beq_iff_eq]at h;exact⟨h.1.symm,h.2.symm⟩
theorem zJ{C:Bool->Bool->Bool->Bool->Prop}:∀{gs:List Nat} {caps:List W} {r:List (Nat×Nat)},mX gs caps=some r->(∀p∈r,m p.1=some p.2)->caps.length=(fO gs).length/\∀(j:Nat) x y,caps[j]?=some x->(fO gs)[j]?=some y->Ww C m nil x y
 | [],[],r,_,_=>⟨rfl,λj x y hx=>by simp at hx⟩
 | [],_::_,r,h,_=>by simp[mX]at h
 |_::_,[],r,h,_=>by simp[mX]at h
 |g'::gs,c::cs,r,h,hm=>by
  cases c with
  |box g off=>
   cases off with
   |succ off=>simp[mX]at h
   |zero=>
    simp only[mX]at h;split at h
    rotate_left
    cases h;rename_i r' hr';cases h;obtain⟨e1,e2⟩:=zJ (C:=C) hr' (λp hp=>hm p (by simp[hp]));refine⟨by simp[fO,e1],λj x y hx hy=>?_⟩;cases j with
    |zero=>simp[fO]at hx hy;subst hx hy;exact .box (hm (g',g) (by simp))
    |succ j=>simp[fO]at hx hy;exact e2 j x y hx hy
  |_=>simp[mX]at h
theorem ahX{k:WS}{x:W}{us:List P}{c:Bool×Bool}{r:List (Nat×Nat)}{n:Nat}(h:TM k x=some (us,c,r))(hk:k.flags false true=true)(hc:cin c I)(hm :∀p∈r,m p.1=some p.2)(ha:At ins n us):
  Ww (Cio I) m nil x (pG ins n k).1/\(pG ins n k).2=n+us.length:=by
 cases k with
 |p a' i'=>
  obtain⟨rfl,rfl⟩:=V4 hk;cases x with
  |p a i y=>simp only[TM,Q0,QP]at h;obtain⟨rfl,rfl,rfl⟩:=h;exact⟨by simp only[pG,ha.head];exact .p y ⟨rfl,rfl,hc⟩,rfl⟩
  |b_=>simp only[TM,Q0,QP]at h;obtain⟨rfl,rfl,rfl⟩:=h;exact⟨by simp only[pG,ha.head];exact .ahS _ _ _,rfl⟩
  |_=>simp[TM]at h
 |own g'=>
  cases x with
  |own g=>simp only[TM,Q0,QP]at h;obtain⟨rfl,rfl,rfl⟩:=h;exact⟨.own (hm (g',g) (by simp)),rfl⟩
  |_=>simp[TM]at h
 |box g' off'=>
  cases x with
  |box g off=>
   cases off' with
   |succ n=>simp[TM]at h
   |zero=>
    cases off with
    |succ n=>simp[TM]at h
    |zero=>simp only[TM,Q0,QP]at h;obtain⟨rfl,rfl,rfl⟩:=h;exact⟨.box (hm (g',g) (by simp)),rfl⟩
  |_=>simp[TM]at h
 |fn f gs=>
  cases x with
  |clo f' caps=>
   simp only[TM]at h;split at h
   rotate_left
   cases h;rename_i hf;subst hf;split at h
   .rename_i r' hr';cases h;obtain⟨e1,e2⟩:=zJ (C:=Cio I) (nil:=nil) hr' hm;exact⟨.clo f caps (fO gs) e1 e2,rfl⟩
   .cases h
  |_=>simp[TM]at h
 |_=>simp[TM]at h
theorem V5:∀{ks:List WS} {xs:List W} {us:List P} {c:Bool×Bool} {r:List (Nat×Nat)} {n:Nat},NT ks xs=some (us,c,r)->(∀k∈ks,k.flags false true=true)->cin c I->(∀p∈r,m p.1=some p.2)->At ins n us->
  xs.length=(kH ins n ks).1.length/\(∀(j:Nat) x y,xs[j]?=some x->(kH ins n ks).1[j]?=some y->Ww (Cio I) m nil x y)/\(kH ins n ks).2=n+us.length
 | [],xs,us,c,r,n,h,hk,hc,hm,ha=>by
  cases xs with
  |nil=>simp[NT]at h;obtain⟨rfl,_⟩:=h;exact⟨rfl,λj x y hx=>by simp at hx,rfl⟩
  |cons x xs=>simp[NT]at h
 |k::ks,xs,us,c,r,n,h,hk,hc,hm,ha=>by
  cases xs with
  |nil=>simp[NT]at h
  |cons x xs=>
   simp only[NT]at h;split at h
   rotate_left
   cases h;rename_i u c1 r1 u' c2 r2 h1 h2;cases h;obtain⟨a1,a2⟩:=ahX (nil:=nil) h1 (hk k (by simp)) (sS hc) (λp hp=>hm p (by simp[hp])) ha.left;have ih:=V5 (n:=n+u.length) h2 (λk hk'=>hk k (by simp[hk'])) (pI hc) (λp hp=>hm p (by simp[hp])) ha.right;simp only[kH,a2];refine⟨by simp[ih.1],λj x' y' hx hy=>?_,by rw[ih.2.2];simp;omega⟩;cases j with
   |zero=>simp at hx hy;subst hx hy;exact a1
   |succ j=>simp at hx hy;exact ih.2.1 j x' y' hx hy
theorem sU:∀{L:List (Nat×OS)} {ren ren':List (Nat×Nat)} {us:List P} {c:Bool×Bool} {n:Nat},ji o ren L=some (us,c,ren')->
  (∀p∈L,match p.2 with|.box ws=>∀k∈ws,k.flags false true=true|.arr fz a i _=>fz=false/\a=false/\i=true|.aF a i _ _=>a=false/\i=true|.it=>False)->cin c I->(∀p∈ren',m p.1=some p.2)->At ins n us->
  (∃r,ren'=ren++r)/\∀g' x,(fP ins n L).1.lookup g'=some x->∃g,m g'=some g/\Ow (Cio I) m nil (o g) x/\(g',g)∈ren'/\(o g).bJ=true/\((∃ws,x=.box ws)\/(∃l sz,x=.arr false false true sz l)\/∃l sz ah,x=.aF false true sz ah l Option.none)
 | [],ren,ren',us,c,n,h,hk,hc,hm,ha=>by simp only[ji,Q0,QP]at h;obtain⟨rfl,rfl,rfl⟩:=h;exact⟨⟨[],by simp⟩,λg' x hx=>by simp[fP]at hx⟩
 |(g0,k)::L,ren,ren',us,c,n,h,hk,hc,hm,ha=>by
  simp only[ji]at h;split at h
  rotate_left
  cases h;rename_i g hg;split at h
  .rename_i ks ws hog;split at h
   rotate_left
   cases h;rename_i u c1 r1 h1;split at h
   rotate_left
   cases h;rename_i u' c2 r2 h2;simp only[Q0,QP]at h;obtain⟨rfl,rfl,rfl⟩:=h;have hk0:=hk (g0,.box ks) (by simp);have ih:=λhm'=>sU (n:=n+u.length) h2 (λp hp=>hk p (by simp[hp])) (pI hc) hm' ha.right;obtain⟨⟨r,hr⟩,ih⟩:=ih hm;obtain⟨b0,b1,b2⟩:=V5 (nil:=nil) h1 hk0 (sS hc) (λp hp=>hm p (by rw[hr];simp[hp])) ha.left;simp only[fP,sN,b2];refine⟨⟨r1++r,by rw[hr,Wm]⟩,λg' x hx=>?_⟩;simp only[List.lookup]at hx;split at hx
   .rename_i he;have he:g'=g0:=by simpa using he
    subst he;simp only[Q0]at hx;subst hx;have hmem:(g',g)∈r2:=by rw[hr,Wm];exact XS _ (jk hg)
    exact⟨g,hm _ hmem,by rw[hog];exact .box _ _ b0 b1,hmem,by rw[hog];rfl,.inl ⟨_,rfl⟩⟩
   .exact ih g' x hx
  .rename_i fz0 a0 i0 sz a i sz' l hog;split at h
   rotate_left
   cases h;rename_i hsz;split at h
   rotate_left
   cases h;rename_i u' c2 r2 h2;simp only[Q0,QP]at h;obtain⟨rfl,rfl,rfl⟩:=h;subst hsz;have hk0:=hk (g0,.arr fz0 a0 i0 sz) (by simp);obtain⟨rfl,rfl,rfl⟩:=hk0;have hhead:At ins n [P.fG sz l]:=λk y hk=>ha k y (by cases k with|zero=>simpa using hk|succ k=>simp at hk);have htail:At ins (n+1) u':=λk y hk=>by have:=ha (k+1) y (by simpa using hk);rw[<-this];congr 1;omega
   obtain⟨⟨r,hr⟩,ih⟩:=sU (n:=n+1) h2 (λp hp=>hk p (by simp[hp])) (pI hc) hm htail;simp only[fP,sN,hhead.head,P.nI];refine⟨⟨r,hr⟩,λg' x hx=>?_⟩;simp only[List.lookup]at hx;split at hx
   .rename_i he;have he:g'=g0:=by simpa using he
    subst he;simp only[Q0]at hx;subst hx;have hmem:(g',g)∈r2:=by rw[hr];exact XS _ (jk hg)
    exact⟨g,hm _ hmem,by rw[hog];exact .arr false sz l ⟨rfl,rfl,sS hc⟩,hmem,by rw[hog];rfl,.inr (.inl ⟨_,_,rfl⟩)⟩
   .exact ih g' x hx
  .rename_i a0 i0 sz ah a i sz' gJ l hog;split at h
   rotate_left
   cases h;rename_i hsz;obtain⟨rfl,rfl⟩:=hsz;split at h
   rotate_left
   cases h;rename_i u' c2 r2 h2;simp only[Q0,QP]at h;obtain⟨rfl,rfl,rfl⟩:=h;have hk0:=hk (g0,.aF a0 i0 sz ah) (by simp);obtain⟨rfl,rfl⟩:=hk0;have hhead:At ins n [P.fG sz l]:=λk y hk=>ha k y (by cases k with|zero=>simpa using hk|succ k=>simp at hk);have htail:At ins (n+1) u':=λk y hk=>by have:=ha (k+1) y (by simpa using hk);rw[<-this];congr 1;omega
   obtain⟨⟨r,hr⟩,ih⟩:=sU (n:=n+1) h2 (λp hp=>hk p (by simp[hp])) (pI hc) hm htail;simp only[fP,sN,hhead.head,P.nI];refine⟨⟨r,hr⟩,λg' x hx=>?_⟩;simp only[List.lookup]at hx;split at hx
   .rename_i he;have he:g'=g0:=by simpa using he
    subst he;simp only[Q0]at hx;subst hx;have hmem:(g',g)∈r2:=by rw[hr];exact XS _ (jk hg)
    exact⟨g,hm _ hmem,by rw[hog];exact .aF sz ah l ⟨rfl,rfl,sS hc⟩,hmem,by rw[hog];rfl,.inr (.inr ⟨_,_,_,rfl⟩)⟩
   .exact ih g' x hx
  .cases h
end
section
variable {E E':Env} {st est:St} {gh lZ:Nat->Gh} {w:World} {ins:List P} {A:Bool×Bool} {uD:List Nat} {m:Nat->Option Nat} {nil:Nat->Prop} {C:Bool->Bool->Bool->Bool->Prop}
theorem Qi(hP :∀x v y a i gs,eH E st gh w x v->x.toP st.o=some (y,a,i,gs)->cin (a,i) A->(∀g∈gs,g∈uD)->bU w (E'.ok est lZ w true false) y v)(hC:Cast C m nil E E' st est gh lZ w)
  {k:WS} {x:W} {v:Value} {us:List P} {c:Bool×Bool} {gs:List Nat} {r:List (Nat×Nat)} {n:Nat} (h:fC st.o k x=some (us,c,gs,r)) (hk:k.flags true false=true) (hc:cin c A) (hgs :∀g∈gs,g∈uD)
  (hm :∀p∈r,m p.1=some p.2) (ha:At ins n us) (hr:eH E st gh w x v):eH E' est lZ w (pG ins n k).1 v/\(pG ins n k).2=n+us.length:=by
 cases k with
 |p a' i'=>
  obtain⟨rfl,rfl⟩:=V4 hk;simp only[fC]at h;split at h
  .rename_i y a i gs' ht;cases h;exact⟨by simp only[pG,ha.head];exact .p _ _ _ _ (hP _ _ _ _ _ _ hr ht hc hgs),rfl⟩
  .cases h
 |own g'=>
  cases x with
  |own g=>simp only[fC,Q0,QP]at h;obtain⟨rfl,rfl,rfl,rfl⟩:=h;exact⟨hC.zC (.own (hm (g',g) (by simp))) hr,rfl⟩
  |_=>simp[fC]at h
 |box g' off=>
  cases x with
  |box g off'=>
   cases off with
   |succ off=>simp[fC]at h
   |zero=>
    cases off' with
    |succ off'=>simp[fC]at h
    |zero=>simp only[fC,Q0,QP]at h;obtain⟨rfl,rfl,rfl,rfl⟩:=h;exact⟨hC.zC (.box (hm (g',g) (by simp))) hr,rfl⟩
  |_=>cases off<;>simp[fC]at h
 |fn f gs0=>
  cases x with
  |clo f' caps=>
   simp only[fC]at h;split at h
   rotate_left
   cases h;rename_i hf;subst hf;split at h
   .rename_i r' hr';cases h;obtain⟨e1,e2⟩:=zJ (C:=C) (nil:=nil) hr' hm;exact⟨hC.zC (.clo f caps (fO gs0) e1 e2) hr,rfl⟩
   .cases h
  |_=>simp[fC]at h
 |_=>simp[fC]at h
theorem Le(hP :∀x v y a i gs,eH E st gh w x v->x.toP st.o=some (y,a,i,gs)->cin (a,i) A->(∀g∈gs,g∈uD)->bU w (E'.ok est lZ w true false) y v)(hC:Cast C m nil E E' st est gh lZ w):
  ∀{ks:List WS} {xs:List W} {cs:List Value} {us:List P} {c:Bool×Bool} {gs:List Nat} {r:List (Nat×Nat)} {n:Nat},jo st.o ks xs=some (us,c,gs,r)->(∀k∈ks,k.flags true false=true)->cin c A->(∀g∈gs,g∈uD)->
   (∀p∈r,m p.1=some p.2)->At ins n us->xs.length=cs.length->(∀(j:Nat) x v,xs[j]?=some x->cs[j]?=some v->eH E st gh w x v)->
   (kH ins n ks).1.length=cs.length/\(∀(j:Nat) x v,(kH ins n ks).1[j]?=some x->cs[j]?=some v->eH E' est lZ w x v)/\(kH ins n ks).2=n+us.length
 | [],xs,cs,us,c,gs,r,n,h,hk,hc,hgs,hm,ha,hl,hr=>by
  cases xs with
  |nil=>simp[jo]at h;obtain⟨rfl,_⟩:=h;exact⟨hl,λj x v hx=>by simp[kH]at hx,rfl⟩
  |cons x xs=>simp[jo]at h
 |k::ks,xs,cs,us,c,gs,r,n,h,hk,hc,hgs,hm,ha,hl,hr=>by
  cases xs with
  |nil=>simp[jo]at h
  |cons x xs=>
   cases cs with
   |nil=>simp at hl
   |cons v cs=>
    simp only[jo]at h;split at h
    rotate_left
    cases h;rename_i u c1 g1 r1 u' c2 g2 r2 h1 h2;cases h;obtain⟨a1,a2⟩:=Qi hP hC h1 (hk k (by simp)) (sS hc) (λg hg=>hgs g (by simp[hg])) (λp hp=>hm p (by simp[hp])) ha.left (hr 0 x v rfl rfl);have ih:=Le hP hC (n:=n+u.length) h2 (λk hk'=>hk k (by simp[hk'])) (pI hc) (λg hg=>hgs g (by simp[hg])) (λp hp=>hm p (by simp[hp])) ha.right (by simpa using hl)
     (λj a b ha hb=>hr (j+1) a b (by simpa using ha) (by simpa using hb))
    simp only[kH,a2];refine⟨by simp[ih.1],λj x' v' hx hv=>?_,by rw[ih.2.2];simp;omega⟩;cases j with
    |zero=>simp at hx hv;subst hx hv;exact a1
    |succ j=>simp at hx hv;exact ih.2.1 j x' v' hx hv
theorem aaB(hP :∀x v y a i gs,eH E st gh w x v->x.toP st.o=some (y,a,i,gs)->cin (a,i) A->(∀g∈gs,g∈uD)->bU w (E'.ok est lZ w true false) y v)(hC:Cast C m nil E E' st est gh lZ w)
  {k:SS} {x:S} {v:Value} {us:List P} {c:Bool×Bool} {gs:List Nat} {r:List (Nat×Nat)} {n:Nat} (h:nM st.o k x=some (us,c,gs,r)) (hk:k.flags true false=true) (hc:cin c A) (hgs :∀g∈gs,g∈uD)
  (hm :∀p∈r,m p.1=some p.2) (ha:At ins n us) (hr:dn E st gh w x v):dn E' est lZ w (mkS ins n k).1 v/\(mkS ins n k).2=n+us.length:=by
 cases k with
 |one k=>
  cases x with
  |v x=>
   cases x with
   |one x=>obtain⟨a1,a2⟩:=Qi hP hC h hk hc hgs hm ha hr.dB;exact⟨dn.Gu a1,a2⟩
   |agg xs=>simp[nM]at h
  |_=>simp[nM]at h
 |agg ks=>
  cases x with
  |v x=>
   cases x with
   |one x=>simp[nM]at h
   |agg xs=>obtain⟨cs,hv,hl,hone,hrr⟩:=hr.Gt;simp only[SS.flags,Z1]at hk;obtain⟨a0,a1,a2⟩:=Le hP hC h hk hc hgs hm ha hl hrr;subst hv;exact⟨.v _ _ (.agg _ cs a0 hone a1),a2⟩
  |_=>simp[nM]at h
theorem Bh(hP :∀x v y a i gs,eH E st gh w x v->x.toP st.o=some (y,a,i,gs)->cin (a,i) A->(∀g∈gs,g∈uD)->bU w (E'.ok est lZ w true false) y v)(hC:Cast C m nil E E' st est gh lZ w){args:List S}{vals:Nat->Value}
  (hr :∀t,dn E st gh w (args.getD t .no) (vals t)) :
  ∀{L:List (Nat×SS)} {us:List P} {c:Bool×Bool} {gs:List Nat} {r:List (Nat×Nat)} {n:Nat},dW st.o args L=some (us,c,gs,r)->(∀p∈L,p.2.flags true false=true)->cin c A->(∀g∈gs,g∈uD)->
   (∀p∈r,m p.1=some p.2)->At ins n us->(∀t x,(dh ins n L).1.lookup t=some x->dn E' est lZ w x (vals t))/\(dh ins n L).2=n+us.length
 | [],us,c,gs,r,n,h,hk,hc,hgs,hm,ha=>by simp[dW]at h;obtain⟨rfl,_⟩:=h;exact⟨λt x hx=>by simp[dh]at hx,rfl⟩
 |(t0,k)::L,us,c,gs,r,n,h,hk,hc,hgs,hm,ha=>by
  simp only[dW]at h;split at h
  rotate_left
  cases h;rename_i u c1 g1 r1 u' c2 g2 r2 h1 h2;cases h;obtain⟨a1,a2⟩:=aaB hP hC h1 (hk (t0,k) (by simp)) (sS hc) (λg hg=>hgs g (by simp[hg])) (λp hp=>hm p (by simp[hp])) ha.left (hr t0);have ih:=Bh hP hC hr (n:=n+u.length) h2 (λp hp=>hk p (by simp[hp])) (pI hc) (λg hg=>hgs g (by simp[hg])) (λp hp=>hm p (by simp[hp])) ha.right;simp only[dh,a2];refine⟨λt x hx=>?_,by rw[ih.2];simp;omega⟩;simp only[List.lookup]at hx;split at hx
  .rename_i he;have he:t=t0:=by simpa using he
   subst he;cases hx;exact a1
  .exact ih.1 t x hx
end
end Go.Fw

namespace Go.Fw
variable [dV]
def Enters(Pg:Program)(f:FuncId):Prop :=∀(args:Array Value) (w:World),(callFunc f args).run Pg w=.ok (.enter f args) w
def Yx(rs:List Value):Value:=match rs with
 | [v]=>v
 |vs=>.tuple vs.toArray
def Sound(Pg:Program)(f:FuncId)(sp:Spec):Prop:=sp.sig.ok=true/\Enters Pg f/\
 ∀(E:Env) (w:World) (vals:List Value) (gh:Nat->Gh) (ins cZ:List P),sp.R ins cZ->E.B0=w.heap.size->E.w0=w->Rel E (mk sp.sig.pin ins) gh (λk=>vals.getD k undef) w->vals.length=sp.sig.bD->
  Calls Pg f vals.toArray w λe w'=>∃(rs:List Value) (bG:Nat->Gh),rs.length=sp.sig.cO/\e=.returned (Yx rs)/\Rel E (mk sp.sig.aO cZ) bG (λk=>rs.getD k undef) w'/\∀g∈sp.sig.bC,((bG g).ad=(gh g).ad/\(bG g).cap=(gh g).cap)/\((mk sp.sig.pin ins).o g).like ((mk sp.sig.aO cZ).o g)
theorem aep{o:Nat->O}{x:W}{y:P}{a i:Bool}{gs:List Nat}(h:x.toP o=some (y,a,i,gs)):wU o gs:=by
 cases x<;>simp only[W.toP]at h
 case p=>simp only[Q0,QP]at h;obtain⟨_,_,_,rfl⟩:=h;exact wU.nil
 case b_=>simp only[Q0,QP]at h;obtain⟨_,_,_,rfl⟩:=h;exact wU.nil
 case own g=>
  split at h
  .rename_i ho;simp only[Q0,QP]at h;obtain⟨_,_,_,rfl⟩:=h;exact uO ho
  .cases h
 case vw g lo hi=>
  split at h
  .rename_i ho;simp only[Q0,QP]at h;obtain⟨_,_,_,rfl⟩:=h;exact uO ho
  .cases h
 all_goals cases h
theorem Qj{o:Nat->O}{k:WS}{x:W}{us:List P}{c:Bool×Bool}{gs:List Nat}{r:List (Nat×Nat)}(h:fC o k x=some (us,c,gs,r)):wU o gs:=by
 cases k with
 |p a i=>
  simp only[fC]at h;split at h
  .rename_i ht;simp only[Q0,QP]at h;obtain⟨_,_,rfl,_⟩:=h;exact aep ht
  .cases h
 |own g'=>cases x<;>simp[fC]at h;obtain⟨_,_,rfl,_⟩:=h;exact wU.nil
 |box g' off=>
  cases off with
  |succ off=>cases x<;>simp[fC]at h
  |zero=>
   cases x with
   |box g off=>cases off<;>simp[fC]at h;obtain⟨_,_,rfl,_⟩:=h;exact wU.nil
   |_=>simp[fC]at h
 |b_=>simp[fC]at h
 |fn f gs0=>
  cases x with
  |clo f' caps=>
   simp only[fC]at h;split at h
   .split at h
    .simp only[Q0,QP]at h;obtain⟨_,_,rfl,_⟩:=h;exact wU.nil
    .cases h
   .cases h
  |_=>simp[fC]at h
 |mO g'=>simp[fC]at h
 |no=>simp[fC]at h
 |vw g'=>simp[fC]at h
 |ep g' off=>simp[fC]at h
theorem Lh{o:Nat->O}:∀{ks:List WS} {xs:List W} {us:List P} {c:Bool×Bool} {gs:List Nat} {r:List (Nat×Nat)},jo o ks xs=some (us,c,gs,r)->wU o gs
 | [],xs,us,c,gs,r,h=>by cases xs<;>simp[jo]at h;obtain⟨_,_,rfl,_⟩:=h;exact wU.nil
 |k::ks,xs,us,c,gs,r,h=>by
  cases xs with
  |nil=>simp[jo]at h
  |cons x xs=>
   simp only[jo]at h;split at h
   .rename_i h1 h2;simp only[Q0,QP]at h;obtain⟨_,_,rfl,_⟩:=h;exact(Qj h1).append (Lh h2)
   .cases h
theorem uY{o:Nat->O}{args:List S}:∀{L:List (Nat×SS)} {us:List P} {c:Bool×Bool} {gs:List Nat} {r:List (Nat×Nat)},dW o args L=some (us,c,gs,r)->wU o gs
 | [],us,c,gs,r,h=>by simp[dW]at h;obtain⟨_,_,rfl,_⟩:=h;exact wU.nil
 |(t,k)::L,us,c,gs,r,h=>by
  simp only[dW]at h;split at h
  rotate_left
  cases h;rename_i h1 h2;simp only[Q0,QP]at h;obtain⟨_,_,rfl,_⟩:=h;refine wU.append ?_ (uY h2)
  .cases k with
   |one k=>
    generalize args.getD t S.no=z at h1;cases z with
    |v z=>
     cases z with
     |one z=>exact Qj h1
     |agg z=>simp[nM]at h1
    |_=>simp[nM]at h1
   |agg ks=>
    generalize args.getD t S.no=z at h1;cases z with
    |v z=>
     cases z with
     |one z=>simp[nM]at h1
     |agg z=>exact Lh h1
    |_=>simp[nM]at h1
theorem uZ{vs:List P}:∀{L:List (Nat×OS)} {n g:Nat},g∈L.map (·.1)->∃x,(fP vs n L).1.lookup g=some x
 | [],n,g,h=>by simp at h
 |(g0,k)::L,n,g,h=>by
  simp only[fP,List.lookup];by_cases e:g=g0
  .subst e;simp
  .have:(g==g0)=false:=by simpa using e
   rw[this];exact uZ (by simpa[e]using h)
theorem kJ{vs:List P}:∀{L:List (Nat×OS)} {n g:Nat} {x:O},(fP vs n L).1.lookup g=some x->∃k n',(g,k)∈L/\x=(sN vs n' k).1
 | [],n,g,x,h=>by simp[fP]at h
 |(g0,k)::L,n,g,x,h=>by
  simp only[fP,List.lookup]at h;split at h
  .rename_i e;have e:g=g0:=by simpa using e
   subst e;simp only[Q0]at h;exact⟨k,n,by simp,h.symm⟩
  .obtain ⟨k',n',h1,h2⟩:=kJ h;exact⟨k',n',by simp[h1],h2⟩
theorem xk{vs:List P}:∀{L:List (Nat×SS)} {n t:Nat} {x:S},(dh vs n L).1.lookup t=some x->∃k n',(t,k)∈L/\x=(mkS vs n' k).1
 | [],n,t,x,h=>by simp[dh]at h
 |(t0,k)::L,n,t,x,h=>by
  simp only[dh,List.lookup]at h;split at h
  .rename_i e;have e:t=t0:=by simpa using e
   subst e;simp only[Q0]at h;exact⟨k,n,by simp,h.symm⟩
  .obtain ⟨k',n',h1,h2⟩:=xk h;exact⟨k',n',by simp[h1],h2⟩
theorem Lj(vs:List P)(n:Nat)(k:WS):(pG vs n k).1.names=k.names:=by
 cases k with
 |fn f gs=>simp only[pG,sQ,uX,WS.names]
 |_=>simp[pG,W.names,WS.names]
theorem zK(vs:List P):∀(n:Nat) (ks:List WS),(kH vs n ks).1.flatMap W.names=ks.flatMap WS.names
 |n,[]=>rfl
 |n,k::ks=>by simp[kH,Lj,zK vs _ ks]
theorem Yy(vs:List P)(n:Nat)(k:SS):(mkS vs n k).1.names=k.names:=by
 cases k with
 |one k=>simpa[mkS,S.names,V.names,SS.names]using Lj vs n k
 |agg ks=>simpa[mkS,S.names,V.names,SS.names]using zK vs n ks
theorem Yz(vs:List P)(n:Nat)(k:OS):(sN vs n k).1.names=k.names:=by
 cases k with
 |box ks=>simpa[sN,O.names,OS.names]using zK vs n ks
 |arr=>simp[sN,O.names,OS.names]
 |it=>simp[sN,O.names,OS.names]
 |aF=>simp[sN,O.names,OS.names,bZ]
theorem Um{j:Shape}{vs:List P}{g:Nat}(h:(mk j vs).o g≠.none):(fP vs (dh vs 0 j.slots).2 j.aW).1.lookup g=some ((mk j vs).o g):=by
 unfold mk at h ⊢;simp only at h ⊢;split at h
 .rename_i x hx;rw[hx]
 .exact absurd rfl h
theorem Ll{j:Shape}{vs:List P}{g:Nat}(h:g∉j.nms):(mk j vs).o g=.none:=by by_cases hn:(mk j vs).o g=.none;exact hn;obtain⟨k,n',h1,h2⟩:=kJ (Um hn);exact absurd (XN.2 ⟨_,h1,rfl⟩) h
theorem agX{j:Shape}(hj:j.ok=true)(vs:List P):(∀t,∀g∈((mk j vs).s t).names,(mk j vs).used g=true)/\(∀g,∀g'∈((mk j vs).o g).names,(mk j vs).used g'=true)/\∀g,(mk j vs).o g≠.none->(mk j vs).used g=true:=by
 simp only[X1,Shape.ok,Z1,WP,XX]at hj;refine⟨λt g hg=>?_,λg g' hg'=>?_,λg hg=>?_⟩
 .have hg:g∈(match (dh vs 0 j.slots).1.lookup t with|some x=>x|none=>S.no).names:=hg;cases hx:(dh vs 0 j.slots).1.lookup t with
  |none=>rw[hx]at hg;simp[S.names]at hg
  |some x=>rw[hx]at hg;obtain⟨k,n',h1,h2⟩:=xk hx;subst h2;simp only at hg;rw[Yy]at hg;simpa[mk]using hj.1.2 _ h1 g hg
 .by_cases hn:(mk j vs).o g=.none
  .rw [hn]at hg';simp[O.names]at hg'
  .obtain ⟨k,n',h1,h2⟩:=kJ (Um hn);rw[h2,Yz]at hg';simpa[mk]using hj.2 _ h1 g' hg'
 .obtain ⟨k,n',h1,h2⟩:=kJ (Um hg);simp only[mk,WP,XX,Shape.nms];exact XN.2 ⟨_,h1,rfl⟩
section
variable {E:Env} {st:St} {gh:Nat->Gh} {w:World} {val:Nat->Value}
def V6(h:Rel E st gh val w)(st1:St)(c:Ld):Env where
 FA:=λb=>E.ok st1 gh w c.A.1 c.A.2 b
 FI:=λb=>E.ok st gh w c.I.1 c.I.2 b
 B0:=w.heap.size
 w0:=w
 Wr:=λb=>∃p∈c.ren,(st.o p.2).bJ=true/\(gh p.2).has b
 hg:=λg sz rows hg=>by
  obtain⟨g1,g2,g3⟩:=E.hg g sz rows hg;refine⟨Vi g1 h.size,?_,λn x hx=>⟨(g3 n x hx).1,λj y hy=>?_⟩⟩
  .rintro ⟨p,hp,ho,h1⟩;rcases (h.wr p.2 g ho h1).1 with q|q
   .omega
   .exact g2 q
  .obtain ⟨u,hu1,hu2⟩:=(g3 n x hx).2 j y hy;exact⟨u,(World.cell?_of_block (w:=E.w0) (h.frame g g1 g2)).trans hu1,hu2.mono λ_ f=>f.elim⟩
theorem EJ{vs:List P}:∀{L:List (Nat×OS)} {n:Nat} {g:Nat} {k:OS},L.lookup g=some k->∃n',(fP vs n L).1.lookup g=some (sN vs n' k).1
 | [],n,g,k,h=>by cases h
 |(g0,k0)::L,n,g,k,h=>by
  simp only[fP,List.lookup]at h ⊢;split at h
  .cases h;exact⟨_,rfl⟩
  .exact EJ h
theorem NU{j:Shape}{vs:List P}{g:Nat}{k:OS}(h:j.aW.lookup g=some k):∃n',(mk j vs).o g=(sN vs n' k).1:=by obtain⟨n',h1⟩:=EJ (vs:=vs) (n:=(dh vs 0 j.slots).2) h;refine⟨n',?_⟩;show (match (fP vs (dh vs 0 j.slots).2 j.aW).1.lookup g with|some x=>x|none=>O.none)=_;rw[h1]
theorem Qk{j:Shape}{vs:List P}{g:Nat}(h:OS.aaA (j.aW.lookup g)=true):∃ws,(mk j vs).o g=.box ws:=by
 cases hl:j.aW.lookup g with
 |none=>rw[hl]at h;cases h
 |some k=>
  rw[hl]at h;cases k with
  |box ks=>obtain⟨n',h1⟩:=NU (vs:=vs) hl;exact⟨_,h1⟩
  |arr=>cases h
  |it=>cases h
  |aF=>cases h
theorem zf.YA{s:zf}(h:s.ahV=true){ins cZ:List P}:∀g∈s.bC,((Fw.mk s.pin ins).o g).like ((Fw.mk s.aO cZ).o g):=λg hg=>by have:=(Z1.1 h) g hg;simp only[X1]at this;obtain⟨ws,e1⟩:=Qk (vs:=ins) this.1;obtain⟨ws',e2⟩:=Qk (vs:=cZ) this.2;rw[e1,e2];trivial
theorem mD{p:Nat×Nat}:∀{r:List (Nat×Nat)},p∈jE r↔p∈r
 | []=>Iff.rfl
 |q::r=>by
  simp only[jE];cases h:(r.any λx=>Nat.beq x.1 q.1&&Nat.beq x.2 q.2)with
  |true=>
   simp only[mD (r:=r),Xs];refine⟨.inr,λhp=>?_⟩;rcases hp with rfl|hp
   .obtain ⟨x,hx,e⟩:=vj.1 h;simp only[X1]at e;have e1:=Qf e.1;have e2:=Qf e.2;have:x=p:=Prod.ext e1 e2;rw[<-this];exact hx
   .exact hp
  |false=>simp only[Xs,mD (r:=r)]
def qP:O->O
 |.arr fz _ _ sz l=>.arr fz false false sz l
 |.aF _ _ sz ah l hole=>.aF false false sz ah l hole
 |x=>x
def rX:O->Bool×Bool
 |.arr _ a i _ _=>(a,i)
 |.aF a i _ _ _ _=>(a,i)
 |_=>(false,false)
def Un:O->Bool
 |.arr _ _ _ _ _=>true
 |.aF _ _ _ _ _ _=>true
 |_=>false
theorem Uo{x y:O}(h:qP x=qP y)(hf:rX x=rX y)(ha:Un x=true):x=y:=by
 cases x<;>simp only[Un,Wa]at ha<;>cases y<;>simp only[qP,rX,O.arr.injEq,O.aF.injEq,QP,reduceCtorEq]at h hf
 .obtain ⟨rfl,_,_,rfl,rfl⟩:=h;obtain⟨rfl,rfl⟩:=hf;rfl
 .obtain ⟨_,_,rfl,rfl,rfl,rfl⟩:=h;obtain⟨rfl,rfl⟩:=hf;rfl
theorem YB{s:zf}(hok:s.ok=true){o:Nat->O}{args:List S}{c:Ld}(hc:iq s o args=some c)(hf:c.fine s=true):∀p∈c.ren,Un (o p.2)=true->qP ((mk s.pin c.ins).o p.1)=qP (o p.2):=by
 unfold iq at hc;split at hc
 rotate_left
 cases hc;rename_i u A gs r hsl;split at hc
 rotate_left
 cases hc;rename_i u' I r' hob;cases hc;simp only[Ld.fine,X1,Z1,NS,WP,XX,WD,decide_eq_false_iff_not,XN,forall_exists_index,and_imp,forall_apply_eq_imp_iff₂]at hf;obtain⟨⟨⟨hn2,hn1⟩,hdisj⟩,hkeys⟩:=hf;have hn1:=iW hn1;have hok':=hok;simp only[zf.ok,X1]at hok';obtain⟨⟨⟨⟨⟨⟨⟨⟨aaC,V7⟩,hps⟩,hpo⟩,_⟩,_⟩,_⟩,_⟩,_⟩:=hok';have hm :∀p∈r',(λg'=>(jE r').lookup g') p.1=some p.2:=λp hp=>lK hn1 (mD.2 hp);have hAt:At (u++u') 0 (u++u'):=λk y hk=>by rw[V1];exact hk
 have ahY :∀p∈s.pin.aW,match p.2 with|.box ws=>∀k∈ws,k.flags false true=true|.arr fz a i _=>fz=false/\a=false/\i=true|.aF a i _ _=>a=false/\i=true|.it=>False:=by
  intro p hp;have:=(Z1.1 hpo) p hp;obtain⟨g,k⟩:=p;cases k with
  |box ws=>simp only[X1,Z1]at this;exact λk hk=>this.1 k hk
  |arr fz a i sz=>simp only[X1,WD]at this;exact⟨this.1.1,this.1.2,this.2⟩
  |aF a i sz ah=>simp only[X1,WD]at this;exact this
  |it=>simp at this
 have Ql:(dh (u++u') 0 s.pin.slots).2=u.length:=by
  have :∀{L:List (Nat×SS)} {us:List P} {c:Bool×Bool} {gs:List Nat} {r:List (Nat×Nat)} {n:Nat} (vs:List P),dW o args L=some (us,c,gs,r)->(∀p∈L,p.2.flags true false=true)->(dh vs n L).2=n+us.length:=by
   intro L
   induction L with
   |nil=>intro us c gs r n vs h _;simp[dW]at h;obtain⟨rfl,_⟩:=h;rfl
   |cons p L ih=>
    intro us c gs r n vs h hk;obtain⟨t0,k⟩:=p;simp only[dW]at h;split at h
    rotate_left
    cases h;rename_i u c1 g1 r1 u' c2 g2 r2 h1 h2;cases h;have e1:(mkS vs n k).2=n+u.length:=by
     have hkk:=hk (t0,k) (by simp);have one :∀(k:WS) (x:W) (us:List P) (c:Bool×Bool) (gs:List Nat) (r:List (Nat×Nat)) (n:Nat),fC o k x=some (us,c,gs,r)->(pG vs n k).2=n+us.length:=by
      intro k x us c gs r n h;cases k with
      |p a i=>
       simp only[fC]at h;split at h
       .simp only[Q0,QP]at h;obtain⟨rfl,_⟩:=h;rfl
       .cases h
      |own g'=>cases x<;>simp[fC]at h;obtain⟨rfl,_⟩:=h;rfl
      |box g' off=>
       cases off with
       |succ off=>cases x<;>simp[fC]at h
       |zero=>
        cases x with
        |box g off=>cases off<;>simp[fC]at h;obtain⟨rfl,_⟩:=h;rfl
        |_=>simp[fC]at h
      |b_=>simp[fC]at h
      |fn f gs0=>
       cases x with
       |clo f' caps=>
        simp only[fC]at h;split at h
        .split at h
         .simp only[Q0,QP]at h;obtain⟨rfl,_⟩:=h;rfl
         .cases h
        .cases h
       |_=>simp[fC]at h
      |mO g'=>simp[fC]at h
      |no=>simp[fC]at h
      |vw g'=>simp[fC]at h
      |ep g' off=>simp[fC]at h
     cases k with
     |one k=>
      generalize args.getD t0 S.no=z at h1;cases z with
      |v z=>
       cases z with
       |one z=>exact one k z _ _ _ _ n h1
       |agg z=>simp[nM]at h1
      |_=>simp[nM]at h1
     |agg ks=>
      generalize args.getD t0 S.no=z at h1;cases z with
      |v z=>
       cases z with
       |one z=>simp[nM]at h1
       |agg z=>
        have :∀(ks:List WS) (z:List W) (us:List P) (c:Bool×Bool) (gs:List Nat) (r:List (Nat×Nat)) (n:Nat),jo o ks z=some (us,c,gs,r)->(kH vs n ks).2=n+us.length:=by
         intro ks
         induction ks with
         |nil=>intro z us c gs r n h;cases z<;>simp[jo]at h;obtain⟨rfl,_⟩:=h;rfl
         |cons k ks ih=>
          intro z us c gs r n h;cases z with
          |nil=>simp[jo]at h
          |cons x xs=>
           simp only[jo]at h;split at h
           .rename_i u c1 g1 r1 u' c2 g2 r2 h1 h2;cases h;simp only[kH];rw[one k x _ _ _ _ n h1,ih _ _ _ _ _ _ h2];simp;omega
           .cases h
        exact this ks z _ _ _ _ n h1
      |_=>simp[nM]at h1
    simp only[dh];rw[e1,ih vs h2 (λp hp=>hk p (by simp[hp]))];simp;omega
  have:=this (n:=0) (u++u') hsl (λp hp=>by have:=(Z1.1 hps) p hp;simp only[X1]at this;exact this.1);omega
 obtain⟨⟨r0,hr0⟩,Qm⟩:=sU (m:=λg'=>(jE r').lookup g') (nil:=λ_=>False) (I:=I) (ins:=u++u') (n:=u.length) hob ahY (Ij I) hm (by have:=hAt.right;rwa [V1]at this);have C9 :∀g' x,(mk s.pin (u++u')).o g'=x->x≠.none->∃g,(jE r').lookup g'=some g/\Ow (Cio I) (λg'=>(jE r').lookup g') (λ_=>False) (o g) x/\(g',g)∈jE r'/\(o g).bJ=true/\((∃ws,x=.box ws)\/(∃l sz,x=.arr false false true sz l)\/∃l sz ah,x=.aF false true sz ah l none):=by intro g' x hx hne;have:=Um (j:=s.pin) (vs:=u++u') (g:=g') (by rw[hx];exact hne);rw[Ql,hx]at this;obtain⟨g,k1,k2,k3,k4⟩:=Qm g' x this;exact⟨g,k1,k2,mD.2 k3,k4⟩
 intro p hp ha;have hkey:p.1∈s.pin.aW.map (·.1):=hkeys p hp;obtain⟨x,hx⟩:=uZ (vs:=u++u') (n:=u.length) hkey;obtain⟨g,hg,how,hmem,hown,hsh⟩:=Qm p.1 x hx;have hl:=lK hn1 hp;have:g=p.2:=by have hg':(jE r').lookup p.1=some g:=hg;rw[hl]at hg';exact(WN hg').symm
 subst this;have hmk:(mk s.pin (u++u')).o p.1=x:=by show (match (fP (u++u') (dh (u++u') 0 s.pin.slots).2 s.pin.aW).1.lookup p.1 with|some x=>x|none=>O.none)=x;rw[Ql,hx]
 rw[hmk];generalize hz:o p.2=z at how ha;rcases hsh with⟨ws,rfl⟩|⟨l,sz,rfl⟩|⟨l,sz,ah,rfl⟩
 .cases how;cases ha
 .cases how;rfl
 .cases how;rfl
theorem Ur(h:Rel E st gh val w){s:zf}(hok:s.ok=true){args:List S}{vals:Nat->Value}(hr :∀t,dn E st gh w (args.getD t .no) (vals t)){c:Ld}(hc:iq s st.o args=some c)(hf:c.fine s=true)
  (st1:St) (hst1:st1=st.aB (c.uD.map (Fw.aN st.o)) []) (E':Env) (hE':E'=V6 h st1 c) :
  Rel E st1 gh val w/\Lets E st st1 gh gh w w/\Rel E' (mk s.pin c.ins) (jD gh λg'=>c.ren.lookup g') vals w/\
  (∀p∈c.ren,(st.o p.2).bJ=true/\p.2∉c.uD/\c.ren.lookup p.1=some p.2/\((s.bC.contains p.1=true/\∃ws ws',st.o p.2=.box ws/\(mk s.pin c.ins).o p.1=.box ws')\/(∃a i sz l,st.o p.2=.arr false a i sz l/\cin (a,i) c.I/\(mk s.pin c.ins).o p.1=.arr false false true sz l)\/(∃a i sz ah l,st.o p.2=.aF a i sz ah l none/\cin (a,i) c.I/\(mk s.pin c.ins).o p.1=.aF false true sz ah l none))):=by
 unfold iq at hc;split at hc
 rotate_left
 cases hc;rename_i u A gs r hsl;split at hc
 rotate_left
 cases hc;rename_i u' I r' hob;cases hc;simp only[Ld.fine,X1,Z1,NS,WP,XX,WD,decide_eq_false_iff_not,XN,forall_exists_index,and_imp,forall_apply_eq_imp_iff₂]at hf;obtain⟨⟨⟨hn2,hn1⟩,hdisj⟩,hkeys⟩:=hf;have hn1:=iW hn1;have hok':=hok;simp only[zf.ok,X1]at hok';obtain⟨⟨⟨⟨⟨⟨⟨⟨aaC,V7⟩,hps⟩,hpo⟩,_⟩,_⟩,_⟩,_⟩,_⟩:=hok';have ahZ:=uY hsl;obtain⟨f1,f2⟩:=Rel.freezes gs h ahZ;subst hst1;have hm :∀p∈r',(λg'=>(jE r').lookup g') p.1=some p.2:=λp hp=>lK hn1 (mD.2 hp);have hAt:At (u++u') 0 (u++u'):=λk y hk=>by rw[V1];exact hk
 have ahY :∀p∈s.pin.aW,match p.2 with|.box ws=>∀k∈ws,k.flags false true=true|.arr fz a i _=>fz=false/\a=false/\i=true|.aF a i _ _=>a=false/\i=true|.it=>False:=by
  intro p hp;have:=(Z1.1 hpo) p hp;obtain⟨g,k⟩:=p;cases k with
  |box ws=>simp only[X1,Z1]at this;exact λk hk=>this.1 k hk
  |arr fz a i sz=>simp only[X1,WD]at this;exact⟨this.1.1,this.1.2,this.2⟩
  |aF a i sz ah=>simp only[X1,WD]at this;exact this
  |it=>simp at this
 have Ql:(dh (u++u') 0 s.pin.slots).2=u.length:=by
  have :∀{L:List (Nat×SS)} {us:List P} {c:Bool×Bool} {gs:List Nat} {r:List (Nat×Nat)} {n:Nat} (vs:List P),dW st.o args L=some (us,c,gs,r)->(∀p∈L,p.2.flags true false=true)->(dh vs n L).2=n+us.length:=by
   intro L
   induction L with
   |nil=>intro us c gs r n vs h _;simp[dW]at h;obtain⟨rfl,_⟩:=h;rfl
   |cons p L ih=>
    intro us c gs r n vs h hk;obtain⟨t0,k⟩:=p;simp only[dW]at h;split at h
    rotate_left
    cases h;rename_i u c1 g1 r1 u' c2 g2 r2 h1 h2;cases h;have e1:(mkS vs n k).2=n+u.length:=by
     have hkk:=hk (t0,k) (by simp);have one :∀(k:WS) (x:W) (us:List P) (c:Bool×Bool) (gs:List Nat) (r:List (Nat×Nat)) (n:Nat),fC st.o k x=some (us,c,gs,r)->(pG vs n k).2=n+us.length:=by
      intro k x us c gs r n h;cases k with
      |p a i=>
       simp only[fC]at h;split at h
       .simp only[Q0,QP]at h;obtain⟨rfl,_⟩:=h;rfl
       .cases h
      |own g'=>cases x<;>simp[fC]at h;obtain⟨rfl,_⟩:=h;rfl
      |box g' off=>
       cases off with
       |succ off=>cases x<;>simp[fC]at h
       |zero=>
        cases x with
        |box g off=>cases off<;>simp[fC]at h;obtain⟨rfl,_⟩:=h;rfl
        |_=>simp[fC]at h
      |b_=>simp[fC]at h
      |fn f gs0=>
       cases x with
       |clo f' caps=>
        simp only[fC]at h;split at h
        .split at h
         .simp only[Q0,QP]at h;obtain⟨rfl,_⟩:=h;rfl
         .cases h
        .cases h
       |_=>simp[fC]at h
      |mO g'=>simp[fC]at h
      |no=>simp[fC]at h
      |vw g'=>simp[fC]at h
      |ep g' off=>simp[fC]at h
     cases k with
     |one k=>
      generalize args.getD t0 S.no=z at h1;cases z with
      |v z=>
       cases z with
       |one z=>exact one k z _ _ _ _ n h1
       |agg z=>simp[nM]at h1
      |_=>simp[nM]at h1
     |agg ks=>
      generalize args.getD t0 S.no=z at h1;cases z with
      |v z=>
       cases z with
       |one z=>simp[nM]at h1
       |agg z=>
        have :∀(ks:List WS) (z:List W) (us:List P) (c:Bool×Bool) (gs:List Nat) (r:List (Nat×Nat)) (n:Nat),jo st.o ks z=some (us,c,gs,r)->(kH vs n ks).2=n+us.length:=by
         intro ks
         induction ks with
         |nil=>intro z us c gs r n h;cases z<;>simp[jo]at h;obtain⟨rfl,_⟩:=h;rfl
         |cons k ks ih=>
          intro z us c gs r n h;cases z with
          |nil=>simp[jo]at h
          |cons x xs=>
           simp only[jo]at h;split at h
           .rename_i u c1 g1 r1 u' c2 g2 r2 h1 h2;cases h;simp only[kH];rw[one k x _ _ _ _ n h1,ih _ _ _ _ _ _ h2];simp;omega
           .cases h
        exact this ks z _ _ _ _ n h1
      |_=>simp[nM]at h1
    simp only[dh];rw[e1,ih vs h2 (λp hp=>hk p (by simp[hp]))];simp;omega
  have:=this (n:=0) (u++u') hsl (λp hp=>by have:=(Z1.1 hps) p hp;simp only[X1]at this;exact this.1);omega
 obtain⟨⟨r0,hr0⟩,Qm⟩:=sU (m:=λg'=>(jE r').lookup g') (nil:=λ_=>False) (I:=I) (ins:=u++u') (n:=u.length) hob ahY (Ij I) hm (by have:=hAt.right;rwa [V1]at this);have C9 :∀g' x,(mk s.pin (u++u')).o g'=x->x≠.none->∃g,(jE r').lookup g'=some g/\Ow (Cio I) (λg'=>(jE r').lookup g') (λ_=>False) (st.o g) x/\(g',g)∈jE r'/\(st.o g).bJ=true/\((∃ws,x=.box ws)\/(∃l sz,x=.arr false false true sz l)\/∃l sz ah,x=.aF false true sz ah l none):=by intro g' x hx hne;have:=Um (j:=s.pin) (vs:=u++u') (g:=g') (by rw[hx];exact hne);rw[Ql,hx]at this;obtain⟨g,k1,k2,k3,k4⟩:=Qm g' x this;exact⟨g,k1,k2,mD.2 k3,k4⟩
 have h_ :∀p∈jE r',(st.o p.2).bJ=true/\p.2∉gs/\(jE r').lookup p.1=some p.2/\((s.bC.contains p.1=true/\∃ws ws',st.o p.2=.box ws/\(mk s.pin (u++u')).o p.1=.box ws')\/(∃a i sz l,st.o p.2=.arr false a i sz l/\cin (a,i) I/\(mk s.pin (u++u')).o p.1=.arr false false true sz l)\/(∃a i sz ah l,st.o p.2=.aF a i sz ah l none/\cin (a,i) I/\(mk s.pin (u++u')).o p.1=.aF false true sz ah l none)):=by
  intro p hp;have hkey:p.1∈s.pin.aW.map (·.1):=hkeys p hp;obtain⟨x,hx⟩:=uZ (vs:=u++u') (n:=u.length) hkey;obtain⟨g,hg,how,hmem,hown,_⟩:=Qm p.1 x hx;have hl:=lK hn1 hp;have:g=p.2:=by have hg':(jE r').lookup p.1=some g:=hg;rw[hl]at hg';exact(WN hg').symm
  subst this;refine⟨hown,hdisj p hp,hl,?_⟩;have hmk:(mk s.pin (u++u')).o p.1=x:=by show (match (fP (u++u') (dh (u++u') 0 s.pin.slots).2 s.pin.aW).1.lookup p.1 with|some x=>x|none=>O.none)=x;rw[Ql,hx]
  obtain⟨k,n',h1,h2⟩:=kJ hx;have hk:=(Z1.1 hpo) _ h1;rw[hmk];subst h2;cases k with
  |box ws=>simp only[X1]at hk;generalize hz:st.o p.2=z at how;cases how;exact .inl ⟨hk.2,_,_,rfl,rfl⟩
  |arr fz a i sz=>simp only[X1,WD]at hk;obtain⟨⟨rfl,rfl⟩,rfl⟩:=hk;generalize hz:st.o p.2=z at how;refine .inr (.inl ?_);cases how with|arr _ _ _ hc=>exact⟨_,_,_,_,rfl,hc.2.2,rfl⟩
  |aF a i sz ah=>simp only[X1,WD]at hk;obtain⟨rfl,rfl⟩:=hk;generalize hz:st.o p.2=z at how;refine .inr (.inr ?_);cases how with|aF _ _ _ hc=>exact⟨_,_,_,_,_,rfl,hc.2.2,rfl⟩
  |it=>simp at hk
 have oV :∀g' b,((mk s.pin (u++u')).o g').bJ=true->(jD gh (λg'=>(jE r').lookup g') g').has b->∃g,(g',g)∈jE r'/\(st.o g).bJ=true/\(gh g).has b/\g∉gs:=by intro g' b ho had;obtain⟨g,hg,_,hmem,hown,_⟩:=C9 g' _ rfl (by intro e;rw[e]at ho;cases ho);refine⟨g,hmem,hown,?_,(h_ _ hmem).2.1⟩;simpa[jD,hg]using had
 have akF :∀g,g∉gs->(st.aB (gs.map (Fw.aN st.o)) []).o g=st.o g:=by intro g hg;rw[fJ,QR hg]
 have hcast:Cast (Cio I) (λg'=>(jE r').lookup g') (λ_=>False) E E' st (mk s.pin (u++u')) gh (jD gh λg'=>(jE r').lookup g') w:=by
  refine⟨λa i a' i' b hC hb=>?_,λg g' hg sz len ho=>⟨by simp only[jD,hg];exact⟨trivial,trivial⟩,?_⟩,λg g' hg ws ho=>⟨by simp only[jD,hg],?_⟩,λg g' hg s n ho=>⟨by simp only[jD,hg],?_⟩,λg' hf=>hf.elim⟩
  .obtain ⟨rfl,rfl,hci⟩:=hC;subst hE';refine⟨.inr (.inl ⟨rfl,.inl (Env.oH hci.1 hci.2 hb)⟩),hb.2.1,λg' ho had=>?_⟩;obtain⟨g,_,h1,h2,_⟩:=oV g' b ho had;exact hb.2.2 g h1 h2
  .obtain ⟨g2,hg2,how,_⟩:=C9 g' _ rfl (by intro e;rw[e]at ho;cases ho);rw[hg]at hg2;cases hg2;exact how.dim ho
  .obtain ⟨g2,hg2,how,_⟩:=C9 g' _ ho (by simp);rw[hg]at hg2;cases hg2;generalize st.o g=z at how;cases how;exact⟨_,rfl⟩
  .obtain ⟨g2,hg2,how,_⟩:=C9 g' _ ho (by simp);rw[hg]at hg2;cases hg2;generalize st.o g=z at how;cases how;exact⟨_,_,rfl⟩
 have hP :∀x v y a i gs',eH E st gh w x v->x.toP st.o=some (y,a,i,gs')->cin (a,i) A->(∀g∈gs',g∈gs)->bU w (E'.ok (mk s.pin (u++u')) (jD gh λg'=>(jE r').lookup g') w true false) y v:=by intro x v y a i gs' hrx ht hci hsub;have:=(NG h hrx ht).2 _ (λg hg=>by rw[fJ,Qt (hsub g hg)]) f1 f2;refine this.mono λb hb=>⟨?_,rfl⟩;subst hE';refine⟨.inl ⟨rfl,Env.oH hci.1 hci.2 hb⟩,hb.2.1,λg' ho had=>?_⟩;obtain⟨g,_,h1,h2,h3⟩:=oV g' b ho had;exact hb.2.2 g (by rw[akF g h3];exact h1) h2
 have aop :∀p∈s.pin.slots,p.2.flags true false=true:=λp hp=>by have:=(Z1.1 hps) p hp;simp only[X1]at this;exact this.1
 have qj:=(Bh hP hcast hr (n:=0) hsl aop (Ij A) (λg hg=>hg) (λp hp=>hm p (by rw[hr0];exact XS _ hp)) hAt.left).1;have hus:=agX aaC (u++u');refine⟨f1,f2,⟨λt=>?_,λg'=>?_,λg1 g2 b h1 h2 k1 k2=>?_,λg' b ho had=>?_,λg' i b ho had hw=>?_,λg' ho hd b=>?_,λb hb=>?_,λb _ _=>?_,?_,?_,?_,?_,hus.1,hus.2.1,hus.2.2⟩,h_⟩
 .show dn _ _ _ _ (match (dh (u++u') 0 s.pin.slots).1.lookup t with|some x=>x|none=>.no) _;cases hx:(dh (u++u') 0 s.pin.slots).1.lookup t with
  |none=>exact .no _
  |some x=>exact qj t x hx
 .by_cases hne:(mk s.pin (u++u')).o g'=.none
  .rw [hne];trivial
  .obtain ⟨g,hg,how,_⟩:=C9 g' _ rfl hne;have:jD gh (λg'=>(jE r').lookup g') g'=gh g:=by simp only[jD,hg]
   rw[this];exact hcast.Az how (h.aW g)
 .obtain ⟨q1,m1,o1,d1,_⟩:=oV g1 b h1 k1;obtain⟨q2,m2,o2,d2,_⟩:=oV g2 b h2 k2;have:=h.inj q1 q2 b o1 o2 d1 d2;subst this;have hn2:=iW hn2;have key :∀{l:List (Nat×Nat)},(l.map (·.2)).Nodup->(g1,q1)∈l->(g2,q1)∈l->g1=g2:=by
   intro l
   induction l with
   |nil=>intro _ h;cases h
   |cons p l ih=>
    intro hn e1 e2;simp only[X2,UI]at hn;rcases Xs.1 e1 with f1|f1<;>rcases Xs.1 e2 with f2|f2
    .rw [<-f1]at f2;cases f2;rfl
    .have:q1∈l.map (·.2):=XN.2 ⟨(g2,q1),f2,rfl⟩;rw[<-f1]at hn;exact absurd this hn.1
    .have:q1∈l.map (·.2):=XN.2 ⟨(g1,q1),f1,rfl⟩;rw[<-f2]at hn;exact absurd this hn.1
    .exact ih hn.2 f1 f2
  exact key hn2 m1 m2
 .obtain ⟨g,hmem,h1,h2,_⟩:=oV g' b ho had;subst hE';exact⟨.inr ⟨(g',g),hmem,h1,h2⟩,(h.wr g b h1 h2).2⟩
 .obtain ⟨g,hg,how,hmem,hown,hsh⟩:=C9 g' _ rfl (by intro e;rw[e]at ho;cases ho);rcases hsh with⟨ws,e⟩|⟨l',sz',e⟩|⟨l',sz',ah,e⟩
  .rw [e]at ho;cases ho
  .rw [e]at ho;cases ho;rfl
  .rw [e]at ho;cases ho;rfl
 .obtain ⟨g,hg,how,hmem,hown,hsh⟩:=C9 g' _ rfl (by intro e;rw[e]at ho;cases ho);have e:jD gh (λg'=>(jE r').lookup g') g'=gh g:=by simp only[jD,hg]
  rw[e];exact h.ns g hown (by rw[(how.bJ ho).2];exact hd) b
 .subst hE';obtain⟨p,hp,_,h1⟩:=hb;exact(h.wr p.2 b (h_ p hp).1 h1).2
 .subst hE';rfl
 .subst hE';exact ZD _
 .subst hE';rfl
 .subst hE';rfl
 .subst hE';rfl
end
end Go.Fw

namespace Go.Fw
variable [dV]
def EK(A I:Bool×Bool)(lk:Bool)(a i a' i':Bool):Prop:=(a',i')=ql A I a i/\(a=true->lk=true)
section
variable {A I:Bool×Bool} {lk:Bool} {m:Nat->Option Nat} {f:Nat->Nat} {aQ:List Nat} {vs:List P}
theorem agY(hm :∀g∈aQ,m (f g)=some g){k:WS}(hk:k.cZ aQ=true)(hl:k.isA=true->lk=true)(n:Nat):
  Ww (EK A I lk) m (λ_=>False) (pG vs n k).1 (TN A I f (pG vs n k).1)/\∀g∈(TN A I f (pG vs n k).1).names,∃g0∈aQ,g=f g0:=by
 cases k with
 |p a i=>exact⟨.p _ ⟨rfl,hl⟩,by simp[pG,TN,W.names]⟩
 |own g=>simp only[WS.cZ,WP,XX]at hk;exact⟨.own (hm g hk),λg' hg'=>⟨g,hk,by simpa[pG,TN,W.names]using hg'⟩⟩
 |b_=>exact⟨.b_,by simp[pG,TN,W.names]⟩
 |box g off=>simp only[WS.cZ,WP,XX]at hk;exact⟨.box (hm g hk),λg' hg'=>⟨g,hk,by simpa[pG,TN,W.names]using hg'⟩⟩
 |fn fn gs=>
  have hk :∀g∈gs,g∈aQ:=by simpa[WS.cZ,Z1]using hk
  have key :∀(gs:List Nat),(∀g∈gs,g∈aQ)->(fO gs).length=(jW f (fO gs)).length/\(∀(j:Nat) x y,(fO gs)[j]?=some x->(jW f (fO gs))[j]?=some y->Ww (EK A I lk) m (λ_=>False) x y)/\∀g∈(jW f (fO gs)).flatMap W.names,∃g0∈aQ,g=f g0:=by
   intro gs
   induction gs with
   |nil=>intro _;exact⟨rfl,λj x y hx=>(by simp[fO]at hx),by simp[fO,jW]⟩
   |cons g gs ih=>
    intro h;obtain⟨e1,e2,e3⟩:=ih λg hg=>h g (by simp[hg]);refine⟨by simp[fO,jW,e1],λj x y hx hy=>?_,λg' hg'=>?_⟩
    .cases j with
     |zero=>simp[fO,jW]at hx hy;subst hx hy;exact .box (hm g (h g (by simp)))
     |succ j=>simp[fO,jW]at hx hy;exact e2 j x y hx hy
    .simp only[fO,jW,W0,QQ]at hg';rcases hg' with hg'|hg'
     .exact ⟨g,h g (by simp),by simpa[W.names]using hg'⟩
     .exact e3 g' hg'
  obtain⟨e1,e2,e3⟩:=key gs hk;exact⟨.clo fn _ _ e1 e2,λg hg=>by have hg:g∈(W.clo fn (jW f (fO gs))).names:=hg;rw[sQ]at hg;exact e3 g hg⟩
 |mO g=>cases hk
 |no=>cases hk
 |vw g=>cases hk
 |ep g off=>cases hk
theorem Qn:∀{ks:List WS} {n:Nat} {x:W},x∈(kH vs n ks).1->∃k∈ks,∃n',x=(pG vs n' k).1
 | [],n,x,h=>by simp[kH]at h
 |k::ks,n,x,h=>by
  simp only[kH,Xs]at h;rcases h with h|h
  .exact ⟨k,by simp,n,h⟩
  .obtain ⟨k',h1,h2⟩:=Qn h;exact⟨k',by simp[h1],h2⟩
theorem aaD(hm :∀g∈aQ,m (f g)=some g){ks:List WS}(hk:ks.all (WS.cZ aQ)=true)(hl:ks.any WS.isA=true->lk=true)(n:Nat):
  (∀(j:Nat) x y,(kH vs n ks).1[j]?=some x->((kH vs n ks).1.map (TN A I f))[j]?=some y->Ww (EK A I lk) m (λ_=>False) x y)/\
  ∀g∈((kH vs n ks).1.map (TN A I f)).flatMap W.names,∃g0∈aQ,g=f g0:=by
 have key :∀x∈(kH vs n ks).1,Ww (EK A I lk) m (λ_=>False) x (TN A I f x)/\∀g∈(TN A I f x).names,∃g0∈aQ,g=f g0:=by intro x hx;obtain⟨k,h1,n',rfl⟩:=Qn hx;exact agY hm ((Z1.1 hk) k h1) (λh=>hl (vj.2 ⟨k,h1,h⟩)) n'
 refine⟨λj x y hx hy=>?_,λg hg=>?_⟩
 .rw [Z3,hx]at hy;simp only[W2,Q0]at hy;subst hy;exact(key x (Ys hx)).1
 .simp only[YY,XN]at hg;obtain⟨_,⟨x,hx,rfl⟩,hg⟩:=hg;exact(key x hx).2 g hg
theorem akG(hm :∀g∈aQ,m (f g)=some g){k:SS}(hk:k.cZ aQ=true)(hl:k.isA=true->lk=true)(n:Nat):
  ∃x,(mkS vs n k).1=.v x/\Vw (EK A I lk) m (λ_=>False) x (reV A I f x)/\∀g∈(reV A I f x).names,∃g0∈aQ,g=f g0:=by
 cases k with
 |one k=>obtain⟨h1,h2⟩:=agY (vs:=vs) (A:=A) (I:=I) hm hk hl n;exact⟨_,rfl,.one h1,h2⟩
 |agg ks=>obtain⟨h1,h2⟩:=aaD (vs:=vs) (A:=A) (I:=I) hm hk hl n;exact⟨_,rfl,.agg _ _ (by simp) h1,h2⟩
theorem akH(hm :∀g∈aQ,m (f g)=some g){k:OS}(hk :∀ws,k=.box ws->ws.all (WS.cZ aQ)=true)(hl:k.isA=true->lk=true)(n:Nat):
  Ow (EK A I lk) m (λ_=>False) (sN vs n k).1 (wM A I f (sN vs n k).1)/\∀g∈(wM A I f (sN vs n k).1).names,∃g0∈aQ,g=f g0:=by
 cases k with
 |box ks=>obtain⟨h1,h2⟩:=aaD (vs:=vs) (A:=A) (I:=I) hm (hk ks rfl) hl n;exact⟨.box _ _ (by simp) h1,h2⟩
 |arr fz a i sz=>exact⟨.arr _ _ _ ⟨rfl,hl⟩,by simp[sN,wM,O.names]⟩
 |it=>exact⟨.it _ _,by simp[sN,wM,O.names]⟩
 |aF a i sz ah=>exact⟨.aF _ _ _ ⟨rfl,hl⟩,by simp[sN,wM,O.names,bZ]⟩
end
theorem Lm{A I:Bool×Bool}{f:Nat->Nat}(x:O):(wM A I f x).bJ=x.bJ:=by cases x<;>rfl
theorem Us{A I:Bool×Bool}{f:Nat->Nat}(x:O):(wM A I f x).nH=x.nH:=by cases x<;>rfl
theorem aer{A I:Bool×Bool}{f:Nat->Nat}(x:O):(wM A I f x).dim=x.dim:=by cases x<;>rfl
theorem YC{A I:Bool×Bool}{f:Nat->Nat}{x:O}{i:Bool}(h:(wM A I f x).inner=some i):∃a i0,x.inner=some i0/\i=(ql A I a i0).2:=by
 cases x with
 |arr fz a i0 sz l=>
  cases fz with
  |false=>cases h;exact⟨a,i0,rfl,rfl⟩
  |true=>cases h
 |aF a i0 sz ah l hole=>cases h;exact⟨a,i0,rfl,rfl⟩
 |_=>cases h
theorem aes{A I:Bool×Bool}{f:Nat->Nat}{x:O}{ws:List W}(h:wM A I f x=.box ws):∃ws',x=.box ws':=by cases x<;>first|exact⟨_,rfl⟩|cases h
theorem ah0{A I:Bool×Bool}{f:Nat->Nat}{x:O}{s n:P}(h:wM A I f x=.it s n):∃s' n',x=.it s' n':=by cases x<;>first|exact⟨_,_,rfl⟩|cases h
theorem EL{d:Nat}{aQ:List Nat}{g g':Nat}(hg:g∈aQ)(h:newName d aQ g=newName d aQ g'):g=g':=by
 unfold newName at h;have e:aQ.idxOf g=aQ.idxOf g':=by omega
 have h1:aQ.idxOf g<aQ.length:=KV hg;have h2:aQ.idxOf g'<aQ.length:=by omega
 have a1:=vE h1;have a2:=vE h2;rw[<-a1,<-a2];congr 1
def xq(d:Nat)(aQ:List Nat)(g:Nat):Option Nat:=aQ.find? λg0=>newName d aQ g0==g
theorem NV{d:Nat}{aQ:List Nat}{g:Nat}(hg:g∈aQ):xq d aQ (newName d aQ g)=some g:=by
 unfold xq;cases h:aQ.find? λg0=>newName d aQ g0==newName d aQ g with
 |none=>have:=List.find?_eq_none.1 h g hg;simp at this
 |some g'=>have h1:=vu h;simp only[beq_iff_eq]at h1;rw[EL (Ki h) h1]
theorem KG{d:Nat}{aQ:List Nat}{g g0:Nat}(h:xq d aQ g=some g0):g0∈aQ/\newName d aQ g0=g:=by unfold xq at h;exact⟨Ki h,by simpa using vu h⟩
theorem kW{α:Type}{g:Nat}:∀{l r:List (Nat×α)},(l++r).lookup g=(l.lookup g).or (r.lookup g)
 | [],r=>by simp
 |(k,v)::l,r=>by
  simp only[Ke,List.lookup];split
  .rfl
  .exact kW
theorem xu{α:Type}{k:Nat->Nat}{v:Nat->α}{g:Nat}:∀{l:List Nat},(∀g'∈l,k g'≠g)->(l.map λx=>(k x,v x)).lookup g=none
 | [],_=>rfl
 |x::l,h=>by
  have:(g==k x)=false:=by have:=h x (by simp);simp;exact λe=>this e.symm
  simp only[X2,List.lookup,this];exact xu λg' hg'=>h g' (by simp[hg'])
theorem wB{α:Type}{k:Nat->Nat}{v:Nat->α}{g0:Nat}:∀{l:List Nat},g0∈l->(∀g'∈l,k g'=k g0->g'=g0)->(l.map λx=>(k x,v x)).lookup (k g0)=some (v g0)
 | [],h,_=>by cases h
 |x::l,h,hi=>by
  simp only[X2,List.lookup];by_cases e:k x=k g0
  .have:=hi x (by simp) e;subst this;simp
  .have:(k g0==k x)=false:=by simp;exact λh=>e h.symm
   rw[this];rcases Xs.1 h with h|h
   .subst h;exact absurd rfl e
   .exact wB h λg' hg'=>hi g' (by simp[hg'])
theorem kK{α:Type}{v:Nat×Nat->α}{p:Nat×Nat}:∀{l:List (Nat×Nat)},(l.map (·.2)).Nodup->p∈l->(l.map λp=>(p.2,v p)).lookup p.2=some (v p)
 | [],_,h=>by cases h
 |x::l,hn,h=>by
  simp only[X2,UI]at hn;simp only[X2,List.lookup];rcases Xs.1 h with h|h
  .subst h;simp
  .have:(p.2==x.2)=false:=by simp only[beq_eq_false_iff_ne];intro e;exact hn.1 (e▸XN.2 ⟨p,h,rfl⟩)
   rw[this];exact kK hn.2 h
theorem lu{α:Type}{v:Nat×Nat->α}{g:Nat}:∀{l:List (Nat×Nat)},g∉l.map (·.2)->(l.map λp=>(p.2,v p)).lookup g=none
 | [],_=>rfl
 |x::l,h=>by
  simp only[X2,Xs,not_or]at h;have:(g==x.2)=false:=by simpa using h.1
  simp only[X2,List.lookup,this];exact lu h.2
theorem O.Lr{z:O}(h:O.none.like z):z=.none:=by cases z<;>first|rfl|exact h.elim
theorem O.Ik{x y z:O}(h1:x.like y)(h2:y.like z):z=.none\/x.like z:=.inr (O.like.trans h1 h2)
theorem Ut{s:zf}{o:Nat->O}{args:List S}{c:Ld}(hc:iq s o args=some c):wU o c.uD:=by
 unfold iq at hc;split at hc
 .rename_i hsl;split at hc
  .cases hc;exact uY hsl
  .cases hc
 .cases hc
theorem zL{α:Type}{g:Nat}{v:α}:∀{l:List (Nat×α)},l.lookup g=some v->(g,v)∈l
 | [],h=>by cases h
 |(k,x)::l,h=>by
  simp only[List.lookup]at h;split at h
  .rename_i e;simp only[beq_iff_eq]at e;cases h;subst e;simp
  .exact WK _ (zL h)
theorem qQ{o:Nat->O}:∀{L:List (Nat×OS)} {r r':List (Nat×Nat)} {u:List P} {c:Bool×Bool},ji o r L=some (u,c,r')->(∀p∈r,p∈r')/\∀p∈L,∃q∈r',q.1=p.1
 | [],r,r',u,c,h=>by simp only[ji,Q0,QP]at h;obtain⟨_,_,rfl⟩:=h;exact⟨λp hp=>hp,λp hp=>by cases hp⟩
 |(g',k)::rest,r,r',u,c,h=>by
  simp only[ji]at h;split at h
  rotate_left
  cases h;rename_i g hg;have hmem:=zL hg;have fin :∀{r1:List (Nat×Nat)},(∀p∈r,p∈r1)->((∀p∈r1,p∈r')/\∀p∈rest,∃q∈r',q.1=p.1)->(∀p∈r,p∈r')/\∀p∈(g',k)::rest,∃q∈r',q.1=p.1:=by
   intro r1 h1 ⟨h2,h3⟩;refine⟨λp hp=>h2 p (h1 p hp),λp hp=>?_⟩;rcases Xs.1 hp with rfl|hp
   .exact ⟨_,h2 _ (h1 _ hmem),rfl⟩
   .exact h3 p hp
  split at h
  .split at h
   .split at h
    .rename_i h2;simp only[Q0,QP]at h;obtain⟨_,_,rfl⟩:=h;exact fin (λp hp=>XS _ hp) (qQ h2)
    .cases h
   .cases h
  .split at h
   .split at h
    .rename_i h2;simp only[Q0,QP]at h;obtain⟨_,_,rfl⟩:=h;exact fin (λp hp=>hp) (qQ h2)
    .cases h
   .cases h
  .split at h
   .split at h
    .rename_i h2;simp only[Q0,QP]at h;obtain⟨_,_,rfl⟩:=h;exact fin (λp hp=>hp) (qQ h2)
    .cases h
   .cases h
  .cases h
theorem aeu{j:Shape}{vs:List P}{g:Nat}{a i:Bool}{sz:Nat}{ah:List (Nat×Nat)}{l:List (List P)}{hole:Option (Nat×Nat×Nat)}(h:(mk j vs).o g=.aF a i sz ah l hole):hole=none:=by have h1:=Um (j:=j) (vs:=vs) (g:=g) (by rw[h];simp);obtain⟨k,n',_,h2⟩:=kJ h1;rw[h]at h2;cases k<;>simp[sN]at h2;exact h2.2.2.2.2.2
theorem Il{s:zf}{d:Nat}{o:Nat->O}{c:Ld}{cZ:List P}(hf:c.fine s=true){p:Nat×Nat}(hp:p∈c.ren)(Kt:s.bC.contains p.1=true):
  (jX s d o c cZ).aB.lookup p.2=some (wM c.A c.I (callName d s c.ren) ((mk s.aO cZ).o p.1)):=by
 simp only[Ld.fine,X1]at hf;obtain⟨⟨⟨hn2,hn1⟩,hdisj⟩,hkeys⟩:=hf;have hnb:p.2∉c.uD:=by have:=(Z1.1 hdisj) p.2 (XN.2 ⟨p,hp,rfl⟩);simpa using this
 have h1:(if s.lJ=true then c.uD.map (aN o)else[]).lookup p.2=none:=by
  split
  rotate_left
  rfl;have :∀(l:List Nat),p.2∉l->(l.map (aN o)).lookup p.2=none:=by
   intro l
   induction l with
   |nil=>intro _;rfl
   |cons g l ih=>
    intro hl;simp only[Xs,not_or]at hl;have e:(p.2==(aN o g).1)=false:=by have:(aN o g).1=g:=rfl;rw[this];simpa using hl.1
    simp only[X2,List.lookup,e];exact ih hl.2
  exact this _ hnb
 have h2:=kK (v:=λp=>if s.bC.contains p.1=true then wM c.A c.I (callName d s c.ren) ((mk s.aO cZ).o p.1)else .none) (iW hn2) hp;rw[Qt Kt]at h2;show (((if s.lJ=true then c.uD.map (aN o)else[])++c.ren.map _)++s.aQ.map _).lookup p.2=_;rw[kW,kW,h1,h2];rfl
theorem YD{s:zf}(hok:s.ok=true){d:Nat}{o:Nat->O}{args:List S}{c:Ld}(hc:iq s o args=some c)(hf:c.fine s=true){cZ:List P}{p:Nat×Nat}(hp:p∈c.ren)(Kt:s.bC.contains p.1=true)
  (hk:qP ((mk s.aO cZ).o p.1)=qP ((mk s.pin c.ins).o p.1)) (ha:Un (o p.2)=true) (hfl:rX (wM c.A c.I (callName d s c.ren) ((mk s.aO cZ).o p.1))=rX (o p.2)) :
  (jX s d o c cZ).aB.lookup p.2=some (o p.2):=by
 rw[Il hf hp Kt];have hcore:=hk.trans (YB hok hc hf p hp ha);have hm:=λ{a i:Bool} {sz:Nat} {ah:List (Nat×Nat)} {l:List (List P)} {hole:Option (Nat×Nat×Nat)}=>aeu (j:=s.aO) (vs:=cZ) (g:=p.1) (a:=a) (i:=i) (sz:=sz) (ah:=ah) (l:=l) (hole:=hole);congr 1;generalize (mk s.aO cZ).o p.1=x at hcore hfl hm;have e:qP (wM c.A c.I (callName d s c.ren) x)=qP (o p.2):=by
  rw[<-hcore];cases x with
  |aF a i sz ah l hole=>have:=hm rfl;subst this;rfl
  |arr fz a i sz l=>rfl
  |_=>generalize o p.2=z at hcore ha;cases z<;>first|(cases ha;done)|(simp[qP]at hcore;done)
 exact(Uo e.symm hfl.symm ha).symm
theorem Qo{s:zf}{o:Nat->O}{args:List S}{c:Ld}(hc:iq s o args=some c):∀p∈s.pin.aW,∃q∈c.ren,q.1=p.1:=by
 unfold iq at hc;split at hc
 .split at hc
  .rename_i Kt;cases hc;exact λp hp=>let ⟨q,h1,h2⟩:=(qQ Kt).2 p hp;⟨q,mD.2 h1,h2⟩
  .cases hc
 .cases hc
section
variable {E:Env} {st:St} {gh:Nat->Gh} {w:World} {val:Nat->Value}
theorem YE{sp:Spec}(hok:sp.sig.ok=true)(h:Rel E st gh val w){args:List S}{vals:List Value}(hr :∀t,dn E st gh w (args.getD t .no) (vals.getD t undef))
  {c:Ld} (hc:iq sp.sig st.o args=some c) (hf:c.fine sp.sig=true) :
  ∃(E':Env) (lZ:Nat->Gh),E'.B0=w.heap.size/\E'.w0=w/\Rel E' (mk sp.sig.pin c.ins) lZ (λk=>vals.getD k undef) w/\(∀b,E'.Wr b->∃c e f,w.heap[b]?=some (.cells c e f))/\
  ∀(d:Nat) (cZ:List P) (ef:Eff),ef=jX sp.sig d st.o c cZ->(∀g∈ef.new,st.used g=false)->∀(w':World) (rs:List Value) (yY:Nat->Gh),rs.length=sp.sig.cO->Rel E' (mk sp.sig.aO cZ) yY (λk=>rs.getD k undef) w'->(∀g∈sp.sig.bC,((yY g).ad=(lZ g).ad/\(yY g).cap=(lZ g).cap)/\((mk sp.sig.pin c.ins).o g).like ((mk sp.sig.aO cZ).o g))->
   ∃bG,Rel E (st.aB ef.aB ef.new) bG val w'/\Lets E st (st.aB ef.aB ef.new) gh bG w w'/\dn E (st.aB ef.aB ef.new) bG w' ef.x (Yx rs)/\∀g∈ef.x.names,(st.aB ef.aB ef.new).used g=true:=by
 have hrr :∀t,dn E st gh w (args.getD t .no) ((λk=>vals.getD k undef) t):=hr;obtain⟨h1,hL1,hE,h_⟩:=Ur h hok hrr hc hf _ rfl _ rfl;refine⟨_,_,rfl,rfl,hE,λb hb=>?_,λd cZ ef hef hnew w' rs yY hrl hx Uu=>?_⟩
 .obtain ⟨p,hp,ow,e1⟩:=hb;have hO:=h.aW p.2;rcases (h_ p hp).2.2.2 with⟨_,ws,_,e,_⟩|⟨a,i,sz,l,e,_⟩|⟨a,i,sz,ah,l,e,_⟩
  .rw [e]at hO;obtain⟨ad',c,e',q1,_,q3,_⟩:=hO;rcases e1 with⟨ad,k1,k2⟩|k1
   .rw [k1]at q1;cases q1;rw[<-k2];exact⟨_,_,_,q3⟩
   .rw [h.ns p.2 ow (by rw[e];rfl) b]at k1;cases k1
  .rw [e]at hO;rcases e1 with⟨ad,k1,k2⟩|k1
   .rcases hO with⟨q1,_⟩|⟨ad',c,e',q1,_,q3,_⟩
    .rw [k1]at q1;cases q1
    .rw [k1]at q1;cases q1;rw[<-k2];exact⟨_,_,_,q3⟩
   .rw [h.ns p.2 ow (by rw[e];rfl) b]at k1;cases k1
  .rw [e]at hO;rcases hO with⟨q1,_,_,q2⟩|⟨ad',c,e',q1,_,q3,_,_,_,⟨_,q4⟩,_⟩
   .rcases e1 with⟨ad,k1,k2⟩|k1
    .rw [k1]at q1;cases q1
    .rw [q2 b]at k1;cases k1
   .rcases e1 with⟨ad,k1,k2⟩|k1
    .rw [k1]at q1;cases q1;rw[<-k2];exact⟨_,_,_,q3⟩
    .exact q4 b k1
 generalize hst1:st.aB (c.uD.map (Fw.aN st.o)) []=st1 at h1 hL1 hE hx;generalize hE':V6 h st1 c=E' at hE hx;generalize YF:mk sp.sig.aO cZ=wQ at hx;have hok':=hok;simp only[zf.ok,X1]at hok';obtain⟨⟨⟨⟨⟨⟨⟨⟨aaC,V7⟩,hps⟩,hpo⟩,hos⟩,zD⟩,hdisj⟩,hnn⟩,agZ⟩:=hok';have hnn:=iW hnn;simp only[Ld.fine,X1]at hf;have hn2:=iW hf.1.1.1;have ah1 :∀g∈sp.sig.aQ,sp.sig.bC.contains g=false:=by
  intro g hg;cases hi:sp.sig.bC.contains g with
  |false=>rfl
  |true=>have:=(Z1.1 hdisj) g (by simpa using hi);simp[hg]at this
 generalize hfn:callName d sp.sig c.ren=f;have Qp :∀g∈sp.sig.aQ,f g=newName d sp.sig.aQ g:=λg hg=>by subst hfn;unfold callName;rw[ah1 g hg]
 have ars:sp.sig.aQ.map f=sp.sig.aQ.map (newName d sp.sig.aQ):=W4 Qp;have ah2 :∀g,sp.sig.bC.contains g=true->∃g',(g,g')∈c.ren/\f g=g':=by
  intro g hi;have akI:=(Z1.1 agZ) g (by simpa using hi);cases h1:sp.sig.pin.aW.lookup g with
  |none=>rw[h1]at akI;cases akI
  |some k1=>obtain⟨q,hq,e⟩:=Qo hc _ (zL h1);obtain⟨q1,q2⟩:=q;simp only at e;subst e;refine⟨q2,hq,?_⟩;subst hfn;unfold callName;rw[hi,(h_ _ hq).2.2.1]
 generalize hbk:xq d sp.sig.aQ=bk;have hbn :∀g∈sp.sig.aQ,bk (f g)=some g:=λg hg=>by rw[Qp g hg];subst hbk;exact NV hg
 have hbs :∀g g0,bk g=some g0->g0∈sp.sig.aQ/\f g0=g:=λg g0 hb=>by subst hbk;obtain⟨b1,b2⟩:=KG hb;exact⟨b1,by rw[Qp g0 b1];exact b2⟩
 have hfi :∀g∈sp.sig.aQ,∀g'∈sp.sig.aQ,f g=f g'->g=g':=λg hg g' hg' e=>by rw[Qp g hg,Qp g' hg']at e;exact EL hg e
 have aev:ef.new=sp.sig.aQ.map f:=by subst hef;subst hfn;rfl
 have ah3:ef.aB=(if sp.sig.lJ then c.uD.map (Fw.aN st.o)else[])++c.ren.map (λp=>(p.2,if sp.sig.bC.contains p.1 then wM c.A c.I f (wQ.o p.1)else .none))++sp.sig.aQ.map (λg=>(f g,wM c.A c.I f (wQ.o g))):=by subst hef;subst hfn;subst YF;rfl
 have akJ:ef.x=Yv ((List.range sp.sig.cO).map λk=>VZ c.A c.I f (wQ.s k)):=by subst hef;subst hfn;subst YF;rfl
 have aso :∀g,bk g=none->g∉ef.new:=λg hb hm=>by rw[aev]at hm;obtain⟨g0,h1,rfl⟩:=XN.1 hm;rw[hbn g0 h1]at hb;cases hb
 have hbu :∀g,st.used g=true->bk g=none:=λg hu=>by
  cases hb:bk g with
  |none=>rfl
  |some g0=>obtain⟨h1,h2⟩:=hbs g g0 hb;have:=hnew g (by rw[aev];exact XN.2 ⟨g0,h1,h2⟩);rw[hu]at this;cases this
 let stB:St:=if sp.sig.lJ then st1 else st
 have hB:Rel E stB gh val w/\Lets E st stB gh gh w w:=by
  by_cases hlk:sp.sig.lJ=true
  .have:stB=st1:=by simp[stB,hlk]
   rw[this];exact⟨h1,hL1⟩
  .have:stB=st:=by simp[stB,hlk]
   rw[this];exact⟨h,⟨λa i b hb=>⟨hb,rfl⟩,λg _=>.inr ⟨⟨rfl,rfl⟩,O.eU _⟩⟩⟩
 obtain⟨YG,hLB⟩:=hB;have hBs:stB.s=st.s:=by
  by_cases hlk:sp.sig.lJ=true
  .have:stB=st1:=by simp[stB,hlk]
   rw[this,<-hst1];rfl
  .have:stB=st:=by simp[stB,hlk]
   rw[this]
 have hBu:stB.used=st.used:=by
  by_cases hlk:sp.sig.lJ=true
  .have:stB=st1:=by simp[stB,hlk]
   rw[this,<-hst1];rfl
  .have:stB=st:=by simp[stB,hlk]
   rw[this]
 have hBo :∀g,stB.o g=(if g∈c.uD/\sp.sig.lJ=true then(Fw.aN st.o g).2 else st.o g):=by
  intro g;by_cases hlk:sp.sig.lJ=true
  .have:stB=st1:=by simp[stB,hlk]
   rw[this,<-hst1,fJ];by_cases hg:g∈c.uD<;>simp[hg,hlk]
  .have:stB=st:=by simp[stB,hlk]
   rw[this];simp[hlk]
 have V8 :∀g,(stB.o g).bJ=true->(st.o g).bJ=true:=by
  intro g hg;rw[hBo]at hg;split at hg
  .cases hp:plainO st.o g with
   |none=>simpa[Fw.aN,hp]using hg
   |some x=>obtain⟨a,i,sz,l⟩:=x;rw[lY hp]at hg;cases hg
  .exact hg
 have hBr :∀p∈c.ren,stB.o p.2=st.o p.2:=by intro p hp;rw[hBo,QR λh=>(h_ p hp).2.1 h.1]
 generalize aew:st.aB ef.aB ef.new=Io;have hFs:Io.s=st.s:=by subst aew;rfl
 have hFu :∀g,st.used g=true->Io.used g=true:=λg hg=>by subst aew;simp[St.aB,hg]
 have hFn :∀g∈sp.sig.aQ,Io.used (f g)=true:=λg hg=>by
  subst aew;have:f g∈ef.new:=by rw[aev];exact XN.2 ⟨g,hg,rfl⟩
  simp[St.aB,this]
 have V9 :∀p∈c.ren,st.used p.2=true:=λp hp=>h.ul p.2 (by intro e;have:=(h_ p hp).1;rw[e]at this;cases this);have arv :∀g∈c.uD,st.used g=true\/st.o g=.none:=λg hg=>by
  by_cases hn:st.o g=.none
  .exact .inr hn
  .exact .inl (h.ul g hn)
 have hFo :∀g,Io.o g=match ef.aB.lookup g with|some x=>x|none=>st.o g:=λg=>by subst aew;rfl
 have V_ :∀g∈sp.sig.aQ,Io.o (f g)=wM c.A c.I f (wQ.o g):=by
  intro g hg;have hfu:st.used (f g)=false:=hnew _ (by rw[aev];exact XN.2 ⟨g,hg,rfl⟩);have e2:(c.ren.map (λp=>(p.2,if sp.sig.bC.contains p.1 then wM c.A c.I f (wQ.o p.1)else .none))).lookup (f g)=none:=lu λhm=>by obtain⟨p,hp,e⟩:=XN.1 hm;rw[<-e,V9 p hp]at hfu;cases hfu
  have e3:=wB (k:=f) (v:=λg=>wM c.A c.I f (wQ.o g)) hg λg' hg' e=>hfi g' hg' g hg e;have e1:(if sp.sig.lJ then c.uD.map (Fw.aN st.o)else[]).lookup (f g)=none:=by
   split
   .rw [lI,QR];intro hm;have:=wU.used h (Ut hc) hm;rw[this]at hfu;cases hfu
   .rfl
  rw[hFo,ah3,kW,kW,e1,e2,e3];rfl
 have Ls :∀p∈c.ren,Io.o p.2=if sp.sig.bC.contains p.1 then wM c.A c.I f (wQ.o p.1)else .none:=by
  intro p hp;have e1:(if sp.sig.lJ then c.uD.map (Fw.aN st.o)else[]).lookup p.2=none:=by
   split
   .rw [lI,QR (h_ p hp).2.1]
   .rfl
  have e2:=kK (v:=λp=>if sp.sig.bC.contains p.1 then wM c.A c.I f (wQ.o p.1)else O.none) hn2 hp;rw[hFo,ah3,kW,kW,e1,e2];rfl
 have Qq :∀g,bk g=none->g∉c.ren.map (·.2)->Io.o g=stB.o g:=by
  intro g hb hg;have e2:=lu (v:=λp=>if sp.sig.bC.contains p.1 then wM c.A c.I f (wQ.o p.1)else O.none) hg;have e3:(sp.sig.aQ.map (λg=>(f g,wM c.A c.I f (wQ.o g)))).lookup g=none:=xu λg' hg' e=>by have:=hbn g' hg';rw[e,hb]at this;cases this
  rw[hFo,ah3,kW,kW,e2,e3,hBo];by_cases hlk:sp.sig.lJ=true
  .rw [Qt hlk,lI];by_cases hg:g∈c.uD<;>simp[hg,hlk]
  .simp [hlk]
 have ag0 :∀p∈c.ren,sp.sig.bC.contains p.1=true->(yY p.1).ad=(gh p.2).ad/\(yY p.1).cap=(gh p.2).cap:=by intro p hp hi;have:=(Uu p.1 (by simpa using hi)).1;have e:=(h_ p hp).2.2.1;simp only[jD,e]at this;exact this
 generalize hbk2:(λg=>match bk g with|some g0=>some g0|none=>(c.ren.find? (λ(p:Nat×Nat)=>p.2==g&&sp.sig.bC.contains p.1)).map (λ(p:Nat×Nat)=>p.1))=bk2;have akL :∀g g0,bk2 g=some g0->(g0∈sp.sig.aQ/\f g0=g)\/(bk g=none/\sp.sig.bC.contains g0=true/\(g0,g)∈c.ren):=by
  intro g g0 hb;subst hbk2;simp only at hb;cases h1:bk g with
  |some g1=>rw[h1]at hb;cases hb;exact .inl (hbs g _ h1)
  |none=>rw[h1]at hb;simp only[W7]at hb;obtain⟨p,hp,rfl⟩:=hb;have q1:=Ki hp;have q2:=vu hp;simp only[X1,beq_iff_eq]at q2;obtain⟨rfl,q3⟩:=q2;exact .inr ⟨rfl,q3,q1⟩
 have hb2 :∀g∈sp.sig.aQ++sp.sig.bC,bk2 (f g)=some g:=by
  intro g hg;subst hbk2;simp only;rcases QQ.1 hg with hg|hg
  .rw [hbn g hg]
  .have hi:sp.sig.bC.contains g=true:=by simpa using hg
   obtain⟨g',hm,e⟩:=ah2 g hi;rw[e,hbu g' (V9 _ hm)];cases h1:c.ren.find? λp=>p.2==g'&&sp.sig.bC.contains p.1 with
   |none=>have:=List.find?_eq_none.1 h1 _ hm;simp at this;exact absurd hg this
   |some p=>
    have q1:=Ki h1;have q2:=vu h1;simp only[X1,beq_iff_eq]at q2;obtain⟨e2,q3⟩:=q2;have l1:=(h_ _ hm).2.2.1;have e3:p=(g,g'):=by have:=kK (v:=λp=>p) hn2 q1;have h2:=kK (v:=λp=>p) hn2 hm;rw[e2]at this;simp only at h2;rw[this]at h2;exact WN h2
    rw[e3];rfl
 let bG:Nat->Gh:=λg=>match bk2 g with|some g0=>yY g0|none=>gh g
 have hfp :∀p∈c.ren,sp.sig.bC.contains p.1=true->f p.1=p.2:=by intro p hp hi;obtain⟨g',hm,e⟩:=ah2 p.1 hi;have l1:=(h_ _ hm).2.2.1;have l2:=(h_ _ hp).2.2.1;simp only at l1;rw[l2]at l1;rw[e,<-WN l1]
 have hgb :∀g g0,bk2 g=some g0->bG g=yY g0:=λg g0 hb=>by simp only[bG,hb]
 have hgn :∀g∈sp.sig.aQ,bG (f g)=yY g:=λg hg=>hgb _ _ (hb2 g (XS _ hg));have hgi :∀p∈c.ren,sp.sig.bC.contains p.1=true->bG p.2=yY p.1:=by intro p hp hi;have:=hb2 p.1 (We _ (by simpa using hi));rw[hfp p hp hi]at this;exact hgb _ _ this
 have hgo :∀g,bk g=none->g∉c.ren.map (·.2)->bG g=gh g:=λg hb hm=>by
  cases h2:bk2 g with
  |none=>simp only[bG,h2]
  |some g0=>
   rcases akL g g0 h2 with⟨b1,b2⟩|⟨_,_,b3⟩
   .rw [<-b2,hbn g0 b1]at hb;cases hb
   .exact absurd (XN.2 ⟨_,b3,rfl⟩) hm
 have hFb :∀g g0,bk2 g=some g0->Io.o g=wM c.A c.I f (wQ.o g0):=λg g0 hb=>by
  rcases akL g g0 hb with⟨b1,b2⟩|⟨_,b2,b3⟩
  .rw [<-b2];exact V_ g0 b1
  .have e:=Ls _ b3;simp only[b2,if_true]at e;exact e
 have aaE :∀g∈sp.sig.aQ++sp.sig.bC,Io.used (f g)=true:=by intro g hg;rcases QQ.1 hg with hg|hg;exact hFn g hg;obtain⟨g',hm,e⟩:=ah2 g (by simpa using hg);rw[e];exact hFu _ (V9 _ hm)
 have hxo :∀g0,wQ.o g0≠.none->∃k n',(g0,k)∈sp.sig.aO.aW/\wQ.o g0=(sN cZ n' k).1:=λg0 hn=>by subst YF;exact kJ (Um hn)
 have akM :∀g0,sp.sig.bC.contains g0=true->(∃ws,(mk sp.sig.pin c.ins).o g0=.box ws)->∃ws,wQ.o g0=.box ws:=by
  rintro g0 hi ⟨ws,hb⟩;have hk:=(Z1.1 agZ) g0 (by simpa using hi);cases h1:sp.sig.pin.aW.lookup g0 with
  |none=>rw[h1]at hk;cases hk
  |some k1=>
   cases h2:sp.sig.aO.aW.lookup g0 with
   |none=>rw[h1,h2]at hk;cases k1<;>cases hk
   |some k2=>
    rw[h1,h2]at hk;obtain⟨n1,e1⟩:=NU (vs:=c.ins) h1;obtain⟨n2,e2⟩:=NU (vs:=cZ) h2;rw[hb]at e1;cases k1 with
    |box ks=>
     cases k2 with
     |box ks'=>subst YF;exact⟨_,e2⟩
     |arr=>cases hk
     |it=>cases hk
     |aF=>cases hk
    |arr=>cases e1
    |it=>cases e1
    |aF=>cases e1
 have aot :∀g0 k,(g0,k)∈sp.sig.aO.aW->k.isA=true->sp.sig.lJ=true:=λg0 k hm ha=>by simp only[zf.lJ,K3,vj];exact .inr ⟨_,hm,ha⟩
 have aou :∀t k,(t,k)∈sp.sig.aO.slots->k.isA=true->sp.sig.lJ=true:=λt k hm ha=>by simp only[zf.lJ,K3,vj];exact .inl ⟨_,hm,ha⟩
 have hOut :∀g0,Ow (EK c.A c.I sp.sig.lJ) bk2 (λ_=>False) (wQ.o g0) (wM c.A c.I f (wQ.o g0))/\∀g∈(wM c.A c.I f (wQ.o g0)).names,∃g1∈sp.sig.aQ++sp.sig.bC,g=f g1:=by
  intro g0;by_cases hn:wQ.o g0=.none
  .rw [hn];exact⟨.none _,by simp[wM,O.names]⟩
  .obtain ⟨k,n',h1,h2⟩:=hxo g0 hn;rw[h2];refine akH hb2 (λws e=>?_) (aot g0 k h1) n';subst e;have hk:=(Z1.1 zD) _ h1;simp only[X1]at hk;exact hk.1
 have Wh :∀g,(Io.o g).bJ=true->
   (∃g0,(wQ.o g0).bJ=true/\bG g=yY g0/\Io.o g=wM c.A c.I f (wQ.o g0)/\((g0∈sp.sig.aQ/\g=f g0)\/(sp.sig.bC.contains g0=true/\(g0,g)∈c.ren)))\/
   ((stB.o g).bJ=true/\bG g=gh g/\g∉c.ren.map (·.2)/\bk g=none/\Io.o g=stB.o g):=by
  intro g ho;cases hb:bk g with
  |some g0=>obtain⟨b1,b2⟩:=hbs g g0 hb;subst b2;have e:=V_ g0 b1;exact .inl ⟨g0,by rw[e,Lm]at ho;exact ho,hgn g0 b1,e,.inl ⟨b1,rfl⟩⟩
  |none=>
   by_cases hm:g∈c.ren.map (·.2)
   .obtain ⟨p,hp,e⟩:=XN.1 hm;subst e;have e:=Ls p hp;cases hi:sp.sig.bC.contains p.1 with
    |false=>rw[e,hi]at ho;cases ho
    |true=>rw[hi,Qt rfl]at e;exact .inl ⟨p.1,by rw[e,Lm]at ho;exact ho,hgi p hp hi,e,.inr ⟨hi,hp⟩⟩
   .have e:=Qq g hb hm;exact .inr ⟨by rw[e]at ho;exact ho,hgo g hb hm,hm,by first|exact hb|rfl,e⟩
 have hsplit :∀g b,(Io.o g).bJ=true->(bG g).has b->
   (∃g0,(wQ.o g0).bJ=true/\(yY g0).has b/\Io.o g=wM c.A c.I f (wQ.o g0)/\((g0∈sp.sig.aQ/\g=f g0)\/(sp.sig.bC.contains g0=true/\(g0,g)∈c.ren)))\/
   ((stB.o g).bJ=true/\(gh g).has b/\g∉c.ren.map (·.2)/\bk g=none/\Io.o g=stB.o g):=by
  intro g b ho had;rcases Wh g ho with⟨g0,q1,q2,q3⟩|⟨q1,q2,q3⟩
  .exact .inl ⟨g0,q1,by rw[<-q2];exact had,q3⟩
  .exact .inr ⟨q1,by rw[<-q2];exact had,q3⟩
 have aaF :∀b,E'.Wr b->∃p∈c.ren,(gh p.2).has b:=λb hb=>by subst hE';obtain⟨p,hp,_,h1⟩:=hb;exact⟨p,hp,h1⟩
 have hEB:E'.B0=w.heap.size:=by subst hE';rfl
 have hEw:E'.w0=w:=by subst hE';rfl
 have hframe :∀b,b<w.heap.size->¬ E'.Wr b->w'.heap[b]?=w.heap[b]?:=λb hb hw=>by rw[hx.frame b (by rw[hEB];exact hb) hw,hEw]
 have ah4 :∀b,(∀p∈c.ren,¬ (gh p.2).has b)->¬ E'.Wr b:=λb hb hw=>by obtain⟨p,hp,e1⟩:=aaF b hw;exact hb p hp e1
 have hsize:w.heap.size<=w'.heap.size:=by rw[<-hEB];exact hx.size
 have Eu :∀g,st.used g=true->Io.o g=.none\/(((bG g).ad=(gh g).ad/\(bG g).cap=(gh g).cap)/\(stB.o g).like (Io.o g)):=by
  intro g hu;have hb:=hbu g hu;by_cases hm:g∈c.ren.map (·.2)
  .obtain ⟨p,hp,e⟩:=XN.1 hm;subst e;cases hi:sp.sig.bC.contains p.1 with
   |false=>exact .inl (by rw[Ls p hp,hi];rfl)
   |true=>
    refine .inr ⟨by rw[hgi p hp hi];exact ag0 p hp hi,?_⟩;rw[hBr p hp,Ls p hp,hi,Qt rfl];have hlk:=(Uu p.1 (by simpa using hi)).2;rw[YF]at hlk;rcases (h_ p hp).2.2.2 with⟨_,ws,Uw,e,eb⟩|⟨a,i,sz,l,e,_,ea⟩|⟨a,i,sz,ah,l,e,_,ea⟩
    .obtain ⟨ws',e'⟩:=akM p.1 hi ⟨_,eb⟩;rw[e,e'];trivial
    .rw [ea]at hlk;rw[e];generalize wQ.o p.1=z at hlk;cases z with
     |none=>trivial
     |arr=>exact hlk
     |aF=>exact hlk.elim
     |box=>exact hlk.elim
     |it=>exact hlk.elim
    .rw [ea]at hlk;rw[e];generalize wQ.o p.1=z at hlk;cases z with
     |none=>trivial
     |arr=>exact hlk
     |aF=>exact hlk
     |box=>exact hlk.elim
     |it=>exact hlk.elim
  .rw [Qq g hb hm];exact .inr ⟨by rw[hgo g hb hm];exact⟨rfl,rfl⟩,O.eU _⟩
 have aaG:Lets E stB Io gh bG w w':=by
  refine⟨λa i b hb=>⟨⟨hb.1,by have:=hb.2.1;omega,λg ho had=>?_⟩,?_⟩,λg hu=>Eu g (by rw[<-hBu];exact hu)⟩
  .rcases hsplit g b ho had with⟨g0,o0,d0,_,_⟩|⟨o0,d0,_⟩
   .have hw0:=(hx.wr g0 b o0 d0).1;rw[hEB]at hw0;rcases hw0 with hw0|hw0
    .have:=hb.2.1;omega
    .obtain ⟨p,hp,e1⟩:=aaF b hw0;exact hb.2.2 p.2 (by rw[hBr p hp];exact(h_ p hp).1) e1
   .exact hb.2.2 g o0 d0
  .exact hframe b hb.2.1 (ah4 b λp hp e1=>hb.2.2 p.2 (by rw[hBr p hp];exact(h_ p hp).1) e1)
 have akN :∀b,E'.Wr b->E.Wr b->(∀g ws,wQ.o g=.box ws->(yY g).has b->sp.sig.bC.contains g=false)->c.I.2=true:=by
  intro b hb hEb hno;obtain⟨p,hp,e1⟩:=aaF b hb;rcases (h_ p hp).2.2.2 with⟨hi,ws,Uw,e,eb⟩|⟨a,i,sz,l,e,hci,_⟩|⟨a,i,sz,ah,l,e,hci,_⟩
  .obtain ⟨ws',e'⟩:=akM p.1 hi ⟨_,eb⟩;have:=hno p.1 ws' e' (by
    rcases e1 with⟨ad,k1,k2⟩|k1
    .exact .inl ⟨ad,by rw[(ag0 p hp hi).1];exact k1,k2⟩
    .rw [h.ns p.2 (h_ p hp).1 (by rw[e];rfl) b]at k1;cases k1)
   rw[hi]at this;cases this
  .exact hci.2 (h.wi p.2 i b (by rw[e];rfl) e1 hEb)
  .exact hci.2 (h.wi p.2 i b (by rw[e];rfl) e1 hEb)
 have hcls :∀{a i a' i':Bool} {A:Bool×Bool},(A.1=true->a'=true)->(A.2=true->i'=true)->∀{b:Nat},((A.1=true/\E.FA b)\/(A.2=true/\(E.FI b\/E.Wr b))\/E.B0<=b\/dV.has b)->((a'=true/\E.FA b)\/(i'=true/\(E.FI b\/E.Wr b))\/E.B0<=b\/dV.has b):=by
  intro a i a' i' A h1 h2 b hb;rcases hb with⟨q1,q2⟩|⟨q1,q2⟩|q
  .exact .inl ⟨h1 q1,q2⟩
  .exact .inr (.inl ⟨h2 q1,q2⟩)
  .exact .inr (.inr q)
 have hcast:Cast (EK c.A c.I sp.sig.lJ) bk2 (λ_=>False) E' E wQ Io yY bG w':=by
  refine⟨λa i a' i' b hC hb=>?_,λg g' hm sz len ho=>⟨by rw[hgb g' g hm];exact⟨rfl,rfl⟩,by rw[hFb g' g hm,aer]at ho;exact ho⟩,
   λg g' hm ws ho=>⟨by rw[hgb g' g hm],by rw[hFb g' g hm]at ho;exact aes ho⟩,λg g' hm s n ho=>⟨by rw[hgb g' g hm],by rw[hFb g' g hm]at ho;exact ah0 ho⟩,λg' hf=>hf.elim⟩
  obtain⟨hC,hA⟩:=hC;have ha':a'=((a&&c.A.1)||(i&&c.I.1)):=ZS Prod.fst hC;have hi':i'=((a&&c.A.2)||(i&&c.I.2)):=ZS Prod.snd hC;have ag1 :∀g,(wQ.o g).bJ=true->¬ (yY g).has b:=hb.2.2;have hcase:((a'=true/\E.FA b)\/(i'=true/\(E.FI b\/E.Wr b))\/E.B0<=b\/dV.has b)/\(∀g,(stB.o g).bJ=true->g∉c.ren.map (·.2)->¬ (gh g).has b):=by
   have hb1:=hb.1;subst hE';rcases hb1 with⟨ha,hFA⟩|⟨hi,hFI|hWr⟩|hge|hgl
   .have hlk:=hA ha;have hst:stB=st1:=by simp[stB,hlk]
    refine⟨hcls (a:=a) (i:=i) (A:=c.A) (by intro h;simp[ha',ha,h]) (by intro h;simp[hi',ha,h]) hFA.1,λg ho _=>?_⟩;rw[hst]at ho;exact hFA.2.2 g ho
   .refine ⟨hcls (a:=a) (i:=i) (A:=c.I) (by intro h;simp[ha',hi,h]) (by intro h;simp[hi',hi,h]) hFI.1,λg ho _=>?_⟩;exact hFI.2.2 g (V8 g ho)
   .obtain ⟨p,hp,ow,e1⟩:=hWr;refine⟨?_,λg ho hng had=>?_⟩
    .rcases (h.wr p.2 b (h_ p hp).1 e1).1 with q|q;exact .inr (.inr (.inl q));have:=akN b ⟨p,hp,ow,e1⟩ q λg Uw o1 d1=>absurd d1 (ag1 g (by rw[o1];rfl));exact .inr (.inl ⟨by simp[hi',hi,this],.inr q⟩)
    .have:=h.inj g p.2 b (V8 g ho) (h_ p hp).1 had e1;exact hng (this▸XN.2 ⟨p,hp,rfl⟩)
   .refine ⟨.inr (.inr (.inl (J0 h.size hge))),λg ho _ had=>?_⟩;have:=(YG.wr g b ho had).2;have hge:w.heap.size<=b:=hge;omega
   .refine ⟨.inr (.inr (.inr hgl)),λg ho _ had=>?_⟩;obtain⟨g1,g2⟩:=E.aaj hgl;rcases (YG.wr g b ho had).1 with q|q
    .omega
    .exact g2 q
  refine⟨hcase.1,hb.2.1,λg ho had=>?_⟩;rcases hsplit g b ho had with⟨g0,o0,d0,_,_⟩|⟨o0,d0,n0,_⟩
  .exact ag1 g0 o0 d0
  .exact hcase.2 g o0 n0 d0
 have ag2 :∀g0,lF E Io bG w' (wM c.A c.I f (wQ.o g0)) (yY g0):=λg0=>hcast.Az (hOut g0).1 (hx.aW g0);have KH:Rel E Io bG val w':=by
  refine YG.step aaG (hFs.trans hBs.symm) (λg hg=>hFu g (by rw[<-hBu];exact hg)) (λg=>?_) (λg1 g2 b h1 h2 k1 k2=>?_) (λg b ho had=>?_) (λg i b ho had hw=>?_) (λg ho hd b=>?_) (λb hb hw=>?_) hsize (by rw[hx.os,hEw]) (by rw[hx.tape,hEw]) (by rw[hx.output,hEw]) (λg g' hg'=>?_) (λg hg=>?_)
  .cases hb:bk g with
   |some g0=>obtain⟨b1,b2⟩:=hbs g g0 hb;subst b2;rw[V_ g0 b1,hgn g0 b1];exact ag2 g0
   |none=>
    by_cases hm:g∈c.ren.map (·.2)
    .obtain ⟨p,hp,e⟩:=XN.1 hm;subst e;rw[Ls p hp];cases hi:sp.sig.bC.contains p.1 with
     |false=>trivial
     |true=>rw[Qt rfl,hgi p hp hi];exact ag2 p.1
    .rw [Qq g hb hm,hgo g hb hm];refine aaG.Az (λho b had=>hframe _ (YG.wr g b ho had).2 (ah4 _ λp hp e1=>?_)) (λg' hg'=>YG.uo g g' hg') (YG.aW g);have:=h.inj p.2 g b (h_ p hp).1 (V8 g ho) e1 had;exact hm (this▸XN.2 ⟨p,hp,rfl⟩)
  .have mixed :∀g1 g2 b g0,(wQ.o g0).bJ=true->(yY g0).has b->(stB.o g2).bJ=true->(gh g2).has b->g2∉c.ren.map (·.2)->g1=g2:=by
    intro g1 g2 b g0 o1 d1 o2 d2 n2;exfalso;rcases (hx.wr g0 b o1 d1).1 with q|q
    .rw [hEB]at q;have:=(YG.wr g2 b o2 d2).2;omega
    .obtain ⟨p,hp,e1⟩:=aaF _ q;have:=h.inj p.2 g2 b (h_ p hp).1 (V8 g2 o2) e1 d2;exact n2 (this▸XN.2 ⟨p,hp,rfl⟩)
   rcases hsplit g1 b h1 k1 with⟨q1,o1,d1,_,l1⟩|⟨o1,d1,n1,_⟩<;>rcases hsplit g2 b h2 k2 with⟨q2,o2,d2,_,l2⟩|⟨o2,d2,n2,_⟩
   rotate_left
   exact mixed g1 g2 b q1 o1 d1 o2 d2 n2;exact(mixed g2 g1 b q2 o2 d2 o1 d1 n1).symm;exact YG.inj g1 g2 b o1 o2 d1 d2;have:=hx.inj q1 q2 b o1 o2 d1 d2;subst this;rcases l1 with⟨m1,e1⟩|⟨i1,m1⟩<;>rcases l2 with⟨m2,e2⟩|⟨i2,m2⟩
   .rw [e1,e2]
   .rw [ah1 q1 m1]at i2;cases i2
   .rw [ah1 q1 m2]at i1;cases i1
   .have l1:=(h_ _ m1).2.2.1;have l2:=(h_ _ m2).2.2.1;rw[l1]at l2;exact WN l2
  .rcases hsplit g b ho had with⟨g0,o0,d0,_,_⟩|⟨o0,d0,_⟩
   .have:=hx.wr g0 b o0 d0;refine⟨?_,this.2⟩;rcases this.1 with q|q
    .rw [hEB]at q;exact .inl (J0 h.size q)
    .obtain ⟨p,hp,e1⟩:=aaF _ q;exact(h.wr p.2 b (h_ p hp).1 e1).1
   .have:=YG.wr g b o0 d0;exact⟨this.1,by omega⟩
  .rcases hsplit g b (O.kF ho) had with⟨g0,o0,d0,e0,l0⟩|⟨o0,d0,_,_,e0⟩
   .rw [e0]at ho;obtain⟨a1,i1,h1,e2⟩:=YC ho;have hlt:b<w.heap.size:=by have:=h.wb _ hw;have:=h.size;omega
    rcases (hx.wr g0 b o0 d0).1 with q|q
    .rw [hEB]at q;omega
    .have hi1:=hx.wi g0 i1 b h1 d0 q;have:=akN b q hw λg3 ws3 o3 d3=>by have:=hx.inj g3 g0 b (by rw[o3];rfl) o0 d3 d0;subst this;rw[o3]at h1;cases h1
     rw[e2];simp[ql,hi1,this]
   .rw [e0]at ho;exact YG.wi g i b ho d0 hw
  .rcases Wh g ho with⟨g0,o0,e,e0,_⟩|⟨o0,e,_,_,e0⟩
   .rw [e];exact hx.ns g0 o0 (by rw[e0,Us]at hd;exact hd) b
   .rw [e];exact YG.ns g o0 (by rw[e0]at hd;exact hd) b
  .refine hframe b (Vi hb h.size) (ah4 b λp hp e1=>?_);rcases (h.wr p.2 b (h_ p hp).1 e1).1 with q|q
   .omega
   .exact hw q
  .cases hb:bk g with
   |some g0=>obtain⟨b1,b2⟩:=hbs g g0 hb;subst b2;rw[V_ g0 b1]at hg';obtain⟨g1,m1,rfl⟩:=(hOut g0).2 g' hg';exact aaE g1 m1
   |none=>
    by_cases hm:g∈c.ren.map (·.2)
    .obtain ⟨p,hp,e⟩:=XN.1 hm;subst e;rw[Ls p hp]at hg';cases hi:sp.sig.bC.contains p.1 with
     |false=>rw[hi]at hg';simp[O.names]at hg'
     |true=>rw[hi,Qt rfl]at hg';obtain⟨g1,m1,rfl⟩:=(hOut p.1).2 g' hg';exact aaE g1 m1
    .rw [Qq g hb hm]at hg';exact hFu g' (by rw[<-hBu];exact YG.uo g g' hg')
  .cases hb:bk g with
   |some g0=>obtain⟨b1,b2⟩:=hbs g g0 hb;subst b2;exact hFn g0 b1
   |none=>
    by_cases hm:g∈c.ren.map (·.2)
    .obtain ⟨p,hp,e⟩:=XN.1 hm;subst e;exact hFu _ (V9 p hp)
    .rw [Qq g hb hm]at hg;exact hFu g (by rw[<-hBu];exact YG.ul g hg)
 have akO :∀k,qH E Io bG w' (VZ c.A c.I f (wQ.s k)) (rs.getD k undef)/\∀g∈(VZ c.A c.I f (wQ.s k)).names,∃g1∈sp.sig.aQ++sp.sig.bC,g=f g1:=by
  intro k;have hk:=hx.slots k;subst YF;have e0:(mk sp.sig.aO cZ).s k=match (dh cZ 0 sp.sig.aO.slots).1.lookup k with|some x=>x|none=>.no:=rfl
  cases hxk:(dh cZ 0 sp.sig.aO.slots).1.lookup k with
  |none=>rw[e0,hxk];exact⟨.one _ _ (.no _),by simp[VZ,V.names,W.names]⟩
  |some x=>rw[hxk]at e0;rw[e0]at hk ⊢;obtain⟨kk,n',h1,h2⟩:=xk hxk;obtain⟨y,e,h3,h4⟩:=akG (vs:=cZ) (A:=c.A) (I:=c.I) hb2 ((Z1.1 hos) _ h1) (aou k kk h1) n';simp only[h2,e]at hk ⊢;cases hk with|v _ _ hk=>exact⟨hcast.Yj h3 hk,h4⟩
 refine⟨bG,KH,⟨λa i b hb=>?_,λg hu=>?_⟩,?_,?_⟩
 .obtain ⟨q1,q2⟩:=hLB.ok a i b hb;exact aaG.ok a i b q1
 .rcases Eu g hu with q|⟨q1,q2⟩;exact .inl q;rcases hLB.names g hu with q|⟨_,q⟩
  .rw [q]at q2;rcases O.Ik (x:=.none) (O.eU _) q2 with q|q
   .exact .inl q
   .exact .inl (O.Lr q)
  .rcases O.Ik q q2 with q|q
   .exact .inl q
   .exact .inr ⟨q1,q⟩
 .rw [akJ];have hl:((List.range sp.sig.cO).map λk=>VZ c.A c.I f (wQ.s k)).length=rs.length:=by simp[hrl]
  have hj :∀(j:Nat) x v,((List.range sp.sig.cO).map λk=>VZ c.A c.I f (wQ.s k))[j]?=some x->rs[j]?=some v->qH E Io bG w' x v:=by
   intro j x v hx' hv;rw[Z3]at hx';obtain⟨k,hk,rfl⟩:=W7.1 hx';obtain⟨hlt,hk⟩:=Q4.1 hk;simp at hk;subst hk;have:=(akO j).1
   rwa [Q2,hv]at this
  generalize (List.range sp.sig.cO).map (λk=>VZ c.A c.I f (wQ.s k))=xs at hl hj;unfold Yv Yx
  match xs,rs,hl,hj with
  | [],[],_,hj=>exact .lq _ _ rfl hj
  | [x],[v],_,hj=>exact .v _ _ (hj 0 x v rfl rfl)
  |x::y::xs,v::u::vs,hl,hj=>exact .lq _ _ hl hj
 .intro g hg;have :∃k,g∈(VZ c.A c.I f (wQ.s k)).names:=by
   rw[akJ]at hg;generalize hxs:(List.range sp.sig.cO).map (λk=>VZ c.A c.I f (wQ.s k))=xs at hg;have hin :∃x∈xs,g∈x.names:=by
    unfold Yv at hg;split at hg
    .exact ⟨_,by simp,hg⟩
    .simpa [S.names,YY]using hg
   obtain⟨x,hx1,hx2⟩:=hin;rw[<-hxs]at hx1;obtain⟨k,_,rfl⟩:=XN.1 hx1;exact⟨k,hx2⟩
  obtain⟨k,hk⟩:=this;obtain⟨g1,m1,rfl⟩:=(akO k).2 g hk;exact aaE g1 m1
theorem Ux{Pg:Program}{fn:FuncId}{sp:Spec}(hs:Sound Pg fn sp)(h:Rel E st gh val w){args:List S}{vals:List Value}(hr :∀t,dn E st gh w (args.getD t .no) (vals.getD t undef))(hlen:vals.length=sp.sig.bD)
  {c:Ld} (hc:iq sp.sig st.o args=some c) (hf:c.fine sp.sig=true) {cZ:List P} (hR:sp.R c.ins cZ) (d:Nat)
  {ef:Eff} (hef:ef=jX sp.sig d st.o c cZ) (hnew :∀g∈ef.new,st.used g=false) :
  Calls Pg fn vals.toArray w λe w'=>∃v bG,e=.returned v/\Rel E (st.aB ef.aB ef.new) bG val w'/\Lets E st (st.aB ef.aB ef.new) gh bG w w'/\dn E (st.aB ef.aB ef.new) bG w' ef.x v/\∀g∈ef.x.names,(st.aB ef.aB ef.new).used g=true:=by
 obtain⟨E',lZ,q1,q2,q3,_,q4⟩:=YE hs.1 h hr hc hf;refine Calls.mono (hs.2.2 E' w vals lZ c.ins cZ hR q1 q2 q3 hlen) λe w' he=>?_;obtain⟨rs,yY,hrl,rfl,hx,Uu⟩:=he;obtain⟨bG,r1,r2,r3,r4⟩:=q4 d cZ ef hef hnew w' rs yY hrl hx Uu;exact⟨_,bG,rfl,r1,r2,r3,r4⟩
end
end Go.Fw

namespace Go.Fw
variable [dV]
section
variable {o o':Nat->O}
theorem Du{g:Nat}{x:Bool×Bool×Nat×List (List P)}(h:plainO o g=some x):(o g).names=(o g).hn/\∀d∈(o g).hn,(o d).hn=[]:=by
 obtain⟨a,i,sz,l⟩:=x;rcases uN h with⟨fz,h⟩|⟨ah,h⟩|⟨a0,i0,ah,l0,n,c,d,fz',a',i',sz',l',h,hd,_⟩
 .rw [h];exact⟨rfl,λd hd=>by cases hd⟩
 .rw [h];exact⟨rfl,λd hd=>by cases hd⟩
 .rw [h];refine⟨rfl,λd' hd'=>?_⟩;simp only[O.hn,bZ,Q6]at hd';subst hd';rw[hd];rfl
theorem NW{g:Nat}(h:Agree o o' g):aN o g=aN o' g:=by simp only[aN,AA h,h.1]
theorem Qr{g d:Nat}(h:Agree o o' g){x:Bool×Bool×Nat×List (List P)}(hp:plainO o g=some x)(hd:d∈(o g).hn):Agree o o' d:=by refine⟨h.2 d hd,λd' hd'=>?_⟩;rw[(Du hp).2 d hd]at hd';cases hd'
theorem Dv{x:W}(h :∀g∈x.names,Agree o o' g):x.toP o=x.toP o':=by cases x<;>simp only[W.toP]<;>(try rw[AA (h _ (by simp[W.names])),(h _ (by simp[W.names])).1])
theorem zM{x:W}{y:P}{a i:Bool}{gs:List Nat}(h:x.toP o=some (y,a,i,gs))(hx :∀g∈x.names,Agree o o' g):∀g∈gs,Agree o o' g:=by
 cases x<;>simp only[W.toP]at h
 case p=>simp only[Q0,QP]at h;obtain⟨_,_,_,rfl⟩:=h;simp
 case b_=>simp only[Q0,QP]at h;obtain⟨_,_,_,rfl⟩:=h;simp
 case own g=>
  split at h
  rotate_left
  cases h;rename_i hp;simp only[Q0,QP]at h;obtain⟨_,_,_,rfl⟩:=h;have hg:=hx g (by simp[W.names]);rw[(Du hp).1];intro d hd;rcases QQ.1 hd with hd|hd;exact Qr hg hp hd;rw[Q6]at hd;subst hd;exact hg
 case vw g lo hi=>
  split at h
  rotate_left
  cases h;rename_i hp;simp only[Q0,QP]at h;obtain⟨_,_,_,rfl⟩:=h;have hg:=hx g (by simp[W.names]);rw[(Du hp).1];intro d hd;rcases QQ.1 hd with hd|hd;exact Qr hg hp hd;rw[Q6]at hd;subst hd;exact hg
 all_goals cases h
theorem u_:∀{xs:List W},(∀x∈xs,∀g∈x.names,Agree o o' g)->wK o xs=wK o' xs
 | [],_=>rfl
 |x::xs,h=>by simp only[wK];rw[Dv (h x (by simp)),u_ λy hy=>h y (by simp[hy])]
theorem xw:∀{xs:List W} {ys:List P} {a i:Bool} {gs:List Nat},wK o xs=some (ys,a,i,gs)->(∀x∈xs,∀g∈x.names,Agree o o' g)->∀g∈gs,Agree o o' g
 | [],ys,a,i,gs,h,_=>by simp[wK]at h;obtain⟨_,_,_,rfl⟩:=h;simp
 |x::xs,ys,a,i,gs,h,hx=>by
  simp only[wK]at h;split at h
  rotate_left
  cases h;rename_i h1 h2;simp only[Q0,QP]at h;obtain⟨_,_,_,rfl⟩:=h;intro g hg;rcases QQ.1 hg with hg|hg
  .exact zM h1 (hx x (by simp)) g hg
  .exact xw h2 (λy hy=>hx y (by simp[hy])) g hg
theorem mY{gs:List Nat}(h :∀g∈gs,Agree o o' g):gs.map (aN o)=gs.map (aN o'):=W4 λg hg=>NW (h g hg)
theorem Ip{sz:Nat}{x:W}(h :∀g∈x.names,o g=o' g):x.rows o sz=x.rows o' sz:=by cases x<;>simp only[W.rows]<;>(try rw[h _ (by simp[W.names])])
theorem EM{x:W}(h :∀g∈x.names,o g=o' g):lenOf o x=lenOf o' x:=by cases x<;>simp only[lenOf]<;>(try rw[h _ (by simp[W.names])])
theorem zN{x:W}(h :∀g∈x.names,o g=o' g):x.live o=x.live o':=by cases x<;>simp only[W.live]<;>(try rw[h _ (by simp[W.names])])
theorem NY{tt:TT}{d:Nat}{sT:TypeId}{s x:W}(hs :∀g∈s.names,o g=o' g)(h :∀g∈x.names,o g=o' g):uH tt d o sT s x=uH tt d o' sT s x:=by
 unfold uH;split
 rotate_left
 rfl;split
 .split;rfl;rw[Ip h];split;rfl;cases s<;>simp only<;>(try rw[hs _ (by simp[W.names])])
 .rfl
theorem zO{place:Nat->Option (Nat×Nat)}:∀{ps:List (Nat×S)} {Lu ws:List W},lG place Lu ps=some ws->∀x∈ws,x∈Lu\/∃p∈ps,∀g∈x.names,g∈p.2.names
 | [],Lu,ws,h=>by simp only[lG,Q0]at h;subst h;intro x hx;exact .inl hx
 |(n,s)::ps,Lu,ws,h=>by
  cases s with
  |v y=>
   simp only[lG]at h;split at h
   rotate_left
   cases h;split at h
   rotate_left
   cases h;intro x hx;rcases zO h x hx with hx|⟨p,hp,hg⟩
   .unfold aJ at hx;rcases QQ.1 hx with hx|hx
    .rcases QQ.1 hx with hx|hx;exact .inl (W6 hx);refine .inr ⟨(n,.v y),by simp,λg hg=>?_⟩;cases y with
     |one y=>simp only[V.words,Q6]at hx;subst hx;simpa[S.names,V.names]using hg
     |agg ys=>simp only[V.words]at hx;simp only[S.names,V.names,YY];exact⟨x,hx,hg⟩
    .exact .inl (Up hx)
   .exact .inr ⟨p,by simp[hp],hg⟩
  |lq=>simp[lG]at h
  |no=>simp[lG]at h
theorem EN{y:V}{x:W}(h:x∈y.words){g:Nat}(hg:g∈x.names):g∈(S.v y).names:=by
 cases y with
 |one y=>simp only[V.words,Q6]at h;subst h;simpa[S.names,V.names]using hg
 |agg ys=>simp only[V.words]at h;simp only[S.names,V.names,YY];exact⟨x,h,hg⟩
theorem Bj{tt:TT}{d:Nat}{F F':Operand->S}{op:Op}{ty:TypeId}(hF :∀x∈op.operands.toList,F x=F' x)(hO :∀x∈op.operands.toList,∀g∈(F x).names,Agree o o' g):
  kernel tt d o F op ty=kernel tt d o' F' op ty:=by
 have ho :∀x∈op.operands.toList,∀g∈(F x).names,o g=o' g:=λx hx g hg=>(hO x hx g hg).1;cases op with
 |move x=>simp only[kernel,<-hF x (by simp[Op.operands])]
 |assign x=>simp only[kernel,<-hF x (by simp[Op.operands])]
 |pick c x y=>simp only[kernel,<-hF c (by simp[Op.operands]),<-hF x (by simp[Op.operands]),<-hF y (by simp[Op.operands])]
 |alloc t=>rfl
 |box t x=>simp only[kernel,<-hF x (by simp[Op.operands])]
 |build t ps=>
  have e:ps.toList.map (λp=>(p.1,F p.2))=ps.toList.map (λp=>(p.1,F' p.2)):=W4 λp hp=>by rw[hF p.2 (by simp only[Op.operands];exact XN.2 ⟨p,hp,rfl⟩)]
  simp only[kernel,<-e]
 |buildSlice t n ps=>
  have e:ps.toList.map (λp=>(p.1,F p.2))=ps.toList.map (λp=>(p.1,F' p.2)):=W4 λp hp=>by rw[hF p.2 (by simp only[Op.operands];exact XN.2 ⟨p,hp,rfl⟩)]
  simp only[kernel,<-e];split
  rotate_left
  rfl;split
  rotate_left
  rfl;rename_i ie _;split
  rotate_left
  rfl;rename_i ws hws;have hn :∀x∈ws,∀g∈x.names,Agree o o' g:=by
   intro x hx g hg;rcases zO hws x hx with h|⟨p,hp,h⟩
   .have:=wZ h;obtain⟨v,_,rfl⟩:=XN.1 this;rw[oI]at hg;cases hg
   .obtain ⟨q,hq,rfl⟩:=XN.1 hp;exact hO q.2 (by simp only[Op.operands];exact XN.2 ⟨q,hq,rfl⟩) g (h g hg)
  rw[<-u_ hn];split
  .rename_i h;rw[mY (xw h hn)]
  .rfl
 |load t x=>have hx:=hF x (by simp[Op.operands]);have hn:=ho x (by simp[Op.operands]);simp only[kernel,<-hx];generalize F x=sx at hn;split<;>simp_all [S.names,V.names,W.names]
 |store t x y=>
  have hx:=hF x (by simp[Op.operands]);have hy:=hF y (by simp[Op.operands]);have hn:=ho x (by simp[Op.operands]);have hm:=hO y (by simp[Op.operands]);simp only[kernel,<-hx,<-hy];generalize F x=sx at hn;generalize F y=sy at hm;split
  .rename_i g off y _;rw[hn g (by simp[S.names,V.names,W.names])]
  .rename_i g n off y _;rw[hn g (by simp[S.names,V.names,W.names])];have hw :∀x∈y.words,∀g∈x.names,Agree o o' g:=λx hx g hg=>hm g (EN hx hg);rw[<-u_ hw];cases hz:wK o y.words with
   |none=>cases o' g with|arr fz _ _ _ _=>cases fz<;>rfl|_=>rfl
   |some z=>
    obtain⟨ps,a',i'',gs⟩:=z;have e:=mY (xw hz hw);cases o' g with
    |arr fz _ _ _ _=>cases fz<;>simp only[e]
    |_=>rfl
  .rfl
 |nilCheck x=>
  have hx:=hF x (by simp[Op.operands]);have hn:=ho x (by simp[Op.operands]);simp only[kernel,<-hx];generalize F x=sx at hn;split
  .rw [zN λg hg=>hn g (by simpa[S.names,V.names]using hg)]
  .rfl
 |binOp op t x y u=>simp only[kernel,<-hF x (by simp[Op.operands]),<-hF y (by simp[Op.operands])]
 |unOp op t x=>simp only[kernel,<-hF x (by simp[Op.operands])]
 |convert s t x=>
  have hx:=hF x (by simp[Op.operands]);have hn:=ho x (by simp[Op.operands]);simp only[kernel,<-hx];generalize F x=sx at hn;split
  .rfl
  .rw [Ip λg hg=>hn g (by simpa[S.names,V.names]using hg)]
  .rfl
  .rfl
 |makeSlice t n c=>
  simp only[kernel,<-hF n (by simp[Op.operands]),<-hF c (by simp[Op.operands])];split
  rotate_left
  rfl;split
  .rename_i ie _;have:wK o (ie.zero.map cv)=wK o' (ie.zero.map cv):=u_ λx hx g hg=>by obtain⟨v,_,rfl⟩:=XN.1 hx;rw[oI]at hg;cases hg
   rw[this]
  .rfl
 |slice t x lo hi mx=>
  cases mx with
  |some m=>cases lo with
   |some l=>simp only[kernel]
   |none=>cases hi with
    |none=>simp only[kernel]
    |some h=>
     have hx:=hF x (by simp[Op.operands]);have hn:=ho x (by simp[Op.operands]);simp only[kernel,<-hx,<-hF h (by simp[Op.operands]),<-hF m (by simp[Op.operands])];generalize F x=sx at hn;unfold AB;split
     .rename_i g _ _ h' _ _ m' _ _ _;rw[hn g (by simp[S.names,V.names,W.names])]
     .rfl
     .rfl
  |none=>
   have hx:=hF x (by simp[Op.operands]);have hn:=ho x (by simp[Op.operands]);have hlo:lo.map F=lo.map F':=by
    cases lo with
    |none=>rfl
    |some l=>simp[hF l (by simp[Op.operands])]
   have hhi:hi.map F=hi.map F':=by
    cases hi with
    |none=>rfl
    |some l=>simp[hF l (by simp[Op.operands])]
   simp only[kernel,<-hx,<-hlo,<-hhi];generalize F x=sx at hn;split
   rotate_left
   rfl;rfl;rename_i x _;have hn :∀g∈x.names,o g=o' g:=λg hg=>hn g (by simpa[S.names,V.names]using hg);rw[<-EM hn];split
   .split
    .split
     .rw [hn _ (by simp[W.names])]
     all_goals rfl
    .rfl
   .rfl
 |fieldAddr t x n=>
  have hx:=hF x (by simp[Op.operands]);have hn:=ho x (by simp[Op.operands]);simp only[kernel,<-hx];generalize F x=sx at hn;split
  .rw [zN λg hg=>hn g (by simpa[S.names,V.names]using hg)]
  .rfl
 |field t x n=>simp only[kernel,<-hF x (by simp[Op.operands])]
 |indexAddr t x ix=>
  have hx:=hF x (by simp[Op.operands]);have hn:=ho x (by simp[Op.operands]);simp only[kernel,<-hx,<-hF ix (by simp[Op.operands])];generalize F x=sx at hn;split
  .rename_i x a i n _ _;have hn :∀g∈x.names,o g=o' g:=λg hg=>hn g (by simpa[S.names,V.names]using hg);split
   .rw [hn _ (by simp[W.names])]
   .rw [hn _ (by simp[W.names])]
   all_goals rfl
  .rfl
  .rw [zN λg hg=>hn g (by simpa[S.names,V.names]using hg)]
  .rfl
 |index t x ix=>simp only[kernel,<-hF x (by simp[Op.operands]),<-hF ix (by simp[Op.operands])]
 |extract t n=>simp only[kernel,<-hF t (by simp[Op.operands])]
 |range t x=>simp only[kernel,<-hF x (by simp[Op.operands])]
 |makeFunc fn first caps=>
  cases fn with
  |func g=>
   simp only[kernel];have hc :∀x∈caps.toList,F x=F' x:=λx hx=>hF x (by simp[Op.operands];exact .inr (by simpa using hx));have :∀l:List Operand,(∀x∈l,F x=F' x)->∀(G:Option (List W)->Option Et),G (l.mapM (λx=>match F x with|.v (.one w)=>some w|_=>none))=G (l.mapM (λx=>match F' x with|.v (.one w)=>some w|_=>none)):=by
    intro l hl G;congr 1
    induction l with
    |nil=>rfl
    |cons x l ih=>simp only[vQ];rw[hl x (by simp),ih λy hy=>hl y (by simp[hy])]
   split
   .exact this _ hc λz=>match z with|some ws=>some (.pure (.v (.one (.clo g ws))))|none=>none
   .rfl
  |_=>rfl
 |call c=>
  obtain⟨callee,args,ts⟩:=c;have ha :∀x∈args.toList,F x=F' x:=λx hx=>hF x (by simp[Op.operands,Call.operands];exact .inr (by simpa using hx));have hb :∀x∈args.toList,∀g∈(F x).names,o g=o' g:=λx hx=>ho x (by simp[Op.operands,Call.operands];exact .inr (by simpa using hx));cases callee with
  |builtin b=>
   cases b with
   |append=>
    simp only[kernel];split
    rotate_left
    rfl;rename_i s x sT xT _ hl _;have hs:=ha s (by rw[hl];simp);have hx:=ha x (by rw[hl];simp);have ns:=hb s (by rw[hl];simp);have nx:=hb x (by rw[hl];simp);rw[<-hs,<-hx];generalize F s=ss at ns;generalize F x=sx at nx;split
    .exact NY (λg hg=>ns g (by simpa[S.names,V.names]using hg)) (λg hg=>nx g (by simpa[S.names,V.names]using hg))
    .rfl
   |len=>
    simp only[kernel];split
    rotate_left
    rfl;rename_i x t hl _;have hx:=ha x (by rw[hl];simp);have nx:=hb x (by rw[hl];simp);rw[<-hx];generalize F x=sx at nx;split
    .rw [EM λg hg=>nx g (by simpa[S.names,V.names]using hg)]
    .rfl
    .rfl
   |min=>
    simp only[kernel];split
    .rename_i x y hl;rw[ha x (by rw[hl];simp),ha y (by rw[hl];simp)]
    .rename_i x y z hl;rw[ha x (by rw[hl];simp),ha y (by rw[hl];simp),ha z (by rw[hl];simp)]
    .rfl
   |max=>
    simp only[kernel];split
    .rename_i x y hl;rw[ha x (by rw[hl];simp),ha y (by rw[hl];simp)]
    .rename_i x y z hl;rw[ha x (by rw[hl];simp),ha y (by rw[hl];simp),ha z (by rw[hl];simp)]
    .rfl
   |_=>rfl
  |_=>rfl
 |_=>rfl
theorem yE{col:Nat->Option Nat}:∀{xs:List W} {j:Nat},(∀x∈xs,∀g∈x.names,Agree o o' g)->Pv o col j xs=Pv o' col j xs
 | [],_,_=>rfl
 |x::xs,j,h=>by
  have hx:=h x (by simp);simp only[Pv];rw[yE λy hy=>h y (by simp[hy]),Dv hx];cases x with
  |own e=>simp only[(hx e (by simp[W.names])).1]
  |_=>rfl
theorem zQ{col:Nat->Option Nat}:∀{xs:List W} {j:Nat} {ys:List P} {a i:Bool} {gs:List Nat} {es:List (Nat×Nat)},Pv o col j xs=some (ys,a,i,gs,es)->(∀x∈xs,∀g∈x.names,Agree o o' g)->∀g∈gs,Agree o o' g
 | [],j,ys,a,i,gs,es,h,_=>by simp[Pv]at h;obtain⟨_,_,_,rfl,_⟩:=h;simp
 |x::xs,j,ys,a,i,gs,es,h,hx=>by
  simp only[Pv]at h;split at h;cases h;rename_i ys' a' i' gs' es' h2;have ih:=zQ h2 (λy hy=>hx y (by simp[hy]));split at h
  .split at h
   rotate_left
   cases h;rename_i h1;simp only[Q0,QP]at h;obtain⟨_,_,_,rfl,_⟩:=h;intro g hg;rcases QQ.1 hg with hg|hg
   .exact zM h1 (hx x (by simp)) g hg
   .exact ih g hg
  .split at h
   .simp only[Q0,QP]at h;obtain⟨_,_,_,rfl,_⟩:=h;exact ih
   .split at h
    .split at h
     .simp only[Q0,QP]at h;obtain⟨_,_,_,rfl,_⟩:=h;exact ih
     .cases h
    .cases h
   .cases h
theorem Qs{x:W}(h :∀g∈x.names,Agree o o' g):baseD o x=baseD o' x:=by cases x<;>simp only[baseD]<;>(try rw[mg (h _ (by simp[W.names])),(h _ (by simp[W.names])).1])
theorem KI{tt:TT}{dc:List (Nat×Nat)}{d:Nat}{F F':Operand->S}{op:Op}{ty:TypeId}(hF :∀x∈op.operands.toList,F x=F' x)(hO :∀x∈op.operands.toList,∀g∈(F x).names,Agree o o' g):
  dF tt dc d o F op ty=dF tt dc d o' F' op ty:=by
 cases op with
 |load t x=>
  have hx:=hF x (by simp[Op.operands]);have hn:=hO x (by simp[Op.operands]);simp only[dF,rP,<-hx];generalize F x=sx at hn;congr 1
  .split
   .have hg:=hn _ (by simp[S.names,V.names,W.names];rfl);rw[<-mg hg]
   .rfl
  .split
   .have hg:=hn _ (by simp[S.names,V.names,W.names];rfl);rw[<-mg hg,<-hg.1]
   .rfl
 |slice t x lo hi mx=>
  cases lo with
  |some _=>rfl
  |none=>
  cases mx with
  |some _=>rfl
  |none=>
  have hx:=hF x (by simp[Op.operands]);have hn:=hO x (by simp[Op.operands]);have hh:hi.map F=hi.map F':=by
   cases hi with
   |none=>rfl
   |some y=>simp only[W2,Q0];exact hF y (by simp[Op.operands])
  simp only[dF,<-hx,<-hh];generalize F x=sx at hn;split
  .have hg:=hn _ (by simp[S.names,V.names,W.names];rfl);rw[<-hg.1]
  .rfl
 |store t x y=>
  have hx:=hF x (by simp[Op.operands]);have hy:=hF y (by simp[Op.operands]);have hn:=hO x (by simp[Op.operands]);have hm:=hO y (by simp[Op.operands]);simp only[dF,<-hx,<-hy];generalize F x=sx at hn;generalize F y=sy at hm;split
  rotate_left
  rfl;rename_i g off y _;have hg:=hn _ (by simp[S.names,V.names,W.names];rfl);have hw :∀x∈y.words,∀g∈x.names,Agree o o' g:=λx hx g hg=>hm g (EN hx hg);rw[<-mg hg,<-hg.1];split
  .rename_i a0 i0 sz ah l0 hole _;rw[<-yE hw];split
   .rename_i ps a' i' gs es hz;rw[mY (zQ hz hw)]
   .rfl
  .rfl
 |buildSlice t n ps=>
  have e:ps.toList.map (λp=>(p.1,F p.2))=ps.toList.map (λp=>(p.1,F' p.2)):=W4 λp hp=>by rw[hF p.2 (by simp only[Op.operands];exact XN.2 ⟨p,hp,rfl⟩)]
  simp only[dF,<-e];split
  rotate_left
  rfl;split
  rotate_left
  rfl;rename_i ie _;split
  rotate_left
  rfl;rename_i ws hws;have hn :∀x∈ws,∀g∈x.names,Agree o o' g:=by
   intro x hx g hg;rcases zO hws x hx with h|⟨p,hp,h⟩
   .have:=wZ h;obtain⟨v,_,rfl⟩:=XN.1 this;rw[oI]at hg;cases hg
   .obtain ⟨q,hq,rfl⟩:=XN.1 hp;exact hO q.2 (by simp only[Op.operands];exact XN.2 ⟨q,hq,rfl⟩) g (h g hg)
  rw[<-yE hn];split
  .rename_i h;rw[mY (zQ h hn)]
  .rfl
 |makeSlice t n c=>
  simp only[dF,<-hF n (by simp[Op.operands]),<-hF c (by simp[Op.operands])];split
  rotate_left
  rfl;split
  .rename_i ie _;have :∀col,Pv o col 0 (ie.zero.map cv)=Pv o' col 0 (ie.zero.map cv):=λcol=>yE λx hx g hg=>by obtain⟨v,_,rfl⟩:=XN.1 hx;rw[oI]at hg;cases hg
   rw[this]
  .rfl
 |call c=>
  obtain⟨callee,args,ts⟩:=c;have ha :∀x∈args.toList,F x=F' x:=λx hx=>hF x (by simp[Op.operands,Call.operands];exact .inr (by simpa using hx));have hb :∀x∈args.toList,∀g∈(F x).names,Agree o o' g:=λx hx=>hO x (by simp[Op.operands,Call.operands];exact .inr (by simpa using hx));cases callee with
  |builtin b=>
   cases b with
   |append=>
    simp only[dF];split
    rotate_left
    rfl;rename_i s x sT xT _ hl _;have hs:=ha s (by rw[hl];simp);have hx:=ha x (by rw[hl];simp);have ns:=hb s (by rw[hl];simp);have nx:=hb x (by rw[hl];simp);rw[<-hs,<-hx];generalize F s=ss at ns;generalize F x=sx at nx;split
    .rename_i s' g2 _ _;have hg:=nx g2 (by simp[S.names,V.names,W.names]);rw[<-Qs (λg hg=>ns g (by simpa[S.names,V.names]using hg)),<-mg hg,<-hg.1]
    .rfl
   |_=>rfl
  |_=>rfl
 |_=>rfl
end
end Go.Fw

namespace Go.Fw
open Go.RowKit
variable [dV]
def quiet:Obj->Bool
 |.loop _=>true
 |.deferred _=>true
 |_=>false
theorem jL{o:Obj}(h:quiet o=true):∀c e f,o≠.cells c e f:=by intro c e f e';subst e';cases h
theorem Iq{o:Obj}(h:quiet o=true):∀s k,o≠.stringIter s k:=by intro s k e';subst e';cases h
section
variable {w w':World} {b:Nat} {o:Obj}
theorem Ir{a:Addr}{v:Value}(h:w.cell? a=some v):∃c e f,w.heap[a.block]?=some (.cells c e f):=by obtain⟨o,ho,hc⟩:=cells_of_cell h;cases o<;>first|exact⟨_,_,_,ho⟩|cases hc
theorem bU.turn(hb:w.heap[b]?=some o)(hq:quiet o=true)(hs :∀k,k≠b->w'.heap[k]?=w.heap[k]?){ok:Nat->Prop}{x:P}{v:Value}(r:bU w ok x v):bU w' ok x v:=by
 have ne :∀{k c e f},w.heap[k]?=some (.cells c e f)->k≠b:=λhk e'=>by subst e';rw[hb]at hk;exact jL hq _ _ _ (WN hk)
 induction r with
 |int k n=>exact .int k n
 |bool b=>exact .bool b
 |str s=>exact .str s
 |opq v h=>exact .opq v h
 |nil sz ao cap=>exact .nil sz ao cap
 |sl sz l a cap f hs' hok hcap hlen hc hr ih=>refine .sl sz l a cap f hs' hok hcap hlen (λi x hx j y hy=>?_) (λi x hx j y hy=>ih i x hx j y hy);have h0:=hc i x hx j y hy;obtain⟨c,e,f,hk⟩:=Ir h0;rw[<-h0];exact World.cell?_of_block (w:=w) (hs _ (ne hk))
 |seq l v S hv hS hq'=>
  exact .seq l v S hv (λb' hb'=>⟨(hS b' hb').1,by obtain⟨c,e,f,hk⟩:=(hS b' hb').2;exact⟨c,e,f,(hs _ (ne hk)).trans hk⟩⟩)
   (dV.VT (λb' hb'=>by obtain⟨c,e,f,hk⟩:=(hS b' hb').2;exact hs _ (ne hk)) hq')
variable {E:Env} {st:St} {gh:Nat->Gh}
theorem yF(hz:w'.heap.size=w.heap.size){a i:Bool}:E.ok st gh w a i=E.ok st gh w' a i:=by funext b;unfold Env.ok;rw[hz]
theorem eH.turn(hb:w.heap[b]?=some o)(hq:quiet o=true)(hs :∀k,k≠b->w'.heap[k]?=w.heap[k]?)(hz:w'.heap.size=w.heap.size){x:W}{v:Value}(r:eH E st gh w x v):eH E st gh w' x v:=by
 induction r with
 |p a i x v h=>exact .p a i x v (by rw[<-yF hz];exact h.turn hb hq hs)
 |b_=>exact .b_
 |own g v hv h=>exact .own g v hv h
 |vw g lo hi v hv h=>exact .vw g lo hi v hv h
 |box g off v hv h=>exact .box g off v hv h
 |ep g n off v hv h=>exact .ep g n off v hv h
 |sp a i row off b' o' hb' h=>refine .sp a i row off b' o' (by rw[<-yF hz];exact hb') λj y hj=>?_;obtain⟨u,hu,hr⟩:=h j y hj;obtain⟨c,e,f,hk⟩:=Ir hu;refine⟨u,?_,by rw[<-yF hz];exact hr.turn hb hq hs⟩;rw[<-hu];refine World.cell?_of_block (w:=w) (hs _ λe'=>?_);have hk:w.heap[b']?=some (.cells c e f):=hk;have e':b'=b:=e';rw[e',hb]at hk;exact jL hq _ _ _ (WN hk)
 |gl g=>exact .gl g
 |mO g v hv h=>exact .mO g v hv h
 |gd b x v h ih=>exact .gd b x v ih
 |clo f caps vs hl h ih=>exact .clo f caps vs hl ih
 |no v=>exact .no v
theorem qH.turn(hb:w.heap[b]?=some o)(hq:quiet o=true)(hs :∀k,k≠b->w'.heap[k]?=w.heap[k]?)(hz:w'.heap.size=w.heap.size){x:V}{v:Value}(r:qH E st gh w x v):qH E st gh w' x v:=by
 cases r with
 |one x v h=>exact .one x v (h.turn hb hq hs hz)
 |agg xs cs hl hv h=>exact .agg xs cs hl hv λj x v hx hv'=>(h j x v hx hv').turn hb hq hs hz
theorem dn.turn(hb:w.heap[b]?=some o)(hq:quiet o=true)(hs :∀k,k≠b->w'.heap[k]?=w.heap[k]?)(hz:w'.heap.size=w.heap.size){x:S}{v:Value}(r:dn E st gh w x v):dn E st gh w' x v:=by
 cases r with
 |v x v h=>exact .v x v (h.turn hb hq hs hz)
 |lq xs vs hl h=>exact .lq xs vs hl λj x v hx hv=>(h j x v hx hv).turn hb hq hs hz
 |no v=>exact .no v
theorem iw.turn(hb:w.heap[b]?=some o)(hq:quiet o=true)(hs :∀k,k≠b->w'.heap[k]?=w.heap[k]?)(hz:w'.heap.size=w.heap.size){a i:Bool}{sz:Nat}{l:List (List P)}{G:Gh}(r:iw E st gh w a i sz l G):iw E st gh w' a i sz l G:=by
 rcases r with r|⟨ad,c,e,h1,h2,h3,h4,h5,h6,h7⟩
 .exact .inl r
 .exact .inr ⟨ad,c,e,h1,h2,(hs _ λe'=>by rw[e',hb]at h3;exact jL hq _ _ _ (WN h3)).trans h3,h4,h5,h6,λn x hx j y hy=>let ⟨v,q1,q2⟩:=h7 n x hx j y hy;⟨v,q1,by rw[<-yF hz];exact q2.turn hb hq hs⟩⟩
theorem lF.turn(hb:w.heap[b]?=some o)(hq:quiet o=true)(hs :∀k,k≠b->w'.heap[k]?=w.heap[k]?)(hz:w'.heap.size=w.heap.size){x:O}{G:Gh}(r:lF E st gh w x G):lF E st gh w' x G:=by
 have ne :∀{k c e f},w.heap[k]?=some (.cells c e f)->k≠b:=λhk e'=>by subst e';rw[hb]at hk;exact jL hq _ _ _ (WN hk)
 cases x with
 |none=>trivial
 |box ws=>obtain⟨ad,c,e,h1,h2,h3,h4,h5⟩:=r;exact⟨ad,c,e,h1,h2,(hs _ (ne h3)).trans h3,h4,λj x hx=>let ⟨v,q1,q2,q3⟩:=h5 j x hx;⟨v,q1,q2,q3.turn hb hq hs hz⟩⟩
 |arr fz a i sz l=>
  cases fz with
  |true=>exact(by rw[<-yF hz];exact bU.turn hb hq hs r:bU w' (E.ok st gh w' a i) (.sl sz l) (.slice G.ad l.length G.cap))
  |false=>exact iw.turn hb hq hs hz r
 |aF a i sz ah l hole=>
  rcases r with r|⟨ad,c,e,h1,h2,h3,h4,h5,h6,⟨h7,h7'⟩,h8⟩
  .exact .inl r
  .refine .inr ⟨ad,c,e,h1,h2,(hs _ (ne h3)).trans h3,h4,h5,h6,⟨h7,λk hk=>let ⟨c,e,f,q⟩:=h7' k hk;⟨c,e,f,(hs _ (ne q)).trans q⟩⟩,λn x hx j y hy=>?_⟩;obtain⟨v,hv,hr⟩:=h8 n x hx j y hy;refine⟨v,hv,?_⟩;unfold iy at *;cases hc:ah.lookup j with
   |none=>rw[hc]at hr;exact(by rw[<-yF hz];exact bU.turn hb hq hs hr:bU w' (E.ok st gh w' a i) y v)
   |some sz'=>
    rw[hc]at hr;simp only at *;cases hh:gB hole n j with
    |some d=>rw[hh]at hr;exact⟨hr.1,hr.2.turn hb hq hs hz⟩
    |none=>rw[hh]at hr;obtain⟨l',ao,k,q1,q2,q3,q4⟩:=hr;exact⟨l',ao,k,q1,q2,q3.turn hb hq hs hz,q4⟩
 |it s n=>obtain⟨ad,bs,k,h1,h2,h3,h4⟩:=r;refine⟨ad,bs,k,h1,h2,h3,(hs _ λe'=>?_).trans h4⟩;rw[e',hb]at h4;exact Iq hq _ _ (WN h4)
theorem Rel.turn{val:Nat->Value}(h:Rel E st gh val w)(hb:w.heap[b]?=some o)(hq:quiet o=true)(hB:E.B0<=b)(o':Obj):Rel E st gh val (w.putObj b o'):=by have hs :∀k,k≠b->(w.putObj b o').heap[k]?=w.heap[k]?:=λk hk=>World.putObj_heap_other hk;have hz:(w.putObj b o').heap.size=w.heap.size:=World.putObj_size;exact⟨λt=>(h.slots t).turn hb hq hs hz,λg=>(h.aW g).turn hb hq hs hz,h.inj,λg a h1 h2=>by rw[hz];exact h.wr g a h1 h2,h.wi,h.ns,h.wb,λk hk hw=>(hs k (by omega)).trans (h.frame k hk hw),by rw[hz];exact h.size,h.os,h.tape,h.output,h.us,h.uo,h.ul⟩
omit [dV] in
structure Bl(w w':World):Prop where
 size:w.heap.size<=w'.heap.size
 same :∀b,b<w.heap.size->w'.heap[b]?=w.heap[b]?
 os:w'.os=w.os
 tape:w'.tape=w.tape
 output:w'.output=w.output
theorem Bl.alloc(w:World)(o:Obj):Bl w (w.alloc o):=⟨by simp,λb hb=>Below.heap_alloc w o b hb,rfl,rfl,rfl⟩
theorem Bl.lets(h:Bl w w'):Lets E st st gh gh w w':=⟨λa i b hb=>⟨⟨hb.1,Vi hb.2.1 h.size,hb.2.2⟩,h.same b hb.2.1⟩,λg _=>.inr ⟨⟨rfl,rfl⟩,O.eU _⟩⟩
theorem Rel.grows{val:Nat->Value}(h:Rel E st gh val w)(hg:Bl w w'):Rel E st gh val w':=by have hl:Lets E st st gh gh w w':=hg.lets;refine⟨λt=>hl.aed (h.us t) (h.slots t),λg=>hl.Az (λho ad had=>hg.same _ (h.wr g ad ho had).2) (h.uo g) (h.aW g),h.inj,λg a h1 h2=>⟨(h.wr g a h1 h2).1,Vi (h.wr g a h1 h2).2 hg.size⟩,h.wi,h.ns,h.wb,λk hk hw=>(hg.same k (Vi hk h.size)).trans (h.frame k hk hw),J0 h.size hg.size,hg.os.trans h.os,hg.tape.trans h.tape,hg.output.trans h.output,h.us,h.uo,h.ul⟩
theorem Rel.aaH{val:Nat->Value}(h:Rel E st gh val w)(hb:w.heap[b]?=some o)(hq:quiet o=true)(hB:E.B0<=b)(a i:Bool):E.ok st gh w a i b:=by
 refine⟨.inr (.inr (.inl hB)),(VC.1 hb).1,λg ho had=>?_⟩;have hO:=h.aW g;rcases had with⟨ad,had,e⟩|hsub
 case inr=>
  cases hd:(st.o g).nH with
  |false=>rw[h.ns g ho hd b]at hsub;cases hsub
  |true=>
   cases hog:st.o g with
   |aF a i sz ah l hole=>
    rw[hog]at hO;rcases hO with⟨_,_,_,q⟩|⟨ad,c,e,_,_,_,_,_,_,⟨_,q⟩,_⟩
    .rw [q b]at hsub;cases hsub
    .obtain ⟨c,e,f,q⟩:=q b hsub;rw[hb]at q;exact jL hq _ _ _ (WN q)
   |_=>rw[hog]at hd;cases hd
 cases hog:st.o g with
 |none=>rw[hog]at ho;cases ho
 |box ws=>rw[hog]at hO;obtain⟨ad',c,e',q1,_,q3,_⟩:=hO;rw[had]at q1;cases q1;rw[e,hb]at q3;exact jL hq _ _ _ (WN q3)
 |aF a i sz ah l hole=>
  rw[hog]at hO;rcases hO with⟨q1,_⟩|⟨ad',c,e',q1,_,q3,_⟩
  .rw [had]at q1;cases q1
  .rw [had]at q1;cases q1;rw[e,hb]at q3;exact jL hq _ _ _ (WN q3)
 |arr fz a i sz l=>
  cases fz with
  |true=>rw[hog]at ho;cases ho
  |false=>
   rw[hog]at hO;rcases hO with⟨q1,_⟩|⟨ad',c,e',q1,_,q3,_⟩
   .rw [had]at q1;cases q1
   .rw [had]at q1;cases q1;rw[e,hb]at q3;exact jL hq _ _ _ (WN q3)
 |it s n=>rw[hog]at hO;obtain⟨ad',bs,k,q1,_,_,q4⟩:=hO;rw[had]at q1;cases q1;rw[e,hb]at q4;exact Iq hq _ _ (WN q4)
end
end Go.Fw

namespace Go.Fw
variable [dV]
section
variable {E:Env} {st st':St} {gh bG:Nat->Gh} {w w':World} {a:Act}
theorem Uy(v:Value):dn E st gh w (uG v) v:=by
 unfold uG;split
 .rename_i cs;split
  rotate_left
  exact .no _;rename_i h;have h:=Z1.1 h;refine .v _ _ (.agg _ cs.toList (by simp) h λj x u hx hu=>?_);rw[Z3,hu]at hx;simp only[W2,Q0]at hx;subst hx;exact Uf (h u (Ys hu))
 .exact .no _
 .exact .v _ _ (.one _ _ (.clo _ [] [] rfl λj x v hx=>by simp at hx))
 .split
  .rename_i h;exact .v _ _ (.one _ _ (Uf h))
  .exact .no _
theorem NZ(v:Value):(uG v).names=[]:=by
 unfold uG;split
 .split
  .simp [S.names,V.names,oI]
  .rfl
 .rfl
 .simp [S.names,V.names,W.names]
 .split
  .simp [S.names,V.names,oI]
  .rfl
theorem qm(h:Rel E st gh (λt=>a.tmps.getD t undef) w)(x:Operand):dn E st gh w (st.bW x) (a.eval x):=by
 cases x with
 |tmp t=>exact h.slots t
 |const v=>exact Uy v
 |global g=>
  simp only[St.bW];split
  .exact .v _ _ (.one _ _ (.gl g))
  .exact .no _
 |func f=>exact .v _ _ (.one _ _ (.clo _ [] [] rfl λj x v hx=>by simp at hx))
theorem Iu(h:Rel E st gh (λt=>a.tmps.getD t undef) w)(x:Operand):∀g∈(st.bW x).names,st.used g=true:=by
 cases x with
 |tmp t=>exact h.us t
 |const v=>intro g hg;simp[St.bW,NZ]at hg
 |global g=>
  intro g' hg;simp only[St.bW]at hg;split at hg
  .simp [S.names,V.names,W.names]at hg
  .simp [S.names]at hg
 |func f=>intro g hg;simp[St.bW,S.names,V.names,W.names]at hg
theorem Bo(dst:Option Tmp)(v:Value)(h :∀d,dst=some d->d<a.tmps.size):(λt=>(a.put dst v).tmps.getD t undef)=Ht (λt=>a.tmps.getD t undef) dst v:=by
 cases dst with
 |none=>rfl
 |some d=>
  funext t;have hd:=h d rfl;simp only[Act.put,Ht,Wo];by_cases e:t=d
  .subst e;simp[hd]
  .rw [Array.getElem?_setIfInBounds_ne (Ne.symm e),QR e]
variable {Pg:Program} {T:Tab} {tt:TT}
theorem Uz(hT :∀f sp,T f=some sp->Sound Pg (f % 1000000) sp)(htt:iC Pg tt)(h:Rel E st gh (λt=>a.tmps.getD t undef) w){o:Oper}{d:Nat}{e:Eff}(hc:jP T tt d st o λe'=>e'=e)(hnew :∀g∈e.new,st.used g=false)
  {K:Act->World->Prop} {Q:Exit->Act->World->Prop}
  (hK :∀v w' bG,Rel E (st.aB e.aB e.new) bG (λt=>a.tmps.getD t undef) w'->Lets E st (st.aB e.aB e.new) gh bG w w'->dn E (st.aB e.aB e.new) bG w' e.x v->(∀g∈e.x.names,(st.aB e.aB e.new).used g=true)->K (a.put o.dst v) w') :
  o.wp Pg a w K Q:=by
 unfold jP at hc;split at hc
 .rename_i f args ts ho;split at hc
  rotate_left
  cases hc;rename_i fn caps hf;split at hc
  rotate_left
  cases hc;rename_i sp hsp;split at hc
  rotate_left
  cases hc;rename_i c hci;obtain⟨Wi,cZ,same,hR,hsame,he⟩:=hc;simp only[X1,XX]at Wi;have hrf:=qm h f;rw[hf]at hrf;generalize hvf:a.eval f=vf at hrf;cases hrf.dB with
  |clo _ _ vs hl hvs=>
  have hS:=aeo (p:=Sound Pg) hT hsp;have hrun:(execOp a.eval o).run Pg w=.ok (.enter fn (args.toList.map a.eval++vs).toArray) w:=by
   have:(#[]++args.map a.eval)++vs.toArray=(args.toList.map a.eval++vs).toArray:=by apply Array.ext';simp
   rw[<-hS.2.1 (args.toList.map a.eval++vs).toArray w,<-this];simp only[execOp,ho,resolve,hvf,Deferred.ofValue];rfl
  show o.upon Pg a K Q ((execOp a.eval o).run Pg w);rw[hrun,Oper.upon_enter];have hr :∀t,dn E st gh w (((args.toList.map st.bW)++caps.map λx=>S.v (.one x)).getD t .no) ((args.toList.map a.eval++vs).getD t undef):=by
   intro t;simp only[Q2];by_cases ht:t<args.toList.length
   .rw [Wt (by simpa using ht),Wt (by simpa using ht),Z3,Z3,Q3 ht];exact qm h _
   .rw [Wg (by simpa using ht),Wg (by simpa using ht)];simp only[W5];rw[Z3];cases hx:caps[t-args.toList.length]? with
    |none=>exact .no _
    |some x=>
     have hlt:t-args.toList.length<vs.length:=by rw[<-hl];exact(Q4.1 hx).1
     rw[Q3 hlt];exact .v _ _ (.one _ _ (hvs _ x _ hx (Q3 hlt)))
  have hu:=Yw (st:=st) (e:=jX sp.sig d st.o c cZ) λg hg=>(hsame g hg).2;have hnew :∀g∈(jX sp.sig d st.o c cZ).new,st.used g=false:=λg hg=>hnew g (by rw[<-he];exact hg);refine Calls.mono (Ux hS h hr (by simp;omega) hci Wi.1 hR d rfl hnew) λe' w' he'=>?_;obtain⟨v,bG,rfl,q1,q2,q3,q4⟩:=he';rw[<-hu]at q1 q2 q3 q4;rw[he]at q1 q2 q3 q4;have q3:dn E (st.aB e.aB e.new) bG w' e.x v:=by rw[<-he];rw[<-he]at q3;exact q3
  have q4 :∀g∈e.x.names,(st.aB e.aB e.new).used g=true:=by rw[<-he];rw[<-he]at q4;exact q4
  exact hK v w' bG q1 q2 q3 q4
 .rcases hc with⟨dc,r,hk,hp,hc⟩|hc
  .have he:=KF.iff.1 hc;subst he;obtain⟨v,w',bG,hd,q1,q2,q3,q4⟩:=KD htt o.op E st gh _ w a.eval st.bW o d r rfl h (qm h) (Iu h) hk hp hnew;show o.upon Pg a K Q ((execOp a.eval o).run Pg w);rcases hd with hd|⟨hd,rfl⟩
   .rw [hd];exact hK v w' bG q1 q2 q3 q4
   .rw [hd];exact hK _ w' bG q1 q2 q3 q4
  split at hc
  rotate_left
  cases hc;rename_i r hk;obtain⟨hp,hc⟩:=hc;have he:({ x:=r.dst r.val,aB:=r.aB r.val,new:=r.new }:Eff)=e:=by
   cases hb:EI o.op with
   |true=>rw[hb]at hc;exact KF.iff.1 hc
   |false=>rw[hb]at hc;exact hc
  subst he;obtain⟨v,w',bG,hd,q1,q2,q3,q4⟩:=NJ htt o.op E st gh _ w a.eval st.bW o d r rfl h (qm h) (Iu h) hk hp hnew;show o.upon Pg a K Q ((execOp a.eval o).run Pg w);rcases hd with hd|⟨hd,rfl⟩
  .rw [hd];exact hK v w' bG q1 q2 q3 q4
  .rw [hd];exact hK _ w' bG q1 q2 q3 q4
def mark(D:Nat):Deferred:={ target:=.collected D,args:=#[] }
def Marks(E:Env)(a:Act)(w:World):Prop :=∃Ds:List Nat,a.defers=Ds.map mark/\Ds.Nodup/\∀D∈Ds,E.B0<=D/\w.heap[D]?=some (.deferred (some []))
theorem Marks.nil{E:Env}{a:Act}{w:World}(h:a.defers=[]):Marks E a w:=⟨[],h,List.nodup_nil,λD hD=>by cases hD⟩
structure Good(E:Env)(N:Nat)(bC:List Nat)(wR:Nat->Gh)(st:St)(a:Act)(w:World):Prop where
 ex :∃gh,Rel E st gh (λt=>a.tmps.getD t undef) w/\∀g∈bC,st.used g=true/\(st.o g=.none\/((gh g).ad=(wR g).ad/\(gh g).cap=(wR g).cap))
 size:a.tmps.size=N
 defers:Marks E a w
theorem Bq(dst:Option Tmp)(v:Value):(a.put dst v).tmps.size=a.tmps.size:=by cases dst<;>simp[Act.put]
theorem put_defers(dst:Option Tmp)(v:Value):(a.put dst v).defers=a.defers:=by cases dst<;>rfl
theorem Marks.same{E:Env}{a:Act}{w w':World}(hm:Marks E a w)(h :∀D,E.B0<=D->w.heap[D]?=some (.deferred (some []))->w'.heap[D]?=w.heap[D]?)(dst:Option Tmp)(v:Value):Marks E (a.put dst v) w':=by obtain⟨Ds,h1,h2,h3⟩:=hm;exact⟨Ds,(put_defers dst v).trans h1,h2,λD hD=>⟨(h3 D hD).1,(h D (h3 D hD).1 (h3 D hD).2).trans (h3 D hD).2⟩⟩
theorem Marks.step{val:Nat->Value}(hm:Marks E a w)(hR:Rel E st gh val w)(hL:Lets E st st' gh bG w w')(dst:Option Tmp)(v:Value):Marks E (a.put dst v) w':=hm.same (λD h2 h3=>(hL.ok false false D (hR.aaH h3 rfl h2 _ _)).2) dst v
theorem Marks.put(hm:Marks E a w)(dst:Option Tmp)(v:Value):Marks E (a.put dst v) w:=hm.same (λ_ _ _=>rfl) dst v
theorem qR{d:Nat}{o:Oper}{K K':Eff->Prop}(hK :∀e,K e->K' e)(h:jP T tt d st o K):jP T tt d st o K':=by
 unfold jP at *;split at h
 .split at h
  .split at h
   .split at h
    .obtain ⟨h1,cZ,same,h2,h4,h3⟩:=h;exact⟨h1,cZ,same,h2,h4,hK _ h3⟩
    .exact h
   .exact h
  .exact h
 .rcases h with⟨dc,r,h1,h2,h3⟩|h
  .exact .inl ⟨dc,r,h1,h2,KF.iff.2 (hK _ (KF.iff.1 h3))⟩
  refine .inr ?_;split at h
  .refine ⟨h.1,?_⟩;obtain⟨_,h⟩:=h;cases hb:EI o.op with
   |true=>rw[hb]at h;exact KF.iff.2 (hK _ (KF.iff.1 h))
   |false=>rw[hb]at h;exact hK _ h
  .exact h
theorem Iw{d:Nat}{o:Oper}{K:Eff->Prop}(h:jP T tt d st o K):∃e,jP T tt d st o (λe'=>e'=e)/\K e:=by
 unfold jP at *;split at h
 .split at h
  .split at h
   .split at h
    .obtain ⟨h1,cZ,same,h2,h4,h3⟩:=h;exact⟨_,⟨h1,cZ,same,h2,h4,rfl⟩,h3⟩
    .cases h
   .cases h
  .cases h
 .rcases h with⟨dc,r,h1,h2,h3⟩|h
  .exact ⟨_,.inl ⟨dc,r,h1,h2,KF.iff.2 rfl⟩,KF.iff.1 h3⟩
  split at h
  .obtain ⟨hp,h⟩:=h;cases hb:EI o.op with
   |true=>rw[hb]at h;exact⟨_,.inr ⟨hp,KF.iff.2 rfl⟩,KF.iff.1 h⟩
   |false=>rw[hb]at h;exact⟨_,.inr ⟨hp,rfl⟩,h⟩
  .cases h
theorem aaI{o:Nat->O}{g x:Nat}(h:x≠g)(h2:x∉(o g).hn):(Fw.jS o g).lookup x=none:=by
 have e1:(x==g)=false:=by simpa using h
 unfold Fw.jS;split
 .rename_i a i sz ah l n c d ho;rw[ho]at h2;have e2:(x==d)=false:=by simpa[O.hn,bZ]using h2
  repeat' split
  all_goals first|rfl|simp[List.lookup,e1,e2]
 .rfl
theorem Qu{o:Nat->O}{g x:Nat}:∀y,(Fw.jS o g).lookup x=some y->y.hn=[]:=by
 intro y hy;unfold Fw.jS at hy;split at hy
 rotate_left
 cases hy;rename_i a i sz ah l n c d ho
 repeat' split at hy
 all_goals first|(cases hy;done)|skip
 simp only[List.lookup]at hy;split at hy
 .cases hy;rfl
 .split at hy
  .cases hy;rfl
  .cases hy
theorem EO:∀(hs:List Nat) {st:St} {x:Nat},x∉hs->(∀g∈hs,x∉(st.o g).hn)->(Fw.shuts hs st).o x=st.o x
 | [],_,_,_,_=>rfl
 |g::gs,st,x,h1,h2=>by
  have hx:(st.aB (Fw.jS st.o g) []).o x=st.o x:=by simp only[St.aB,aaI (λe=>h1 (by simp[e])) (h2 g (by simp))]
  show (Fw.shuts gs (st.aB (Fw.jS st.o g) [])).o x=_;rw[EO gs (λh=>h1 (by simp[h])) (λg' hg'=>?_),hx];cases hl:(Fw.jS st.o g).lookup g' with
  |none=>simp only[St.aB,hl];exact h2 g' (by simp[hg'])
  |some y=>simp only[St.aB,hl];rw[Qu y hl];simp
theorem YH{hs:List Nat}{st:St}{x:Nat}:(match (zh hs st).lookup x with
  |some y=>y
  |none=>st.o x)=(Fw.shuts hs st).o x:=by
 have key :∀(l:List (Nat×O)),(∀p∈l,p.2=(Fw.shuts hs st).o p.1)->(∀y,l.lookup x=some y->y=(Fw.shuts hs st).o x)/\(l.lookup x=none->∀p∈l,p.1≠x):=by
  intro l
  induction l with
  |nil=>exact λ_=>⟨λy h=>(by cases h),λ_ p hp=>(by cases hp)⟩
  |cons p l ih=>
   intro hl;obtain⟨i1,i2⟩:=ih λq hq=>hl q (WK _ hq);obtain⟨k,v⟩:=p;simp only[List.lookup];cases hb:x==k with
   |true=>
    have e:x=k:=by simpa using hb
    subst e;exact⟨λy h=>by cases h;exact hl (x,v) List.mem_cons_self,λh=>by cases h⟩
   |false=>
    refine⟨i1,λh p hp=>?_⟩;rcases Xs.1 hp with rfl|hp
    .exact λe=>by have e:k=x:=e;rw[e]at hb;simp at hb
    .exact i2 h p hp
 have hall :∀p∈zh hs st,p.2=(Fw.shuts hs st).o p.1:=by intro p hp;obtain⟨g,hg,hp⟩:=YY.1 hp;rcases Xs.1 hp with rfl|hp;rfl;obtain⟨d,_,rfl⟩:=XN.1 hp;rfl
 obtain⟨k1,k2⟩:=key _ hall;cases hl:(zh hs st).lookup x with
 |some y=>exact k1 y hl
 |none=>have hno:=k2 hl;refine(EO hs (λh=>hno (x,(Fw.shuts hs st).o x) (YY.2 ⟨x,h,by simp⟩) rfl) λg hg h=>hno (x,(Fw.shuts hs st).o x) (YY.2 ⟨g,hg,WK _ (XN.2 ⟨x,h,rfl⟩)⟩) rfl).symm
theorem YI{hs:List Nat}{st:St}{e:Eff}:st.aB (Bg hs st e).aB (Bg hs st e).new=(Fw.shuts hs st).aB e.aB e.new:=by
 cases hs with
 |nil=>rfl
 |cons g gs=>
  have ext :∀{x y:St},(∀t,x.s t=y.s t)->(∀g,x.o g=y.o g)->(∀g,x.used g=y.used g)->x=y:=λ{x y} h1 h2 h3=>by cases x;cases y;simp only[St.mk.injEq];exact⟨funext h1,funext h2,funext h3⟩
  refine ext (λt=>?_) (λx=>?_) (λx=>?_)
  .show st.s t=(Fw.shuts (g::gs) st).s t;rw[Gx]
  .show (match (e.aB++zh (g::gs) st).lookup x with|some y=>y|none=>st.o x)=match e.aB.lookup x with|some y=>y|none=>(Fw.shuts (g::gs) st).o x
   rw[uS];cases e.aB.lookup x with
   |some y=>rfl
   |none=>exact YH
  .show (e.new.contains x||st.used x)=(e.new.contains x||(Fw.shuts (g::gs) st).used x);rw[uP]
theorem aex{hs:List Nat}{st:St}{e:Eff}:(Bg hs st e).x=e.x/\(Bg hs st e).new=e.new:=by cases hs<;>exact⟨rfl,rfl⟩
theorem YJ(hT :∀f sp,T f=some sp->Sound Pg (f % 1000000) sp)(htt:iC Pg tt)(h:Rel E st gh (λt=>a.tmps.getD t undef) w){o:Oper}{d:Nat}{e:Eff}(hc:iP T tt d st o λe'=>e'=e)(hnew :∀g∈e.new,st.used g=false)
  {K:Act->World->Prop} {Q:Exit->Act->World->Prop}
  (hK :∀v w' bG,Rel E (st.aB e.aB e.new) bG (λt=>a.tmps.getD t undef) w'->Lets E st (st.aB e.aB e.new) gh bG w w'->dn E (st.aB e.aB e.new) bG w' e.x v->(∀g∈e.x.names,(st.aB e.aB e.new).used g=true)->K (a.put o.dst v) w') :
  o.wp Pg a w K Q:=by
 unfold iP at hc;obtain⟨e0,h1,h2⟩:=Iw hc;obtain⟨lZ,hR,hL,_⟩:=h.shuts (iO st o);have hx:=aex (hs:=iO st o) (st:=st) (e:=e0);have hu:=YI (hs:=iO st o) (st:=st) (e:=e0);rw[h2]at hx hu;refine Uz hT htt hR h1 (λg hg=>by rw[uP];exact hnew g (by rw[hx.2];exact hg)) λv w' bG q1 q2 q3 q4=>hK v w' bG ?_ ?_ ?_ ?_
 .rw [hu];exact q1
 .rw [hu];exact hL.trans q2 λg hg=>by rw[uP];exact hg
 .rw [hu,hx.1];exact q3
 .rw [hu,hx.1];exact q4
theorem nN{d:Nat}{o:Oper}{K K':Eff->Prop}(hK :∀e,K e->K' e)(h:iP T tt d st o K):iP T tt d st o K':=qR (λe h=>hK _ h) h
theorem Dw{d:Nat}{o:Oper}{K:Eff->Prop}(h:iP T tt d st o K):∃e,iP T tt d st o (λe'=>e'=e)/\K e:=by obtain⟨e,h1,h2⟩:=Iw h;exact⟨_,qR (λe' he=>by rw[he]) h1,h2⟩
def Can(T:Tab)(tt:TT)(N:Nat)(ops:Array Oper)(st:St)(o:Oper)(e:Eff):Prop:=stepW T tt N ops o st λe'=>e'=e
theorem Qv{N:Nat}{ops:Array Oper}{o:Oper}{K:Eff->Prop}(h:stepW T tt N ops o st K):∃e,Can T tt N ops st o e/\K e:=by
 unfold Can;unfold stepW at *;obtain⟨hd,h⟩:=h;split at h
 .obtain ⟨e,h1,h2,h3⟩:=Dw h;exact⟨e,⟨hd,nN (λe' he=>⟨by rw[he];exact h2,he⟩) h1⟩,h3⟩
 .split at h
  rotate_left
  cases h;rename_i b hb;cases b with
  |true=>simp only[cond_true]at h;obtain⟨e,h1,h2,h3⟩:=Dw h;refine⟨e,⟨hd,?_⟩,h3⟩;simp only[cond_true];exact nN (λe' he=>⟨by rw[he];exact h2,he⟩) h1
  |false=>exact⟨Eff.skip,⟨hd,rfl⟩,h⟩
theorem Iy{N:Nat}{bC:List Nat}{wR:Nat->Gh}(hT :∀f sp,T f=some sp->Sound Pg (f % 1000000) sp)(htt:iC Pg tt){ops:Array Oper}{i:Nat}{o:Oper}(hi:ops[i]?=some o)(h:Good E N bC wR st a w){e:Eff}(hc:Can T tt N ops st o e)
  {K:Act->World->Prop} {Q:Exit->Act->World->Prop} (hK :∀a' w',Good E N bC wR (st.eff o.dst e) a' w'->K a' w'):wpOp Pg ops Q i K a w:=by
 obtain⟨⟨gh,hR,Kt⟩,hsz,hdf⟩:=h;unfold Can stepW at hc;obtain⟨hd,hc⟩:=hc;have hd :∀d,o.dst=some d->d<a.tmps.size:=by intro d e;rw[e]at hd;rw[hsz];simpa using hd
 have run:(iP T tt (o.dst.getD 0) st o λe'=>e'.new.all (λg=>!st.used g)=true/\e'=e)->o.wp Pg a w K Q:=by
  intro hc;obtain⟨e',h1,h2,rfl⟩:=Dw hc;have hnew :∀g∈e'.new,st.used g=false:=λg hg=>by have:=(Z1.1 h2) g hg;simpa using this
  refine YJ hT htt hR h1 hnew λv w' bG q1 q2 q3 q4=>hK _ _ ⟨⟨bG,?_,λg hg=>?_⟩,by rw[Bq];exact hsz,hdf.step hR q2 _ _⟩
  .rw [Bo _ _ hd];exact q1.put o.dst q3 q4
  .obtain ⟨p1,p2⟩:=Kt g hg;have ho:(st.eff o.dst e').o g=(st.aB e'.aB e'.new).o g:=by unfold St.eff St.put;cases o.dst<;>rfl
   have hu:(st.eff o.dst e').used g=(st.aB e'.aB e'.new).used g:=by unfold St.eff St.put;cases o.dst<;>rfl
   refine⟨by rw[hu];simp[St.aB,p1],?_⟩;rw[ho];rcases q2.names g p1 with q|⟨q,qk⟩;exact .inl q;rcases p2 with p2|p2
   .rw [p2]at qk;exact .inl (O.Lr qk)
   .exact .inr ⟨q.1.trans p2.1,q.2.trans p2.2⟩
 unfold wpOp;rw[hi];simp only;cases hg:o.guard with
 |none=>
  rw[hg]at hc;have:Region.wanted o (yielded ops a.tmps)=true:=by simp[Region.wanted,hg]
  rw[Qt this];exact .inl (run hc)
 |some p=>
  obtain⟨j,want⟩:=p;rw[hg]at hc;simp only at hc;split at hc
  rotate_left
  cases hc;rename_i b hb;have hw:Region.wanted o (yielded ops a.tmps)=b:=by
   simp only[Region.wanted,hg,yielded];unfold guardOf at hb;split at hb
   rotate_left
   cases hb;rename_i t ht;have Qw:=hR.slots t;rw[ht];simp only[Option.bind_some];split at hb
   .rename_i a' i' b' hs;rw[hs]at Qw;have hv:=Qw.eX.mV;have:a.tmps[t]?=some (.bool b'):=by
     simp only[Wo]at hv;cases hx:a.tmps[t]? with
     |none=>rw[hx]at hv;cases hv
     |some x=>rw[hx]at hv;simp at hv;rw[hv]
    rw[this];cases hb;cases want<;>cases b'<;>rfl
   .rename_i hs;rw[hs]at Qw;cases hb;have hv:a.tmps.getD t undef=.tuple #[]:=by
     generalize a.tmps.getD t undef=v at Qw;cases Qw with|lq _ vs hl _=>
     have:vs=[]:=by cases vs<;>simp_all
     subst this;rfl
    have:a.tmps[t]?=none\/a.tmps[t]?=some (.tuple #[]):=by
     simp only[Wo]at hv;cases hx:a.tmps[t]? with
     |none=>exact .inl rfl
     |some x=>rw[hx]at hv;simp at hv;rw[hv];exact .inr rfl
    rcases this with h|h<;>rw[h]<;>cases want<;>rfl
   .cases hb
  rw[hw];cases b with
  |true=>exact .inl (run hc)
  |false=>
   simp only[cond_false]at hc;subst hc;refine hK _ _ ⟨⟨gh,?_,λg hg=>?_⟩,by rw[Bq];exact hsz,hdf.put _ _⟩
   .rw [Bo _ _ hd];unfold St.eff Eff.skip;simp only[Gv];exact hR.put o.dst (.lq [] [] rfl λj x v hx=>by simp at hx) (by simp[S.names])
   .have ho:(st.eff o.dst Eff.skip).o g=st.o g:=by unfold St.eff St.put Eff.skip;cases o.dst<;>simp[St.aB]
    have hu:(st.eff o.dst Eff.skip).used g=st.used g:=by unfold St.eff St.put Eff.skip;cases o.dst<;>simp[St.aB]
    rw[ho,hu];exact Kt g hg
end
end Go.Fw

namespace Go.Fw
variable [dV]
section
variable {o o':Nat->O}
theorem Iz{k:WS}{x:W}(h :∀g∈x.names,Agree o o' g):fC o k x=fC o' k x:=by
 cases k with
 |p a i=>simp only[fC];rw[Dv h]
 |own g'=>cases x<;>rfl
 |box g' off=>
  cases off with
  |zero=>cases x<;>first|rfl|(rename_i off;cases off<;>rfl)
  |succ off=>cases x<;>rfl
 |b_=>cases x<;>rfl
 |fn f=>cases x<;>first|rfl|(rename_i caps;cases caps<;>rfl)
 |mO g=>cases x<;>rfl
 |no=>cases x<;>rfl
 |vw g=>cases x<;>rfl
 |ep g off=>cases x<;>rfl
theorem EP:∀{ks:List WS} {xs:List W},(∀x∈xs,∀g∈x.names,Agree o o' g)->jo o ks xs=jo o' ks xs
 | [],[],_=>rfl
 | [],_::_,_=>rfl
 |_::_,[],_=>rfl
 |k::ks,x::xs,h=>by simp only[jo];rw[Iz (h x (by simp)),EP λy hy=>h y (by simp[hy])]
theorem UA{k:SS}{x:S}(h :∀g∈x.names,Agree o o' g):nM o k x=nM o' k x:=by
 cases k with
 |one k=>
  cases x with
  |v x=>cases x with
   |one x=>exact Iz λg hg=>h g (by simpa[S.names,V.names]using hg)
   |agg xs=>rfl
  |lq=>rfl
  |no=>rfl
 |agg ks=>
  cases x with
  |v x=>cases x with
   |one x=>rfl
   |agg xs=>exact EP λx hx g hg=>h g (by simp only[S.names,V.names,YY];exact⟨x,hx,hg⟩)
  |lq=>rfl
  |no=>rfl
theorem Wj{args:List S}{t:Nat}:args.getD t .no=.no\/args.getD t .no∈args:=by
 rw[Q2];cases h:args[t]? with
 |none=>exact .inl rfl
 |some x=>exact .inr (Ys h)
theorem xA{args:List S}(h :∀x∈args,∀g∈x.names,Agree o o' g):∀{L:List (Nat×SS)},dW o args L=dW o' args L
 | []=>rfl
 |(t,k)::L=>by
  simp only[dW];rw[UA (o:=o) (o':=o') (k:=k) (x:=args.getD t .no) (λg hg=>by
   rcases Wj (args:=args) (t:=t)with e|e
   .rw [e]at hg;simp[S.names]at hg
   .exact h _ e g hg),xA h]
theorem Bv{k:WS}{x:W}{us:List P}{c:Bool×Bool}{gs:List Nat}{r:List (Nat×Nat)}(h:fC o k x=some (us,c,gs,r))(hx :∀g∈x.names,Agree o o' g):∀g∈gs,Agree o o' g:=by
 cases k with
 |p a i=>
  simp only[fC]at h;split at h
  .rename_i ht;simp only[Q0,QP]at h;obtain⟨_,_,rfl,_⟩:=h;exact zM ht hx
  .cases h
 |own g'=>cases x<;>simp[fC]at h;obtain⟨_,_,rfl,_⟩:=h;simp
 |box g' off=>
  cases off with
  |succ off=>cases x<;>simp[fC]at h
  |zero=>
   cases x with
   |box g off=>cases off<;>simp[fC]at h;obtain⟨_,_,rfl,_⟩:=h;simp
   |_=>simp[fC]at h
 |b_=>simp[fC]at h
 |fn f gs0=>
  cases x with
  |clo f' caps=>
   simp only[fC]at h;split at h
   .split at h
    .simp only[Q0,QP]at h;obtain⟨_,_,rfl,_⟩:=h;simp
    .cases h
   .cases h
  |_=>simp[fC]at h
 |mO g=>simp[fC]at h
 |no=>simp[fC]at h
 |vw g=>simp[fC]at h
 |ep g off=>simp[fC]at h
theorem zi:∀{ks:List WS} {xs:List W} {us:List P} {c:Bool×Bool} {gs:List Nat} {r:List (Nat×Nat)},jo o ks xs=some (us,c,gs,r)->(∀x∈xs,∀g∈x.names,Agree o o' g)->∀g∈gs,Agree o o' g
 | [],xs,us,c,gs,r,h,_=>by cases xs<;>simp[jo]at h;obtain⟨_,_,rfl,_⟩:=h;simp
 |k::ks,xs,us,c,gs,r,h,hx=>by
  cases xs with
  |nil=>simp[jo]at h
  |cons x xs=>
   simp only[jo]at h;split at h
   rotate_left
   cases h;rename_i h1 h2;simp only[Q0,QP]at h;obtain⟨_,_,rfl,_⟩:=h;intro g hg;rcases QQ.1 hg with hg|hg
   .exact Bv h1 (hx _ (by simp)) g hg
   .exact zi h2 (λy hy=>hx y (by simp[hy])) g hg
theorem sV{args:List S}:∀{L:List (Nat×SS)} {us:List P} {c:Bool×Bool} {gs:List Nat} {r:List (Nat×Nat)},dW o args L=some (us,c,gs,r)->(∀x∈args,∀g∈x.names,Agree o o' g)->∀g∈gs,Agree o o' g
 | [],us,c,gs,r,h,_=>by simp[dW]at h;obtain⟨_,_,rfl,_⟩:=h;simp
 |(t,k)::L,us,c,gs,r,h,hx=>by
  simp only[dW]at h;split at h
  rotate_left
  cases h;rename_i h1 h2;simp only[Q0,QP]at h;obtain⟨_,_,rfl,_⟩:=h;intro g hg;rcases QQ.1 hg with hg|hg
  rotate_left
  exact sV h2 hx g hg;have hx0 :∀g∈(args.getD t .no).names,Agree o o' g:=by
   rcases Wj (args:=args) (t:=t)with e|e
   .rw [e];simp[S.names]
   .exact hx _ e
  .generalize args.getD t S.no=z at h1 hx0;cases k with
   |one k=>
    cases z with
    |v z=>
     cases z with
     |one z=>exact Bv h1 (λg hg=>hx0 g (by simpa[S.names,V.names]using hg)) g hg
     |agg z=>simp[nM]at h1
    |_=>simp[nM]at h1
   |agg ks=>
    cases z with
    |v z=>
     cases z with
     |one z=>simp[nM]at h1
     |agg z=>exact zi h1 (λx hx g hg=>hx0 g (by simp only[S.names,V.names,YY];exact⟨x,hx,hg⟩)) g hg
    |_=>simp[nM]at h1
theorem nO:∀{L:List (Nat×OS)} {r r':List (Nat×Nat)} {u:List P} {c:Bool×Bool},ji o r L=some (u,c,r')->∀p∈r,p∈r'
 | [],r,r',u,c,h=>by simp only[ji,Q0,QP]at h;obtain⟨_,_,rfl⟩:=h;exact λp hp=>hp
 |(g',k)::L,r,r',u,c,h=>by
  simp only[ji]at h;split at h
  rotate_left
  cases h;split at h
  .split at h
   .split at h
    .rename_i h2;simp only[Q0,QP]at h;obtain⟨_,_,rfl⟩:=h;exact λp hp=>nO h2 p (XS _ hp)
    .cases h
   .cases h
  .split at h
   .split at h
    .rename_i h2;simp only[Q0,QP]at h;obtain⟨_,_,rfl⟩:=h;exact nO h2
    .cases h
   .cases h
  .split at h
   .split at h
    .rename_i h2;simp only[Q0,QP]at h;obtain⟨_,_,rfl⟩:=h;exact nO h2
    .cases h
   .cases h
  .cases h
theorem o_:∀{L:List (Nat×OS)} {r r':List (Nat×Nat)} {u:List P} {c:Bool×Bool},ji o r L=some (u,c,r')->(∀p∈r',o p.2=o' p.2)->ji o' r L=some (u,c,r')
 | [],r,r',u,c,h,_=>h
 |(g',k)::L,r,r',u,c,h,hl=>by
  simp only[ji]at h ⊢;split at h
  rotate_left
  cases h;rename_i g hg;have hmem:=jk hg;have key :∀r2:List (Nat×Nat),(∀p∈r,p∈r2)->(∀p∈r2,p∈r')->o g=o' g:=λr2 h1 h2=>hl _ (h2 _ (h1 _ hmem));split at h
  .rename_i ks ws hk;split at h
   rotate_left
   cases h;rename_i r1 h1;split at h
   .rename_i h2;cases h;have e:=key _ (λp hp=>XS _ hp) (nO h2);simp only[<-e,hk,h1,o_ h2 hl]
   .cases h
  .rename_i a1 b1 c1 sz a i sz' l hk;split at h
   rotate_left
   cases h;rename_i hsz;split at h
   .rename_i h2;cases h;have e:=key _ (λp hp=>hp) (nO h2);simp only[<-e,hk,o_ h2 hl,Qt hsz]
   .cases h
  .rename_i a1 b1 sz ah a i sz' gJ l hk;split at h
   rotate_left
   cases h;rename_i hsz;split at h
   .rename_i h2;cases h;have e:=key _ (λp hp=>hp) (nO h2);simp only[<-e,hk,o_ h2 hl,Qt hsz]
   .cases h
  .cases h
theorem N7{s:zf}{args:List S}{c:Ld}(h:iq s o args=some c)(h1 :∀x∈args,∀g∈x.names,Agree o o' g)(h2 :∀p∈c.ren,o p.2=o' p.2):iq s o' args=some c:=by
 unfold iq at *;rw[<-xA h1];split at h
 .rename_i hs;split at h
  .rename_i Kt;cases h;simp only[o_ Kt λp hp=>h2 p (mD.2 hp)]
  .cases h
 .cases h
theorem IB{s:zf}{args:List S}{c:Ld}(hc:iq s o args=some c)(hx :∀x∈args,∀g∈x.names,Agree o o' g):∀g∈c.uD,Agree o o' g:=by
 unfold iq at hc;split at hc
 .rename_i hsl;split at hc
  .cases hc;exact sV hsl hx
  .cases hc
 .cases hc
end
def Qx(T:Tab)(st:St)(o:Oper):List Nat:=
 match o.op with
 |.call { callee:=.value f,args,.. }=>match st.bW f with
  |.v (.one (.clo fn caps))=>match pick T fn (args.toList.map st.bW)with
   |some sp=>match iq sp.sig st.o ((args.toList.map st.bW)++caps.map λx=>S.v (.one x))with
    |some c=>c.ren.map (·.2)
    |none=>[]
   |none=>[]
  |_=>[]
 |_=>[]
def looks:Op->Bool
 |.move _|.assign _|.pick _ _ _|.build _ _|.extract _ _|.field _ _ _|.makeFunc _ _ _=>false
 |_=>true
theorem N8{o o':Nat->O}{tt:TT}{d:Nat}{F F':Operand->S}{op:Op}{ty:TypeId}(hl:looks op=false)(hF :∀x∈op.operands.toList,F x=F' x):kernel tt d o F op ty=kernel tt d o' F' op ty:=by
 refine(Bj (o':=o) hF λ_ _ _ _=>⟨rfl,λ_ _=>rfl⟩).trans ?_;cases op<;>first
  |(cases hl;done)
  |rfl
  |(rename_i fn first caps;cases fn<;>rfl)
theorem KJ{o:Nat->O}{tt:TT}{dc:List (Nat×Nat)}{d:Nat}{F:Operand->S}{op:Op}{ty:TypeId}(hl:looks op=false):dF tt dc d o F op ty=none:=by
 cases op<;>first
  |(cases hl;done)
  |rfl
def Bz(T:Tab)(st:St)(o:Oper):List Nat:=(bif looks o.op then(o.op.operands.toList.flatMap λx=>(st.bW x).names.flatMap λg=>g::(st.o g).hn)else[])++Qx T st o
def rY(T:Tab)(st:St)(o:Oper):List Nat:=Bz T (Fw.shuts (iO st o) st) o++(rW st o).flatMap λg=>g::(st.o g).hn
section
variable {T:Tab} {tt:TT} {st st':St}
theorem N9{d:Nat}{o:Oper}{K:Eff->Prop}(h:jP T tt d st o K)(hx :∀x∈o.op.operands.toList,st.bW x=st'.bW x)(ho :∀g∈Bz T st o,st.o g=st'.o g):jP T tt d st' o K:=by
 have hfo:looks o.op=true->∀x∈o.op.operands.toList,∀g∈(st.bW x).names,Agree st.o st'.o g:=λhl x hm g hg=>by have key :∀d∈g::(st.o g).hn,st.o d=st'.o d:=λd hd=>ho d (XS _ (by rw[hl];exact YY.2 ⟨x,hm,YY.2 ⟨g,hg,hd⟩⟩));exact⟨key g (by simp),λd hd=>key d (by simp[hd])⟩
 have h_ :∀g∈Qx T st o,st.o g=st'.o g:=λg hg=>ho g (We _ hg);unfold jP at *;unfold Qx at h_;split at h
 .rename_i f args ts hop;rw[hop]at hx hfo h_;have hfo:=hfo rfl;simp only at h_;have hxf:=hx f (by simp[Op.operands,Call.operands]);have hxa :∀x∈args.toList,st.bW x=st'.bW x:=λx hm=>hx x (by simp[Op.operands,Call.operands];exact .inr (by simpa using hm));have hfa :∀x∈args.toList,∀g∈(st.bW x).names,Agree st.o st'.o g:=λx hm=>hfo x (by simp[Op.operands,Call.operands];exact .inr (by simpa using hm));have hff:=hfo f (by simp[Op.operands,Call.operands]);rw[<-hxf];split at h
  rotate_left
  cases h;rename_i fn caps hf;rw[hf]at hff h_;simp only at h_;split at h
  rotate_left
  cases h;rename_i sp hsp;rw[hsp]at h_;simp only at h_;have hmap:args.toList.map st'.bW=args.toList.map st.bW:=W4 λx hm=>(hxa x hm).symm;rw[hmap];split at h
  rotate_left
  cases h;rename_i c hci;rw[hci]at h_;have hnm :∀x∈(args.toList.map st.bW)++(caps.map λx=>S.v (.one x)),∀g∈x.names,Agree st.o st'.o g:=by
   intro x hm g hg;rcases QQ.1 hm with hm|hm
   .obtain ⟨y,hy,rfl⟩:=XN.1 hm;exact hfa y hy g hg
   .obtain ⟨y,hy,rfl⟩:=XN.1 hm;refine hff g ?_;obtain⟨j,hj⟩:=VS.1 hy;simp only[S.names,V.names];exact yU hj (by simpa[S.names,V.names]using hg)
  have aov:=N7 hci hnm λp hp=>h_ p.2 (XN.2 ⟨p,hp,rfl⟩);have ahZ:c.uD.map (aN st.o)=c.uD.map (aN st'.o):=mY (IB hci hnm);simp only[hsp,aov];obtain⟨q1,cZ,same,q2,q4,q3⟩:=h;have:jX sp.sig d st'.o c cZ=jX sp.sig d st.o c cZ:=by simp only[jX,ahZ]
  refine⟨q1,cZ,same,q2,?_,?_⟩
  .rw [this];intro g hg;obtain⟨a1,a2⟩:=q4 g hg;exact⟨a1,by rw[a2,h_ g a1]⟩
  .rw [this];exact q3
 .rcases h with⟨dc,r,h1,h2,h3⟩|h
  .refine .inl ⟨dc,r,?_,h2,h3⟩;cases hl:looks o.op with
   |true=>rw[<-KI hx (hfo hl)];exact h1
   |false=>rw[KJ hl]at h1;cases h1
  .refine .inr ?_;cases hl:looks o.op with
   |true=>rw[<-Bj hx (hfo hl)];exact h
   |false=>rw[<-N8 hl hx];exact h
theorem xB{o o':Nat->O}:∀(n:Nat) {gs:List Nat},(∀g∈oJ o n gs,o g=o' g)->oJ o' n gs=oJ o n gs
 |0,_,_=>rfl
 |n+1,gs,h=>by
  simp only[oJ]at h ⊢;have e:(gs.flatMap λg=>xg (o' g))=gs.flatMap λg=>xg (o g):=by refine ZS List.flatten (W4 λg hg=>?_);rw[h g (XS _ hg)]
  rw[e,xB n λg hg=>h g (We _ hg)]
theorem Qy{o o':Nat->O}{g:Nat}(h:o g=o' g)(h2 :∀d∈(o g).hn,o d=o' d):Fw.jS o g=Fw.jS o' g:=by
 unfold Fw.jS;rw[<-h];split
 .rename_i a i sz ah l n c d ho;rw[<-h2 d (by rw[ho];simp[O.hn,bZ])]
 .rfl
theorem ER:∀(hs:List Nat) {st st':St},(∀g∈hs,st.o g=st'.o g/\∀d∈(st.o g).hn,st.o d=st'.o d)->∀x,st.o x=st'.o x->(Fw.shuts hs st).o x=(Fw.shuts hs st').o x
 | [],_,_,_,_,h=>h
 |g::gs,st,st',h,x,hx=>by
  have hu:=Qy (h g (by simp)).1 (h g (by simp)).2;have step :∀y,st.o y=st'.o y->(st.aB (Fw.jS st.o g) []).o y=(st'.aB (Fw.jS st'.o g) []).o y:=λy hy=>by simp only[St.aB,hu,hy]
  refine ER gs (λg' hg'=>⟨step g' (h g' (by simp[hg'])).1,λd hd=>step d ?_⟩) x (step x hx);cases hl:(Fw.jS st.o g).lookup g' with
  |none=>simp only[St.aB,hl]at hd;exact(h g' (by simp[hg'])).2 d hd
  |some y=>simp only[St.aB,hl]at hd;rw[Qu y hl]at hd;cases hd
theorem Qz{d:Nat}{o:Oper}{K:Eff->Prop}(h:iP T tt d st o K)(hx :∀x∈o.op.operands.toList,st.bW x=st'.bW x)(ho :∀g∈rY T st o,st.o g=st'.o g):iP T tt d st' o K:=by
 have han:argNames st' o=argNames st o:=by
  unfold argNames;split
  .rename_i f args ts hop;refine ZS List.flatten (W4 λx hm=>?_);rw[hx x (by rw[hop];simp[Op.operands,Call.operands];exact .inr (by simpa using hm))]
  .rename_i t x lo hi mx hop;rw[hx x (by rw[hop];simp[Op.operands])]
  .rfl
 have hin :∀g∈rW st o,st.o g=st'.o g/\∀d∈(st.o g).hn,st.o d=st'.o d:=λg hg=>⟨ho g (We _ (YY.2 ⟨g,hg,by simp⟩)),λd hd=>ho d (We _ (YY.2 ⟨g,hg,WK _ hd⟩))⟩
 have hns:rW st' o=rW st o:=by unfold rW at hin ⊢;rw[han];exact xB 2 λg hg=>(hin g hg).1
 have hhs:iO st' o=iO st o:=by unfold iO;rw[hns,han];refine List.filter_congr λg hg=>?_;rw[(hin g hg).1]
 have hsub :∀g∈iO st o,g∈rW st o:=λg hg=>(Jn.1 hg).1;have hsh:=ER (iO st o) λg hg=>hin g (hsub g hg);have hE :∀e,Bg (iO st o) st e=Bg (iO st o) st' e:=λe=>by
  have hU:zh (iO st o) st=zh (iO st o) st':=by unfold zh;refine ZS List.flatten (W4 λg hg=>?_);have hg':=hin g (hsub g hg);rw[hsh g hg'.1,<-hg'.1];congr 1;refine W4 λd hd=>?_;rw[hsh d (hg'.2 d hd)]
  generalize iO st o=hs at hU ⊢;cases hs with
  |nil=>rfl
  |cons g gs=>simp only[Bg,hU]
 unfold iP at h ⊢;rw[hhs];refine N9 (st:=Fw.shuts (iO st o) st) (qR (λe he=>by rw[<-hE e];exact he) h) (λx hm=>?_) λg hg=>?_
 .have:=hx x hm;cases x with
  |tmp t=>show (Fw.shuts _ st).s t=(Fw.shuts _ st').s t;rw[Gx,Gx];exact this
  |_=>rfl
 .exact hsh g (ho g (XS _ hg))
theorem YK{N:Nat}{ops:Array Oper}{o:Oper}{e:Eff}(hc:Can T tt N ops st o e)(hs :∀t∈o.looksAt ops,st.s t=st'.s t)(ho :∀g∈rY T st o,st.o g=st'.o g)(hu :∀g∈e.new,st.used g=st'.used g):Can T tt N ops st' o e:=by
 have hx :∀x∈o.op.operands.toList,st.bW x=st'.bW x:=by
  intro x hm;cases x with
  |tmp t=>exact hs t (XS _ (KS.2 ⟨_,hm,rfl⟩))
  |_=>rfl
 have eff:(iP T tt (o.dst.getD 0) st o λe'=>e'.new.all (λg=>!st.used g)=true/\e'=e)->(iP T tt (o.dst.getD 0) st' o λe'=>e'.new.all (λg=>!st'.used g)=true/\e'=e):=by intro h;refine nN (λe' he=>?_) (Qz h hx ho);obtain⟨h1,rfl⟩:=he;refine⟨?_,rfl⟩;rw[Z1]at h1 ⊢;intro g hg;rw[<-hu g hg];exact h1 g hg
 unfold Can stepW at *;refine⟨hc.1,?_⟩;have hc:=hc.2;cases hg:o.guard with
 |none=>rw[hg]at hc;exact eff hc
 |some p=>
  obtain⟨j,want⟩:=p;rw[hg]at hc;simp only at hc ⊢;have:guardOf ops st j want=guardOf ops st' j want:=by
   unfold guardOf;cases hd:(ops[j]?).bind (·.dst)with
   |none=>rfl
   |some t=>simp only;rw[hs t (We _ (by simp[hg,hd]))]
  rw[<-this];split at hc
  .rename_i b hb;cases b with
   |true=>exact eff hc
   |false=>exact hc
  .cases hc
end
def LC(o:Nat->O):S->Option (Bool->Prop)
 |.v (.one (.p _ _ (.sl _ l)))=>some λb=>l≠[]->b=false
 |.v (.one (.own g))=>match (o g).dim with
  |some (_,l)=>some λb=>l≠0->b=false
  |none=>none
 |.v (.one .b_)=>some λb=>b=true
 |_=>none
def ES(o:Nat->O):S->Option (Bool->Prop)
 |.v (.one (.box g _))=>match o g with
  |.box _=>some λb=>b=false
  |_=>none
 |.v (.one (.p _ _ (.opq (.pointer none))))=>some λb=>b=true
 |_=>none
def xC(o:Nat->O)(x:S)(k:TK)(c:Value):Option (Bool->Prop):=
 match k,c with
 |.slice _,.slice none 0 0=>LC o x
 |.ptr,.pointer none=>ES o x
 |_,_=>none
def N_(tt:TT)(st:St)(o:Oper):Option (Bool×(Bool->Prop)):=
 match o.guard with
 |some _=>none
 |none=>match o.op with
  |.binOp op t x (.const c) _=>match tt t with
   |some i=>match op,xC st.o (st.bW x) i.k c with
    |.eql,some p=>some (true,p)
    |.neq,some p=>some (false,p)
    |_,_=>none
   |none=>none
  |_=>none
def QA(s n:P):Bool:=decide (n.nat<s.bytes.size)
def aaJ(s n:P):P:=.int .i32 (Utf8.decode s.bytes n.nat).1
def UC(s n:P):P:=kE (n.nat+(Utf8.decode s.bytes n.nat).2)
def Oa(st:St)(o:Oper):Option (Nat×P×P):=
 match o.guard with
 |some _=>none
 |none=>match o.op with
  |.next x true=>match st.bW x with
   |.v (.one (.mO g))=>match st.o g with
    |.it s n=>some (g,s,n)
    |_=>none
   |_=>none
  |_=>none
def IC(g:Nat)(s n:P):Eff:={ x:=.lq [.one (.p false false (.bool true)),.one (.p false false (kE n.nat)),.one (.p false false (aaJ s n))],aB:=[(g,.it s (UC s n))],new:=[] }
def LD:Eff:={ x:=.lq [.one (.p false false (.bool false))],aB:=[],new:=[] }
def BA(T:Tab)(tt:TT)(N:Nat)(ops:Array Oper)(o:Oper)(st:St)(K:Eff->Prop):Prop:=
 match N_ tt st o with
 |some (pos,p)=>(match o.dst with
  |some d=>decide (d<N)
  |none=>true)=true/\∀b:Bool,p b->K { x:=scalar (.bool (bif pos then b else !b)),aB:=[],new:=[] }
 |none=>match Oa st o with
  |some (g,s,n)=>(match o.dst with
   |some d=>decide (d<N)
   |none=>true)=true/\(QA s n=true->K (IC g s n))/\(QA s n=false->K LD)
  |none=>stepW T tt N ops o st K
def vg(T:Tab)(tt:TT)(N:Nat)(ops:Array Oper):List Nat->St->(St->Prop)->Prop
 | [],st,K=>K st
 |i::is,st,K=>match ops[i]? with
  |some o=>BA T tt N ops o st λe=>vg T tt N ops is (st.eff o.dst e) K
  |none=>False
structure rZ where
 rd:List Nat
 wr:List Nat
 new:List Nat
 ld:Option (Nat×Nat×Nat)
 kp:List (Nat×Nat)
 pk:Bool
 kd:List Nat
def aaK:W->W->Bool
 |.own g,.own g'=>Nat.beq g g'
 |.box g off,.box g' off'=>Nat.beq g g'&&Nat.beq off off'
 |_,_=>false
def BD(g:Nat):Nat->List W->List W->Option (List (Nat×Nat))
 |_,[],[]=>some []
 |j,x::xs,y::ys=>match BD g (j+1) xs ys with
  |some r=>some (match aaK x y with
   |true=>(g,j)::r
   |false=>r)
  |none=>none
 |_,_,_=>none
def QB(g:Nat):O->Option O->List (Nat×Nat)
 |.box ws,some (.box ws')=>match BD g 0 ws ws' with
  |some r=>r
  |none=>[]
 |_,_=>[]
def lX:Op->Bool
 |.nilCheck _=>true
 |.fieldAddr _ _ _=>true
 |_=>false
def IE:Op->Bool
 |.load _ _=>true
 |_=>false
def O.core:O->Option (Bool×Bool×Nat×List (Nat×Nat)×List (List P))
 |.aF a i sz ah l _=>some (a,i,sz,ah,l)
 |_=>Option.none
def keepR(g:Nat):O->Option O->List (Nat×Nat)
 |.aF _ _ _ _ _ hole,some (.aF _ _ _ _ _ _)=>match hole with
  |none=>[(g,5000000)]
  |some _=>[]
 |_,_=>[]
def Ob(st:St)(o:Oper)(e:Eff):List (Nat×Nat):=(bif lX o.op then(o.op.operands.toList.flatMap λx=>(st.bW x).names).map λg=>(g,0)else[]) ++
 (e.aB.map (·.1)).flatMap λg=>QB g (st.o g) (e.aB.lookup g)++bif IE o.op then keepR g (st.o g) (e.aB.lookup g)else[]
def kindOf:O->Nat
 |.box _=>1
 |.arr _ _ _ _ _=>2
 |.aF _ _ _ _ _ _=>2
 |.it _ _=>3
 |.none=>0
def UD(st:St)(e:Eff):List Nat:=(e.aB.map (·.1)).filterMap λg=>match e.aB.lookup g with
 |some x=>bif Nat.beq (kindOf x) (kindOf (st.o g))then some g else none
 |none=>none
def KL(tt:TT)(st:St)(o:Oper):Option (Nat×Nat×Nat):=match o.op with
 |.load t x=>match tt t,st.bW x with
  |some i,.v (.one (.box g off))=>some (g,off,i.size)
  |some i,.v (.one (.ep g _ off))=>match st.o g with
   |.aF _ _ _ ah _ _=>bif(iL ah off i.size).isEmpty then some (g,5000000,1)else none
   |_=>none
  |_,_=>none
 |_=>none
def oh(T:Tab)(tt:TT)(N:Nat)(ops:Array Oper):List Nat->St->List rZ->(St->List rZ->Prop)->Prop
 | [],st,fs,K=>K st fs
 |i::is,st,fs,K=>match ops[i]? with
  |some o=>stepW T tt N ops o st λe=>oh T tt N ops is (st.eff o.dst e) (fs++[{ rd:=rY T st o,wr:=e.aB.map (·.1),new:=e.new,ld:=KL tt st o,kp:=Ob st o e,pk:=lX o.op,kd:=UD st e }]) K
  |none=>False
def kX(acc:List Nat)(o:Oper):Nat:=o.after.toList.foldl (λs e=>if Region.binds .any e=true then s ||| (2 ^ e.on) ||| acc.getD e.on 0 else s) 0
def nP:List Oper->List Nat->List Nat
 | [],acc=>acc
 |o::os,acc=>nP os (acc++[kX acc o])
def IG(x:Option Tmp)(ts:List Tmp):Bool:=match x with
 |some t=>!ts.contains t
 |none=>true
def ET(w r:rZ):Bool:=match r.ld with
 |some (g,off,n)=>(List.range n).all λj=>w.kp.any λp=>Nat.beq p.1 g&&Nat.beq p.2 (off+j)
 |none=>r.pk&&r.kp.all λp=>!w.wr.contains p.1||w.kd.contains p.1
def aaL(ops:Array Oper)(x y:Oper)(fx fy:rZ):Bool:=IG x.dst (y.looksAt ops)&&IG y.dst (x.looksAt ops)&&IG x.dst y.dst.toList&&(NS fx.wr fy.rd||ET fx fy)&&(NS fy.wr fx.rd||ET fy fx)&&NS fx.wr fy.wr&&NS fx.new fy.new
def Wn(ops:Array Oper)(fs:List rZ):Bool:=
 let as:=nP ops.toList []
 (List.range ops.size).all λj=>decide (as.getD j 0<2 ^ j)&&(List.range j).all λi=>(as.getD j 0).testBit i||match ops[i]?,ops[j]?,fs[i]?,fs[j]? with
  |some x,some y,some fx,some fy=>aaL ops x y fx fy
  |_,_,_,_=>false
def qU(T:Tab)(tt:TT)(N:Nat)(ops:Array Oper)(draw:Bool)(st:St)(K:St->Prop):Prop:=
 match draw with
 |false=>vg T tt N ops (List.range ops.size) st K
 |true=>oh T tt N ops (List.range ops.size) st [] λst' fs=>Wn ops fs=true/\K st'
end Go.Fw

