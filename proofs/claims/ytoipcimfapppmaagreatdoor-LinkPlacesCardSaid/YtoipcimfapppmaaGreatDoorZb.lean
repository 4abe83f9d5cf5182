/-
  The framework (a machine on plain data that answers as the program does), part 2.
-/
import Derived.RangeFuncOwn
import Derived.Orders
import Derived.Test.YtoipcimfapppmaaGreatDoorZa
set_option linter.unusedSimpArgs false
set_option linter.unusedVariables false
set_option linter.unusedSectionVars false
namespace Go.Fw
variable [eY]
def sZ:List Nat->Bool
 | []=>true
 |x::xs=>!xs.contains x&&sZ xs
def Ee(xs ys:List Nat):Bool:=xs.all λx=>!ys.contains x
def jg(ak:List (Nat×Nat))(off n:Nat):List (Nat×Nat):=ak.filter λc=>Nat.ble off c.1&&Nat.blt c.1 (off+n)
def jh(o:Nat->O)(g:Nat):Option (Bool×Bool×Nat×List (Nat×Nat)×List (List P)):=match o g with
 |.aN a i sz ak l hole=>match hole with
  |none=>some (a,i,sz,ak,l)
  |some (n,c,d)=>match o d with
   |.arr false a' i' sz' l'=>if ak.lookup c=some sz'/\c<sz then some (a||a',i||i',sz,ak,jo l n c (P.fU sz' l')) else none
   |_=>none
 |_=>none
def kills(gs:List Nat):List (Nat×O):=gs.map λg=>(g,.none)
def QW(o:Nat->O)(col:Nat->Option Nat):Nat->List W->Option (List P×Bool×Bool×List Nat×List (Nat×Nat))
 |_,[]=>some ([],false,false,[],[])
 |j,x::xs=>match QW o col (j+1) xs with
  |none=>none
  |some (ys,a',i',gs',es)=>match col j with
   |none=>match x.toP o with
    |some (y,a,i,gs)=>some (y::ys,a||a',i||i',gs++gs',es)
    |none=>none
   |some s=>match x with
    |.dw=>some (.sl 0 []::ys,a',i',gs',es)
    |.own e=>match o e with
     |.arr false a i s' l=>if s'=s then some (P.fU s l::ys,a||a',i||i',gs',(j,e)::es) else none
     |_=>none
    |_=>none
def baseD(o:Nat->O):W->Option (Prop×Bool×Bool×List (List P)×List Nat×Option (Nat×List (Nat×Nat)))
 |.dw=>some (True,false,false,[],[],none)
 |.own g=>match jh o g with
  |some (a,i,sz,ak,l)=>some (True,a,i,l,g::(o g).hn,some (sz,ak))
  |none=>none
 |.vw g lo hi=>match jh o g with
  |some (a,i,sz,ak,l)=>some (lo=kY 0,a,i,l.take hi.nat,g::(o g).hn,some (sz,ak))
  |none=>none
 |_=>none
def hdr(l:List (List P)):P:=.sl 0 (List.replicate l.length [])
def RD:List (Nat×Nat)->Bool
 | [(0,0)]=>true
 |_=>false
def tq(tt:TT)(o:Nat->O)(f:Operand->S)(t:TypeId)(x:Operand):Option BL:=match tt t,f x with
 |some i,.v (.one (.ep g n off))=>match jh o g with
  |some (a,i',sz,ak,l)=>match ak.lookup off with
   |some _=>if off<sz/\i.size=1/\i.agg=false then some (.pure (.v (.one (.p false false (hdr ((l.getD n.nat []).getD off default).list))))) else none
   |none=>none
  |none=>none
 |_,_=>none
def dN(tt:TT)(dc:List (Nat×Nat))(d:Nat)(o:Nat->O)(f:Operand->S)(op:Op)(ty:TypeId):Option BL:=
 match op with
 |.load t x=>bif RD dc then tq tt o f t x else match tt t,f x with
  |some i,.v (.one (.ep g n off))=>match o g with
   |.aN a0 i0 Aq kT l0 hole=>if off+i.size<=Aq/\0<i.size then match jg kT off i.size with
    | []=>some (.pure (V.fK i.agg ((List.range i.size).map λj=>.p a0 i0 ((l0.getD n.nat []).getD (off+j) (Q8 i.zero j)))))
    | [(c,s)]=>match jh o g with
     |some (a,i',sz,ak,l)=>some (.mk True (.sl sz l) (λy=>V.fK i.agg ((List.range i.size).map λj=>if Nat.beq (off+j) c=true then .own d else .p a i' ((y.list.getD n.nat []).getD (off+j) (Q8 i.zero j))))
       (λy=>(g,.aN a i' sz ak y.list (some (n.nat,c,d)))::(d,.arr false a i' s ((y.list.getD n.nat []).getD c default).list)::kills (o g).hn) [d])
     |none=>none
    |_=>none
    else none
   |_=>none
  |_,_=>none
 |.store t x y=>match tt t,f x,f y with
  |some i,.v (.one (.ep g n off)),.v y=>match o g with
   |.aN a0 i0 sz ak l0 hole=>match QW o (λj=>ak.lookup j) off y.words with
    |some (ps,a',i',gs,es)=>if off+i.size<=sz/\y.words.length=i.size/\y.solid=true/\gs.contains g=false/\sZ (es.map (·.2))=true/\Ee (es.map (·.2)) gs=true then
      let res (pre:Prop) (a i:Bool) (l:List (List P)) (gX:Option (Nat×Nat×Nat)) (ks:List Nat):BL:=
       .mk pre (.sl sz (l.set n.nat (aS (l.getD n.nat []) off ps))) (λ_=>.no) (λz=>(g,.aN (a||a') (i||i') sz ak z.list gX)::kills (es.map (·.2))++kills ks++gs.map (aU o)) []
      match jg ak off i.size with
      | []=>some (res True a0 i0 l0 hole [])
      |_::_=>match hole with
       |none=>some (res True a0 i0 l0 none [])
       |some (n0,c0,d0)=>match jh o g with
        |some (a,i1,_,_,l)=>if (es.map (·.2)).contains d0=false/\gs.contains d0=false then some (res True a i1 l none [d0])
          else if off<=c0/\c0<off+i.size then some (res (n0=n.nat) a0 i0 l0 none []) else none
        |none=>if off<=c0/\c0<off+i.size then some (res (n0=n.nat) a0 i0 l0 none []) else none
      else none
    |none=>none
   |_=>none
  |_,_,_=>none
 |.buildSlice t n parts=>match tt t,dc with
  |some { k:=.slice e,.. },_::_=>match tt e with
   |some ie=>match mF (λm=>if m<n then some (m*ie.size,ie.size) else none) (fV (ie.zero.map cv) n) (parts.toList.map λp=>(p.1,f p.2)) with
    |some ws=>match QW o (λj=>dc.lookup (j % ie.size)) 0 ws with
     |some (ps,a,i,gs,es)=>if n+n*ie.size<=16777216/\sZ (es.map (·.2))=true/\Ee (es.map (·.2)) gs=true then
       some (.mk True (.sl ie.size (chunks ie.size n ps)) (λ_=>.v (.one (.own d)))
        (λy=>(d,.aN a i ie.size dc y.list none)::kills (es.map (·.2))++gs.map (aU o)) [d]) else none
     |none=>none
    |none=>none
   |none=>none
  |_,_=>none
 |.makeSlice t n c=>match tt t,f n,f c,dc with
  |some { k:=.slice e,.. },.v (.one (.p _ _ n)),.v (.one (.p _ _ c)),_::_=>match tt e with
   |some ie=>match QW o (λj=>dc.lookup j) 0 (ie.zero.map cv) with
    |some (ps,false,false,[],[])=>if 0<ie.size then
     some (.mk (∃m k:Nat,n=.int .i64 m/\c=.int .i64 k/\m<=k/\ie.bytes*k<=281474976710656/\k<=9223372036854775807) (.sl ie.size (List.replicate n.nat ps))
      (λ_=>.v (.one (.own d))) (λy=>[(d,.aN false false ie.size dc y.list none)]) [d]) else none
    |_=>none
   |none=>none
  |_,_,_,_=>none
 |.call { callee:=.builtin .append,args,argTypes }=>match args.toList,argTypes.toList with
  | [s,x],sT::xT::_=>match tt sT,tt xT,f s,f x with
   |some { k:=.slice e,.. },some { k:=.slice _,.. },.v (.one s),.v (.one (.own g2))=>match tt e,baseD o s,jh o g2 with
    |some ie,some (ask,a,i,old,ks,src),some (a2,i2,sz,ak,new)=>
     if ie.bytes≠0/\sz=ie.size/\(src=none\/src=some (sz,ak))/\sZ (ks++g2::(o g2).hn)=true then
      some (.mk (ask/\(old.length+new.length)*ie.bytes<=140737488355328) (.sl sz (old++new)) (λ_=>.v (.one (.own d)))
       (λy=>(d,.aN (a||a2) (i||i2) sz ak y.list none)::kills (ks++g2::(o g2).hn)) [d]) else none
    |_,_,_=>none
   |_,_,_,_=>none
  |_,_=>none
 |.slice t x none hi none=>match tt t,f x with
  |some { k:=.slice e,.. },.v (.one (.own g))=>match tt e,o g with
   |some ie,.arr false a i sz l=>if sz=ie.size then match mG (kY l.length) (hi.map f) with
    |some hi=>some (.mk (∃k:Nat,hi=.int .i64 k/\k<=l.length) (.sl sz (l.take hi.nat)) (λ_=>.v (.one (.own d))) (λy=>[(d,.arr false a i sz y.list),(g,.none)]) [d])
    |none=>none
    else none
   |some ie,.aN a i sz ak l Option.none=>if sz=ie.size then match mG (kY l.length) (hi.map f) with
    |some hi=>some (.mk (∃k:Nat,hi=.int .i64 k/\k<=l.length) (.sl sz (l.take hi.nat)) (λ_=>.v (.one (.own d))) (λy=>[(d,.aN a i sz ak y.list Option.none),(g,.none)]) [d])
    |none=>none
    else none
   |_,_=>none
  |_,_=>none
 |_=>none
section
variable {E:Env} {st st':St} {gh bH:Nat->Gh} {w w':World} {val:Nat->Value} {Pg:Program} {tt:TT}
theorem rQ :∀{l:List Nat},sZ l=true->l.Nodup
 | [],_=>List.nodup_nil
 |x::l,h=>by
  simp only [sZ,Qf,Wg,Wm,decide_eq_false_iff_not] at h;exact UV.2 ⟨h.1,rQ h.2⟩
theorem FQ{xs ys:List Nat}(h:Ee xs ys=true) :∀x∈xs,x∉ys:=by
 intro x hx;have:=(Z0.1 h) x hx;simpa using this
theorem iH{gs:List Nat}{g:Nat}:(kills gs).lookup g=if g∈gs then some O.none else none:=by
 induction gs with
 |nil=>rfl
 |cons x gs ih=>
  simp only [kills,Q6,List.lookup,QQ];by_cases e:g=x
  .subst e;simp
  .have:(g==x)=false:=by simpa using e
   rw [this];simp only [e,false_or];exact ih
theorem vV{α:Type}{g:Nat} :∀{l r:List (Nat×α)},(l++r).lookup g=(l.lookup g).or (r.lookup g)
 | [],r=>by simp
 |(k,v)::l,r=>by
  simp only [K9,List.lookup];split
  .rfl
  .exact vV
theorem lookup_cons{α:Type}{g k:Nat}{v:α}{r:List (Nat×α)}:((k,v)::r).lookup g=if g=k then some v else r.lookup g:=by
 simp only [List.lookup];by_cases e:g=k
 .subst e;simp
 .have:(g==k)=false:=by simpa using e
  rw [this,if_neg e]
theorem I9{ak:List (Nat×Nat)}{off n j:Nat}(h:jg ak off n=[])(h1:off<=j)(h2:j<off+n):ak.lookup j=none:=by
 cases hl:ak.lookup j with
 |none=>rfl
 |some s=>
  have hm:(j,s)∈ak:=by
   clear h
   induction ak with
   |nil=>cases hl
   |cons p ak ih=>
    obtain ⟨k,v⟩:=p;rw [lookup_cons] at hl;split at hl
    .rename_i e;cases hl;subst e;simp
    .exact WD _ (ih hl)
  have:(j,s)∈jg ak off n:=qi.2 ⟨hm,by simp [h1,h2]⟩;rw [h] at this;cases this
theorem FT{α:Type}{g:Nat}{v:α} :∀{l:List (Nat×α)},l.lookup g=some v->(g,v)∈l
 | [],h=>by cases h
 |(k,x)::l,h=>by
  rw [lookup_cons] at h;split at h
  .rename_i e;cases h;subst e;simp
  .exact WD _ (FT h)
theorem VI{ak:List (Nat×Nat)}{off n c s:Nat}(h:jg ak off n=[(c,s)]):ak.lookup c=some s/\off<=c/\c<off+n/\∀j,off<=j->j<off+n->j≠c->ak.lookup j=none:=by
 have hm:(c,s)∈jg ak off n:=by rw [h];simp
 obtain ⟨m1,m2⟩:=qi.1 hm;simp only [Qf,Nat.ble_eq,Nat.blt_eq] at m2;have key :∀j s',ak.lookup j=some s'->off<=j->j<off+n->(j,s')=(c,s):=by
  intro j s' hl h1 h2;have:(j,s')∈jg ak off n:=qi.2 ⟨FT hl,by simp [h1,h2]⟩;rw [h] at this;simpa using this
 refine ⟨?_,m2.1,m2.2,λj h1 h2 hne=>?_⟩
 .cases hl:ak.lookup c with
  |none=>
   exfalso;clear h hm key
   induction ak with
   |nil=>cases m1
   |cons p ak ih=>
    obtain ⟨k,v⟩:=p;rw [lookup_cons] at hl;split at hl
    .cases hl
    .rename_i e;rcases QQ.1 m1 with e1 | e1
     .cases e1;exact e rfl
     .exact ih e1 hl
  |some s'=>have:=key c s' hl m2.1 m2.2;cases this;rfl
 .cases hl:ak.lookup j with
  |none=>rfl
  |some s'=>have:=key j s' hl h1 h2;cases this;exact absurd rfl hne
theorem Rel.home(h:Rel E st gh val w){g:Nat}{a i:Bool}{sz:Nat}{ak:List (Nat×Nat)}{l:List (List P)}(hh:jh st.o g=some (a,i,sz,ak,l)) :
  ∃st1 ny,Rel E st1 ny val w/\Lets E st st1 gh ny w w/\(∀x,(ny x).ad=(gh x).ad/\(ny x).cap=(gh x).cap)/\st1.s=st.s/\(∀x,st1.used x=st.used x)/\st1.o g=.aN a i sz ak l none/\
   (∀d∈(st.o g).hn,st1.o d=.none/\d≠g)/\∀g',g'≠g->g'∉(st.o g).hn->st1.o g'=st.o g':=by
 unfold jh at hh;cases ho:st.o g with
 |aN a0 i0 Aq kT l0 hole=>
  rw [ho] at hh;simp only at hh;rcases hole with _ | ⟨n,c,d⟩
  .simp only [Q0,Q1] at hh;obtain ⟨rfl,rfl,rfl,rfl,rfl⟩:=hh;exact ⟨st,gh,h,⟨λa i b hb=>⟨hb,rfl⟩,λg _=>.inr ⟨⟨rfl,rfl⟩,O.fF _⟩⟩,λ_=>⟨rfl,rfl⟩,rfl,λ_=>rfl,ho,(λd hd=>by cases hd),λ_ _ _=>rfl⟩
  .simp only at hh;cases hd:st.o d with
   |arr fz a' i' sz' l'=>
    rw [hd] at hh;cases fz with
    |true=>cases hh
    |false=>
     simp only at hh;split at hh
     .rename_i hc;simp only [Q0,Q1] at hh;obtain ⟨rfl,rfl,rfl,rfl,rfl⟩:=hh;obtain ⟨ny,h1,l1,e1⟩:=h.shut ho hd hc.1 hc.2;have hne:d≠g:=by intro e;subst e;rw [ho] at hd;cases hd
      refine ⟨_,ny,h1,l1,e1,rfl,λx=>by simp [St.aJ],by simp [St.aJ,List.lookup],λd' hd'=>?_,λg' h1 h2=>?_⟩
      .simp only [O.hn,dA,QP] at hd';subst hd';have e1:(d'==g)=false:=by simpa using hne
       exact ⟨by simp [St.aJ,List.lookup,e1],hne⟩
      .have e1:(g'==g)=false:=by simpa using h1
       have e2:(g'==d)=false:=by simp;intro e;exact h2 (by rw [e];simp [O.hn,dA])
       simp [St.aJ,List.lookup,e1,e2]
     .cases hh
   |_=>rw [hd] at hh;cases hh
 |_=>rw [ho] at hh;cases hh
theorem oD{o:Nat->O}{g:Nat}{a i:Bool}{sz:Nat}{ak:List (Nat×Nat)}{l:List (List P)}(hh:jh o g=some (a,i,sz,ak,l)):(o g).dim=some (sz,l.length):=by
 unfold jh at hh;cases ho:o g with
 |aN a0 i0 Aq kT l0 hole=>
  rw [ho] at hh;simp only at hh;rcases hole with _ | ⟨n,c,d⟩
  .simp only [Q0,Q1] at hh;obtain ⟨rfl,rfl,rfl,rfl,rfl⟩:=hh;rfl
  .simp only at hh;split at hh
   .split at hh
    .simp only [Q0,Q1] at hh;obtain ⟨rfl,rfl,rfl,rfl,rfl⟩:=hh;simp [O.dim,jf]
    .cases hh
   .cases hh
 |_=>rw [ho] at hh;cases hh
theorem I_{Q:Nat->Value->Prop}{b o n:Nat}(h :∀j,j<n->∃v,w.cell? ⟨b,o+j,none⟩=some v/\v.oneCell'=true/\Q j v) :
  ∃cs:List Value,cs.length=n/\(∀(j:Nat) u,cs[j]?=some u->w.cell? ⟨b,o+j,none⟩=some u)/\(∀c∈cs,c.oneCell'=true)/\∀(j:Nat) u,cs[j]?=some u->Q j u:=by
 have key :∀j u,((List.range n).map λj=>(w.cell? ⟨b,o+j,none⟩).getD undef)[j]?=some u->j<n/\w.cell? ⟨b,o+j,none⟩=some u/\u.oneCell'=true/\Q j u:=by
  intro j u hu;simp only [Ys,W0] at hu;obtain ⟨k,hk,rfl⟩:=hu;obtain ⟨hlt,rfl⟩:=Q3.1 hk;simp at hlt ⊢;obtain ⟨v,hv,h1,h2⟩:=h j hlt;rw [hv];exact ⟨hlt,rfl,h1,h2⟩
 refine ⟨(List.range n).map λj=>(w.cell? ⟨b,o+j,none⟩).getD undef,by simp,λj u hu=>(key j u hu).2.1,λc hc=>?_,λj u hu=>(key j u hu).2.2.2⟩;obtain ⟨j,hj⟩:=VM.1 hc;exact (key j c hj).2.2.1
def qL(Pg:Program)(tt:TT)(dc:List (Nat×Nat))(op:Op):Prop:=
 ∀(E:Env) (st:St) (gh:Nat->Gh) (val:Nat->Value) (w:World) (ρ:Operand->Value) (F:Operand->S) (o:Oper) (d:Nat) (r:BL),o.op=op->Rel E st gh val w->
  (∀x,dJ E st gh w (F x) (ρ x))->(∀x,∀g∈(F x).names,st.used g=true)->dN tt dc d st.o F op o.type=some r->r.pre->(∀g∈r.new,st.used g=false)->
  ∃v w' bH,Does Pg (execOp ρ o) w v w'/\Rel E (st.aJ (r.aJ r.val) r.new) bH val w'/\Lets E st (st.aJ (r.aJ r.val) r.new) gh bH w w'/\dJ E (st.aJ (r.aJ r.val) r.new) bH w' (r.dst r.val) v/\
   ∀g∈(r.dst r.val).names,(st.aJ (r.aJ r.val) r.new).used g=true
theorem St.Ef{a b:St}(h1:a.s=b.s)(h2 :∀g,a.o g=b.o g)(h3 :∀g,a.used g=b.used g):a=b:=by
 obtain ⟨s,o,u⟩:=a;obtain ⟨s',o',u'⟩:=b;simp only at h1 h2 h3;rw [h1,funext h2,funext h3]
theorem LU(htt:iR Pg tt)(t:TypeId)(x:Operand){E:Env}{st:St}{gh:Nat->Gh}{val:Nat->Value}{w:World}{ρ:Operand->Value}{F:Operand->S}{o:Oper}{r:BL}(ho:o.op=.load t x)(h:Rel E st gh val w)
  (hF :∀x,dJ E st gh w (F x) (ρ x)) (hk:tq tt st.o F t x=some r) :
  ∃v w' bH,Does Pg (execOp ρ o) w v w'/\Rel E (st.aJ (r.aJ r.val) r.new) bH val w'/\Lets E st (st.aJ (r.aJ r.val) r.new) gh bH w w'/\dJ E (st.aJ (r.aJ r.val) r.new) bH w' (r.dst r.val) v/\
   ∀g∈(r.dst r.val).names,(st.aJ (r.aJ r.val) r.new).used g=true:=by
 unfold tq at hk;split at hk
 .rename_i i g n off ht hx;have rx:=hF x;rw [hx] at rx;split at hk
  .rename_i a i' sz ak l hh;split at hk
   .rename_i s ags;split at hk
    .rename_i hlt;simp only [Q0] at hk;subst hk;obtain ⟨st1,ny,h1,l1,e1,es,eu,eo,ek,en1⟩:=h.home hh;have LV:=oD hh;obtain ⟨ad,k,had,rfl,hkl,hv⟩:=(by cases rx.dK with | ep _ _ _ _ _ hb=>exact hb _ _ LV :∃(ad:Addr) (k:Nat),(gh g).ad=some ad/\n=.int .i64 k/\k<l.length/\ρ x=.pointer (some ⟨ad.block,ad.off+k*sz+off,none⟩));have en:(P.int .i64 (k:Int)).nat=k:=by simp [P.nat,P.num]
     have LW:(ny g).ad=some ad:=by rw [(e1 g).1];exact had
     have hD:kX E st1 ny w a i' sz ak l none (ny g):=by have:=h1.aZ g;rw [eo] at this;exact this
     rcases hD with ⟨k1,_⟩ | ⟨ad0,cs0,ty,k1,k2,k3,k4,k5,k6,_,k8⟩
     .rw [LW] at k1;cases k1
     rw [LW] at k1;cases k1;have hrow:l[k]?=some l[k]:=Q2 hkl;have hrl:l[k].length=sz:=k6 _ (X1 hkl);have hoff:off<l[k].length:=by omega
     obtain ⟨v,hv0,hr⟩:=k8 k _ hrow off _ (Q2 hoff);unfold iV at hr;rw [ags] at hr;simp only [iw] at hr;obtain ⟨l',ao,kk,hy,rfl,harr,_⟩:=hr;have hcell:w.cell? ⟨ad.block,ad.off+k*sz+off,none⟩=some (.slice ao l'.length kk):=by simp [World.cell?,k3,hv0]
     obtain ⟨v,hrun,hval⟩:=kH (Pg:=Pg) (w:=w) (htt _ _ ht) ad.block (ad.off+k*sz+off) [.slice ao l'.length kk] (by simp [hlt.2.1]) (λj c hj=>by
      cases j with
      |zero=>simp at hj;subst hj;exact hcell
      |succ j=>simp at hj) (λ_=>by omega)
     have hvv:v=.slice ao l'.length kk:=by
      rw [hlt.2.2] at hval;exact hval _ rfl
     have hdr':hdr ((l.getD (P.int .i64 (k:Int)).nat []).getD off default).list=.sl 0 (List.replicate l'.length []):=by
      rw [en];have e2:(l.getD k []).getD off default=l[k][off]:=by
       rw [List.getD_eq_getElem?_getD,List.getD_eq_getElem?_getD,hrow];simp [Q2 hoff]
      rw [e2,hy,P.oq];rfl
     rw [hdr'];refine still h (v:=v) (by unfold execOp;rw [ho];exact gW (by rw [hv];simpa [Instr.loadAt,Instr.sureAddr] using hrun)) (dJ.ofP ?_) λg' hg'=>by simp [BL.pure,S.names,V.names,W.names] at hg'
     rw [hvv];rcases harr with ⟨q1,q2,q3⟩ | ⟨BO,c2,e2,q1,q2,q3,q4,q5,_⟩
     .subst q3;exact .nil _ _ _
     .have q1:ao=some BO:=q1;have q5:l'.length<=kk/\kk<=9223372036854775807:=q5;rw [q1];have:=cO.sl (w:=w) (ok:=E.ok st gh w false false) 0 (List.replicate l'.length []) BO kk (λ_ _=>undef) q2 (λh0=>absurd h0 (qd 0)) (by simpa using q5.1) (λx hx=>by rw [KK hx];rfl)
       (λn x hx j y hy=>by rw [KK (XX hx)] at hy;simp at hy) (λn x hx j y hy=>by rw [KK (XX hx)] at hy;simp at hy)
      simpa using this
    .cases hk
   .cases hk
  .cases hk
 .cases hk
theorem RF{dc:List (Nat×Nat)}(htt:iR Pg tt)(t:TypeId)(x:Operand):qL Pg tt dc (.load t x):=by
 intro E st gh val w ρ F o d r ho h hF hFn hk hp hd;simp only [dN] at hk;cases hhd:RD dc with
 |true=>rw [hhd] at hk;exact LU htt t x ho h hF hk
 |false=>
 rw [hhd] at hk;simp only [cond_false] at hk;split at hk
 .rename_i i g n off ht hx;have rx:=hF x;rw [hx] at rx;split at hk
  .rename_i a0 i0 Aq kT l0 hole hog;split at hk
   .rename_i hlt;have LV:(st.o g).dim=some (Aq,l0.length):=by rw [hog];rfl
    obtain ⟨ad,k,had,rfl,hkl,hv⟩:=(by cases rx.dK with | ep _ _ _ _ _ hb=>exact hb _ _ LV :∃(ad:Addr) (k:Nat),(gh g).ad=some ad/\n=.int .i64 k/\k<l0.length/\ρ x=.pointer (some ⟨ad.block,ad.off+k*Aq+off,none⟩));have en:(P.int .i64 (k:Int)).nat=k:=by simp [P.nat,P.num]
    split at hk
    .rename_i hci;simp only [Q0] at hk;subst hk;have hD:kX E st gh w a0 i0 Aq kT l0 hole (gh g):=by have:=h.aZ g;rw [hog] at this;exact this
     rcases hD with ⟨k1,_⟩ | ⟨ad0,cs0,ty,k1,k2,k3,k4,k5,k6,_,k8⟩
     .rw [had] at k1;cases k1
     rw [had] at k1;cases k1;have hrow:l0[k]?=some l0[k]:=Q2 hkl;have hrl:l0[k].length=Aq:=k6 _ (X1 hkl);have hget:l0.getD (P.int .i64 (k:Int)).nat []=l0[k]:=by rw [en,List.getD_eq_getElem?_getD,hrow];rfl
     obtain ⟨cs,hl,hcell,hone,hrep⟩:=I_ (w:=w) (b:=ad.block) (o:=ad.off+k*Aq+off) (n:=i.size) (Q:=λj v=>cO w (E.ok st gh w a0 i0) (l0[k].getD (off+j) (Q8 i.zero j)) v) λj hj=>by
      have hlt':off+j<l0[k].length:=by omega
      obtain ⟨v,hv,hr⟩:=k8 k _ hrow (off+j) _ (Q2 hlt');simp only [iV,I9 hci (show off<=off+j by omega) (show off+j<off+i.size by omega)] at hr;have e0:ad.off+k*Aq+off+j=ad.off+k*Aq+(off+j):=by omega
      refine ⟨v,by rw [e0];simp [World.cell?,k3,hv],hr.oneCell,?_⟩;rw [List.getD_eq_getElem?_getD,Q2 hlt'];exact hr
     obtain ⟨v,hrun,hval⟩:=kH (Pg:=Pg) (w:=w) (htt _ _ ht) ad.block (ad.off+k*Aq+off) cs hl hcell (λ_=>hlt.2);rw [hget];exact still h (v:=v) (by unfold execOp;rw [ho];exact gW (by rw [hv];simpa [Instr.loadAt,Instr.sureAddr] using hrun)) (lq (by simp [hl]) hone (λj y u hy hu=>by
       simp only [Ys,W0] at hy;obtain ⟨q,hq,rfl⟩:=hy;obtain ⟨hlt2,rfl⟩:=Q3.1 hq;simp at hlt2 ⊢;exact .p _ _ _ _ (hrep _ u hu)) v hval)
      λg' hg'=>by obtain ⟨y,hy,hg'⟩:=jK hg';rw [sU hy] at hg';cases hg'
    .rename_i c s hci;split at hk
     .rename_i a i' sz ak l hh;simp only [Q0] at hk;subst hk;obtain ⟨st1,ny,h1,l1,e1,es,eu,eo,ek,en1⟩:=h.home hh;have acF:=oD hh;rw [LV] at acF;simp only [Q0,Q1] at acF;obtain ⟨rfl,hll⟩:=acF;have hcols:ak=kT:=by
       unfold jh at hh;rw [hog] at hh;simp only at hh;split at hh
       .cases hh;rfl
       .split at hh
        .split at hh
         .cases hh;rfl
         .cases hh
        .cases hh
      subst hcols;obtain ⟨c1,c2,c3,c4⟩:=VI hci;have Hz:st.used d=false:=hd d (by simp);have LW:(ny g).ad=some ad:=by rw [(e1 g).1];exact had
      have hD:kX E st1 ny w a i' Aq ak l none (ny g):=by have:=h1.aZ g;rw [eo] at this;exact this
      rcases hD with ⟨k1,_⟩ | ⟨ad0,cs0,ty,k1,k2,k3,k4,k5,k6,_,k8⟩
      .rw [LW] at k1;cases k1
      rw [LW] at k1;cases k1;have hkl':k<l.length:=by omega
      have hrow:l[k]?=some l[k]:=Q2 hkl';have hrl:l[k].length=Aq:=k6 _ (X1 hkl');have hget:l.getD (P.int .i64 (k:Int)).nat []=l[k]:=by rw [en,List.getD_eq_getElem?_getD,hrow];rfl
      have hyc:l[k][c]?=some l[k][c]:=Q2 (by omega);obtain ⟨l',ao,kc,zO,hy,⟨BO,cs2,ty2,q1,q2,q3⟩,q4,q5,r1,r2⟩:=h1.split (d:=d) (by rw [eu];exact Hz) eo c1 hrow hyc;rw [LW] at q1;cases q1;rw [k3] at q2;cases q2;have hlist:((l.getD (P.int .i64 (k:Int)).nat []).getD c default).list=l':=by
       rw [hget,List.getD_eq_getElem?_getD,hyc];show (l[k][c]).list=l';rw [hy,P.oq]
      have hgd:g≠d:=λe=>by rw [<-e,h.ul g (by rw [hog];simp)] at Hz;cases Hz
      have hst:st1.aJ [(g,.aN a i' Aq ak l (some (k,c,d))),(d,.arr false a i' s l')] [d]=st.aJ ((g,.aN a i' Aq ak l (some ((P.int .i64 (k:Int)).nat,c,d)))::(d,.arr false a i' s ((l.getD (P.int .i64 (k:Int)).nat []).getD c default).list)::kills (st.o g).hn) [d]:=by
       rw [hlist,en];refine St.Ef es (λx=>?_) (λx=>by simp [St.aJ,eu]);simp only [St.aJ,lookup_cons,iH];by_cases x1:x=g
       .simp only [if_pos x1]
       .by_cases x2:x=d
        .simp only [if_neg x1,if_pos x2]
        .simp only [if_neg x1,if_neg x2];by_cases x3:x∈(st.o g).hn
         .simp only [if_pos x3];exact (ek x x3).1
         .simp only [if_neg x3];exact en1 x x1 x3
      obtain ⟨cs,hl,hcell,hone,hrep⟩:=I_ (w:=w) (b:=ad.block) (o:=ad.off+k*Aq+off) (n:=i.size) (Q:=λj v=>if Nat.beq (off+j) c=true then v=.slice ao l'.length kc else cO w (E.ok st1 ny w a i') (l[k].getD (off+j) (Q8 i.zero j)) v) λj hj=>by
       have hlt':off+j<l[k].length:=by omega
       obtain ⟨v,hv,hr⟩:=k8 k _ hrow (off+j) _ (Q2 hlt');have e0:ad.off+k*Aq+off+j=ad.off+k*Aq+(off+j):=by omega
       refine ⟨v,by rw [e0];simp [World.cell?,k3,hv],hr.oneCell,?_⟩;by_cases hjc:off+j=c
       .rw [if_pos (by simpa using hjc)];rw [hjc] at hv;rw [hv] at q3;exact Wc q3
       .rw [if_neg (by simpa using hjc)];simp only [iV,c4 (off+j) (by omega) (by omega) hjc] at hr;rw [List.getD_eq_getElem?_getD,Q2 hlt'];exact hr
      obtain ⟨v,hrun,hval⟩:=kH (Pg:=Pg) (w:=w) (htt _ _ ht) ad.block (ad.off+k*Aq+off) cs hl hcell (λ_=>hlt.2);have hod:(st1.aJ [(g,.aN a i' Aq ak l (some (k,c,d))),(d,.arr false a i' s l')] [d]).o d=.arr false a i' s l':=by
       have:(d==g)=false:=by simpa using hgd.symm
       simp [St.aJ,List.lookup,this]
      refine ⟨v,w,zO,.inl (by unfold execOp;rw [ho];exact gW (by rw [hv];simpa [Instr.loadAt,Instr.sureAddr] using hrun)),?_,?_,?_,λg' hg'=>?_⟩
      .rw [hst] at r1;exact r1
      .have:=Lets.trans l1 r2 λg hg=>by rw [eu];exact hg
       rw [hst] at this;exact this
      .have hS:dJ E (st1.aJ [(g,.aN a i' Aq ak l (some (k,c,d))),(d,.arr false a i' s l')] [d]) zO w (V.fK i.agg ((List.range i.size).map λj=>if Nat.beq (off+j) c=true then W.own d else W.p a i' ((l.getD (P.int .i64 (k:Int)).nat []).getD (off+j) (Q8 i.zero j)))) v:=by
        rw [hget];refine lq (by simp [hl]) hone (λj y u hy hu=>?_) v hval;simp only [Ys,W0] at hy;obtain ⟨q,hq,rfl⟩:=hy;obtain ⟨hlt2,rfl⟩:=Q3.1 hq;simp at hlt2 ⊢;have hr:=hrep _ u hu;by_cases hjc:off+j=c
        .rw [if_pos hjc];rw [if_pos (by simpa using hjc)] at hr;subst hr;exact .own d _ rfl λsz3 aqu hd3=>by rw [hod] at hd3;obtain ⟨_,e2⟩:=O.kF hd3;rw [q4,q5,e2]
        .rw [if_neg hjc];rw [if_neg (by simpa using hjc)] at hr;exact .p _ _ _ _ (r2.kR (by simpa using hr))
       rw [hst] at hS;exact hS
      .have hg':g'∈(V.fK i.agg ((List.range i.size).map λj=>if Nat.beq (off+j) c=true then W.own d else W.p a i' ((l.getD (P.int .i64 (k:Int)).nat []).getD (off+j) (Q8 i.zero j)))).names:=hg';obtain ⟨y,hy,hg'⟩:=jK hg';obtain ⟨j,_,rfl⟩:=QR.1 hy;split at hg'
       .simp only [W.names,QP] at hg';subst hg';simp [St.aJ]
       .simp [W.names] at hg'
     .cases hk
    .cases hk
   .cases hk
  .cases hk
 .cases hk
theorem PartOf.mono{a i a' i':Bool}{es es':List (Nat×Nat)}{s j:Nat}{y:P}{u:Value}(h:PartOf st gh a i es s j y u)(ha:a=true->a'=true)(hi:i=true->i'=true)(he :∀p∈es,p∈es'):PartOf st gh a' i' es' s j y u:=by
 obtain ⟨l',h1,h2⟩:=h;refine ⟨l',h1,h2.imp id ?_⟩;rintro ⟨e,a1,i1,q1,q2,q3,q4,q5⟩;exact ⟨e,a1,i1,he _ q1,q2,λh=>ha (q3 h),λh=>hi (q4 h),q5⟩
theorem Cb(h:Rel E st gh val w){col:Nat->Option Nat} :∀{ws:List W} {cs:List Value} {ps:List P} {a i:Bool} {gs:List Nat} {es:List (Nat×Nat)} {j0:Nat},ws.length=cs.length->(∀(j:Nat) x u,ws[j]?=some x->cs[j]?=some u->fD E st gh w x u)->
  QW st.o col j0 ws=some (ps,a,i,gs,es)->ps.length=ws.length/\xO st.o gs/\(∀p∈es,∃a1 i1 s l',st.o p.2=.arr false a1 i1 s l'/\(i1=true->i=true))/\
   ∀(j:Nat) y u,ps[j]?=some y->cs[j]?=some u->match col (j0+j) with
    |none =>∀st',(∀g∈gs,st'.o g=(Fw.aU st.o g).2)->Rel E st' gh val w->Lets E st st' gh gh w w->cO w (E.ok st' gh w a i) y u
    |some s=>PartOf st gh a i es s (j0+j) y u
 | [],cs,ps,a,i,gs,es,j0,hl,hr,ht=>by
  simp only [QW,Q0,Q1] at ht;obtain ⟨rfl,rfl,rfl,rfl,rfl⟩:=ht;exact ⟨rfl,xO.nil,(λp hp=>by cases hp),λj y u hy=>by simp at hy⟩
 |x::ws,cs,ps,a,i,gs,es,j0,hl,hr,ht=>by
  cases cs with
  |nil=>simp at hl
  |cons c cs=>
   simp only [QW] at ht;split at ht
   .cases ht
   .rename_i ys a' i' gs' es' h2;obtain ⟨q0,q1,qe,q2⟩:=Cb h (j0:=j0+1) (by simpa using hl) (λj a b ha hb=>hr (j+1) a b (by simpa using ha) (by simpa using hb)) h2;have rest :∀(a i:Bool) (gs:List Nat) (es:List (Nat×Nat)),(a'=true->a=true)->(i'=true->i=true)->(∀g∈gs',g∈gs)->(∀p∈es',p∈es)->∀(j:Nat) y u,ys[j]?=some y->cs[j]?=some u->match col (j0+(j+1)) with
      |none =>∀st',(∀g∈gs,st'.o g=(Fw.aU st.o g).2)->Rel E st' gh val w->Lets E st st' gh gh w w->cO w (E.ok st' gh w a i) y u
      |some s=>PartOf st gh a i es s (j0+(j+1)) y u:=by
     intro a i gs es ha hi hg he j y u hy hu;have:=q2 j y u hy hu;have e:j0+1+j=j0+(j+1):=by omega
     rw [e] at this;cases hc:col (j0+(j+1)) with
     |none=>rw [hc] at this;exact λst' h1 h2 h3=>(this st' (λg hg'=>h1 g (hg g hg')) h2 h3).cls ha hi
     |some s=>rw [hc] at this;exact this.mono ha hi he
    cases hc0:col j0 with
    |none=>
     rw [hc0] at ht;simp only at ht;split at ht
     .rename_i y1 a1 i1 gs1 h1;simp only [Q0,Q1] at ht;obtain ⟨rfl,rfl,rfl,rfl,rfl⟩:=ht;obtain ⟨k1,k2⟩:=OQ h (hr 0 x c rfl rfl) h1;refine ⟨by simp [q0],k1.append q1,λp hp=>let ⟨a2,i2,s2,l2,z1,z2⟩:=qe p hp;⟨a2,i2,s2,l2,z1,λhh=>by simp [z2 hh]⟩,λj y u hy hu=>?_⟩;cases j with
      |zero=>
       simp at hy hu;subst hy hu;rw [UB,hc0];exact λst' hst h' hlet=>(k2 st' (λg hg=>hst g (by simp [hg])) h' hlet).cls (by simp;exact λh=>.inl h) (by simp;exact λh=>.inl h)
      |succ j=>exact rest _ _ _ _ (by simp;exact λh=>.inr h) (by simp;exact λh=>.inr h) (λg hg=>by simp [hg]) (λp hp=>hp) j y u (by simpa using hy) (by simpa using hu)
     .cases ht
    |some s=>
     rw [hc0] at ht;simp only at ht;split at ht
     .simp only [Q0,Q1] at ht;obtain ⟨rfl,rfl,rfl,rfl,rfl⟩:=ht;refine ⟨by simp [q0],q1,qe,λj y u hy hu=>?_⟩;cases j with
      |zero=>
       simp at hy hu;subst hy hu;rw [UB,hc0];have r0:=hr 0 _ _ rfl rfl;cases r0;exact ⟨[],rfl,.inl ⟨rfl,rfl⟩⟩
      |succ j=>exact rest _ _ _ _ id id (λg hg=>hg) (λp hp=>hp) j y u (by simpa using hy) (by simpa using hu)
     .rename_i e;split at ht
      .rename_i a1 i1 s' l1 hoe;split at ht
       .rename_i hs;subst hs;simp only [Q0,Q1] at ht;obtain ⟨rfl,rfl,rfl,rfl,rfl⟩:=ht;refine ⟨by simp [q0],q1,λp hp=>?_,λj y u hy hu=>?_⟩
        .rcases QQ.1 hp with rfl | hp
         .exact ⟨a1,i1,s',l1,hoe,λhh=>by simp [hh]⟩
         .obtain ⟨a2,i2,s2,l2,z1,z2⟩:=qe p hp;exact ⟨a2,i2,s2,l2,z1,λhh=>by simp [z2 hh]⟩
        cases j with
        |zero=>
         simp at hy hu;subst hy hu;rw [UB,hc0];have r0:=hr 0 _ _ rfl rfl;refine ⟨l1,rfl,.inr ⟨e,a1,i1,by simp,hoe,by simp;exact λh=>.inl h,by simp;exact λh=>.inl h,?_⟩⟩;cases r0 with | own _ _ _ hb=>exact hb _ _ (O.jV hoe)
        |succ j=>exact rest _ _ _ _ (by simp;exact λh=>.inr h) (by simp;exact λh=>.inr h) (λg hg=>hg) (λp hp=>by simp [hp]) j y u (by simpa using hy) (by simpa using hu)
       .cases ht
      .cases ht
     .cases ht
theorem Ja{o:Nat->O}{g:Nat}{a0 i0:Bool}{Aq:Nat}{kT:List (Nat×Nat)}{l0:List (List P)}{hole:Option (Nat×Nat×Nat)}{a i:Bool}{sz:Nat}{ak:List (Nat×Nat)}{l:List (List P)}(hog:o g=.aN a0 i0 Aq kT l0 hole)
  (hh:jh o g=some (a,i,sz,ak,l)):sz=Aq/\ak=kT/\l.length=l0.length:=by
 have h1:=oD hh;rw [hog] at h1;simp only [O.dim,Q0,Q1] at h1;refine ⟨h1.1.symm,?_,h1.2.symm⟩;unfold jh at hh;rw [hog] at hh;simp only at hh;split at hh
 .cases hh;rfl
 .split at hh
  .split at hh
   .cases hh;rfl
   .cases hh
  .cases hh
theorem vW(htt:iR Pg tt)(h:Rel E st gh val w){o:Oper}{ρ:Operand->Value}{t:TypeId}{x y:Operand}(ho:o.op=.store t x y){i:TI}(ht:tt t=some i){y':V}(ry:rG E st gh w y' (ρ y))(hys:y'.solid=true)(hyl:y'.words.length=i.size)
  {g:Nat} {a1 i1:Bool} {sz:Nat} {ak:List (Nat×Nat)} {l:List (List P)} {hole gX:Option (Nat×Nat×Nat)} {ad:Addr} {k off:Nat} (hv:ρ x=.pointer (some ⟨ad.block,ad.off+k*sz+off,none⟩)) (hsz:off+i.size<=sz) (hk:k<l.length)
  {ps:List P} {a' i':Bool} {gs:List Nat} {es:List (Nat×Nat)} (hD:QW st.o (λj=>ak.lookup j) off y'.words=some (ps,a',i',gs,es)) (hnd:(es.map (·.2)).Nodup) (hap :∀e∈es.map (·.2),e∉gs)
  {st1:St} {ny:Nat->Gh} (ks:List Nat) (h1:Rel E st1 ny val w) (l1:Lets E (st.aJ (gs.map (Fw.aU st.o)) []) st1 gh ny w w) (e1 :∀x,(ny x).ad=(gh x).ad/\(ny x).cap=(gh x).cap) (s1:st1.s=st.s) (u1 :∀x,st1.used x=st.used x)
  (o1:st1.o g=.aN a1 i1 sz ak l hole) (had:(gh g).ad=some ad) (ok1 :∀d∈ks,st1.o d=.none/\d≠g/\d∉es.map (·.2)) (oo1 :∀g',g'≠g->g'∉ks->st1.o g'=(st.aJ (gs.map (Fw.aU st.o)) []).o g') (hgg:g∉gs)
  (hh1 :∀m j,¬ (m=k/\off<=j/\j<off+i.size)->∀s,ak.lookup j=some s->iw gX m j=iw hole m j) (hh2 :∀j s,off<=j->j<off+i.size->ak.lookup j=some s->iw gX k j=none) (hh3 :∀d∈dA gX,d∈dA hole) :
  ∃v w' bH,Does Pg (execOp ρ o) w v w'/\Rel E (st.aJ ((g,.aN (a1||a') (i1||i') sz ak (l.set k (aS (l.getD k []) off ps)) gX)::kills (es.map (·.2))++kills ks++gs.map (Fw.aU st.o)) []) bH val w'/\
   Lets E st (st.aJ ((g,.aN (a1||a') (i1||i') sz ak (l.set k (aS (l.getD k []) off ps)) gX)::kills (es.map (·.2))++kills ks++gs.map (Fw.aU st.o)) []) gh bH w w'/\
   dJ E (st.aJ ((g,.aN (a1||a') (i1||i') sz ak (l.set k (aS (l.getD k []) off ps)) gX)::kills (es.map (·.2))++kills ks++gs.map (Fw.aU st.o)) []) bH w' .no v/\
   ∀g∈S.names .no,(st.aJ ((g,.aN (a1||a') (i1||i') sz ak (l.set k (aS (l.getD k []) off ps)) gX)::kills (es.map (·.2))++kills ks++gs.map (Fw.aU st.o)) []).used g=true:=by
 obtain ⟨us,hus,OM,huo,hur⟩:=ry.cells hys;have acz:us.length=i.size:=by rw [OM,hyl]
 obtain ⟨q0,q1,qe,q2⟩:=Cb h OM.symm hur hD;have hpl:ps.length=i.size:=by rw [q0,hyl]
 obtain ⟨f1,f2⟩:=Rel.freezes gs h q1;have LW:(ny g).ad=some ad:=by rw [(e1 g).1];exact had
 have hDA:kX E st1 ny w a1 i1 sz ak l hole (ny g):=by have:=h1.aZ g;rw [o1] at this;exact this
 rcases hDA with ⟨k1,_⟩ | ⟨ad0,cs0,ty,k1,k2,k3,k4,k5,k6,_,k8⟩
 .rw [LW] at k1;cases k1
 rw [LW] at k1;cases k1;have hle:(k+1)*sz<=(ny g).cap*sz:=Z1 _ (by have:=k5.1;omega);rw [W2,K5] at hle;obtain ⟨w',c',r1,r2,r3,r4,r5,r6,r7,r8⟩:=sV (Pg:=Pg) (htt _ _ ht) ad.block (ad.off+k*sz+off) hus acz huo k3 (by omega);have hes1 :∀p∈es,st1.o p.2=st.o p.2:=by
  intro p hp;have hpm:p.2∈es.map (·.2):=QR.2 ⟨p,hp,rfl⟩;obtain ⟨a2,i2,s2,l2,z1,_⟩:=qe p hp;by_cases e:p.2=g
  .exfalso;have hog:(st.aJ (gs.map (Fw.aU st.o)) []).o g=st.o g:=by rw [gJ,if_neg hgg]
   have hlk:=l1.names g (by simp only [St.aJ,List.contains_nil,J0];exact h.ul g (by rw [<-e,z1];simp));rw [o1,hog,<-e,z1] at hlk;rcases hlk with hlk | ⟨_,hlk⟩
   .cases hlk
   .exact hlk
  .rw [oo1 _ e λhk=>(ok1 _ hk).2.2 hpm,gJ,if_neg (hap _ hpm)]
 have hm:=h1.akc o1 LW hk (off:=off) (ps:=ps) (us:=us) (by omega) (by omega) a' i' es gX hnd (λp hp=>by
   obtain ⟨a2,i2,s2,l2,z1,z2⟩:=qe p hp;exact ⟨a2,i2,s2,l2,by rw [hes1 p hp];exact z1,z2⟩) (λj y u hy hu=>by
   have:=q2 j y u hy hu;cases hc:ak.lookup (off+j) with
   |none=>rw [hc] at this;exact l1.kR (this _ (λg hg=>by rw [gJ,if_pos hg]) f1 f2)
   |some s=>
    rw [hc] at this;obtain ⟨l',z1,z2⟩:=this;refine ⟨l',z1,z2.imp id ?_⟩;rintro ⟨e,a2,i2,y1,y2,y3,y4,y5⟩;exact ⟨e,a2,i2,y1,by rw [hes1 _ y1];exact y2,y3,y4,by rw [(e1 e).1,(e1 e).2];exact y5⟩)
  (by rw [hpl];exact hh1) (by rw [hpl];exact hh2) hh3 w' r4 r5 r6 r7 r8 (λc e hce=>by
   rw [k3] at hce;cases hce;exact ⟨c',r2,r3⟩)
 obtain ⟨bH,m1,m2⟩:=hm;have hst:st1.aJ ((g,.aN (a1||a') (i1||i') sz ak (l.set k (aS (l.getD k []) off ps)) gX)::es.map λp=>(p.2,O.none)) [] =
   st.aJ ((g,.aN (a1||a') (i1||i') sz ak (l.set k (aS (l.getD k []) off ps)) gX)::kills (es.map (·.2))++kills ks++gs.map (Fw.aU st.o)) []:=by
  refine St.Ef s1 (λz=>?_) (λz=>by simp [St.aJ,u1]);have ek:(es.map λp=>(p.2,O.none))=kills (es.map (·.2)):=by simp [kills]
  rw [ek];simp only [St.aJ,K9,lookup_cons,vV,iH];by_cases z1:z=g
  .simp only [if_pos z1]
  .simp only [if_neg z1];by_cases z2:z∈es.map (·.2)
   .simp only [if_pos z2,Option.some_or]
   .simp only [if_neg z2,Option.none_or];by_cases z3:z∈ks
    .simp only [if_pos z3,Option.some_or];exact (ok1 z z3).1
    .simp only [if_neg z3,Option.none_or];rw [oo1 z z1 z3];rfl
 rw [hst] at m1 m2;refine ⟨undef,w',bH,.inr ⟨?_,rfl⟩,m1,?_,.no _,λg hg=>by simp [S.names] at hg⟩
 .unfold execOp;rw [ho];refine acu ?_;rw [hv];simpa [Instr.storeAt,Instr.sureAddr] using r1
 .exact Lets.trans (Lets.trans f2 l1 (λg hg=>by simpa [St.aJ] using hg)) m2 (λg hg=>by rw [u1];exact hg)
theorem amM{o:Nat->O}{g:Nat}{a i:Bool}{sz:Nat}{ak:List (Nat×Nat)}{l:List (List P)}{hole:Option (Nat×Nat×Nat)}(h:o g=.aN a i sz ak l hole):(o g).hn=dA hole:=by rw [h];rfl
theorem OY{g:Nat}{gs:List Nat}(hg:g∉gs)(hn :∀d∈(st.o g).hn,d∉gs):jh (st.aJ (gs.map (Fw.aU st.o)) []).o g=jh st.o g:=by
 have e1:(st.aJ (gs.map (Fw.aU st.o)) []).o g=st.o g:=by rw [gJ,if_neg hg]
 unfold jh;rw [e1];cases ho:st.o g with
 |aN a i sz ak l hole=>
  rcases hole with _ | ⟨n,c,d⟩
  .rfl
  .simp only;rw [gJ,if_neg (hn d (by rw [ho];simp [O.hn,dA]))]
 |_=>rfl
theorem OZ{dc:List (Nat×Nat)}(htt:iR Pg tt)(t:TypeId)(x y:Operand):qL Pg tt dc (.store t x y):=by
 intro E st gh val w ρ F o d r ho h hF hFn hk hp hd;simp only [dN] at hk;split at hk
 .rename_i i g n off y' ht hx hy;have rx:=hF x;rw [hx] at rx;have ry:=hF y;rw [hy] at ry;split at hk
  .rename_i a0 i0 sz ak l0 hole hog;split at hk
   .rename_i ps a' i' gs es hD;split at hk
    .rename_i hc;obtain ⟨hc1,hc2,hc3,hc4,hc5,hc6⟩:=hc;have hgg:g∉gs:=λhm=>by simp [hm] at hc4
     have hnd:=rQ hc5;have hap:=FQ hc6;have LV:(st.o g).dim=some (sz,l0.length):=by rw [hog];rfl
     obtain ⟨ad,k,had,rfl,hkl,hv⟩:=(by cases rx.dK with | ep _ _ _ _ _ hb=>exact hb _ _ LV :∃(ad:Addr) (k:Nat),(gh g).ad=some ad/\n=.int .i64 k/\k<l0.length/\ρ x=.pointer (some ⟨ad.block,ad.off+k*sz+off,none⟩));have en:(P.int .i64 (k:Int)).nat=k:=by simp [P.nat,P.num]
     have ogf:(st.aJ (gs.map (Fw.aU st.o)) []).o g=.aN a0 i0 sz ak l0 hole:=by rw [gJ,if_neg hgg];exact hog
     obtain ⟨us,hus,OM,huo,hur⟩:=ry.OL.cells hc3;obtain ⟨_,q1,_,_⟩:=Cb h OM.symm hur hD;obtain ⟨f1,f2⟩:=Rel.freezes gs h q1;have refl:Lets E (st.aJ (gs.map (Fw.aU st.o)) []) (st.aJ (gs.map (Fw.aU st.o)) []) gh gh w w:=⟨λa i b hb=>⟨hb,rfl⟩,λg _=>.inr ⟨⟨rfl,rfl⟩,O.fF _⟩⟩;have home :∀(a i1:Bool) (l:List (List P)),jh st.o g=some (a,i1,sz,ak,l)->(∀d∈(st.o g).hn,d∉es.map (·.2)/\d∉gs)->
       ∃v w' bH,Does Pg (execOp ρ o) w v w'/\Rel E (st.aJ ((g,.aN (a||a') (i1||i') sz ak (l.set k (aS (l.getD k []) off ps)) none)::kills (es.map (·.2))++kills (st.o g).hn++gs.map (Fw.aU st.o)) []) bH val w'/\Lets E st (st.aJ ((g,.aN (a||a') (i1||i') sz ak (l.set k (aS (l.getD k []) off ps)) none)::kills (es.map (·.2))++kills (st.o g).hn++gs.map (Fw.aU st.o)) []) gh bH w w'/\dJ E (st.aJ ((g,.aN (a||a') (i1||i') sz ak (l.set k (aS (l.getD k []) off ps)) none)::kills (es.map (·.2))++kills (st.o g).hn++gs.map (Fw.aU st.o)) []) bH w' .no v/\∀g'∈S.names .no,(st.aJ ((g,.aN (a||a') (i1||i') sz ak (l.set k (aS (l.getD k []) off ps)) none)::kills (es.map (·.2))++kills (st.o g).hn++gs.map (Fw.aU st.o)) []).used g'=true:=λa i1 l hh hno=>by
      have hh':jh (st.aJ (gs.map (Fw.aU st.o)) []).o g=some (a,i1,sz,ak,l):=by rw [OY hgg λd hd=>(hno d hd).2];exact hh
      have hhn:((st.aJ (gs.map (Fw.aU st.o)) []).o g).hn=(st.o g).hn:=by rw [ogf,hog]
      obtain ⟨st1,ny,h1,l1,e1,es1,eu,eo,ek,en1⟩:=f1.home hh';rw [hhn] at ek en1;have hll:=(Ja hog hh).2.2;exact vW htt h ho ht ry.OL hc3 hc2 hv hc1 (by omega) hD hnd hap (st.o g).hn h1 l1 e1 (by rw [es1];rfl) (λz=>by rw [eu];simp [St.aJ]) eo had
       (λd hd=>⟨(ek d hd).1,(ek d hd).2,(hno d hd).1⟩) en1 hgg (gX:=none) (λ_ _ _ _ _=>rfl) (λ_ _ _ _ _=>rfl) (λd hd=>by cases hd)
     have over :∀n0 c0 d0,hole=some (n0,c0,d0)->off<=c0/\c0<off+i.size->n0=k->_:=λn0 c0 d0 hho hcr hp=>
      vW htt h ho ht ry.OL hc3 hc2 hv hc1 hkl hD hnd hap [] f1 refl (λ_=>⟨rfl,rfl⟩) rfl (λz=>by simp [St.aJ]) ogf had (λd hd=>by cases hd) (λ_ _ _=>rfl) hgg
       (gX:=none) (λm j hne s hs=>by
        subst hho hp;simp only [iw];rw [if_neg λe=>hne ⟨e.1.symm,by omega,by omega⟩]) (λ_ _ _ _ _=>rfl) (λd hd=>by cases hd)
     split at hk
     .rename_i hci;simp only [Q0] at hk;subst hk;have:=vW htt h ho ht ry.OL hc3 hc2 hv hc1 hkl hD hnd hap [] f1 refl (λ_=>⟨rfl,rfl⟩) rfl (λz=>by simp [St.aJ]) ogf had (λd hd=>by cases hd) (λ_ _ _=>rfl) hgg
       (gX:=hole) (λ_ _ _ _ _=>rfl) (λj s h1 h2 h3=>by rw [I9 hci h1 h2] at h3;cases h3) (λd hd=>hd)
      rw [en];exact this
     .split at hk
      .simp only [Q0] at hk;subst hk;have:=vW htt h ho ht ry.OL hc3 hc2 hv hc1 hkl hD hnd hap [] f1 refl (λ_=>⟨rfl,rfl⟩) rfl (λz=>by simp [St.aJ]) ogf had (λd hd=>by cases hd) (λ_ _ _=>rfl) hgg
        (gX:=none) (λ_ _ _ _ _=>rfl) (λ_ _ _ _ _=>rfl) (λd hd=>hd)
       rw [en];exact this
      .rename_i n0 c0 d0;split at hk
       .rename_i a i1 _ _ l hh;split at hk
        .rename_i hcc;simp only [Q0] at hk;subst hk;obtain ⟨e1,e2,e3⟩:=Ja hog hh;subst e1 e2;have hhn:(st.o g).hn=[d0]:=by rw [amM hog];rfl
         have:=home a i1 l hh (λd hd=>by
          rw [hhn,QP] at hd;subst hd;exact ⟨λhm=>by have:=hcc.1;simp only [Wm,decide_eq_false_iff_not] at this;exact this hm,λhm=>by have:=hcc.2;simp [hm] at this⟩)
         rw [hhn] at this;rw [en];exact this
        .split at hk
         .rename_i hcr;simp only [Q0] at hk;subst hk;have hp:n0=(P.int .i64 (k:Int)).nat:=hp;rw [en] at hp;rw [en];exact over n0 c0 d0 rfl hcr hp
         .cases hk
       .split at hk
        .rename_i hcr;simp only [Q0] at hk;subst hk;have hp:n0=(P.int .i64 (k:Int)).nat:=hp;rw [en] at hp;rw [en];exact over n0 c0 d0 rfl hcr hp
        .cases hk
    .cases hk
   .cases hk
  .cases hk
 .cases hk
theorem Rel.acG(h:Rel E st gh val w){d:Nat}(hd:st.used d=false)(a i:Bool)(sz:Nat)(ak:List (Nat×Nat))(l:List (List P))(c:Array Value)(t:TypeId)(cap:Nat)(hcap:l.length<=cap/\cap<=9223372036854775807)(hc:cap*sz<=c.size)(hrow :∀x∈l,x.length=sz)
  (es:List (Nat×Nat)) (hnd:(es.map (·.2)).Nodup) (hes :∀p∈es,∃a1 i1 s l',st.o p.2=.arr false a1 i1 s l'/\(i1=true->i=true))
  (hcell :∀(n:Nat) x,l[n]?=some x->∀(j:Nat) y,x[j]?=some y->∃v,c[n*sz+j]?=some v/\match ak.lookup j with
   |none=>cO w (E.ok st gh w a i) y v
   |some s=>PartOf st gh a i es s (n*sz+j) y v) :
  ∃bH,Rel E (st.aJ ((d,.aN a i sz ak l none)::kills (es.map (·.2))) [d]) bH val { w with heap:=w.heap.push (.cells c t) }/\Lets E st (st.aJ ((d,.aN a i sz ak l none)::kills (es.map (·.2))) [d]) gh bH w { w with heap:=w.heap.push (.cells c t) }/\
   (bH d).ad=some ⟨w.heap.size,0,none⟩ /\(bH d).cap=cap:=by
 have heo :∀p∈es,(st.o p.2).bP=true:=λp hp=>by obtain ⟨_,_,_,_,e,_⟩:=hes p hp;rw [e];rfl
 have hde:d∉es.map (·.2):=λhm=>by
  obtain ⟨p,hp,e⟩:=QR.1 hm;have:=h.ul p.2 (O.pq (heo p hp));rw [e,hd] at this;cases this
 let G:Gh:=⟨some ⟨w.heap.size,0,none⟩,cap,λb=>(whose gh es b).map λp=>(p.1/sz,p.1 % sz)⟩
 have hwb :∀b,(G.sub b).isSome=true->∃p∈es,∃ad,(gh p.2).ad=some ad/\ad.block=b:=λb hb=>by
  cases hx:whose gh es b with
  |none=>simp [G,hx] at hb
  |some p=>exact ⟨p,vU hx⟩
 have hm:=h.gather (λg=>g∈es.map (·.2)) hd a i sz ak l G (st.aJ ((d,.aN a i sz ak l none)::kills (es.map (·.2))) [d]) { w with heap:=w.heap.push (.cells c t) } rfl (by simp [St.aJ,lookup_cons])
  (λg hg e=>by simp only [St.aJ,lookup_cons,if_neg e,iH,if_pos hg]) (λg hg e=>by simp only [St.aJ,lookup_cons,if_neg e,iH,if_neg hg]) (λg hg=>by simp [St.aJ,hg]) (by simp [St.aJ])
  (ad:=⟨w.heap.size,0,none⟩) (c:=c) (ty:=t) rfl rfl (by simp) (by simpa [G] using hc) hcap hrow (by
   cases hx:G.sub w.heap.size with
   |none=>rfl
   |some p=>
    obtain ⟨p,hp,ad,q1,q2⟩:=hwb w.heap.size (by rw [hx];rfl);have:=(h.wr p.2 w.heap.size (heo p hp) (.inl ⟨ad,q1,q2⟩)).2;omega) (λb hb=>by
   obtain ⟨p,hp,ad,q1,q2⟩:=hwb b hb;refine ⟨⟨p.2,QR.2 ⟨p,hp,rfl⟩,heo p hp,.inl ⟨ad,q1,q2⟩⟩,?_⟩;obtain ⟨_,_,_,_,e,_⟩:=hes p hp;have hA:=h.aZ p.2;rw [e] at hA;rcases hA with ⟨q3,_⟩ | ⟨BO,c2,e2,q3,_,q4,_⟩
   .rw [q1] at q3;cases q3
   .rw [q1] at q3;cases q3;rw [<-q2];exact ⟨_,_,_,q4⟩)
  (.inr ⟨XS _,by simp⟩) (λb hb _=>vK w _ b hb) (by simp) rfl rfl rfl (λg i1 hg e1 hi=>by
   obtain ⟨p,hp,rfl⟩:=QR.1 hg;obtain ⟨_,i2,_,_,e,hi2⟩:=hes p hp;rw [e] at e1;cases e1;exact hi2 hi) (λg hg _=>by
   obtain ⟨p,hp,rfl⟩:=QR.1 hg;obtain ⟨_,i2,_,_,e,hi2⟩:=hes p hp;exact ⟨i2,by rw [e];rfl⟩) (λn x hx j y hy=>by
   obtain ⟨v,hv,hr⟩:=hcell n x hx j y hy;refine ⟨v,by simpa using hv,?_⟩;cases hcj:ak.lookup j with
   |none=>rw [hcj] at hr;exact hr
   |some s=>
    rw [hcj] at hr;have hjs:j<sz:=by have:=(Q3.1 hy).1;have:=hrow x (XX hx);omega
    refine PartOf.amK h hr λp hp e ad had=>?_;have:=MW h hnd heo hp had;simp only [G,this,Z6,e];have e1:(n*sz+j)/sz=n:=by rw [KB,Nat.mul_add_div (by omega),Nat.div_eq_of_lt hjs,UB]
    have e2:(n*sz+j) % sz=j:=by rw [KB,qD,Ke hjs]
    rw [e1,e2])
 exact ⟨_,hm.1,hm.2,by simp [fC,G],by simp [fC,G]⟩
theorem Eh{dc:List (Nat×Nat)}(htt:iR Pg tt)(t:TypeId)(n c:Operand):qL Pg tt dc (.makeSlice t n c):=by
 intro E st gh val w ρ F o d r ho h hF hFn hk hp hd;simp only [dN] at hk;split at hk
 .rename_i e _ _ _ _ _ n' _ _ c' zS Ei ht hn hc;split at hk
  .rename_i ie he;split at hk
   .rename_i ps hps;split at hk
    .rename_i hpos;simp only [Q0] at hk;subst hk;obtain ⟨m,k,rfl,rfl,hmk,hby,hkm⟩:=hp;have hu:=(htt _ _ ht).kind;simp only [oz] at hu;have rn:=hF n;rw [hn] at rn;have rc:=hF c;rw [hc] at rc;obtain ⟨x,z,g1,g2,g3,g4,g5,g6⟩:=(htt _ _ he).info;obtain ⟨hone,hl,hr⟩:=qI (E:=E) (st:=st) (gh:=gh) (w:=w) (htt _ _ he);have hzl:=(htt _ _ he).len;obtain ⟨q0,q1,_,q2⟩:=Cb h hl hr hps;have Hz:st.used d=false:=hd d (by simp);have hpl:ps.length=ie.size:=by rw [q0,hl,hzl]
     have e1:(P.int .i64 (m:Int)).nat=m:=by simp [P.nat,P.num]
     obtain ⟨bH,m1,m2,m3,m4⟩:=h.acG Hz false false ie.size (zS::Ei) (List.replicate m ps) (fV ie.zero k).toArray e k ⟨by simpa using hmk,by omega⟩ (by simp [dP,hzl]) (λx hx=>by
       rw [List.mem_replicate] at hx;rw [hx.2,hpl]) [] List.nodup_nil (λp hp=>by cases hp) (λq x hx j y hy=>by
       rw [vi] at hx;split at hx
       .rename_i hq;simp only [Q0] at hx;subst hx;have hj:j<ie.size:=by have:=(Q3.1 hy).1;omega
        have hlt:q*ie.size+j<k*ie.zero.length:=by
         rw [hzl];have:(q+1)*ie.size<=k*ie.size:=Z1 _ (by omega);rw [W2] at this;omega
        have hz':ie.zero[j]?=some ie.zero[j]:=Q2 (by omega);refine ⟨ie.zero[j],?_,?_⟩
        .simp only [K2];have hmod:(q*ie.size+j) % ie.zero.length=j:=by rw [hzl,KB,qD,Ke hj]
         rw [iK _ _ _ hlt,hmod];exact hz'
        .have:=q2 j y _ hy hz';rw [Wo] at this;cases hcj:(zS::Ei).lookup j with
         |none=>rw [hcj] at this;exact this st (by simp) h ⟨λa i b hb=>⟨hb,rfl⟩,λg _=>.inr ⟨⟨rfl,rfl⟩,O.fF _⟩⟩
         |some s=>
          rw [hcj] at this;obtain ⟨l',z1,z2⟩:=this;rcases z2 with z2 | ⟨_,_,_,z3,_⟩
          .exact ⟨l',z1,.inl z2⟩
          .cases z3
       .cases hx)
     refine ⟨.slice (some ⟨w.heap.size,0,none⟩) m k,_,bH,.inl ?_,by simpa [e1,P.list,kills] using m1,by simpa [e1,P.list,kills] using m2,dJ.Hw (.own d _ rfl λsz' len' ho'=>?_),λg hg=>?_⟩
     .unfold execOp;rw [ho];refine gW ?_;have hrun:=run_make (P:=Pg) w t e x z hu g1 g4 .i64 .i64 (m:Int) (k:Int) (by omega) (by omega) (by rw [g3];omega) (by omega);rw [rn.fH.eX,rc.fH.eX,hrun];have:=nO g5 k (by rw [hzl];exact hpos);rw [hzl] at this;simp only [Qt,g2,madeCells,this]
     .rw [e1] at ho';have VF:(some (ie.size,m):Option (Nat×Nat))=some (sz',len'):=by
       rw [<-ho'];simp [St.aJ,List.lookup,O.dim,P.list]
      cases VF;rw [m3,m4]
     .have hg:g∈(S.v (.one (.own d))).names:=hg;rw [dQ] at hg;simp only [W.names,QP] at hg;subst hg;simp [St.aJ]
    .cases hk
   .cases hk
  .cases hk
 .cases hk
theorem Cc{dc:List (Nat×Nat)}(htt:iR Pg tt)(t:TypeId)(n:Nat)(parts:Array (Nat×Operand)):qL Pg tt dc (.buildSlice t n parts):=by
 intro E st gh val w ρ F o d r ho h hF hFn hk hp hd;simp only [dN] at hk;split at hk
 .rename_i e _ _ _ zS Ei ht;split at hk
  .rename_i ie he;split at hk
   .rename_i ws MV;split at hk
    .rename_i ps a i gs es hps;split at hk
     .rename_i hcc;obtain ⟨hcap0,hnd,hap⟩:=hcc;have hnd:=rQ hnd;have hap:=FQ hap;have hcap:n*ie.size<=16777216:=by omega
      simp only [Q0] at hk;subst hk;have hu:=(htt _ _ ht).kind;simp only [oz] at hu;obtain ⟨z,hz,hzc,_⟩:=lg (Pg:=Pg) (w:=w) (htt _ _ he);obtain ⟨hone,hl,hr⟩:=qI (E:=E) (st:=st) (gh:=gh) (w:=w) (htt _ _ he);have hzl:=(htt _ _ he).len;have hparts:(parts.map λ(p:Nat×Operand)=>(p.1,ρ p.2)).toList=parts.toList.map λp=>(p.1,ρ p.2):=by simp
      obtain ⟨cs',h1,h2,h3,h4,h5⟩:=BR (E:=E) (st:=st) (gh:=gh) (w:=w) (place':=λi=>some (i*ie.size,ie.size)) (λm p hpm=>by split at hpm;exact hpm;cases hpm) _ (parts.toList.map λp=>(p.1,ρ p.2)) _ _
       (fV ie.zero n) (by simp) (λj x v hx hv=>Eb hF _ j x v hx hv) (by rw [dP,dP,hl]) (λc hc=>by
        obtain ⟨j,hj⟩:=VM.1 hc;have hlt:j<n*ie.zero.length:=by have:=(Q3.1 hj).1;rwa [dP] at this
        rw [iK _ _ _ hlt] at hj;exact hone c (XX hj)) (λj x u hx hu=>by
        have hlt:j<n*ie.zero.length:=by have:=(Q3.1 hu).1;rwa [dP] at this
        rw [iK _ _ _ hlt] at hu;rw [iK _ _ _ (by rw [hl];exact hlt),hl] at hx;exact hr _ _ _ hx hu) MV
      obtain ⟨q0,q1,qe,q2⟩:=Cb h h2 h4 hps;obtain ⟨f1,f2⟩:=Rel.freezes gs h q1;have Hz:st.used d=false:=hd d (by simp);have hws:ws.length=n*ie.size:=by rw [h5,dP,hl,hzl]
      have aj8:ps.length=n*ie.size:=by rw [q0,hws]
      have hfe :∀p∈es,(st.aJ (gs.map (Fw.aU st.o)) []).o p.2=st.o p.2:=λp hp=>by rw [gJ,if_neg (hap _ (QR.2 ⟨p,hp,rfl⟩))]
      obtain ⟨bH,m1,m2,m3,m4⟩:=f1.acG (d:=d) (by simpa [St.aJ] using Hz) a i ie.size (zS::Ei) (chunks ie.size n ps) cs'.toArray e n ⟨by rw [iG];exact XS _,by omega⟩ (by simp;omega) (λx hx=>by
        obtain ⟨m,hm⟩:=VM.1 hx;have hlt:m<n:=by have:=(Q3.1 hm).1;rwa [iG] at this
        rw [qJ _ _ _ _ hlt] at hm;simp only [Q0] at hm;subst hm;simp [aj8];have:(m+1)*ie.size<=n*ie.size:=Z1 _ hlt;rw [W2] at this;omega) es hnd (λp hp=>by
        obtain ⟨a2,i2,s2,l2,z1,z2⟩:=qe p hp;exact ⟨a2,i2,s2,l2,by rw [hfe p hp];exact z1,z2⟩) (λm x hx j y hy=>by
        have hlt:m<n:=by have:=(Q3.1 hx).1;rwa [iG] at this
        rw [qJ _ _ _ _ hlt] at hx;simp only [Q0] at hx;subst hx;rw [Z3] at hy;split at hy
        .rename_i hj;rw [W5] at hy;have hlt2:m*ie.size+j<cs'.length:=by
          have:=(Q3.1 hy).1;omega
         refine ⟨cs'[m*ie.size+j],by simp,?_⟩;have:=q2 _ y _ hy (Q2 hlt2);have em:(0+(m*ie.size+j)) % ie.size=j:=by rw [Wo,KB,qD,Ke hj]
         rw [em,Wo] at this;cases hcj:(zS::Ei).lookup j with
         |none=>rw [hcj] at this;exact this _ (λg hg=>by rw [gJ,if_pos hg]) f1 f2
         |some s=>
          rw [hcj] at this;obtain ⟨l',z1,z2⟩:=this;refine ⟨l',z1,z2.imp id ?_⟩;rintro ⟨e,a2,i2,y1,y2,y3,y4,y5⟩;exact ⟨e,a2,i2,y1,by rw [hfe _ y1];exact y2,y3,y4,y5⟩
        .cases hy)
      have hst:(st.aJ (gs.map (Fw.aU st.o)) []).aJ ((d,.aN a i ie.size (zS::Ei) (chunks ie.size n ps) none)::kills (es.map (·.2))) [d]=st.aJ ((d,.aN a i ie.size (zS::Ei) (chunks ie.size n ps) none)::kills (es.map (·.2))++gs.map (Fw.aU st.o)) [d]:=by
       refine St.Ef rfl (λz=>?_) (λz=>by simp [St.aJ]);simp only [St.aJ,K9,lookup_cons,vV,iH];by_cases z1:z=d
       .simp only [if_pos z1]
       .simp only [if_neg z1];by_cases z2:z∈es.map (·.2)
        .simp only [if_pos z2,Option.some_or]
        .simp only [if_neg z2,Option.none_or]
      rw [hst] at m1 m2;refine ⟨.slice (some ⟨w.heap.size,0,none⟩) n n,_,bH,.inl ?_,m1,Lets.trans f2 m2 (λg hg=>by simpa [St.aJ] using hg),dJ.Hw (.own d _ rfl λsz' len' ho'=>?_),λg hg=>?_⟩
      .unfold execOp;rw [ho];refine gW ?_;have hle:¬ n*ie.size>2 ^ 24:=by omega
       have fin :∀Z:Array Value,(Array.range (n*ie.size)).map (λi=>Z[i % Z.size]!)=(fV ie.zero n).toArray->
         Instr.fill (λi=>some (i*ie.size,ie.size)) ((Array.range (n*ie.size)).map λi=>Z[i % Z.size]!) (parts.map λ(p:Nat×Operand)=>(p.1,ρ p.2)).toList=some cs'.toArray:=by
        intro Z hZ;rw [hZ,hparts,h1]
       by_cases h0:n*ie.size=0
       .have e0:fV ie.zero n=[]:=WP (by rw [dP,hzl,h0]);have e1:=fin #[] (by rw [h0,e0];simp);simp only [Instr.buildSlice,Sem.run_bind,dY hu,Result.andThen_ok,dV (htt _ _ he),if_neg hle,if_pos h0,Sem.run_pure];simp only [e1];simp [newRow]
       .have hpos:0<ie.zero.length:=by rw [hzl];rcases qf ie.size with h | h;(rw [h] at h0;simp at h0);exact h
        have e1:=fin z.cells (by have:=nO hzc n hpos;rw [hzl] at this;exact this);simp only [Instr.buildSlice,Sem.run_bind,dY hu,Result.andThen_ok,dV (htt _ _ he),if_neg hle,if_neg h0,hz,Sem.run_pure];simp only [e1];simp [newRow]
      .have VF:(some (ie.size,n):Option (Nat×Nat))=some (sz',len'):=by
        rw [<-ho'];simp [St.aJ,List.lookup,O.dim,P.list,iG]
       cases VF;rw [m3,m4]
      .have hg:g∈(S.v (.one (.own d))).names:=hg;rw [dQ] at hg;simp only [W.names,QP] at hg;subst hg;simp [St.aJ]
     .cases hk
    .cases hk
   .cases hk
  .cases hk
 .cases hk
def zk(gh:Nat->Gh):Option Nat->Nat->Option (Nat×Nat)
 |some g,b=>(gh g).sub b
 |none,_=>none
theorem RH(h:Rel E st gh val w){d g2:Nat}(hd:st.used d=false){a i a2 i2:Bool}{sz:Nat}{ak:List (Nat×Nat)}{old new:List (List P)}{base:Option Nat}{bad:Option Addr}{vX m:Nat}
  (hb:(base=none/\bad=none/\vX=0/\m=0/\old=[])\/∃g l,base=some g/\st.o g=.aN a i sz ak l none/\bad=(gh g).ad/\(m<=vX/\vX<=(gh g).cap)/\m<=l.length/\old=l.take m/\g≠g2)
  (ho2:st.o g2=.aN a2 i2 sz ak new none)
  {ts:Array TypeId} {ty sT xT e e':TypeId} {ie:TI} (h0:ts[0]?=some sT) (h1:ts[1]?=some xT) (hs:Pg.underlying sT=some (.slice e)) (hxt:Pg.underlying xT=some (.slice e')) (he:pX Pg e ie) (hsz:sz=ie.size)
  (hbb:(m+new.length)*ie.bytes<=140737488355328) (hb0:ie.bytes≠0) :
  ∃v w' bH,(Builtin.append_ ts ty #[.slice bad m vX,.slice (gh g2).ad new.length (gh g2).cap]).run Pg w=.ok v w'/\Rel E (st.aJ ((d,.aN (a||a2) (i||i2) sz ak (old++new) none)::kills (base.toList++[g2])) [d]) bH val w'/\
   Lets E st (st.aJ ((d,.aN (a||a2) (i||i2) sz ak (old++new) none)::kills (base.toList++[g2])) [d]) gh bH w w'/\v=.slice (bH d).ad (old++new).length (bH d).cap:=by
 subst hsz;have ca:a=true->(a||a2)=true:=by simp;exact λh=>.inl h
 have ci:i=true->(i||i2)=true:=by simp;exact λh=>.inl h
 have ca2:a2=true->(a||a2)=true:=by simp;exact λh=>.inr h
 have ci2:i2=true->(i||i2)=true:=by simp;exact λh=>.inr h
 have hnd :∀g,st.o g≠.none->g≠d:=λg hg e=>by rw [<-e,h.ul g hg] at hd;cases hd
 have aqD:g2≠d:=hnd g2 (by rw [ho2];simp);have agt:(st.o g2).bP=true:=by rw [ho2];rfl
 have hol:old.length=m:=by
  rcases hb with ⟨_,_,_,rfl,rfl⟩ | ⟨g,l,_,_,_,_,hm,rfl,_⟩
  .rfl
  .simp;omega
 have hlen:(old++new).length=m+new.length:=by rw [XN,hol]
 have hbS :∀g,g∈base.toList++[g2]->g≠d/\(st.o g).bP=true/\∃a0 i0 l0,st.o g=.aN a0 i0 ie.size ak l0 none/\(i0=true->(i||i2)=true):=by
  intro g hg;rcases Xs.1 hg with hg | hg
  .rcases hb with ⟨rfl,_⟩ | ⟨g',l,rfl,hog,_⟩
   .simp at hg
   .simp at hg;subst hg;exact ⟨hnd g (by rw [hog];simp),by rw [hog];rfl,a,i,l,hog,ci⟩
  .rw [QP] at hg;subst hg;exact ⟨aqD,agt,a2,i2,new,ho2,ci2⟩
 let sub:Nat->Option (Nat×Nat):=λb=>match (gh g2).sub b with
  |some (n,j)=>some (n+m,j)
  |none=>zk gh base b
 have amN :∀b,(zk gh base b).isSome=true->(gh g2).has b->False:=λb h1 h2=>by
  rcases hb with ⟨rfl,_⟩ | ⟨g,l,rfl,hog,_,_,_,_,hne⟩
  .cases h1
  .exact hne (h.inj g g2 b (by rw [hog];rfl) agt (.inr h1) h2)
 have hsub :∀b,(sub b).isSome=true->(∃g,g∈base.toList++[g2]/\(st.o g).bP=true/\((gh g).sub b).isSome=true):=λb hbs=>by
  cases hx:(gh g2).sub b with
  |some p=>exact ⟨g2,by simp,agt,by rw [hx];rfl⟩
  |none=>
   simp only [sub,hx] at hbs;rcases hb with ⟨rfl,_⟩ | ⟨g,l,rfl,hog,_⟩
   .cases hbs
   .exact ⟨g,by simp,by rw [hog];rfl,hbs⟩
 have acH :∀g,g∈base.toList++[g2]->∀b,((gh g).sub b).isSome=true->∃c e f,w.heap[b]?=some (.cells c e f):=λg hg b hbs=>by
  obtain ⟨_,_,a0,i0,l0,hog,_⟩:=hbS g hg;have hD:=h.aZ g;rw [hog] at hD;rcases hD with ⟨_,_,_,q⟩ | ⟨_,_,_,_,_,_,_,_,_,⟨_,q⟩,_⟩
  .rw [q b] at hbs;cases hbs
  .exact q b hbs
 have amO :∀(G:Gh),G.sub=sub->∀n j y u,iV E st gh w a2 i2 (gh g2) ak none n j y u->match ak.lookup j with
   |none=>cO w (E.ok st gh w (a||a2) (i||i2)) y u
   |some s=>zK E st gh w (a||a2) (i||i2) G s (n+m) j y u:=by
  intro G hG n j y u hr;unfold iV at hr;cases hc:ak.lookup j with
  |none=>rw [hc] at hr;exact hr.cls ca2 ci2
  |some s=>
   rw [hc] at hr;simp only [iw] at hr;obtain ⟨l',ao,k,q1,q2,q3,q4⟩:=hr.cls ca2 ci2;exact ⟨l',ao,k,q1,q2,q3,λad had=>by rw [hG];simp only [sub,q4 ad had]⟩
 have amP :∀(G:Gh),G.sub=sub->∀g,base=some g->∀n j y u,iV E st gh w a i (gh g) ak none n j y u->match ak.lookup j with
   |none=>cO w (E.ok st gh w (a||a2) (i||i2)) y u
   |some s=>zK E st gh w (a||a2) (i||i2) G s n j y u:=by
  intro G hG g hgb n j y u hr;unfold iV at hr;cases hc:ak.lookup j with
  |none=>rw [hc] at hr;exact hr.cls ca ci
  |some s=>
   rw [hc] at hr;simp only [iw] at hr;obtain ⟨l',ao,k,q1,q2,q3,q4⟩:=hr.cls ca ci;refine ⟨l',ao,k,q1,q2,q3,λad had=>?_⟩;have hq:=q4 ad had;have hb1:(zk gh base ad.block).isSome=true:=by rw [hgb];simp only [zk,hq];rfl
   rw [hG];cases hx:(gh g2).sub ad.block with
   |some p=>exact (amN ad.block hb1 (.inr (by rw [hx];rfl))).elim
   |none=>simp only [sub,hx,hgb,zk];exact hq
 have hD2:kX E st gh w a2 i2 ie.size ak new none (gh g2):=by have:=h.aZ g2;rw [ho2] at this;exact this
 have amQ :∀X:O,∀g,g∈base.toList++[g2]->g≠d->(st.aJ ((d,X)::kills (base.toList++[g2])) [d]).o g=.none:=λX g hg e=>by simp only [St.aJ,lookup_cons,if_neg e,iH,if_pos hg]
 have amR :∀X:O,∀g,¬ g∈base.toList++[g2]->g≠d->(st.aJ ((d,X)::kills (base.toList++[g2])) [d]).o g=st.o g:=λX g hg e=>by simp only [St.aJ,lookup_cons,if_neg e,iH,if_neg hg]
 by_cases rO:m+new.length<=vX
 .obtain ⟨c2,hc2,hl2,amS,hr2,hcell2⟩:=Ap (Pg:=Pg) hD2 new.length (XS _);rcases hb with ⟨rfl,rfl,rfl,rfl,rfl⟩ | ⟨g,l,rfl,hog,rfl,hbc,hm,rfl,amT⟩
  .have hn0:new=[]:=WP (by omega);subst hn0;have hk:=h.kill g2;have hmk:=Rel.OE hk.1 d (by simpa [St.aJ] using hd) (.aN (a||a2) (i||i2) ie.size ak [] none) (.inl ⟨rfl,rfl,rfl,λ_=>rfl⟩) (λg hg=>by simp [O.names,dA] at hg);have hst:(st.aJ [(g2,.none)] []).aJ [(d,.aN (a||a2) (i||i2) ie.size ak [] none)] [d]=st.aJ ((d,.aN (a||a2) (i||i2) ie.size ak ([]++[]) none)::kills ((none:Option Nat).toList++[g2])) [d]:=by
    refine St.Ef rfl (λz=>?_) (λz=>by simp [St.aJ]);simp only [St.aJ,lookup_cons,iH,Option.toList,Kj,QP,List.lookup_nil];by_cases z1:z=d
    .simp only [if_pos z1]
    .simp only [if_neg z1]
   rw [hst] at hmk;refine ⟨.slice none (0+0) 0,w,_,kQ h0 h1 hs hxt he hc2 (by simp) (λa ha=>by cases ha) (λ_=>rfl),hmk.1,Lets.trans hk.2 hmk.2 (λg hg=>by simpa [St.aJ] using hg),by simp [fC,Gh.nil]⟩
  .have hD:kX E st gh w a i ie.size ak l none (gh g):=by have:=h.aZ g;rw [hog] at this;exact this
   have hgo:(st.o g).bP=true:=by rw [hog];rfl
   rcases hD with ⟨z1,z2,z3,z4⟩ | ⟨ad,c,e0,z1,z2,z3,z4,z5,z6,⟨z7,z7'⟩,z8⟩
   .subst z3;have hm0:m=0:=by simpa using hm
    subst hm0;have hn0:new=[]:=WP (by omega);subst hn0;have hk:=h.kill g;have hk2:=hk.1.kill g2;have hmk:=Rel.OE hk2.1 d (by simpa [St.aJ] using hd) (.aN (a||a2) (i||i2) ie.size ak [] none) (.inl ⟨rfl,rfl,rfl,λ_=>rfl⟩) (λg hg=>by simp [O.names,dA] at hg);have hst:((st.aJ [(g,.none)] []).aJ [(g2,.none)] []).aJ [(d,.aN (a||a2) (i||i2) ie.size ak [] none)] [d]=st.aJ ((d,.aN (a||a2) (i||i2) ie.size ak (([]:List (List P)).take 0++[]) none)::kills ((some g:Option Nat).toList++[g2])) [d]:=by
     refine St.Ef rfl (λz=>?_) (λz=>by simp [St.aJ]);simp only [St.aJ,lookup_cons,iH,Option.toList,K9,Kj,QQ,List.not_mem_nil,or_false,List.lookup_nil];by_cases z1:z=d
     .simp only [if_pos z1];rfl
     .simp only [if_neg z1];by_cases z2:z=g2
      .simp [z2]
      .simp only [if_neg z2];by_cases z3:z=g
       .simp [z3]
       .simp [z2,z3]
    rw [hst] at hmk;have akb:vX=0:=by omega
    subst akb;refine ⟨.slice none (0+0) 0,w,_,by rw [z1];exact kQ h0 h1 hs hxt he hc2 (by simp) (λa ha=>by cases ha) (λ_=>rfl),hmk.1,Lets.trans (Lets.trans hk.2 hk2.2 (λg hg=>by simpa [St.aJ] using hg)) hmk.2 (λg hg=>by simpa [St.aJ] using hg),by simp [fC,Gh.nil]⟩
   .have aqy:m*ie.size+new.length*ie.size<=(gh g).cap*ie.size:=by rw [<-W2];exact Z1 _ (J2 rO hbc.2)
    have hbz:vX*ie.size<=(gh g).cap*ie.size:=Z1 _ hbc.2;obtain ⟨b0,o0,sp0⟩:=ad;simp only at z2 z3 z4 z7 z8;subst z2;obtain ⟨w',c',s1,s2,s3,s4,s5,s6,s7,s8⟩:=kM (Pg:=Pg) b0 (o0+m*ie.size) e0 c2 0 w c z3 amS (by omega);have xU:c'.size=c.size:=by
     have:=congrArg List.length s3;rw [dR (by simp;omega)] at this;simpa using this
    let G:Gh:=⟨some ⟨b0,o0,none⟩,vX,sub⟩
    have hn2:¬ (gh g2).has b0:=λhb=>amT (h.inj g g2 b0 hgo agt (Gh.jY z1) hb);have hget :∀q:Nat,c'[q]?=(aS c.toList (o0+m*ie.size) c2)[q]?:=λq=>by rw [<-Vv,s3,UB]
    have hga:=h.gather (λg'=>g'∈(some g:Option Nat).toList++[g2]) hd (a||a2) (i||i2) ie.size ak (l.take m++new) G (st.aJ ((d,.aN (a||a2) (i||i2) ie.size ak (l.take m++new) none)::kills ((some g:Option Nat).toList++[g2])) [d]) w' rfl (by simp [St.aJ,lookup_cons])
     (amQ _) (amR _) (λg hg=>by simp [St.aJ,hg]) (by simp [St.aJ]) (ad:=⟨b0,o0,none⟩) (c:=c') (ty:=e0) rfl rfl s2 (by rw [xU];simp only [G];omega) ⟨by rw [hlen];exact rO,by simp only [G];have:=z5.2;omega⟩ (λx hx=>by
      rcases Xs.1 hx with hx | hx
      .exact z6 x (ZZ hx)
      .exact hr2 x hx) (by
      show sub b0=none;cases hx:(gh g2).sub b0 with
      |some p=>exact (hn2 (.inr (by rw [hx];rfl))).elim
      |none=>simp only [sub,hx,zk];exact z7) (λb hb=>by
      obtain ⟨g',q1,q2,q3⟩:=hsub b hb;exact ⟨⟨g',q1,q2,.inr q3⟩,acH g' q1 b q3⟩) (.inl ⟨g,by simp,hgo,Gh.jY z1⟩) (λb _ hne=>s4 b hne) (by omega) s6 s7 s8
     (λg' i1 hg' e1 hi=>by obtain ⟨_,_,a0,i0,l0,hq,hi0⟩:=hbS g' hg';rw [hq] at e1;cases e1;exact hi0 hi) (λg' hg' _=>by obtain ⟨_,_,a0,i0,l0,hq,_⟩:=hbS g' hg';exact ⟨i0,by rw [hq];rfl⟩)
     (λn x hx j y hy=>by
      rw [K6] at hx;split at hx
      .rename_i hn;have hnm:n<m:=by simp at hn;omega
       rw [Z3,if_pos hnm] at hx;obtain ⟨v,hv,hvr⟩:=z8 n x hx j y hy;have hj:j<ie.size:=by have:=(Q3.1 hy).1;have:=z6 x (XX hx);omega
       have:(n+1)*ie.size<=m*ie.size:=Z1 _ hnm;rw [W2,K5] at this;exact ⟨v,by rw [hget,dZ (by simp;omega),if_neg (by show ¬ (_/\_);simp only;omega)];simpa using hv,amP G rfl g rfl n j y v hvr⟩
      .rename_i hn;have hlm:(l.take m).length=m:=by simp;omega
       rw [hlm] at hx hn;obtain ⟨u,hu,hur⟩:=hcell2 _ x (by have:=(Q3.1 hx).1;omega) hx j y hy;have OM:=(Q3.1 hu).1;have hnm:n*ie.size=m*ie.size+(n-m)*ie.size:=by rw [<-W2];congr 1;omega
       refine ⟨u,?_,?_⟩
       .have e1:o0+n*ie.size+j-(o0+m*ie.size)=(n-m)*ie.size+j:=by omega
        rw [hget,dZ (by simp;omega),if_pos (by simp only;omega),e1];exact hu
       .have:=amO G rfl (n-m) j y u hur;have e2:n-m+m=n:=by omega
        rw [e2] at this;exact this)
    refine ⟨_,w',_,kQ h0 h1 hs hxt he hc2 rO (λa ha=>?_) (λhn=>by rw [z1] at hn;cases hn),hga.1,hga.2,by rw [hlen];simp [fC,G,z1]⟩;rw [z1] at ha;cases ha;rw [Addr.g_];simpa using s1
 .have hd1:=h.drew (w.drawn+1);have hl1:Lets E st st gh gh w { w with drawn:=w.drawn+1 }:=Rel.Ed _;have aqE:kX E st gh { w with drawn:=w.drawn+1 } a2 i2 ie.size ak new none (gh g2):=by have:=hd1.aZ g2;rw [ho2] at this;exact this
  obtain ⟨c2,hc2,hl2,amS,hr2,hcell2⟩:=Ap (Pg:=Pg) aqE new.length (XS _);have hbase :∃c1:List Value,(Builtin.firstCells ie.size m (.slice bad m vX)).run Pg { w with drawn:=w.drawn+1 }=.ok c1.toArray { w with drawn:=w.drawn+1 }/\c1.length=m*ie.size/\(∀x∈old,x.length=ie.size)/\
    ∀(n:Nat) x,old[n]?=some x->∀(j:Nat) y,x[j]?=some y->∃u,c1[n*ie.size+j]?=some u/\∃g,base=some g/\iV E st gh { w with drawn:=w.drawn+1 } a i (gh g) ak none n j y u:=by
   rcases hb with ⟨rfl,rfl,rfl,rfl,rfl⟩ | ⟨g,l,rfl,hog,rfl,hbc,hm,rfl,amT⟩
   .exact ⟨[],by simp [Builtin.firstCells],by simp,by simp,by simp⟩
   .have hD:kX E st gh { w with drawn:=w.drawn+1 } a i ie.size ak l none (gh g):=by have:=hd1.aZ g;rw [hog] at this;exact this
    obtain ⟨c1,k1,k2,k3,k4,k5⟩:=Ap (Pg:=Pg) hD m hm;rw [xW _ _ _ _ _ vX] at k1;refine ⟨c1,k1,k2,λx hx=>k4 x (ZZ hx),λn x hx j y hy=>?_⟩;rw [Z3] at hx;split at hx
    .rename_i hn;obtain ⟨u,q1,q2⟩:=k5 n x hn hx j y hy;exact ⟨u,q1,g,rfl,q2⟩
    .cases hx
  obtain ⟨c1,hc1,acC,hr1,hcell1⟩:=hbase;have hback:Lets E st st gh gh { w with drawn:=w.drawn+1 } w:=⟨λa i b hb=>⟨hb,rfl⟩,λg _=>.inr ⟨⟨rfl,rfl⟩,O.fF _⟩⟩;obtain ⟨rest,newCap,k1,k2,k3⟩:=qK (ty:=ty) h0 h1 hs hxt he hc2 hc1 rO hbb hb0
  let G:Gh:=⟨some ⟨w.heap.size,0,none⟩,newCap,sub⟩
  have hga:=h.gather (λg'=>g'∈base.toList++[g2]) hd (a||a2) (i||i2) ie.size ak (old++new) G (st.aJ ((d,.aN (a||a2) (i||i2) ie.size ak (old++new) none)::kills (base.toList++[g2])) [d])
   { w with drawn:=w.drawn+1,heap:=w.heap.push (.cells (c1.toArray++c2.toArray++rest) e) } rfl (by simp [St.aJ,lookup_cons])
   (amQ _) (amR _) (λg hg=>by simp [St.aJ,hg]) (by simp [St.aJ]) (ad:=⟨w.heap.size,0,none⟩) (c:=c1.toArray++c2.toArray++rest) (ty:=e) rfl rfl (by simp) (by
    simp only [vj,Km,acC,hl2,k2,G];rw [<-W2,<-W2,Wo];exact Z1 _ (by omega)) ⟨by rw [hlen];exact k1.1,k1.2⟩ (λx hx=>by
    rcases Xs.1 hx with hx | hx
    .exact hr1 x hx
    .exact hr2 x hx) (by
    show sub w.heap.size=none;cases hx:sub w.heap.size with
    |none=>rfl
    |some p=>
     obtain ⟨g',q1,q2,q3⟩:=hsub w.heap.size (by rw [hx];rfl);have:=(h.wr g' _ q2 (.inr q3)).2;omega) (λb hb=>by
    obtain ⟨g',q1,q2,q3⟩:=hsub b hb;exact ⟨⟨g',q1,q2,.inr q3⟩,acH g' q1 b q3⟩) (.inr ⟨XS _,by simp⟩) (λb hb _=>vK w _ b hb) (by simp) rfl rfl rfl
   (λg' i1 hg' e1 hi=>by obtain ⟨_,_,a0,i0,l0,hq,hi0⟩:=hbS g' hg';rw [hq] at e1;cases e1;exact hi0 hi) (λg' hg' _=>by obtain ⟨_,_,a0,i0,l0,hq,_⟩:=hbS g' hg';exact ⟨i0,by rw [hq];rfl⟩)
   (λn x hx j y hy=>by
    rw [K6] at hx;split at hx
    .rename_i hn;obtain ⟨u,q1,g,q2,q3⟩:=hcell1 n x hx j y hy;have hlt:=(Q3.1 q1).1;refine ⟨u,?_,amP G rfl g q2 n j y u (hback.XV (λ_ _=>rfl) (λg hg=>by cases hg) q3)⟩;rw [Wo,JS (by simp;omega),JS (by simpa using hlt)];simpa using q1
    .rename_i hn;rw [hol] at hx hn;obtain ⟨u,hu,hur⟩:=hcell2 _ x (by have:=(Q3.1 hx).1;omega) hx j y hy;have OM:=(Q3.1 hu).1;have hnm:n*ie.size=m*ie.size+(n-m)*ie.size:=by rw [<-W2];congr 1;omega
     refine ⟨u,?_,?_⟩
     .rw [Wo,JS (by simp;omega),Array.getElem?_append_right (by simp;omega)];simp only [Km,K2];have e1:n*ie.size+j-c1.length=(n-m)*ie.size+j:=by omega
      rw [e1];exact hu
     .have:=amO G rfl (n-m) j y u (hback.XV (λ_ _=>rfl) (λg hg=>by cases hg) hur);have e2:n-m+m=n:=by omega
      rw [e2] at this;exact this)
  exact ⟨_,_,_,k3,hga.1,hga.2,by rw [hlen];simp [fC,G]⟩
theorem nC{o o':Nat->O}{g:Nat}(h:Agree o o' g):jh o g=jh o' g:=by
 obtain ⟨h1,h2⟩:=h;unfold jh;rw [<-h1];cases ho:o g with
 |aN a i sz ak l hole=>
  rcases hole with _ | ⟨n,c,d⟩
  .rfl
  .simp only;rw [h2 d (by rw [ho];simp [O.hn,dA])]
 |_=>rfl
theorem xX(htt:iR Pg tt)(h:Rel E st gh val w){o:Oper}{ρ:Operand->Value}{s x:Operand}{ts:Array TypeId}(ho:o.op=.call { callee:=.builtin .append,args:=#[s,x],argTypes:=ts }){d g2:Nat}(hd:st.used d=false)
  {sT xT e e':TypeId} {ie:TI} (h0:ts[0]?=some sT) (h1:ts[1]?=some xT) (hs:Pg.underlying sT=some (.slice e)) (hxt:Pg.underlying xT=some (.slice e')) (he:pX Pg e ie) (hb0:ie.bytes≠0)
  {a i a2 i2:Bool} {sz:Nat} {ak:List (Nat×Nat)} {old new:List (List P)} {base:Option Nat} {bad:Option Addr} {vX m:Nat} (hsz:sz=ie.size)
  {st1:St} {ny:Nat->Gh} (ks:List Nat) (h1':Rel E st1 ny val w) (l1:Lets E st st1 gh ny w w) (e1 :∀x,(ny x).ad=(gh x).ad/\(ny x).cap=(gh x).cap) (s1:st1.s=st.s) (u1 :∀x,st1.used x=st.used x)
  (hb:(base=none/\bad=none/\vX=0/\m=0/\old=[]/\ks=[])\/∃g l,base=some g/\st1.o g=.aN a i sz ak l none/\bad=(gh g).ad/\(m<=vX/\vX<=(gh g).cap)/\m<=l.length/\old=l.take m/\ks=g::(st.o g).hn)
  (ok1 :∀x∈ks,(∀g,base=some g->x≠g)->st1.o x=.none) (oo1 :∀x,x∉ks->st1.o x=st.o x) (hnd:(ks++g2::(st.o g2).hn).Nodup)
  (h2:jh st.o g2=some (a2,i2,sz,ak,new)) (hvs:ρ s=.slice bad m vX) (hvx:ρ x=.slice (gh g2).ad new.length (gh g2).cap) (hbb:(m+new.length)*ie.bytes<=140737488355328) :
  ∃v w' bH,Does Pg (execOp ρ o) w v w'/\Rel E (st.aJ ((d,.aN (a||a2) (i||i2) sz ak (old++new) none)::kills (ks++g2::(st.o g2).hn)) [d]) bH val w'/\
   Lets E st (st.aJ ((d,.aN (a||a2) (i||i2) sz ak (old++new) none)::kills (ks++g2::(st.o g2).hn)) [d]) gh bH w w'/\
   dJ E (st.aJ ((d,.aN (a||a2) (i||i2) sz ak (old++new) none)::kills (ks++g2::(st.o g2).hn)) [d]) bH w' (.v (.one (.own d))) v/\
   ∀g∈(S.v (.one (.own d))).names,(st.aJ ((d,.aN (a||a2) (i||i2) sz ak (old++new) none)::kills (ks++g2::(st.o g2).hn)) [d]).used g=true:=by
 have hdis :∀x∈ks,x∉g2::(st.o g2).hn:=λx hx hx'=>by
  have:=(List.nodup_append.1 hnd).2.2 x hx x hx';exact this rfl
 have hag:Agree st.o st1.o g2:=⟨(oo1 g2 λhm=>hdis g2 hm (by simp)).symm,λd' hd'=>(oo1 d' λhm=>hdis d' hm (by simp [hd'])).symm⟩;have h2':jh st1.o g2=some (a2,i2,sz,ak,new):=by rw [<-nC hag];exact h2
 obtain ⟨st2,zO,r2,l2,e2,s2,u2,o2,ok2,oo2⟩:=h1'.home h2';rw [<-hag.1] at ok2 oo2;have hb2:(base=none/\bad=none/\vX=0/\m=0/\old=[])\/∃g l,base=some g/\st2.o g=.aN a i sz ak l none/\bad=(zO g).ad/\(m<=vX/\vX<=(zO g).cap)/\m<=l.length/\old=l.take m/\g≠g2:=by
  rcases hb with ⟨q1,q2,q3,q4,q5,_⟩ | ⟨g,l,q1,q2,q3,q4,q5,q6,q7⟩
  .exact .inl ⟨q1,q2,q3,q4,q5⟩
  .have hgk:=hdis g (by rw [q7];simp);have hg2:g≠g2:=λe=>hgk (by rw [e];simp);refine .inr ⟨g,l,q1,?_,by rw [(e2 g).1,(e1 g).1];exact q3,by rw [(e2 g).2,(e1 g).2];exact q4,q5,q6,hg2⟩;rw [oo2 g hg2 λhm=>hgk (by simp [hm])];exact q2
 obtain ⟨v,w',bH,k1,k2,k3,k4⟩:=RH (d:=d) (ty:=o.type) r2 (by rw [u2,u1];exact hd) hb2 o2 h0 h1 hs hxt he hsz hbb hb0;have hst:st2.aJ ((d,.aN (a||a2) (i||i2) sz ak (old++new) none)::kills (base.toList++[g2])) [d]=st.aJ ((d,.aN (a||a2) (i||i2) sz ak (old++new) none)::kills (ks++g2::(st.o g2).hn)) [d]:=by
  refine St.Ef (s2.trans s1) (λz=>?_) (λz=>by simp [St.aJ,u2,u1]);simp only [St.aJ,lookup_cons,iH];by_cases z1:z=d
  .simp only [if_pos z1]
  .simp only [if_neg z1];by_cases z2:z∈base.toList++[g2]
   .have:z∈ks++g2::(st.o g2).hn:=by
     rcases Xs.1 z2 with z2 | z2
     .rcases hb with ⟨q1,_⟩ | ⟨g,l,q1,_,_,_,_,_,q7⟩
      .rw [q1] at z2;simp at z2
      .rw [q1] at z2;simp at z2;subst z2;rw [q7];simp
     .simp at z2;subst z2;simp
    simp only [if_pos z2,if_pos this]
   .by_cases z3:z∈ks++g2::(st.o g2).hn
    .simp only [if_neg z2,if_pos z3];have hzg:z≠g2:=λe=>z2 (by simp [e]);by_cases z4:z∈(st.o g2).hn
     .exact (ok2 z z4).1
     .rw [oo2 z hzg z4];rcases Xs.1 z3 with z5 | z5
      .exact ok1 z z5 λg hg e=>z2 (by rw [hg,e];simp)
      .rcases QQ.1 z5 with z5 | z5
       .exact absurd z5 hzg
       .exact absurd z5 z4
    .simp only [if_neg z2,if_neg z3];simp only [Xs,QQ,not_or] at z3;rw [oo2 z z3.2.1 z3.2.2,oo1 z z3.1]
 rw [hst] at k2 k3;have hod:(st.aJ ((d,.aN (a||a2) (i||i2) sz ak (old++new) none)::kills (ks++g2::(st.o g2).hn)) [d]).o d=.aN (a||a2) (i||i2) sz ak (old++new) none:=by simp [St.aJ,lookup_cons]
 refine ⟨v,w',bH,.inl (jE ho ?_),k2,Lets.trans (Lets.trans l1 l2 (λg hg=>by rw [u1];exact hg)) k3 (λg hg=>by rw [u2,u1];exact hg),dJ.Hw (.own d v (by rw [k4];rfl) λsz1 len1 ho1=>?_),λg hg=>?_⟩
 .rw [(e2 g2).1,(e1 g2).1,(e2 g2).2,(e1 g2).2] at k1;simp [builtin,hvs,hvx,k1]
 .rw [hod] at ho1;simp only [O.dim,Q0,Q1] at ho1;obtain ⟨_,rfl⟩:=ho1;exact k4
 .rw [dQ] at hg;simp only [W.names,QP] at hg;subst hg;simp [St.aJ]
theorem LX{dc:List (Nat×Nat)}(htt:iR Pg tt)(args:Array Operand)(ts:Array TypeId):qL Pg tt dc (.call { callee:=.builtin .append,args:=args,argTypes:=ts }):=by
 intro E st gh val w ρ F o d r ho h hF hFn hk hp hd;simp only [dN] at hk;split at hk
 .rename_i s x sT xT tl ha hts;obtain rfl:=vM ha;have h0:ts[0]?=some sT:=by rw [<-Vv,hts];rfl
  have h1:ts[1]?=some xT:=by rw [<-Vv,hts];rfl
  split at hk
  .rename_i e _ _ _ e' _ _ _ s' g2 hsT hxT hs hx;have rs:=hF s;rw [hs] at rs;have rx:=hF x;rw [hx] at rx;have huS:=(htt _ _ hsT).kind;have huX:=(htt _ _ hxT).kind;simp only [oz] at huS huX;split at hk
   .rename_i ie ask a i old ks src a2 i2 sz ak new he hbD hh2;split at hk
    .rename_i hc;obtain ⟨hb0,hsz,hsrc,hnd⟩:=hc;have hnd:=rQ hnd;simp only [Q0] at hk;subst hk;obtain ⟨hask,hbb⟩:=hp;have Hz:st.used d=false:=hd d (by simp);have hvx:ρ x=.slice (gh g2).ad new.length (gh g2).cap:=by cases rx.dK with | own _ _ _ hb=>exact hb _ _ (oD hh2)
     have refl:Lets E st st gh gh w w:=⟨λa i b hb=>⟨hb,rfl⟩,λg _=>.inr ⟨⟨rfl,rfl⟩,O.fF _⟩⟩;cases s' with
     |dw=>
      simp only [baseD,Q0,Q1] at hbD;obtain ⟨rfl,rfl,rfl,rfl,rfl,rfl⟩:=hbD;have hv:ρ s=.slice none 0 0:=by generalize hz:ρ s=z at rs;cases rs.dK;rfl
      exact xX htt h ho Hz h0 h1 huS huX (htt _ _ he) hb0 (base:=none) (bad:=none) (vX:=0) (m:=0) hsz [] h refl (λ_=>⟨rfl,rfl⟩) rfl (λ_=>rfl) (.inl ⟨rfl,rfl,rfl,rfl,rfl,rfl⟩) (λx hx=>by cases hx) (λ_ _=>rfl) hnd hh2 hv hvx (by simpa using hbb)
     |own g=>
      simp only [baseD] at hbD;split at hbD
      .rename_i a0 i0 Aq kT l0 hh;simp only [Q0,Q1] at hbD;obtain ⟨rfl,rfl,rfl,rfl,rfl,rfl⟩:=hbD;have hsc:Aq=sz/\kT=ak:=by rcases hsrc with e | e;cases e;simpa using e
       obtain ⟨rfl,rfl⟩:=hsc;obtain ⟨st1,ny,r1,l1,e1,s1,u1,o1,ok1,oo1⟩:=h.home hh;have hv:ρ s=.slice (gh g).ad l0.length (gh g).cap:=by cases rs.dK with | own _ _ _ hb=>exact hb _ _ (oD hh)
       exact xX htt h ho Hz h0 h1 huS huX (htt _ _ he) hb0 (base:=some g) hsz (g::(st.o g).hn) r1 l1 e1 s1 u1 (.inr ⟨g,l0,rfl,o1,rfl,⟨(vN (h.aZ g) (oD hh)).1,XS _⟩,XS _,by rw [K4],rfl⟩)
        (λx hx hxg=>by
         rcases QQ.1 hx with e | e
         .exact absurd e (hxg g rfl)
         .exact (ok1 x e).1)
        (λx hx=>by simp only [QQ,not_or] at hx;exact oo1 x hx.1 hx.2) hnd hh2 hv hvx hbb
      .cases hbD
     |vw g lo hi=>
      simp only [baseD] at hbD;split at hbD
      .rename_i a0 i0 Aq kT l0 hh;simp only [Q0,Q1] at hbD;obtain ⟨rfl,rfl,rfl,rfl,rfl,rfl⟩:=hbD;have hsc:Aq=sz/\kT=ak:=by rcases hsrc with e | e;cases e;simpa using e
       obtain ⟨rfl,rfl⟩:=hsc;obtain ⟨st1,ny,r1,l1,e1,s1,u1,o1,ok1,oo1⟩:=h.home hh;obtain ⟨n,m,vc,h4,rfl,h5,h6,hvc,hv⟩:=(by cases rs.dK with | vw _ _ _ _ _ hb=>exact hb _ _ (oD hh) :∃n m c:Nat,lo=.int .i64 n/\hi=.int .i64 m/\n<=m/\m<=l0.length/\(m-n<=c/\n+c<=(gh g).cap)/\
        ρ s=.slice (if (gh g).cap=n then (gh g).ad else (gh g).ad.map (·.add (n*Aq))) (m-n) c)
       have hn0:n=0:=by rw [hask] at h4;simp [kY] at h4;omega
       subst hn0;have hadd:(gh g).ad.map (·.add (0*Aq))=(gh g).ad:=by
        cases (gh g).ad with
        |none=>rfl
        |some a=>simp [Addr.add]
       rw [hadd] at hv;simp only [ite_self,Nat.sub_zero] at hv;have em:(P.int .i64 (m:Int)).nat=m:=by simp [P.nat,P.num]
       rw [em] at hbb ⊢;have aqF:(m+new.length)*ie.bytes<=140737488355328:=by rw [Vc,qS h6] at hbb;exact hbb
       exact xX htt h ho Hz h0 h1 huS huX (htt _ _ he) hb0 (base:=some g) hsz (g::(st.o g).hn) r1 l1 e1 s1 u1 (.inr ⟨g,l0,rfl,o1,rfl,by omega,h6,rfl,rfl⟩)
        (λx hx hxg=>by
         rcases QQ.1 hx with e | e
         .exact absurd e (hxg g rfl)
         .exact (ok1 x e).1)
        (λx hx=>by simp only [QQ,not_or] at hx;exact oo1 x hx.1 hx.2) hnd hh2 hv hvx aqF
      .cases hbD
     |_=>simp [baseD] at hbD
    .cases hk
   .cases hk
  .cases hk
 .cases hk
theorem O1{dc:List (Nat×Nat)}(htt:iR Pg tt)(t:TypeId)(x:Operand)(lo hi mx:Option Operand):qL Pg tt dc (.slice t x lo hi mx):=by
 intro E st gh val w ρ F o d r ho h hF hFn hk hp hd;cases lo with
 |some _=>simp [dN] at hk
 |none=>
 cases mx with
 |some _=>simp [dN] at hk
 |none=>
 simp only [dN] at hk;split at hk
 .rename_i e _ _ _ g ht hx;have rx:=hF x;rw [hx] at rx;have hu:=(htt _ _ ht).kind;simp only [oz] at hu;split at hk
  .rename_i ie a i sz l he hog;split at hk
   .rename_i hsz;split at hk
    .rename_i hi' hhi;simp only [Q0] at hk;subst hk;obtain ⟨k,hk,hkl⟩:=hp;have hd:=hd d (by simp);have LV:(st.o g).dim=some (sz,l.length):=by rw [hog];rfl
     have hv:=(by cases rx.dK with | own _ _ _ hb=>exact hb _ _ LV:ρ x=.slice (gh g).ad l.length (gh g).cap);have hob:=h.aZ g;rw [hog] at hob;have hcap:l.length<=(gh g).cap:=OI hob;have vO:(hi.map ρ=none/\k=l.length)\/∃kd,hi.map ρ=some (.int kd k):=(iF hF hhi hk).imp (λ⟨a,b⟩=>⟨a,by simp [kY] at b;omega⟩) id;have hrun:(execOp ρ o).run Pg w=.ok (.value (.slice (gh g).ad k (gh g).cap)) w:=by
      have hs:=oC (Pg:=Pg) (w:=w) (len:=l.length) (lo:=(none:Option Value)) (hi:=hi.map ρ) (m:=0) (k:=k) (cap:=(gh g).cap) (.inl ⟨rfl,rfl⟩) vO (qv _) (by omega);have key:(execOp ρ o).run Pg w=.ok (.value (.slice (if (gh g).cap=0 then (gh g).ad else (gh g).ad.map (·.add (0*ie.size))) (k-0) ((gh g).cap-0))) w:=by
       unfold execOp;rw [ho];refine gW ?_;simp only [Kc];simp [Instr.sliceAt,dY hu,Instr.slice,hv,hs,dV (htt _ _ he)]
      rw [key];congr 3;rcases hob with ⟨q1,q2,_⟩ | ⟨ad,c,e',q1,q2,_⟩
      .rw [q1,q2];rfl
      .rw [q1];obtain ⟨b0,o0,sp0⟩:=ad;simp only at q2;subst q2;split
       .rfl
       .rw [Z6,Addr.g_];simp
     have hgo:(st.o g).bP=true:=by rw [hog];rfl
     have hgu:st.used g=true:=h.ul g (O.pq hgo);have hgd:g≠d:=by intro e;subst e;rw [hd] at hgu;cases hgu
     have e0:(P.list (P.sl sz (l.take hi'.nat)))=l.take k:=by rw [hk];simp [P.list,P.nat,P.num]
     have RI :∀st',st'=st.aJ [(d,.arr false a i sz (l.take k)),(g,.none)] [d]->
       ∃bH,Rel E st' bH val w/\Lets E st st' gh bH w w/\dJ E st' bH w (.v (.one (.own d))) (.slice (gh g).ad k (gh g).cap):=by
      intro st' hst;have hod:st'.o d=.arr false a i sz (l.take k):=by rw [hst];simp [St.aJ,List.lookup]
      have hm:=h.merge (λg'=>g'=g) d (.arr false a i sz (l.take k)) (gh g) st' w (by rw [hst];rfl) hod (λg' e1 e2=>by
        rw [hst,e1];have:(g==d)=false:=by simpa using hgd
        simp [St.aJ,List.lookup,this]) (λg' e1 e2=>by
        rw [hst];have q1:(g'==d)=false:=by simpa using e2
        have q2:(g'==g)=false:=by simpa using e1
        simp [St.aJ,List.lookup,q1,q2]) (λg' hg'=>by rw [hst];simp [St.aJ,hg']) (by rw [hst];simp [St.aJ]) (λhu=>by rw [hd] at hu;cases hu)
       (λb hb=>.inl ⟨g,.inl rfl,hgo,hb⟩) (λb _ _=>rfl) (XS _) rfl rfl rfl
       (λi1 b e1 hb hwr=>by cases e1;exact h.wi g i b (by rw [hog];rfl) hb hwr) (λ_ _=>h.ns g hgo (by rw [hog];rfl)) (λhl=>?_) (λg' hg'=>by simp [O.names] at hg')
      .refine ⟨_,hm.1,hm.2,dJ.Hw (.own d _ rfl λsz' len' hd'=>?_)⟩;rw [hod] at hd';obtain ⟨rfl,rfl⟩:=O.kF hd';have e1:fC gh d (gh g) d=gh g:=by simp [fC]
       rw [e1,Vc,qS hkl]
      .show iQ E st' _ w a i sz (l.take k) (gh g);have hold:iQ E st gh w a i sz l (gh g):=hob;rcases hold with ⟨q1,q2,q3⟩ | ⟨ad,c,e',q1,q2,q3,q4,q5,q6,q7⟩
       .exact .inl ⟨q1,q2,by rw [q3];simp⟩
       .refine .inr ⟨ad,c,e',q1,q2,q3,q4,⟨by rw [Vc];omega,q5.2⟩,λx hx=>q6 x (ZZ hx),λn x hx j y hy=>?_⟩;rw [Z3] at hx;split at hx
        .obtain ⟨v,hv,hr⟩:=q7 n x hx j y hy;exact ⟨v,hv,hl.kR hr⟩
        .cases hx
     show∃v w' bH,Does Pg (execOp ρ o) w v w'/\Rel E (st.aJ [(d,.arr false a i sz (P.list (P.sl sz (l.take hi'.nat)))),(g,.none)] [d]) bH val w'/\_;rw [e0];obtain ⟨bH,m1,m2,m3⟩:=RI _ rfl;refine ⟨_,w,bH,.inl hrun,m1,?_,?_,λg' hg'=>?_⟩
     .show Lets E st (st.aJ [(d,.arr false a i sz (P.list (P.sl sz (l.take hi'.nat)))),(g,.none)] [d]) gh bH w w;rw [e0];exact m2
     .show dJ E (st.aJ [(d,.arr false a i sz (P.list (P.sl sz (l.take hi'.nat)))),(g,.none)] [d]) bH w _ _;rw [e0];exact m3
     .have hg':g'∈(S.v (.one (.own d))).names:=hg';have:g'=d:=by simpa [S.names,V.names,W.names] using hg'
      subst this;simp [St.aJ]
    .cases hk
   .cases hk
  .rename_i ie a i sz ak l he hog;split at hk
   .rename_i hsz;split at hk
    .rename_i hi' hhi;simp only [Q0] at hk;subst hk;obtain ⟨k,hk,hkl⟩:=hp;have hd:=hd d (by simp);have LV:(st.o g).dim=some (sz,l.length):=by rw [hog];rfl
     have hv:=(by cases rx.dK with | own _ _ _ hb=>exact hb _ _ LV:ρ x=.slice (gh g).ad l.length (gh g).cap);have hob:=h.aZ g;rw [hog] at hob;have hob:kX E st gh w a i sz ak l none (gh g):=hob;have hcap:l.length<=(gh g).cap:=by
      rcases hob with ⟨_,_,q3,_⟩ | ⟨_,_,_,_,_,_,_,q5,_⟩
      .rw [q3];exact qv _
      .exact q5.1
     have vO:(hi.map ρ=none/\k=l.length)\/∃kd,hi.map ρ=some (.int kd k):=(iF hF hhi hk).imp (λ⟨a,b⟩=>⟨a,by simp [kY] at b;omega⟩) id;have hrun:(execOp ρ o).run Pg w=.ok (.value (.slice (gh g).ad k (gh g).cap)) w:=by
      have hs:=oC (Pg:=Pg) (w:=w) (len:=l.length) (lo:=(none:Option Value)) (hi:=hi.map ρ) (m:=0) (k:=k) (cap:=(gh g).cap) (.inl ⟨rfl,rfl⟩) vO (qv _) (by omega);have key:(execOp ρ o).run Pg w=.ok (.value (.slice (if (gh g).cap=0 then (gh g).ad else (gh g).ad.map (·.add (0*ie.size))) (k-0) ((gh g).cap-0))) w:=by
       unfold execOp;rw [ho];refine gW ?_;simp only [Kc];simp [Instr.sliceAt,dY hu,Instr.slice,hv,hs,dV (htt _ _ he)]
      rw [key];congr 3;rcases hob with ⟨q1,q2,_⟩ | ⟨ad,c,e',q1,q2,_⟩
      .rw [q1,q2];rfl
      .rw [q1];obtain ⟨b0,o0,sp0⟩:=ad;simp only at q2;subst q2;split
       .rfl
       .rw [Z6,Addr.g_];simp
     have hgo:(st.o g).bP=true:=by rw [hog];rfl
     have hgu:st.used g=true:=h.ul g (O.pq hgo);have hgd:g≠d:=by intro e;subst e;rw [hd] at hgu;cases hgu
     have e0:(P.list (P.sl sz (l.take hi'.nat)))=l.take k:=by rw [hk];simp [P.list,P.nat,P.num]
     have RI :∀st',st'=st.aJ [(d,.aN a i sz ak (l.take k) none),(g,.none)] [d]->
       ∃bH,Rel E st' bH val w/\Lets E st st' gh bH w w/\dJ E st' bH w (.v (.one (.own d))) (.slice (gh g).ad k (gh g).cap):=by
      intro st' hst;have hod:st'.o d=.aN a i sz ak (l.take k) none:=by rw [hst];simp [St.aJ,List.lookup]
      have hm:=h.merge (λg'=>g'=g) d (.aN a i sz ak (l.take k) none) (gh g) st' w (by rw [hst];rfl) hod (λg' e1 e2=>by
        rw [hst,e1];have:(g==d)=false:=by simpa using hgd
        simp [St.aJ,List.lookup,this]) (λg' e1 e2=>by
        rw [hst];have q1:(g'==d)=false:=by simpa using e2
        have q2:(g'==g)=false:=by simpa using e1
        simp [St.aJ,List.lookup,q1,q2]) (λg' hg'=>by rw [hst];simp [St.aJ,hg']) (by rw [hst];simp [St.aJ]) (λhu=>by rw [hd] at hu;cases hu)
       (λb hb=>.inl ⟨g,.inl rfl,hgo,hb⟩) (λb _ _=>rfl) (XS _) rfl rfl rfl
       (λi1 b e1 hb hwr=>by cases e1;exact h.wi g i b (by rw [hog];rfl) hb hwr) (λ_ hd=>by cases hd) (λhl=>?_) (λg' hg'=>by simp [O.names,dA] at hg')
      .refine ⟨_,hm.1,hm.2,dJ.Hw (.own d _ rfl λsz' len' hd'=>?_)⟩;rw [hod] at hd';have hd':some (sz,(l.take k).length)=some (sz',len'):=hd';simp only [Q0,Q1] at hd';obtain ⟨rfl,rfl⟩:=hd';have e1:fC gh d (gh g) d=gh g:=by simp [fC]
       rw [e1,Vc,qS hkl]
      .show kX E st' _ w a i sz ak (l.take k) none (gh g);rcases hob with ⟨q1,q2,q3,q4⟩ | ⟨ad,c,e',q1,q2,q3,q4,q5,q6,q7,q8⟩
       .exact .inl ⟨q1,q2,by rw [q3];simp,q4⟩
       .refine .inr ⟨ad,c,e',q1,q2,q3,q4,⟨by rw [Vc];omega,q5.2⟩,λx hx=>q6 x (ZZ hx),q7,λn x hx j y hy=>?_⟩;rw [Z3] at hx;split at hx
        .obtain ⟨v,hv,hr⟩:=q8 n x hx j y hy;exact ⟨v,hv,hl.XV (λb hb=>rfl) (λg hg=>by simp [dA] at hg) hr⟩
        .cases hx
     show∃v w' bH,Does Pg (execOp ρ o) w v w'/\Rel E (st.aJ [(d,.aN a i sz ak (P.list (P.sl sz (l.take hi'.nat))) none),(g,.none)] [d]) bH val w'/\_;rw [e0];obtain ⟨bH,m1,m2,m3⟩:=RI _ rfl;refine ⟨_,w,bH,.inl hrun,m1,?_,?_,λg' hg'=>?_⟩
     .show Lets E st (st.aJ [(d,.aN a i sz ak (P.list (P.sl sz (l.take hi'.nat))) none),(g,.none)] [d]) gh bH w w;rw [e0];exact m2
     .show dJ E (st.aJ [(d,.aN a i sz ak (P.list (P.sl sz (l.take hi'.nat))) none),(g,.none)] [d]) bH w _ _;rw [e0];exact m3
     .have hg':g'∈(S.v (.one (.own d))).names:=hg';have:g'=d:=by simpa [S.names,V.names,W.names] using hg'
      subst this;simp [St.aJ]
    .cases hk
   .cases hk
  .cases hk
 .cases hk
theorem LY{dc:List (Nat×Nat)}(htt:iR Pg tt)(op:Op):qL Pg tt dc op:=by
 cases op with
 |load t x=>exact RF htt t x
 |store t x y=>exact OZ htt t x y
 |buildSlice t n ps=>exact Cc htt t n ps
 |makeSlice t n c=>exact Eh htt t n c
 |slice t x lo hi mx=>exact O1 htt t x lo hi mx
 |call c=>
  obtain ⟨callee,args,ts⟩:=c;cases callee with
  |builtin b=>
   cases b with
   |append=>exact LX htt args ts
   |_=>intro E st gh val w ρ F o d r ho h hF hFn hk;simp [dN] at hk
  |_=>intro E st gh val w ρ F o d r ho h hF hFn hk;simp [dN] at hk
 |_=>intro E st gh val w ρ F o d r ho h hF hFn hk;simp [dN] at hk
end
end Go.Fw

namespace Go.Fw
variable [eY]
def P.flat:P->Bool
 |.sl _ _=>false
 |.seq _=>false
 |_=>true
theorem cO.flat{w:World}{ok ok':Nat->Prop}{x:P}{v:Value}(hx:x.flat=true)(r:cO w ok x v):cO w ok' x v:=by
 cases r with
 |int k n=>exact .int k n
 |bool b=>exact .bool b
 |str s=>exact .str s
 |opq v h=>exact .opq v h
 |_=>cases hx
inductive Ww(C:Bool->Bool->Bool->Bool->Prop)(m:Nat->Option Nat)(nil:Nat->Prop):W->W->Prop where
 |no (x:W):Ww C m nil x .no
 |p {a i a' i':Bool} (x:P) (hc:C a i a' i'):Ww C m nil (.p a i x) (.p a' i' x)
 |flat {a i a' i':Bool} (x:P) (hx:x.flat=true):Ww C m nil (.p a i x) (.p a' i' x)
 |dw:Ww C m nil .dw .dw
 |akd (a i:Bool) (sz:Nat):Ww C m nil .dw (.p a i (.sl sz []))
 |amU {g':Nat} (h:m g'=none) (hn:nil g'):Ww C m nil .dw (.own g')
 |own {g g':Nat} (h:m g'=some g):Ww C m nil (.own g) (.own g')
 |vw {g g':Nat} (lo hi:P) (h:m g'=some g):Ww C m nil (.vw g lo hi) (.vw g' lo hi)
 |box {g g' off:Nat} (h:m g'=some g):Ww C m nil (.box g off) (.box g' off)
 |ep {g g':Nat} (n:P) (off:Nat) (h:m g'=some g):Ww C m nil (.ep g n off) (.ep g' n off)
 |nJ {g g':Nat} (h:m g'=some g):Ww C m nil (.nJ g) (.nJ g')
 |sp {a i a' i':Bool} (row:List P) (off:Nat) (hc:C a i a' i'):Ww C m nil (.sp a i row off) (.sp a' i' row off)
 |gd (b:Bool) {x y:W} (h:Ww C m nil x y):Ww C m nil (.gd b x) (.gd b y)
 |clo (f:FuncId) (xs ys:List W) (hl:xs.length=ys.length) (h :∀(j:Nat) x y,xs[j]?=some x->ys[j]?=some y->Ww C m nil x y):Ww C m nil (.clo f xs) (.clo f ys)
inductive Vw(C:Bool->Bool->Bool->Bool->Prop)(m:Nat->Option Nat)(nil:Nat->Prop):V->V->Prop where
 |one {x y:W} (h:Ww C m nil x y):Vw C m nil (.one x) (.one y)
 |agg (xs ys:List W) (hl:xs.length=ys.length) (h :∀(j:Nat) x y,xs[j]?=some x->ys[j]?=some y->Ww C m nil x y):Vw C m nil (.agg xs) (.agg ys)
inductive Sw(C:Bool->Bool->Bool->Bool->Prop)(m:Nat->Option Nat)(nil:Nat->Prop):S->S->Prop where
 |no (x:S):Sw C m nil x .no
 |v {x y:V} (h:Vw C m nil x y):Sw C m nil (.v x) (.v y)
 |jD (xs ys:List V) (hl:xs.length=ys.length) (h :∀(j:Nat) x y,xs[j]?=some x->ys[j]?=some y->Vw C m nil x y):Sw C m nil (.jD xs) (.jD ys)
inductive Ow(C:Bool->Bool->Bool->Bool->Prop)(m:Nat->Option Nat)(nil:Nat->Prop):O->O->Prop where
 |none (x:O):Ow C m nil x .none
 |box (xs ys:List W) (hl:xs.length=ys.length) (h :∀(j:Nat) x y,xs[j]?=some x->ys[j]?=some y->Ww C m nil x y):Ow C m nil (.box xs) (.box ys)
 |arr (fz:Bool) {a i a' i':Bool} (sz:Nat) (l:List (List P)) (hc:C a i a' i'):Ow C m nil (.arr fz a i sz l) (.arr fz a' i' sz l)
 |aN {a i a' i':Bool} (sz:Nat) (ak:List (Nat×Nat)) (l:List (List P)) (hc:C a i a' i'):Ow C m nil (.aN a i sz ak l Option.none) (.aN a' i' sz ak l Option.none)
 |it (s n:P):Ow C m nil (.it s n) (.it s n)
def O.nilA(o:O):Prop:=(∃a i sz,o=.arr false a i sz [])\/∃a i sz ak,o=.aN a i sz ak [] Option.none
theorem Ow.dim{C:Bool->Bool->Bool->Bool->Prop}{m:Nat->Option Nat}{nil:Nat->Prop}{x y:O}(h:Ow C m nil x y){d:Nat×Nat}(hd:y.dim=some d):x.dim=some d:=by
 cases h with
 |none=>cases hd
 |box=>cases hd
 |arr=>exact hd
 |aN=>exact hd
 |it=>cases hd
theorem Ow.bP{C:Bool->Bool->Bool->Bool->Prop}{m:Nat->Option Nat}{nil:Nat->Prop}{x y:O}(h:Ow C m nil x y)(hy:y.bP=true):x.bP=true/\x.oh=y.oh:=by
 cases h with
 |none=>cases hy
 |box=>exact ⟨rfl,rfl⟩
 |arr=>exact ⟨hy,rfl⟩
 |aN=>exact ⟨rfl,rfl⟩
 |it=>exact ⟨rfl,rfl⟩
theorem Ow.inner{C:Bool->Bool->Bool->Bool->Prop}{m:Nat->Option Nat}{nil:Nat->Prop}{x y:O}(h:Ow C m nil x y){i:Bool}(hy:y.inner=some i) :∃a' a i',C a' i' a i/\x.inner=some i':=by
 cases h with
 |none=>cases hy
 |box=>cases hy
 |arr fz sz l hc=>
  cases fz with
  |false=>cases hy;exact ⟨_,_,_,hc,rfl⟩
  |true=>cases hy
 |aN sz ak l hc=>cases hy;exact ⟨_,_,_,hc,rfl⟩
 |it=>cases hy
structure Cast(C:Bool->Bool->Bool->Bool->Prop)(m:Nat->Option Nat)(nil:Nat->Prop)(E E':Env)(st st':St)(gh bH:Nat->Gh)(w:World):Prop where
 ok :∀a i a' i' b,C a i a' i'->E.ok st gh w a i b->E'.ok st' bH w a' i' b
 arr :∀g g',m g'=some g->∀sz len,(st'.o g').dim=some (sz,len)->((bH g').ad=(gh g).ad/\(bH g').cap=(gh g).cap)/\(st.o g).dim=some (sz,len)
 box :∀g g',m g'=some g->∀ws,st'.o g'=.box ws->(bH g').ad=(gh g).ad/\∃ws',st.o g=.box ws'
 it :∀g g',m g'=some g->∀s n,st'.o g'=.it s n->(bH g').ad=(gh g).ad/\∃s' n',st.o g=.it s' n'
 nil :∀g',nil g'->m g'=none->∀sz len,(st'.o g').dim=some (sz,len)->len=0/\(bH g').ad=none/\(bH g').cap=0
section
variable {C:Bool->Bool->Bool->Bool->Prop} {E E':Env} {st st':St} {gh bH:Nat->Gh} {w:World} {val:Nat->Value} {m:Nat->Option Nat} {nil:Nat->Prop}
theorem Cast.kR(r:Cast C m nil E E' st st' gh bH w){a i a' i':Bool}(hc:C a i a' i'){x:P}{v:Value}(h:cO w (E.ok st gh w a i) x v):cO w (E'.ok st' bH w a' i') x v:=
 h.mono λb hb=>⟨r.ok _ _ _ _ b hc hb,rfl⟩
theorem Cast.Ah(r:Cast C m nil E E' st st' gh bH w){x y:W}(hxy:Ww C m nil x y){v:Value}(h:fD E st gh w x v):fD E' st' bH w y v:=by
 induction hxy generalizing v with
 |no x=>exact .no v
 |p x hc=>cases h with | p _ _ _ _ h=>exact .p _ _ _ _ (r.kR hc h)
 |flat x hx=>cases h with | p _ _ _ _ h=>exact .p _ _ _ _ (h.flat hx)
 |dw=>cases h;exact .dw
 |akd a i sz=>cases h;exact .p _ _ _ _ (.nil _ _ _)
 |amU hm hn=>
  cases h;refine .own _ _ rfl λsz len ho=>?_;obtain ⟨h1,h2,h3⟩:=r.nil _ hn hm _ _ ho;rw [h1,h2,h3]
 |own hm=>
  cases h with | own _ _ hv hx=>
  refine .own _ _ hv λsz len ho=>?_;obtain ⟨hg,e⟩:=r.arr _ _ hm _ _ ho;rw [hg.1,hg.2];exact hx _ _ e
 |vw lo hi hm=>
  cases h with | vw _ _ _ _ hv hx=>
  refine .vw _ _ _ _ hv λsz len ho=>?_;obtain ⟨hg,e⟩:=r.arr _ _ hm _ _ ho;rw [hg.1,hg.2];exact hx _ _ e
 |box hm=>
  cases h with | box _ _ _ hv hx=>
  refine .box _ _ _ hv λws ho=>?_;obtain ⟨hg,ws',e⟩:=r.box _ _ hm _ ho;rw [hg];exact hx _ e
 |ep n off hm=>
  cases h with | ep _ _ _ _ hv hx=>
  refine .ep _ _ _ _ hv λsz len ho=>?_;obtain ⟨hg,e⟩:=r.arr _ _ hm _ _ ho;rw [hg.1];exact hx _ _ e
 |nJ hm=>
  cases h with | nJ _ _ hv hx=>
  refine .nJ _ _ hv λs n ho=>?_;obtain ⟨hg,s',n',e⟩:=r.it _ _ hm _ _ ho;rw [hg];exact hx _ _ e
 |sp row off hc=>
  cases h with | sp _ _ _ _ b o hb hr=>exact .sp _ _ _ _ b o (λh0=>r.ok _ _ _ _ b hc (hb h0)) λj y hj=>let ⟨u,hu,Rx⟩:=hr j y hj;⟨u,hu,r.kR hc Rx⟩
 |gd b hxy ih=>cases h with | gd _ _ _ h=>exact .gd _ _ _ λhb=>ih (h hb)
 |clo f xs ys hl hxy ih=>
  cases h with | clo _ _ vs hl' h=>
  exact .clo f ys vs (by omega) λj y v hy hv=>by
   have hlt:j<xs.length:=by have:=(Q3.1 hy).1;omega
   exact ih j _ y (Q2 hlt) hy (h j _ v (Q2 hlt) hv)
theorem Cast.Z9(r:Cast C m nil E E' st st' gh bH w){x y:V}(hxy:Vw C m nil x y){v:Value}(h:rG E st gh w x v):rG E' st' bH w y v:=by
 cases hxy with
 |one hxy=>cases h with | one _ _ h=>exact .one _ _ (r.Ah hxy h)
 |agg xs ys hl hxy=>
  cases h with | agg _ cs hl' hv h=>
  exact .agg ys cs (by omega) hv λj y v hy hv=>by
   have hlt:j<xs.length:=by have:=(Q3.1 hy).1;omega
   exact r.Ah (hxy j _ y (Q2 hlt) hy) (h j _ v (Q2 hlt) hv)
theorem Cast.agl(r:Cast C m nil E E' st st' gh bH w){x y:S}(hxy:Sw C m nil x y){v:Value}(h:dJ E st gh w x v):dJ E' st' bH w y v:=by
 cases hxy with
 |no x=>exact .no v
 |v hxy=>cases h with | v _ _ h=>exact .v _ _ (r.Z9 hxy h)
 |jD xs ys hl hxy=>
  cases h with | jD _ vs hl' h=>
  exact .jD ys vs (by omega) λj y v hy hv=>by
   have hlt:j<xs.length:=by have:=(Q3.1 hy).1;omega
   exact r.Z9 (hxy j _ y (Q2 hlt) hy) (h j _ v (Q2 hlt) hv)
theorem Cast.BK(r:Cast C m nil E E' st st' gh bH w){x y:O}(hxy:Ow C m nil x y){G:Gh}(h:mD E st gh w x G):mD E' st' bH w y G:=by
 cases hxy with
 |none x=>trivial
 |box xs ys hl hxy=>
  obtain ⟨ad,c,e,h1,h2,h3,h4,h5⟩:=h;refine ⟨ad,c,e,h1,h2,h3,by omega,λj y hy=>?_⟩;have hlt:j<xs.length:=by have:=(Q3.1 hy).1;omega
  obtain ⟨v,hv,ho,hr⟩:=h5 j _ (Q2 hlt);exact ⟨v,hv,ho,r.Ah (hxy j _ y (Q2 hlt) hy) hr⟩
 |arr fz sz l hc=>
  cases fz with
  |false=>
   rcases h with hO | ⟨ad,c,e,h1,h2,h3,h4,h5,h6,h7⟩
   .exact .inl hO
   .exact .inr ⟨ad,c,e,h1,h2,h3,h4,h5,h6,λn x hx j y hy=>let ⟨v,hv,hr⟩:=h7 n x hx j y hy;⟨v,hv,r.kR hc hr⟩⟩
  |true=>exact r.kR hc h
 |aN sz ak l hc=>
  rcases h with hO | ⟨ad,c,e,h1,h2,h3,h4,h5,h6,h7,h8⟩
  .exact .inl hO
  .refine .inr ⟨ad,c,e,h1,h2,h3,h4,h5,h6,h7,λn x hx j y hy=>?_⟩;obtain ⟨v,hv,hr⟩:=h8 n x hx j y hy;refine ⟨v,hv,?_⟩;unfold iV at *;cases hcl:ak.lookup j with
   |none=>rw [hcl] at hr;exact r.kR hc hr
   |some sz'=>
    rw [hcl] at hr;simp only [iw] at *;obtain ⟨l',ao,k,k1,k2,k3,k4⟩:=hr;refine ⟨l',ao,k,k1,k2,?_,k4⟩;rcases k3 with k3 | ⟨ad,c,e,h1,h2,h3,h4,h5,h6,h7⟩
    .exact .inl k3
    .exact .inr ⟨ad,c,e,h1,h2,h3,h4,h5,h6,λn x hx j y hy=>let ⟨v,hv,hr⟩:=h7 n x hx j y hy;⟨v,hv,r.kR hc hr⟩⟩
 |it s n=>exact h
end
def Cle(a i a' i':Bool):Prop:=(a=true->a'=true)/\(i=true->i'=true)
structure tu(C:Bool->Bool->Bool->Bool->Prop)(m:Nat->Option Nat)(st st':St):Prop where
 slots :∀t,Sw C m (λg=>(st'.o g).nilA) (st.s t) (st'.s t)
 aZ :∀g' g,m g'=some g->Ow C m (λg=>(st'.o g).nilA) (st.o g) (st'.o g')
 aW :∀g',m g'=none->st'.o g'=.none\/(st'.o g').nilA
 inj :∀g1 g2 g,(st'.o g1).bP=true->(st'.o g2).bP=true->m g1=some g->m g2=some g->g1=g2
 us :∀t,∀g∈(st'.s t).names,st'.used g=true
 uo :∀g,∀g'∈(st'.o g).names,st'.used g'=true
 ul :∀g,st'.o g≠.none->st'.used g=true
section
variable {C:Bool->Bool->Bool->Bool->Prop} {E E':Env} {st st':St} {gh:Nat->Gh} {w:World} {val:Nat->Value} {m:Nat->Option Nat}
def jZ(gh:Nat->Gh)(m:Nat->Option Nat):Nat->Gh:=λg'=>match m g' with
 |some g=>gh g
 |none=>Gh.nil
theorem tu.bP(r:tu C m st st'){g':Nat}(h:(st'.o g').bP=true){b:Nat}(had:(jZ gh m g').has b) :∃g,m g'=some g/\(st.o g).bP=true/\(gh g).has b:=by
 unfold jZ at had;cases hm:m g' with
 |none=>rw [hm] at had;exact (Gh.not_nil had).elim
 |some g=>
  rw [hm] at had;exact ⟨g,rfl,((r.aZ g' g hm).bP h).1,had⟩
theorem tu.cast(r:tu C m st st')(hok :∀a i a' i' b,C a i a' i'->E.ok st gh w a i b->E'.ok st' (jZ gh m) w a' i' b) :
  Cast C m (λg=>(st'.o g).nilA) E E' st st' gh (jZ gh m) w:=by
 refine ⟨hok,λg g' hm sz len ho=>⟨by simp [jZ,hm],(r.aZ g' g hm).dim ho⟩,λg g' hm ws ho=>⟨by simp [jZ,hm],?_⟩,λg g' hm s n ho=>⟨by simp [jZ,hm],?_⟩,λg' hn hm sz len ho=>⟨?_,by simp [jZ,hm,Gh.nil],by simp [jZ,hm,Gh.nil]⟩⟩
 .have:=r.aZ g' g hm;rw [ho] at this;generalize st.o g=x at this;cases this;exact ⟨_,rfl⟩
 .have:=r.aZ g' g hm;rw [ho] at this;generalize st.o g=x at this;cases this;exact ⟨_,_,rfl⟩
 .rcases hn with ⟨a',i',sz',hn⟩ | ⟨a',i',sz',ak,hn⟩
  .rw [hn] at ho;cases ho;rfl
  .rw [hn] at ho;cases ho;rfl
theorem tu.ok(r:tu Cle m st st') :∀a i a' i' b,Cle a i a' i'->E.ok st gh w a i b->E.ok st' (jZ gh m) w a' i' b:=by
 intro a i a' i' b hc h;have:=Env.pz hc.1 hc.2 h;refine ⟨this.1,this.2.1,λg' ho had=>?_⟩;obtain ⟨g,_,h1,h2⟩:=r.bP ho had;exact h.2.2 g h1 h2
theorem tu.BK(r:tu C m st st')(c:Cast C m (λg=>(st'.o g).nilA) E E' st st' gh (jZ gh m) w)(h :∀g,mD E st gh w (st.o g) (gh g))(g':Nat):mD E' st' (jZ gh m) w (st'.o g') (jZ gh m g'):=by
 cases hm:m g' with
 |none=>
  rcases r.aW g' hm with e | ⟨a,i,sz,e⟩ | ⟨a,i,sz,ak,e⟩
  .rw [e];trivial
  .rw [e];exact .inl ⟨by simp [jZ,hm,Gh.nil],by simp [jZ,hm,Gh.nil],rfl⟩
  .rw [e];exact .inl ⟨by simp [jZ,hm,Gh.nil],by simp [jZ,hm,Gh.nil],rfl,λb=>by simp [jZ,hm,Gh.nil]⟩
 |some g=>
  have hg:jZ gh m g'=gh g:=by simp [jZ,hm]
  rw [hg];exact c.BK (r.aZ g' g hm) (h g)
theorem Rel.acI(h:Rel E st gh val w)(r:tu Cle m st st'):Rel E st' (jZ gh m) val w:=by
 have c:=r.cast (E:=E) (E':=E) (gh:=gh) (w:=w) r.ok;refine ⟨λt=>c.agl (r.slots t) (h.slots t),r.BK c h.aZ,λg1 g2 b h1 h2 k1 k2=>?_,λg' b ho had=>?_,λg' i b ho had hw=>?_,λg' ho hd b=>?_,h.wb,h.frame,h.size,h.os,h.tape,h.output,r.us,r.uo,r.ul⟩
 .obtain ⟨q1,m1,o1,d1⟩:=r.bP h1 k1;obtain ⟨q2,m2,o2,d2⟩:=r.bP h2 k2;have:=h.inj q1 q2 b o1 o2 d1 d2;subst this;exact r.inj g1 g2 q1 h1 h2 m1 m2
 .obtain ⟨g,_,h1,h2⟩:=r.bP ho had;exact h.wr g b h1 h2
 .obtain ⟨g,hm,h1,h2⟩:=r.bP (gh:=gh) (g':=g') (O.kZ ho) had;obtain ⟨a',a,i',hc,q⟩:=(r.aZ g' g hm).inner ho;exact hc.2 (h.wi g i' b q h2 hw)
 .cases hm:m g' with
  |none=>simp [jZ,hm,Gh.nil]
  |some g=>
   have hg:jZ gh m g'=gh g:=by simp [jZ,hm]
   rw [hg];obtain ⟨q1,q2⟩:=(r.aZ g' g hm).bP ho;exact h.ns g q1 (by rw [q2];exact hd) b
end
end Go.Fw

namespace Go.Fw
variable [eY]
inductive WS where
 |p (a i:Bool)
 |dw
 |own (g:Nat)
 |box (g off:Nat)
 |fn (f:FuncId) (gs:List Nat)
 |nJ (g:Nat)
 |no
 |vw (g:Nat)
 |ep (g off:Nat)
inductive SS where
 |one (x:WS)
 |agg (xs:List WS)
inductive OS where
 |box (ws:List WS)
 |arr (fz a i:Bool) (sz:Nat)
 |it
 |aN (a i:Bool) (sz:Nat) (ak:List (Nat×Nat))
structure Shape where
 slots:List (Nat×SS)
 aZ:List (Nat×OS)
abbrev Ren:=List (Nat×Option Nat)
def imp(a b:Bool):Bool:=!a||b
def nodupB:List Nat->Bool
 | []=>true
 |x::xs=>!xs.contains x&&nodupB xs
def tC(m:Ren):List Nat->List W->Bool
 | [],[]=>true
 |g'::gs,.box g off::cs=>decide (m.lookup g'=some (some g))&&(Nat.beq off 0&&tC m gs cs)
 |_,_=>false
def gU:List Nat->List W
 | []=>[]
 |g::gs=>.box g 0::gU gs
def LD(m:Ren):WS->W->Option (List P)
 |.p a i,.p a' i' x=>if ((imp a' a&&imp i' i)||x.flat)=true then some [x] else none
 |.p _ _,.dw=>some [.sl 0 []]
 |.dw,.dw=>some []
 |.own g',.own g=>if m.lookup g'=some (some g) then some [] else none
 |.own g',.dw=>if m.lookup g'=some none then some [] else none
 |.box g' off,.box g off'=>if m.lookup g'=some (some g)/\off=off' then some [] else none
 |.fn f gs,.clo f' caps=>if f=f'/\tC m gs caps=true then some [] else none
 |.nJ g',.nJ g=>if m.lookup g'=some (some g) then some [] else none
 |.no,_=>some []
 |.vw g',.vw g lo hi=>if m.lookup g'=some (some g) then some [lo,hi] else none
 |.ep g' off,.ep g n off'=>if m.lookup g'=some (some g)/\off=off' then some [n] else none
 |_,_=>none
def LZ(m:Ren):List WS->List W->Option (List P)
 | [],[]=>some []
 |k::ks,x::xs=>match LD m k x,LZ m ks xs with
  |some u,some v=>some (u++v)
  |_,_=>none
 |_,_=>none
def coS(m:Ren):SS->S->Option (List P)
 |.one k,.v (.one x)=>LD m k x
 |.agg ks,.v (.agg xs)=>LZ m ks xs
 |_,_=>none
def coO(m:Ren):OS->O->Option (List P)
 |.box ks,.box xs=>LZ m ks xs
 |.arr fz a i sz,.arr fz' a' i' sz' l=>if fz=fz'/\sz=sz'/\(imp a' a&&imp i' i)=true then some [P.fU sz l] else none
 |.it,.it s n=>some [s,n]
 |.aN a i sz ak,.aN a' i' sz' iE l Option.none=>if sz=sz'/\ak=iE/\(imp a' a&&imp i' i)=true then some [P.fU sz l] else none
 |_,_=>none
def rU(m:Ren)(s:Nat->S):List (Nat×SS)->Option (List P)
 | []=>some []
 |(t,k)::rest=>match coS m k (s t),rU m s rest with
  |some u,some v=>some (u++v)
  |_,_=>none
def vY(m:Ren)(o:Nat->O):List (Nat×OS)->Option (List P)
 | []=>some []
 |(g',k)::rest=>match (match m.lookup g' with
   |some (some g)=>coO m k (o g)
   |some none=>(match k with
    |.arr false _ _ _=>some [.sl 0 []]
    |.aN _ _ _ _=>some [.sl 0 []]
    |_=>none)
   |none=>none),vY m o rest with
  |some u,some v=>some (u++v)
  |_,_=>none
def WS.names:WS->List Nat
 |.own g | .box g _ | .nJ g | .vw g | .ep g _=>[g]
 |.fn _ gs=>gs
 |_=>[]
def SS.names:SS->List Nat
 |.one x=>x.names
 |.agg xs=>xs.flatMap WS.names
def OS.names:OS->List Nat
 |.box ws=>ws.flatMap WS.names
 |_=>[]
def Shape.nms(j:Shape):List Nat:=j.aZ.map (·.1)
def Shape.ok(j:Shape):Bool:=nodupB j.nms&&j.slots.all (λp=>p.2.names.all λg=>j.nms.contains g)&&j.aZ.all (λp=>p.2.names.all λg=>j.nms.contains g)
def aiL(j:Shape)(m:Ren):Bool:=nodupB (j.nms.filterMap λg=>(m.lookup g).join)
def coerce(j:Shape)(m:Ren)(st:St):Option (List P):=
 if (j.ok&&aiL j m)=true then match rU m st.s j.slots,vY m st.o j.aZ with
  |some u,some v=>some (u++v)
  |_,_=>none
 else none
def qx(vs:List P)(n:Nat):WS->W×Nat
 |.p a i=>(.p a i (vs.getD n default),n+1)
 |.dw=>(.dw,n)
 |.own g=>(.own g,n)
 |.box g off=>(.box g off,n)
 |.fn f gs=>(.clo f (gU gs),n)
 |.nJ g=>(.nJ g,n)
 |.no=>(.no,n)
 |.vw g=>(.vw g (vs.getD n default) (vs.getD (n+1) default),n+2)
 |.ep g off=>(.ep g (vs.getD n default) off,n+1)
def lu(vs:List P):Nat->List WS->List W×Nat
 |n,[]=>([],n)
 |n,k::ks=>((qx vs n k).1::(lu vs (qx vs n k).2 ks).1,(lu vs (qx vs n k).2 ks).2)
def mkS(vs:List P)(n:Nat):SS->S×Nat
 |.one k=>(.v (.one (qx vs n k).1),(qx vs n k).2)
 |.agg ks=>(.v (.agg (lu vs n ks).1),(lu vs n ks).2)
def ug(vs:List P)(n:Nat):OS->O×Nat
 |.box ks=>(.box (lu vs n ks).1,(lu vs n ks).2)
 |.arr fz a i sz=>(.arr fz a i sz (vs.getD n default).list,n+1)
 |.it=>(.it (vs.getD n default) (vs.getD (n+1) default),n+2)
 |.aN a i sz ak=>(.aN a i sz ak (vs.getD n default).list Option.none,n+1)
def dI(vs:List P):Nat->List (Nat×SS)->List (Nat×S)×Nat
 |n,[]=>([],n)
 |n,(t,k)::rest=>((t,(mkS vs n k).1)::(dI vs (mkS vs n k).2 rest).1,(dI vs (mkS vs n k).2 rest).2)
def gV(vs:List P):Nat->List (Nat×OS)->List (Nat×O)×Nat
 |n,[]=>([],n)
 |n,(g,k)::rest=>((g,(ug vs n k).1)::(gV vs (ug vs n k).2 rest).1,(gV vs (ug vs n k).2 rest).2)
def mk(j:Shape)(vs:List P):St:=
 { s:=λt=>match (dI vs 0 j.slots).1.lookup t with | some x=>x | none=>.no,o:=λg=>match (gV vs (dI vs 0 j.slots).2 j.aZ).1.lookup g with | some x=>x | none=>.none,used:=λg=>j.nms.contains g }
def Jb(j:Shape)(m:Ren)(g':Nat):Option Nat:=if j.nms.contains g' then (m.lookup g').join else none
def At(vs:List P)(n:Nat)(us:List P):Prop :=∀k y,us[k]?=some y->vs[n+k]?=some y
theorem At.left{vs us1 us2:List P}{n:Nat}(h:At vs n (us1++us2)):At vs n us1:=λk y hk=>h k y (by rw [Wa (Q3.1 hk).1];exact hk)
theorem At.right{vs us1 us2:List P}{n:Nat}(h:At vs n (us1++us2)):At vs (n+us1.length) us2:=λk y hk=>by
 have:=h (us1.length+k) y (by rw [W6 (by omega),qb];exact hk);rw [<-this];congr 1;omega
theorem At.head{vs:List P}{n:Nat}{x:P}(h:At vs n [x]):vs.getD n default=x:=by
 have:=h 0 x rfl;rw [List.getD_eq_getElem?_getD];rw [UB] at this;rw [this];rfl
theorem uh{a b:Bool}(h:imp a b=true):a=true->b=true:=by
 cases a<;>cases b<;>simp_all [imp]
section
variable {vs:List P} {m:Ren} {F:Nat->Option Nat} {nil:Nat->Prop}
theorem vZ :∀(gs:List Nat),(gU gs).flatMap W.names=gs
 | []=>rfl
 |g::gs=>by simp [gU,W.names,vZ gs]
theorem uj(f:FuncId)(caps:List W):(W.clo f caps).names=caps.flatMap W.names:=by
 have :∀(l:List W) (q :∀x∈l,x∈caps),(l.attach.flatMap λ(x:{x // x∈l})=>x.1.names)=l.flatMap W.names:=λl _=>by
  rw [List.flatMap_def,List.flatMap_def,List.map_attach_eq_pmap,List.pmap_eq_map]
 rw [W.names];exact this caps λx hx=>hx
theorem MX :∀{gs:List Nat} {caps:List W},(∀g∈gs,F g=(m.lookup g).join)->tC m gs caps=true->caps.length=(gU gs).length/\∀(j:Nat) x y,caps[j]?=some x->(gU gs)[j]?=some y->Ww Cle F nil x y
 | [],[],_,_=>⟨rfl,λj x y hx=>by simp at hx⟩
 | [],_::_,_,h=>by simp [tC] at h
 |_::_,[],_,h=>by simp [tC] at h
 |g'::gs,c::cs,hF,h=>by
  cases c with
  |box g off=>
   simp only [tC,Qf,decide_eq_true_eq] at h;obtain ⟨h1,h2,h3⟩:=h;have h2:=Q4 h2;subst h2;obtain ⟨e1,e2⟩:=MX (λg hg=>hF g (by simp [hg])) h3;refine ⟨by simp [gU,e1],λj x y hx hy=>?_⟩;cases j with
   |zero=>
    simp [gU] at hx hy;subst hx hy;exact .box (by rw [hF g' (by simp),h1];rfl)
   |succ j=>simp [gU] at hx hy;exact e2 j x y hx hy
  |_=>simp [tC] at h
theorem acK{k:WS}{x:W}{us:List P}{n:Nat}(hF :∀g∈k.names,F g=(m.lookup g).join)(hnil :∀g∈k.names,m.lookup g=some none->nil g)(h:LD m k x=some us)(ha:At vs n us) :
  Ww Cle F nil x (qx vs n k).1/\(qx vs n k).2=n+us.length/\(qx vs n k).1.names=k.names:=by
 cases k with
 |p a i=>
  cases x with
  |p a' i' y=>
   simp only [LD] at h;split at h
   .rename_i hc;simp only [Q0] at h;subst h;simp only [JN,Qf] at hc;refine ⟨?_,rfl,by simp [qx,W.names,WS.names]⟩;simp only [qx,ha.head];rcases hc with hc | hc
    .exact .p y ⟨uh hc.1,uh hc.2⟩
    .exact .flat y hc
   .cases h
  |dw=>
   simp only [LD,Q0] at h;subst h;refine ⟨?_,rfl,by simp [qx,W.names,WS.names]⟩;simp only [qx,ha.head];exact .akd _ _ _
  |_=>simp [LD] at h
 |dw=>cases x<;>simp [LD] at h;subst h;exact ⟨.dw,rfl,by simp [qx,W.names,WS.names]⟩
 |own g'=>
  cases x with
  |own g=>
   simp only [LD] at h;split at h
   .rename_i hc;simp only [Q0] at h;subst h;exact ⟨.own (by rw [hF g' (by simp [WS.names]),hc];rfl),rfl,by simp [qx,W.names,WS.names]⟩
   .cases h
  |dw=>
   simp only [LD] at h;split at h
   .rename_i hc;simp only [Q0] at h;subst h;exact ⟨.amU (by rw [hF g' (by simp [WS.names]),hc];rfl) (hnil g' (by simp [WS.names]) hc),rfl,by simp [qx,W.names,WS.names]⟩
   .cases h
  |_=>simp [LD] at h
 |box g' off=>
  cases x with
  |box g off'=>
   simp only [LD] at h;split at h
   .rename_i hc;simp only [Q0] at h;subst h;obtain ⟨hc,rfl⟩:=hc;exact ⟨.box (by rw [hF g' (by simp [WS.names]),hc];rfl),rfl,by simp [qx,W.names,WS.names]⟩
   .cases h
  |_=>simp [LD] at h
 |fn f gs=>
  cases x with
  |clo f' caps=>
   simp only [LD] at h;split at h
   .rename_i hc;simp only [Q0] at h;subst h;obtain ⟨rfl,hc⟩:=hc;obtain ⟨e1,e2⟩:=MX (nil:=nil) hF hc;exact ⟨.clo f caps (gU gs) e1 e2,rfl,by simp only [qx,uj,vZ,WS.names]⟩
   .cases h
  |_=>simp [LD] at h
 |nJ g'=>
  cases x with
  |nJ g=>
   simp only [LD] at h;split at h
   .rename_i hc;simp only [Q0] at h;subst h;exact ⟨.nJ (by rw [hF g' (by simp [WS.names]),hc];rfl),rfl,by simp [qx,W.names,WS.names]⟩
   .cases h
  |_=>simp [LD] at h
 |no=>simp [LD] at h;subst h;exact ⟨.no _,rfl,by simp [qx,W.names,WS.names]⟩
 |vw g'=>
  cases x with
  |vw g lo hi=>
   simp only [LD] at h;split at h
   .rename_i hc;simp only [Q0] at h;subst h;have h0:vs.getD n default=lo:=At.head (At.left (us1:=[lo]) (us2:=[hi]) ha);have h1:vs.getD (n+1) default=hi:=At.head (At.right (us1:=[lo]) (us2:=[hi]) ha);refine ⟨?_,rfl,by simp [qx,W.names,WS.names]⟩;simp only [qx,h0,h1];exact .vw lo hi (by rw [hF g' (by simp [WS.names]),hc];rfl)
   .cases h
  |_=>simp [LD] at h
 |ep g' off=>
  cases x with
  |ep g q off'=>
   simp only [LD] at h;split at h
   .rename_i hc;simp only [Q0] at h;subst h;obtain ⟨hc,rfl⟩:=hc;refine ⟨?_,rfl,by simp [qx,W.names,WS.names]⟩;simp only [qx,ha.head];exact .ep q off (by rw [hF g' (by simp [WS.names]),hc];rfl)
   .cases h
  |_=>simp [LD] at h
theorem O4 :∀{ks:List WS} {xs:List W} {us:List P} {n:Nat},(∀k∈ks,∀g∈k.names,F g=(m.lookup g).join)->(∀k∈ks,∀g∈k.names,m.lookup g=some none->nil g)->LZ m ks xs=some us->At vs n us->
  xs.length=(lu vs n ks).1.length/\(∀(j:Nat) x y,xs[j]?=some x->(lu vs n ks).1[j]?=some y->Ww Cle F nil x y)/\(lu vs n ks).2=n+us.length/\(lu vs n ks).1.flatMap W.names=ks.flatMap WS.names
 | [],xs,us,n,hF,hn,h,ha=>by
  cases xs with
  |nil=>simp [LZ] at h;subst h;exact ⟨rfl,λj x y hx=>by simp at hx,rfl,rfl⟩
  |cons x xs=>simp [LZ] at h
 |k::ks,xs,us,n,hF,hn,h,ha=>by
  cases xs with
  |nil=>simp [LZ] at h
  |cons x xs=>
   simp only [LZ] at h;split at h
   .rename_i u v hu hv;simp only [Q0] at h;subst h;obtain ⟨a1,a2,a3⟩:=acK (hF k (by simp)) (hn k (by simp)) hu ha.left;have ih:=O4 (n:=n+u.length) (λk hk=>hF k (by simp [hk])) (λk hk=>hn k (by simp [hk])) hv ha.right;simp only [lu,a2];refine ⟨by simp [ih.1],λj x' y' hx hy=>?_,by rw [ih.2.2.1];simp;omega,by simp [a3,ih.2.2.2]⟩;cases j with
    |zero=>simp at hx hy;subst hx hy;exact a1
    |succ j=>simp at hx hy;exact ih.2.1 j x' y' hx hy
   .cases h
theorem ake{k:SS}{x:S}{us:List P}{n:Nat}(hF :∀g∈k.names,F g=(m.lookup g).join)(hnil :∀g∈k.names,m.lookup g=some none->nil g)(h:coS m k x=some us)(ha:At vs n us) :
  Sw Cle F nil x (mkS vs n k).1/\(mkS vs n k).2=n+us.length/\(mkS vs n k).1.names=k.names:=by
 cases k with
 |one k=>
  cases x with
  |v x=>
   cases x with
   |one x=>
    obtain ⟨a1,a2,a3⟩:=acK hF hnil h ha;exact ⟨.v (.one a1),a2,by simpa [mkS,S.names,V.names,SS.names] using a3⟩
   |agg xs=>simp [coS] at h
  |_=>simp [coS] at h
 |agg ks=>
  cases x with
  |v x=>
   cases x with
   |one x=>simp [coS] at h
   |agg xs=>
    obtain ⟨a0,a1,a2,a3⟩:=O4 (λk hk g hg=>hF g (by simp only [SS.names,YY];exact ⟨k,hk,hg⟩)) (λk hk g hg=>hnil g (by simp only [SS.names,YY];exact ⟨k,hk,hg⟩)) h ha;exact ⟨.v (.agg _ _ a0 a1),a2,by simpa [mkS,S.names,V.names,SS.names] using a3⟩
  |_=>simp [coS] at h
theorem Jc{s:Nat->S} :∀{L:List (Nat×SS)} {us:List P} {n:Nat},(∀p∈L,∀g∈p.2.names,F g=(m.lookup g).join)->(∀p∈L,∀g∈p.2.names,m.lookup g=some none->nil g)->rU m s L=some us->At vs n us->
  (∀t x,(dI vs n L).1.lookup t=some x->Sw Cle F nil (s t) x/\∀g∈x.names,∃p∈L,g∈p.2.names)/\(dI vs n L).2=n+us.length
 | [],us,n,hF,hn,h,ha=>by simp [rU] at h;subst h;exact ⟨λt x hx=>by simp [dI] at hx,rfl⟩
 |(t0,k)::L,us,n,hF,hn,h,ha=>by
  simp only [rU] at h;split at h
  .rename_i u v hu hv;simp only [Q0] at h;subst h;obtain ⟨a1,a2,a3⟩:=ake (hF (t0,k) (by simp)) (hn (t0,k) (by simp)) hu ha.left;have ih:=Jc (n:=n+u.length) (λp hp=>hF p (by simp [hp])) (λp hp=>hn p (by simp [hp])) hv ha.right;simp only [dI,a2];refine ⟨λt x hx=>?_,by rw [ih.2];simp;omega⟩;simp only [List.lookup] at hx;split at hx
   .rename_i he;have he:t=t0:=by simpa using he
    subst he;simp only [Q0] at hx;subst hx;exact ⟨a1,λg hg=>⟨(t,k),by simp,by rw [a3] at hg;exact hg⟩⟩
   .obtain ⟨b1,b2⟩:=ih.1 t x hx;exact ⟨b1,λg hg=>let ⟨p,hp,hg⟩:=b2 g hg;⟨p,by simp [hp],hg⟩⟩
  .cases h
theorem akf{k:OS}{x:O}{us:List P}{n:Nat}(hF :∀g∈k.names,F g=(m.lookup g).join)(hnil :∀g∈k.names,m.lookup g=some none->nil g)(h:coO m k x=some us)(ha:At vs n us) :
  Ow Cle F nil x (ug vs n k).1/\(ug vs n k).2=n+us.length/\(ug vs n k).1.names=k.names:=by
 cases k with
 |box ks=>
  cases x with
  |box xs=>
   obtain ⟨a0,a1,a2,a3⟩:=O4 (λk hk g hg=>hF g (by simp only [OS.names,YY];exact ⟨k,hk,hg⟩)) (λk hk g hg=>hnil g (by simp only [OS.names,YY];exact ⟨k,hk,hg⟩)) h ha;exact ⟨.box _ _ a0 a1,a2,by simpa [ug,O.names,OS.names] using a3⟩
  |_=>simp [coO] at h
 |arr fz a i sz=>
  cases x with
  |arr fz' a' i' sz' l=>
   simp only [coO] at h;split at h
   .rename_i hc;simp only [Q0] at h;subst h;obtain ⟨rfl,rfl,hc⟩:=hc;simp only [Qf] at hc;refine ⟨?_,rfl,rfl⟩;simp only [ug,ha.head,P.oq];exact .arr fz sz l ⟨uh hc.1,uh hc.2⟩
   .cases h
  |_=>simp [coO] at h
 |it=>
  cases x with
  |it s p=>
   simp only [coO,Q0] at h;subst h;refine ⟨?_,rfl,rfl⟩;have h0:vs.getD n default=s:=At.head (At.left (us1:=[s]) (us2:=[p]) ha);have h1:vs.getD (n+1) default=p:=At.head (At.right (us1:=[s]) (us2:=[p]) ha);simp only [ug,h0,h1];exact .it s p
  |_=>simp [coO] at h
 |aN a i sz ak=>
  cases x with
  |aN a' i' sz' iE l hole=>
   cases hole with
   |some q=>simp [coO] at h
   |none=>
    simp only [coO] at h;split at h
    .rename_i hc;simp only [Q0] at h;subst h;obtain ⟨rfl,rfl,hc⟩:=hc;simp only [Qf] at hc;refine ⟨?_,rfl,rfl⟩;simp only [ug,ha.head,P.oq];exact .aN sz ak l ⟨uh hc.1,uh hc.2⟩
    .cases h
  |_=>simp [coO] at h
end
theorem jF :∀{l:List Nat},nodupB l=true->l.Nodup
 | [],_=>List.nodup_nil
 |x::l,h=>by
  simp only [nodupB,Qf,Wg,Wm,decide_eq_false_iff_not] at h;exact UV.2 ⟨h.1,jF h.2⟩
theorem MZ{vs:List P}{m:Ren}{F:Nat->Option Nat}{nil:Nat->Prop}{o:Nat->O} :∀{L:List (Nat×OS)} {us:List P} {n:Nat},(∀p∈L,∀g∈p.2.names,F g=(m.lookup g).join)->(∀p∈L,∀g∈p.2.names,m.lookup g=some none->nil g)->
  (L.map (·.1)).Nodup->vY m o L=some us->At vs n us->
  (∀g' x,(gV vs n L).1.lookup g'=some x->(g'∈L.map (·.1))/\(∀g∈x.names,∃p∈L,g∈p.2.names)/\((∃g,m.lookup g'=some (some g)/\Ow Cle F nil (o g) x)\/(m.lookup g'=some none/\x.nilA)))/\
  (∀g'∈L.map (·.1),∃x,(gV vs n L).1.lookup g'=some x)
 | [],us,n,hF,hn,hd,h,ha=>⟨λg x hx=>by simp [gV] at hx,λg hg=>by simp at hg⟩
 |(g0,k)::L,us,n,hF,hn,hd,h,ha=>by
  simp only [vY] at h;split at h
  .rename_i u v hu hv;simp only [Q0] at h;subst h;simp only [Q6,UV] at hd;have key:(ug vs n k).2=n+u.length/\(ug vs n k).1.names=k.names/\((∃g,m.lookup g0=some (some g)/\Ow Cle F nil (o g) (ug vs n k).1)\/(m.lookup g0=some none/\(ug vs n k).1.nilA)):=by
    split at hu
    .rename_i g hg;obtain ⟨a1,a2,a3⟩:=akf (hF (g0,k) (by simp)) (hn (g0,k) (by simp)) hu ha.left;exact ⟨a2,a3,.inl ⟨g,hg,a1⟩⟩
    .rename_i hg;split at hu
     .rename_i a i sz;simp only [Q0] at hu;subst hu;refine ⟨rfl,rfl,.inr ⟨hg,.inl ⟨a,i,sz,?_⟩⟩⟩;simp only [ug,ha.left.head];rfl
     .rename_i a i sz ak;simp only [Q0] at hu;subst hu;refine ⟨rfl,rfl,.inr ⟨hg,.inr ⟨a,i,sz,ak,?_⟩⟩⟩;simp only [ug,ha.left.head];rfl
     .cases hu
    .cases hu
   obtain ⟨a2,a3,a1⟩:=key;have ih:=MZ (n:=n+u.length) (λp hp=>hF p (by simp [hp])) (λp hp=>hn p (by simp [hp])) hd.2 hv ha.right;simp only [gV,a2];refine ⟨λg' x hx=>?_,λg' hg'=>?_⟩
   .simp only [List.lookup] at hx;split at hx
    .rename_i he;have he:g'=g0:=by simpa using he
     subst he;simp only [Q0] at hx;subst hx;exact ⟨by simp,λg hg=>⟨(g',k),by simp,by rw [a3] at hg;exact hg⟩,a1⟩
    .obtain ⟨b0,b1,b2⟩:=ih.1 g' x hx;exact ⟨by simp [b0],λg hg=>let ⟨p,hp,hg⟩:=b1 g hg;⟨p,by simp [hp],hg⟩,b2⟩
   .simp only [List.lookup];by_cases he:g'=g0
    .subst he;simp
    .have:(g'==g0)=false:=by simpa using he
     rw [this];exact ih.2 g' (by simpa [he] using hg')
  .cases h
theorem zT{f:Nat->Option Nat}{g1 g2 g:Nat} :∀{L:List Nat},L.Nodup->(L.filterMap f).Nodup->g1∈L->g2∈L->f g1=some g->f g2=some g->g1=g2
 | [],_,_,n1,_,_,_=>by cases n1
 |y::L,hnd,iP,n1,n2,m1,m2=>by
  simp only [UV] at hnd;simp only [List.filterMap_cons] at iP;have hsub :∀{z},z∈L->f z=some g->g∈L.filterMap f:=λhz he=>Ki.2 ⟨_,hz,he⟩;rcases QQ.1 n1 with e1 | e1<;>rcases QQ.1 n2 with e2 | e2
  .rw [e1,e2]
  .subst e1;rw [m1] at iP;simp only [UV] at iP;exact absurd (hsub e2 m2) iP.1
  .subst e2;rw [m2] at iP;simp only [UV] at iP;exact absurd (hsub e1 m1) iP.1
  .refine zT hnd.2 ?_ e1 e2 m1 m2;split at iP
   .exact iP
   .exact (UV.1 iP).2
theorem zU{j:Shape}{m:Ren}{st:St}{vs:List P}(h:coerce j m st=some vs):tu Cle (Jb j m) st (mk j vs):=by
 unfold coerce at h;split at h
 .rename_i hok;split at h
  .rename_i u v hu hv;simp only [Q0] at h;subst h;simp only [Qf,Shape.ok,Z0,Wm,decide_eq_true_eq] at hok;obtain ⟨⟨⟨hnd,hsl⟩,hob⟩,iP⟩:=hok;have hnd':=jF hnd;have hAt:At (u++v) 0 (u++v):=λk y hk=>by rw [Wo];exact hk
   have hF :∀g∈j.nms,Jb j m g=(m.lookup g).join:=λg hg=>by simp [Jb,hg]
   have D9:=λnil (hnil :∀p∈j.aZ,∀g∈p.2.names,m.lookup g=some none->nil g)=>MZ (vs:=u++v) (F:=Jb j m) (nil:=nil) (n:=u.length) (λp hp g hg=>hF g (hob p hp g hg)) hnil hnd' hv (by
    have:=hAt.right;rwa [Wo] at this)
   have qM:=λnil (hnil :∀p∈j.slots,∀g∈p.2.names,m.lookup g=some none->nil g)=>Jc (vs:=u++v) (F:=Jb j m) (nil:=nil) (n:=0) (λp hp g hg=>hF g (hsl p hp g hg)) hnil hu hAt.left;have hlen:(dI (u++v) 0 j.slots).2=u.length:=by have:=(qM (λ_=>True) (λ_ _ _ _ _=>trivial)).2;omega
   have hnil :∀g∈j.nms,m.lookup g=some none->((mk j (u++v)).o g).nilA:=by
    intro g hg hm;have hO:=D9 (λ_=>True) (λ_ _ _ _ _=>trivial);obtain ⟨x,hx⟩:=hO.2 g hg;rcases (hO.1 g x hx).2.2 with ⟨g2,h2,_⟩ | ⟨_,e⟩
    .rw [hm] at h2;cases h2
    .show O.nilA (match (gV (u++v) (dI (u++v) 0 j.slots).2 j.aZ).1.lookup g with | some x=>x | none=>.none);rw [hlen,hx];exact e
   have hO:=D9 (λg=>((mk j (u++v)).o g).nilA) (λp hp g hg hm=>hnil g (hob p hp g hg) hm);have hS:=qM (λg=>((mk j (u++v)).o g).nilA) (λp hp g hg hm=>hnil g (hsl p hp g hg) hm);have Ai :∀g x,(mk j (u++v)).o g=x->x≠.none->(gV (u++v) u.length j.aZ).1.lookup g=some x:=by
    intro g x hx hne;have hx:(match (gV (u++v) (dI (u++v) 0 j.slots).2 j.aZ).1.lookup g with | some x=>x | none=>.none)=x:=hx;rw [hlen] at hx;cases hz:(gV (u++v) u.length j.aZ).1.lookup g with
    |none=>rw [hz] at hx;exact absurd hx.symm hne
    |some y=>rw [hz] at hx;rw [<-hx]
   refine ⟨λt=>?_,λg' g hm=>?_,λg' hm=>?_,λg1 g2 g h1 h2 m1 m2=>?_,λt g hg=>?_,λg0 g hg=>?_,λg hg=>?_⟩
   .show Sw _ _ _ (st.s t) (match (dI (u++v) 0 j.slots).1.lookup t with | some x=>x | none=>.no);cases hx:(dI (u++v) 0 j.slots).1.lookup t with
    |none=>exact .no _
    |some x=>exact (hS.1 t x hx).1
   .by_cases hne:(mk j (u++v)).o g'=.none
    .rw [hne];exact .none _
    .have hx:=Ai g' _ rfl hne;obtain ⟨b0,b1,b2⟩:=hO.1 g' _ hx;rw [hF g' b0] at hm;rcases b2 with ⟨g3,h3,h4⟩ | ⟨h3,_⟩
     .rw [h3] at hm;cases hm;exact h4
     .rw [h3] at hm;cases hm
   .by_cases hne:(mk j (u++v)).o g'=.none
    .exact .inl hne
    .have hx:=Ai g' _ rfl hne;obtain ⟨b0,b1,b2⟩:=hO.1 g' _ hx;rw [hF g' b0] at hm;rcases b2 with ⟨g3,h3,h4⟩ | ⟨h3,e⟩
     .rw [h3] at hm;cases hm
     .exact .inr e
   .have n1:g1∈j.nms:=by have:=hO.1 g1 _ (Ai g1 _ rfl (by intro e;rw [e] at h1;cases h1));exact this.1
    have n2:g2∈j.nms:=by have:=hO.1 g2 _ (Ai g2 _ rfl (by intro e;rw [e] at h2;cases h2));exact this.1
    rw [hF g1 n1] at m1;rw [hF g2 n2] at m2;exact zT hnd' (jF iP) n1 n2 m1 m2
   .have hg:g∈(match (dI (u++v) 0 j.slots).1.lookup t with | some x=>x | none=>S.no).names:=hg;cases hx:(dI (u++v) 0 j.slots).1.lookup t with
    |none=>rw [hx] at hg;simp [S.names] at hg
    |some x=>
     rw [hx] at hg;obtain ⟨p,hp,hg⟩:=(hS.1 t x hx).2 g hg;simpa [mk] using hsl p hp g hg
   .by_cases hne:(mk j (u++v)).o g0=.none
    .rw [hne] at hg;simp [O.names] at hg
    .obtain ⟨b0,b1,b2⟩:=hO.1 g0 _ (Ai g0 _ rfl hne);obtain ⟨p,hp,hg⟩:=b1 g hg;simpa [mk] using hob p hp g hg
   .have:=(hO.1 g _ (Ai g _ rfl hg)).1;simpa [mk,Shape.nms] using this
  .cases h
 .cases h
end Go.Fw

namespace Go.Fw
variable [eY]
structure zV where
 bn:Nat
 pin:Shape
 aT:Shape
 dD:Nat
 bg:List Nat
 aW:List Nat
structure Spec where
 sig:zV
 R:List P->List P->Prop
abbrev Tab:=FuncId->Option Spec
def xC(x y:Bool×Bool):Bool×Bool:=(x.1||y.1,x.2||y.2)
def O5(xs ys:List Nat):Bool:=xs.all λx=>!ys.contains x
def WS.flags(a i:Bool):WS->Bool
 |.p a' i'=>(a==a')&&(i==i')
 |.own _=>true
 |.box _ off=>off==0
 |.dw=>false
 |.fn _ _=>true
 |.nJ _=>false
 |.no=>false
 |.vw _=>false
 |.ep _ _=>false
def SS.flags(a i:Bool):SS->Bool
 |.one x=>x.flags a i
 |.agg xs=>xs.all (WS.flags a i)
def WS.dG(aW:List Nat):WS->Bool
 |.p _ _=>true
 |.own g=>aW.contains g
 |.box g _=>aW.contains g
 |.dw=>true
 |.fn _ gs=>gs.all λg=>aW.contains g
 |_=>false
def SS.dG(aW:List Nat):SS->Bool
 |.one x=>x.dG aW
 |.agg xs=>xs.all (WS.dG aW)
def WS.isA:WS->Bool
 |.p a _=>a
 |_=>false
def SS.isA:SS->Bool
 |.one x=>x.isA
 |.agg xs=>xs.any WS.isA
def OS.isA:OS->Bool
 |.box ws=>ws.any WS.isA
 |.arr _ a _ _=>a
 |.it=>false
 |.aN a _ _ _=>a
def zV.mM(s:zV):Bool:=s.aT.slots.any (·.2.isA)||s.aT.aZ.any (·.2.isA)
def OS.kin:Option OS->Option OS->Bool
 |some (.box _),some (.box _)=>true
 |some (.arr _ _ _ sz),some (.arr _ _ _ sz')=>Nat.beq sz sz'
 |some (.aN _ _ sz _),some (.aN _ _ sz' _)=>Nat.beq sz sz'
 |_,_=>false
def OS.acL:Option OS->Bool
 |some (.box _)=>true
 |_=>false
def zV.ok(s:zV):Bool:=
 s.pin.ok&&s.aT.ok&&s.pin.slots.all (λp=>p.2.flags true false&&decide (p.1<s.bn)) &&
 s.pin.aZ.all (λp=>match p.2 with
  |.box ws=>ws.all (λk=>k.flags false true)&&s.bg.contains p.1
  |.arr fz a i _=>!fz&&!a&&i
  |.aN a i _ _=>!a&&i
  |.it=>false) &&
 s.aT.slots.all (λp=>p.2.dG (s.aW++s.bg)) &&
 s.aT.aZ.all (λp=>match p.2 with
  |.box ws=>ws.all (WS.dG (s.aW++s.bg))&&((s.bg.contains p.1&&s.pin.nms.contains p.1)||s.aW.contains p.1)
  |.arr fz _ _ _=>!fz&&(s.aW.contains p.1||s.bg.contains p.1)
  |.aN _ _ _ _=>s.aW.contains p.1||s.bg.contains p.1
  |.it=>false) &&
 O5 s.bg s.aW&&nodupB s.aW&&s.bg.all (λg=>OS.kin (s.pin.aZ.lookup g) (s.aT.aZ.lookup g))
def zV.akg(s:zV):Bool:=s.bg.all λg=>OS.acL (s.pin.aZ.lookup g)&&OS.acL (s.aT.aZ.lookup g)
structure M_ where
 ins:List P
 A:Bool×Bool
 I:Bool×Bool
 vF:List Nat
 ren:List (Nat×Nat)
def nP:List Nat->List W->Option (List (Nat×Nat))
 | [],[]=>some []
 |g'::gs,.box g 0::cs=>match nP gs cs with
  |some r=>some ((g',g)::r)
  |none=>none
 |_,_=>none
def fM(o:Nat->O):WS->W->Option (List P×(Bool×Bool)×List Nat×List (Nat×Nat))
 |.p _ _,x=>match x.toP o with
  |some (y,a,i,gs)=>some ([y],(a,i),gs,[])
  |none=>none
 |.own g',.own g=>some ([],(false,false),[],[(g',g)])
 |.box g' 0,.box g 0=>some ([],(false,false),[],[(g',g)])
 |.fn f gs,.clo f' caps=>if f=f' then match nP gs caps with
  |some r=>some ([],(false,false),[],r)
  |none=>none
  else none
 |_,_=>none
def jP(o:Nat->O):List WS->List W->Option (List P×(Bool×Bool)×List Nat×List (Nat×Nat))
 | [],[]=>some ([],(false,false),[],[])
 |k::ks,x::xs=>match fM o k x,jP o ks xs with
  |some (u,c,g,r),some (u',c',g',r')=>some (u++u',xC c c',g++g',r++r')
  |_,_=>none
 |_,_=>none
def oG(o:Nat->O):SS->S->Option (List P×(Bool×Bool)×List Nat×List (Nat×Nat))
 |.one k,.v (.one x)=>fM o k x
 |.agg ks,.v (.agg xs)=>jP o ks xs
 |_,_=>none
def fA(o:Nat->O)(args:List S):List (Nat×SS)->Option (List P×(Bool×Bool)×List Nat×List (Nat×Nat))
 | []=>some ([],(false,false),[],[])
 |(t,k)::rest=>match oG o k (args.getD t .no),fA o args rest with
  |some (u,c,g,r),some (u',c',g',r')=>some (u++u',xC c c',g++g',r++r')
  |_,_=>none
def Vr:WS->W->Option (List P×(Bool×Bool)×List (Nat×Nat))
 |.p _ _,.p a i x=>some ([x],(a,i),[])
 |.p _ _,.dw=>some ([.sl 0 []],(false,false),[])
 |.own g',.own g=>some ([],(false,false),[(g',g)])
 |.box g' 0,.box g 0=>some ([],(false,false),[(g',g)])
 |.fn f gs,.clo f' caps=>if f=f' then match nP gs caps with
  |some r=>some ([],(false,false),r)
  |none=>none
  else none
 |_,_=>none
def O6:List WS->List W->Option (List P×(Bool×Bool)×List (Nat×Nat))
 | [],[]=>some ([],(false,false),[])
 |k::ks,x::xs=>match Vr k x,O6 ks xs with
  |some (u,c,r),some (u',c',r')=>some (u++u',xC c c',r++r')
  |_,_=>none
 |_,_=>none
def jL(o:Nat->O):List (Nat×Nat)->List (Nat×OS)->Option (List P×(Bool×Bool)×List (Nat×Nat))
 |ren,[]=>some ([],(false,false),ren)
 |ren,(g',k)::rest=>match ren.lookup g' with
  |some g=>match k,o g with
   |.box ks,.box ws=>match O6 ks ws with
    |some (u,c,r)=>match jL o (ren++r) rest with
     |some (u',c',r')=>some (u++u',xC c c',r')
     |none=>none
    |none=>none
   |.arr _ _ _ sz,.arr false a i sz' l=>if sz=sz' then match jL o ren rest with
    |some (u',c',r')=>some (P.fU sz l::u',xC (a,i) c',r')
    |none=>none
    else none
   |.aN _ _ sz ak,.aN a i sz' iE l Option.none=>if sz=sz'/\ak=iE then match jL o ren rest with
    |some (u',c',r')=>some (P.fU sz l::u',xC (a,i) c',r')
    |none=>none
    else none
   |_,_=>none
  |none=>none
def j_:List (Nat×Nat)->List (Nat×Nat)
 | []=>[]
 |p::r=>match r.any λq=>Nat.beq q.1 p.1&&Nat.beq q.2 p.2 with
  |true=>j_ r
  |false=>p::j_ r
def iT(s:zV)(o:Nat->O)(args:List S):Option M_:=
 match fA o args s.pin.slots with
 |some (u,A,gs,r)=>match jL o r s.pin.aZ with
  |some (u',I,r')=>some { ins:=u++u',A,I,vF:=gs,ren:=j_ r' }
  |none=>none
 |none=>none
def M_.fine(c:M_)(s:zV):Bool:=nodupB (c.ren.map (·.2))&&nodupB (c.ren.map (·.1))&&O5 (c.ren.map (·.2)) c.vF&&(c.ren.map (·.1)).all (λg=>s.pin.nms.contains g)
def qN(A I:Bool×Bool)(a i:Bool):Bool×Bool:=((a&&A.1)||(i&&I.1),(a&&A.2)||(i&&I.2))
def kU(f:Nat->Nat):List W->List W
 | []=>[]
 |.box g off::r=>.box (f g) off::kU f r
 |_::r=>.no::kU f r
def Vs(A I:Bool×Bool)(f:Nat->Nat):W->W
 |.p a i x=>.p (qN A I a i).1 (qN A I a i).2 x
 |.dw=>.dw
 |.own g=>.own (f g)
 |.box g off=>.box (f g) off
 |.clo fn caps=>.clo fn (kU f caps)
 |_=>.no
def reV(A I:Bool×Bool)(f:Nat->Nat):V->V
 |.one x=>.one (Vs A I f x)
 |.agg xs=>.agg (xs.map (Vs A I f))
def X0(A I:Bool×Bool)(f:Nat->Nat):S->V
 |.v x=>reV A I f x
 |_=>.one .no
def xE(A I:Bool×Bool)(f:Nat->Nat):O->O
 |.none=>.none
 |.box ws=>.box (ws.map (Vs A I f))
 |.arr fz a i sz l=>.arr fz (qN A I a i).1 (qN A I a i).2 sz l
 |.it s n=>.it s n
 |.aN a i sz ak l _=>.aN (qN A I a i).1 (qN A I a i).2 sz ak l Option.none
def newName(d:Nat)(aW:List Nat)(g:Nat):Nat:=d+1000*aW.idxOf g
def callName(d:Nat)(s:zV)(ren:List (Nat×Nat))(g:Nat):Nat:=match s.bg.contains g with
 |true=>match ren.lookup g with
  |some g'=>g'
  |none=>g
 |false=>newName d s.aW g
structure Eff where
 x:S
 aJ:List (Nat×O)
 new:List Nat
def aal(vs:List V):S:=match vs with
 | [x]=>.v x
 |xs=>.jD xs
def kV(s:zV)(d:Nat)(o:Nat->O)(c:M_)(dG:List P):Eff:=
 let x:=mk s.aT dG
 let f:=callName d s c.ren
 { x:=aal ((List.range s.dD).map λk=>X0 c.A c.I f (x.s k)),aJ:=(if s.mM then c.vF.map (aU o) else [])++c.ren.map (λp=>(p.2,if s.bg.contains p.1 then xE c.A c.I f (x.o p.1) else .none))++s.aW.map (λg=>(f g,xE c.A c.I f (x.o g))),new:=s.aW.map f }
def Ce(same:List Nat)(e:Eff):Eff:={ e with aJ:=e.aJ.filter λp=>!same.contains p.1 }
theorem tH{α:Type}{same:List Nat}{g:Nat}(hg:g∉same) :∀(l:List (Nat×α)),(l.filter λp=>!same.contains p.1).lookup g=l.lookup g
 | []=>rfl
 |(k,x)::l=>by
  simp only [vm];cases hk:same.contains k with
  |true=>
   have:(g==k)=false:=by
    cases hb:g==k with
    |false=>rfl
    |true=>
     have:g=k:=by simpa using hb
     subst this;simp only [Wm,decide_eq_true_eq] at hk;exact absurd hk hg
   simp only [Bool.not_true,W4,if_false,List.lookup,this];exact tH hg l
  |false=>
   simp only [vh,if_true,List.lookup];rw [tH hg l]
theorem mZ{α:Type}{same:List Nat}{g:Nat}(hg:g∈same) :∀(l:List (Nat×α)),(l.filter λp=>!same.contains p.1).lookup g=none
 | []=>rfl
 |(k,x)::l=>by
  simp only [vm];cases hk:same.contains k with
  |true=>
   simp only [Bool.not_true,W4,if_false];exact mZ hg l
  |false=>
   have:(g==k)=false:=by
    cases hb:g==k with
    |false=>rfl
    |true=>
     have:g=k:=by simpa using hb
     subst this;simp only [Wm,decide_eq_false_iff_not] at hk;exact absurd hg hk
   simp only [vh,if_true,List.lookup,this];exact mZ hg l
theorem aam{st:St}{same:List Nat}{e:Eff}(h :∀g∈same,e.aJ.lookup g=some (st.o g)):st.aJ (Ce same e).aJ (Ce same e).new=st.aJ e.aJ e.new:=by
 unfold St.aJ Ce;congr 1;funext g;by_cases hg:g∈same
 .simp only [mZ hg,h g hg]
 .simp only [tH hg]
inductive L6(x:P)(K:P->Prop):Prop where
 |mk (h :∀z,z=x->K z)
theorem L6.iff{x:P}{K:P->Prop}:L6 x K↔K x:=⟨λ⟨h⟩=>h x rfl,λh=>⟨λz e=>e▸h⟩⟩
def FU:Op->Bool
 |.pick .. | .binOp .. | .unOp .. | .convert .. | .index .. | .call .. | .makeSlice .. | .store .. | .buildSlice .. | .slice .. => true
 |_=>false
def guardOf(ops:Array Oper)(st:St)(j:Nat)(want:Bool):Option Bool:=
 match (ops[j]?).bind (·.dst) with
 |some t=>match st.s t with
  |.v (.one (.p _ _ (.bool b)))=>some (bif want then b else !b)
  |.jD []=>some false
  |_=>none
 |none=>none
def Eff.skip:Eff:={ x:=.jD [],aJ:=[],new:=[] }
def amW:S->Option Nat
 |.v (.one (.clo g _))=>some g
 |_=>none
def X3:List S->Option Nat
 | []=>none
 |x::l=>match amW x with
  |some g=>some g
  |none=>X3 l
def RJ(fn:Nat)(l:List S):Nat:=match X3 l with
 |some g=>fn+1000000*(g+1)
 |none=>fn
def pick(T:Tab)(fn:Nat)(l:List S):Option Spec:=match Nat.blt fn 1000000 with
 |true=>match T (RJ fn l) with
  |some sp=>some sp
  |none=>T fn
 |false=>none
theorem agu{T:Tab}{fn:Nat}{l:List S}{sp:Spec}{p:Nat->Spec->Prop}(hT :∀f sp,T f=some sp->p (f % 1000000) sp)(h:pick T fn l=some sp):p fn sp:=by
 unfold pick at h;split at h
 .rename_i hb;have hlt:fn<1000000:=W3 hb;split at h
  .rename_i sp' h';cases h;have:=hT _ _ h';have e:RJ fn l % 1000000=fn:=by unfold RJ;split<;>omega
   rwa [e] at this
  .have:=hT _ _ h
   rwa [Ke hlt] at this
 .cases h
def kJ(T:Tab)(tt:TT)(d:Nat)(st:St)(o:Oper)(K:Eff->Prop):Prop:=
 match o.op with
 |.call { callee:=.value f,args,.. }=>match st.dh f with
  |.v (.one (.clo fn caps))=>match pick T fn (args.toList.map st.dh) with
   |some sp=>match iT sp.sig st.o ((args.toList.map st.dh)++caps.map λx=>S.v (.one x)) with
    |some c=>(c.fine sp.sig&&decide (args.size+caps.length=sp.sig.bn))=true/\∃(dG:List P) (same:List Nat),sp.R c.ins dG/\(∀g∈same,g∈c.ren.map (·.2)/\(kV sp.sig d st.o c dG).aJ.lookup g=some (st.o g))/\K (Ce same (kV sp.sig d st.o c dG))
    |none=>False
   |none=>False
  |_=>False
 |op=>(∃dc r,dN tt dc d st.o st.dh op o.type=some r/\r.pre/\L6 r.val λz=>K { x:=r.dst z,aJ:=r.aJ z,new:=r.new })\/match kernel tt d st.o st.dh op o.type with
  |some r=>r.pre/\bif FU op then L6 r.val λz=>K { x:=r.dst z,aJ:=r.aJ z,new:=r.new } else K { x:=r.dst r.val,aJ:=r.aJ r.val,new:=r.new }
  |none=>False
def xY:O->List Nat
 |.box ws=>ws.flatMap W.names
 |_=>[]
def pF(o:Nat->O):Nat->List Nat->List Nat
 |0,gs=>gs
 |n+1,gs=>gs++pF o n (gs.flatMap λg=>xY (o g))
def argNames(st:St)(o:Oper):List Nat:=match o.op with
 |.call { callee:=.value _,args,.. }=>args.toList.flatMap λx=>(st.dh x).names
 |.slice _ x _ _ _=>(st.dh x).names
 |_=>[]
def tJ(st:St)(o:Oper):List Nat:=pF st.o 2 (argNames st o)
def ji(st:St)(o:Oper):List Nat:=(tJ st o).filter λg=>match (st.o g).hn with
 | []=>false
 |d::_=>!(argNames st o).contains d
def zW(hs:List Nat)(st:St):List (Nat×O):=hs.flatMap λg=>(g,(Fw.shuts hs st).o g)::(st.o g).hn.map λd=>(d,(Fw.shuts hs st).o d)
def Ci(hs:List Nat)(st:St)(e:Eff):Eff:=match hs with
 | []=>e
 |g::gs=>{ e with aJ:=e.aJ++zW (g::gs) st }
def jk(T:Tab)(tt:TT)(d:Nat)(st:St)(o:Oper)(K:Eff->Prop):Prop:=kJ T tt d (Fw.shuts (ji st o) st) o λe=>K (Ci (ji st o) st e)
theorem rV{T:Tab}{tt:TT}{d:Nat}{st:St}{o:Oper}{K:Eff->Prop}(h:ji st o=[]):jk T tt d st o K↔kJ T tt d st o K:=by
 unfold jk;rw [h];rfl
theorem VJ{st:St}{o:Oper}(h:argNames st o=[]):ji st o=[]:=by
 unfold ji tJ;rw [h];rfl
def St.eff(st:St)(dst:Option Tmp)(e:Eff):St:=(st.aJ e.aJ e.new).put dst e.x
def stepW(T:Tab)(tt:TT)(N:Nat)(ops:Array Oper)(o:Oper)(st:St)(K:Eff->Prop):Prop:=
 (match o.dst with
  |some d=>decide (d<N)
  |none=>true)=true/\
 match o.guard with
 |none=>jk T tt (o.dst.getD 0) st o λe=>e.new.all (λg=>!st.used g)=true/\K e
 |some (j,want)=>match guardOf ops st j want with
  |some b=>bif b then jk T tt (o.dst.getD 0) st o λe=>e.new.all (λg=>!st.used g)=true/\K e else K Eff.skip
  |none=>False
end Go.Fw

namespace Go.Fw
variable [eY]
theorem mO{α:Type} :∀{l:List (Nat×α)},(l.map (·.1)).Nodup->∀{k:Nat} {v:α},(k,v)∈l->l.lookup k=some v
 | [],_,k,v,h=>by cases h
 |(k0,v0)::l,hn,k,v,h=>by
  simp only [Q6,UV] at hn;simp only [List.lookup];rcases QQ.1 h with e | e
  .cases e;simp
  .have hne:(k==k0)=false:=by
    have:k∈l.map (·.1):=QR.2 ⟨(k,v),e,rfl⟩;have:k≠k0:=λe=>hn.1 (by rw [<-e];exact this);simpa using this
   rw [hne];exact mO hn.2 e
theorem jM{α:Type} :∀{l:List (Nat×α)} {k:Nat} {v:α},l.lookup k=some v->(k,v)∈l
 | [],k,v,h=>by simp at h
 |(k0,v0)::l,k,v,h=>by
  simp only [List.lookup] at h;split at h
  .rename_i he;have he:k=k0:=by simpa using he
   simp only [Q0] at h;subst he h;simp
  .exact WD _ (jM h)
def cin(c d:Bool×Bool):Prop:=(c.1=true->d.1=true)/\(c.2=true->d.2=true)
theorem Jd(c:Bool×Bool):cin c c:=⟨id,id⟩
theorem um{c c' d:Bool×Bool}(h:cin (xC c c') d):cin c d:=⟨λe=>h.1 (by simp [xC,e]),λe=>h.2 (by simp [xC,e])⟩
theorem qy{c c' d:Bool×Bool}(h:cin (xC c c') d):cin c' d:=⟨λe=>h.1 (by simp [xC,e]),λe=>h.2 (by simp [xC,e])⟩
def Cio(I:Bool×Bool)(a i a' i':Bool):Prop:=a'=false/\i'=true/\cin (a,i) I
section
variable {o:Nat->O} {ins:List P} {m:Nat->Option Nat} {nil:Nat->Prop} {I:Bool×Bool}
theorem X4{a i:Bool}{a' i':Bool}(h:(WS.p a' i').flags a i=true):a'=a/\i'=i:=by
 simp only [WS.flags,Qf,beq_iff_eq] at h;exact ⟨h.1.symm,h.2.symm⟩
theorem Ar{C:Bool->Bool->Bool->Bool->Prop} :∀{gs:List Nat} {caps:List W} {r:List (Nat×Nat)},nP gs caps=some r->(∀p∈r,m p.1=some p.2)->caps.length=(gU gs).length/\∀(j:Nat) x y,caps[j]?=some x->(gU gs)[j]?=some y->Ww C m nil x y
 | [],[],r,_,_=>⟨rfl,λj x y hx=>by simp at hx⟩
 | [],_::_,r,h,_=>by simp [nP] at h
 |_::_,[],r,h,_=>by simp [nP] at h
 |g'::gs,c::cs,r,h,hm=>by
  cases c with
  |box g off=>
   cases off with
   |succ off=>simp [nP] at h
   |zero=>
    simp only [nP] at h;split at h
    .rename_i r' hr';simp only [Q0] at h;subst h;obtain ⟨e1,e2⟩:=Ar (C:=C) hr' (λp hp=>hm p (by simp [hp]));refine ⟨by simp [gU,e1],λj x y hx hy=>?_⟩;cases j with
     |zero=>
      simp [gU] at hx hy;subst hx hy;exact .box (hm (g',g) (by simp))
     |succ j=>simp [gU] at hx hy;exact e2 j x y hx hy
    .cases h
  |_=>simp [nP] at h
theorem aki{k:WS}{x:W}{us:List P}{c:Bool×Bool}{r:List (Nat×Nat)}{n:Nat}(h:Vr k x=some (us,c,r))(hk:k.flags false true=true)(hc:cin c I)(hm :∀p∈r,m p.1=some p.2)(ha:At ins n us) :
  Ww (Cio I) m nil x (qx ins n k).1/\(qx ins n k).2=n+us.length:=by
 cases k with
 |p a' i'=>
  obtain ⟨rfl,rfl⟩:=X4 hk;cases x with
  |p a i y=>
   simp only [Vr,Q0,Q1] at h;obtain ⟨rfl,rfl,rfl⟩:=h;exact ⟨by simp only [qx,ha.head];exact .p y ⟨rfl,rfl,hc⟩,rfl⟩
  |dw=>
   simp only [Vr,Q0,Q1] at h;obtain ⟨rfl,rfl,rfl⟩:=h;exact ⟨by simp only [qx,ha.head];exact .akd _ _ _,rfl⟩
  |_=>simp [Vr] at h
 |own g'=>
  cases x with
  |own g=>
   simp only [Vr,Q0,Q1] at h;obtain ⟨rfl,rfl,rfl⟩:=h;exact ⟨.own (hm (g',g) (by simp)),rfl⟩
  |_=>simp [Vr] at h
 |box g' off'=>
  cases x with
  |box g off=>
   cases off' with
   |succ n=>simp [Vr] at h
   |zero=>
    cases off with
    |succ n=>simp [Vr] at h
    |zero=>
     simp only [Vr,Q0,Q1] at h;obtain ⟨rfl,rfl,rfl⟩:=h;exact ⟨.box (hm (g',g) (by simp)),rfl⟩
  |_=>simp [Vr] at h
 |fn f gs=>
  cases x with
  |clo f' caps=>
   simp only [Vr] at h;split at h
   .rename_i hf;subst hf;split at h
    .rename_i r' hr';simp only [Q0,Q1] at h;obtain ⟨rfl,rfl,rfl⟩:=h;obtain ⟨e1,e2⟩:=Ar (C:=Cio I) (nil:=nil) hr' hm;exact ⟨.clo f caps (gU gs) e1 e2,rfl⟩
    .cases h
   .cases h
  |_=>simp [Vr] at h
 |_=>simp [Vr] at h
theorem X5 :∀{ks:List WS} {xs:List W} {us:List P} {c:Bool×Bool} {r:List (Nat×Nat)} {n:Nat},O6 ks xs=some (us,c,r)->(∀k∈ks,k.flags false true=true)->cin c I->(∀p∈r,m p.1=some p.2)->At ins n us->
  xs.length=(lu ins n ks).1.length/\(∀(j:Nat) x y,xs[j]?=some x->(lu ins n ks).1[j]?=some y->Ww (Cio I) m nil x y)/\(lu ins n ks).2=n+us.length
 | [],xs,us,c,r,n,h,hk,hc,hm,ha=>by
  cases xs with
  |nil=>simp [O6] at h;obtain ⟨rfl,_⟩:=h;exact ⟨rfl,λj x y hx=>by simp at hx,rfl⟩
  |cons x xs=>simp [O6] at h
 |k::ks,xs,us,c,r,n,h,hk,hc,hm,ha=>by
  cases xs with
  |nil=>simp [O6] at h
  |cons x xs=>
   simp only [O6] at h;split at h
   .rename_i u c1 r1 u' c2 r2 h1 h2;simp only [Q0,Q1] at h;obtain ⟨rfl,rfl,rfl⟩:=h;obtain ⟨a1,a2⟩:=aki (nil:=nil) h1 (hk k (by simp)) (um hc) (λp hp=>hm p (by simp [hp])) ha.left;have ih:=X5 (n:=n+u.length) h2 (λk hk'=>hk k (by simp [hk'])) (qy hc) (λp hp=>hm p (by simp [hp])) ha.right;simp only [lu,a2];refine ⟨by simp [ih.1],λj x' y' hx hy=>?_,by rw [ih.2.2];simp;omega⟩;cases j with
    |zero=>simp at hx hy;subst hx hy;exact a1
    |succ j=>simp at hx hy;exact ih.2.1 j x' y' hx hy
   .cases h
theorem uq :∀{L:List (Nat×OS)} {ren ren':List (Nat×Nat)} {us:List P} {c:Bool×Bool} {n:Nat},jL o ren L=some (us,c,ren')->
  (∀p∈L,match p.2 with | .box ws =>∀k∈ws,k.flags false true=true | .arr fz a i _=>fz=false/\a=false/\i=true | .aN a i _ _=>a=false/\i=true | .it=>False)->cin c I->(∀p∈ren',m p.1=some p.2)->At ins n us->
  (∃r,ren'=ren++r)/\∀g' x,(gV ins n L).1.lookup g'=some x->∃g,m g'=some g/\Ow (Cio I) m nil (o g) x/\(g',g)∈ren'/\(o g).bP=true/\((∃ws,x=.box ws)\/(∃l sz,x=.arr false false true sz l)\/∃l sz ak,x=.aN false true sz ak l Option.none)
 | [],ren,ren',us,c,n,h,hk,hc,hm,ha=>by
  simp only [jL,Q0,Q1] at h;obtain ⟨rfl,rfl,rfl⟩:=h;exact ⟨⟨[],by simp⟩,λg' x hx=>by simp [gV] at hx⟩
 |(g0,k)::L,ren,ren',us,c,n,h,hk,hc,hm,ha=>by
  simp only [jL] at h;split at h
  .rename_i g hg;split at h
   .rename_i ks ws hog;split at h
    .rename_i u c1 r1 h1;split at h
     .rename_i u' c2 r2 h2;simp only [Q0,Q1] at h;obtain ⟨rfl,rfl,rfl⟩:=h;have hk0:=hk (g0,.box ks) (by simp);have ih:=λhm'=>uq (n:=n+u.length) h2 (λp hp=>hk p (by simp [hp])) (qy hc) hm' ha.right;obtain ⟨⟨r,hr⟩,ih⟩:=ih hm;obtain ⟨b0,b1,b2⟩:=X5 (nil:=nil) h1 hk0 (um hc) (λp hp=>hm p (by rw [hr];simp [hp])) ha.left;simp only [gV,ug,b2];refine ⟨⟨r1++r,by rw [hr,Wb]⟩,λg' x hx=>?_⟩;simp only [List.lookup] at hx;split at hx
      .rename_i he;have he:g'=g0:=by simpa using he
       subst he;simp only [Q0] at hx;subst hx;have hmem:(g',g)∈r2:=by rw [hr,Wb];exact Zs _ (jM hg)
       exact ⟨g,hm _ hmem,by rw [hog];exact .box _ _ b0 b1,hmem,by rw [hog];rfl,.inl ⟨_,rfl⟩⟩
      .exact ih g' x hx
     .cases h
    .cases h
   .rename_i fz0 a0 i0 sz a i sz' l hog;split at h
    .rename_i hsz;split at h
     .rename_i u' c2 r2 h2;simp only [Q0,Q1] at h;obtain ⟨rfl,rfl,rfl⟩:=h;subst hsz;have hk0:=hk (g0,.arr fz0 a0 i0 sz) (by simp);obtain ⟨rfl,rfl,rfl⟩:=hk0;have hhead:At ins n [P.fU sz l]:=λk y hk=>ha k y (by cases k with | zero=>simpa using hk | succ k=>simp at hk);have htail:At ins (n+1) u':=λk y hk=>by
       have:=ha (k+1) y (by simpa using hk);rw [<-this];congr 1;omega
      obtain ⟨⟨r,hr⟩,ih⟩:=uq (n:=n+1) h2 (λp hp=>hk p (by simp [hp])) (qy hc) hm htail;simp only [gV,ug,hhead.head,P.oq];refine ⟨⟨r,hr⟩,λg' x hx=>?_⟩;simp only [List.lookup] at hx;split at hx
      .rename_i he;have he:g'=g0:=by simpa using he
       subst he;simp only [Q0] at hx;subst hx;have hmem:(g',g)∈r2:=by rw [hr];exact Zs _ (jM hg)
       exact ⟨g,hm _ hmem,by rw [hog];exact .arr false sz l ⟨rfl,rfl,um hc⟩,hmem,by rw [hog];rfl,.inr (.inl ⟨_,_,rfl⟩)⟩
      .exact ih g' x hx
     .cases h
    .cases h
   .rename_i a0 i0 sz ak a i sz' iE l hog;split at h
    .rename_i hsz;obtain ⟨rfl,rfl⟩:=hsz;split at h
     .rename_i u' c2 r2 h2;simp only [Q0,Q1] at h;obtain ⟨rfl,rfl,rfl⟩:=h;have hk0:=hk (g0,.aN a0 i0 sz ak) (by simp);obtain ⟨rfl,rfl⟩:=hk0;have hhead:At ins n [P.fU sz l]:=λk y hk=>ha k y (by cases k with | zero=>simpa using hk | succ k=>simp at hk);have htail:At ins (n+1) u':=λk y hk=>by
       have:=ha (k+1) y (by simpa using hk);rw [<-this];congr 1;omega
      obtain ⟨⟨r,hr⟩,ih⟩:=uq (n:=n+1) h2 (λp hp=>hk p (by simp [hp])) (qy hc) hm htail;simp only [gV,ug,hhead.head,P.oq];refine ⟨⟨r,hr⟩,λg' x hx=>?_⟩;simp only [List.lookup] at hx;split at hx
      .rename_i he;have he:g'=g0:=by simpa using he
       subst he;simp only [Q0] at hx;subst hx;have hmem:(g',g)∈r2:=by rw [hr];exact Zs _ (jM hg)
       exact ⟨g,hm _ hmem,by rw [hog];exact .aN sz ak l ⟨rfl,rfl,um hc⟩,hmem,by rw [hog];rfl,.inr (.inr ⟨_,_,_,rfl⟩)⟩
      .exact ih g' x hx
     .cases h
    .cases h
   .cases h
  .cases h
end
section
variable {E E':Env} {st est:St} {gh ny:Nat->Gh} {w:World} {ins:List P} {A:Bool×Bool} {vF:List Nat} {m:Nat->Option Nat} {nil:Nat->Prop} {C:Bool->Bool->Bool->Bool->Prop}
theorem RN(hP :∀x v y a i gs,fD E st gh w x v->x.toP st.o=some (y,a,i,gs)->cin (a,i) A->(∀g∈gs,g∈vF)->cO w (E'.ok est ny w true false) y v)(hC:Cast C m nil E E' st est gh ny w)
  {k:WS} {x:W} {v:Value} {us:List P} {c:Bool×Bool} {gs:List Nat} {r:List (Nat×Nat)} {n:Nat} (h:fM st.o k x=some (us,c,gs,r)) (hk:k.flags true false=true) (hc:cin c A) (hgs :∀g∈gs,g∈vF)
  (hm :∀p∈r,m p.1=some p.2) (ha:At ins n us) (hr:fD E st gh w x v):fD E' est ny w (qx ins n k).1 v/\(qx ins n k).2=n+us.length:=by
 cases k with
 |p a' i'=>
  obtain ⟨rfl,rfl⟩:=X4 hk;simp only [fM] at h;split at h
  .rename_i y a i gs' ht;simp only [Q0,Q1] at h;obtain ⟨rfl,rfl,rfl,rfl⟩:=h;exact ⟨by simp only [qx,ha.head];exact .p _ _ _ _ (hP _ _ _ _ _ _ hr ht hc hgs),rfl⟩
  .cases h
 |own g'=>
  cases x with
  |own g=>
   simp only [fM,Q0,Q1] at h;obtain ⟨rfl,rfl,rfl,rfl⟩:=h;exact ⟨hC.Ah (.own (hm (g',g) (by simp))) hr,rfl⟩
  |_=>simp [fM] at h
 |box g' off=>
  cases x with
  |box g off'=>
   cases off with
   |succ off=>simp [fM] at h
   |zero=>
    cases off' with
    |succ off'=>simp [fM] at h
    |zero=>
     simp only [fM,Q0,Q1] at h;obtain ⟨rfl,rfl,rfl,rfl⟩:=h;exact ⟨hC.Ah (.box (hm (g',g) (by simp))) hr,rfl⟩
  |_=>cases off<;>simp [fM] at h
 |fn f gs0=>
  cases x with
  |clo f' caps=>
   simp only [fM] at h;split at h
   .rename_i hf;subst hf;split at h
    .rename_i r' hr';simp only [Q0,Q1] at h;obtain ⟨rfl,rfl,rfl,rfl⟩:=h;obtain ⟨e1,e2⟩:=Ar (C:=C) (nil:=nil) hr' hm;exact ⟨hC.Ah (.clo f caps (gU gs0) e1 e2) hr,rfl⟩
    .cases h
   .cases h
  |_=>simp [fM] at h
 |_=>simp [fM] at h
theorem Na(hP :∀x v y a i gs,fD E st gh w x v->x.toP st.o=some (y,a,i,gs)->cin (a,i) A->(∀g∈gs,g∈vF)->cO w (E'.ok est ny w true false) y v)(hC:Cast C m nil E E' st est gh ny w) :
  ∀{ks:List WS} {xs:List W} {cs:List Value} {us:List P} {c:Bool×Bool} {gs:List Nat} {r:List (Nat×Nat)} {n:Nat},jP st.o ks xs=some (us,c,gs,r)->(∀k∈ks,k.flags true false=true)->cin c A->(∀g∈gs,g∈vF)->
   (∀p∈r,m p.1=some p.2)->At ins n us->xs.length=cs.length->(∀(j:Nat) x v,xs[j]?=some x->cs[j]?=some v->fD E st gh w x v)->
   (lu ins n ks).1.length=cs.length/\(∀(j:Nat) x v,(lu ins n ks).1[j]?=some x->cs[j]?=some v->fD E' est ny w x v)/\(lu ins n ks).2=n+us.length
 | [],xs,cs,us,c,gs,r,n,h,hk,hc,hgs,hm,ha,hl,hr=>by
  cases xs with
  |nil=>simp [jP] at h;obtain ⟨rfl,_⟩:=h;exact ⟨hl,λj x v hx=>by simp [lu] at hx,rfl⟩
  |cons x xs=>simp [jP] at h
 |k::ks,xs,cs,us,c,gs,r,n,h,hk,hc,hgs,hm,ha,hl,hr=>by
  cases xs with
  |nil=>simp [jP] at h
  |cons x xs=>
   cases cs with
   |nil=>simp at hl
   |cons v cs=>
    simp only [jP] at h;split at h
    .rename_i u c1 g1 r1 u' c2 g2 r2 h1 h2;simp only [Q0,Q1] at h;obtain ⟨rfl,rfl,rfl,rfl⟩:=h;obtain ⟨a1,a2⟩:=RN hP hC h1 (hk k (by simp)) (um hc) (λg hg=>hgs g (by simp [hg])) (λp hp=>hm p (by simp [hp])) ha.left (hr 0 x v rfl rfl);have ih:=Na hP hC (n:=n+u.length) h2 (λk hk'=>hk k (by simp [hk'])) (qy hc) (λg hg=>hgs g (by simp [hg])) (λp hp=>hm p (by simp [hp])) ha.right (by simpa using hl)
      (λj a b ha hb=>hr (j+1) a b (by simpa using ha) (by simpa using hb))
     simp only [lu,a2];refine ⟨by simp [ih.1],λj x' v' hx hv=>?_,by rw [ih.2.2];simp;omega⟩;cases j with
     |zero=>simp at hx hv;subst hx hv;exact a1
     |succ j=>simp at hx hv;exact ih.2.1 j x' v' hx hv
    .cases h
theorem acM(hP :∀x v y a i gs,fD E st gh w x v->x.toP st.o=some (y,a,i,gs)->cin (a,i) A->(∀g∈gs,g∈vF)->cO w (E'.ok est ny w true false) y v)(hC:Cast C m nil E E' st est gh ny w)
  {k:SS} {x:S} {v:Value} {us:List P} {c:Bool×Bool} {gs:List Nat} {r:List (Nat×Nat)} {n:Nat} (h:oG st.o k x=some (us,c,gs,r)) (hk:k.flags true false=true) (hc:cin c A) (hgs :∀g∈gs,g∈vF)
  (hm :∀p∈r,m p.1=some p.2) (ha:At ins n us) (hr:dJ E st gh w x v):dJ E' est ny w (mkS ins n k).1 v/\(mkS ins n k).2=n+us.length:=by
 cases k with
 |one k=>
  cases x with
  |v x=>
   cases x with
   |one x=>
    obtain ⟨a1,a2⟩:=RN hP hC h hk hc hgs hm ha hr.dK;exact ⟨dJ.Hw a1,a2⟩
   |agg xs=>simp [oG] at h
  |_=>simp [oG] at h
 |agg ks=>
  cases x with
  |v x=>
   cases x with
   |one x=>simp [oG] at h
   |agg xs=>
    obtain ⟨cs,hv,hl,hone,hrr⟩:=hr.Hu;simp only [SS.flags,Z0] at hk;obtain ⟨a0,a1,a2⟩:=Na hP hC h hk hc hgs hm ha hl hrr;subst hv;exact ⟨.v _ _ (.agg _ cs a0 hone a1),a2⟩
  |_=>simp [oG] at h
theorem Cj(hP :∀x v y a i gs,fD E st gh w x v->x.toP st.o=some (y,a,i,gs)->cin (a,i) A->(∀g∈gs,g∈vF)->cO w (E'.ok est ny w true false) y v)(hC:Cast C m nil E E' st est gh ny w){args:List S}{vals:Nat->Value}
  (hr :∀t,dJ E st gh w (args.getD t .no) (vals t)) :
  ∀{L:List (Nat×SS)} {us:List P} {c:Bool×Bool} {gs:List Nat} {r:List (Nat×Nat)} {n:Nat},fA st.o args L=some (us,c,gs,r)->(∀p∈L,p.2.flags true false=true)->cin c A->(∀g∈gs,g∈vF)->
   (∀p∈r,m p.1=some p.2)->At ins n us->(∀t x,(dI ins n L).1.lookup t=some x->dJ E' est ny w x (vals t))/\(dI ins n L).2=n+us.length
 | [],us,c,gs,r,n,h,hk,hc,hgs,hm,ha=>by
  simp [fA] at h;obtain ⟨rfl,_⟩:=h;exact ⟨λt x hx=>by simp [dI] at hx,rfl⟩
 |(t0,k)::L,us,c,gs,r,n,h,hk,hc,hgs,hm,ha=>by
  simp only [fA] at h;split at h
  .rename_i u c1 g1 r1 u' c2 g2 r2 h1 h2;simp only [Q0,Q1] at h;obtain ⟨rfl,rfl,rfl,rfl⟩:=h;obtain ⟨a1,a2⟩:=acM hP hC h1 (hk (t0,k) (by simp)) (um hc) (λg hg=>hgs g (by simp [hg])) (λp hp=>hm p (by simp [hp])) ha.left (hr t0);have ih:=Cj hP hC hr (n:=n+u.length) h2 (λp hp=>hk p (by simp [hp])) (qy hc) (λg hg=>hgs g (by simp [hg])) (λp hp=>hm p (by simp [hp])) ha.right;simp only [dI,a2];refine ⟨λt x hx=>?_,by rw [ih.2];simp;omega⟩;simp only [List.lookup] at hx;split at hx
   .rename_i he;have he:t=t0:=by simpa using he
    subst he;simp only [Q0] at hx;subst hx;exact a1
   .exact ih.1 t x hx
  .cases h
end
end Go.Fw

namespace Go.Fw
variable [eY]
def Enters(Pg:Program)(f:FuncId):Prop :=∀(args:Array Value) (w:World),(callFunc f args).run Pg w=.ok (.enter f args) w
def aan(rs:List Value):Value:=match rs with
 | [v]=>v
 |vs=>.tuple vs.toArray
def Sound(Pg:Program)(f:FuncId)(sp:Spec):Prop:=sp.sig.ok=true/\Enters Pg f/\
 ∀(E:Env) (w:World) (vals:List Value) (gh:Nat->Gh) (ins dG:List P),sp.R ins dG->E.B0=w.heap.size->E.w0=w->Rel E (mk sp.sig.pin ins) gh (λk=>vals.getD k undef) w->vals.length=sp.sig.bn->
  Calls Pg f vals.toArray w λe w' =>∃(rs:List Value) (bH:Nat->Gh),rs.length=sp.sig.dD/\e=.returned (aan rs)/\Rel E (mk sp.sig.aT dG) bH (λk=>rs.getD k undef) w'/\∀g∈sp.sig.bg,((bH g).ad=(gh g).ad/\(bH g).cap=(gh g).cap)/\((mk sp.sig.pin ins).o g).like ((mk sp.sig.aT dG).o g)
theorem agv{o:Nat->O}{x:W}{y:P}{a i:Bool}{gs:List Nat}(h:x.toP o=some (y,a,i,gs)):xO o gs:=by
 cases x<;>simp only [W.toP] at h
 case p=>simp only [Q0,Q1] at h;obtain ⟨_,_,_,rfl⟩:=h;exact xO.nil
 case dw=>simp only [Q0,Q1] at h;obtain ⟨_,_,_,rfl⟩:=h;exact xO.nil
 case own g=>
  split at h
  .rename_i ho;simp only [Q0,Q1] at h;obtain ⟨_,_,_,rfl⟩:=h;exact vS ho
  .cases h
 case vw g lo hi=>
  split at h
  .rename_i ho;simp only [Q0,Q1] at h;obtain ⟨_,_,_,rfl⟩:=h;exact vS ho
  .cases h
 all_goals cases h
theorem RP{o:Nat->O}{k:WS}{x:W}{us:List P}{c:Bool×Bool}{gs:List Nat}{r:List (Nat×Nat)}(h:fM o k x=some (us,c,gs,r)):xO o gs:=by
 cases k with
 |p a i=>
  simp only [fM] at h;split at h
  .rename_i ht;simp only [Q0,Q1] at h;obtain ⟨_,_,rfl,_⟩:=h;exact agv ht
  .cases h
 |own g'=>cases x<;>simp [fM] at h;obtain ⟨_,_,rfl,_⟩:=h;exact xO.nil
 |box g' off=>
  cases off with
  |succ off=>cases x<;>simp [fM] at h
  |zero=>
   cases x with
   |box g off=>cases off<;>simp [fM] at h;obtain ⟨_,_,rfl,_⟩:=h;exact xO.nil
   |_=>simp [fM] at h
 |dw=>simp [fM] at h
 |fn f gs0=>
  cases x with
  |clo f' caps=>
   simp only [fM] at h;split at h
   .split at h
    .simp only [Q0,Q1] at h;obtain ⟨_,_,rfl,_⟩:=h;exact xO.nil
    .cases h
   .cases h
  |_=>simp [fM] at h
 |nJ g'=>simp [fM] at h
 |no=>simp [fM] at h
 |vw g'=>simp [fM] at h
 |ep g' off=>simp [fM] at h
theorem Nb{o:Nat->O} :∀{ks:List WS} {xs:List W} {us:List P} {c:Bool×Bool} {gs:List Nat} {r:List (Nat×Nat)},jP o ks xs=some (us,c,gs,r)->xO o gs
 | [],xs,us,c,gs,r,h=>by
  cases xs<;>simp [jP] at h;obtain ⟨_,_,rfl,_⟩:=h;exact xO.nil
 |k::ks,xs,us,c,gs,r,h=>by
  cases xs with
  |nil=>simp [jP] at h
  |cons x xs=>
   simp only [jP] at h;split at h
   .rename_i h1 h2;simp only [Q0,Q1] at h;obtain ⟨_,_,rfl,_⟩:=h;exact (RP h1).append (Nb h2)
   .cases h
theorem wo{o:Nat->O}{args:List S} :∀{L:List (Nat×SS)} {us:List P} {c:Bool×Bool} {gs:List Nat} {r:List (Nat×Nat)},fA o args L=some (us,c,gs,r)->xO o gs
 | [],us,c,gs,r,h=>by simp [fA] at h;obtain ⟨_,_,rfl,_⟩:=h;exact xO.nil
 |(t,k)::L,us,c,gs,r,h=>by
  simp only [fA] at h;split at h
  .rename_i h1 h2;simp only [Q0,Q1] at h;obtain ⟨_,_,rfl,_⟩:=h;refine xO.append ?_ (wo h2)
   .cases k with
    |one k=>
     generalize args.getD t S.no=z at h1;cases z with
     |v z=>
      cases z with
      |one z=>exact RP h1
      |agg z=>simp [oG] at h1
     |_=>simp [oG] at h1
    |agg ks=>
     generalize args.getD t S.no=z at h1;cases z with
     |v z=>
      cases z with
      |one z=>simp [oG] at h1
      |agg z=>exact Nb h1
     |_=>simp [oG] at h1
  .cases h
theorem wu{vs:List P} :∀{L:List (Nat×OS)} {n g:Nat},g∈L.map (·.1)->∃x,(gV vs n L).1.lookup g=some x
 | [],n,g,h=>by simp at h
 |(g0,k)::L,n,g,h=>by
  simp only [gV,List.lookup];by_cases e:g=g0
  .subst e;simp
  .have:(g==g0)=false:=by simpa using e
   rw [this];exact wu (by simpa [e] using h)
theorem lC{vs:List P} :∀{L:List (Nat×OS)} {n g:Nat} {x:O},(gV vs n L).1.lookup g=some x->∃k n',(g,k)∈L/\x=(ug vs n' k).1
 | [],n,g,x,h=>by simp [gV] at h
 |(g0,k)::L,n,g,x,h=>by
  simp only [gV,List.lookup] at h;split at h
  .rename_i e;have e:g=g0:=by simpa using e
   subst e;simp only [Q0] at h;exact ⟨k,n,by simp,h.symm⟩
  .obtain ⟨k',n',h1,h2⟩:=lC h;exact ⟨k',n',by simp [h1],h2⟩
theorem xZ{vs:List P} :∀{L:List (Nat×SS)} {n t:Nat} {x:S},(dI vs n L).1.lookup t=some x->∃k n',(t,k)∈L/\x=(mkS vs n' k).1
 | [],n,t,x,h=>by simp [dI] at h
 |(t0,k)::L,n,t,x,h=>by
  simp only [dI,List.lookup] at h;split at h
  .rename_i e;have e:t=t0:=by simpa using e
   subst e;simp only [Q0] at h;exact ⟨k,n,by simp,h.symm⟩
  .obtain ⟨k',n',h1,h2⟩:=xZ h;exact ⟨k',n',by simp [h1],h2⟩
theorem Nc(vs:List P)(n:Nat)(k:WS):(qx vs n k).1.names=k.names:=by
 cases k with
 |fn f gs=>simp only [qx,uj,vZ,WS.names]
 |_=>simp [qx,W.names,WS.names]
theorem Au(vs:List P) :∀(n:Nat) (ks:List WS),(lu vs n ks).1.flatMap W.names=ks.flatMap WS.names
 |n,[]=>rfl
 |n,k::ks=>by simp [lu,Nc,Au vs _ ks]
theorem aao(vs:List P)(n:Nat)(k:SS):(mkS vs n k).1.names=k.names:=by
 cases k with
 |one k=>simpa [mkS,S.names,V.names,SS.names] using Nc vs n k
 |agg ks=>simpa [mkS,S.names,V.names,SS.names] using Au vs n ks
theorem aap(vs:List P)(n:Nat)(k:OS):(ug vs n k).1.names=k.names:=by
 cases k with
 |box ks=>simpa [ug,O.names,OS.names] using Au vs n ks
 |arr=>simp [ug,O.names,OS.names]
 |it=>simp [ug,O.names,OS.names]
 |aN=>simp [ug,O.names,OS.names,dA]
theorem VK{j:Shape}{vs:List P}{g:Nat}(h:(mk j vs).o g≠.none):(gV vs (dI vs 0 j.slots).2 j.aZ).1.lookup g=some ((mk j vs).o g):=by
 unfold mk at h ⊢;simp only at h ⊢;split at h
 .rename_i x hx;rw [hx]
 .exact absurd rfl h
theorem Nh{j:Shape}{vs:List P}{g:Nat}(h:g∉j.nms):(mk j vs).o g=.none:=by
 by_cases hn:(mk j vs).o g=.none
 .exact hn
 .obtain ⟨k,n',h1,h2⟩:=lC (VK hn);exact absurd (QR.2 ⟨_,h1,rfl⟩) h
theorem aiN{j:Shape}(hj:j.ok=true)(vs:List P):(∀t,∀g∈((mk j vs).s t).names,(mk j vs).used g=true)/\(∀g,∀g'∈((mk j vs).o g).names,(mk j vs).used g'=true)/\∀g,(mk j vs).o g≠.none->(mk j vs).used g=true:=by
 simp only [Qf,Shape.ok,Z0,Wm,decide_eq_true_eq] at hj;refine ⟨λt g hg=>?_,λg g' hg'=>?_,λg hg=>?_⟩
 .have hg:g∈(match (dI vs 0 j.slots).1.lookup t with | some x=>x | none=>S.no).names:=hg;cases hx:(dI vs 0 j.slots).1.lookup t with
  |none=>rw [hx] at hg;simp [S.names] at hg
  |some x=>
   rw [hx] at hg;obtain ⟨k,n',h1,h2⟩:=xZ hx;subst h2;simp only at hg;rw [aao] at hg;simpa [mk] using hj.1.2 _ h1 g hg
 .by_cases hn:(mk j vs).o g=.none
  .rw [hn] at hg';simp [O.names] at hg'
  .obtain ⟨k,n',h1,h2⟩:=lC (VK hn);rw [h2,aap] at hg';simpa [mk] using hj.2 _ h1 g' hg'
 .obtain ⟨k,n',h1,h2⟩:=lC (VK hg);simp only [mk,Wm,decide_eq_true_eq,Shape.nms];exact QR.2 ⟨_,h1,rfl⟩
section
variable {E:Env} {st:St} {gh:Nat->Gh} {w:World} {val:Nat->Value}
def X6(h:Rel E st gh val w)(st1:St)(c:M_):Env where
 FA:=λb=>E.ok st1 gh w c.A.1 c.A.2 b
 FI:=λb=>E.ok st gh w c.I.1 c.I.2 b
 B0:=w.heap.size
 w0:=w
 Wr:=λb =>∃p∈c.ren,(st.o p.2).bP=true/\(gh p.2).has b
 hg:=λg sz rows hg=>by
  obtain ⟨g1,g2,g3⟩:=E.hg g sz rows hg;refine ⟨WN g1 h.size,?_,λn x hx=>⟨(g3 n x hx).1,λj y hy=>?_⟩⟩
  .rintro ⟨p,hp,ho,h1⟩;rcases (h.wr p.2 g ho h1).1 with q | q
   .omega
   .exact g2 q
  .obtain ⟨u,hu1,hu2⟩:=(g3 n x hx).2 j y hy;exact ⟨u,(World.cell?_of_block (w:=E.w0) (h.frame g g1 g2)).trans hu1,hu2.mono λ_ f=>f.elim⟩
theorem FV{vs:List P} :∀{L:List (Nat×OS)} {n:Nat} {g:Nat} {k:OS},L.lookup g=some k->∃n',(gV vs n L).1.lookup g=some (ug vs n' k).1
 | [],n,g,k,h=>by cases h
 |(g0,k0)::L,n,g,k,h=>by
  simp only [gV,List.lookup] at h ⊢;split at h
  .cases h;exact ⟨_,rfl⟩
  .exact FV h
theorem O7{j:Shape}{vs:List P}{g:Nat}{k:OS}(h:j.aZ.lookup g=some k) :∃n',(mk j vs).o g=(ug vs n' k).1:=by
 obtain ⟨n',h1⟩:=FV (vs:=vs) (n:=(dI vs 0 j.slots).2) h;refine ⟨n',?_⟩;show (match (gV vs (dI vs 0 j.slots).2 j.aZ).1.lookup g with | some x=>x | none=>O.none)=_;rw [h1]
theorem RQ{j:Shape}{vs:List P}{g:Nat}(h:OS.acL (j.aZ.lookup g)=true) :∃ws,(mk j vs).o g=.box ws:=by
 cases hl:j.aZ.lookup g with
 |none=>rw [hl] at h;cases h
 |some k=>
  rw [hl] at h;cases k with
  |box ks=>obtain ⟨n',h1⟩:=O7 (vs:=vs) hl;exact ⟨_,h1⟩
  |arr=>cases h
  |it=>cases h
  |aN=>cases h
theorem zV.aaq{s:zV}(h:s.akg=true){ins dG:List P} :∀g∈s.bg,((Fw.mk s.pin ins).o g).like ((Fw.mk s.aT dG).o g):=λg hg=>by
 have:=(Z0.1 h) g hg;simp only [Qf] at this;obtain ⟨ws,e1⟩:=RQ (vs:=ins) this.1;obtain ⟨ws',e2⟩:=RQ (vs:=dG) this.2;rw [e1,e2];trivial
theorem nD{p:Nat×Nat} :∀{r:List (Nat×Nat)},p∈j_ r↔p∈r
 | []=>Iff.rfl
 |q::r=>by
  simp only [j_];cases h:(r.any λx=>Nat.beq x.1 q.1&&Nat.beq x.2 q.2) with
  |true=>
   simp only [nD (r:=r),QQ];refine ⟨.inr,λhp=>?_⟩;rcases hp with rfl | hp
   .obtain ⟨x,hx,e⟩:=KM.1 h;simp only [Qf] at e;have e1:=Q4 e.1;have e2:=Q4 e.2;have:x=p:=Prod.ext e1 e2;rw [<-this];exact hx
   .exact hp
  |false=>simp only [QQ,nD (r:=r)]
def rW:O->O
 |.arr fz _ _ sz l=>.arr fz false false sz l
 |.aN _ _ sz ak l hole=>.aN false false sz ak l hole
 |x=>x
def tK:O->Bool×Bool
 |.arr _ a i _ _=>(a,i)
 |.aN a i _ _ _ _=>(a,i)
 |_=>(false,false)
def VL:O->Bool
 |.arr _ _ _ _ _=>true
 |.aN _ _ _ _ _ _=>true
 |_=>false
theorem VN{x y:O}(h:rW x=rW y)(hf:tK x=tK y)(ha:VL x=true):x=y:=by
 cases x<;>simp only [VL,W4] at ha<;>cases y<;>simp only [rW,tK,O.arr.injEq,O.aN.injEq,Q1,reduceCtorEq] at h hf
 .obtain ⟨rfl,_,_,rfl,rfl⟩:=h;obtain ⟨rfl,rfl⟩:=hf;rfl
 .obtain ⟨_,_,rfl,rfl,rfl,rfl⟩:=h;obtain ⟨rfl,rfl⟩:=hf;rfl
theorem aar{s:zV}(hok:s.ok=true){o:Nat->O}{args:List S}{c:M_}(hc:iT s o args=some c)(hf:c.fine s=true) :∀p∈c.ren,VL (o p.2)=true->rW ((mk s.pin c.ins).o p.1)=rW (o p.2):=by
 unfold iT at hc;split at hc
 .rename_i u A gs r hsl;split at hc
  .rename_i u' I r' hob;simp only [Q0] at hc;subst hc;simp only [M_.fine,Qf,Z0,O5,Wm,decide_eq_true_eq,Wg,decide_eq_false_iff_not,QR,forall_exists_index,and_imp,forall_apply_eq_imp_iff₂] at hf;obtain ⟨⟨⟨hn2,hn1⟩,hdisj⟩,hkeys⟩:=hf;have hn1:=jF hn1;have hok':=hok;simp only [zV.ok,Qf] at hok';obtain ⟨⟨⟨⟨⟨⟨⟨⟨acN,X7⟩,hps⟩,hpo⟩,_⟩,_⟩,_⟩,_⟩,_⟩:=hok';have hm :∀p∈r',(λg'=>(j_ r').lookup g') p.1=some p.2:=λp hp=>mO hn1 (nD.2 hp);have hAt:At (u++u') 0 (u++u'):=λk y hk=>by rw [Wo];exact hk
   have akj :∀p∈s.pin.aZ,match p.2 with | .box ws =>∀k∈ws,k.flags false true=true | .arr fz a i _=>fz=false/\a=false/\i=true | .aN a i _ _=>a=false/\i=true | .it=>False:=by
    intro p hp;have:=(Z0.1 hpo) p hp;obtain ⟨g,k⟩:=p;cases k with
    |box ws=>
     simp only [Qf,Z0] at this;exact λk hk=>this.1 k hk
    |arr fz a i sz=>
     simp only [Qf,Wg] at this;exact ⟨this.1.1,this.1.2,this.2⟩
    |aN a i sz ak=>
     simp only [Qf,Wg] at this;exact this
    |it=>simp at this
   have RU:(dI (u++u') 0 s.pin.slots).2=u.length:=by
    have :∀{L:List (Nat×SS)} {us:List P} {c:Bool×Bool} {gs:List Nat} {r:List (Nat×Nat)} {n:Nat} (vs:List P),fA o args L=some (us,c,gs,r)->(∀p∈L,p.2.flags true false=true)->(dI vs n L).2=n+us.length:=by
     intro L
     induction L with
     |nil=>intro us c gs r n vs h _;simp [fA] at h;obtain ⟨rfl,_⟩:=h;rfl
     |cons p L ih=>
      intro us c gs r n vs h hk;obtain ⟨t0,k⟩:=p;simp only [fA] at h;split at h
      .rename_i u c1 g1 r1 u' c2 g2 r2 h1 h2;simp only [Q0,Q1] at h;obtain ⟨rfl,rfl,rfl,rfl⟩:=h;have e1:(mkS vs n k).2=n+u.length:=by
        have hkk:=hk (t0,k) (by simp);have one :∀(k:WS) (x:W) (us:List P) (c:Bool×Bool) (gs:List Nat) (r:List (Nat×Nat)) (n:Nat),fM o k x=some (us,c,gs,r)->(qx vs n k).2=n+us.length:=by
         intro k x us c gs r n h;cases k with
         |p a i=>
          simp only [fM] at h;split at h
          .simp only [Q0,Q1] at h;obtain ⟨rfl,_⟩:=h;rfl
          .cases h
         |own g'=>cases x<;>simp [fM] at h;obtain ⟨rfl,_⟩:=h;rfl
         |box g' off=>
          cases off with
          |succ off=>cases x<;>simp [fM] at h
          |zero=>
           cases x with
           |box g off=>cases off<;>simp [fM] at h;obtain ⟨rfl,_⟩:=h;rfl
           |_=>simp [fM] at h
         |dw=>simp [fM] at h
         |fn f gs0=>
          cases x with
          |clo f' caps=>
           simp only [fM] at h;split at h
           .split at h
            .simp only [Q0,Q1] at h;obtain ⟨rfl,_⟩:=h;rfl
            .cases h
           .cases h
          |_=>simp [fM] at h
         |nJ g'=>simp [fM] at h
         |no=>simp [fM] at h
         |vw g'=>simp [fM] at h
         |ep g' off=>simp [fM] at h
        cases k with
        |one k=>
         generalize args.getD t0 S.no=z at h1;cases z with
         |v z=>
          cases z with
          |one z=>exact one k z _ _ _ _ n h1
          |agg z=>simp [oG] at h1
         |_=>simp [oG] at h1
        |agg ks=>
         generalize args.getD t0 S.no=z at h1;cases z with
         |v z=>
          cases z with
          |one z=>simp [oG] at h1
          |agg z=>
           have :∀(ks:List WS) (z:List W) (us:List P) (c:Bool×Bool) (gs:List Nat) (r:List (Nat×Nat)) (n:Nat),jP o ks z=some (us,c,gs,r)->(lu vs n ks).2=n+us.length:=by
            intro ks
            induction ks with
            |nil=>intro z us c gs r n h;cases z<;>simp [jP] at h;obtain ⟨rfl,_⟩:=h;rfl
            |cons k ks ih=>
             intro z us c gs r n h;cases z with
             |nil=>simp [jP] at h
             |cons x xs=>
              simp only [jP] at h;split at h
              .rename_i u c1 g1 r1 u' c2 g2 r2 h1 h2;simp only [Q0,Q1] at h;obtain ⟨rfl,rfl,rfl,rfl⟩:=h;simp only [lu];rw [one k x _ _ _ _ n h1,ih _ _ _ _ _ _ h2];simp;omega
              .cases h
           exact this ks z _ _ _ _ n h1
         |_=>simp [oG] at h1
       simp only [dI];rw [e1,ih vs h2 (λp hp=>hk p (by simp [hp]))];simp;omega
      .cases h
    have:=this (n:=0) (u++u') hsl (λp hp=>by have:=(Z0.1 hps) p hp;simp only [Qf] at this;exact this.1);omega
   obtain ⟨⟨r0,hr0⟩,RV⟩:=uq (m:=λg'=>(j_ r').lookup g') (nil:=λ_=>False) (I:=I) (ins:=u++u') (n:=u.length) hob akj (Jd I) hm (by have:=hAt.right;rwa [Wo] at this);have D9 :∀g' x,(mk s.pin (u++u')).o g'=x->x≠.none->∃g,(j_ r').lookup g'=some g/\Ow (Cio I) (λg'=>(j_ r').lookup g') (λ_=>False) (o g) x/\(g',g)∈j_ r'/\(o g).bP=true/\((∃ws,x=.box ws)\/(∃l sz,x=.arr false false true sz l)\/∃l sz ak,x=.aN false true sz ak l none):=by
    intro g' x hx hne;have:=VK (j:=s.pin) (vs:=u++u') (g:=g') (by rw [hx];exact hne);rw [RU,hx] at this;obtain ⟨g,k1,k2,k3,k4⟩:=RV g' x this;exact ⟨g,k1,k2,nD.2 k3,k4⟩
   intro p hp ha;have hkey:p.1∈s.pin.aZ.map (·.1):=hkeys p hp;obtain ⟨x,hx⟩:=wu (vs:=u++u') (n:=u.length) hkey;obtain ⟨g,hg,how,hmem,hown,hsh⟩:=RV p.1 x hx;have hl:=mO hn1 hp;have:g=p.2:=by have hg':(j_ r').lookup p.1=some g:=hg;rw [hl] at hg';exact (Wc hg').symm
   subst this;have hmk:(mk s.pin (u++u')).o p.1=x:=by
    show (match (gV (u++u') (dI (u++u') 0 s.pin.slots).2 s.pin.aZ).1.lookup p.1 with | some x=>x | none=>O.none)=x;rw [RU,hx]
   rw [hmk];generalize hz:o p.2=z at how ha;rcases hsh with ⟨ws,rfl⟩ | ⟨l,sz,rfl⟩ | ⟨l,sz,ak,rfl⟩
   .cases how;cases ha
   .cases how;rfl
   .cases how;rfl
  .cases hc
 .cases hc
theorem VO(h:Rel E st gh val w){s:zV}(hok:s.ok=true){args:List S}{vals:Nat->Value}(hr :∀t,dJ E st gh w (args.getD t .no) (vals t)){c:M_}(hc:iT s st.o args=some c)(hf:c.fine s=true)
  (st1:St) (hst1:st1=st.aJ (c.vF.map (Fw.aU st.o)) []) (E':Env) (hE':E'=X6 h st1 c) :
  Rel E st1 gh val w/\Lets E st st1 gh gh w w/\Rel E' (mk s.pin c.ins) (jZ gh λg'=>c.ren.lookup g') vals w/\
  (∀p∈c.ren,(st.o p.2).bP=true/\p.2∉c.vF/\c.ren.lookup p.1=some p.2/\((s.bg.contains p.1=true/\∃ws ws',st.o p.2=.box ws/\(mk s.pin c.ins).o p.1=.box ws')\/(∃a i sz l,st.o p.2=.arr false a i sz l/\cin (a,i) c.I/\(mk s.pin c.ins).o p.1=.arr false false true sz l)\/(∃a i sz ak l,st.o p.2=.aN a i sz ak l none/\cin (a,i) c.I/\(mk s.pin c.ins).o p.1=.aN false true sz ak l none))):=by
 unfold iT at hc;split at hc
 .rename_i u A gs r hsl;split at hc
  .rename_i u' I r' hob;simp only [Q0] at hc;subst hc;simp only [M_.fine,Qf,Z0,O5,Wm,decide_eq_true_eq,Wg,decide_eq_false_iff_not,QR,forall_exists_index,and_imp,forall_apply_eq_imp_iff₂] at hf;obtain ⟨⟨⟨hn2,hn1⟩,hdisj⟩,hkeys⟩:=hf;have hn1:=jF hn1;have hok':=hok;simp only [zV.ok,Qf] at hok';obtain ⟨⟨⟨⟨⟨⟨⟨⟨acN,X7⟩,hps⟩,hpo⟩,_⟩,_⟩,_⟩,_⟩,_⟩:=hok';have akk:=wo hsl;obtain ⟨f1,f2⟩:=Rel.freezes gs h akk;subst hst1;have hm :∀p∈r',(λg'=>(j_ r').lookup g') p.1=some p.2:=λp hp=>mO hn1 (nD.2 hp);have hAt:At (u++u') 0 (u++u'):=λk y hk=>by rw [Wo];exact hk
   have akj :∀p∈s.pin.aZ,match p.2 with | .box ws =>∀k∈ws,k.flags false true=true | .arr fz a i _=>fz=false/\a=false/\i=true | .aN a i _ _=>a=false/\i=true | .it=>False:=by
    intro p hp;have:=(Z0.1 hpo) p hp;obtain ⟨g,k⟩:=p;cases k with
    |box ws=>
     simp only [Qf,Z0] at this;exact λk hk=>this.1 k hk
    |arr fz a i sz=>
     simp only [Qf,Wg] at this;exact ⟨this.1.1,this.1.2,this.2⟩
    |aN a i sz ak=>
     simp only [Qf,Wg] at this;exact this
    |it=>simp at this
   have RU:(dI (u++u') 0 s.pin.slots).2=u.length:=by
    have :∀{L:List (Nat×SS)} {us:List P} {c:Bool×Bool} {gs:List Nat} {r:List (Nat×Nat)} {n:Nat} (vs:List P),fA st.o args L=some (us,c,gs,r)->(∀p∈L,p.2.flags true false=true)->(dI vs n L).2=n+us.length:=by
     intro L
     induction L with
     |nil=>intro us c gs r n vs h _;simp [fA] at h;obtain ⟨rfl,_⟩:=h;rfl
     |cons p L ih=>
      intro us c gs r n vs h hk;obtain ⟨t0,k⟩:=p;simp only [fA] at h;split at h
      .rename_i u c1 g1 r1 u' c2 g2 r2 h1 h2;simp only [Q0,Q1] at h;obtain ⟨rfl,rfl,rfl,rfl⟩:=h;have e1:(mkS vs n k).2=n+u.length:=by
        have hkk:=hk (t0,k) (by simp);have one :∀(k:WS) (x:W) (us:List P) (c:Bool×Bool) (gs:List Nat) (r:List (Nat×Nat)) (n:Nat),fM st.o k x=some (us,c,gs,r)->(qx vs n k).2=n+us.length:=by
         intro k x us c gs r n h;cases k with
         |p a i=>
          simp only [fM] at h;split at h
          .simp only [Q0,Q1] at h;obtain ⟨rfl,_⟩:=h;rfl
          .cases h
         |own g'=>cases x<;>simp [fM] at h;obtain ⟨rfl,_⟩:=h;rfl
         |box g' off=>
          cases off with
          |succ off=>cases x<;>simp [fM] at h
          |zero=>
           cases x with
           |box g off=>cases off<;>simp [fM] at h;obtain ⟨rfl,_⟩:=h;rfl
           |_=>simp [fM] at h
         |dw=>simp [fM] at h
         |fn f gs0=>
          cases x with
          |clo f' caps=>
           simp only [fM] at h;split at h
           .split at h
            .simp only [Q0,Q1] at h;obtain ⟨rfl,_⟩:=h;rfl
            .cases h
           .cases h
          |_=>simp [fM] at h
         |nJ g'=>simp [fM] at h
         |no=>simp [fM] at h
         |vw g'=>simp [fM] at h
         |ep g' off=>simp [fM] at h
        cases k with
        |one k=>
         generalize args.getD t0 S.no=z at h1;cases z with
         |v z=>
          cases z with
          |one z=>exact one k z _ _ _ _ n h1
          |agg z=>simp [oG] at h1
         |_=>simp [oG] at h1
        |agg ks=>
         generalize args.getD t0 S.no=z at h1;cases z with
         |v z=>
          cases z with
          |one z=>simp [oG] at h1
          |agg z=>
           have :∀(ks:List WS) (z:List W) (us:List P) (c:Bool×Bool) (gs:List Nat) (r:List (Nat×Nat)) (n:Nat),jP st.o ks z=some (us,c,gs,r)->(lu vs n ks).2=n+us.length:=by
            intro ks
            induction ks with
            |nil=>intro z us c gs r n h;cases z<;>simp [jP] at h;obtain ⟨rfl,_⟩:=h;rfl
            |cons k ks ih=>
             intro z us c gs r n h;cases z with
             |nil=>simp [jP] at h
             |cons x xs=>
              simp only [jP] at h;split at h
              .rename_i u c1 g1 r1 u' c2 g2 r2 h1 h2;simp only [Q0,Q1] at h;obtain ⟨rfl,rfl,rfl,rfl⟩:=h;simp only [lu];rw [one k x _ _ _ _ n h1,ih _ _ _ _ _ _ h2];simp;omega
              .cases h
           exact this ks z _ _ _ _ n h1
         |_=>simp [oG] at h1
       simp only [dI];rw [e1,ih vs h2 (λp hp=>hk p (by simp [hp]))];simp;omega
      .cases h
    have:=this (n:=0) (u++u') hsl (λp hp=>by have:=(Z0.1 hps) p hp;simp only [Qf] at this;exact this.1);omega
   obtain ⟨⟨r0,hr0⟩,RV⟩:=uq (m:=λg'=>(j_ r').lookup g') (nil:=λ_=>False) (I:=I) (ins:=u++u') (n:=u.length) hob akj (Jd I) hm (by have:=hAt.right;rwa [Wo] at this);have D9 :∀g' x,(mk s.pin (u++u')).o g'=x->x≠.none->∃g,(j_ r').lookup g'=some g/\Ow (Cio I) (λg'=>(j_ r').lookup g') (λ_=>False) (st.o g) x/\(g',g)∈j_ r'/\(st.o g).bP=true/\((∃ws,x=.box ws)\/(∃l sz,x=.arr false false true sz l)\/∃l sz ak,x=.aN false true sz ak l none):=by
    intro g' x hx hne;have:=VK (j:=s.pin) (vs:=u++u') (g:=g') (by rw [hx];exact hne);rw [RU,hx] at this;obtain ⟨g,k1,k2,k3,k4⟩:=RV g' x this;exact ⟨g,k1,k2,nD.2 k3,k4⟩
   have iP :∀p∈j_ r',(st.o p.2).bP=true/\p.2∉gs/\(j_ r').lookup p.1=some p.2/\((s.bg.contains p.1=true/\∃ws ws',st.o p.2=.box ws/\(mk s.pin (u++u')).o p.1=.box ws')\/(∃a i sz l,st.o p.2=.arr false a i sz l/\cin (a,i) I/\(mk s.pin (u++u')).o p.1=.arr false false true sz l)\/(∃a i sz ak l,st.o p.2=.aN a i sz ak l none/\cin (a,i) I/\(mk s.pin (u++u')).o p.1=.aN false true sz ak l none)):=by
    intro p hp;have hkey:p.1∈s.pin.aZ.map (·.1):=hkeys p hp;obtain ⟨x,hx⟩:=wu (vs:=u++u') (n:=u.length) hkey;obtain ⟨g,hg,how,hmem,hown,_⟩:=RV p.1 x hx;have hl:=mO hn1 hp;have:g=p.2:=by have hg':(j_ r').lookup p.1=some g:=hg;rw [hl] at hg';exact (Wc hg').symm
    subst this;refine ⟨hown,hdisj p hp,hl,?_⟩;have hmk:(mk s.pin (u++u')).o p.1=x:=by
     show (match (gV (u++u') (dI (u++u') 0 s.pin.slots).2 s.pin.aZ).1.lookup p.1 with | some x=>x | none=>O.none)=x;rw [RU,hx]
    obtain ⟨k,n',h1,h2⟩:=lC hx;have hk:=(Z0.1 hpo) _ h1;rw [hmk];subst h2;cases k with
    |box ws=>
     simp only [Qf] at hk;generalize hz:st.o p.2=z at how;cases how;exact .inl ⟨hk.2,_,_,rfl,rfl⟩
    |arr fz a i sz=>
     simp only [Qf,Wg] at hk;obtain ⟨⟨rfl,rfl⟩,rfl⟩:=hk;generalize hz:st.o p.2=z at how;refine .inr (.inl ?_);cases how with | arr _ _ _ hc=>exact ⟨_,_,_,_,rfl,hc.2.2,rfl⟩
    |aN a i sz ak=>
     simp only [Qf,Wg] at hk;obtain ⟨rfl,rfl⟩:=hk;generalize hz:st.o p.2=z at how;refine .inr (.inr ?_);cases how with | aN _ _ _ hc=>exact ⟨_,_,_,_,_,rfl,hc.2.2,rfl⟩
    |it=>simp at hk
   have pW :∀g' b,((mk s.pin (u++u')).o g').bP=true->(jZ gh (λg'=>(j_ r').lookup g') g').has b->∃g,(g',g)∈j_ r'/\(st.o g).bP=true/\(gh g).has b/\g∉gs:=by
    intro g' b ho had;obtain ⟨g,hg,_,hmem,hown,_⟩:=D9 g' _ rfl (by intro e;rw [e] at ho;cases ho);refine ⟨g,hmem,hown,?_,(iP _ hmem).2.1⟩;simpa [jZ,hg] using had
   have amX :∀g,g∉gs->(st.aJ (gs.map (Fw.aU st.o)) []).o g=st.o g:=by
    intro g hg;rw [gJ,if_neg hg]
   have hcast:Cast (Cio I) (λg'=>(j_ r').lookup g') (λ_=>False) E E' st (mk s.pin (u++u')) gh (jZ gh λg'=>(j_ r').lookup g') w:=by
    refine ⟨λa i a' i' b hC hb=>?_,λg g' hg sz len ho=>⟨by simp only [jZ,hg];exact ⟨trivial,trivial⟩,?_⟩,λg g' hg ws ho=>⟨by simp only [jZ,hg],?_⟩,λg g' hg s n ho=>⟨by simp only [jZ,hg],?_⟩,λg' hf=>hf.elim⟩
    .obtain ⟨rfl,rfl,hci⟩:=hC;subst hE';refine ⟨.inr (.inl ⟨rfl,.inl (Env.pz hci.1 hci.2 hb)⟩),hb.2.1,λg' ho had=>?_⟩;obtain ⟨g,_,h1,h2,_⟩:=pW g' b ho had;exact hb.2.2 g h1 h2
    .obtain ⟨g2,hg2,how,_⟩:=D9 g' _ rfl (by intro e;rw [e] at ho;cases ho);rw [hg] at hg2;cases hg2;exact how.dim ho
    .obtain ⟨g2,hg2,how,_⟩:=D9 g' _ ho (by simp);rw [hg] at hg2;cases hg2;generalize st.o g=z at how;cases how;exact ⟨_,rfl⟩
    .obtain ⟨g2,hg2,how,_⟩:=D9 g' _ ho (by simp);rw [hg] at hg2;cases hg2;generalize st.o g=z at how;cases how;exact ⟨_,_,rfl⟩
   have hP :∀x v y a i gs',fD E st gh w x v->x.toP st.o=some (y,a,i,gs')->cin (a,i) A->(∀g∈gs',g∈gs)->cO w (E'.ok (mk s.pin (u++u')) (jZ gh λg'=>(j_ r').lookup g') w true false) y v:=by
    intro x v y a i gs' hrx ht hci hsub;have:=(OQ h hrx ht).2 _ (λg hg=>by rw [gJ,if_pos (hsub g hg)]) f1 f2;refine this.mono λb hb=>⟨?_,rfl⟩;subst hE';refine ⟨.inl ⟨rfl,Env.pz hci.1 hci.2 hb⟩,hb.2.1,λg' ho had=>?_⟩;obtain ⟨g,_,h1,h2,h3⟩:=pW g' b ho had;exact hb.2.2 g (by rw [amX g h3];exact h1) h2
   have aqG :∀p∈s.pin.slots,p.2.flags true false=true:=λp hp=>by have:=(Z0.1 hps) p hp;simp only [Qf] at this;exact this.1
   have qM:=(Cj hP hcast hr (n:=0) hsl aqG (Jd A) (λg hg=>hg) (λp hp=>hm p (by rw [hr0];exact Zs _ hp)) hAt.left).1;have hus:=aiN acN (u++u');refine ⟨f1,f2,⟨λt=>?_,λg'=>?_,λg1 g2 b h1 h2 k1 k2=>?_,λg' b ho had=>?_,λg' i b ho had hw=>?_,λg' ho hd b=>?_,λb hb=>?_,λb _ _=>?_,?_,?_,?_,?_,hus.1,hus.2.1,hus.2.2⟩,iP⟩
   .show dJ _ _ _ _ (match (dI (u++u') 0 s.pin.slots).1.lookup t with | some x=>x | none=>.no) _;cases hx:(dI (u++u') 0 s.pin.slots).1.lookup t with
    |none=>exact .no _
    |some x=>exact qM t x hx
   .by_cases hne:(mk s.pin (u++u')).o g'=.none
    .rw [hne];trivial
    .obtain ⟨g,hg,how,_⟩:=D9 g' _ rfl hne;have:jZ gh (λg'=>(j_ r').lookup g') g'=gh g:=by simp only [jZ,hg]
     rw [this];exact hcast.BK how (h.aZ g)
   .obtain ⟨q1,m1,o1,d1,_⟩:=pW g1 b h1 k1;obtain ⟨q2,m2,o2,d2,_⟩:=pW g2 b h2 k2;have:=h.inj q1 q2 b o1 o2 d1 d2;subst this;have hn2:=jF hn2;have key :∀{l:List (Nat×Nat)},(l.map (·.2)).Nodup->(g1,q1)∈l->(g2,q1)∈l->g1=g2:=by
     intro l
     induction l with
     |nil=>intro _ h;cases h
     |cons p l ih=>
      intro hn e1 e2;simp only [Q6,UV] at hn;rcases QQ.1 e1 with f1 | f1<;>rcases QQ.1 e2 with f2 | f2
      .rw [<-f1] at f2;cases f2;rfl
      .have:q1∈l.map (·.2):=QR.2 ⟨(g2,q1),f2,rfl⟩;rw [<-f1] at hn;exact absurd this hn.1
      .have:q1∈l.map (·.2):=QR.2 ⟨(g1,q1),f1,rfl⟩;rw [<-f2] at hn;exact absurd this hn.1
      .exact ih hn.2 f1 f2
    exact key hn2 m1 m2
   .obtain ⟨g,hmem,h1,h2,_⟩:=pW g' b ho had;subst hE';exact ⟨.inr ⟨(g',g),hmem,h1,h2⟩,(h.wr g b h1 h2).2⟩
   .obtain ⟨g,hg,how,hmem,hown,hsh⟩:=D9 g' _ rfl (by intro e;rw [e] at ho;cases ho);rcases hsh with ⟨ws,e⟩ | ⟨l',sz',e⟩ | ⟨l',sz',ak,e⟩
    .rw [e] at ho;cases ho
    .rw [e] at ho;cases ho;rfl
    .rw [e] at ho;cases ho;rfl
   .obtain ⟨g,hg,how,hmem,hown,hsh⟩:=D9 g' _ rfl (by intro e;rw [e] at ho;cases ho);have e:jZ gh (λg'=>(j_ r').lookup g') g'=gh g:=by simp only [jZ,hg]
    rw [e];exact h.ns g hown (by rw [(how.bP ho).2];exact hd) b
   .subst hE';obtain ⟨p,hp,_,h1⟩:=hb;exact (h.wr p.2 b (iP p hp).1 h1).2
   .subst hE';rfl
   .subst hE';exact XS _
   .subst hE';rfl
   .subst hE';rfl
   .subst hE';rfl
  .cases hc
 .cases hc
end
end Go.Fw

namespace Go.Fw
variable [eY]
def FW(A I:Bool×Bool)(lk:Bool)(a i a' i':Bool):Prop:=(a',i')=qN A I a i/\(a=true->lk=true)
section
variable {A I:Bool×Bool} {lk:Bool} {m:Nat->Option Nat} {f:Nat->Nat} {aW:List Nat} {vs:List P}
theorem aiO(hm :∀g∈aW,m (f g)=some g){k:WS}(hk:k.dG aW=true)(hl:k.isA=true->lk=true)(n:Nat) :
  Ww (FW A I lk) m (λ_=>False) (qx vs n k).1 (Vs A I f (qx vs n k).1)/\∀g∈(Vs A I f (qx vs n k).1).names,∃g0∈aW,g=f g0:=by
 cases k with
 |p a i=>exact ⟨.p _ ⟨rfl,hl⟩,by simp [qx,Vs,W.names]⟩
 |own g=>
  simp only [WS.dG,Wm,decide_eq_true_eq] at hk;exact ⟨.own (hm g hk),λg' hg'=>⟨g,hk,by simpa [qx,Vs,W.names] using hg'⟩⟩
 |dw=>exact ⟨.dw,by simp [qx,Vs,W.names]⟩
 |box g off=>
  simp only [WS.dG,Wm,decide_eq_true_eq] at hk;exact ⟨.box (hm g hk),λg' hg'=>⟨g,hk,by simpa [qx,Vs,W.names] using hg'⟩⟩
 |fn fn gs=>
  have hk :∀g∈gs,g∈aW:=by simpa [WS.dG,Z0] using hk
  have key :∀(gs:List Nat),(∀g∈gs,g∈aW)->(gU gs).length=(kU f (gU gs)).length/\(∀(j:Nat) x y,(gU gs)[j]?=some x->(kU f (gU gs))[j]?=some y->Ww (FW A I lk) m (λ_=>False) x y)/\∀g∈(kU f (gU gs)).flatMap W.names,∃g0∈aW,g=f g0:=by
   intro gs
   induction gs with
   |nil=>intro _;exact ⟨rfl,λj x y hx=>(by simp [gU] at hx),by simp [gU,kU]⟩
   |cons g gs ih=>
    intro h;obtain ⟨e1,e2,e3⟩:=ih λg hg=>h g (by simp [hg]);refine ⟨by simp [gU,kU,e1],λj x y hx hy=>?_,λg' hg'=>?_⟩
    .cases j with
     |zero=>
      simp [gU,kU] at hx hy;subst hx hy;exact .box (hm g (h g (by simp)))
     |succ j=>simp [gU,kU] at hx hy;exact e2 j x y hx hy
    .simp only [gU,kU,Z2,Xs] at hg';rcases hg' with hg' | hg'
     .exact ⟨g,h g (by simp),by simpa [W.names] using hg'⟩
     .exact e3 g' hg'
  obtain ⟨e1,e2,e3⟩:=key gs hk;exact ⟨.clo fn _ _ e1 e2,λg hg=>by
   have hg:g∈(W.clo fn (kU f (gU gs))).names:=hg;rw [uj] at hg;exact e3 g hg⟩
 |nJ g=>cases hk
 |no=>cases hk
 |vw g=>cases hk
 |ep g off=>cases hk
theorem RY :∀{ks:List WS} {n:Nat} {x:W},x∈(lu vs n ks).1->∃k∈ks,∃n',x=(qx vs n' k).1
 | [],n,x,h=>by simp [lu] at h
 |k::ks,n,x,h=>by
  simp only [lu,QQ] at h;rcases h with h | h
  .exact ⟨k,by simp,n,h⟩
  .obtain ⟨k',h1,h2⟩:=RY h;exact ⟨k',by simp [h1],h2⟩
theorem acO(hm :∀g∈aW,m (f g)=some g){ks:List WS}(hk:ks.all (WS.dG aW)=true)(hl:ks.any WS.isA=true->lk=true)(n:Nat) :
  (∀(j:Nat) x y,(lu vs n ks).1[j]?=some x->((lu vs n ks).1.map (Vs A I f))[j]?=some y->Ww (FW A I lk) m (λ_=>False) x y)/\
  ∀g∈((lu vs n ks).1.map (Vs A I f)).flatMap W.names,∃g0∈aW,g=f g0:=by
 have key :∀x∈(lu vs n ks).1,Ww (FW A I lk) m (λ_=>False) x (Vs A I f x)/\∀g∈(Vs A I f x).names,∃g0∈aW,g=f g0:=by
  intro x hx;obtain ⟨k,h1,n',rfl⟩:=RY hx;exact aiO hm ((Z0.1 hk) k h1) (λh=>hl (KM.2 ⟨k,h1,h⟩)) n'
 refine ⟨λj x y hx hy=>?_,λg hg=>?_⟩
 .rw [Ys,hx] at hy;simp only [Z6,Q0] at hy;subst hy;exact (key x (XX hx)).1
 .simp only [YY,QR] at hg;obtain ⟨_,⟨x,hx,rfl⟩,hg⟩:=hg;exact (key x hx).2 g hg
theorem amY(hm :∀g∈aW,m (f g)=some g){k:SS}(hk:k.dG aW=true)(hl:k.isA=true->lk=true)(n:Nat) :
  ∃x,(mkS vs n k).1=.v x/\Vw (FW A I lk) m (λ_=>False) x (reV A I f x)/\∀g∈(reV A I f x).names,∃g0∈aW,g=f g0:=by
 cases k with
 |one k=>
  obtain ⟨h1,h2⟩:=aiO (vs:=vs) (A:=A) (I:=I) hm hk hl n;exact ⟨_,rfl,.one h1,h2⟩
 |agg ks=>
  obtain ⟨h1,h2⟩:=acO (vs:=vs) (A:=A) (I:=I) hm hk hl n;exact ⟨_,rfl,.agg _ _ (by simp) h1,h2⟩
theorem amZ(hm :∀g∈aW,m (f g)=some g){k:OS}(hk :∀ws,k=.box ws->ws.all (WS.dG aW)=true)(hl:k.isA=true->lk=true)(n:Nat) :
  Ow (FW A I lk) m (λ_=>False) (ug vs n k).1 (xE A I f (ug vs n k).1)/\∀g∈(xE A I f (ug vs n k).1).names,∃g0∈aW,g=f g0:=by
 cases k with
 |box ks=>
  obtain ⟨h1,h2⟩:=acO (vs:=vs) (A:=A) (I:=I) hm (hk ks rfl) hl n;exact ⟨.box _ _ (by simp) h1,h2⟩
 |arr fz a i sz=>exact ⟨.arr _ _ _ ⟨rfl,hl⟩,by simp [ug,xE,O.names]⟩
 |it=>exact ⟨.it _ _,by simp [ug,xE,O.names]⟩
 |aN a i sz ak=>exact ⟨.aN _ _ _ ⟨rfl,hl⟩,by simp [ug,xE,O.names,dA]⟩
end
theorem Nj{A I:Bool×Bool}{f:Nat->Nat}(x:O):(xE A I f x).bP=x.bP:=by cases x<;>rfl
theorem VP{A I:Bool×Bool}{f:Nat->Nat}(x:O):(xE A I f x).oh=x.oh:=by cases x<;>rfl
theorem agw{A I:Bool×Bool}{f:Nat->Nat}(x:O):(xE A I f x).dim=x.dim:=by cases x<;>rfl
theorem aas{A I:Bool×Bool}{f:Nat->Nat}{x:O}{i:Bool}(h:(xE A I f x).inner=some i) :∃a i0,x.inner=some i0/\i=(qN A I a i0).2:=by
 cases x with
 |arr fz a i0 sz l=>
  cases fz with
  |false=>cases h;exact ⟨a,i0,rfl,rfl⟩
  |true=>cases h
 |aN a i0 sz ak l hole=>cases h;exact ⟨a,i0,rfl,rfl⟩
 |_=>cases h
theorem agx{A I:Bool×Bool}{f:Nat->Nat}{x:O}{ws:List W}(h:xE A I f x=.box ws) :∃ws',x=.box ws':=by cases x<;>first | exact ⟨_,rfl⟩ | cases h
theorem akl{A I:Bool×Bool}{f:Nat->Nat}{x:O}{s n:P}(h:xE A I f x=.it s n) :∃s' n',x=.it s' n':=by cases x<;>first | exact ⟨_,_,rfl⟩ | cases h
theorem FX{d:Nat}{aW:List Nat}{g g':Nat}(hg:g∈aW)(h:newName d aW g=newName d aW g'):g=g':=by
 unfold newName at h;have e:aW.idxOf g=aW.idxOf g':=by omega
 have h1:aW.idxOf g<aW.length:=List.idxOf_lt_length_of_mem hg;have h2:aW.idxOf g'<aW.length:=by omega
 have a1:=List.getElem_idxOf h1;have a2:=List.getElem_idxOf h2;rw [<-a1,<-a2];congr 1
def x9(d:Nat)(aW:List Nat)(g:Nat):Option Nat:=aW.find? λg0=>newName d aW g0==g
theorem O8{d:Nat}{aW:List Nat}{g:Nat}(hg:g∈aW):x9 d aW (newName d aW g)=some g:=by
 unfold x9;cases h:aW.find? λg0=>newName d aW g0==newName d aW g with
 |none=>have:=List.find?_eq_none.1 h g hg;simp at this
 |some g'=>
  have h1:=qT h;simp only [beq_iff_eq] at h1;rw [FX (Kb h) h1]
theorem L8{d:Nat}{aW:List Nat}{g g0:Nat}(h:x9 d aW g=some g0):g0∈aW/\newName d aW g0=g:=by
 unfold x9 at h;exact ⟨Kb h,by simpa using qT h⟩
theorem lN{α:Type}{g:Nat} :∀{l r:List (Nat×α)},(l++r).lookup g=(l.lookup g).or (r.lookup g)
 | [],r=>by simp
 |(k,v)::l,r=>by
  simp only [K9,List.lookup];split
  .rfl
  .exact lN
theorem yc{α:Type}{k:Nat->Nat}{v:Nat->α}{g:Nat} :∀{l:List Nat},(∀g'∈l,k g'≠g)->(l.map λx=>(k x,v x)).lookup g=none
 | [],_=>rfl
 |x::l,h=>by
  have:(g==k x)=false:=by have:=h x (by simp);simp;exact λe=>this e.symm
  simp only [Q6,List.lookup,this];exact yc λg' hg'=>h g' (by simp [hg'])
theorem w_{α:Type}{k:Nat->Nat}{v:Nat->α}{g0:Nat} :∀{l:List Nat},g0∈l->(∀g'∈l,k g'=k g0->g'=g0)->(l.map λx=>(k x,v x)).lookup (k g0)=some (v g0)
 | [],h,_=>by cases h
 |x::l,h,hi=>by
  simp only [Q6,List.lookup];by_cases e:k x=k g0
  .have:=hi x (by simp) e;subst this;simp
  .have:(k g0==k x)=false:=by simp;exact λh=>e h.symm
   rw [this];rcases QQ.1 h with h | h
   .subst h;exact absurd rfl e
   .exact w_ h λg' hg'=>hi g' (by simp [hg'])
theorem lD{α:Type}{v:Nat×Nat->α}{p:Nat×Nat} :∀{l:List (Nat×Nat)},(l.map (·.2)).Nodup->p∈l->(l.map λp=>(p.2,v p)).lookup p.2=some (v p)
 | [],_,h=>by cases h
 |x::l,hn,h=>by
  simp only [Q6,UV] at hn;simp only [Q6,List.lookup];rcases QQ.1 h with h | h
  .subst h;simp
  .have:(p.2==x.2)=false:=by
    simp only [beq_eq_false_iff_ne];intro e;exact hn.1 (e▸QR.2 ⟨p,h,rfl⟩)
   rw [this];exact lD hn.2 h
theorem lZ{α:Type}{v:Nat×Nat->α}{g:Nat} :∀{l:List (Nat×Nat)},g∉l.map (·.2)->(l.map λp=>(p.2,v p)).lookup g=none
 | [],_=>rfl
 |x::l,h=>by
  simp only [Q6,QQ,not_or] at h;have:(g==x.2)=false:=by simpa using h.1
  simp only [Q6,List.lookup,this];exact lZ h.2
theorem O.Nk{z:O}(h:O.none.like z):z=.none:=by cases z<;>first | rfl | exact h.elim
theorem O.Je{x y z:O}(h1:x.like y)(h2:y.like z):z=.none\/x.like z:=.inr (O.like.trans h1 h2)
theorem VQ{s:zV}{o:Nat->O}{args:List S}{c:M_}(hc:iT s o args=some c):xO o c.vF:=by
 unfold iT at hc;split at hc
 .rename_i hsl;split at hc
  .simp only [Q0] at hc;subst hc;exact wo hsl
  .cases hc
 .cases hc
theorem Aw{α:Type}{g:Nat}{v:α} :∀{l:List (Nat×α)},l.lookup g=some v->(g,v)∈l
 | [],h=>by cases h
 |(k,x)::l,h=>by
  simp only [List.lookup] at h;split at h
  .rename_i e;simp only [beq_iff_eq] at e;cases h;subst e;simp
  .exact WD _ (Aw h)
theorem rX{o:Nat->O} :∀{L:List (Nat×OS)} {r r':List (Nat×Nat)} {u:List P} {c:Bool×Bool},jL o r L=some (u,c,r')->(∀p∈r,p∈r')/\∀p∈L,∃q∈r',q.1=p.1
 | [],r,r',u,c,h=>by simp only [jL,Q0,Q1] at h;obtain ⟨_,_,rfl⟩:=h;exact ⟨λp hp=>hp,λp hp=>by cases hp⟩
 |(g',k)::rest,r,r',u,c,h=>by
  simp only [jL] at h;split at h
  .rename_i g hg;have hmem:=Aw hg;have fin :∀{r1:List (Nat×Nat)},(∀p∈r,p∈r1)->((∀p∈r1,p∈r')/\∀p∈rest,∃q∈r',q.1=p.1)->(∀p∈r,p∈r')/\∀p∈(g',k)::rest,∃q∈r',q.1=p.1:=by
    intro r1 h1 ⟨h2,h3⟩;refine ⟨λp hp=>h2 p (h1 p hp),λp hp=>?_⟩;rcases QQ.1 hp with rfl | hp
    .exact ⟨_,h2 _ (h1 _ hmem),rfl⟩
    .exact h3 p hp
   split at h
   .split at h
    .split at h
     .rename_i h2;simp only [Q0,Q1] at h;obtain ⟨_,_,rfl⟩:=h;exact fin (λp hp=>Zs _ hp) (rX h2)
     .cases h
    .cases h
   .split at h
    .split at h
     .rename_i h2;simp only [Q0,Q1] at h;obtain ⟨_,_,rfl⟩:=h;exact fin (λp hp=>hp) (rX h2)
     .cases h
    .cases h
   .split at h
    .split at h
     .rename_i h2;simp only [Q0,Q1] at h;obtain ⟨_,_,rfl⟩:=h;exact fin (λp hp=>hp) (rX h2)
     .cases h
    .cases h
   .cases h
  .cases h
theorem agy{j:Shape}{vs:List P}{g:Nat}{a i:Bool}{sz:Nat}{ak:List (Nat×Nat)}{l:List (List P)}{hole:Option (Nat×Nat×Nat)}(h:(mk j vs).o g=.aN a i sz ak l hole):hole=none:=by
 have h1:=VK (j:=j) (vs:=vs) (g:=g) (by rw [h];simp);obtain ⟨k,n',_,h2⟩:=lC h1;rw [h] at h2;cases k<;>simp [ug] at h2;exact h2.2.2.2.2.2
theorem Jf{s:zV}{d:Nat}{o:Nat->O}{c:M_}{dG:List P}(hf:c.fine s=true){p:Nat×Nat}(hp:p∈c.ren)(LG:s.bg.contains p.1=true) :
  (kV s d o c dG).aJ.lookup p.2=some (xE c.A c.I (callName d s c.ren) ((mk s.aT dG).o p.1)):=by
 simp only [M_.fine,Qf] at hf;obtain ⟨⟨⟨hn2,hn1⟩,hdisj⟩,hkeys⟩:=hf;have hnb:p.2∉c.vF:=by
  have:=(Z0.1 hdisj) p.2 (QR.2 ⟨p,hp,rfl⟩);simpa using this
 have h1:(if s.mM=true then c.vF.map (aU o) else []).lookup p.2=none:=by
  split
  .have :∀(l:List Nat),p.2∉l->(l.map (aU o)).lookup p.2=none:=by
    intro l
    induction l with
    |nil=>intro _;rfl
    |cons g l ih=>
     intro hl;simp only [QQ,not_or] at hl;have e:(p.2==(aU o g).1)=false:=by
      have:(aU o g).1=g:=rfl;rw [this];simpa using hl.1
     simp only [Q6,List.lookup,e];exact ih hl.2
   exact this _ hnb
  .rfl
 have h2:=lD (v:=λp=>if s.bg.contains p.1=true then xE c.A c.I (callName d s c.ren) ((mk s.aT dG).o p.1) else .none) (jF hn2) hp;rw [if_pos LG] at h2;show (((if s.mM=true then c.vF.map (aU o) else [])++c.ren.map _)++s.aW.map _).lookup p.2=_;rw [lN,lN,h1,h2];rfl
theorem aat{s:zV}(hok:s.ok=true){d:Nat}{o:Nat->O}{args:List S}{c:M_}(hc:iT s o args=some c)(hf:c.fine s=true){dG:List P}{p:Nat×Nat}(hp:p∈c.ren)(LG:s.bg.contains p.1=true)
  (hk:rW ((mk s.aT dG).o p.1)=rW ((mk s.pin c.ins).o p.1)) (ha:VL (o p.2)=true) (hfl:tK (xE c.A c.I (callName d s c.ren) ((mk s.aT dG).o p.1))=tK (o p.2)) :
  (kV s d o c dG).aJ.lookup p.2=some (o p.2):=by
 rw [Jf hf hp LG];have hcore:=hk.trans (aar hok hc hf p hp ha);have hm:=λ{a i:Bool} {sz:Nat} {ak:List (Nat×Nat)} {l:List (List P)} {hole:Option (Nat×Nat×Nat)}=>agy (j:=s.aT) (vs:=dG) (g:=p.1) (a:=a) (i:=i) (sz:=sz) (ak:=ak) (l:=l) (hole:=hole);congr 1;generalize (mk s.aT dG).o p.1=x at hcore hfl hm;have e:rW (xE c.A c.I (callName d s c.ren) x)=rW (o p.2):=by
  rw [<-hcore];cases x with
  |aN a i sz ak l hole=>have:=hm rfl;subst this;rfl
  |arr fz a i sz l=>rfl
  |_=>
   generalize o p.2=z at hcore ha;cases z<;>first | (cases ha;done) | (simp [rW] at hcore;done)
 exact (VN e.symm hfl.symm ha).symm
theorem RZ{s:zV}{o:Nat->O}{args:List S}{c:M_}(hc:iT s o args=some c) :∀p∈s.pin.aZ,∃q∈c.ren,q.1=p.1:=by
 unfold iT at hc;split at hc
 .split at hc
  .rename_i LG;simp only [Q0] at hc;subst hc;exact λp hp=>let ⟨q,h1,h2⟩:=(rX LG).2 p hp;⟨q,nD.2 h1,h2⟩
  .cases hc
 .cases hc
section
variable {E:Env} {st:St} {gh:Nat->Gh} {w:World} {val:Nat->Value}
theorem aau{sp:Spec}(hok:sp.sig.ok=true)(h:Rel E st gh val w){args:List S}{vals:List Value}(hr :∀t,dJ E st gh w (args.getD t .no) (vals.getD t undef))
  {c:M_} (hc:iT sp.sig st.o args=some c) (hf:c.fine sp.sig=true) :
  ∃(E':Env) (ny:Nat->Gh),E'.B0=w.heap.size/\E'.w0=w/\Rel E' (mk sp.sig.pin c.ins) ny (λk=>vals.getD k undef) w/\(∀b,E'.Wr b->∃c e f,w.heap[b]?=some (.cells c e f))/\
  ∀(d:Nat) (dG:List P) (ef:Eff),ef=kV sp.sig d st.o c dG->(∀g∈ef.new,st.used g=false)->∀(w':World) (rs:List Value) (zO:Nat->Gh),rs.length=sp.sig.dD->Rel E' (mk sp.sig.aT dG) zO (λk=>rs.getD k undef) w'->(∀g∈sp.sig.bg,((zO g).ad=(ny g).ad/\(zO g).cap=(ny g).cap)/\((mk sp.sig.pin c.ins).o g).like ((mk sp.sig.aT dG).o g))->
   ∃bH,Rel E (st.aJ ef.aJ ef.new) bH val w'/\Lets E st (st.aJ ef.aJ ef.new) gh bH w w'/\dJ E (st.aJ ef.aJ ef.new) bH w' ef.x (aan rs)/\∀g∈ef.x.names,(st.aJ ef.aJ ef.new).used g=true:=by
 have hrr :∀t,dJ E st gh w (args.getD t .no) ((λk=>vals.getD k undef) t):=hr;obtain ⟨h1,hL1,hE,iP⟩:=VO h hok hrr hc hf _ rfl _ rfl;refine ⟨_,_,rfl,rfl,hE,λb hb=>?_,λd dG ef hef hnew w' rs zO hrl hx VR=>?_⟩
 .obtain ⟨p,hp,ow,e1⟩:=hb;have hO:=h.aZ p.2;rcases (iP p hp).2.2.2 with ⟨_,ws,_,e,_⟩ | ⟨a,i,sz,l,e,_⟩ | ⟨a,i,sz,ak,l,e,_⟩
  .rw [e] at hO;obtain ⟨ad',c,e',q1,_,q3,_⟩:=hO;rcases e1 with ⟨ad,k1,k2⟩ | k1
   .rw [k1] at q1;cases q1;rw [<-k2];exact ⟨_,_,_,q3⟩
   .rw [h.ns p.2 ow (by rw [e];rfl) b] at k1;cases k1
  .rw [e] at hO;rcases e1 with ⟨ad,k1,k2⟩ | k1
   .rcases hO with ⟨q1,_⟩ | ⟨ad',c,e',q1,_,q3,_⟩
    .rw [k1] at q1;cases q1
    .rw [k1] at q1;cases q1;rw [<-k2];exact ⟨_,_,_,q3⟩
   .rw [h.ns p.2 ow (by rw [e];rfl) b] at k1;cases k1
  .rw [e] at hO;rcases hO with ⟨q1,_,_,q2⟩ | ⟨ad',c,e',q1,_,q3,_,_,_,⟨_,q4⟩,_⟩
   .rcases e1 with ⟨ad,k1,k2⟩ | k1
    .rw [k1] at q1;cases q1
    .rw [q2 b] at k1;cases k1
   .rcases e1 with ⟨ad,k1,k2⟩ | k1
    .rw [k1] at q1;cases q1;rw [<-k2];exact ⟨_,_,_,q3⟩
    .exact q4 b k1
 generalize hst1:st.aJ (c.vF.map (Fw.aU st.o)) []=st1 at h1 hL1 hE hx;generalize hE':X6 h st1 c=E' at hE hx;generalize aav:mk sp.sig.aT dG=xJ at hx;have hok':=hok;simp only [zV.ok,Qf] at hok';obtain ⟨⟨⟨⟨⟨⟨⟨⟨acN,X7⟩,hps⟩,hpo⟩,hos⟩,Ai⟩,hdisj⟩,hnn⟩,aiP⟩:=hok';have hnn:=jF hnn;simp only [M_.fine,Qf] at hf;have hn2:=jF hf.1.1.1;have akm :∀g∈sp.sig.aW,sp.sig.bg.contains g=false:=by
  intro g hg;cases hi:sp.sig.bg.contains g with
  |false=>rfl
  |true=>
   have:=(Z0.1 hdisj) g (by simpa using hi);simp [hg] at this
 generalize hfn:callName d sp.sig c.ren=f;have R_ :∀g∈sp.sig.aW,f g=newName d sp.sig.aW g:=λg hg=>by subst hfn;unfold callName;rw [akm g hg]
 have aty:sp.sig.aW.map f=sp.sig.aW.map (newName d sp.sig.aW):=ZS R_;have akn :∀g,sp.sig.bg.contains g=true->∃g',(g,g')∈c.ren/\f g=g':=by
  intro g hi;have am0:=(Z0.1 aiP) g (by simpa using hi);cases h1:sp.sig.pin.aZ.lookup g with
  |none=>rw [h1] at am0;cases am0
  |some k1=>
   obtain ⟨q,hq,e⟩:=RZ hc _ (Aw h1);obtain ⟨q1,q2⟩:=q;simp only at e;subst e;refine ⟨q2,hq,?_⟩;subst hfn;unfold callName;rw [hi,(iP _ hq).2.2.1]
 generalize hbk:x9 d sp.sig.aW=bk;have hbn :∀g∈sp.sig.aW,bk (f g)=some g:=λg hg=>by rw [R_ g hg];subst hbk;exact O8 hg
 have hbs :∀g g0,bk g=some g0->g0∈sp.sig.aW/\f g0=g:=λg g0 hb=>by subst hbk;obtain ⟨b1,b2⟩:=L8 hb;exact ⟨b1,by rw [R_ g0 b1];exact b2⟩
 have hfi :∀g∈sp.sig.aW,∀g'∈sp.sig.aW,f g=f g'->g=g':=λg hg g' hg' e=>by rw [R_ g hg,R_ g' hg'] at e;exact FX hg e
 have agz:ef.new=sp.sig.aW.map f:=by subst hef;subst hfn;rfl
 have ako:ef.aJ=(if sp.sig.mM then c.vF.map (Fw.aU st.o) else [])++c.ren.map (λp=>(p.2,if sp.sig.bg.contains p.1 then xE c.A c.I f (xJ.o p.1) else .none))++sp.sig.aW.map (λg=>(f g,xE c.A c.I f (xJ.o g))):=by
  subst hef;subst hfn;subst aav;rfl
 have am1:ef.x=aal ((List.range sp.sig.dD).map λk=>X0 c.A c.I f (xJ.s k)):=by subst hef;subst hfn;subst aav;rfl
 have auC :∀g,bk g=none->g∉ef.new:=λg hb hm=>by
  rw [agz] at hm;obtain ⟨g0,h1,rfl⟩:=QR.1 hm;rw [hbn g0 h1] at hb;cases hb
 have hbu :∀g,st.used g=true->bk g=none:=λg hu=>by
  cases hb:bk g with
  |none=>rfl
  |some g0=>
   obtain ⟨h1,h2⟩:=hbs g g0 hb;have:=hnew g (by rw [agz];exact QR.2 ⟨g0,h1,h2⟩);rw [hu] at this;cases this
 let stB:St:=if sp.sig.mM then st1 else st
 have hB:Rel E stB gh val w/\Lets E st stB gh gh w w:=by
  by_cases hlk:sp.sig.mM=true
  .have:stB=st1:=by simp [stB,hlk]
   rw [this];exact ⟨h1,hL1⟩
  .have:stB=st:=by simp [stB,hlk]
   rw [this];exact ⟨h,⟨λa i b hb=>⟨hb,rfl⟩,λg _=>.inr ⟨⟨rfl,rfl⟩,O.fF _⟩⟩⟩
 obtain ⟨hRB,hLB⟩:=hB;have hBs:stB.s=st.s:=by
  by_cases hlk:sp.sig.mM=true
  .have:stB=st1:=by simp [stB,hlk]
   rw [this,<-hst1];rfl
  .have:stB=st:=by simp [stB,hlk]
   rw [this]
 have hBu:stB.used=st.used:=by
  by_cases hlk:sp.sig.mM=true
  .have:stB=st1:=by simp [stB,hlk]
   rw [this,<-hst1];rfl
  .have:stB=st:=by simp [stB,hlk]
   rw [this]
 have hBo :∀g,stB.o g=(if g∈c.vF/\sp.sig.mM=true then (Fw.aU st.o g).2 else st.o g):=by
  intro g;by_cases hlk:sp.sig.mM=true
  .have:stB=st1:=by simp [stB,hlk]
   rw [this,<-hst1,gJ];by_cases hg:g∈c.vF<;>simp [hg,hlk]
  .have:stB=st:=by simp [stB,hlk]
   rw [this];simp [hlk]
 have X8 :∀g,(stB.o g).bP=true->(st.o g).bP=true:=by
  intro g hg;rw [hBo] at hg;split at hg
  .cases hp:plainO st.o g with
   |none=>simpa [Fw.aU,hp] using hg
   |some x=>
    obtain ⟨a,i,sz,l⟩:=x;rw [ni hp] at hg;cases hg
  .exact hg
 have hBr :∀p∈c.ren,stB.o p.2=st.o p.2:=by
  intro p hp;rw [hBo,if_neg λh=>(iP p hp).2.1 h.1]
 generalize agA:st.aJ ef.aJ ef.new=Jg;have hFs:Jg.s=st.s:=by subst agA;rfl
 have hFu :∀g,st.used g=true->Jg.used g=true:=λg hg=>by subst agA;simp [St.aJ,hg]
 have hFn :∀g∈sp.sig.aW,Jg.used (f g)=true:=λg hg=>by
  subst agA;have:f g∈ef.new:=by rw [agz];exact QR.2 ⟨g,hg,rfl⟩
  simp [St.aJ,this]
 have X9 :∀p∈c.ren,st.used p.2=true:=λp hp=>h.ul p.2 (by intro e;have:=(iP p hp).1;rw [e] at this;cases this);have atA :∀g∈c.vF,st.used g=true\/st.o g=.none:=λg hg=>by
  by_cases hn:st.o g=.none
  .exact .inr hn
  .exact .inl (h.ul g hn)
 have hFo :∀g,Jg.o g=match ef.aJ.lookup g with | some x=>x | none=>st.o g:=λg=>by subst agA;rfl
 have X_ :∀g∈sp.sig.aW,Jg.o (f g)=xE c.A c.I f (xJ.o g):=by
  intro g hg;have hfu:st.used (f g)=false:=hnew _ (by rw [agz];exact QR.2 ⟨g,hg,rfl⟩);have e2:(c.ren.map (λp=>(p.2,if sp.sig.bg.contains p.1 then xE c.A c.I f (xJ.o p.1) else .none))).lookup (f g)=none:=lZ λhm=>by
   obtain ⟨p,hp,e⟩:=QR.1 hm;rw [<-e,X9 p hp] at hfu;cases hfu
  have e3:=w_ (k:=f) (v:=λg=>xE c.A c.I f (xJ.o g)) hg λg' hg' e=>hfi g' hg' g hg e;have e1:(if sp.sig.mM then c.vF.map (Fw.aU st.o) else []).lookup (f g)=none:=by
   split
   .rw [mJ,if_neg];intro hm;have:=xO.used h (VQ hc) hm;rw [this] at hfu;cases hfu
   .rfl
  rw [hFo,ako,lN,lN,e1,e2,e3];rfl
 have Nl :∀p∈c.ren,Jg.o p.2=if sp.sig.bg.contains p.1 then xE c.A c.I f (xJ.o p.1) else .none:=by
  intro p hp;have e1:(if sp.sig.mM then c.vF.map (Fw.aU st.o) else []).lookup p.2=none:=by
   split
   .rw [mJ,if_neg (iP p hp).2.1]
   .rfl
  have e2:=lD (v:=λp=>if sp.sig.bg.contains p.1 then xE c.A c.I f (xJ.o p.1) else O.none) hn2 hp;rw [hFo,ako,lN,lN,e1,e2];rfl
 have Si :∀g,bk g=none->g∉c.ren.map (·.2)->Jg.o g=stB.o g:=by
  intro g hb hg;have e2:=lZ (v:=λp=>if sp.sig.bg.contains p.1 then xE c.A c.I f (xJ.o p.1) else O.none) hg;have e3:(sp.sig.aW.map (λg=>(f g,xE c.A c.I f (xJ.o g)))).lookup g=none:=yc λg' hg' e=>by
   have:=hbn g' hg';rw [e,hb] at this;cases this
  rw [hFo,ako,lN,lN,e2,e3,hBo];by_cases hlk:sp.sig.mM=true
  .rw [if_pos hlk,mJ];by_cases hg:g∈c.vF<;>simp [hg,hlk]
  .simp [hlk]
 have aiQ :∀p∈c.ren,sp.sig.bg.contains p.1=true->(zO p.1).ad=(gh p.2).ad/\(zO p.1).cap=(gh p.2).cap:=by
  intro p hp hi;have:=(VR p.1 (by simpa using hi)).1;have e:=(iP p hp).2.2.1;simp only [jZ,e] at this;exact this
 generalize hbk2:(λg=>match bk g with | some g0=>some g0 | none=>(c.ren.find? (λ(p:Nat×Nat)=>p.2==g&&sp.sig.bg.contains p.1)).map (λ(p:Nat×Nat)=>p.1))=bk2;have am3 :∀g g0,bk2 g=some g0->(g0∈sp.sig.aW/\f g0=g)\/(bk g=none/\sp.sig.bg.contains g0=true/\(g0,g)∈c.ren):=by
  intro g g0 hb;subst hbk2;simp only at hb;cases h1:bk g with
  |some g1=>rw [h1] at hb;simp only [Q0] at hb;subst hb;exact .inl (hbs g _ h1)
  |none=>
   rw [h1] at hb;simp only [W0] at hb;obtain ⟨p,hp,rfl⟩:=hb;have q1:=Kb hp;have q2:=qT hp;simp only [Qf,beq_iff_eq] at q2;obtain ⟨rfl,q3⟩:=q2;exact .inr ⟨rfl,q3,q1⟩
 have hb2 :∀g∈sp.sig.aW++sp.sig.bg,bk2 (f g)=some g:=by
  intro g hg;subst hbk2;simp only;rcases Xs.1 hg with hg | hg
  .rw [hbn g hg]
  .have hi:sp.sig.bg.contains g=true:=by simpa using hg
   obtain ⟨g',hm,e⟩:=akn g hi;rw [e,hbu g' (X9 _ hm)];cases h1:c.ren.find? λp=>p.2==g'&&sp.sig.bg.contains p.1 with
   |none=>
    have:=List.find?_eq_none.1 h1 _ hm;simp at this;exact absurd hg this
   |some p=>
    have q1:=Kb h1;have q2:=qT h1;simp only [Qf,beq_iff_eq] at q2;obtain ⟨e2,q3⟩:=q2;have l1:=(iP _ hm).2.2.1;have e3:p=(g,g'):=by
     have:=lD (v:=λp=>p) hn2 q1;have h2:=lD (v:=λp=>p) hn2 hm;rw [e2] at this;simp only at h2;rw [this] at h2;exact Wc h2
    rw [e3];rfl
 let bH:Nat->Gh:=λg=>match bk2 g with | some g0=>zO g0 | none=>gh g
 have hfp :∀p∈c.ren,sp.sig.bg.contains p.1=true->f p.1=p.2:=by
  intro p hp hi;obtain ⟨g',hm,e⟩:=akn p.1 hi;have l1:=(iP _ hm).2.2.1;have l2:=(iP _ hp).2.2.1;simp only at l1;rw [l2] at l1;rw [e,<-Wc l1]
 have hgb :∀g g0,bk2 g=some g0->bH g=zO g0:=λg g0 hb=>by simp only [bH,hb]
 have hgn :∀g∈sp.sig.aW,bH (f g)=zO g:=λg hg=>hgb _ _ (hb2 g (Zs _ hg));have hgi :∀p∈c.ren,sp.sig.bg.contains p.1=true->bH p.2=zO p.1:=by
  intro p hp hi;have:=hb2 p.1 (Vn _ (by simpa using hi));rw [hfp p hp hi] at this;exact hgb _ _ this
 have hgo :∀g,bk g=none->g∉c.ren.map (·.2)->bH g=gh g:=λg hb hm=>by
  cases h2:bk2 g with
  |none=>simp only [bH,h2]
  |some g0=>
   rcases am3 g g0 h2 with ⟨b1,b2⟩ | ⟨_,_,b3⟩
   .rw [<-b2,hbn g0 b1] at hb;cases hb
   .exact absurd (QR.2 ⟨_,b3,rfl⟩) hm
 have hFb :∀g g0,bk2 g=some g0->Jg.o g=xE c.A c.I f (xJ.o g0):=λg g0 hb=>by
  rcases am3 g g0 hb with ⟨b1,b2⟩ | ⟨_,b2,b3⟩
  .rw [<-b2];exact X_ g0 b1
  .have e:=Nl _ b3;simp only [b2,if_true] at e;exact e
 have acP :∀g∈sp.sig.aW++sp.sig.bg,Jg.used (f g)=true:=by
  intro g hg;rcases Xs.1 hg with hg | hg
  .exact hFn g hg
  .obtain ⟨g',hm,e⟩:=akn g (by simpa using hg);rw [e];exact hFu _ (X9 _ hm)
 have hxo :∀g0,xJ.o g0≠.none->∃k n',(g0,k)∈sp.sig.aT.aZ/\xJ.o g0=(ug dG n' k).1:=λg0 hn=>by
  subst aav;exact lC (VK hn)
 have am4 :∀g0,sp.sig.bg.contains g0=true->(∃ws,(mk sp.sig.pin c.ins).o g0=.box ws)->∃ws,xJ.o g0=.box ws:=by
  rintro g0 hi ⟨ws,hb⟩;have hk:=(Z0.1 aiP) g0 (by simpa using hi);cases h1:sp.sig.pin.aZ.lookup g0 with
  |none=>rw [h1] at hk;cases hk
  |some k1=>
   cases h2:sp.sig.aT.aZ.lookup g0 with
   |none=>rw [h1,h2] at hk;cases k1<;>cases hk
   |some k2=>
    rw [h1,h2] at hk;obtain ⟨n1,e1⟩:=O7 (vs:=c.ins) h1;obtain ⟨n2,e2⟩:=O7 (vs:=dG) h2;rw [hb] at e1;cases k1 with
    |box ks=>
     cases k2 with
     |box ks'=>subst aav;exact ⟨_,e2⟩
     |arr=>cases hk
     |it=>cases hk
     |aN=>cases hk
    |arr=>cases e1
    |it=>cases e1
    |aN=>cases e1
 have aqK :∀g0 k,(g0,k)∈sp.sig.aT.aZ->k.isA=true->sp.sig.mM=true:=λg0 k hm ha=>by
  simp only [zV.mM,JN,KM];exact .inr ⟨_,hm,ha⟩
 have aqL :∀t k,(t,k)∈sp.sig.aT.slots->k.isA=true->sp.sig.mM=true:=λt k hm ha=>by
  simp only [zV.mM,JN,KM];exact .inl ⟨_,hm,ha⟩
 have hOut :∀g0,Ow (FW c.A c.I sp.sig.mM) bk2 (λ_=>False) (xJ.o g0) (xE c.A c.I f (xJ.o g0))/\∀g∈(xE c.A c.I f (xJ.o g0)).names,∃g1∈sp.sig.aW++sp.sig.bg,g=f g1:=by
  intro g0;by_cases hn:xJ.o g0=.none
  .rw [hn];exact ⟨.none _,by simp [xE,O.names]⟩
  .obtain ⟨k,n',h1,h2⟩:=hxo g0 hn;rw [h2];refine amZ hb2 (λws e=>?_) (aqK g0 k h1) n';subst e;have hk:=(Z0.1 Ai) _ h1;simp only [Qf] at hk;exact hk.1
 have Ya :∀g,(Jg.o g).bP=true->
   (∃g0,(xJ.o g0).bP=true/\bH g=zO g0/\Jg.o g=xE c.A c.I f (xJ.o g0)/\((g0∈sp.sig.aW/\g=f g0)\/(sp.sig.bg.contains g0=true/\(g0,g)∈c.ren)))\/
   ((stB.o g).bP=true/\bH g=gh g/\g∉c.ren.map (·.2)/\bk g=none/\Jg.o g=stB.o g):=by
  intro g ho;cases hb:bk g with
  |some g0=>
   obtain ⟨b1,b2⟩:=hbs g g0 hb;subst b2;have e:=X_ g0 b1;exact .inl ⟨g0,by rw [e,Nj] at ho;exact ho,hgn g0 b1,e,.inl ⟨b1,rfl⟩⟩
  |none=>
   by_cases hm:g∈c.ren.map (·.2)
   .obtain ⟨p,hp,e⟩:=QR.1 hm;subst e;have e:=Nl p hp;cases hi:sp.sig.bg.contains p.1 with
    |false=>rw [e,hi] at ho;cases ho
    |true=>
     rw [hi,if_pos rfl] at e;exact .inl ⟨p.1,by rw [e,Nj] at ho;exact ho,hgi p hp hi,e,.inr ⟨hi,hp⟩⟩
   .have e:=Si g hb hm;exact .inr ⟨by rw [e] at ho;exact ho,hgo g hb hm,hm,by first | exact hb | rfl,e⟩
 have hsplit :∀g b,(Jg.o g).bP=true->(bH g).has b->
   (∃g0,(xJ.o g0).bP=true/\(zO g0).has b/\Jg.o g=xE c.A c.I f (xJ.o g0)/\((g0∈sp.sig.aW/\g=f g0)\/(sp.sig.bg.contains g0=true/\(g0,g)∈c.ren)))\/
   ((stB.o g).bP=true/\(gh g).has b/\g∉c.ren.map (·.2)/\bk g=none/\Jg.o g=stB.o g):=by
  intro g b ho had;rcases Ya g ho with ⟨g0,q1,q2,q3⟩ | ⟨q1,q2,q3⟩
  .exact .inl ⟨g0,q1,by rw [<-q2];exact had,q3⟩
  .exact .inr ⟨q1,by rw [<-q2];exact had,q3⟩
 have acQ :∀b,E'.Wr b->∃p∈c.ren,(gh p.2).has b:=λb hb=>by subst hE';obtain ⟨p,hp,_,h1⟩:=hb;exact ⟨p,hp,h1⟩
 have hEB:E'.B0=w.heap.size:=by subst hE';rfl
 have hEw:E'.w0=w:=by subst hE';rfl
 have hframe :∀b,b<w.heap.size->¬ E'.Wr b->w'.heap[b]?=w.heap[b]?:=λb hb hw=>by
  rw [hx.frame b (by rw [hEB];exact hb) hw,hEw]
 have akp :∀b,(∀p∈c.ren,¬ (gh p.2).has b)->¬ E'.Wr b:=λb hb hw=>by
  obtain ⟨p,hp,e1⟩:=acQ b hw;exact hb p hp e1
 have hsize:w.heap.size<=w'.heap.size:=by rw [<-hEB];exact hx.size
 have FC :∀g,st.used g=true->Jg.o g=.none\/(((bH g).ad=(gh g).ad/\(bH g).cap=(gh g).cap)/\(stB.o g).like (Jg.o g)):=by
  intro g hu;have hb:=hbu g hu;by_cases hm:g∈c.ren.map (·.2)
  .obtain ⟨p,hp,e⟩:=QR.1 hm;subst e;cases hi:sp.sig.bg.contains p.1 with
   |false=>exact .inl (by rw [Nl p hp,hi];rfl)
   |true=>
    refine .inr ⟨by rw [hgi p hp hi];exact aiQ p hp hi,?_⟩;rw [hBr p hp,Nl p hp,hi,if_pos rfl];have hlk:=(VR p.1 (by simpa using hi)).2;rw [aav] at hlk;rcases (iP p hp).2.2.2 with ⟨_,ws,ws1,e,eb⟩ | ⟨a,i,sz,l,e,_,ea⟩ | ⟨a,i,sz,ak,l,e,_,ea⟩
    .obtain ⟨ws',e'⟩:=am4 p.1 hi ⟨_,eb⟩;rw [e,e'];trivial
    .rw [ea] at hlk;rw [e];generalize xJ.o p.1=z at hlk;cases z with
     |none=>trivial
     |arr=>exact hlk
     |aN=>exact hlk.elim
     |box=>exact hlk.elim
     |it=>exact hlk.elim
    .rw [ea] at hlk;rw [e];generalize xJ.o p.1=z at hlk;cases z with
     |none=>trivial
     |arr=>exact hlk
     |aN=>exact hlk
     |box=>exact hlk.elim
     |it=>exact hlk.elim
  .rw [Si g hb hm];exact .inr ⟨by rw [hgo g hb hm];exact ⟨rfl,rfl⟩,O.fF _⟩
 have acR:Lets E stB Jg gh bH w w':=by
  refine ⟨λa i b hb=>⟨⟨hb.1,by have:=hb.2.1;omega,λg ho had=>?_⟩,?_⟩,λg hu=>FC g (by rw [<-hBu];exact hu)⟩
  .rcases hsplit g b ho had with ⟨g0,o0,d0,_,_⟩ | ⟨o0,d0,_⟩
   .have hw0:=(hx.wr g0 b o0 d0).1;rw [hEB] at hw0;rcases hw0 with hw0 | hw0
    .have:=hb.2.1;omega
    .obtain ⟨p,hp,e1⟩:=acQ b hw0;exact hb.2.2 p.2 (by rw [hBr p hp];exact (iP p hp).1) e1
   .exact hb.2.2 g o0 d0
  .exact hframe b hb.2.1 (akp b λp hp e1=>hb.2.2 p.2 (by rw [hBr p hp];exact (iP p hp).1) e1)
 have am5 :∀b,E'.Wr b->E.Wr b->(∀g ws,xJ.o g=.box ws->(zO g).has b->sp.sig.bg.contains g=false)->c.I.2=true:=by
  intro b hb hEb hno;obtain ⟨p,hp,e1⟩:=acQ b hb;rcases (iP p hp).2.2.2 with ⟨hi,ws,ws1,e,eb⟩ | ⟨a,i,sz,l,e,hci,_⟩ | ⟨a,i,sz,ak,l,e,hci,_⟩
  .obtain ⟨ws',e'⟩:=am4 p.1 hi ⟨_,eb⟩;have:=hno p.1 ws' e' (by
    rcases e1 with ⟨ad,k1,k2⟩ | k1
    .exact .inl ⟨ad,by rw [(aiQ p hp hi).1];exact k1,k2⟩
    .rw [h.ns p.2 (iP p hp).1 (by rw [e];rfl) b] at k1;cases k1)
   rw [hi] at this;cases this
  .exact hci.2 (h.wi p.2 i b (by rw [e];rfl) e1 hEb)
  .exact hci.2 (h.wi p.2 i b (by rw [e];rfl) e1 hEb)
 have hcls :∀{a i a' i':Bool} {A:Bool×Bool},(A.1=true->a'=true)->(A.2=true->i'=true)->∀{b:Nat},((A.1=true/\E.FA b)\/(A.2=true/\(E.FI b\/E.Wr b))\/E.B0<=b\/eY.has b)->((a'=true/\E.FA b)\/(i'=true/\(E.FI b\/E.Wr b))\/E.B0<=b\/eY.has b):=by
  intro a i a' i' A h1 h2 b hb;rcases hb with ⟨q1,q2⟩ | ⟨q1,q2⟩ | q
  .exact .inl ⟨h1 q1,q2⟩
  .exact .inr (.inl ⟨h2 q1,q2⟩)
  .exact .inr (.inr q)
 have hcast:Cast (FW c.A c.I sp.sig.mM) bk2 (λ_=>False) E' E xJ Jg zO bH w':=by
  refine ⟨λa i a' i' b hC hb=>?_,λg g' hm sz len ho=>⟨by rw [hgb g' g hm];exact ⟨rfl,rfl⟩,by rw [hFb g' g hm,agw] at ho;exact ho⟩,
   λg g' hm ws ho=>⟨by rw [hgb g' g hm],by rw [hFb g' g hm] at ho;exact agx ho⟩,λg g' hm s n ho=>⟨by rw [hgb g' g hm],by rw [hFb g' g hm] at ho;exact akl ho⟩,λg' hf=>hf.elim⟩
  obtain ⟨hC,hA⟩:=hC;have ha':a'=((a&&c.A.1)||(i&&c.I.1)):=congrArg Prod.fst hC;have hi':i'=((a&&c.A.2)||(i&&c.I.2)):=congrArg Prod.snd hC;have aiR :∀g,(xJ.o g).bP=true->¬ (zO g).has b:=hb.2.2;have hcase:((a'=true/\E.FA b)\/(i'=true/\(E.FI b\/E.Wr b))\/E.B0<=b\/eY.has b)/\(∀g,(stB.o g).bP=true->g∉c.ren.map (·.2)->¬ (gh g).has b):=by
   have hb1:=hb.1;subst hE';rcases hb1 with ⟨ha,hFA⟩ | ⟨hi,hFI | hWr⟩ | hge | hgl
   .have hlk:=hA ha;have hst:stB=st1:=by simp [stB,hlk]
    refine ⟨hcls (a:=a) (i:=i) (A:=c.A) (by intro h;simp [ha',ha,h]) (by intro h;simp [hi',ha,h]) hFA.1,λg ho _=>?_⟩;rw [hst] at ho;exact hFA.2.2 g ho
   .refine ⟨hcls (a:=a) (i:=i) (A:=c.I) (by intro h;simp [ha',hi,h]) (by intro h;simp [hi',hi,h]) hFI.1,λg ho _=>?_⟩;exact hFI.2.2 g (X8 g ho)
   .obtain ⟨p,hp,ow,e1⟩:=hWr;refine ⟨?_,λg ho hng had=>?_⟩
    .rcases (h.wr p.2 b (iP p hp).1 e1).1 with q | q
     .exact .inr (.inr (.inl q))
     .have:=am5 b ⟨p,hp,ow,e1⟩ q λg ws1 o1 d1=>absurd d1 (aiR g (by rw [o1];rfl));exact .inr (.inl ⟨by simp [hi',hi,this],.inr q⟩)
    .have:=h.inj g p.2 b (X8 g ho) (iP p hp).1 had e1;exact hng (this▸QR.2 ⟨p,hp,rfl⟩)
   .refine ⟨.inr (.inr (.inl (J2 h.size hge))),λg ho _ had=>?_⟩;have:=(hRB.wr g b ho had).2;have hge:w.heap.size<=b:=hge;omega
   .refine ⟨.inr (.inr (.inr hgl)),λg ho _ had=>?_⟩;obtain ⟨g1,g2⟩:=E.acr hgl;rcases (hRB.wr g b ho had).1 with q | q
    .omega
    .exact g2 q
  refine ⟨hcase.1,hb.2.1,λg ho had=>?_⟩;rcases hsplit g b ho had with ⟨g0,o0,d0,_,_⟩ | ⟨o0,d0,n0,_⟩
  .exact aiR g0 o0 d0
  .exact hcase.2 g o0 n0 d0
 have aiS :∀g0,mD E Jg bH w' (xE c.A c.I f (xJ.o g0)) (zO g0):=λg0=>hcast.BK (hOut g0).1 (hx.aZ g0);have L9:Rel E Jg bH val w':=by
  refine hRB.step acR (hFs.trans hBs.symm) (λg hg=>hFu g (by rw [<-hBu];exact hg)) (λg=>?_) (λg1 g2 b h1 h2 k1 k2=>?_) (λg b ho had=>?_) (λg i b ho had hw=>?_) (λg ho hd b=>?_) (λb hb hw=>?_) hsize (by rw [hx.os,hEw]) (by rw [hx.tape,hEw]) (by rw [hx.output,hEw]) (λg g' hg'=>?_) (λg hg=>?_)
  .cases hb:bk g with
   |some g0=>
    obtain ⟨b1,b2⟩:=hbs g g0 hb;subst b2;rw [X_ g0 b1,hgn g0 b1];exact aiS g0
   |none=>
    by_cases hm:g∈c.ren.map (·.2)
    .obtain ⟨p,hp,e⟩:=QR.1 hm;subst e;rw [Nl p hp];cases hi:sp.sig.bg.contains p.1 with
     |false=>trivial
     |true=>rw [if_pos rfl,hgi p hp hi];exact aiS p.1
    .rw [Si g hb hm,hgo g hb hm];refine acR.BK (λho b had=>hframe _ (hRB.wr g b ho had).2 (akp _ λp hp e1=>?_)) (λg' hg'=>hRB.uo g g' hg') (hRB.aZ g);have:=h.inj p.2 g b (iP p hp).1 (X8 g ho) e1 had;exact hm (this▸QR.2 ⟨p,hp,rfl⟩)
  .have mixed :∀g1 g2 b g0,(xJ.o g0).bP=true->(zO g0).has b->(stB.o g2).bP=true->(gh g2).has b->g2∉c.ren.map (·.2)->g1=g2:=by
    intro g1 g2 b g0 o1 d1 o2 d2 n2;exfalso;rcases (hx.wr g0 b o1 d1).1 with q | q
    .rw [hEB] at q;have:=(hRB.wr g2 b o2 d2).2;omega
    .obtain ⟨p,hp,e1⟩:=acQ _ q;have:=h.inj p.2 g2 b (iP p hp).1 (X8 g2 o2) e1 d2;exact n2 (this▸QR.2 ⟨p,hp,rfl⟩)
   rcases hsplit g1 b h1 k1 with ⟨q1,o1,d1,_,l1⟩ | ⟨o1,d1,n1,_⟩<;>rcases hsplit g2 b h2 k2 with ⟨q2,o2,d2,_,l2⟩ | ⟨o2,d2,n2,_⟩
   .have:=hx.inj q1 q2 b o1 o2 d1 d2;subst this;rcases l1 with ⟨m1,e1⟩ | ⟨i1,m1⟩<;>rcases l2 with ⟨m2,e2⟩ | ⟨i2,m2⟩
    .rw [e1,e2]
    .rw [akm q1 m1] at i2;cases i2
    .rw [akm q1 m2] at i1;cases i1
    .have l1:=(iP _ m1).2.2.1;have l2:=(iP _ m2).2.2.1;rw [l1] at l2;exact Wc l2
   .exact mixed g1 g2 b q1 o1 d1 o2 d2 n2
   .exact (mixed g2 g1 b q2 o2 d2 o1 d1 n1).symm
   .exact hRB.inj g1 g2 b o1 o2 d1 d2
  .rcases hsplit g b ho had with ⟨g0,o0,d0,_,_⟩ | ⟨o0,d0,_⟩
   .have:=hx.wr g0 b o0 d0;refine ⟨?_,this.2⟩;rcases this.1 with q | q
    .rw [hEB] at q;exact .inl (J2 h.size q)
    .obtain ⟨p,hp,e1⟩:=acQ _ q;exact (h.wr p.2 b (iP p hp).1 e1).1
   .have:=hRB.wr g b o0 d0;exact ⟨this.1,by omega⟩
  .rcases hsplit g b (O.kZ ho) had with ⟨g0,o0,d0,e0,l0⟩ | ⟨o0,d0,_,_,e0⟩
   .rw [e0] at ho;obtain ⟨a1,i1,h1,e2⟩:=aas ho;have hlt:b<w.heap.size:=by have:=h.wb _ hw;have:=h.size;omega
    rcases (hx.wr g0 b o0 d0).1 with q | q
    .rw [hEB] at q;omega
    .have hi1:=hx.wi g0 i1 b h1 d0 q;have:=am5 b q hw λg3 ws3 o3 d3=>by
      have:=hx.inj g3 g0 b (by rw [o3];rfl) o0 d3 d0;subst this;rw [o3] at h1;cases h1
     rw [e2];simp [qN,hi1,this]
   .rw [e0] at ho;exact hRB.wi g i b ho d0 hw
  .rcases Ya g ho with ⟨g0,o0,e,e0,_⟩ | ⟨o0,e,_,_,e0⟩
   .rw [e];exact hx.ns g0 o0 (by rw [e0,VP] at hd;exact hd) b
   .rw [e];exact hRB.ns g o0 (by rw [e0] at hd;exact hd) b
  .refine hframe b (WN hb h.size) (akp b λp hp e1=>?_);rcases (h.wr p.2 b (iP p hp).1 e1).1 with q | q
   .omega
   .exact hw q
  .cases hb:bk g with
   |some g0=>
    obtain ⟨b1,b2⟩:=hbs g g0 hb;subst b2;rw [X_ g0 b1] at hg';obtain ⟨g1,m1,rfl⟩:=(hOut g0).2 g' hg';exact acP g1 m1
   |none=>
    by_cases hm:g∈c.ren.map (·.2)
    .obtain ⟨p,hp,e⟩:=QR.1 hm;subst e;rw [Nl p hp] at hg';cases hi:sp.sig.bg.contains p.1 with
     |false=>rw [hi] at hg';simp [O.names] at hg'
     |true=>
      rw [hi,if_pos rfl] at hg';obtain ⟨g1,m1,rfl⟩:=(hOut p.1).2 g' hg';exact acP g1 m1
    .rw [Si g hb hm] at hg';exact hFu g' (by rw [<-hBu];exact hRB.uo g g' hg')
  .cases hb:bk g with
   |some g0=>
    obtain ⟨b1,b2⟩:=hbs g g0 hb;subst b2;exact hFn g0 b1
   |none=>
    by_cases hm:g∈c.ren.map (·.2)
    .obtain ⟨p,hp,e⟩:=QR.1 hm;subst e;exact hFu _ (X9 p hp)
    .rw [Si g hb hm] at hg;exact hFu g (by rw [<-hBu];exact hRB.ul g hg)
 have am6 :∀k,rG E Jg bH w' (X0 c.A c.I f (xJ.s k)) (rs.getD k undef)/\∀g∈(X0 c.A c.I f (xJ.s k)).names,∃g1∈sp.sig.aW++sp.sig.bg,g=f g1:=by
  intro k;have hk:=hx.slots k;subst aav;have e0:(mk sp.sig.aT dG).s k=match (dI dG 0 sp.sig.aT.slots).1.lookup k with | some x=>x | none=>.no:=rfl
  cases hxk:(dI dG 0 sp.sig.aT.slots).1.lookup k with
  |none=>
   rw [e0,hxk];exact ⟨.one _ _ (.no _),by simp [X0,V.names,W.names]⟩
  |some x=>
   rw [hxk] at e0;rw [e0] at hk ⊢;obtain ⟨kk,n',h1,h2⟩:=xZ hxk;obtain ⟨y,e,h3,h4⟩:=amY (vs:=dG) (A:=c.A) (I:=c.I) hb2 ((Z0.1 hos) _ h1) (aqL k kk h1) n';simp only [h2,e] at hk ⊢;cases hk with | v _ _ hk=>exact ⟨hcast.Z9 h3 hk,h4⟩
 refine ⟨bH,L9,⟨λa i b hb=>?_,λg hu=>?_⟩,?_,?_⟩
 .obtain ⟨q1,q2⟩:=hLB.ok a i b hb;exact acR.ok a i b q1
 .rcases FC g hu with q | ⟨q1,q2⟩
  .exact .inl q
  .rcases hLB.names g hu with q | ⟨_,q⟩
   .rw [q] at q2;rcases O.Je (x:=.none) (O.fF _) q2 with q | q
    .exact .inl q
    .exact .inl (O.Nk q)
   .rcases O.Je q q2 with q | q
    .exact .inl q
    .exact .inr ⟨q1,q⟩
 .rw [am1];have hl:((List.range sp.sig.dD).map λk=>X0 c.A c.I f (xJ.s k)).length=rs.length:=by simp [hrl]
  have hj :∀(j:Nat) x v,((List.range sp.sig.dD).map λk=>X0 c.A c.I f (xJ.s k))[j]?=some x->rs[j]?=some v->rG E Jg bH w' x v:=by
   intro j x v hx' hv;rw [Ys] at hx';obtain ⟨k,hk,rfl⟩:=W0.1 hx';obtain ⟨hlt,hk⟩:=Q3.1 hk;simp at hk;subst hk;have:=(am6 j).1
   rwa [List.getD_eq_getElem?_getD,hv] at this
  generalize (List.range sp.sig.dD).map (λk=>X0 c.A c.I f (xJ.s k))=xs at hl hj;unfold aal aan
  match xs,rs,hl,hj with
  | [],[],_,hj=>exact .jD _ _ rfl hj
  | [x],[v],_,hj=>exact .v _ _ (hj 0 x v rfl rfl)
  |x::y::xs,v::u::vs,hl,hj=>exact .jD _ _ hl hj
 .intro g hg;have :∃k,g∈(X0 c.A c.I f (xJ.s k)).names:=by
   rw [am1] at hg;generalize hxs:(List.range sp.sig.dD).map (λk=>X0 c.A c.I f (xJ.s k))=xs at hg;have hin :∃x∈xs,g∈x.names:=by
    unfold aal at hg;split at hg
    .exact ⟨_,by simp,hg⟩
    .simpa [S.names,YY] using hg
   obtain ⟨x,hx1,hx2⟩:=hin;rw [<-hxs] at hx1;obtain ⟨k,_,rfl⟩:=QR.1 hx1;exact ⟨k,hx2⟩
  obtain ⟨k,hk⟩:=this;obtain ⟨g1,m1,rfl⟩:=(am6 k).2 g hk;exact acP g1 m1
theorem VU{Pg:Program}{fn:FuncId}{sp:Spec}(hs:Sound Pg fn sp)(h:Rel E st gh val w){args:List S}{vals:List Value}(hr :∀t,dJ E st gh w (args.getD t .no) (vals.getD t undef))(hlen:vals.length=sp.sig.bn)
  {c:M_} (hc:iT sp.sig st.o args=some c) (hf:c.fine sp.sig=true) {dG:List P} (hR:sp.R c.ins dG) (d:Nat)
  {ef:Eff} (hef:ef=kV sp.sig d st.o c dG) (hnew :∀g∈ef.new,st.used g=false) :
  Calls Pg fn vals.toArray w λe w' =>∃v bH,e=.returned v/\Rel E (st.aJ ef.aJ ef.new) bH val w'/\Lets E st (st.aJ ef.aJ ef.new) gh bH w w'/\dJ E (st.aJ ef.aJ ef.new) bH w' ef.x v/\∀g∈ef.x.names,(st.aJ ef.aJ ef.new).used g=true:=by
 obtain ⟨E',ny,q1,q2,q3,_,q4⟩:=aau hs.1 h hr hc hf;refine Calls.mono (hs.2.2 E' w vals ny c.ins dG hR q1 q2 q3 hlen) λe w' he=>?_;obtain ⟨rs,zO,hrl,rfl,hx,VR⟩:=he;obtain ⟨bH,r1,r2,r3,r4⟩:=q4 d dG ef hef hnew w' rs zO hrl hx VR;exact ⟨_,bH,rfl,r1,r2,r3,r4⟩
end
end Go.Fw

namespace Go.Fw
variable [eY]
section
variable {o o':Nat->O}
theorem Ej{g:Nat}{x:Bool×Bool×Nat×List (List P)}(h:plainO o g=some x):(o g).names=(o g).hn/\∀d∈(o g).hn,(o d).hn=[]:=by
 obtain ⟨a,i,sz,l⟩:=x;rcases vP h with ⟨fz,h⟩ | ⟨ak,h⟩ | ⟨a0,i0,ak,l0,n,c,d,fz',a',i',sz',l',h,hd,_⟩
 .rw [h];exact ⟨rfl,λd hd=>by cases hd⟩
 .rw [h];exact ⟨rfl,λd hd=>by cases hd⟩
 .rw [h];refine ⟨rfl,λd' hd'=>?_⟩;simp only [O.hn,dA,QP] at hd';subst hd';rw [hd];rfl
theorem O9{g:Nat}(h:Agree o o' g):aU o g=aU o' g:=by simp only [aU,BM h,h.1]
theorem Sj{g d:Nat}(h:Agree o o' g){x:Bool×Bool×Nat×List (List P)}(hp:plainO o g=some x)(hd:d∈(o g).hn):Agree o o' d:=by
 refine ⟨h.2 d hd,λd' hd'=>?_⟩;rw [(Ej hp).2 d hd] at hd';cases hd'
theorem Em{x:W}(h :∀g∈x.names,Agree o o' g):x.toP o=x.toP o':=by
 cases x<;>simp only [W.toP]<;>(try rw [BM (h _ (by simp [W.names])),(h _ (by simp [W.names])).1])
theorem Az{x:W}{y:P}{a i:Bool}{gs:List Nat}(h:x.toP o=some (y,a,i,gs))(hx :∀g∈x.names,Agree o o' g) :∀g∈gs,Agree o o' g:=by
 cases x<;>simp only [W.toP] at h
 case p=>simp only [Q0,Q1] at h;obtain ⟨_,_,_,rfl⟩:=h;simp
 case dw=>simp only [Q0,Q1] at h;obtain ⟨_,_,_,rfl⟩:=h;simp
 case own g=>
  split at h
  .rename_i hp;simp only [Q0,Q1] at h;obtain ⟨_,_,_,rfl⟩:=h;have hg:=hx g (by simp [W.names]);rw [(Ej hp).1];intro d hd;rcases Xs.1 hd with hd | hd
   .exact Sj hg hp hd
   .rw [QP] at hd;subst hd;exact hg
  .cases h
 case vw g lo hi=>
  split at h
  .rename_i hp;simp only [Q0,Q1] at h;obtain ⟨_,_,_,rfl⟩:=h;have hg:=hx g (by simp [W.names]);rw [(Ej hp).1];intro d hd;rcases Xs.1 hd with hd | hd
   .exact Sj hg hp hd
   .rw [QP] at hd;subst hd;exact hg
  .cases h
 all_goals cases h
theorem qO :∀{xs:List W},(∀x∈xs,∀g∈x.names,Agree o o' g)->sO o xs=sO o' xs
 | [],_=>rfl
 |x::xs,h=>by simp only [sO];rw [Em (h x (by simp)),qO λy hy=>h y (by simp [hy])]
theorem yg :∀{xs:List W} {ys:List P} {a i:Bool} {gs:List Nat},sO o xs=some (ys,a,i,gs)->(∀x∈xs,∀g∈x.names,Agree o o' g)->∀g∈gs,Agree o o' g
 | [],ys,a,i,gs,h,_=>by simp [sO] at h;obtain ⟨_,_,_,rfl⟩:=h;simp
 |x::xs,ys,a,i,gs,h,hx=>by
  simp only [sO] at h;split at h
  .rename_i h1 h2;simp only [Q0,Q1] at h;obtain ⟨_,_,_,rfl⟩:=h;intro g hg;rcases Xs.1 hg with hg | hg
   .exact Az h1 (hx x (by simp)) g hg
   .exact yg h2 (λy hy=>hx y (by simp [hy])) g hg
  .cases h
theorem nR{gs:List Nat}(h :∀g∈gs,Agree o o' g):gs.map (aU o)=gs.map (aU o'):=
 ZS λg hg=>O9 (h g hg)
theorem Jh{sz:Nat}{x:W}(h :∀g∈x.names,o g=o' g):x.rows o sz=x.rows o' sz:=by
 cases x<;>simp only [W.rows]<;>(try rw [h _ (by simp [W.names])])
theorem FY{x:W}(h :∀g∈x.names,o g=o' g):lenOf o x=lenOf o' x:=by
 cases x<;>simp only [lenOf]<;>(try rw [h _ (by simp [W.names])])
theorem AA{x:W}(h :∀g∈x.names,o g=o' g):x.live o=x.live o':=by
 cases x<;>simp only [W.live]<;>(try rw [h _ (by simp [W.names])])
theorem O_{tt:TT}{d:Nat}{sT:TypeId}{s x:W}(hs :∀g∈s.names,o g=o' g)(h :∀g∈x.names,o g=o' g):vJ tt d o sT s x=vJ tt d o' sT s x:=by
 unfold vJ;split
 .split
  .split
   .rfl
   .rw [Jh h];split
    .rfl
    .cases s<;>simp only<;>(try rw [hs _ (by simp [W.names])])
  .rfl
 .rfl
theorem AB{place:Nat->Option (Nat×Nat)} :∀{ps:List (Nat×S)} {VW ws:List W},mF place VW ps=some ws->∀x∈ws,x∈VW\/∃p∈ps,∀g∈x.names,g∈p.2.names
 | [],VW,ws,h=>by simp only [mF,Q0] at h;subst h;intro x hx;exact .inl hx
 |(n,s)::ps,VW,ws,h=>by
  cases s with
  |v y=>
   simp only [mF] at h;split at h
   .split at h
    .intro x hx;rcases AB h x hx with hx | ⟨p,hp,hg⟩
     .unfold aS at hx;rcases Xs.1 hx with hx | hx
      .rcases Xs.1 hx with hx | hx
       .exact .inl (ZZ hx)
       .refine .inr ⟨(n,.v y),by simp,λg hg=>?_⟩;cases y with
        |one y=>simp only [V.words,QP] at hx;subst hx;simpa [S.names,V.names] using hg
        |agg ys=>simp only [V.words] at hx;simp only [S.names,V.names,YY];exact ⟨x,hx,hg⟩
      .exact .inl (V0 hx)
     .exact .inr ⟨p,by simp [hp],hg⟩
    .cases h
   .cases h
  |jD=>simp [mF] at h
  |no=>simp [mF] at h
theorem FZ{y:V}{x:W}(h:x∈y.words){g:Nat}(hg:g∈x.names):g∈(S.v y).names:=by
 cases y with
 |one y=>simp only [V.words,QP] at h;subst h;simpa [S.names,V.names] using hg
 |agg ys=>simp only [V.words] at h;simp only [S.names,V.names,YY];exact ⟨x,h,hg⟩
theorem Cm{tt:TT}{d:Nat}{F F':Operand->S}{op:Op}{ty:TypeId}(hF :∀x∈op.operands.toList,F x=F' x)(hO :∀x∈op.operands.toList,∀g∈(F x).names,Agree o o' g) :
  kernel tt d o F op ty=kernel tt d o' F' op ty:=by
 have ho :∀x∈op.operands.toList,∀g∈(F x).names,o g=o' g:=λx hx g hg=>(hO x hx g hg).1;cases op with
 |move x=>simp only [kernel,<-hF x (by simp [Op.operands])]
 |assign x=>simp only [kernel,<-hF x (by simp [Op.operands])]
 |pick c x y=>simp only [kernel,<-hF c (by simp [Op.operands]),<-hF x (by simp [Op.operands]),<-hF y (by simp [Op.operands])]
 |alloc t=>rfl
 |box t x=>simp only [kernel,<-hF x (by simp [Op.operands])]
 |build t ps=>
  have e:ps.toList.map (λp=>(p.1,F p.2))=ps.toList.map (λp=>(p.1,F' p.2)):=ZS λp hp=>by
   rw [hF p.2 (by simp only [Op.operands];exact QR.2 ⟨p,hp,rfl⟩)]
  simp only [kernel,<-e]
 |buildSlice t n ps=>
  have e:ps.toList.map (λp=>(p.1,F p.2))=ps.toList.map (λp=>(p.1,F' p.2)):=ZS λp hp=>by
   rw [hF p.2 (by simp only [Op.operands];exact QR.2 ⟨p,hp,rfl⟩)]
  simp only [kernel,<-e];split
  .split
   .rename_i ie _;split
    .rename_i ws hws;have hn :∀x∈ws,∀g∈x.names,Agree o o' g:=by
      intro x hx g hg;rcases AB hws x hx with h | ⟨p,hp,h⟩
      .have:=rP h;obtain ⟨v,_,rfl⟩:=QR.1 this;rw [nN] at hg;cases hg
      .obtain ⟨q,hq,rfl⟩:=QR.1 hp;exact hO q.2 (by simp only [Op.operands];exact QR.2 ⟨q,hq,rfl⟩) g (h g hg)
     rw [<-qO hn];split
     .rename_i h;rw [nR (yg h hn)]
     .rfl
    .rfl
   .rfl
  .rfl
 |load t x=>
  have hx:=hF x (by simp [Op.operands]);have hn:=ho x (by simp [Op.operands]);simp only [kernel,<-hx];generalize F x=sx at hn;split<;>simp_all [S.names,V.names,W.names]
 |store t x y=>
  have hx:=hF x (by simp [Op.operands]);have hy:=hF y (by simp [Op.operands]);have hn:=ho x (by simp [Op.operands]);have hm:=hO y (by simp [Op.operands]);simp only [kernel,<-hx,<-hy];generalize F x=sx at hn;generalize F y=sy at hm;split
  .rename_i g off y _;rw [hn g (by simp [S.names,V.names,W.names])]
  .rename_i g n off y _;rw [hn g (by simp [S.names,V.names,W.names])];have hw :∀x∈y.words,∀g∈x.names,Agree o o' g:=λx hx g hg=>hm g (FZ hx hg);rw [<-qO hw];cases hz:sO o y.words with
   |none=>cases o' g with | arr fz _ _ _ _=>cases fz<;>rfl | _=>rfl
   |some z=>
    obtain ⟨ps,a',i'',gs⟩:=z;have e:=nR (yg hz hw);cases o' g with
    |arr fz _ _ _ _=>cases fz<;>simp only [e]
    |_=>rfl
  .rfl
 |nilCheck x=>
  have hx:=hF x (by simp [Op.operands]);have hn:=ho x (by simp [Op.operands]);simp only [kernel,<-hx];generalize F x=sx at hn;split
  .rw [AA λg hg=>hn g (by simpa [S.names,V.names] using hg)]
  .rfl
 |binOp op t x y u=>simp only [kernel,<-hF x (by simp [Op.operands]),<-hF y (by simp [Op.operands])]
 |unOp op t x=>simp only [kernel,<-hF x (by simp [Op.operands])]
 |convert s t x=>
  have hx:=hF x (by simp [Op.operands]);have hn:=ho x (by simp [Op.operands]);simp only [kernel,<-hx];generalize F x=sx at hn;split
  .rfl
  .rw [Jh λg hg=>hn g (by simpa [S.names,V.names] using hg)]
  .rfl
  .rfl
 |makeSlice t n c=>
  simp only [kernel,<-hF n (by simp [Op.operands]),<-hF c (by simp [Op.operands])];split
  .split
   .rename_i ie _;have:sO o (ie.zero.map cv)=sO o' (ie.zero.map cv):=qO λx hx g hg=>by
     obtain ⟨v,_,rfl⟩:=QR.1 hx;rw [nN] at hg;cases hg
    rw [this]
   .rfl
  .rfl
 |slice t x lo hi mx=>
  cases mx with
  |some m=>cases lo with
   |some l=>simp only [kernel]
   |none=>cases hi with
    |none=>simp only [kernel]
    |some h=>
     have hx:=hF x (by simp [Op.operands]);have hn:=ho x (by simp [Op.operands]);simp only [kernel,<-hx,<-hF h (by simp [Op.operands]),<-hF m (by simp [Op.operands])];generalize F x=sx at hn;unfold BN;split
     .rename_i g _ _ h' _ _ m' _ _ _;rw [hn g (by simp [S.names,V.names,W.names])]
     .rfl
     .rfl
  |none=>
   have hx:=hF x (by simp [Op.operands]);have hn:=ho x (by simp [Op.operands]);have hlo:lo.map F=lo.map F':=by
    cases lo with
    |none=>rfl
    |some l=>simp [hF l (by simp [Op.operands])]
   have hhi:hi.map F=hi.map F':=by
    cases hi with
    |none=>rfl
    |some l=>simp [hF l (by simp [Op.operands])]
   simp only [kernel,<-hx,<-hlo,<-hhi];generalize F x=sx at hn;split
   .rename_i x _;have hn :∀g∈x.names,o g=o' g:=λg hg=>hn g (by simpa [S.names,V.names] using hg);rw [<-FY hn];split
    .split
     .split
      .rw [hn _ (by simp [W.names])]
      all_goals rfl
     .rfl
    .rfl
   .rfl
   .rfl
 |fieldAddr t x n=>
  have hx:=hF x (by simp [Op.operands]);have hn:=ho x (by simp [Op.operands]);simp only [kernel,<-hx];generalize F x=sx at hn;split
  .rw [AA λg hg=>hn g (by simpa [S.names,V.names] using hg)]
  .rfl
 |field t x n=>simp only [kernel,<-hF x (by simp [Op.operands])]
 |indexAddr t x ix=>
  have hx:=hF x (by simp [Op.operands]);have hn:=ho x (by simp [Op.operands]);simp only [kernel,<-hx,<-hF ix (by simp [Op.operands])];generalize F x=sx at hn;split
  .rename_i x a i n _ _;have hn :∀g∈x.names,o g=o' g:=λg hg=>hn g (by simpa [S.names,V.names] using hg);split
   .rw [hn _ (by simp [W.names])]
   .rw [hn _ (by simp [W.names])]
   all_goals rfl
  .rfl
  .rw [AA λg hg=>hn g (by simpa [S.names,V.names] using hg)]
  .rfl
 |index t x ix=>simp only [kernel,<-hF x (by simp [Op.operands]),<-hF ix (by simp [Op.operands])]
 |extract t n=>simp only [kernel,<-hF t (by simp [Op.operands])]
 |range t x=>simp only [kernel,<-hF x (by simp [Op.operands])]
 |makeFunc fn first caps=>
  cases fn with
  |func g=>
   simp only [kernel];have hc :∀x∈caps.toList,F x=F' x:=λx hx=>hF x (by simp [Op.operands];exact .inr (by simpa using hx));have :∀l:List Operand,(∀x∈l,F x=F' x)->∀(G:Option (List W)->Option BL),G (l.mapM (λx=>match F x with | .v (.one w)=>some w | _=>none))=G (l.mapM (λx=>match F' x with | .v (.one w)=>some w | _=>none)):=by
    intro l hl G;congr 1
    induction l with
    |nil=>rfl
    |cons x l ih=>
     simp only [ve];rw [hl x (by simp),ih λy hy=>hl y (by simp [hy])]
   split
   .exact this _ hc λz=>match z with | some ws=>some (.pure (.v (.one (.clo g ws)))) | none=>none
   .rfl
  |_=>rfl
 |call c=>
  obtain ⟨callee,args,ts⟩:=c;have ha :∀x∈args.toList,F x=F' x:=λx hx=>hF x (by simp [Op.operands,Call.operands];exact .inr (by simpa using hx));have hb :∀x∈args.toList,∀g∈(F x).names,o g=o' g:=λx hx=>ho x (by simp [Op.operands,Call.operands];exact .inr (by simpa using hx));cases callee with
  |builtin b=>
   cases b with
   |append=>
    simp only [kernel];split
    .rename_i s x sT xT _ hl _;have hs:=ha s (by rw [hl];simp);have hx:=ha x (by rw [hl];simp);have ns:=hb s (by rw [hl];simp);have nx:=hb x (by rw [hl];simp);rw [<-hs,<-hx];generalize F s=ss at ns;generalize F x=sx at nx;split
     .exact O_ (λg hg=>ns g (by simpa [S.names,V.names] using hg)) (λg hg=>nx g (by simpa [S.names,V.names] using hg))
     .rfl
    .rfl
   |clear=>
    simp only [kernel];split
    .rename_i x t tl hl _;have hx:=ha x (by rw [hl];simp);have nx:=hb x (by rw [hl];simp);rw [<-hx];generalize F x=sx at nx;unfold OD;split
     .rename_i e _ _ _ g lo hi _;rw [nx g (by simp [S.names,V.names,W.names])];split
      .rename_i ie _ _ _ _ _ _;have:sO o (ie.zero.map cv)=sO o' (ie.zero.map cv):=qO λx hx g hg=>by
        obtain ⟨v,_,rfl⟩:=QR.1 hx;rw [nN] at hg;cases hg
       rw [this]
      .rfl
     .rfl
    .rfl
   |len=>
    simp only [kernel];split
    .rename_i x t hl _;have hx:=ha x (by rw [hl];simp);have nx:=hb x (by rw [hl];simp);rw [<-hx];generalize F x=sx at nx;split
     .rw [FY λg hg=>nx g (by simpa [S.names,V.names] using hg)]
     .rfl
     .rfl
    .rfl
   |min=>
    simp only [kernel];split
    .rename_i x y hl;rw [ha x (by rw [hl];simp),ha y (by rw [hl];simp)]
    .rename_i x y z hl;rw [ha x (by rw [hl];simp),ha y (by rw [hl];simp),ha z (by rw [hl];simp)]
    .rfl
   |max=>
    simp only [kernel];split
    .rename_i x y hl;rw [ha x (by rw [hl];simp),ha y (by rw [hl];simp)]
    .rename_i x y z hl;rw [ha x (by rw [hl];simp),ha y (by rw [hl];simp),ha z (by rw [hl];simp)]
    .rfl
   |_=>rfl
  |_=>rfl
 |_=>rfl
theorem zl{col:Nat->Option Nat} :∀{xs:List W} {j:Nat},(∀x∈xs,∀g∈x.names,Agree o o' g)->QW o col j xs=QW o' col j xs
 | [],_,_=>rfl
 |x::xs,j,h=>by
  have hx:=h x (by simp);simp only [QW];rw [zl λy hy=>h y (by simp [hy]),Em hx];cases x with
  |own e=>simp only [(hx e (by simp [W.names])).1]
  |_=>rfl
theorem AL{col:Nat->Option Nat} :∀{xs:List W} {j:Nat} {ys:List P} {a i:Bool} {gs:List Nat} {es:List (Nat×Nat)},QW o col j xs=some (ys,a,i,gs,es)->(∀x∈xs,∀g∈x.names,Agree o o' g)->∀g∈gs,Agree o o' g
 | [],j,ys,a,i,gs,es,h,_=>by simp [QW] at h;obtain ⟨_,_,_,rfl,_⟩:=h;simp
 |x::xs,j,ys,a,i,gs,es,h,hx=>by
  simp only [QW] at h;split at h
  .cases h
  .rename_i ys' a' i' gs' es' h2;have ih:=AL h2 (λy hy=>hx y (by simp [hy]));split at h
   .split at h
    .rename_i h1;simp only [Q0,Q1] at h;obtain ⟨_,_,_,rfl,_⟩:=h;intro g hg;rcases Xs.1 hg with hg | hg
     .exact Az h1 (hx x (by simp)) g hg
     .exact ih g hg
    .cases h
   .split at h
    .simp only [Q0,Q1] at h;obtain ⟨_,_,_,rfl,_⟩:=h;exact ih
    .split at h
     .split at h
      .simp only [Q0,Q1] at h;obtain ⟨_,_,_,rfl,_⟩:=h;exact ih
      .cases h
     .cases h
    .cases h
theorem Sl{x:W}(h :∀g∈x.names,Agree o o' g):baseD o x=baseD o' x:=by
 cases x<;>simp only [baseD]<;>(try rw [nC (h _ (by simp [W.names])),(h _ (by simp [W.names])).1])
theorem L_{tt:TT}{dc:List (Nat×Nat)}{d:Nat}{F F':Operand->S}{op:Op}{ty:TypeId}(hF :∀x∈op.operands.toList,F x=F' x)(hO :∀x∈op.operands.toList,∀g∈(F x).names,Agree o o' g) :
  dN tt dc d o F op ty=dN tt dc d o' F' op ty:=by
 cases op with
 |load t x=>
  have hx:=hF x (by simp [Op.operands]);have hn:=hO x (by simp [Op.operands]);simp only [dN,tq,<-hx];generalize F x=sx at hn;congr 1
  .split
   .have hg:=hn _ (by simp [S.names,V.names,W.names];rfl);rw [<-nC hg]
   .rfl
  .split
   .have hg:=hn _ (by simp [S.names,V.names,W.names];rfl);rw [<-nC hg,<-hg.1]
   .rfl
 |slice t x lo hi mx=>
  cases lo with
  |some _=>rfl
  |none=>
  cases mx with
  |some _=>rfl
  |none=>
  have hx:=hF x (by simp [Op.operands]);have hn:=hO x (by simp [Op.operands]);have hh:hi.map F=hi.map F':=by
   cases hi with
   |none=>rfl
   |some y=>simp only [Z6,Q0];exact hF y (by simp [Op.operands])
  simp only [dN,<-hx,<-hh];generalize F x=sx at hn;split
  .have hg:=hn _ (by simp [S.names,V.names,W.names];rfl);rw [<-hg.1]
  .rfl
 |store t x y=>
  have hx:=hF x (by simp [Op.operands]);have hy:=hF y (by simp [Op.operands]);have hn:=hO x (by simp [Op.operands]);have hm:=hO y (by simp [Op.operands]);simp only [dN,<-hx,<-hy];generalize F x=sx at hn;generalize F y=sy at hm;split
  .rename_i g off y _;have hg:=hn _ (by simp [S.names,V.names,W.names];rfl);have hw :∀x∈y.words,∀g∈x.names,Agree o o' g:=λx hx g hg=>hm g (FZ hx hg);rw [<-nC hg,<-hg.1];split
   .rename_i a0 i0 sz ak l0 hole _;rw [<-zl hw];split
    .rename_i ps a' i' gs es hz;rw [nR (AL hz hw)]
    .rfl
   .rfl
  .rfl
 |buildSlice t n ps=>
  have e:ps.toList.map (λp=>(p.1,F p.2))=ps.toList.map (λp=>(p.1,F' p.2)):=ZS λp hp=>by
   rw [hF p.2 (by simp only [Op.operands];exact QR.2 ⟨p,hp,rfl⟩)]
  simp only [dN,<-e];split
  .split
   .rename_i ie _;split
    .rename_i ws hws;have hn :∀x∈ws,∀g∈x.names,Agree o o' g:=by
      intro x hx g hg;rcases AB hws x hx with h | ⟨p,hp,h⟩
      .have:=rP h;obtain ⟨v,_,rfl⟩:=QR.1 this;rw [nN] at hg;cases hg
      .obtain ⟨q,hq,rfl⟩:=QR.1 hp;exact hO q.2 (by simp only [Op.operands];exact QR.2 ⟨q,hq,rfl⟩) g (h g hg)
     rw [<-zl hn];split
     .rename_i h;rw [nR (AL h hn)]
     .rfl
    .rfl
   .rfl
  .rfl
 |makeSlice t n c=>
  simp only [dN,<-hF n (by simp [Op.operands]),<-hF c (by simp [Op.operands])];split
  .split
   .rename_i ie _;have :∀col,QW o col 0 (ie.zero.map cv)=QW o' col 0 (ie.zero.map cv):=λcol=>zl λx hx g hg=>by
     obtain ⟨v,_,rfl⟩:=QR.1 hx;rw [nN] at hg;cases hg
    rw [this]
   .rfl
  .rfl
 |call c=>
  obtain ⟨callee,args,ts⟩:=c;have ha :∀x∈args.toList,F x=F' x:=λx hx=>hF x (by simp [Op.operands,Call.operands];exact .inr (by simpa using hx));have hb :∀x∈args.toList,∀g∈(F x).names,Agree o o' g:=λx hx=>hO x (by simp [Op.operands,Call.operands];exact .inr (by simpa using hx));cases callee with
  |builtin b=>
   cases b with
   |append=>
    simp only [dN];split
    .rename_i s x sT xT _ hl _;have hs:=ha s (by rw [hl];simp);have hx:=ha x (by rw [hl];simp);have ns:=hb s (by rw [hl];simp);have nx:=hb x (by rw [hl];simp);rw [<-hs,<-hx];generalize F s=ss at ns;generalize F x=sx at nx;split
     .rename_i s' g2 _ _;have hg:=nx g2 (by simp [S.names,V.names,W.names]);rw [<-Sl (λg hg=>ns g (by simpa [S.names,V.names] using hg)),<-nC hg,<-hg.1]
     .rfl
    .rfl
   |_=>rfl
  |_=>rfl
 |_=>rfl
end
end Go.Fw

namespace Go.Fw
open Go.RowKit
variable [eY]
def quiet:Obj->Bool
 |.loop _=>true
 |.deferred _=>true
 |_=>false
theorem kG{o:Obj}(h:quiet o=true) :∀c e f,o≠.cells c e f:=by intro c e f e';subst e';cases h
theorem Ji{o:Obj}(h:quiet o=true) :∀s k,o≠.stringIter s k:=by intro s k e';subst e';cases h
section
variable {w w':World} {b:Nat} {o:Obj}
theorem Jj{a:Addr}{v:Value}(h:w.cell? a=some v) :∃c e f,w.heap[a.block]?=some (.cells c e f):=by
 obtain ⟨o,ho,hc⟩:=cells_of_cell h;cases o<;>first | exact ⟨_,_,_,ho⟩ | cases hc
theorem cO.turn(hb:w.heap[b]?=some o)(hq:quiet o=true)(hs :∀k,k≠b->w'.heap[k]?=w.heap[k]?){ok:Nat->Prop}{x:P}{v:Value}(r:cO w ok x v):cO w' ok x v:=by
 have ne :∀{k c e f},w.heap[k]?=some (.cells c e f)->k≠b:=λhk e'=>by subst e';rw [hb] at hk;exact kG hq _ _ _ (Wc hk)
 induction r with
 |int k n=>exact .int k n
 |bool b=>exact .bool b
 |str s=>exact .str s
 |opq v h=>exact .opq v h
 |nil sz ao cap=>exact .nil sz ao cap
 |sl sz l a cap f hs' hok hcap hlen hc hr ih=>
  refine .sl sz l a cap f hs' hok hcap hlen (λi x hx j y hy=>?_) (λi x hx j y hy=>ih i x hx j y hy);have h0:=hc i x hx j y hy;obtain ⟨c,e,f,hk⟩:=Jj h0;rw [<-h0];exact World.cell?_of_block (w:=w) (hs _ (ne hk))
 |seq l v S hv hS hq'=>
  exact .seq l v S hv (λb' hb'=>⟨(hS b' hb').1,by obtain ⟨c,e,f,hk⟩:=(hS b' hb').2;exact ⟨c,e,f,(hs _ (ne hk)).trans hk⟩⟩)
   (eY.XU (λb' hb'=>by obtain ⟨c,e,f,hk⟩:=(hS b' hb').2;exact hs _ (ne hk)) hq')
variable {E:Env} {st:St} {gh:Nat->Gh}
theorem zn(hz:w'.heap.size=w.heap.size){a i:Bool}:E.ok st gh w a i=E.ok st gh w' a i:=by
 funext b;unfold Env.ok;rw [hz]
theorem fD.turn(hb:w.heap[b]?=some o)(hq:quiet o=true)(hs :∀k,k≠b->w'.heap[k]?=w.heap[k]?)(hz:w'.heap.size=w.heap.size){x:W}{v:Value}(r:fD E st gh w x v):fD E st gh w' x v:=by
 induction r with
 |p a i x v h=>exact .p a i x v (by rw [<-zn hz];exact h.turn hb hq hs)
 |dw=>exact .dw
 |own g v hv h=>exact .own g v hv h
 |vw g lo hi v hv h=>exact .vw g lo hi v hv h
 |box g off v hv h=>exact .box g off v hv h
 |ep g n off v hv h=>exact .ep g n off v hv h
 |sp a i row off b' o' hb' h=>
  refine .sp a i row off b' o' (by rw [<-zn hz];exact hb') λj y hj=>?_;obtain ⟨u,hu,hr⟩:=h j y hj;obtain ⟨c,e,f,hk⟩:=Jj hu;refine ⟨u,?_,by rw [<-zn hz];exact hr.turn hb hq hs⟩;rw [<-hu];refine World.cell?_of_block (w:=w) (hs _ λe'=>?_);have hk:w.heap[b']?=some (.cells c e f):=hk;have e':b'=b:=e';rw [e',hb] at hk;exact kG hq _ _ _ (Wc hk)
 |gl g=>exact .gl g
 |nJ g v hv h=>exact .nJ g v hv h
 |gd b x v h ih=>exact .gd b x v ih
 |clo f caps vs hl h ih=>exact .clo f caps vs hl ih
 |no v=>exact .no v
theorem rG.turn(hb:w.heap[b]?=some o)(hq:quiet o=true)(hs :∀k,k≠b->w'.heap[k]?=w.heap[k]?)(hz:w'.heap.size=w.heap.size){x:V}{v:Value}(r:rG E st gh w x v):rG E st gh w' x v:=by
 cases r with
 |one x v h=>exact .one x v (h.turn hb hq hs hz)
 |agg xs cs hl hv h=>exact .agg xs cs hl hv λj x v hx hv'=>(h j x v hx hv').turn hb hq hs hz
theorem dJ.turn(hb:w.heap[b]?=some o)(hq:quiet o=true)(hs :∀k,k≠b->w'.heap[k]?=w.heap[k]?)(hz:w'.heap.size=w.heap.size){x:S}{v:Value}(r:dJ E st gh w x v):dJ E st gh w' x v:=by
 cases r with
 |v x v h=>exact .v x v (h.turn hb hq hs hz)
 |jD xs vs hl h=>exact .jD xs vs hl λj x v hx hv=>(h j x v hx hv).turn hb hq hs hz
 |no v=>exact .no v
theorem iQ.turn(hb:w.heap[b]?=some o)(hq:quiet o=true)(hs :∀k,k≠b->w'.heap[k]?=w.heap[k]?)(hz:w'.heap.size=w.heap.size){a i:Bool}{sz:Nat}{l:List (List P)}{G:Gh}(r:iQ E st gh w a i sz l G):iQ E st gh w' a i sz l G:=by
 rcases r with r | ⟨ad,c,e,h1,h2,h3,h4,h5,h6,h7⟩
 .exact .inl r
 .exact .inr ⟨ad,c,e,h1,h2,(hs _ λe'=>by rw [e',hb] at h3;exact kG hq _ _ _ (Wc h3)).trans h3,h4,h5,h6,λn x hx j y hy=>let ⟨v,q1,q2⟩:=h7 n x hx j y hy;⟨v,q1,by rw [<-zn hz];exact q2.turn hb hq hs⟩⟩
theorem mD.turn(hb:w.heap[b]?=some o)(hq:quiet o=true)(hs :∀k,k≠b->w'.heap[k]?=w.heap[k]?)(hz:w'.heap.size=w.heap.size){x:O}{G:Gh}(r:mD E st gh w x G):mD E st gh w' x G:=by
 have ne :∀{k c e f},w.heap[k]?=some (.cells c e f)->k≠b:=λhk e'=>by subst e';rw [hb] at hk;exact kG hq _ _ _ (Wc hk)
 cases x with
 |none=>trivial
 |box ws=>
  obtain ⟨ad,c,e,h1,h2,h3,h4,h5⟩:=r;exact ⟨ad,c,e,h1,h2,(hs _ (ne h3)).trans h3,h4,λj x hx=>let ⟨v,q1,q2,q3⟩:=h5 j x hx;⟨v,q1,q2,q3.turn hb hq hs hz⟩⟩
 |arr fz a i sz l=>
  cases fz with
  |true=>exact (by rw [<-zn hz];exact cO.turn hb hq hs r:cO w' (E.ok st gh w' a i) (.sl sz l) (.slice G.ad l.length G.cap))
  |false=>exact iQ.turn hb hq hs hz r
 |aN a i sz ak l hole=>
  rcases r with r | ⟨ad,c,e,h1,h2,h3,h4,h5,h6,⟨h7,h7'⟩,h8⟩
  .exact .inl r
  .refine .inr ⟨ad,c,e,h1,h2,(hs _ (ne h3)).trans h3,h4,h5,h6,⟨h7,λk hk=>let ⟨c,e,f,q⟩:=h7' k hk;⟨c,e,f,(hs _ (ne q)).trans q⟩⟩,λn x hx j y hy=>?_⟩;obtain ⟨v,hv,hr⟩:=h8 n x hx j y hy;refine ⟨v,hv,?_⟩;unfold iV at *;cases hc:ak.lookup j with
   |none=>rw [hc] at hr;exact (by rw [<-zn hz];exact cO.turn hb hq hs hr:cO w' (E.ok st gh w' a i) y v)
   |some sz'=>
    rw [hc] at hr;simp only at *;cases hh:iw hole n j with
    |some d=>rw [hh] at hr;exact ⟨hr.1,hr.2.turn hb hq hs hz⟩
    |none=>
     rw [hh] at hr;obtain ⟨l',ao,k,q1,q2,q3,q4⟩:=hr;exact ⟨l',ao,k,q1,q2,q3.turn hb hq hs hz,q4⟩
 |it s n=>
  obtain ⟨ad,bs,k,h1,h2,h3,h4⟩:=r;refine ⟨ad,bs,k,h1,h2,h3,(hs _ λe'=>?_).trans h4⟩;rw [e',hb] at h4;exact Ji hq _ _ (Wc h4)
theorem Rel.turn{val:Nat->Value}(h:Rel E st gh val w)(hb:w.heap[b]?=some o)(hq:quiet o=true)(hB:E.B0<=b)(o':Obj):Rel E st gh val (w.putObj b o'):=by
 have hs :∀k,k≠b->(w.putObj b o').heap[k]?=w.heap[k]?:=λk hk=>World.putObj_heap_other hk;have hz:(w.putObj b o').heap.size=w.heap.size:=World.putObj_size;exact ⟨λt=>(h.slots t).turn hb hq hs hz,λg=>(h.aZ g).turn hb hq hs hz,h.inj,λg a h1 h2=>by rw [hz];exact h.wr g a h1 h2,h.wi,h.ns,h.wb,λk hk hw=>(hs k (by omega)).trans (h.frame k hk hw),by rw [hz];exact h.size,h.os,h.tape,h.output,h.us,h.uo,h.ul⟩
omit [eY] in
structure CB(w w':World):Prop where
 size:w.heap.size<=w'.heap.size
 same :∀b,b<w.heap.size->w'.heap[b]?=w.heap[b]?
 os:w'.os=w.os
 tape:w'.tape=w.tape
 output:w'.output=w.output
theorem CB.alloc(w:World)(o:Obj):CB w (w.alloc o):=
 ⟨by simp,λb hb=>Below.heap_alloc w o b hb,rfl,rfl,rfl⟩
theorem CB.lets(h:CB w w'):Lets E st st gh gh w w':=
 ⟨λa i b hb=>⟨⟨hb.1,WN hb.2.1 h.size,hb.2.2⟩,h.same b hb.2.1⟩,λg _=>.inr ⟨⟨rfl,rfl⟩,O.fF _⟩⟩
theorem Rel.grows{val:Nat->Value}(h:Rel E st gh val w)(hg:CB w w'):Rel E st gh val w':=by
 have hl:Lets E st st gh gh w w':=hg.lets;refine ⟨λt=>hl.agl (h.us t) (h.slots t),λg=>hl.BK (λho ad had=>hg.same _ (h.wr g ad ho had).2) (h.uo g) (h.aZ g),h.inj,λg a h1 h2=>⟨(h.wr g a h1 h2).1,WN (h.wr g a h1 h2).2 hg.size⟩,h.wi,h.ns,h.wb,λk hk hw=>(hg.same k (WN hk h.size)).trans (h.frame k hk hw),J2 h.size hg.size,hg.os.trans h.os,hg.tape.trans h.tape,hg.output.trans h.output,h.us,h.uo,h.ul⟩
theorem Rel.acS{val:Nat->Value}(h:Rel E st gh val w)(hb:w.heap[b]?=some o)(hq:quiet o=true)(hB:E.B0<=b)(a i:Bool):E.ok st gh w a i b:=by
 refine ⟨.inr (.inr (.inl hB)),(Vi.1 hb).1,λg ho had=>?_⟩;have hO:=h.aZ g;rcases had with ⟨ad,had,e⟩ | hsub
 case inr=>
  cases hd:(st.o g).oh with
  |false=>rw [h.ns g ho hd b] at hsub;cases hsub
  |true=>
   cases hog:st.o g with
   |aN a i sz ak l hole=>
    rw [hog] at hO;rcases hO with ⟨_,_,_,q⟩ | ⟨ad,c,e,_,_,_,_,_,_,⟨_,q⟩,_⟩
    .rw [q b] at hsub;cases hsub
    .obtain ⟨c,e,f,q⟩:=q b hsub;rw [hb] at q;exact kG hq _ _ _ (Wc q)
   |_=>rw [hog] at hd;cases hd
 cases hog:st.o g with
 |none=>rw [hog] at ho;cases ho
 |box ws=>
  rw [hog] at hO;obtain ⟨ad',c,e',q1,_,q3,_⟩:=hO;rw [had] at q1;cases q1;rw [e,hb] at q3;exact kG hq _ _ _ (Wc q3)
 |aN a i sz ak l hole=>
  rw [hog] at hO;rcases hO with ⟨q1,_⟩ | ⟨ad',c,e',q1,_,q3,_⟩
  .rw [had] at q1;cases q1
  .rw [had] at q1;cases q1;rw [e,hb] at q3;exact kG hq _ _ _ (Wc q3)
 |arr fz a i sz l=>
  cases fz with
  |true=>rw [hog] at ho;cases ho
  |false=>
   rw [hog] at hO;rcases hO with ⟨q1,_⟩ | ⟨ad',c,e',q1,_,q3,_⟩
   .rw [had] at q1;cases q1
   .rw [had] at q1;cases q1;rw [e,hb] at q3;exact kG hq _ _ _ (Wc q3)
 |it s n=>
  rw [hog] at hO;obtain ⟨ad',bs,k,q1,_,_,q4⟩:=hO;rw [had] at q1;cases q1;rw [e,hb] at q4;exact Ji hq _ _ (Wc q4)
end
end Go.Fw

namespace Go.Fw
variable [eY]
section
variable {E:Env} {st st':St} {gh bH:Nat->Gh} {w w':World} {a:Act}
theorem VX(v:Value):dJ E st gh w (vI v) v:=by
 unfold vI;split
 .rename_i cs;split
  .rename_i h;have h:=Z0.1 h;refine .v _ _ (.agg _ cs.toList (by simp) h λj x u hx hu=>?_);rw [Ys,hu] at hx;simp only [Z6,Q0] at hx;subst hx;exact VD (h u (XX hu))
  .exact .no _
 .exact .no _
 .exact .v _ _ (.one _ _ (.clo _ [] [] rfl λj x v hx=>by simp at hx))
 .split
  .rename_i h;exact .v _ _ (.one _ _ (VD h))
  .exact .no _
theorem Ph(v:Value):(vI v).names=[]:=by
 unfold vI;split
 .split
  .simp [S.names,V.names,nN]
  .rfl
 .rfl
 .simp [S.names,V.names,W.names]
 .split
  .simp [S.names,V.names,nN]
  .rfl
theorem qP(h:Rel E st gh (λt=>a.tmps.getD t undef) w)(x:Operand):dJ E st gh w (st.dh x) (a.eval x):=by
 cases x with
 |tmp t=>exact h.slots t
 |const v=>exact VX v
 |global g=>
  simp only [St.dh];split
  .exact .v _ _ (.one _ _ (.gl g))
  .exact .no _
 |func f=>exact .v _ _ (.one _ _ (.clo _ [] [] rfl λj x v hx=>by simp at hx))
theorem Jk(h:Rel E st gh (λt=>a.tmps.getD t undef) w)(x:Operand) :∀g∈(st.dh x).names,st.used g=true:=by
 cases x with
 |tmp t=>exact h.us t
 |const v=>intro g hg;simp [St.dh,Ph] at hg
 |global g=>
  intro g' hg;simp only [St.dh] at hg;split at hg
  .simp [S.names,V.names,W.names] at hg
  .simp [S.names] at hg
 |func f=>intro g hg;simp [St.dh,S.names,V.names,W.names] at hg
theorem CJ(dst:Option Tmp)(v:Value)(h :∀d,dst=some d->d<a.tmps.size):(λt=>(a.put dst v).tmps.getD t undef)=IK (λt=>a.tmps.getD t undef) dst v:=by
 cases dst with
 |none=>rfl
 |some d=>
  funext t;have hd:=h d rfl;simp only [Act.put,IK,We];by_cases e:t=d
  .subst e;simp [hd]
  .rw [Array.getElem?_setIfInBounds_ne (Ne.symm e),if_neg e]
variable {Pg:Program} {T:Tab} {tt:TT}
theorem VY(hT :∀f sp,T f=some sp->Sound Pg (f % 1000000) sp)(htt:iR Pg tt)(h:Rel E st gh (λt=>a.tmps.getD t undef) w){o:Oper}{d:Nat}{e:Eff}(hc:kJ T tt d st o λe'=>e'=e)(hnew :∀g∈e.new,st.used g=false)
  {K:Act->World->Prop} {Q:Exit->Act->World->Prop}
  (hK :∀v w' bH,Rel E (st.aJ e.aJ e.new) bH (λt=>a.tmps.getD t undef) w'->Lets E st (st.aJ e.aJ e.new) gh bH w w'->dJ E (st.aJ e.aJ e.new) bH w' e.x v->(∀g∈e.x.names,(st.aJ e.aJ e.new).used g=true)->K (a.put o.dst v) w') :
  o.wp Pg a w K Q:=by
 unfold kJ at hc;split at hc
 .rename_i f args ts ho;split at hc
  .rename_i fn caps hf;split at hc
   .rename_i sp hsp;split at hc
    .rename_i c hci;obtain ⟨Yb,dG,same,hR,hsame,he⟩:=hc;simp only [Qf,decide_eq_true_eq] at Yb;have hrf:=qP h f;rw [hf] at hrf;generalize hvf:a.eval f=vf at hrf;cases hrf.dK with
     |clo _ _ vs hl hvs=>
     have hS:=agu (p:=Sound Pg) hT hsp;have hrun:(execOp a.eval o).run Pg w=.ok (.enter fn (args.toList.map a.eval++vs).toArray) w:=by
      have:(#[]++args.map a.eval)++vs.toArray=(args.toList.map a.eval++vs).toArray:=by
       apply Array.ext';simp
      rw [<-hS.2.1 (args.toList.map a.eval++vs).toArray w,<-this];simp only [execOp,ho,resolve,hvf,Deferred.ofValue];rfl
     show o.upon Pg a K Q ((execOp a.eval o).run Pg w);rw [hrun,Oper.upon_enter];have hr :∀t,dJ E st gh w (((args.toList.map st.dh)++caps.map λx=>S.v (.one x)).getD t .no) ((args.toList.map a.eval++vs).getD t undef):=by
      intro t;simp only [List.getD_eq_getElem?_getD];by_cases ht:t<args.toList.length
      .rw [Wa (by simpa using ht),Wa (by simpa using ht),Ys,Ys,Q2 ht];exact qP h _
      .rw [W6 (by simpa using ht),W6 (by simpa using ht)];simp only [W7];rw [Ys];cases hx:caps[t-args.toList.length]? with
       |none=>exact .no _
       |some x=>
        have hlt:t-args.toList.length<vs.length:=by rw [<-hl];exact (Q3.1 hx).1
        rw [Q2 hlt];exact .v _ _ (.one _ _ (hvs _ x _ hx (Q2 hlt)))
     have hu:=aam (st:=st) (e:=kV sp.sig d st.o c dG) λg hg=>(hsame g hg).2;have hnew :∀g∈(kV sp.sig d st.o c dG).new,st.used g=false:=λg hg=>hnew g (by rw [<-he];exact hg);refine Calls.mono (VU hS h hr (by simp;omega) hci Yb.1 hR d rfl hnew) λe' w' he'=>?_;obtain ⟨v,bH,rfl,q1,q2,q3,q4⟩:=he';rw [<-hu] at q1 q2 q3 q4;rw [he] at q1 q2 q3 q4;have q3:dJ E (st.aJ e.aJ e.new) bH w' e.x v:=by rw [<-he];rw [<-he] at q3;exact q3
     have q4 :∀g∈e.x.names,(st.aJ e.aJ e.new).used g=true:=by rw [<-he];rw [<-he] at q4;exact q4
     exact hK v w' bH q1 q2 q3 q4
    .cases hc
   .cases hc
  .cases hc
 .rcases hc with ⟨dc,r,hk,hp,hc⟩ | hc
  .have he:=L6.iff.1 hc;subst he;obtain ⟨v,w',bH,hd,q1,q2,q3,q4⟩:=LY htt o.op E st gh _ w a.eval st.dh o d r rfl h (qP h) (Jk h) hk hp hnew;show o.upon Pg a K Q ((execOp a.eval o).run Pg w);rcases hd with hd | ⟨hd,rfl⟩
   .rw [hd];exact hK v w' bH q1 q2 q3 q4
   .rw [hd];exact hK _ w' bH q1 q2 q3 q4
  split at hc
  .rename_i r hk;obtain ⟨hp,hc⟩:=hc;have he:({ x:=r.dst r.val,aJ:=r.aJ r.val,new:=r.new }:Eff)=e:=by
    cases hb:FU o.op with
    |true=>rw [hb] at hc;exact L6.iff.1 hc
    |false=>rw [hb] at hc;exact hc
   subst he;obtain ⟨v,w',bH,hd,q1,q2,q3,q4⟩:=OW htt o.op E st gh _ w a.eval st.dh o d r rfl h (qP h) (Jk h) hk hp hnew;show o.upon Pg a K Q ((execOp a.eval o).run Pg w);rcases hd with hd | ⟨hd,rfl⟩
   .rw [hd];exact hK v w' bH q1 q2 q3 q4
   .rw [hd];exact hK _ w' bH q1 q2 q3 q4
  .cases hc
def mark(D:Nat):Deferred:={ target:=.collected D,args:=#[] }
def Marks(E:Env)(a:Act)(w:World):Prop :=∃Ds:List Nat,a.defers=Ds.map mark/\Ds.Nodup/\∀D∈Ds,E.B0<=D/\w.heap[D]?=some (.deferred (some []))
theorem Marks.nil{E:Env}{a:Act}{w:World}(h:a.defers=[]):Marks E a w:=⟨[],h,List.nodup_nil,λD hD=>by cases hD⟩
structure Good(E:Env)(N:Nat)(bg:List Nat)(xK:Nat->Gh)(st:St)(a:Act)(w:World):Prop where
 ex :∃gh,Rel E st gh (λt=>a.tmps.getD t undef) w/\∀g∈bg,st.used g=true/\(st.o g=.none\/((gh g).ad=(xK g).ad/\(gh g).cap=(xK g).cap))
 size:a.tmps.size=N
 defers:Marks E a w
theorem CO(dst:Option Tmp)(v:Value):(a.put dst v).tmps.size=a.tmps.size:=by cases dst<;>simp [Act.put]
theorem put_defers(dst:Option Tmp)(v:Value):(a.put dst v).defers=a.defers:=by cases dst<;>rfl
theorem Marks.same{E:Env}{a:Act}{w w':World}(hm:Marks E a w)(h :∀D,E.B0<=D->w.heap[D]?=some (.deferred (some []))->w'.heap[D]?=w.heap[D]?)(dst:Option Tmp)(v:Value):Marks E (a.put dst v) w':=by
 obtain ⟨Ds,h1,h2,h3⟩:=hm;exact ⟨Ds,(put_defers dst v).trans h1,h2,λD hD=>⟨(h3 D hD).1,(h D (h3 D hD).1 (h3 D hD).2).trans (h3 D hD).2⟩⟩
theorem Marks.step{val:Nat->Value}(hm:Marks E a w)(hR:Rel E st gh val w)(hL:Lets E st st' gh bH w w')(dst:Option Tmp)(v:Value):Marks E (a.put dst v) w':=
 hm.same (λD h2 h3=>(hL.ok false false D (hR.acS h3 rfl h2 _ _)).2) dst v
theorem Marks.put(hm:Marks E a w)(dst:Option Tmp)(v:Value):Marks E (a.put dst v) w:=hm.same (λ_ _ _=>rfl) dst v
theorem rY{d:Nat}{o:Oper}{K K':Eff->Prop}(hK :∀e,K e->K' e)(h:kJ T tt d st o K):kJ T tt d st o K':=by
 unfold kJ at *;split at h
 .split at h
  .split at h
   .split at h
    .obtain ⟨h1,dG,same,h2,h4,h3⟩:=h;exact ⟨h1,dG,same,h2,h4,hK _ h3⟩
    .exact h
   .exact h
  .exact h
 .rcases h with ⟨dc,r,h1,h2,h3⟩ | h
  .exact .inl ⟨dc,r,h1,h2,L6.iff.2 (hK _ (L6.iff.1 h3))⟩
  refine .inr ?_;split at h
  .refine ⟨h.1,?_⟩;obtain ⟨_,h⟩:=h;cases hb:FU o.op with
   |true=>rw [hb] at h;exact L6.iff.2 (hK _ (L6.iff.1 h))
   |false=>rw [hb] at h;exact hK _ h
  .exact h
theorem Jl{d:Nat}{o:Oper}{K:Eff->Prop}(h:kJ T tt d st o K) :∃e,kJ T tt d st o (λe'=>e'=e)/\K e:=by
 unfold kJ at *;split at h
 .split at h
  .split at h
   .split at h
    .obtain ⟨h1,dG,same,h2,h4,h3⟩:=h;exact ⟨_,⟨h1,dG,same,h2,h4,rfl⟩,h3⟩
    .cases h
   .cases h
  .cases h
 .rcases h with ⟨dc,r,h1,h2,h3⟩ | h
  .exact ⟨_,.inl ⟨dc,r,h1,h2,L6.iff.2 rfl⟩,L6.iff.1 h3⟩
  split at h
  .obtain ⟨hp,h⟩:=h;cases hb:FU o.op with
   |true=>rw [hb] at h;exact ⟨_,.inr ⟨hp,L6.iff.2 rfl⟩,L6.iff.1 h⟩
   |false=>rw [hb] at h;exact ⟨_,.inr ⟨hp,rfl⟩,h⟩
  .cases h
theorem acT{o:Nat->O}{g x:Nat}(h:x≠g)(h2:x∉(o g).hn):(Fw.kN o g).lookup x=none:=by
 have e1:(x==g)=false:=by simpa using h
 unfold Fw.kN;split
 .rename_i a i sz ak l n c d ho;rw [ho] at h2;have e2:(x==d)=false:=by simpa [O.hn,dA] using h2
  repeat' split
  all_goals first | rfl | simp [List.lookup,e1,e2]
 .rfl
theorem Sm{o:Nat->O}{g x:Nat} :∀y,(Fw.kN o g).lookup x=some y->y.hn=[]:=by
 intro y hy;unfold Fw.kN at hy;split at hy
 .rename_i a i sz ak l n c d ho
  repeat' split at hy
  all_goals first | (cases hy;done) | skip
  simp only [List.lookup] at hy;split at hy
  .cases hy;rfl
  .split at hy
   .cases hy;rfl
   .cases hy
 .cases hy
theorem F6 :∀(hs:List Nat) {st:St} {x:Nat},x∉hs->(∀g∈hs,x∉(st.o g).hn)->(Fw.shuts hs st).o x=st.o x
 | [],_,_,_,_=>rfl
 |g::gs,st,x,h1,h2=>by
  have hx:(st.aJ (Fw.kN st.o g) []).o x=st.o x:=by
   simp only [St.aJ,acT (λe=>h1 (by simp [e])) (h2 g (by simp))]
  show (Fw.shuts gs (st.aJ (Fw.kN st.o g) [])).o x=_;rw [F6 gs (λh=>h1 (by simp [h])) (λg' hg'=>?_),hx];cases hl:(Fw.kN st.o g).lookup g' with
  |none=>simp only [St.aJ,hl];exact h2 g' (by simp [hg'])
  |some y=>simp only [St.aJ,hl];rw [Sm y hl];simp
theorem aay{hs:List Nat}{st:St}{x:Nat}:(match (zW hs st).lookup x with
  |some y=>y
  |none=>st.o x)=(Fw.shuts hs st).o x:=by
 have key :∀(l:List (Nat×O)),(∀p∈l,p.2=(Fw.shuts hs st).o p.1)->(∀y,l.lookup x=some y->y=(Fw.shuts hs st).o x)/\(l.lookup x=none->∀p∈l,p.1≠x):=by
  intro l
  induction l with
  |nil=>exact λ_=>⟨λy h=>(by cases h),λ_ p hp=>(by cases hp)⟩
  |cons p l ih=>
   intro hl;obtain ⟨i1,i2⟩:=ih λq hq=>hl q (WD _ hq);obtain ⟨k,v⟩:=p;simp only [List.lookup];cases hb:x==k with
   |true=>
    have e:x=k:=by simpa using hb
    subst e;exact ⟨λy h=>by cases h;exact hl (x,v) Kh,λh=>by cases h⟩
   |false=>
    refine ⟨i1,λh p hp=>?_⟩;rcases QQ.1 hp with rfl | hp
    .exact λe=>by
      have e:k=x:=e;rw [e] at hb;simp at hb
    .exact i2 h p hp
 have hall :∀p∈zW hs st,p.2=(Fw.shuts hs st).o p.1:=by
  intro p hp;obtain ⟨g,hg,hp⟩:=YY.1 hp;rcases QQ.1 hp with rfl | hp
  .rfl
  .obtain ⟨d,_,rfl⟩:=QR.1 hp;rfl
 obtain ⟨k1,k2⟩:=key _ hall;cases hl:(zW hs st).lookup x with
 |some y=>exact k1 y hl
 |none=>
  have hno:=k2 hl;refine (F6 hs (λh=>hno (x,(Fw.shuts hs st).o x) (YY.2 ⟨x,h,by simp⟩) rfl) λg hg h=>hno (x,(Fw.shuts hs st).o x) (YY.2 ⟨g,hg,WD _ (QR.2 ⟨x,h,rfl⟩)⟩) rfl).symm
theorem aaz{hs:List Nat}{st:St}{e:Eff}:st.aJ (Ci hs st e).aJ (Ci hs st e).new=(Fw.shuts hs st).aJ e.aJ e.new:=by
 cases hs with
 |nil=>rfl
 |cons g gs=>
  have ext :∀{x y:St},(∀t,x.s t=y.s t)->(∀g,x.o g=y.o g)->(∀g,x.used g=y.used g)->x=y:=λ{x y} h1 h2 h3=>by
   cases x;cases y;simp only [St.mk.injEq];exact ⟨funext h1,funext h2,funext h3⟩
  refine ext (λt=>?_) (λx=>?_) (λx=>?_)
  .show st.s t=(Fw.shuts (g::gs) st).s t;rw [HY]
  .show (match (e.aJ++zW (g::gs) st).lookup x with | some y=>y | none=>st.o x)=match e.aJ.lookup x with | some y=>y | none=>(Fw.shuts (g::gs) st).o x
   rw [vV];cases e.aJ.lookup x with
   |some y=>rfl
   |none=>exact aay
  .show (e.new.contains x||st.used x)=(e.new.contains x||(Fw.shuts (g::gs) st).used x);rw [vT]
theorem agB{hs:List Nat}{st:St}{e:Eff}:(Ci hs st e).x=e.x/\(Ci hs st e).new=e.new:=by cases hs<;>exact ⟨rfl,rfl⟩
theorem aaA(hT :∀f sp,T f=some sp->Sound Pg (f % 1000000) sp)(htt:iR Pg tt)(h:Rel E st gh (λt=>a.tmps.getD t undef) w){o:Oper}{d:Nat}{e:Eff}(hc:jk T tt d st o λe'=>e'=e)(hnew :∀g∈e.new,st.used g=false)
  {K:Act->World->Prop} {Q:Exit->Act->World->Prop}
  (hK :∀v w' bH,Rel E (st.aJ e.aJ e.new) bH (λt=>a.tmps.getD t undef) w'->Lets E st (st.aJ e.aJ e.new) gh bH w w'->dJ E (st.aJ e.aJ e.new) bH w' e.x v->(∀g∈e.x.names,(st.aJ e.aJ e.new).used g=true)->K (a.put o.dst v) w') :
  o.wp Pg a w K Q:=by
 unfold jk at hc;obtain ⟨e0,h1,h2⟩:=Jl hc;obtain ⟨ny,hR,hL,_⟩:=h.shuts (ji st o);have hx:=agB (hs:=ji st o) (st:=st) (e:=e0);have hu:=aaz (hs:=ji st o) (st:=st) (e:=e0);rw [h2] at hx hu;refine VY hT htt hR h1 (λg hg=>by rw [vT];exact hnew g (by rw [hx.2];exact hg)) λv w' bH q1 q2 q3 q4=>hK v w' bH ?_ ?_ ?_ ?_
 .rw [hu];exact q1
 .rw [hu];exact hL.trans q2 λg hg=>by rw [vT];exact hg
 .rw [hu,hx.1];exact q3
 .rw [hu,hx.1];exact q4
theorem oH{d:Nat}{o:Oper}{K K':Eff->Prop}(hK :∀e,K e->K' e)(h:jk T tt d st o K):jk T tt d st o K':=rY (λe h=>hK _ h) h
theorem En{d:Nat}{o:Oper}{K:Eff->Prop}(h:jk T tt d st o K) :∃e,jk T tt d st o (λe'=>e'=e)/\K e:=by
 obtain ⟨e,h1,h2⟩:=Jl h;exact ⟨_,rY (λe' he=>by rw [he]) h1,h2⟩
def Can(T:Tab)(tt:TT)(N:Nat)(ops:Array Oper)(st:St)(o:Oper)(e:Eff):Prop:=stepW T tt N ops o st λe'=>e'=e
theorem Sr{N:Nat}{ops:Array Oper}{o:Oper}{K:Eff->Prop}(h:stepW T tt N ops o st K) :∃e,Can T tt N ops st o e/\K e:=by
 unfold Can;unfold stepW at *;obtain ⟨hd,h⟩:=h;split at h
 .obtain ⟨e,h1,h2,h3⟩:=En h;exact ⟨e,⟨hd,oH (λe' he=>⟨by rw [he];exact h2,he⟩) h1⟩,h3⟩
 .split at h
  .rename_i b hb;cases b with
   |true=>
    simp only [cond_true] at h;obtain ⟨e,h1,h2,h3⟩:=En h;refine ⟨e,⟨hd,?_⟩,h3⟩;simp only [cond_true];exact oH (λe' he=>⟨by rw [he];exact h2,he⟩) h1
   |false=>exact ⟨Eff.skip,⟨hd,rfl⟩,h⟩
  .cases h
theorem Jm{N:Nat}{bg:List Nat}{xK:Nat->Gh}(hT :∀f sp,T f=some sp->Sound Pg (f % 1000000) sp)(htt:iR Pg tt){ops:Array Oper}{i:Nat}{o:Oper}(hi:ops[i]?=some o)(h:Good E N bg xK st a w){e:Eff}(hc:Can T tt N ops st o e)
  {K:Act->World->Prop} {Q:Exit->Act->World->Prop} (hK :∀a' w',Good E N bg xK (st.eff o.dst e) a' w'->K a' w'):wpOp Pg ops Q i K a w:=by
 obtain ⟨⟨gh,hR,LG⟩,hsz,hdf⟩:=h;unfold Can stepW at hc;obtain ⟨hd,hc⟩:=hc;have hd :∀d,o.dst=some d->d<a.tmps.size:=by
  intro d e;rw [e] at hd;rw [hsz];simpa using hd
 have run:(jk T tt (o.dst.getD 0) st o λe'=>e'.new.all (λg=>!st.used g)=true/\e'=e)->o.wp Pg a w K Q:=by
  intro hc;obtain ⟨e',h1,h2,rfl⟩:=En hc;have hnew :∀g∈e'.new,st.used g=false:=λg hg=>by have:=(Z0.1 h2) g hg;simpa using this
  refine aaA hT htt hR h1 hnew λv w' bH q1 q2 q3 q4=>hK _ _ ⟨⟨bH,?_,λg hg=>?_⟩,by rw [CO];exact hsz,hdf.step hR q2 _ _⟩
  .rw [CJ _ _ hd];exact q1.put o.dst q3 q4
  .obtain ⟨p1,p2⟩:=LG g hg;have ho:(st.eff o.dst e').o g=(st.aJ e'.aJ e'.new).o g:=by unfold St.eff St.put;cases o.dst<;>rfl
   have hu:(st.eff o.dst e').used g=(st.aJ e'.aJ e'.new).used g:=by unfold St.eff St.put;cases o.dst<;>rfl
   refine ⟨by rw [hu];simp [St.aJ,p1],?_⟩;rw [ho];rcases q2.names g p1 with q | ⟨q,qk⟩
   .exact .inl q
   .rcases p2 with p2 | p2
    .rw [p2] at qk;exact .inl (O.Nk qk)
    .exact .inr ⟨q.1.trans p2.1,q.2.trans p2.2⟩
 unfold wpOp;rw [hi];simp only;cases hg:o.guard with
 |none=>
  rw [hg] at hc;have:Region.wanted o (yielded ops a.tmps)=true:=by simp [Region.wanted,hg]
  rw [if_pos this];exact .inl (run hc)
 |some p=>
  obtain ⟨j,want⟩:=p;rw [hg] at hc;simp only at hc;split at hc
  .rename_i b hb;have hw:Region.wanted o (yielded ops a.tmps)=b:=by
    simp only [Region.wanted,hg,yielded];unfold guardOf at hb;split at hb
    .rename_i t ht;have Sv:=hR.slots t;rw [ht];simp only [Option.bind_some];split at hb
     .rename_i a' i' b' hs;rw [hs] at Sv;have hv:=Sv.fH.nM;have:a.tmps[t]?=some (.bool b'):=by
       simp only [We] at hv;cases hx:a.tmps[t]? with
       |none=>rw [hx] at hv;cases hv
       |some x=>rw [hx] at hv;simp at hv;rw [hv]
      rw [this];simp only [Q0] at hb;subst hb;cases want<;>cases b'<;>rfl
     .rename_i hs;rw [hs] at Sv;simp only [Q0] at hb;subst hb;have hv:a.tmps.getD t undef=.tuple #[]:=by
       generalize a.tmps.getD t undef=v at Sv;cases Sv with | jD _ vs hl _=>
       have:vs=[]:=by cases vs<;>simp_all
       subst this;rfl
      have:a.tmps[t]?=none\/a.tmps[t]?=some (.tuple #[]):=by
       simp only [We] at hv;cases hx:a.tmps[t]? with
       |none=>exact .inl rfl
       |some x=>rw [hx] at hv;simp at hv;rw [hv];exact .inr rfl
      rcases this with h | h<;>rw [h]<;>cases want<;>rfl
     .cases hb
    .cases hb
   rw [hw];cases b with
   |true=>exact .inl (run hc)
   |false=>
    simp only [cond_false] at hc;subst hc;refine hK _ _ ⟨⟨gh,?_,λg hg=>?_⟩,by rw [CO];exact hsz,hdf.put _ _⟩
    .rw [CJ _ _ hd];unfold St.eff Eff.skip;simp only [Hy];exact hR.put o.dst (.jD [] [] rfl λj x v hx=>by simp at hx) (by simp [S.names])
    .have ho:(st.eff o.dst Eff.skip).o g=st.o g:=by unfold St.eff St.put Eff.skip;cases o.dst<;>simp [St.aJ]
     have hu:(st.eff o.dst Eff.skip).used g=st.used g:=by unfold St.eff St.put Eff.skip;cases o.dst<;>simp [St.aJ]
     rw [ho,hu];exact LG g hg
  .cases hc
end
end Go.Fw

namespace Go.Fw
variable [eY]
section
variable {o o':Nat->O}
theorem Jo{k:WS}{x:W}(h :∀g∈x.names,Agree o o' g):fM o k x=fM o' k x:=by
 cases k with
 |p a i=>simp only [fM];rw [Em h]
 |own g'=>cases x<;>rfl
 |box g' off=>
  cases off with
  |zero=>cases x<;>first | rfl | (rename_i off;cases off<;>rfl)
  |succ off=>cases x<;>rfl
 |dw=>cases x<;>rfl
 |fn f=>cases x<;>first | rfl | (rename_i caps;cases caps<;>rfl)
 |nJ g=>cases x<;>rfl
 |no=>cases x<;>rfl
 |vw g=>cases x<;>rfl
 |ep g off=>cases x<;>rfl
theorem F7 :∀{ks:List WS} {xs:List W},(∀x∈xs,∀g∈x.names,Agree o o' g)->jP o ks xs=jP o' ks xs
 | [],[],_=>rfl
 | [],_::_,_=>rfl
 |_::_,[],_=>rfl
 |k::ks,x::xs,h=>by simp only [jP];rw [Jo (h x (by simp)),F7 λy hy=>h y (by simp [hy])]
theorem VZ{k:SS}{x:S}(h :∀g∈x.names,Agree o o' g):oG o k x=oG o' k x:=by
 cases k with
 |one k=>
  cases x with
  |v x=>cases x with
   |one x=>exact Jo λg hg=>h g (by simpa [S.names,V.names] using hg)
   |agg xs=>rfl
  |jD=>rfl
  |no=>rfl
 |agg ks=>
  cases x with
  |v x=>cases x with
   |one x=>rfl
   |agg xs=>exact F7 λx hx g hg=>h g (by simp only [S.names,V.names,YY];exact ⟨x,hx,hg⟩)
  |jD=>rfl
  |no=>rfl
theorem Yc{args:List S}{t:Nat}:args.getD t .no=.no\/args.getD t .no∈args:=by
 rw [List.getD_eq_getElem?_getD];cases h:args[t]? with
 |none=>exact .inl rfl
 |some x=>exact .inr (XX h)
theorem yh{args:List S}(h :∀x∈args,∀g∈x.names,Agree o o' g) :∀{L:List (Nat×SS)},fA o args L=fA o' args L
 | []=>rfl
 |(t,k)::L=>by
  simp only [fA];rw [VZ (o:=o) (o':=o') (k:=k) (x:=args.getD t .no) (λg hg=>by
   rcases Yc (args:=args) (t:=t) with e | e
   .rw [e] at hg;simp [S.names] at hg
   .exact h _ e g hg),yh h]
theorem CP{k:WS}{x:W}{us:List P}{c:Bool×Bool}{gs:List Nat}{r:List (Nat×Nat)}(h:fM o k x=some (us,c,gs,r))(hx :∀g∈x.names,Agree o o' g) :∀g∈gs,Agree o o' g:=by
 cases k with
 |p a i=>
  simp only [fM] at h;split at h
  .rename_i ht;simp only [Q0,Q1] at h;obtain ⟨_,_,rfl,_⟩:=h;exact Az ht hx
  .cases h
 |own g'=>cases x<;>simp [fM] at h;obtain ⟨_,_,rfl,_⟩:=h;simp
 |box g' off=>
  cases off with
  |succ off=>cases x<;>simp [fM] at h
  |zero=>
   cases x with
   |box g off=>cases off<;>simp [fM] at h;obtain ⟨_,_,rfl,_⟩:=h;simp
   |_=>simp [fM] at h
 |dw=>simp [fM] at h
 |fn f gs0=>
  cases x with
  |clo f' caps=>
   simp only [fM] at h;split at h
   .split at h
    .simp only [Q0,Q1] at h;obtain ⟨_,_,rfl,_⟩:=h;simp
    .cases h
   .cases h
  |_=>simp [fM] at h
 |nJ g=>simp [fM] at h
 |no=>simp [fM] at h
 |vw g=>simp [fM] at h
 |ep g off=>simp [fM] at h
theorem zX :∀{ks:List WS} {xs:List W} {us:List P} {c:Bool×Bool} {gs:List Nat} {r:List (Nat×Nat)},jP o ks xs=some (us,c,gs,r)->(∀x∈xs,∀g∈x.names,Agree o o' g)->∀g∈gs,Agree o o' g
 | [],xs,us,c,gs,r,h,_=>by
  cases xs<;>simp [jP] at h;obtain ⟨_,_,rfl,_⟩:=h;simp
 |k::ks,xs,us,c,gs,r,h,hx=>by
  cases xs with
  |nil=>simp [jP] at h
  |cons x xs=>
   simp only [jP] at h;split at h
   .rename_i h1 h2;simp only [Q0,Q1] at h;obtain ⟨_,_,rfl,_⟩:=h;intro g hg;rcases Xs.1 hg with hg | hg
    .exact CP h1 (hx _ (by simp)) g hg
    .exact zX h2 (λy hy=>hx y (by simp [hy])) g hg
   .cases h
theorem uw{args:List S} :∀{L:List (Nat×SS)} {us:List P} {c:Bool×Bool} {gs:List Nat} {r:List (Nat×Nat)},fA o args L=some (us,c,gs,r)->(∀x∈args,∀g∈x.names,Agree o o' g)->∀g∈gs,Agree o o' g
 | [],us,c,gs,r,h,_=>by simp [fA] at h;obtain ⟨_,_,rfl,_⟩:=h;simp
 |(t,k)::L,us,c,gs,r,h,hx=>by
  simp only [fA] at h;split at h
  .rename_i h1 h2;simp only [Q0,Q1] at h;obtain ⟨_,_,rfl,_⟩:=h;intro g hg;rcases Xs.1 hg with hg | hg
   .have hx0 :∀g∈(args.getD t .no).names,Agree o o' g:=by
     rcases Yc (args:=args) (t:=t) with e | e
     .rw [e];simp [S.names]
     .exact hx _ e
    .generalize args.getD t S.no=z at h1 hx0;cases k with
     |one k=>
      cases z with
      |v z=>
       cases z with
       |one z=>exact CP h1 (λg hg=>hx0 g (by simpa [S.names,V.names] using hg)) g hg
       |agg z=>simp [oG] at h1
      |_=>simp [oG] at h1
     |agg ks=>
      cases z with
      |v z=>
       cases z with
       |one z=>simp [oG] at h1
       |agg z=>exact zX h1 (λx hx g hg=>hx0 g (by simp only [S.names,V.names,YY];exact ⟨x,hx,hg⟩)) g hg
      |_=>simp [oG] at h1
   .exact uw h2 hx g hg
  .cases h
theorem oI :∀{L:List (Nat×OS)} {r r':List (Nat×Nat)} {u:List P} {c:Bool×Bool},jL o r L=some (u,c,r')->∀p∈r,p∈r'
 | [],r,r',u,c,h=>by simp only [jL,Q0,Q1] at h;obtain ⟨_,_,rfl⟩:=h;exact λp hp=>hp
 |(g',k)::L,r,r',u,c,h=>by
  simp only [jL] at h;split at h
  .split at h
   .split at h
    .split at h
     .rename_i h2;simp only [Q0,Q1] at h;obtain ⟨_,_,rfl⟩:=h;exact λp hp=>oI h2 p (Zs _ hp)
     .cases h
    .cases h
   .split at h
    .split at h
     .rename_i h2;simp only [Q0,Q1] at h;obtain ⟨_,_,rfl⟩:=h;exact oI h2
     .cases h
    .cases h
   .split at h
    .split at h
     .rename_i h2;simp only [Q0,Q1] at h;obtain ⟨_,_,rfl⟩:=h;exact oI h2
     .cases h
    .cases h
   .cases h
  .cases h
theorem ql :∀{L:List (Nat×OS)} {r r':List (Nat×Nat)} {u:List P} {c:Bool×Bool},jL o r L=some (u,c,r')->(∀p∈r',o p.2=o' p.2)->jL o' r L=some (u,c,r')
 | [],r,r',u,c,h,_=>h
 |(g',k)::L,r,r',u,c,h,hl=>by
  simp only [jL] at h ⊢;split at h
  .rename_i g hg;have hmem:=jM hg;have key :∀r2:List (Nat×Nat),(∀p∈r,p∈r2)->(∀p∈r2,p∈r')->o g=o' g:=λr2 h1 h2=>hl _ (h2 _ (h1 _ hmem));split at h
   .rename_i ks ws hk;split at h
    .rename_i r1 h1;split at h
     .rename_i h2;simp only [Q0,Q1] at h;obtain ⟨rfl,rfl,rfl⟩:=h;have e:=key _ (λp hp=>Zs _ hp) (oI h2);simp only [<-e,hk,h1,ql h2 hl]
     .cases h
    .cases h
   .rename_i a1 b1 c1 sz a i sz' l hk;split at h
    .rename_i hsz;split at h
     .rename_i h2;simp only [Q0,Q1] at h;obtain ⟨rfl,rfl,rfl⟩:=h;have e:=key _ (λp hp=>hp) (oI h2);simp only [<-e,hk,ql h2 hl,if_pos hsz]
     .cases h
    .cases h
   .rename_i a1 b1 sz ak a i sz' iE l hk;split at h
    .rename_i hsz;split at h
     .rename_i h2;simp only [Q0,Q1] at h;obtain ⟨rfl,rfl,rfl⟩:=h;have e:=key _ (λp hp=>hp) (oI h2);simp only [<-e,hk,ql h2 hl,if_pos hsz]
     .cases h
    .cases h
   .cases h
  .cases h
theorem Pj{s:zV}{args:List S}{c:M_}(h:iT s o args=some c)(h1 :∀x∈args,∀g∈x.names,Agree o o' g)(h2 :∀p∈c.ren,o p.2=o' p.2):iT s o' args=some c:=by
 unfold iT at *;rw [<-yh h1];split at h
 .rename_i hs;split at h
  .rename_i LG;simp only [Q0] at h;subst h;simp only [ql LG λp hp=>h2 p (nD.2 hp)]
  .cases h
 .cases h
theorem Jp{s:zV}{args:List S}{c:M_}(hc:iT s o args=some c)(hx :∀x∈args,∀g∈x.names,Agree o o' g) :∀g∈c.vF,Agree o o' g:=by
 unfold iT at hc;split at hc
 .rename_i hsl;split at hc
  .simp only [Q0] at hc;subst hc;exact uw hsl hx
  .cases hc
 .cases hc
end
def Sz(T:Tab)(st:St)(o:Oper):List Nat:=
 match o.op with
 |.call { callee:=.value f,args,.. }=>match st.dh f with
  |.v (.one (.clo fn caps))=>match pick T fn (args.toList.map st.dh) with
   |some sp=>match iT sp.sig st.o ((args.toList.map st.dh)++caps.map λx=>S.v (.one x)) with
    |some c=>c.ren.map (·.2)
    |none=>[]
   |none=>[]
  |_=>[]
 |_=>[]
def looks:Op->Bool
 |.move _ | .assign _ | .pick _ _ _ | .build _ _ | .extract _ _ | .field _ _ _ | .makeFunc _ _ _=>false
 |_=>true
theorem Pm{o o':Nat->O}{tt:TT}{d:Nat}{F F':Operand->S}{op:Op}{ty:TypeId}(hl:looks op=false)(hF :∀x∈op.operands.toList,F x=F' x):kernel tt d o F op ty=kernel tt d o' F' op ty:=by
 refine (Cm (o':=o) hF λ_ _ _ _=>⟨rfl,λ_ _=>rfl⟩).trans ?_;cases op<;>first
  |(cases hl;done)
  |rfl
  |(rename_i fn first caps;cases fn<;>rfl)
theorem Mc{o:Nat->O}{tt:TT}{dc:List (Nat×Nat)}{d:Nat}{F:Operand->S}{op:Op}{ty:TypeId}(hl:looks op=false):dN tt dc d o F op ty=none:=by
 cases op<;>first
  |(cases hl;done)
  |rfl
def CS(T:Tab)(st:St)(o:Oper):List Nat:=(bif looks o.op then (o.op.operands.toList.flatMap λx=>(st.dh x).names.flatMap λg=>g::(st.o g).hn) else [])++Sz T st o
def tN(T:Tab)(st:St)(o:Oper):List Nat:=CS T (Fw.shuts (ji st o) st) o++(tJ st o).flatMap λg=>g::(st.o g).hn
section
variable {T:Tab} {tt:TT} {st st':St}
theorem Pn{d:Nat}{o:Oper}{K:Eff->Prop}(h:kJ T tt d st o K)(hx :∀x∈o.op.operands.toList,st.dh x=st'.dh x)(ho :∀g∈CS T st o,st.o g=st'.o g):kJ T tt d st' o K:=by
 have hfo:looks o.op=true->∀x∈o.op.operands.toList,∀g∈(st.dh x).names,Agree st.o st'.o g:=λhl x hm g hg=>by
  have key :∀d∈g::(st.o g).hn,st.o d=st'.o d:=λd hd=>ho d (Zs _ (by rw [hl];exact YY.2 ⟨x,hm,YY.2 ⟨g,hg,hd⟩⟩));exact ⟨key g (by simp),λd hd=>key d (by simp [hd])⟩
 have iP :∀g∈Sz T st o,st.o g=st'.o g:=λg hg=>ho g (Vn _ hg);unfold kJ at *;unfold Sz at iP;split at h
 .rename_i f args ts hop;rw [hop] at hx hfo iP;have hfo:=hfo rfl;simp only at iP;have hxf:=hx f (by simp [Op.operands,Call.operands]);have hxa :∀x∈args.toList,st.dh x=st'.dh x:=λx hm=>hx x (by simp [Op.operands,Call.operands];exact .inr (by simpa using hm));have hfa :∀x∈args.toList,∀g∈(st.dh x).names,Agree st.o st'.o g:=λx hm=>hfo x (by simp [Op.operands,Call.operands];exact .inr (by simpa using hm));have hff:=hfo f (by simp [Op.operands,Call.operands]);rw [<-hxf];split at h
  .rename_i fn caps hf;rw [hf] at hff iP;simp only at iP;split at h
   .rename_i sp hsp;rw [hsp] at iP;simp only at iP;have hmap:args.toList.map st'.dh=args.toList.map st.dh:=ZS λx hm=>(hxa x hm).symm;rw [hmap];split at h
    .rename_i c hci;rw [hci] at iP;have hnm :∀x∈(args.toList.map st.dh)++(caps.map λx=>S.v (.one x)),∀g∈x.names,Agree st.o st'.o g:=by
      intro x hm g hg;rcases Xs.1 hm with hm | hm
      .obtain ⟨y,hy,rfl⟩:=QR.1 hm;exact hfa y hy g hg
      .obtain ⟨y,hy,rfl⟩:=QR.1 hm;refine hff g ?_;obtain ⟨j,hj⟩:=VM.1 hy;simp only [S.names,V.names];exact zL hj (by simpa [S.names,V.names] using hg)
     have aqM:=Pj hci hnm λp hp=>iP p.2 (QR.2 ⟨p,hp,rfl⟩);have akk:c.vF.map (aU st.o)=c.vF.map (aU st'.o):=nR (Jp hci hnm);simp only [hsp,aqM];obtain ⟨q1,dG,same,q2,q4,q3⟩:=h;have:kV sp.sig d st'.o c dG=kV sp.sig d st.o c dG:=by simp only [kV,akk]
     refine ⟨q1,dG,same,q2,?_,?_⟩
     .rw [this];intro g hg;obtain ⟨a1,a2⟩:=q4 g hg;exact ⟨a1,by rw [a2,iP g a1]⟩
     .rw [this];exact q3
    .cases h
   .cases h
  .cases h
 .rcases h with ⟨dc,r,h1,h2,h3⟩ | h
  .refine .inl ⟨dc,r,?_,h2,h3⟩;cases hl:looks o.op with
   |true=>rw [<-L_ hx (hfo hl)];exact h1
   |false=>rw [Mc hl] at h1;cases h1
  .refine .inr ?_;cases hl:looks o.op with
   |true=>rw [<-Cm hx (hfo hl)];exact h
   |false=>rw [<-Pm hl hx];exact h
theorem yj{o o':Nat->O} :∀(n:Nat) {gs:List Nat},(∀g∈pF o n gs,o g=o' g)->pF o' n gs=pF o n gs
 |0,_,_=>rfl
 |n+1,gs,h=>by
  simp only [pF] at h ⊢;have e:(gs.flatMap λg=>xY (o' g))=gs.flatMap λg=>xY (o g):=by
   refine congrArg List.flatten (ZS λg hg=>?_);rw [h g (Zs _ hg)]
  rw [e,yj n λg hg=>h g (Vn _ hg)]
theorem SA{o o':Nat->O}{g:Nat}(h:o g=o' g)(h2 :∀d∈(o g).hn,o d=o' d):Fw.kN o g=Fw.kN o' g:=by
 unfold Fw.kN;rw [<-h];split
 .rename_i a i sz ak l n c d ho;rw [<-h2 d (by rw [ho];simp [O.hn,dA])]
 .rfl
theorem F8 :∀(hs:List Nat) {st st':St},(∀g∈hs,st.o g=st'.o g/\∀d∈(st.o g).hn,st.o d=st'.o d)->∀x,st.o x=st'.o x->(Fw.shuts hs st).o x=(Fw.shuts hs st').o x
 | [],_,_,_,_,h=>h
 |g::gs,st,st',h,x,hx=>by
  have hu:=SA (h g (by simp)).1 (h g (by simp)).2;have step :∀y,st.o y=st'.o y->(st.aJ (Fw.kN st.o g) []).o y=(st'.aJ (Fw.kN st'.o g) []).o y:=λy hy=>by simp only [St.aJ,hu,hy]
  refine F8 gs (λg' hg'=>⟨step g' (h g' (by simp [hg'])).1,λd hd=>step d ?_⟩) x (step x hx);cases hl:(Fw.kN st.o g).lookup g' with
  |none=>simp only [St.aJ,hl] at hd;exact (h g' (by simp [hg'])).2 d hd
  |some y=>simp only [St.aJ,hl] at hd;rw [Sm y hl] at hd;cases hd
theorem SB{d:Nat}{o:Oper}{K:Eff->Prop}(h:jk T tt d st o K)(hx :∀x∈o.op.operands.toList,st.dh x=st'.dh x)(ho :∀g∈tN T st o,st.o g=st'.o g):jk T tt d st' o K:=by
 have han:argNames st' o=argNames st o:=by
  unfold argNames;split
  .rename_i f args ts hop;refine congrArg List.flatten (ZS λx hm=>?_);rw [hx x (by rw [hop];simp [Op.operands,Call.operands];exact .inr (by simpa using hm))]
  .rename_i t x lo hi mx hop;rw [hx x (by rw [hop];simp [Op.operands])]
  .rfl
 have hin :∀g∈tJ st o,st.o g=st'.o g/\∀d∈(st.o g).hn,st.o d=st'.o d:=λg hg=>
  ⟨ho g (Vn _ (YY.2 ⟨g,hg,by simp⟩)),λd hd=>ho d (Vn _ (YY.2 ⟨g,hg,WD _ hd⟩))⟩
 have hns:tJ st' o=tJ st o:=by
  unfold tJ at hin ⊢;rw [han];exact yj 2 λg hg=>(hin g hg).1
 have hhs:ji st' o=ji st o:=by
  unfold ji;rw [hns,han];refine List.filter_congr λg hg=>?_;rw [(hin g hg).1]
 have hsub :∀g∈ji st o,g∈tJ st o:=λg hg=>(qi.1 hg).1;have hsh:=F8 (ji st o) λg hg=>hin g (hsub g hg);have hE :∀e,Ci (ji st o) st e=Ci (ji st o) st' e:=λe=>by
  have hU:zW (ji st o) st=zW (ji st o) st':=by
   unfold zW;refine congrArg List.flatten (ZS λg hg=>?_);have hg':=hin g (hsub g hg);rw [hsh g hg'.1,<-hg'.1];congr 1;refine ZS λd hd=>?_;rw [hsh d (hg'.2 d hd)]
  generalize ji st o=hs at hU ⊢;cases hs with
  |nil=>rfl
  |cons g gs=>simp only [Ci,hU]
 unfold jk at h ⊢;rw [hhs];refine Pn (st:=Fw.shuts (ji st o) st) (rY (λe he=>by rw [<-hE e];exact he) h) (λx hm=>?_) λg hg=>?_
 .have:=hx x hm;cases x with
  |tmp t=>show (Fw.shuts _ st).s t=(Fw.shuts _ st').s t;rw [HY,HY];exact this
  |_=>rfl
 .exact hsh g (ho g (Zs _ hg))
theorem aaB{N:Nat}{ops:Array Oper}{o:Oper}{e:Eff}(hc:Can T tt N ops st o e)(hs :∀t∈o.looksAt ops,st.s t=st'.s t)(ho :∀g∈tN T st o,st.o g=st'.o g)(hu :∀g∈e.new,st.used g=st'.used g):Can T tt N ops st' o e:=by
 have hx :∀x∈o.op.operands.toList,st.dh x=st'.dh x:=by
  intro x hm;cases x with
  |tmp t=>exact hs t (Zs _ (Ki.2 ⟨_,hm,rfl⟩))
  |_=>rfl
 have eff:(jk T tt (o.dst.getD 0) st o λe'=>e'.new.all (λg=>!st.used g)=true/\e'=e)->(jk T tt (o.dst.getD 0) st' o λe'=>e'.new.all (λg=>!st'.used g)=true/\e'=e):=by
  intro h;refine oH (λe' he=>?_) (SB h hx ho);obtain ⟨h1,rfl⟩:=he;refine ⟨?_,rfl⟩;rw [Z0] at h1 ⊢;intro g hg;rw [<-hu g hg];exact h1 g hg
 unfold Can stepW at *;refine ⟨hc.1,?_⟩;have hc:=hc.2;cases hg:o.guard with
 |none=>rw [hg] at hc;exact eff hc
 |some p=>
  obtain ⟨j,want⟩:=p;rw [hg] at hc;simp only at hc ⊢;have:guardOf ops st j want=guardOf ops st' j want:=by
   unfold guardOf;cases hd:(ops[j]?).bind (·.dst) with
   |none=>rfl
   |some t=>
    simp only;rw [hs t (Vn _ (by simp [hg,hd]))]
  rw [<-this];split at hc
  .rename_i b hb;cases b with
   |true=>exact eff hc
   |false=>exact hc
  .cases hc
end
def Np(o:Nat->O):S->Option (Bool->Prop)
 |.v (.one (.p _ _ (.sl _ l)))=>some λb=>l≠[]->b=false
 |.v (.one (.own g))=>match (o g).dim with
  |some (_,l)=>some λb=>l≠0->b=false
  |none=>none
 |.v (.one .dw)=>some λb=>b=true
 |_=>none
def F9(o:Nat->O):S->Option (Bool->Prop)
 |.v (.one (.box g _))=>match o g with
  |.box _=>some λb=>b=false
  |_=>none
 |.v (.one (.p _ _ (.opq (.pointer none))))=>some λb=>b=true
 |_=>none
def yt(o:Nat->O)(x:S)(k:TK)(c:Value):Option (Bool->Prop):=
 match k,c with
 |.slice _,.slice none 0 0=>Np o x
 |.ptr,.pointer none=>F9 o x
 |_,_=>none
def Po(tt:TT)(st:St)(o:Oper):Option (Bool×(Bool->Prop)):=
 match o.guard with
 |some _=>none
 |none=>match o.op with
  |.binOp op t x (.const c) _=>match tt t with
   |some i=>match op,yt st.o (st.dh x) i.k c with
    |.eql,some p=>some (true,p)
    |.neq,some p=>some (false,p)
    |_,_=>none
   |none=>none
  |_=>none
def SC(s n:P):Bool:=decide (n.nat<s.bytes.size)
def acU(s n:P):P:=.int .i32 (Utf8.decode s.bytes n.nat).1
def V3(s n:P):P:=kY (n.nat+(Utf8.decode s.bytes n.nat).2)
def Pq(st:St)(o:Oper):Option (Nat×P×P):=
 match o.guard with
 |some _=>none
 |none=>match o.op with
  |.next x true=>match st.dh x with
   |.v (.one (.nJ g))=>match st.o g with
    |.it s n=>some (g,s,n)
    |_=>none
   |_=>none
  |_=>none
def Jq(g:Nat)(s n:P):Eff:={ x:=.jD [.one (.p false false (.bool true)),.one (.p false false (kY n.nat)),.one (.p false false (acU s n))],aJ:=[(g,.it s (V3 s n))],new:=[] }
def Nq:Eff:={ x:=.jD [.one (.p false false (.bool false))],aJ:=[],new:=[] }
def CU(T:Tab)(tt:TT)(N:Nat)(ops:Array Oper)(o:Oper)(st:St)(K:Eff->Prop):Prop:=
 match Po tt st o with
 |some (pos,p)=>(match o.dst with
  |some d=>decide (d<N)
  |none=>true)=true/\∀b:Bool,p b->K { x:=scalar (.bool (bif pos then b else !b)),aJ:=[],new:=[] }
 |none=>match Pq st o with
  |some (g,s,n)=>(match o.dst with
   |some d=>decide (d<N)
   |none=>true)=true/\(SC s n=true->K (Jq g s n))/\(SC s n=false->K Nq)
  |none=>stepW T tt N ops o st K
def wz(T:Tab)(tt:TT)(N:Nat)(ops:Array Oper):List Nat->St->(St->Prop)->Prop
 | [],st,K=>K st
 |i::is,st,K=>match ops[i]? with
  |some o=>CU T tt N ops o st λe=>wz T tt N ops is (st.eff o.dst e) K
  |none=>False
structure tV where
 rd:List Nat
 wr:List Nat
 new:List Nat
 ld:Option (Nat×Nat×Nat)
 kp:List (Nat×Nat)
 pk:Bool
 kd:List Nat
def acV:W->W->Bool
 |.own g,.own g'=>Nat.beq g g'
 |.box g off,.box g' off'=>Nat.beq g g'&&Nat.beq off off'
 |_,_=>false
def CV(g:Nat):Nat->List W->List W->Option (List (Nat×Nat))
 |_,[],[]=>some []
 |j,x::xs,y::ys=>match CV g (j+1) xs ys with
  |some r=>some (match acV x y with
   |true=>(g,j)::r
   |false=>r)
  |none=>none
 |_,_,_=>none
def SE(g:Nat):O->Option O->List (Nat×Nat)
 |.box ws,some (.box ws')=>match CV g 0 ws ws' with
  |some r=>r
  |none=>[]
 |_,_=>[]
def m_:Op->Bool
 |.nilCheck _=>true
 |.fieldAddr _ _ _=>true
 |_=>false
def Jr:Op->Bool
 |.load _ _=>true
 |_=>false
def O.core:O->Option (Bool×Bool×Nat×List (Nat×Nat)×List (List P))
 |.aN a i sz ak l _=>some (a,i,sz,ak,l)
 |_=>Option.none
def keepR(g:Nat):O->Option O->List (Nat×Nat)
 |.aN _ _ _ _ _ hole,some (.aN _ _ _ _ _ _)=>match hole with
  |none=>[(g,5000000)]
  |some _=>[]
 |_,_=>[]
def Pv(st:St)(o:Oper)(e:Eff):List (Nat×Nat):=(bif m_ o.op then (o.op.operands.toList.flatMap λx=>(st.dh x).names).map λg=>(g,0) else []) ++
 (e.aJ.map (·.1)).flatMap λg=>SE g (st.o g) (e.aJ.lookup g)++bif Jr o.op then keepR g (st.o g) (e.aJ.lookup g) else []
def kindOf:O->Nat
 |.box _=>1
 |.arr _ _ _ _ _=>2
 |.aN _ _ _ _ _ _=>2
 |.it _ _=>3
 |.none=>0
def V4(st:St)(e:Eff):List Nat:=(e.aJ.map (·.1)).filterMap λg=>match e.aJ.lookup g with
 |some x=>bif Nat.beq (kindOf x) (kindOf (st.o g)) then some g else none
 |none=>none
def Me(tt:TT)(st:St)(o:Oper):Option (Nat×Nat×Nat):=match o.op with
 |.load t x=>match tt t,st.dh x with
  |some i,.v (.one (.box g off))=>some (g,off,i.size)
  |some i,.v (.one (.ep g _ off))=>match st.o g with
   |.aN _ _ _ ak _ _=>bif (jg ak off i.size).isEmpty then some (g,5000000,1) else none
   |_=>none
  |_,_=>none
 |_=>none
def oV(T:Tab)(tt:TT)(N:Nat)(ops:Array Oper):List Nat->St->List tV->(St->List tV->Prop)->Prop
 | [],st,fs,K=>K st fs
 |i::is,st,fs,K=>match ops[i]? with
  |some o=>stepW T tt N ops o st λe=>oV T tt N ops is (st.eff o.dst e) (fs++[{ rd:=tN T st o,wr:=e.aJ.map (·.1),new:=e.new,ld:=Me tt st o,kp:=Pv st o e,pk:=m_ o.op,kd:=V4 st e }]) K
  |none=>False
def lQ(acc:List Nat)(o:Oper):Nat:=o.after.toList.foldl (λs e=>if Region.binds .any e=true then s ||| (2 ^ e.on) ||| acc.getD e.on 0 else s) 0
def oJ:List Oper->List Nat->List Nat
 | [],acc=>acc
 |o::os,acc=>oJ os (acc++[lQ acc o])
def Js(x:Option Tmp)(ts:List Tmp):Bool:=match x with
 |some t=>!ts.contains t
 |none=>true
def Gf(w r:tV):Bool:=match r.ld with
 |some (g,off,n)=>(List.range n).all λj=>w.kp.any λp=>Nat.beq p.1 g&&Nat.beq p.2 (off+j)
 |none=>r.pk&&r.kp.all λp=>!w.wr.contains p.1||w.kd.contains p.1
def acW(ops:Array Oper)(x y:Oper)(fx fy:tV):Bool:=
 Js x.dst (y.looksAt ops)&&Js y.dst (x.looksAt ops)&&Js x.dst y.dst.toList&&(O5 fx.wr fy.rd||Gf fx fy)&&(O5 fy.wr fx.rd||Gf fy fx)&&O5 fx.wr fy.wr&&O5 fx.new fy.new
def Yd(ops:Array Oper)(fs:List tV):Bool:=
 let as:=oJ ops.toList []
 (List.range ops.size).all λj=>decide (as.getD j 0<2 ^ j)&&(List.range j).all λi=>(as.getD j 0).testBit i||match ops[i]?,ops[j]?,fs[i]?,fs[j]? with
  |some x,some y,some fx,some fy=>acW ops x y fx fy
  |_,_,_,_=>false
def rZ(T:Tab)(tt:TT)(N:Nat)(ops:Array Oper)(draw:Bool)(st:St)(K:St->Prop):Prop:=
 match draw with
 |false=>wz T tt N ops (List.range ops.size) st K
 |true=>oV T tt N ops (List.range ops.size) st [] λst' fs=>Yd ops fs=true/\K st'
end Go.Fw

