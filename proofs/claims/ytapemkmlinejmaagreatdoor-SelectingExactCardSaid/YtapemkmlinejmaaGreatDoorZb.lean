/-
  The framework (a machine on plain data that answers as the program does), part 2.
-/
import Derived.RangeFuncOwn
import Derived.Orders
import Derived.Test.YtapemkmlinejmaaGreatDoorZa
set_option linter.unusedSimpArgs false
set_option linter.unusedVariables false
set_option linter.unusedSectionVars false
namespace Go.Fw
variable [eX]
def sJ:List Nat->Bool
 | []=>true
 |x::xs=>!xs.contains x&&sJ xs
def DX (xs ys:List Nat):Bool:=xs.all fun x=>!ys.contains x
def nK (aj:List (Nat×Nat)) (off n:Nat):List (Nat×Nat):=aj.filter fun c=>Nat.ble off c.1&&Nat.blt c.1 (off+n)
def jI (o:Nat->O) (g:Nat):Option (Bool×Bool×Nat×List (Nat×Nat)×List (List P)):=match o g with
 |.aO a i sz aj l hole=>match hole with
  |none=>some (a,i,sz,aj,l)
  |some (n,c,d)=>match o d with
   |.arr false a' i' sz' l'=>if aj.lookup c=some sz'/\c<sz then some (a||a',i||i',sz,aj,jl l n c (P.gq sz' l')) else none
   |_=>none
 |_=>none
def kills (gs:List Nat):List (Nat×O):=gs.map fun g=>(g,.none)
def Qb (o:Nat->O) (col:Nat->Option Nat):Nat->List W->Option (List P×Bool×Bool×List Nat×List (Nat×Nat))
 |_,[]=>some ([],false,false,[],[])
 |j,x::xs=>match Qb o col (j+1) xs with
  |none=>none
  |some (ys,a',i',gs',es)=>match col j with
   |none=>match x.toP o with
    |some (y,a,i,gs)=>some (y::ys,a||a',i||i',gs++gs',es)
    |none=>none
   |some s=>match x with
    |.dF=>some (.sl 0 []::ys,a',i',gs',es)
    |.own e=>match o e with
     |.arr false a i s' l=>if s'=s then some (P.gq s l::ys,a||a',i||i',gs',(j,e)::es) else none
     |_=>none
    |_=>none
def baseD (o:Nat->O):W->Option (Prop×Bool×Bool×List (List P)×List Nat×Option (Nat×List (Nat×Nat)))
 |.dF=>some (True,false,false,[],[],none)
 |.own g=>match jI o g with
  |some (a,i,sz,aj,l)=>some (True,a,i,l,g::(o g).hn,some (sz,aj))
  |none=>none
 |.vw g lo hi=>match jI o g with
  |some (a,i,sz,aj,l)=>some (lo=lY 0,a,i,l.take hi.nat,g::(o g).hn,some (sz,aj))
  |none=>none
 |_=>none
def hdr (l:List (List P)):P:=.sl 0 (List.replicate l.length [])
def abl:List (Nat×Nat)->Bool
 | [(0,0)]=>true
 |_=>false
def z_ (tt:TT) (o:Nat->O) (f:Operand->S) (t:TypeId) (x:Operand):Option DL:=match tt t,f x with
 |some i,.v (.one (.ep g n off))=>match jI o g with
  |some (a,i',sz,aj,l)=>match aj.lookup off with
   |some _=>if off<sz/\i.size=1/\i.agg=false then some (.pure (.v (.one (.p false false (hdr ((l.getD n.nat []).getD off default).list))))) else none
   |none=>none
  |none=>none
 |_,_=>none
def dW (tt:TT) (dc:List (Nat×Nat)) (d:Nat) (o:Nat->O) (f:Operand->S) (op:Op) (ty:TypeId):Option DL:=
 match op with
 |.load t x=>bif abl dc then z_ tt o f t x else match tt t,f x with
  |some i,.v (.one (.ep g n off))=>match o g with
   |.aO a0 i0 Aa kQ l0 hole=>if off+i.size<=Aa/\0<i.size then match nK kQ off i.size with
    | []=>some (.pure (V.gI i.agg ((List.range i.size).map fun j=>.p a0 i0 ((l0.getD n.nat []).getD (off+j) (Uu i.zero j)))))
    | [(c,s)]=>match jI o g with
     |some (a,i',sz,aj,l)=>some (.mk True (.sl sz l) (fun y=>V.gI i.agg ((List.range i.size).map fun j=>if Nat.beq (off+j) c=true then .own d else .p a i' ((y.list.getD n.nat []).getD (off+j) (Uu i.zero j))))
       (fun y=>(g,.aO a i' sz aj y.list (some (n.nat,c,d)))::(d,.arr false a i' s ((y.list.getD n.nat []).getD c default).list)::kills (o g).hn) [d])
     |none=>none
    |_=>none
    else none
   |_=>none
  |_,_=>none
 |.store t x y=>match tt t,f x,f y with
  |some i,.v (.one (.ep g n off)),.v y=>match o g with
   |.aO a0 i0 sz aj l0 hole=>match Qb o (fun j=>aj.lookup j) off y.words with
    |some (ps,a',i',gs,es)=>if off+i.size<=sz/\y.words.length=i.size/\y.solid=true/\gs.contains g=false/\sJ (es.map (·.2))=true/\DX (es.map (·.2)) gs=true then
      let res (pre:Prop) (a i:Bool) (l:List (List P)) (ji:Option (Nat×Nat×Nat)) (ks:List Nat):DL:=
       .mk pre (.sl sz (l.set n.nat (aS (l.getD n.nat []) off ps))) (fun _=>.no) (fun z=>(g,.aO (a||a') (i||i') sz aj z.list ji)::kills (es.map (·.2))++kills ks++gs.map (aW o)) []
      match nK aj off i.size with
      | []=>some (res True a0 i0 l0 hole [])
      |_::_=>match hole with
       |none=>some (res True a0 i0 l0 none [])
       |some (n0,c0,d0)=>match jI o g with
        |some (a,i1,_,_,l)=>if (es.map (·.2)).contains d0=false/\gs.contains d0=false then some (res True a i1 l none [d0])
          else if off<=c0/\c0<off+i.size then some (res (n0=n.nat) a0 i0 l0 none []) else none
        |none=>if off<=c0/\c0<off+i.size then some (res (n0=n.nat) a0 i0 l0 none []) else none
      else none
    |none=>none
   |_=>none
  |_,_,_=>none
 |.buildSlice t n parts=>match tt t,dc with
  |some { k:=.slice e,.. },_::_=>match tt e with
   |some ie=>match lZ (fun m=>if m<n then some (m*ie.size,ie.size) else none) (gu (ie.zero.map cv) n) (parts.toList.map fun p=>(p.1,f p.2)) with
    |some ws=>match Qb o (fun j=>dc.lookup (j % ie.size)) 0 ws with
     |some (ps,a,i,gs,es)=>if n+n*ie.size<=16777216/\sJ (es.map (·.2))=true/\DX (es.map (·.2)) gs=true then
       some (.mk True (.sl ie.size (chunks ie.size n ps)) (fun _=>.v (.one (.own d)))
        (fun y=>(d,.aO a i ie.size dc y.list none)::kills (es.map (·.2))++gs.map (aW o)) [d]) else none
     |none=>none
    |none=>none
   |none=>none
  |_,_=>none
 |.makeSlice t n c=>match tt t,f n,f c,dc with
  |some { k:=.slice e,.. },.v (.one (.p _ _ n)),.v (.one (.p _ _ c)),_::_=>match tt e with
   |some ie=>match Qb o (fun j=>dc.lookup j) 0 (ie.zero.map cv) with
    |some (ps,false,false,[],[])=>if 0<ie.size then
     some (.mk (∃m k:Nat,n=.int .i64 m/\c=.int .i64 k/\m<=k/\ie.bytes*k<=281474976710656/\k<=9223372036854775807) (.sl ie.size (List.replicate n.nat ps))
      (fun _=>.v (.one (.own d))) (fun y=>[(d,.aO false false ie.size dc y.list none)]) [d]) else none
    |_=>none
   |none=>none
  |_,_,_,_=>none
 |.call { callee:=.builtin .append,args,argTypes }=>match args.toList,argTypes.toList with
  | [s,x],sT::xT::_=>match tt sT,tt xT,f s,f x with
   |some { k:=.slice e,.. },some { k:=.slice _,.. },.v (.one s),.v (.one (.own g2))=>match tt e,baseD o s,jI o g2 with
    |some ie,some (ask,a,i,old,ks,src),some (a2,i2,sz,aj,new)=>
     if ie.bytes≠0/\sz=ie.size/\(src=none\/src=some (sz,aj))/\sJ (ks++g2::(o g2).hn)=true then
      some (.mk (ask/\(old.length+new.length)*ie.bytes<=140737488355328) (.sl sz (old++new)) (fun _=>.v (.one (.own d)))
       (fun y=>(d,.aO (a||a2) (i||i2) sz aj y.list none)::kills (ks++g2::(o g2).hn)) [d]) else none
    |_,_,_=>none
   |_,_,_,_=>none
  |_,_=>none
 |.slice t x none hi none=>match tt t,f x with
  |some { k:=.slice e,.. },.v (.one (.own g))=>match tt e,o g with
   |some ie,.arr false a i sz l=>if sz=ie.size then match nG (lY l.length) (hi.map f) with
    |some hi=>some (.mk (∃k:Nat,hi=.int .i64 k/\k<=l.length) (.sl sz (l.take hi.nat)) (fun _=>.v (.one (.own d))) (fun y=>[(d,.arr false a i sz y.list),(g,.none)]) [d])
    |none=>none
    else none
   |_,_=>none
  |_,_=>none
 |_=>none
section
variable {E:Env} {st st':St} {gh bM:Nat->Gh} {w w':World} {val:Nat->Value} {Pg:Program} {tt:TT}
theorem rF :∀{l:List Nat},sJ l=true->l.Nodup
 | [],_=>List.nodup_nil
 |x::l,h=>by
  simp only [sJ,Qt,Wf,Wl,decide_eq_false_iff_not] at h;exact UT.2 ⟨h.1,rF h.2⟩
theorem Fa {xs ys:List Nat} (h:DX xs ys=true) :∀x∈xs,x∉ys:=by
 intro x hx;have:=(XX.1 h) x hx;simpa using this
theorem iD {gs:List Nat} {g:Nat}:(kills gs).lookup g=if g∈gs then some O.none else none:=by
 induction gs with
 |nil=>rfl
 |cons x gs ih=>
  simp only [kills,Qf,List.lookup,QQ];by_cases e:g=x
  .subst e;simp
  .have:(g==x)=false:=by simpa using e
   rw [this];simp only [e,false_or];exact ih
theorem Ac {α:Type} {g:Nat} :∀{l r:List (Nat×α)},(l++r).lookup g=(l.lookup g).or (r.lookup g)
 | [],r=>by simp
 |(k,v)::l,r=>by
  simp only [K5,List.lookup];split
  .rfl
  .exact Ac
theorem lookup_cons {α:Type} {g k:Nat} {v:α} {r:List (Nat×α)}:((k,v)::r).lookup g=if g=k then some v else r.lookup g:=by
 simp only [List.lookup];by_cases e:g=k
 .subst e;simp
 .have:(g==k)=false:=by simpa using e
  rw [this,if_neg e]
theorem Iy {aj:List (Nat×Nat)} {off n j:Nat} (h:nK aj off n=[]) (h1:off<=j) (h2:j<off+n):aj.lookup j=none:=by
 cases hl:aj.lookup j with
 |none=>rfl
 |some s=>
  have hm:(j,s)∈aj:=by
   clear h
   induction aj with
   |nil=>cases hl
   |cons p aj ih=>
    obtain ⟨k,v⟩:=p;rw [lookup_cons] at hl;split at hl
    .rename_i e;cases hl;subst e;simp
    .exact VM _ (ih hl)
  have:(j,s)∈nK aj off n:=vo.2 ⟨hm,by simp [h1,h2]⟩;rw [h] at this;cases this
theorem Fb {α:Type} {g:Nat} {v:α} :∀{l:List (Nat×α)},l.lookup g=some v->(g,v)∈l
 | [],h=>by cases h
 |(k,x)::l,h=>by
  rw [lookup_cons] at h;split at h
  .rename_i e;cases h;subst e;simp
  .exact VM _ (Fb h)
theorem UG {aj:List (Nat×Nat)} {off n c s:Nat} (h:nK aj off n=[(c,s)]):aj.lookup c=some s/\off<=c/\c<off+n/\∀j,off<=j->j<off+n->j≠c->aj.lookup j=none:=by
 have hm:(c,s)∈nK aj off n:=by rw [h];simp
 obtain ⟨m1,m2⟩:=vo.1 hm;simp only [Qt,Nat.ble_eq,Nat.blt_eq] at m2;have key :∀j s',aj.lookup j=some s'->off<=j->j<off+n->(j,s')=(c,s):=by
  intro j s' hl h1 h2;have:(j,s')∈nK aj off n:=vo.2 ⟨Fb hl,by simp [h1,h2]⟩;rw [h] at this;simpa using this
 refine ⟨?_,m2.1,m2.2,fun j h1 h2 hne => ?_⟩
 .cases hl:aj.lookup c with
  |none=>
   exfalso;clear h hm key
   induction aj with
   |nil=>cases m1
   |cons p aj ih=>
    obtain ⟨k,v⟩:=p;rw [lookup_cons] at hl;split at hl
    .cases hl
    .rename_i e;rcases QQ.1 m1 with e1 | e1
     .cases e1;exact e rfl
     .exact ih e1 hl
  |some s'=>have:=key c s' hl m2.1 m2.2;cases this;rfl
 .cases hl:aj.lookup j with
  |none=>rfl
  |some s'=>have:=key j s' hl h1 h2;cases this;exact absurd rfl hne
theorem Rel.home (h:Rel E st gh val w) {g:Nat} {a i:Bool} {sz:Nat} {aj:List (Nat×Nat)} {l:List (List P)} (hh:jI st.o g=some (a,i,sz,aj,l)) :
  ∃st1 ny,Rel E st1 ny val w/\Lets E st st1 gh ny w w/\(∀x,(ny x).ad=(gh x).ad/\(ny x).cap=(gh x).cap)/\st1.s=st.s/\(∀x,st1.used x=st.used x)/\st1.o g=.aO a i sz aj l none/\
   (∀d∈(st.o g).hn,st1.o d=.none/\d≠g)/\∀g',g'≠g->g'∉(st.o g).hn->st1.o g'=st.o g':=by
 unfold jI at hh;cases ho:st.o g with
 |aO a0 i0 Aa kQ l0 hole=>
  rw [ho] at hh;simp only at hh;rcases hole with _ | ⟨n,c,d⟩
  .simp only [Q0,Q1] at hh;obtain ⟨rfl,rfl,rfl,rfl,rfl⟩:=hh;exact ⟨st,gh,h,⟨fun a i b hb=>⟨hb,rfl⟩,fun g _=>.inr ⟨⟨rfl,rfl⟩,O.fH _⟩⟩,fun _=>⟨rfl,rfl⟩,rfl,fun _=>rfl,ho,(fun d hd=>by cases hd),fun _ _ _=>rfl⟩
  .simp only at hh;cases hd:st.o d with
   |arr fz a' i' sz' l'=>
    rw [hd] at hh;cases fz with
    |true=>cases hh
    |false=>
     simp only at hh;split at hh
     .rename_i hc;simp only [Q0,Q1] at hh;obtain ⟨rfl,rfl,rfl,rfl,rfl⟩:=hh;obtain ⟨ny,h1,l1,e1⟩:=h.shut ho hd hc.1 hc.2;have hne:d≠g:=by intro e;subst e;rw [ho] at hd;cases hd
      refine ⟨_,ny,h1,l1,e1,rfl,fun x=>by simp [St.aK],by simp [St.aK,List.lookup],fun d' hd' => ?_,fun g' h1 h2 => ?_⟩
      .simp only [O.hn,dN,QP] at hd';subst hd';have e1:(d'==g)=false:=by simpa using hne
       exact ⟨by simp [St.aK,List.lookup,e1],hne⟩
      .have e1:(g'==g)=false:=by simpa using h1
       have e2:(g'==d)=false:=by simp;intro e;exact h2 (by rw [e];simp [O.hn,dN])
       simp [St.aK,List.lookup,e1,e2]
     .cases hh
   |_=>rw [hd] at hh;cases hh
 |_=>rw [ho] at hh;cases hh
theorem oG {o:Nat->O} {g:Nat} {a i:Bool} {sz:Nat} {aj:List (Nat×Nat)} {l:List (List P)} (hh:jI o g=some (a,i,sz,aj,l)):(o g).dim=some (sz,l.length):=by
 unfold jI at hh;cases ho:o g with
 |aO a0 i0 Aa kQ l0 hole=>
  rw [ho] at hh;simp only at hh;rcases hole with _ | ⟨n,c,d⟩
  .simp only [Q0,Q1] at hh;obtain ⟨rfl,rfl,rfl,rfl,rfl⟩:=hh;rfl
  .simp only at hh;split at hh
   .split at hh
    .simp only [Q0,Q1] at hh;obtain ⟨rfl,rfl,rfl,rfl,rfl⟩:=hh;simp [O.dim,jh]
    .cases hh
   .cases hh
 |_=>rw [ho] at hh;cases hh
theorem Iz {Q:Nat->Value->Prop} {b o n:Nat} (h :∀j,j<n->∃v,w.cell? ⟨b,o+j,none⟩=some v/\v.oneCell'=true/\Q j v) :
  ∃cs:List Value,cs.length=n/\(∀(j:Nat) u,cs[j]?=some u->w.cell? ⟨b,o+j,none⟩=some u)/\(∀c∈cs,c.oneCell'=true)/\∀(j:Nat) u,cs[j]?=some u->Q j u:=by
 have key :∀j u,((List.range n).map fun j=>(w.cell? ⟨b,o+j,none⟩).getD undef)[j]?=some u->j<n/\w.cell? ⟨b,o+j,none⟩=some u/\u.oneCell'=true/\Q j u:=by
  intro j u hu;simp only [XS,ZS] at hu;obtain ⟨k,hk,rfl⟩:=hu;obtain ⟨hlt,rfl⟩:=Q3.1 hk;simp at hlt ⊢;obtain ⟨v,hv,h1,h2⟩:=h j hlt;rw [hv];exact ⟨hlt,rfl,h1,h2⟩
 refine ⟨(List.range n).map fun j=>(w.cell? ⟨b,o+j,none⟩).getD undef,by simp,fun j u hu=>(key j u hu).2.1,fun c hc => ?_,fun j u hu=>(key j u hu).2.2.2⟩;obtain ⟨j,hj⟩:=Vc.1 hc;exact (key j c hj).2.2.1
def qG (Pg:Program) (tt:TT) (dc:List (Nat×Nat)) (op:Op):Prop:=
 ∀(E:Env) (st:St) (gh:Nat->Gh) (val:Nat->Value) (w:World) (ρ:Operand->Value) (F:Operand->S) (o:Oper) (d:Nat) (r:DL),o.op=op->Rel E st gh val w->
  (∀x,dL E st gh w (F x) (ρ x))->(∀x,∀g∈(F x).names,st.used g=true)->dW tt dc d st.o F op o.type=some r->r.pre->(∀g∈r.new,st.used g=false)->
  ∃v w' bM,Does Pg (execOp ρ o) w v w'/\Rel E (st.aK (r.aK r.val) r.new) bM val w'/\Lets E st (st.aK (r.aK r.val) r.new) gh bM w w'/\dL E (st.aK (r.aK r.val) r.new) bM w' (r.dst r.val) v/\
   ∀g∈(r.dst r.val).names,(st.aK (r.aK r.val) r.new).used g=true
theorem St.DY {a b:St} (h1:a.s=b.s) (h2 :∀g,a.o g=b.o g) (h3 :∀g,a.used g=b.used g):a=b:=by
 obtain ⟨s,o,u⟩:=a;obtain ⟨s',o',u'⟩:=b;simp only at h1 h2 h3;rw [h1,funext h2,funext h3]
theorem KN (htt:iR Pg tt) (t:TypeId) (x:Operand) {E:Env} {st:St} {gh:Nat->Gh} {val:Nat->Value} {w:World} {ρ:Operand->Value} {F:Operand->S} {o:Oper} {r:DL} (ho:o.op=.load t x) (h:Rel E st gh val w)
  (hF :∀x,dL E st gh w (F x) (ρ x)) (hk:z_ tt st.o F t x=some r) :
  ∃v w' bM,Does Pg (execOp ρ o) w v w'/\Rel E (st.aK (r.aK r.val) r.new) bM val w'/\Lets E st (st.aK (r.aK r.val) r.new) gh bM w w'/\dL E (st.aK (r.aK r.val) r.new) bM w' (r.dst r.val) v/\
   ∀g∈(r.dst r.val).names,(st.aK (r.aK r.val) r.new).used g=true:=by
 unfold z_ at hk;split at hk
 .rename_i i g n off ht hx;have rx:=hF x;rw [hx] at rx;split at hk
  .rename_i a i' sz aj l hh;split at hk
   .rename_i s ae8;split at hk
    .rename_i hlt;simp only [Q0] at hk;subst hk;obtain ⟨st1,ny,h1,l1,e1,es,eu,eo,ek,en1⟩:=h.home hh;have Qy:=oG hh;obtain ⟨ad,k,had,rfl,hkl,hv⟩:=(by cases rx.dK with | ep _ _ _ _ _ hb=>exact hb _ _ Qy :∃(ad:Addr) (k:Nat),(gh g).ad=some ad/\n=.int .i64 k/\k<l.length/\ρ x=.pointer (some ⟨ad.block,ad.off+k*sz+off,none⟩));have en:(P.int .i64 (k:Int)).nat=k:=by simp [P.nat,P.num]
     have KO:(ny g).ad=some ad:=by rw [(e1 g).1];exact had
     have hD:mO E st1 ny w a i' sz aj l none (ny g):=by have:=h1.bf g;rw [eo] at this;exact this
     rcases hD with ⟨k1,_⟩ | ⟨ad0,cs0,ty,k1,k2,k3,k4,k5,k6,_,k8⟩
     .rw [KO] at k1;cases k1
     rw [KO] at k1;cases k1;have hrow:l[k]?=some l[k]:=Q2 hkl;have hrl:l[k].length=sz:=k6 _ (QR hkl);have hoff:off<l[k].length:=by omega
     obtain ⟨v,hv0,hr⟩:=k8 k _ hrow off _ (Q2 hoff);unfold iQ at hr;rw [ae8] at hr;simp only [iq] at hr;obtain ⟨l',ao,kk,hy,rfl,harr,_⟩:=hr;have hcell:w.cell? ⟨ad.block,ad.off+k*sz+off,none⟩=some (.slice ao l'.length kk):=by simp [World.cell?,k3,hv0]
     obtain ⟨v,hrun,hval⟩:=kE (Pg:=Pg) (w:=w) (htt _ _ ht) ad.block (ad.off+k*sz+off) [.slice ao l'.length kk] (by simp [hlt.2.1]) (fun j c hj=>by
      cases j with
      |zero=>simp at hj;subst hj;exact hcell
      |succ j=>simp at hj) (fun _=>by omega)
     have hvv:v=.slice ao l'.length kk:=by
      rw [hlt.2.2] at hval;exact hval _ rfl
     have hdr':hdr ((l.getD (P.int .i64 (k:Int)).nat []).getD off default).list=.sl 0 (List.replicate l'.length []):=by
      rw [en];have e2:(l.getD k []).getD off default=l[k][off]:=by
       rw [List.getD_eq_getElem?_getD,List.getD_eq_getElem?_getD,hrow];simp [Q2 hoff]
      rw [e2,hy,P.oC];rfl
     rw [hdr'];refine still h (v:=v) (by unfold execOp;rw [ho];exact gY (by rw [hv];simpa [Instr.loadAt,Instr.sureAddr] using hrun)) (dL.ofP ?_) fun g' hg'=>by simp [DL.pure,S.names,V.names,W.names] at hg'
     rw [hvv];rcases harr with ⟨q1,q2,q3⟩ | ⟨BA,c2,e2,q1,q2,q3,q4,q5,_⟩
     .subst q3;exact .nil _ _ _
     .have q1:ao=some BA:=q1;have q5:l'.length<=kk/\kk<=9223372036854775807:=q5;rw [q1];have:=dh.sl (w:=w) (ok:=E.ok st gh w false false) 0 (List.replicate l'.length []) BA kk (fun _ _=>undef) q2 (fun h0=>absurd h0 (Kj 0)) (by simpa using q5.1) (fun x hx=>by rw [KB hx];rfl)
       (fun n x hx j y hy=>by rw [KB (XN hx)] at hy;simp at hy) (fun n x hx j y hy=>by rw [KB (XN hx)] at hy;simp at hy)
      simpa using this
    .cases hk
   .cases hk
  .cases hk
 .cases hk
theorem Qz {dc:List (Nat×Nat)} (htt:iR Pg tt) (t:TypeId) (x:Operand):qG Pg tt dc (.load t x):=by
 intro E st gh val w ρ F o d r ho h hF hFn hk hp hd;simp only [dW] at hk;cases hhd:abl dc with
 |true=>rw [hhd] at hk;exact KN htt t x ho h hF hk
 |false=>
 rw [hhd] at hk;simp only [cond_false] at hk;split at hk
 .rename_i i g n off ht hx;have rx:=hF x;rw [hx] at rx;split at hk
  .rename_i a0 i0 Aa kQ l0 hole hog;split at hk
   .rename_i hlt;have Qy:(st.o g).dim=some (Aa,l0.length):=by rw [hog];rfl
    obtain ⟨ad,k,had,rfl,hkl,hv⟩:=(by cases rx.dK with | ep _ _ _ _ _ hb=>exact hb _ _ Qy :∃(ad:Addr) (k:Nat),(gh g).ad=some ad/\n=.int .i64 k/\k<l0.length/\ρ x=.pointer (some ⟨ad.block,ad.off+k*Aa+off,none⟩));have en:(P.int .i64 (k:Int)).nat=k:=by simp [P.nat,P.num]
    split at hk
    .rename_i hci;simp only [Q0] at hk;subst hk;have hD:mO E st gh w a0 i0 Aa kQ l0 hole (gh g):=by have:=h.bf g;rw [hog] at this;exact this
     rcases hD with ⟨k1,_⟩ | ⟨ad0,cs0,ty,k1,k2,k3,k4,k5,k6,_,k8⟩
     .rw [had] at k1;cases k1
     rw [had] at k1;cases k1;have hrow:l0[k]?=some l0[k]:=Q2 hkl;have hrl:l0[k].length=Aa:=k6 _ (QR hkl);have hget:l0.getD (P.int .i64 (k:Int)).nat []=l0[k]:=by rw [en,List.getD_eq_getElem?_getD,hrow];rfl
     obtain ⟨cs,hl,hcell,hone,hrep⟩:=Iz (w:=w) (b:=ad.block) (o:=ad.off+k*Aa+off) (n:=i.size) (Q:=fun j v=>dh w (E.ok st gh w a0 i0) (l0[k].getD (off+j) (Uu i.zero j)) v) fun j hj=>by
      have hlt':off+j<l0[k].length:=by omega
      obtain ⟨v,hv,hr⟩:=k8 k _ hrow (off+j) _ (Q2 hlt');simp only [iQ,Iy hci (show off<=off+j by omega) (show off+j<off+i.size by omega)] at hr;have e0:ad.off+k*Aa+off+j=ad.off+k*Aa+(off+j):=by omega
      refine ⟨v,by rw [e0];simp [World.cell?,k3,hv],hr.oneCell,?_⟩;rw [List.getD_eq_getElem?_getD,Q2 hlt'];exact hr
     obtain ⟨v,hrun,hval⟩:=kE (Pg:=Pg) (w:=w) (htt _ _ ht) ad.block (ad.off+k*Aa+off) cs hl hcell (fun _=>hlt.2);rw [hget];exact still h (v:=v) (by unfold execOp;rw [ho];exact gY (by rw [hv];simpa [Instr.loadAt,Instr.sureAddr] using hrun)) (kX (by simp [hl]) hone (fun j y u hy hu=>by
       simp only [XS,ZS] at hy;obtain ⟨q,hq,rfl⟩:=hy;obtain ⟨hlt2,rfl⟩:=Q3.1 hq;simp at hlt2 ⊢;exact .p _ _ _ _ (hrep _ u hu)) v hval)
      fun g' hg'=>by obtain ⟨y,hy,hg'⟩:=jF hg';rw [sG hy] at hg';cases hg'
    .rename_i c s hci;split at hk
     .rename_i a i' sz aj l hh;simp only [Q0] at hk;subst hk;obtain ⟨st1,ny,h1,l1,e1,es,eu,eo,ek,en1⟩:=h.home hh;have abm:=oG hh;rw [Qy] at abm;simp only [Q0,Q1] at abm;obtain ⟨rfl,hll⟩:=abm;have hcols:aj=kQ:=by
       unfold jI at hh;rw [hog] at hh;simp only at hh;split at hh
       .cases hh;rfl
       .split at hh
        .split at hh
         .cases hh;rfl
         .cases hh
        .cases hh
      subst hcols;obtain ⟨c1,c2,c3,c4⟩:=UG hci;have G5:st.used d=false:=hd d (by simp);have KO:(ny g).ad=some ad:=by rw [(e1 g).1];exact had
      have hD:mO E st1 ny w a i' Aa aj l none (ny g):=by have:=h1.bf g;rw [eo] at this;exact this
      rcases hD with ⟨k1,_⟩ | ⟨ad0,cs0,ty,k1,k2,k3,k4,k5,k6,_,k8⟩
      .rw [KO] at k1;cases k1
      rw [KO] at k1;cases k1;have hkl':k<l.length:=by omega
      have hrow:l[k]?=some l[k]:=Q2 hkl';have hrl:l[k].length=Aa:=k6 _ (QR hkl');have hget:l.getD (P.int .i64 (k:Int)).nat []=l[k]:=by rw [en,List.getD_eq_getElem?_getD,hrow];rfl
      have hyc:l[k][c]?=some l[k][c]:=Q2 (by omega);obtain ⟨l',ao,kc,zD,hy,⟨BA,cs2,ty2,q1,q2,q3⟩,q4,q5,r1,r2⟩:=h1.split (d:=d) (by rw [eu];exact G5) eo c1 hrow hyc;rw [KO] at q1;cases q1;rw [k3] at q2;cases q2;have hlist:((l.getD (P.int .i64 (k:Int)).nat []).getD c default).list=l':=by
       rw [hget,List.getD_eq_getElem?_getD,hyc];show (l[k][c]).list=l';rw [hy,P.oC]
      have hgd:g≠d:=fun e=>by rw [<-e,h.ul g (by rw [hog];simp)] at G5;cases G5
      have hst:st1.aK [(g,.aO a i' Aa aj l (some (k,c,d))),(d,.arr false a i' s l')] [d]=st.aK ((g,.aO a i' Aa aj l (some ((P.int .i64 (k:Int)).nat,c,d)))::(d,.arr false a i' s ((l.getD (P.int .i64 (k:Int)).nat []).getD c default).list)::kills (st.o g).hn) [d]:=by
       rw [hlist,en];refine St.DY es (fun x => ?_) (fun x=>by simp [St.aK,eu]);simp only [St.aK,lookup_cons,iD];by_cases x1:x=g
       .simp only [if_pos x1]
       .by_cases x2:x=d
        .simp only [if_neg x1,if_pos x2]
        .simp only [if_neg x1,if_neg x2];by_cases x3:x∈(st.o g).hn
         .simp only [if_pos x3];exact (ek x x3).1
         .simp only [if_neg x3];exact en1 x x1 x3
      obtain ⟨cs,hl,hcell,hone,hrep⟩:=Iz (w:=w) (b:=ad.block) (o:=ad.off+k*Aa+off) (n:=i.size) (Q:=fun j v=>if Nat.beq (off+j) c=true then v=.slice ao l'.length kc else dh w (E.ok st1 ny w a i') (l[k].getD (off+j) (Uu i.zero j)) v) fun j hj=>by
       have hlt':off+j<l[k].length:=by omega
       obtain ⟨v,hv,hr⟩:=k8 k _ hrow (off+j) _ (Q2 hlt');have e0:ad.off+k*Aa+off+j=ad.off+k*Aa+(off+j):=by omega
       refine ⟨v,by rw [e0];simp [World.cell?,k3,hv],hr.oneCell,?_⟩;by_cases hjc:off+j=c
       .rw [if_pos (by simpa using hjc)];rw [hjc] at hv;rw [hv] at q3;exact Wc q3
       .rw [if_neg (by simpa using hjc)];simp only [iQ,c4 (off+j) (by omega) (by omega) hjc] at hr;rw [List.getD_eq_getElem?_getD,Q2 hlt'];exact hr
      obtain ⟨v,hrun,hval⟩:=kE (Pg:=Pg) (w:=w) (htt _ _ ht) ad.block (ad.off+k*Aa+off) cs hl hcell (fun _=>hlt.2);have hod:(st1.aK [(g,.aO a i' Aa aj l (some (k,c,d))),(d,.arr false a i' s l')] [d]).o d=.arr false a i' s l':=by
       have:(d==g)=false:=by simpa using hgd.symm
       simp [St.aK,List.lookup,this]
      refine ⟨v,w,zD,.inl (by unfold execOp;rw [ho];exact gY (by rw [hv];simpa [Instr.loadAt,Instr.sureAddr] using hrun)),?_,?_,?_,fun g' hg' => ?_⟩
      .rw [hst] at r1;exact r1
      .have:=Lets.trans l1 r2 fun g hg=>by rw [eu];exact hg
       rw [hst] at this;exact this
      .have hS:dL E (st1.aK [(g,.aO a i' Aa aj l (some (k,c,d))),(d,.arr false a i' s l')] [d]) zD w (V.gI i.agg ((List.range i.size).map fun j=>if Nat.beq (off+j) c=true then W.own d else W.p a i' ((l.getD (P.int .i64 (k:Int)).nat []).getD (off+j) (Uu i.zero j)))) v:=by
        rw [hget];refine kX (by simp [hl]) hone (fun j y u hy hu => ?_) v hval;simp only [XS,ZS] at hy;obtain ⟨q,hq,rfl⟩:=hy;obtain ⟨hlt2,rfl⟩:=Q3.1 hq;simp at hlt2 ⊢;have hr:=hrep _ u hu;by_cases hjc:off+j=c
        .rw [if_pos hjc];rw [if_pos (by simpa using hjc)] at hr;subst hr;exact .own d _ rfl fun sz3 aph hd3=>by rw [hod] at hd3;obtain ⟨_,e2⟩:=O.kC hd3;rw [q4,q5,e2]
        .rw [if_neg hjc];rw [if_neg (by simpa using hjc)] at hr;exact .p _ _ _ _ (r2.kP (by simpa using hr))
       rw [hst] at hS;exact hS
      .have hg':g'∈(V.gI i.agg ((List.range i.size).map fun j=>if Nat.beq (off+j) c=true then W.own d else W.p a i' ((l.getD (P.int .i64 (k:Int)).nat []).getD (off+j) (Uu i.zero j)))).names:=hg';obtain ⟨y,hy,hg'⟩:=jF hg';obtain ⟨j,_,rfl⟩:=X1.1 hy;split at hg'
       .simp only [W.names,QP] at hg';subst hg';simp [St.aK]
       .simp [W.names] at hg'
     .cases hk
    .cases hk
   .cases hk
  .cases hk
 .cases hk
theorem PartOf.mono {a i a' i':Bool} {es es':List (Nat×Nat)} {s j:Nat} {y:P} {u:Value} (h:PartOf st gh a i es s j y u) (ha:a=true->a'=true) (hi:i=true->i'=true) (he :∀p∈es,p∈es'):PartOf st gh a' i' es' s j y u:=by
 obtain ⟨l',h1,h2⟩:=h;refine ⟨l',h1,h2.imp id ?_⟩;rintro ⟨e,a1,i1,q1,q2,q3,q4,q5⟩;exact ⟨e,a1,i1,he _ q1,q2,fun h=>ha (q3 h),fun h=>hi (q4 h),q5⟩
theorem BL (h:Rel E st gh val w) {col:Nat->Option Nat} :∀{ws:List W} {cs:List Value} {ps:List P} {a i:Bool} {gs:List Nat} {es:List (Nat×Nat)} {j0:Nat},ws.length=cs.length->(∀(j:Nat) x u,ws[j]?=some x->cs[j]?=some u->fF E st gh w x u)->
  Qb st.o col j0 ws=some (ps,a,i,gs,es)->ps.length=ws.length/\xw st.o gs/\(∀p∈es,∃a1 i1 s l',st.o p.2=.arr false a1 i1 s l'/\(i1=true->i=true))/\
   ∀(j:Nat) y u,ps[j]?=some y->cs[j]?=some u->match col (j0+j) with
    |none =>∀st',(∀g∈gs,st'.o g=(Fw.aW st.o g).2)->Rel E st' gh val w->Lets E st st' gh gh w w->dh w (E.ok st' gh w a i) y u
    |some s=>PartOf st gh a i es s (j0+j) y u
 | [],cs,ps,a,i,gs,es,j0,hl,hr,ht=>by
  simp only [Qb,Q0,Q1] at ht;obtain ⟨rfl,rfl,rfl,rfl,rfl⟩:=ht;exact ⟨rfl,xw.nil,(fun p hp=>by cases hp),fun j y u hy=>by simp at hy⟩
 |x::ws,cs,ps,a,i,gs,es,j0,hl,hr,ht=>by
  cases cs with
  |nil=>simp at hl
  |cons c cs=>
   simp only [Qb] at ht;split at ht
   .cases ht
   .rename_i ys a' i' gs' es' h2;obtain ⟨q0,q1,qe,q2⟩:=BL h (j0:=j0+1) (by simpa using hl) (fun j a b ha hb=>hr (j+1) a b (by simpa using ha) (by simpa using hb)) h2;have rest :∀(a i:Bool) (gs:List Nat) (es:List (Nat×Nat)),(a'=true->a=true)->(i'=true->i=true)->(∀g∈gs',g∈gs)->(∀p∈es',p∈es)->∀(j:Nat) y u,ys[j]?=some y->cs[j]?=some u->match col (j0+(j+1)) with
      |none =>∀st',(∀g∈gs,st'.o g=(Fw.aW st.o g).2)->Rel E st' gh val w->Lets E st st' gh gh w w->dh w (E.ok st' gh w a i) y u
      |some s=>PartOf st gh a i es s (j0+(j+1)) y u:=by
     intro a i gs es ha hi hg he j y u hy hu;have:=q2 j y u hy hu;have e:j0+1+j=j0+(j+1):=by omega
     rw [e] at this;cases hc:col (j0+(j+1)) with
     |none=>rw [hc] at this;exact fun st' h1 h2 h3=>(this st' (fun g hg'=>h1 g (hg g hg')) h2 h3).cls ha hi
     |some s=>rw [hc] at this;exact this.mono ha hi he
    cases hc0:col j0 with
    |none=>
     rw [hc0] at ht;simp only at ht;split at ht
     .rename_i y1 a1 i1 gs1 h1;simp only [Q0,Q1] at ht;obtain ⟨rfl,rfl,rfl,rfl,rfl⟩:=ht;obtain ⟨k1,k2⟩:=NY h (hr 0 x c rfl rfl) h1;refine ⟨by simp [q0],k1.append q1,fun p hp=>let ⟨a2,i2,s2,l2,z1,z2⟩:=qe p hp;⟨a2,i2,s2,l2,z1,fun hh=>by simp [z2 hh]⟩,fun j y u hy hu => ?_⟩;cases j with
      |zero=>
       simp at hy hu;subst hy hu;rw [Up,hc0];exact fun st' hst h' hlet=>(k2 st' (fun g hg=>hst g (by simp [hg])) h' hlet).cls (by simp;exact fun h=>.inl h) (by simp;exact fun h=>.inl h)
      |succ j=>exact rest _ _ _ _ (by simp;exact fun h=>.inr h) (by simp;exact fun h=>.inr h) (fun g hg=>by simp [hg]) (fun p hp=>hp) j y u (by simpa using hy) (by simpa using hu)
     .cases ht
    |some s=>
     rw [hc0] at ht;simp only at ht;split at ht
     .simp only [Q0,Q1] at ht;obtain ⟨rfl,rfl,rfl,rfl,rfl⟩:=ht;refine ⟨by simp [q0],q1,qe,fun j y u hy hu => ?_⟩;cases j with
      |zero=>
       simp at hy hu;subst hy hu;rw [Up,hc0];have r0:=hr 0 _ _ rfl rfl;cases r0;exact ⟨[],rfl,.inl ⟨rfl,rfl⟩⟩
      |succ j=>exact rest _ _ _ _ id id (fun g hg=>hg) (fun p hp=>hp) j y u (by simpa using hy) (by simpa using hu)
     .rename_i e;split at ht
      .rename_i a1 i1 s' l1 hoe;split at ht
       .rename_i hs;subst hs;simp only [Q0,Q1] at ht;obtain ⟨rfl,rfl,rfl,rfl,rfl⟩:=ht;refine ⟨by simp [q0],q1,fun p hp => ?_,fun j y u hy hu => ?_⟩
        .rcases QQ.1 hp with rfl | hp
         .exact ⟨a1,i1,s',l1,hoe,fun hh=>by simp [hh]⟩
         .obtain ⟨a2,i2,s2,l2,z1,z2⟩:=qe p hp;exact ⟨a2,i2,s2,l2,z1,fun hh=>by simp [z2 hh]⟩
        cases j with
        |zero=>
         simp at hy hu;subst hy hu;rw [Up,hc0];have r0:=hr 0 _ _ rfl rfl;refine ⟨l1,rfl,.inr ⟨e,a1,i1,by simp,hoe,by simp;exact fun h=>.inl h,by simp;exact fun h=>.inl h,?_⟩⟩;cases r0 with | own _ _ _ hb=>exact hb _ _ (O.jP hoe)
        |succ j=>exact rest _ _ _ _ (by simp;exact fun h=>.inr h) (by simp;exact fun h=>.inr h) (fun g hg=>hg) (fun p hp=>by simp [hp]) j y u (by simpa using hy) (by simpa using hu)
       .cases ht
      .cases ht
     .cases ht
theorem IB {o:Nat->O} {g:Nat} {a0 i0:Bool} {Aa:Nat} {kQ:List (Nat×Nat)} {l0:List (List P)} {hole:Option (Nat×Nat×Nat)} {a i:Bool} {sz:Nat} {aj:List (Nat×Nat)} {l:List (List P)} (hog:o g=.aO a0 i0 Aa kQ l0 hole)
  (hh:jI o g=some (a,i,sz,aj,l)):sz=Aa/\aj=kQ/\l.length=l0.length:=by
 have h1:=oG hh;rw [hog] at h1;simp only [O.dim,Q0,Q1] at h1;refine ⟨h1.1.symm,?_,h1.2.symm⟩;unfold jI at hh;rw [hog] at hh;simp only at hh;split at hh
 .cases hh;rfl
 .split at hh
  .split at hh
   .cases hh;rfl
   .cases hh
  .cases hh
theorem vM (htt:iR Pg tt) (h:Rel E st gh val w) {o:Oper} {ρ:Operand->Value} {t:TypeId} {x y:Operand} (ho:o.op=.store t x y) {i:TI} (ht:tt t=some i) {y':V} (ry:qX E st gh w y' (ρ y)) (hys:y'.solid=true) (hyl:y'.words.length=i.size)
  {g:Nat} {a1 i1:Bool} {sz:Nat} {aj:List (Nat×Nat)} {l:List (List P)} {hole ji:Option (Nat×Nat×Nat)} {ad:Addr} {k off:Nat} (hv:ρ x=.pointer (some ⟨ad.block,ad.off+k*sz+off,none⟩)) (hsz:off+i.size<=sz) (hk:k<l.length)
  {ps:List P} {a' i':Bool} {gs:List Nat} {es:List (Nat×Nat)} (hD:Qb st.o (fun j=>aj.lookup j) off y'.words=some (ps,a',i',gs,es)) (hnd:(es.map (·.2)).Nodup) (hap :∀e∈es.map (·.2),e∉gs)
  {st1:St} {ny:Nat->Gh} (ks:List Nat) (h1:Rel E st1 ny val w) (l1:Lets E (st.aK (gs.map (Fw.aW st.o)) []) st1 gh ny w w) (e1 :∀x,(ny x).ad=(gh x).ad/\(ny x).cap=(gh x).cap) (s1:st1.s=st.s) (u1 :∀x,st1.used x=st.used x)
  (o1:st1.o g=.aO a1 i1 sz aj l hole) (had:(gh g).ad=some ad) (ok1 :∀d∈ks,st1.o d=.none/\d≠g/\d∉es.map (·.2)) (oo1 :∀g',g'≠g->g'∉ks->st1.o g'=(st.aK (gs.map (Fw.aW st.o)) []).o g') (hgg:g∉gs)
  (hh1 :∀m j,¬ (m=k/\off<=j/\j<off+i.size)->∀s,aj.lookup j=some s->iq ji m j=iq hole m j) (hh2 :∀j s,off<=j->j<off+i.size->aj.lookup j=some s->iq ji k j=none) (hh3 :∀d∈dN ji,d∈dN hole) :
  ∃v w' bM,Does Pg (execOp ρ o) w v w'/\Rel E (st.aK ((g,.aO (a1||a') (i1||i') sz aj (l.set k (aS (l.getD k []) off ps)) ji)::kills (es.map (·.2))++kills ks++gs.map (Fw.aW st.o)) []) bM val w'/\
   Lets E st (st.aK ((g,.aO (a1||a') (i1||i') sz aj (l.set k (aS (l.getD k []) off ps)) ji)::kills (es.map (·.2))++kills ks++gs.map (Fw.aW st.o)) []) gh bM w w'/\
   dL E (st.aK ((g,.aO (a1||a') (i1||i') sz aj (l.set k (aS (l.getD k []) off ps)) ji)::kills (es.map (·.2))++kills ks++gs.map (Fw.aW st.o)) []) bM w' .no v/\
   ∀g∈S.names .no,(st.aK ((g,.aO (a1||a') (i1||i') sz aj (l.set k (aS (l.getD k []) off ps)) ji)::kills (es.map (·.2))++kills ks++gs.map (Fw.aW st.o)) []).used g=true:=by
 obtain ⟨us,hus,Io,huo,hur⟩:=ry.cells hys;have abe:us.length=i.size:=by rw [Io,hyl]
 obtain ⟨q0,q1,qe,q2⟩:=BL h Io.symm hur hD;have hpl:ps.length=i.size:=by rw [q0,hyl]
 obtain ⟨f1,f2⟩:=Rel.freezes gs h q1;have KO:(ny g).ad=some ad:=by rw [(e1 g).1];exact had
 have hDA:mO E st1 ny w a1 i1 sz aj l hole (ny g):=by have:=h1.bf g;rw [o1] at this;exact this
 rcases hDA with ⟨k1,_⟩ | ⟨ad0,cs0,ty,k1,k2,k3,k4,k5,k6,_,k8⟩
 .rw [KO] at k1;cases k1
 rw [KO] at k1;cases k1;have hle:(k+1)*sz<=(ny g).cap*sz:=YY _ (by have:=k5.1;omega);rw [W0,K3] at hle;obtain ⟨w',c',r1,r2,r3,r4,r5,r6,r7,r8⟩:=sH (Pg:=Pg) (htt _ _ ht) ad.block (ad.off+k*sz+off) hus abe huo k3 (by omega);have hes1 :∀p∈es,st1.o p.2=st.o p.2:=by
  intro p hp;have hpm:p.2∈es.map (·.2):=X1.2 ⟨p,hp,rfl⟩;obtain ⟨a2,i2,s2,l2,z1,_⟩:=qe p hp;by_cases e:p.2=g
  .exfalso;have hog:(st.aK (gs.map (Fw.aW st.o)) []).o g=st.o g:=by rw [gK,if_neg hgg]
   have hlk:=l1.names g (by simp only [St.aK,List.contains_nil,J0];exact h.ul g (by rw [<-e,z1];simp));rw [o1,hog,<-e,z1] at hlk;rcases hlk with hlk | ⟨_,hlk⟩
   .cases hlk
   .exact hlk
  .rw [oo1 _ e fun hk=>(ok1 _ hk).2.2 hpm,gK,if_neg (hap _ hpm)]
 have hm:=h1.aiY o1 KO hk (off:=off) (ps:=ps) (us:=us) (by omega) (by omega) a' i' es ji hnd (fun p hp=>by
   obtain ⟨a2,i2,s2,l2,z1,z2⟩:=qe p hp;exact ⟨a2,i2,s2,l2,by rw [hes1 p hp];exact z1,z2⟩) (fun j y u hy hu=>by
   have:=q2 j y u hy hu;cases hc:aj.lookup (off+j) with
   |none=>rw [hc] at this;exact l1.kP (this _ (fun g hg=>by rw [gK,if_pos hg]) f1 f2)
   |some s=>
    rw [hc] at this;obtain ⟨l',z1,z2⟩:=this;refine ⟨l',z1,z2.imp id ?_⟩;rintro ⟨e,a2,i2,y1,y2,y3,y4,y5⟩;exact ⟨e,a2,i2,y1,by rw [hes1 _ y1];exact y2,y3,y4,by rw [(e1 e).1,(e1 e).2];exact y5⟩)
  (by rw [hpl];exact hh1) (by rw [hpl];exact hh2) hh3 w' r4 r5 r6 r7 r8 (fun c e hce=>by
   rw [k3] at hce;cases hce;exact ⟨c',r2,r3⟩)
 obtain ⟨bM,m1,m2⟩:=hm;have hst:st1.aK ((g,.aO (a1||a') (i1||i') sz aj (l.set k (aS (l.getD k []) off ps)) ji)::es.map fun p=>(p.2,O.none)) [] =
   st.aK ((g,.aO (a1||a') (i1||i') sz aj (l.set k (aS (l.getD k []) off ps)) ji)::kills (es.map (·.2))++kills ks++gs.map (Fw.aW st.o)) []:=by
  refine St.DY s1 (fun z => ?_) (fun z=>by simp [St.aK,u1]);have ek:(es.map fun p=>(p.2,O.none))=kills (es.map (·.2)):=by simp [kills]
  rw [ek];simp only [St.aK,K5,lookup_cons,Ac,iD];by_cases z1:z=g
  .simp only [if_pos z1]
  .simp only [if_neg z1];by_cases z2:z∈es.map (·.2)
   .simp only [if_pos z2,Option.some_or]
   .simp only [if_neg z2,Option.none_or];by_cases z3:z∈ks
    .simp only [if_pos z3,Option.some_or];exact (ok1 z z3).1
    .simp only [if_neg z3,Option.none_or];rw [oo1 z z1 z3];rfl
 rw [hst] at m1 m2;refine ⟨undef,w',bM,.inr ⟨?_,rfl⟩,m1,?_,.no _,fun g hg=>by simp [S.names] at hg⟩
 .unfold execOp;rw [ho];refine aa9 ?_;rw [hv];simpa [Instr.storeAt,Instr.sureAddr] using r1
 .exact Lets.trans (Lets.trans f2 l1 (fun g hg=>by simpa [St.aK] using hg)) m2 (fun g hg=>by rw [u1];exact hg)
theorem alq {o:Nat->O} {g:Nat} {a i:Bool} {sz:Nat} {aj:List (Nat×Nat)} {l:List (List P)} {hole:Option (Nat×Nat×Nat)} (h:o g=.aO a i sz aj l hole):(o g).hn=dN hole:=by rw [h];rfl
theorem Oa {g:Nat} {gs:List Nat} (hg:g∉gs) (hn :∀d∈(st.o g).hn,d∉gs):jI (st.aK (gs.map (Fw.aW st.o)) []).o g=jI st.o g:=by
 have e1:(st.aK (gs.map (Fw.aW st.o)) []).o g=st.o g:=by rw [gK,if_neg hg]
 unfold jI;rw [e1];cases ho:st.o g with
 |aO a i sz aj l hole=>
  rcases hole with _ | ⟨n,c,d⟩
  .rfl
  .simp only;rw [gK,if_neg (hn d (by rw [ho];simp [O.hn,dN]))]
 |_=>rfl
theorem Ob {dc:List (Nat×Nat)} (htt:iR Pg tt) (t:TypeId) (x y:Operand):qG Pg tt dc (.store t x y):=by
 intro E st gh val w ρ F o d r ho h hF hFn hk hp hd;simp only [dW] at hk;split at hk
 .rename_i i g n off y' ht hx hy;have rx:=hF x;rw [hx] at rx;have ry:=hF y;rw [hy] at ry;split at hk
  .rename_i a0 i0 sz aj l0 hole hog;split at hk
   .rename_i ps a' i' gs es hD;split at hk
    .rename_i hc;obtain ⟨hc1,hc2,hc3,hc4,hc5,hc6⟩:=hc;have hgg:g∉gs:=fun hm=>by simp [hm] at hc4
     have hnd:=rF hc5;have hap:=Fa hc6;have Qy:(st.o g).dim=some (sz,l0.length):=by rw [hog];rfl
     obtain ⟨ad,k,had,rfl,hkl,hv⟩:=(by cases rx.dK with | ep _ _ _ _ _ hb=>exact hb _ _ Qy :∃(ad:Addr) (k:Nat),(gh g).ad=some ad/\n=.int .i64 k/\k<l0.length/\ρ x=.pointer (some ⟨ad.block,ad.off+k*sz+off,none⟩));have en:(P.int .i64 (k:Int)).nat=k:=by simp [P.nat,P.num]
     have ogf:(st.aK (gs.map (Fw.aW st.o)) []).o g=.aO a0 i0 sz aj l0 hole:=by rw [gK,if_neg hgg];exact hog
     obtain ⟨us,hus,Io,huo,hur⟩:=ry.NU.cells hc3;obtain ⟨_,q1,_,_⟩:=BL h Io.symm hur hD;obtain ⟨f1,f2⟩:=Rel.freezes gs h q1;have refl:Lets E (st.aK (gs.map (Fw.aW st.o)) []) (st.aK (gs.map (Fw.aW st.o)) []) gh gh w w:=⟨fun a i b hb=>⟨hb,rfl⟩,fun g _=>.inr ⟨⟨rfl,rfl⟩,O.fH _⟩⟩;have home :∀(a i1:Bool) (l:List (List P)),jI st.o g=some (a,i1,sz,aj,l)->(∀d∈(st.o g).hn,d∉es.map (·.2)/\d∉gs)->
       ∃v w' bM,Does Pg (execOp ρ o) w v w'/\Rel E (st.aK ((g,.aO (a||a') (i1||i') sz aj (l.set k (aS (l.getD k []) off ps)) none)::kills (es.map (·.2))++kills (st.o g).hn++gs.map (Fw.aW st.o)) []) bM val w'/\Lets E st (st.aK ((g,.aO (a||a') (i1||i') sz aj (l.set k (aS (l.getD k []) off ps)) none)::kills (es.map (·.2))++kills (st.o g).hn++gs.map (Fw.aW st.o)) []) gh bM w w'/\dL E (st.aK ((g,.aO (a||a') (i1||i') sz aj (l.set k (aS (l.getD k []) off ps)) none)::kills (es.map (·.2))++kills (st.o g).hn++gs.map (Fw.aW st.o)) []) bM w' .no v/\∀g'∈S.names .no,(st.aK ((g,.aO (a||a') (i1||i') sz aj (l.set k (aS (l.getD k []) off ps)) none)::kills (es.map (·.2))++kills (st.o g).hn++gs.map (Fw.aW st.o)) []).used g'=true:=fun a i1 l hh hno=>by
      have hh':jI (st.aK (gs.map (Fw.aW st.o)) []).o g=some (a,i1,sz,aj,l):=by rw [Oa hgg fun d hd=>(hno d hd).2];exact hh
      have hhn:((st.aK (gs.map (Fw.aW st.o)) []).o g).hn=(st.o g).hn:=by rw [ogf,hog]
      obtain ⟨st1,ny,h1,l1,e1,es1,eu,eo,ek,en1⟩:=f1.home hh';rw [hhn] at ek en1;have hll:=(IB hog hh).2.2;exact vM htt h ho ht ry.NU hc3 hc2 hv hc1 (by omega) hD hnd hap (st.o g).hn h1 l1 e1 (by rw [es1];rfl) (fun z=>by rw [eu];simp [St.aK]) eo had
       (fun d hd=>⟨(ek d hd).1,(ek d hd).2,(hno d hd).1⟩) en1 hgg (ji:=none) (fun _ _ _ _ _=>rfl) (fun _ _ _ _ _=>rfl) (fun d hd=>by cases hd)
     have over :∀n0 c0 d0,hole=some (n0,c0,d0)->off<=c0/\c0<off+i.size->n0=k->_:=fun n0 c0 d0 hho hcr hp=>
      vM htt h ho ht ry.NU hc3 hc2 hv hc1 hkl hD hnd hap [] f1 refl (fun _=>⟨rfl,rfl⟩) rfl (fun z=>by simp [St.aK]) ogf had (fun d hd=>by cases hd) (fun _ _ _=>rfl) hgg
       (ji:=none) (fun m j hne s hs=>by
        subst hho hp;simp only [iq];rw [if_neg fun e=>hne ⟨e.1.symm,by omega,by omega⟩]) (fun _ _ _ _ _=>rfl) (fun d hd=>by cases hd)
     split at hk
     .rename_i hci;simp only [Q0] at hk;subst hk;have:=vM htt h ho ht ry.NU hc3 hc2 hv hc1 hkl hD hnd hap [] f1 refl (fun _=>⟨rfl,rfl⟩) rfl (fun z=>by simp [St.aK]) ogf had (fun d hd=>by cases hd) (fun _ _ _=>rfl) hgg
       (ji:=hole) (fun _ _ _ _ _=>rfl) (fun j s h1 h2 h3=>by rw [Iy hci h1 h2] at h3;cases h3) (fun d hd=>hd)
      rw [en];exact this
     .split at hk
      .simp only [Q0] at hk;subst hk;have:=vM htt h ho ht ry.NU hc3 hc2 hv hc1 hkl hD hnd hap [] f1 refl (fun _=>⟨rfl,rfl⟩) rfl (fun z=>by simp [St.aK]) ogf had (fun d hd=>by cases hd) (fun _ _ _=>rfl) hgg
        (ji:=none) (fun _ _ _ _ _=>rfl) (fun _ _ _ _ _=>rfl) (fun d hd=>hd)
       rw [en];exact this
      .rename_i n0 c0 d0;split at hk
       .rename_i a i1 _ _ l hh;split at hk
        .rename_i hcc;simp only [Q0] at hk;subst hk;obtain ⟨e1,e2,e3⟩:=IB hog hh;subst e1 e2;have hhn:(st.o g).hn=[d0]:=by rw [alq hog];rfl
         have:=home a i1 l hh (fun d hd=>by
          rw [hhn,QP] at hd;subst hd;exact ⟨fun hm=>by have:=hcc.1;simp only [Wl,decide_eq_false_iff_not] at this;exact this hm,fun hm=>by have:=hcc.2;simp [hm] at this⟩)
         rw [hhn] at this;rw [en];exact this
        .split at hk
         .rename_i hcr;simp only [Q0] at hk;subst hk;have hp:n0=(P.int .i64 (k:Int)).nat:=hp;rw [en] at hp;rw [en];exact over n0 c0 d0 rfl hcr hp
         .cases hk
       .split at hk
        .rename_i hcr;simp only [Q0] at hk;subst hk;have hp:n0=(P.int .i64 (k:Int)).nat:=hp;rw [en] at hp;rw [en];exact over n0 c0 d0 rfl hcr hp
        .cases hk
    .cases hk
   .cases hk
  .cases hk
 .cases hk
theorem Rel.abn (h:Rel E st gh val w) {d:Nat} (hd:st.used d=false) (a i:Bool) (sz:Nat) (aj:List (Nat×Nat)) (l:List (List P)) (c:Array Value) (t:TypeId) (cap:Nat) (hcap:l.length<=cap/\cap<=9223372036854775807) (hc:cap*sz<=c.size) (hrow :∀x∈l,x.length=sz)
  (es:List (Nat×Nat)) (hnd:(es.map (·.2)).Nodup) (hes :∀p∈es,∃a1 i1 s l',st.o p.2=.arr false a1 i1 s l'/\(i1=true->i=true))
  (hcell :∀(n:Nat) x,l[n]?=some x->∀(j:Nat) y,x[j]?=some y->∃v,c[n*sz+j]?=some v/\match aj.lookup j with
   |none=>dh w (E.ok st gh w a i) y v
   |some s=>PartOf st gh a i es s (n*sz+j) y v) :
  ∃bM,Rel E (st.aK ((d,.aO a i sz aj l none)::kills (es.map (·.2))) [d]) bM val { w with heap:=w.heap.push (.cells c t) }/\Lets E st (st.aK ((d,.aO a i sz aj l none)::kills (es.map (·.2))) [d]) gh bM w { w with heap:=w.heap.push (.cells c t) }/\
   (bM d).ad=some ⟨w.heap.size,0,none⟩ /\(bM d).cap=cap:=by
 have heo :∀p∈es,(st.o p.2).bP=true:=fun p hp=>by obtain ⟨_,_,_,_,e,_⟩:=hes p hp;rw [e];rfl
 have hde:d∉es.map (·.2):=fun hm=>by
  obtain ⟨p,hp,e⟩:=X1.1 hm;have:=h.ul p.2 (O.qB (heo p hp));rw [e,hd] at this;cases this
 let G:Gh:=⟨some ⟨w.heap.size,0,none⟩,cap,fun b=>(whose gh es b).map fun p=>(p.1/sz,p.1 % sz)⟩
 have hwb :∀b,(G.sub b).isSome=true->∃p∈es,∃ad,(gh p.2).ad=some ad/\ad.block=b:=fun b hb=>by
  cases hx:whose gh es b with
  |none=>simp [G,hx] at hb
  |some p=>exact ⟨p,vK hx⟩
 have hm:=h.gather (fun g=>g∈es.map (·.2)) hd a i sz aj l G (st.aK ((d,.aO a i sz aj l none)::kills (es.map (·.2))) [d]) { w with heap:=w.heap.push (.cells c t) } rfl (by simp [St.aK,lookup_cons])
  (fun g hg e=>by simp only [St.aK,lookup_cons,if_neg e,iD,if_pos hg]) (fun g hg e=>by simp only [St.aK,lookup_cons,if_neg e,iD,if_neg hg]) (fun g hg=>by simp [St.aK,hg]) (by simp [St.aK])
  (ad:=⟨w.heap.size,0,none⟩) (c:=c) (ty:=t) rfl rfl (by simp) (by simpa [G] using hc) hcap hrow (by
   cases hx:G.sub w.heap.size with
   |none=>rfl
   |some p=>
    obtain ⟨p,hp,ad,q1,q2⟩:=hwb w.heap.size (by rw [hx];rfl);have:=(h.wr p.2 w.heap.size (heo p hp) (.inl ⟨ad,q1,q2⟩)).2;omega) (fun b hb=>by
   obtain ⟨p,hp,ad,q1,q2⟩:=hwb b hb;refine ⟨⟨p.2,X1.2 ⟨p,hp,rfl⟩,heo p hp,.inl ⟨ad,q1,q2⟩⟩,?_⟩;obtain ⟨_,_,_,_,e,_⟩:=hes p hp;have hA:=h.bf p.2;rw [e] at hA;rcases hA with ⟨q3,_⟩ | ⟨BA,c2,e2,q3,_,q4,_⟩
   .rw [q1] at q3;cases q3
   .rw [q1] at q3;cases q3;rw [<-q2];exact ⟨_,_,_,q4⟩)
  (.inr ⟨Z1 _,by simp⟩) (fun b hb _=>vF w _ b hb) (by simp) rfl rfl rfl (fun g i1 hg e1 hi=>by
   obtain ⟨p,hp,rfl⟩:=X1.1 hg;obtain ⟨_,i2,_,_,e,hi2⟩:=hes p hp;rw [e] at e1;cases e1;exact hi2 hi) (fun g hg _=>by
   obtain ⟨p,hp,rfl⟩:=X1.1 hg;obtain ⟨_,i2,_,_,e,hi2⟩:=hes p hp;exact ⟨i2,by rw [e];rfl⟩) (fun n x hx j y hy=>by
   obtain ⟨v,hv,hr⟩:=hcell n x hx j y hy;refine ⟨v,by simpa using hv,?_⟩;cases hcj:aj.lookup j with
   |none=>rw [hcj] at hr;exact hr
   |some s=>
    rw [hcj] at hr;have hjs:j<sz:=by have:=(Q3.1 hy).1;have:=hrow x (XN hx);omega
    refine PartOf.alo h hr fun p hp e ad had => ?_;have:=LD h hnd heo hp had;simp only [G,this,Z3,e];have e1:(n*sz+j)/sz=n:=by rw [Kx,Nat.mul_add_div (by omega),Nat.div_eq_of_lt hjs,Up]
    have e2:(n*sz+j) % sz=j:=by rw [Kx,qr,Ka hjs]
    rw [e1,e2])
 exact ⟨_,hm.1,hm.2,by simp [fJ,G],by simp [fJ,G]⟩
theorem DZ {dc:List (Nat×Nat)} (htt:iR Pg tt) (t:TypeId) (n c:Operand):qG Pg tt dc (.makeSlice t n c):=by
 intro E st gh val w ρ F o d r ho h hF hFn hk hp hd;simp only [dW] at hk;split at hk
 .rename_i e _ _ _ _ _ n' _ _ c' zG D5 ht hn hc;split at hk
  .rename_i ie he;split at hk
   .rename_i ps hps;split at hk
    .rename_i hpos;simp only [Q0] at hk;subst hk;obtain ⟨m,k,rfl,rfl,hmk,hby,hkm⟩:=hp;have hu:=(htt _ _ ht).kind;simp only [oD] at hu;have rn:=hF n;rw [hn] at rn;have rc:=hF c;rw [hc] at rc;obtain ⟨x,z,g1,g2,g3,g4,g5,g6⟩:=(htt _ _ he).info;obtain ⟨hone,hl,hr⟩:=qC (E:=E) (st:=st) (gh:=gh) (w:=w) (htt _ _ he);have hzl:=(htt _ _ he).len;obtain ⟨q0,q1,_,q2⟩:=BL h hl hr hps;have G5:st.used d=false:=hd d (by simp);have hpl:ps.length=ie.size:=by rw [q0,hl,hzl]
     have e1:(P.int .i64 (m:Int)).nat=m:=by simp [P.nat,P.num]
     obtain ⟨bM,m1,m2,m3,m4⟩:=h.abn G5 false false ie.size (zG::D5) (List.replicate m ps) (gu ie.zero k).toArray e k ⟨by simpa using hmk,by omega⟩ (by simp [dQ,hzl]) (fun x hx=>by
       rw [List.mem_replicate] at hx;rw [hx.2,hpl]) [] List.nodup_nil (fun p hp=>by cases hp) (fun q x hx j y hy=>by
       rw [vd] at hx;split at hx
       .rename_i hq;simp only [Q0] at hx;subst hx;have hj:j<ie.size:=by have:=(Q3.1 hy).1;omega
        have hlt:q*ie.size+j<k*ie.zero.length:=by
         rw [hzl];have:(q+1)*ie.size<=k*ie.size:=YY _ (by omega);rw [W0] at this;omega
        have hz':ie.zero[j]?=some ie.zero[j]:=Q2 (by omega);refine ⟨ie.zero[j],?_,?_⟩
        .simp only [K1];have hmod:(q*ie.size+j) % ie.zero.length=j:=by rw [hzl,Kx,qr,Ka hj]
         rw [iH _ _ _ hlt,hmod];exact hz'
        .have:=q2 j y _ hy hz';rw [Wm] at this;cases hcj:(zG::D5).lookup j with
         |none=>rw [hcj] at this;exact this st (by simp) h ⟨fun a i b hb=>⟨hb,rfl⟩,fun g _=>.inr ⟨⟨rfl,rfl⟩,O.fH _⟩⟩
         |some s=>
          rw [hcj] at this;obtain ⟨l',z1,z2⟩:=this;rcases z2 with z2 | ⟨_,_,_,z3,_⟩
          .exact ⟨l',z1,.inl z2⟩
          .cases z3
       .cases hx)
     refine ⟨.slice (some ⟨w.heap.size,0,none⟩) m k,_,bM,.inl ?_,by simpa [e1,P.list,kills] using m1,by simpa [e1,P.list,kills] using m2,dL.Ig (.own d _ rfl fun sz' len' ho' => ?_),fun g hg => ?_⟩
     .unfold execOp;rw [ho];refine gY ?_;have hrun:=run_make (P:=Pg) w t e x z hu g1 g4 .i64 .i64 (m:Int) (k:Int) (by omega) (by omega) (by rw [g3];omega) (by omega);rw [rn.fP.eU,rc.fP.eU,hrun];have:=nJ g5 k (by rw [hzl];exact hpos);rw [hzl] at this;simp only [Q6,g2,madeCells,this]
     .rw [e1] at ho';have UD:(some (ie.size,m):Option (Nat×Nat))=some (sz',len'):=by
       rw [<-ho'];simp [St.aK,List.lookup,O.dim,P.list]
      cases UD;rw [m3,m4]
     .have hg:g∈(S.v (.one (.own d))).names:=hg;rw [dR] at hg;simp only [W.names,QP] at hg;subst hg;simp [St.aK]
    .cases hk
   .cases hk
  .cases hk
 .cases hk
theorem BM {dc:List (Nat×Nat)} (htt:iR Pg tt) (t:TypeId) (n:Nat) (parts:Array (Nat×Operand)):qG Pg tt dc (.buildSlice t n parts):=by
 intro E st gh val w ρ F o d r ho h hF hFn hk hp hd;simp only [dW] at hk;split at hk
 .rename_i e _ _ _ zG D5 ht;split at hk
  .rename_i ie he;split at hk
   .rename_i ws LC;split at hk
    .rename_i ps a i gs es hps;split at hk
     .rename_i hcc;obtain ⟨hcap0,hnd,hap⟩:=hcc;have hnd:=rF hnd;have hap:=Fa hap;have hcap:n*ie.size<=16777216:=by omega
      simp only [Q0] at hk;subst hk;have hu:=(htt _ _ ht).kind;simp only [oD] at hu;obtain ⟨z,hz,hzc,_⟩:=kW (Pg:=Pg) (w:=w) (htt _ _ he);obtain ⟨hone,hl,hr⟩:=qC (E:=E) (st:=st) (gh:=gh) (w:=w) (htt _ _ he);have hzl:=(htt _ _ he).len;have hparts:(parts.map fun (p:Nat×Operand)=>(p.1,ρ p.2)).toList=parts.toList.map fun p=>(p.1,ρ p.2):=by simp
      obtain ⟨cs',h1,h2,h3,h4,h5⟩:=BG (E:=E) (st:=st) (gh:=gh) (w:=w) (place':=fun i=>some (i*ie.size,ie.size)) (fun m p hpm=>by split at hpm;exact hpm;cases hpm) _ (parts.toList.map fun p=>(p.1,ρ p.2)) _ _
       (gu ie.zero n) (by simp) (fun j x v hx hv=>DU hF _ j x v hx hv) (by rw [dQ,dQ,hl]) (fun c hc=>by
        obtain ⟨j,hj⟩:=Vc.1 hc;have hlt:j<n*ie.zero.length:=by have:=(Q3.1 hj).1;rwa [dQ] at this
        rw [iH _ _ _ hlt] at hj;exact hone c (XN hj)) (fun j x u hx hu=>by
        have hlt:j<n*ie.zero.length:=by have:=(Q3.1 hu).1;rwa [dQ] at this
        rw [iH _ _ _ hlt] at hu;rw [iH _ _ _ (by rw [hl];exact hlt),hl] at hx;exact hr _ _ _ hx hu) LC
      obtain ⟨q0,q1,qe,q2⟩:=BL h h2 h4 hps;obtain ⟨f1,f2⟩:=Rel.freezes gs h q1;have G5:st.used d=false:=hd d (by simp);have hws:ws.length=n*ie.size:=by rw [h5,dQ,hl,hzl]
      have aiU:ps.length=n*ie.size:=by rw [q0,hws]
      have hfe :∀p∈es,(st.aK (gs.map (Fw.aW st.o)) []).o p.2=st.o p.2:=fun p hp=>by rw [gK,if_neg (hap _ (X1.2 ⟨p,hp,rfl⟩))]
      obtain ⟨bM,m1,m2,m3,m4⟩:=f1.abn (d:=d) (by simpa [St.aK] using G5) a i ie.size (zG::D5) (chunks ie.size n ps) cs'.toArray e n ⟨by rw [iC];exact Z1 _,by omega⟩ (by simp;omega) (fun x hx=>by
        obtain ⟨m,hm⟩:=Vc.1 hx;have hlt:m<n:=by have:=(Q3.1 hm).1;rwa [iC] at this
        rw [qE _ _ _ _ hlt] at hm;simp only [Q0] at hm;subst hm;simp [aiU];have:(m+1)*ie.size<=n*ie.size:=YY _ hlt;rw [W0] at this;omega) es hnd (fun p hp=>by
        obtain ⟨a2,i2,s2,l2,z1,z2⟩:=qe p hp;exact ⟨a2,i2,s2,l2,by rw [hfe p hp];exact z1,z2⟩) (fun m x hx j y hy=>by
        have hlt:m<n:=by have:=(Q3.1 hx).1;rwa [iC] at this
        rw [qE _ _ _ _ hlt] at hx;simp only [Q0] at hx;subst hx;rw [Z2] at hy;split at hy
        .rename_i hj;rw [W4] at hy;have hlt2:m*ie.size+j<cs'.length:=by
          have:=(Q3.1 hy).1;omega
         refine ⟨cs'[m*ie.size+j],by simp,?_⟩;have:=q2 _ y _ hy (Q2 hlt2);have em:(0+(m*ie.size+j)) % ie.size=j:=by rw [Wm,Kx,qr,Ka hj]
         rw [em,Wm] at this;cases hcj:(zG::D5).lookup j with
         |none=>rw [hcj] at this;exact this _ (fun g hg=>by rw [gK,if_pos hg]) f1 f2
         |some s=>
          rw [hcj] at this;obtain ⟨l',z1,z2⟩:=this;refine ⟨l',z1,z2.imp id ?_⟩;rintro ⟨e,a2,i2,y1,y2,y3,y4,y5⟩;exact ⟨e,a2,i2,y1,by rw [hfe _ y1];exact y2,y3,y4,y5⟩
        .cases hy)
      have hst:(st.aK (gs.map (Fw.aW st.o)) []).aK ((d,.aO a i ie.size (zG::D5) (chunks ie.size n ps) none)::kills (es.map (·.2))) [d]=st.aK ((d,.aO a i ie.size (zG::D5) (chunks ie.size n ps) none)::kills (es.map (·.2))++gs.map (Fw.aW st.o)) [d]:=by
       refine St.DY rfl (fun z => ?_) (fun z=>by simp [St.aK]);simp only [St.aK,K5,lookup_cons,Ac,iD];by_cases z1:z=d
       .simp only [if_pos z1]
       .simp only [if_neg z1];by_cases z2:z∈es.map (·.2)
        .simp only [if_pos z2,Option.some_or]
        .simp only [if_neg z2,Option.none_or]
      rw [hst] at m1 m2;refine ⟨.slice (some ⟨w.heap.size,0,none⟩) n n,_,bM,.inl ?_,m1,Lets.trans f2 m2 (fun g hg=>by simpa [St.aK] using hg),dL.Ig (.own d _ rfl fun sz' len' ho' => ?_),fun g hg => ?_⟩
      .unfold execOp;rw [ho];refine gY ?_;have hle:¬ n*ie.size>2 ^ 24:=by omega
       have fin :∀Z:Array Value,(Array.range (n*ie.size)).map (fun i=>Z[i % Z.size]!)=(gu ie.zero n).toArray->
         Instr.fill (fun i=>some (i*ie.size,ie.size)) ((Array.range (n*ie.size)).map fun i=>Z[i % Z.size]!) (parts.map fun (p:Nat×Operand)=>(p.1,ρ p.2)).toList=some cs'.toArray:=by
        intro Z hZ;rw [hZ,hparts,h1]
       by_cases h0:n*ie.size=0
       .have e0:gu ie.zero n=[]:=WN (by rw [dQ,hzl,h0]);have e1:=fin #[] (by rw [h0,e0];simp);simp only [Instr.buildSlice,Sem.run_bind,eG hu,Result.andThen_ok,dZ (htt _ _ he),if_neg hle,if_pos h0,Sem.run_pure];simp only [e1];simp [newRow]
       .have hpos:0<ie.zero.length:=by rw [hzl];rcases KV ie.size with h | h;(rw [h] at h0;simp at h0);exact h
        have e1:=fin z.cells (by have:=nJ hzc n hpos;rw [hzl] at this;exact this);simp only [Instr.buildSlice,Sem.run_bind,eG hu,Result.andThen_ok,dZ (htt _ _ he),if_neg hle,if_neg h0,hz,Sem.run_pure];simp only [e1];simp [newRow]
      .have UD:(some (ie.size,n):Option (Nat×Nat))=some (sz',len'):=by
        rw [<-ho'];simp [St.aK,List.lookup,O.dim,P.list,iC]
       cases UD;rw [m3,m4]
      .have hg:g∈(S.v (.one (.own d))).names:=hg;rw [dR] at hg;simp only [W.names,QP] at hg;subst hg;simp [St.aK]
     .cases hk
    .cases hk
   .cases hk
  .cases hk
 .cases hk
def yV (gh:Nat->Gh):Option Nat->Nat->Option (Nat×Nat)
 |some g,b=>(gh g).sub b
 |none,_=>none
theorem QA (h:Rel E st gh val w) {d g2:Nat} (hd:st.used d=false) {a i a2 i2:Bool} {sz:Nat} {aj:List (Nat×Nat)} {old new:List (List P)} {base:Option Nat} {bad:Option Addr} {vN m:Nat}
  (hb:(base=none/\bad=none/\vN=0/\m=0/\old=[])\/∃g l,base=some g/\st.o g=.aO a i sz aj l none/\bad=(gh g).ad/\(m<=vN/\vN<=(gh g).cap)/\m<=l.length/\old=l.take m/\g≠g2)
  (ho2:st.o g2=.aO a2 i2 sz aj new none)
  {ts:Array TypeId} {ty sT xT e e':TypeId} {ie:TI} (h0:ts[0]?=some sT) (h1:ts[1]?=some xT) (hs:Pg.underlying sT=some (.slice e)) (hxt:Pg.underlying xT=some (.slice e')) (he:pV Pg e ie) (hsz:sz=ie.size)
  (hbb:(m+new.length)*ie.bytes<=140737488355328) (hb0:ie.bytes≠0) :
  ∃v w' bM,(Builtin.append_ ts ty #[.slice bad m vN,.slice (gh g2).ad new.length (gh g2).cap]).run Pg w=.ok v w'/\Rel E (st.aK ((d,.aO (a||a2) (i||i2) sz aj (old++new) none)::kills (base.toList++[g2])) [d]) bM val w'/\
   Lets E st (st.aK ((d,.aO (a||a2) (i||i2) sz aj (old++new) none)::kills (base.toList++[g2])) [d]) gh bM w w'/\v=.slice (bM d).ad (old++new).length (bM d).cap:=by
 subst hsz;have ca:a=true->(a||a2)=true:=by simp;exact fun h=>.inl h
 have ci:i=true->(i||i2)=true:=by simp;exact fun h=>.inl h
 have ca2:a2=true->(a||a2)=true:=by simp;exact fun h=>.inr h
 have ci2:i2=true->(i||i2)=true:=by simp;exact fun h=>.inr h
 have hnd :∀g,st.o g≠.none->g≠d:=fun g hg e=>by rw [<-e,h.ul g hg] at hd;cases hd
 have aps:g2≠d:=hnd g2 (by rw [ho2];simp);have ae9:(st.o g2).bP=true:=by rw [ho2];rfl
 have hol:old.length=m:=by
  rcases hb with ⟨_,_,_,rfl,rfl⟩ | ⟨g,l,_,_,_,_,hm,rfl,_⟩
  .rfl
  .simp;omega
 have hlen:(old++new).length=m+new.length:=by rw [Ys,hol]
 have hbS :∀g,g∈base.toList++[g2]->g≠d/\(st.o g).bP=true/\∃a0 i0 l0,st.o g=.aO a0 i0 ie.size aj l0 none/\(i0=true->(i||i2)=true):=by
  intro g hg;rcases X2.1 hg with hg | hg
  .rcases hb with ⟨rfl,_⟩ | ⟨g',l,rfl,hog,_⟩
   .simp at hg
   .simp at hg;subst hg;exact ⟨hnd g (by rw [hog];simp),by rw [hog];rfl,a,i,l,hog,ci⟩
  .rw [QP] at hg;subst hg;exact ⟨aps,ae9,a2,i2,new,ho2,ci2⟩
 let sub:Nat->Option (Nat×Nat):=fun b=>match (gh g2).sub b with
  |some (n,j)=>some (n+m,j)
  |none=>yV gh base b
 have alr :∀b,(yV gh base b).isSome=true->(gh g2).has b->False:=fun b h1 h2=>by
  rcases hb with ⟨rfl,_⟩ | ⟨g,l,rfl,hog,_,_,_,_,hne⟩
  .cases h1
  .exact hne (h.inj g g2 b (by rw [hog];rfl) ae9 (.inr h1) h2)
 have hsub :∀b,(sub b).isSome=true->(∃g,g∈base.toList++[g2]/\(st.o g).bP=true/\((gh g).sub b).isSome=true):=fun b hbs=>by
  cases hx:(gh g2).sub b with
  |some p=>exact ⟨g2,by simp,ae9,by rw [hx];rfl⟩
  |none=>
   simp only [sub,hx] at hbs;rcases hb with ⟨rfl,_⟩ | ⟨g,l,rfl,hog,_⟩
   .cases hbs
   .exact ⟨g,by simp,by rw [hog];rfl,hbs⟩
 have abo :∀g,g∈base.toList++[g2]->∀b,((gh g).sub b).isSome=true->∃c e f,w.heap[b]?=some (.cells c e f):=fun g hg b hbs=>by
  obtain ⟨_,_,a0,i0,l0,hog,_⟩:=hbS g hg;have hD:=h.bf g;rw [hog] at hD;rcases hD with ⟨_,_,_,q⟩ | ⟨_,_,_,_,_,_,_,_,_,⟨_,q⟩,_⟩
  .rw [q b] at hbs;cases hbs
  .exact q b hbs
 have alu :∀(G:Gh),G.sub=sub->∀n j y u,iQ E st gh w a2 i2 (gh g2) aj none n j y u->match aj.lookup j with
   |none=>dh w (E.ok st gh w (a||a2) (i||i2)) y u
   |some s=>zy E st gh w (a||a2) (i||i2) G s (n+m) j y u:=by
  intro G hG n j y u hr;unfold iQ at hr;cases hc:aj.lookup j with
  |none=>rw [hc] at hr;exact hr.cls ca2 ci2
  |some s=>
   rw [hc] at hr;simp only [iq] at hr;obtain ⟨l',ao,k,q1,q2,q3,q4⟩:=hr.cls ca2 ci2;exact ⟨l',ao,k,q1,q2,q3,fun ad had=>by rw [hG];simp only [sub,q4 ad had]⟩
 have alv :∀(G:Gh),G.sub=sub->∀g,base=some g->∀n j y u,iQ E st gh w a i (gh g) aj none n j y u->match aj.lookup j with
   |none=>dh w (E.ok st gh w (a||a2) (i||i2)) y u
   |some s=>zy E st gh w (a||a2) (i||i2) G s n j y u:=by
  intro G hG g hgb n j y u hr;unfold iQ at hr;cases hc:aj.lookup j with
  |none=>rw [hc] at hr;exact hr.cls ca ci
  |some s=>
   rw [hc] at hr;simp only [iq] at hr;obtain ⟨l',ao,k,q1,q2,q3,q4⟩:=hr.cls ca ci;refine ⟨l',ao,k,q1,q2,q3,fun ad had => ?_⟩;have hq:=q4 ad had;have hb1:(yV gh base ad.block).isSome=true:=by rw [hgb];simp only [yV,hq];rfl
   rw [hG];cases hx:(gh g2).sub ad.block with
   |some p=>exact (alr ad.block hb1 (.inr (by rw [hx];rfl))).elim
   |none=>simp only [sub,hx,hgb,yV];exact hq
 have hD2:mO E st gh w a2 i2 ie.size aj new none (gh g2):=by have:=h.bf g2;rw [ho2] at this;exact this
 have alx :∀X:O,∀g,g∈base.toList++[g2]->g≠d->(st.aK ((d,X)::kills (base.toList++[g2])) [d]).o g=.none:=fun X g hg e=>by simp only [St.aK,lookup_cons,if_neg e,iD,if_pos hg]
 have aly :∀X:O,∀g,¬ g∈base.toList++[g2]->g≠d->(st.aK ((d,X)::kills (base.toList++[g2])) [d]).o g=st.o g:=fun X g hg e=>by simp only [St.aK,lookup_cons,if_neg e,iD,if_neg hg]
 by_cases rD:m+new.length<=vN
 .obtain ⟨c2,hc2,hl2,alz,hr2,hcell2⟩:=zZ (Pg:=Pg) hD2 new.length (Z1 _);rcases hb with ⟨rfl,rfl,rfl,rfl,rfl⟩ | ⟨g,l,rfl,hog,rfl,hbc,hm,rfl,alA⟩
  .have hn0:new=[]:=WN (by omega);subst hn0;have hk:=h.kill g2;have hmk:=Rel.NP hk.1 d (by simpa [St.aK] using hd) (.aO (a||a2) (i||i2) ie.size aj [] none) (.inl ⟨rfl,rfl,rfl,fun _=>rfl⟩) (fun g hg=>by simp [O.names,dN] at hg);have hst:(st.aK [(g2,.none)] []).aK [(d,.aO (a||a2) (i||i2) ie.size aj [] none)] [d]=st.aK ((d,.aO (a||a2) (i||i2) ie.size aj ([]++[]) none)::kills ((none:Option Nat).toList++[g2])) [d]:=by
    refine St.DY rfl (fun z => ?_) (fun z=>by simp [St.aK]);simp only [St.aK,lookup_cons,iD,Option.toList,KS,QP,List.lookup_nil];by_cases z1:z=d
    .simp only [if_pos z1]
    .simp only [if_neg z1]
   rw [hst] at hmk;refine ⟨.slice none (0+0) 0,w,_,kM h0 h1 hs hxt he hc2 (by simp) (fun a ha=>by cases ha) (fun _=>rfl),hmk.1,Lets.trans hk.2 hmk.2 (fun g hg=>by simpa [St.aK] using hg),by simp [fJ,Gh.nil]⟩
  .have hD:mO E st gh w a i ie.size aj l none (gh g):=by have:=h.bf g;rw [hog] at this;exact this
   have hgo:(st.o g).bP=true:=by rw [hog];rfl
   rcases hD with ⟨z1,z2,z3,z4⟩ | ⟨ad,c,e0,z1,z2,z3,z4,z5,z6,⟨z7,z7'⟩,z8⟩
   .subst z3;have hm0:m=0:=by simpa using hm
    subst hm0;have hn0:new=[]:=WN (by omega);subst hn0;have hk:=h.kill g;have hk2:=hk.1.kill g2;have hmk:=Rel.NP hk2.1 d (by simpa [St.aK] using hd) (.aO (a||a2) (i||i2) ie.size aj [] none) (.inl ⟨rfl,rfl,rfl,fun _=>rfl⟩) (fun g hg=>by simp [O.names,dN] at hg);have hst:((st.aK [(g,.none)] []).aK [(g2,.none)] []).aK [(d,.aO (a||a2) (i||i2) ie.size aj [] none)] [d]=st.aK ((d,.aO (a||a2) (i||i2) ie.size aj (([]:List (List P)).take 0++[]) none)::kills ((some g:Option Nat).toList++[g2])) [d]:=by
     refine St.DY rfl (fun z => ?_) (fun z=>by simp [St.aK]);simp only [St.aK,lookup_cons,iD,Option.toList,K5,KS,QQ,List.not_mem_nil,or_false,List.lookup_nil];by_cases z1:z=d
     .simp only [if_pos z1];rfl
     .simp only [if_neg z1];by_cases z2:z=g2
      .simp [z2]
      .simp only [if_neg z2];by_cases z3:z=g
       .simp [z3]
       .simp [z2,z3]
    rw [hst] at hmk;have aiX:vN=0:=by omega
    subst aiX;refine ⟨.slice none (0+0) 0,w,_,by rw [z1];exact kM h0 h1 hs hxt he hc2 (by simp) (fun a ha=>by cases ha) (fun _=>rfl),hmk.1,Lets.trans (Lets.trans hk.2 hk2.2 (fun g hg=>by simpa [St.aK] using hg)) hmk.2 (fun g hg=>by simpa [St.aK] using hg),by simp [fJ,Gh.nil]⟩
   .have apm:m*ie.size+new.length*ie.size<=(gh g).cap*ie.size:=by rw [<-W0];exact YY _ (J1 rD hbc.2)
    have hbz:vN*ie.size<=(gh g).cap*ie.size:=YY _ hbc.2;obtain ⟨b0,o0,sp0⟩:=ad;simp only at z2 z3 z4 z7 z8;subst z2;obtain ⟨w',c',s1,s2,s3,s4,s5,s6,s7,s8⟩:=kH (Pg:=Pg) b0 (o0+m*ie.size) e0 c2 0 w c z3 alz (by omega);have xE:c'.size=c.size:=by
     have:=congrArg List.length s3;rw [dS (by simp;omega)] at this;simpa using this
    let G:Gh:=⟨some ⟨b0,o0,none⟩,vN,sub⟩
    have hn2:¬ (gh g2).has b0:=fun hb=>alA (h.inj g g2 b0 hgo ae9 (Gh.jT z1) hb);have hget :∀q:Nat,c'[q]?=(aS c.toList (o0+m*ie.size) c2)[q]?:=fun q=>by rw [<-V2,s3,Up]
    have hga:=h.gather (fun g'=>g'∈(some g:Option Nat).toList++[g2]) hd (a||a2) (i||i2) ie.size aj (l.take m++new) G (st.aK ((d,.aO (a||a2) (i||i2) ie.size aj (l.take m++new) none)::kills ((some g:Option Nat).toList++[g2])) [d]) w' rfl (by simp [St.aK,lookup_cons])
     (alx _) (aly _) (fun g hg=>by simp [St.aK,hg]) (by simp [St.aK]) (ad:=⟨b0,o0,none⟩) (c:=c') (ty:=e0) rfl rfl s2 (by rw [xE];simp only [G];omega) ⟨by rw [hlen];exact rD,by simp only [G];have:=z5.2;omega⟩ (fun x hx=>by
      rcases X2.1 hx with hx | hx
      .exact z6 x (W7 hx)
      .exact hr2 x hx) (by
      show sub b0=none;cases hx:(gh g2).sub b0 with
      |some p=>exact (hn2 (.inr (by rw [hx];rfl))).elim
      |none=>simp only [sub,hx,yV];exact z7) (fun b hb=>by
      obtain ⟨g',q1,q2,q3⟩:=hsub b hb;exact ⟨⟨g',q1,q2,.inr q3⟩,abo g' q1 b q3⟩) (.inl ⟨g,by simp,hgo,Gh.jT z1⟩) (fun b _ hne=>s4 b hne) (by omega) s6 s7 s8
     (fun g' i1 hg' e1 hi=>by obtain ⟨_,_,a0,i0,l0,hq,hi0⟩:=hbS g' hg';rw [hq] at e1;cases e1;exact hi0 hi) (fun g' hg' _=>by obtain ⟨_,_,a0,i0,l0,hq,_⟩:=hbS g' hg';exact ⟨i0,by rw [hq];rfl⟩)
     (fun n x hx j y hy=>by
      rw [K4] at hx;split at hx
      .rename_i hn;have hnm:n<m:=by simp at hn;omega
       rw [Z2,if_pos hnm] at hx;obtain ⟨v,hv,hvr⟩:=z8 n x hx j y hy;have hj:j<ie.size:=by have:=(Q3.1 hy).1;have:=z6 x (XN hx);omega
       have:(n+1)*ie.size<=m*ie.size:=YY _ hnm;rw [W0,K3] at this;exact ⟨v,by rw [hget,d_ (by simp;omega),if_neg (by show ¬ (_/\_);simp only;omega)];simpa using hv,alv G rfl g rfl n j y v hvr⟩
      .rename_i hn;have hlm:(l.take m).length=m:=by simp;omega
       rw [hlm] at hx hn;obtain ⟨u,hu,hur⟩:=hcell2 _ x (by have:=(Q3.1 hx).1;omega) hx j y hy;have Io:=(Q3.1 hu).1;have hnm:n*ie.size=m*ie.size+(n-m)*ie.size:=by rw [<-W0];congr 1;omega
       refine ⟨u,?_,?_⟩
       .have e1:o0+n*ie.size+j-(o0+m*ie.size)=(n-m)*ie.size+j:=by omega
        rw [hget,d_ (by simp;omega),if_pos (by simp only;omega),e1];exact hu
       .have:=alu G rfl (n-m) j y u hur;have e2:n-m+m=n:=by omega
        rw [e2] at this;exact this)
    refine ⟨_,w',_,kM h0 h1 hs hxt he hc2 rD (fun a ha => ?_) (fun hn=>by rw [z1] at hn;cases hn),hga.1,hga.2,by rw [hlen];simp [fJ,G,z1]⟩;rw [z1] at ha;cases ha;rw [Addr.iG];simpa using s1
 .have hd1:=h.drew (w.drawn+1);have hl1:Lets E st st gh gh w { w with drawn:=w.drawn+1 }:=Rel.DW _;have apt:mO E st gh { w with drawn:=w.drawn+1 } a2 i2 ie.size aj new none (gh g2):=by have:=hd1.bf g2;rw [ho2] at this;exact this
  obtain ⟨c2,hc2,hl2,alz,hr2,hcell2⟩:=zZ (Pg:=Pg) apt new.length (Z1 _);have hbase :∃c1:List Value,(Builtin.firstCells ie.size m (.slice bad m vN)).run Pg { w with drawn:=w.drawn+1 }=.ok c1.toArray { w with drawn:=w.drawn+1 }/\c1.length=m*ie.size/\(∀x∈old,x.length=ie.size)/\
    ∀(n:Nat) x,old[n]?=some x->∀(j:Nat) y,x[j]?=some y->∃u,c1[n*ie.size+j]?=some u/\∃g,base=some g/\iQ E st gh { w with drawn:=w.drawn+1 } a i (gh g) aj none n j y u:=by
   rcases hb with ⟨rfl,rfl,rfl,rfl,rfl⟩ | ⟨g,l,rfl,hog,rfl,hbc,hm,rfl,alA⟩
   .exact ⟨[],by simp [Builtin.firstCells],by simp,by simp,by simp⟩
   .have hD:mO E st gh { w with drawn:=w.drawn+1 } a i ie.size aj l none (gh g):=by have:=hd1.bf g;rw [hog] at this;exact this
    obtain ⟨c1,k1,k2,k3,k4,k5⟩:=zZ (Pg:=Pg) hD m hm;rw [xG _ _ _ _ _ vN] at k1;refine ⟨c1,k1,k2,fun x hx=>k4 x (W7 hx),fun n x hx j y hy => ?_⟩;rw [Z2] at hx;split at hx
    .rename_i hn;obtain ⟨u,q1,q2⟩:=k5 n x hn hx j y hy;exact ⟨u,q1,g,rfl,q2⟩
    .cases hx
  obtain ⟨c1,hc1,abh,hr1,hcell1⟩:=hbase;have hback:Lets E st st gh gh { w with drawn:=w.drawn+1 } w:=⟨fun a i b hb=>⟨hb,rfl⟩,fun g _=>.inr ⟨⟨rfl,rfl⟩,O.fH _⟩⟩;obtain ⟨rest,newCap,k1,k2,k3⟩:=qF (ty:=ty) h0 h1 hs hxt he hc2 hc1 rD hbb hb0
  let G:Gh:=⟨some ⟨w.heap.size,0,none⟩,newCap,sub⟩
  have hga:=h.gather (fun g'=>g'∈base.toList++[g2]) hd (a||a2) (i||i2) ie.size aj (old++new) G (st.aK ((d,.aO (a||a2) (i||i2) ie.size aj (old++new) none)::kills (base.toList++[g2])) [d])
   { w with drawn:=w.drawn+1,heap:=w.heap.push (.cells (c1.toArray++c2.toArray++rest) e) } rfl (by simp [St.aK,lookup_cons])
   (alx _) (aly _) (fun g hg=>by simp [St.aK,hg]) (by simp [St.aK]) (ad:=⟨w.heap.size,0,none⟩) (c:=c1.toArray++c2.toArray++rest) (ty:=e) rfl rfl (by simp) (by
    simp only [ve,Kl,abh,hl2,k2,G];rw [<-W0,<-W0,Wm];exact YY _ (by omega)) ⟨by rw [hlen];exact k1.1,k1.2⟩ (fun x hx=>by
    rcases X2.1 hx with hx | hx
    .exact hr1 x hx
    .exact hr2 x hx) (by
    show sub w.heap.size=none;cases hx:sub w.heap.size with
    |none=>rfl
    |some p=>
     obtain ⟨g',q1,q2,q3⟩:=hsub w.heap.size (by rw [hx];rfl);have:=(h.wr g' _ q2 (.inr q3)).2;omega) (fun b hb=>by
    obtain ⟨g',q1,q2,q3⟩:=hsub b hb;exact ⟨⟨g',q1,q2,.inr q3⟩,abo g' q1 b q3⟩) (.inr ⟨Z1 _,by simp⟩) (fun b hb _=>vF w _ b hb) (by simp) rfl rfl rfl
   (fun g' i1 hg' e1 hi=>by obtain ⟨_,_,a0,i0,l0,hq,hi0⟩:=hbS g' hg';rw [hq] at e1;cases e1;exact hi0 hi) (fun g' hg' _=>by obtain ⟨_,_,a0,i0,l0,hq,_⟩:=hbS g' hg';exact ⟨i0,by rw [hq];rfl⟩)
   (fun n x hx j y hy=>by
    rw [K4] at hx;split at hx
    .rename_i hn;obtain ⟨u,q1,g,q2,q3⟩:=hcell1 n x hx j y hy;have hlt:=(Q3.1 q1).1;refine ⟨u,?_,alv G rfl g q2 n j y u (hback.aa8 (fun _ _=>rfl) (fun g hg=>by cases hg) q3)⟩;rw [Wm,JP (by simp;omega),JP (by simpa using hlt)];simpa using q1
    .rename_i hn;rw [hol] at hx hn;obtain ⟨u,hu,hur⟩:=hcell2 _ x (by have:=(Q3.1 hx).1;omega) hx j y hy;have Io:=(Q3.1 hu).1;have hnm:n*ie.size=m*ie.size+(n-m)*ie.size:=by rw [<-W0];congr 1;omega
     refine ⟨u,?_,?_⟩
     .rw [Wm,JP (by simp;omega),Array.getElem?_append_right (by simp;omega)];simp only [Kl,K1];have e1:n*ie.size+j-c1.length=(n-m)*ie.size+j:=by omega
      rw [e1];exact hu
     .have:=alu G rfl (n-m) j y u (hback.aa8 (fun _ _=>rfl) (fun g hg=>by cases hg) hur);have e2:n-m+m=n:=by omega
      rw [e2] at this;exact this)
  exact ⟨_,_,_,k3,hga.1,hga.2,by rw [hlen];simp [fJ,G]⟩
theorem mW {o o':Nat->O} {g:Nat} (h:Agree o o' g):jI o g=jI o' g:=by
 obtain ⟨h1,h2⟩:=h;unfold jI;rw [<-h1];cases ho:o g with
 |aO a i sz aj l hole=>
  rcases hole with _ | ⟨n,c,d⟩
  .rfl
  .simp only;rw [h2 d (by rw [ho];simp [O.hn,dN])]
 |_=>rfl
theorem xI (htt:iR Pg tt) (h:Rel E st gh val w) {o:Oper} {ρ:Operand->Value} {s x:Operand} {ts:Array TypeId} (ho:o.op=.call { callee:=.builtin .append,args:=#[s,x],argTypes:=ts }) {d g2:Nat} (hd:st.used d=false)
  {sT xT e e':TypeId} {ie:TI} (h0:ts[0]?=some sT) (h1:ts[1]?=some xT) (hs:Pg.underlying sT=some (.slice e)) (hxt:Pg.underlying xT=some (.slice e')) (he:pV Pg e ie) (hb0:ie.bytes≠0)
  {a i a2 i2:Bool} {sz:Nat} {aj:List (Nat×Nat)} {old new:List (List P)} {base:Option Nat} {bad:Option Addr} {vN m:Nat} (hsz:sz=ie.size)
  {st1:St} {ny:Nat->Gh} (ks:List Nat) (h1':Rel E st1 ny val w) (l1:Lets E st st1 gh ny w w) (e1 :∀x,(ny x).ad=(gh x).ad/\(ny x).cap=(gh x).cap) (s1:st1.s=st.s) (u1 :∀x,st1.used x=st.used x)
  (hb:(base=none/\bad=none/\vN=0/\m=0/\old=[]/\ks=[])\/∃g l,base=some g/\st1.o g=.aO a i sz aj l none/\bad=(gh g).ad/\(m<=vN/\vN<=(gh g).cap)/\m<=l.length/\old=l.take m/\ks=g::(st.o g).hn)
  (ok1 :∀x∈ks,(∀g,base=some g->x≠g)->st1.o x=.none) (oo1 :∀x,x∉ks->st1.o x=st.o x) (hnd:(ks++g2::(st.o g2).hn).Nodup)
  (h2:jI st.o g2=some (a2,i2,sz,aj,new)) (hvs:ρ s=.slice bad m vN) (hvx:ρ x=.slice (gh g2).ad new.length (gh g2).cap) (hbb:(m+new.length)*ie.bytes<=140737488355328) :
  ∃v w' bM,Does Pg (execOp ρ o) w v w'/\Rel E (st.aK ((d,.aO (a||a2) (i||i2) sz aj (old++new) none)::kills (ks++g2::(st.o g2).hn)) [d]) bM val w'/\
   Lets E st (st.aK ((d,.aO (a||a2) (i||i2) sz aj (old++new) none)::kills (ks++g2::(st.o g2).hn)) [d]) gh bM w w'/\
   dL E (st.aK ((d,.aO (a||a2) (i||i2) sz aj (old++new) none)::kills (ks++g2::(st.o g2).hn)) [d]) bM w' (.v (.one (.own d))) v/\
   ∀g∈(S.v (.one (.own d))).names,(st.aK ((d,.aO (a||a2) (i||i2) sz aj (old++new) none)::kills (ks++g2::(st.o g2).hn)) [d]).used g=true:=by
 have hdis :∀x∈ks,x∉g2::(st.o g2).hn:=fun x hx hx'=>by
  have:=(List.nodup_append.1 hnd).2.2 x hx x hx';exact this rfl
 have hag:Agree st.o st1.o g2:=⟨(oo1 g2 fun hm=>hdis g2 hm (by simp)).symm,fun d' hd'=>(oo1 d' fun hm=>hdis d' hm (by simp [hd'])).symm⟩;have h2':jI st1.o g2=some (a2,i2,sz,aj,new):=by rw [<-mW hag];exact h2
 obtain ⟨st2,zD,r2,l2,e2,s2,u2,o2,ok2,oo2⟩:=h1'.home h2';rw [<-hag.1] at ok2 oo2;have hb2:(base=none/\bad=none/\vN=0/\m=0/\old=[])\/∃g l,base=some g/\st2.o g=.aO a i sz aj l none/\bad=(zD g).ad/\(m<=vN/\vN<=(zD g).cap)/\m<=l.length/\old=l.take m/\g≠g2:=by
  rcases hb with ⟨q1,q2,q3,q4,q5,_⟩ | ⟨g,l,q1,q2,q3,q4,q5,q6,q7⟩
  .exact .inl ⟨q1,q2,q3,q4,q5⟩
  .have hgk:=hdis g (by rw [q7];simp);have hg2:g≠g2:=fun e=>hgk (by rw [e];simp);refine .inr ⟨g,l,q1,?_,by rw [(e2 g).1,(e1 g).1];exact q3,by rw [(e2 g).2,(e1 g).2];exact q4,q5,q6,hg2⟩;rw [oo2 g hg2 fun hm=>hgk (by simp [hm])];exact q2
 obtain ⟨v,w',bM,k1,k2,k3,k4⟩:=QA (d:=d) (ty:=o.type) r2 (by rw [u2,u1];exact hd) hb2 o2 h0 h1 hs hxt he hsz hbb hb0;have hst:st2.aK ((d,.aO (a||a2) (i||i2) sz aj (old++new) none)::kills (base.toList++[g2])) [d]=st.aK ((d,.aO (a||a2) (i||i2) sz aj (old++new) none)::kills (ks++g2::(st.o g2).hn)) [d]:=by
  refine St.DY (s2.trans s1) (fun z => ?_) (fun z=>by simp [St.aK,u2,u1]);simp only [St.aK,lookup_cons,iD];by_cases z1:z=d
  .simp only [if_pos z1]
  .simp only [if_neg z1];by_cases z2:z∈base.toList++[g2]
   .have:z∈ks++g2::(st.o g2).hn:=by
     rcases X2.1 z2 with z2 | z2
     .rcases hb with ⟨q1,_⟩ | ⟨g,l,q1,_,_,_,_,_,q7⟩
      .rw [q1] at z2;simp at z2
      .rw [q1] at z2;simp at z2;subst z2;rw [q7];simp
     .simp at z2;subst z2;simp
    simp only [if_pos z2,if_pos this]
   .by_cases z3:z∈ks++g2::(st.o g2).hn
    .simp only [if_neg z2,if_pos z3];have hzg:z≠g2:=fun e=>z2 (by simp [e]);by_cases z4:z∈(st.o g2).hn
     .exact (ok2 z z4).1
     .rw [oo2 z hzg z4];rcases X2.1 z3 with z5 | z5
      .exact ok1 z z5 fun g hg e=>z2 (by rw [hg,e];simp)
      .rcases QQ.1 z5 with z5 | z5
       .exact absurd z5 hzg
       .exact absurd z5 z4
    .simp only [if_neg z2,if_neg z3];simp only [X2,QQ,not_or] at z3;rw [oo2 z z3.2.1 z3.2.2,oo1 z z3.1]
 rw [hst] at k2 k3;have hod:(st.aK ((d,.aO (a||a2) (i||i2) sz aj (old++new) none)::kills (ks++g2::(st.o g2).hn)) [d]).o d=.aO (a||a2) (i||i2) sz aj (old++new) none:=by simp [St.aK,lookup_cons]
 refine ⟨v,w',bM,.inl (jA ho ?_),k2,Lets.trans (Lets.trans l1 l2 (fun g hg=>by rw [u1];exact hg)) k3 (fun g hg=>by rw [u2,u1];exact hg),dL.Ig (.own d v (by rw [k4];rfl) fun sz1 len1 ho1 => ?_),fun g hg => ?_⟩
 .rw [(e2 g2).1,(e1 g2).1,(e2 g2).2,(e1 g2).2] at k1;simp [builtin,hvs,hvx,k1]
 .rw [hod] at ho1;simp only [O.dim,Q0,Q1] at ho1;obtain ⟨_,rfl⟩:=ho1;exact k4
 .rw [dR] at hg;simp only [W.names,QP] at hg;subst hg;simp [St.aK]
theorem KP {dc:List (Nat×Nat)} (htt:iR Pg tt) (args:Array Operand) (ts:Array TypeId):qG Pg tt dc (.call { callee:=.builtin .append,args:=args,argTypes:=ts }):=by
 intro E st gh val w ρ F o d r ho h hF hFn hk hp hd;simp only [dW] at hk;split at hk
 .rename_i s x sT xT tl ha hts;obtain rfl:=vG ha;have h0:ts[0]?=some sT:=by rw [<-V2,hts];rfl
  have h1:ts[1]?=some xT:=by rw [<-V2,hts];rfl
  split at hk
  .rename_i e _ _ _ e' _ _ _ s' g2 hsT hxT hs hx;have rs:=hF s;rw [hs] at rs;have rx:=hF x;rw [hx] at rx;have huS:=(htt _ _ hsT).kind;have huX:=(htt _ _ hxT).kind;simp only [oD] at huS huX;split at hk
   .rename_i ie ask a i old ks src a2 i2 sz aj new he hbD hh2;split at hk
    .rename_i hc;obtain ⟨hb0,hsz,hsrc,hnd⟩:=hc;have hnd:=rF hnd;simp only [Q0] at hk;subst hk;obtain ⟨hask,hbb⟩:=hp;have G5:st.used d=false:=hd d (by simp);have hvx:ρ x=.slice (gh g2).ad new.length (gh g2).cap:=by cases rx.dK with | own _ _ _ hb=>exact hb _ _ (oG hh2)
     have refl:Lets E st st gh gh w w:=⟨fun a i b hb=>⟨hb,rfl⟩,fun g _=>.inr ⟨⟨rfl,rfl⟩,O.fH _⟩⟩;cases s' with
     |dF=>
      simp only [baseD,Q0,Q1] at hbD;obtain ⟨rfl,rfl,rfl,rfl,rfl,rfl⟩:=hbD;have hv:ρ s=.slice none 0 0:=by generalize hz:ρ s=z at rs;cases rs.dK;rfl
      exact xI htt h ho G5 h0 h1 huS huX (htt _ _ he) hb0 (base:=none) (bad:=none) (vN:=0) (m:=0) hsz [] h refl (fun _=>⟨rfl,rfl⟩) rfl (fun _=>rfl) (.inl ⟨rfl,rfl,rfl,rfl,rfl,rfl⟩) (fun x hx=>by cases hx) (fun _ _=>rfl) hnd hh2 hv hvx (by simpa using hbb)
     |own g=>
      simp only [baseD] at hbD;split at hbD
      .rename_i a0 i0 Aa kQ l0 hh;simp only [Q0,Q1] at hbD;obtain ⟨rfl,rfl,rfl,rfl,rfl,rfl⟩:=hbD;have hsc:Aa=sz/\kQ=aj:=by rcases hsrc with e | e;cases e;simpa using e
       obtain ⟨rfl,rfl⟩:=hsc;obtain ⟨st1,ny,r1,l1,e1,s1,u1,o1,ok1,oo1⟩:=h.home hh;have hv:ρ s=.slice (gh g).ad l0.length (gh g).cap:=by cases rs.dK with | own _ _ _ hb=>exact hb _ _ (oG hh)
       exact xI htt h ho G5 h0 h1 huS huX (htt _ _ he) hb0 (base:=some g) hsz (g::(st.o g).hn) r1 l1 e1 s1 u1 (.inr ⟨g,l0,rfl,o1,rfl,⟨(vH (h.bf g) (oG hh)).1,Z1 _⟩,Z1 _,by rw [JN],rfl⟩)
        (fun x hx hxg=>by
         rcases QQ.1 hx with e | e
         .exact absurd e (hxg g rfl)
         .exact (ok1 x e).1)
        (fun x hx=>by simp only [QQ,not_or] at hx;exact oo1 x hx.1 hx.2) hnd hh2 hv hvx hbb
      .cases hbD
     |vw g lo hi=>
      simp only [baseD] at hbD;split at hbD
      .rename_i a0 i0 Aa kQ l0 hh;simp only [Q0,Q1] at hbD;obtain ⟨rfl,rfl,rfl,rfl,rfl,rfl⟩:=hbD;have hsc:Aa=sz/\kQ=aj:=by rcases hsrc with e | e;cases e;simpa using e
       obtain ⟨rfl,rfl⟩:=hsc;obtain ⟨st1,ny,r1,l1,e1,s1,u1,o1,ok1,oo1⟩:=h.home hh;obtain ⟨n,m,vc,h4,rfl,h5,h6,hvc,hv⟩:=(by cases rs.dK with | vw _ _ _ _ _ hb=>exact hb _ _ (oG hh) :∃n m c:Nat,lo=.int .i64 n/\hi=.int .i64 m/\n<=m/\m<=l0.length/\(m-n<=c/\n+c<=(gh g).cap)/\
        ρ s=.slice (if (gh g).cap=n then (gh g).ad else (gh g).ad.map (·.add (n*Aa))) (m-n) c)
       have hn0:n=0:=by rw [hask] at h4;simp [lY] at h4;omega
       subst hn0;have hadd:(gh g).ad.map (·.add (0*Aa))=(gh g).ad:=by
        cases (gh g).ad with
        |none=>rfl
        |some a=>simp [Addr.add]
       rw [hadd] at hv;simp only [ite_self,Nat.sub_zero] at hv;have em:(P.int .i64 (m:Int)).nat=m:=by simp [P.nat,P.num]
       rw [em] at hbb ⊢;have apu:(m+new.length)*ie.bytes<=140737488355328:=by rw [UI,vn h6] at hbb;exact hbb
       exact xI htt h ho G5 h0 h1 huS huX (htt _ _ he) hb0 (base:=some g) hsz (g::(st.o g).hn) r1 l1 e1 s1 u1 (.inr ⟨g,l0,rfl,o1,rfl,by omega,h6,rfl,rfl⟩)
        (fun x hx hxg=>by
         rcases QQ.1 hx with e | e
         .exact absurd e (hxg g rfl)
         .exact (ok1 x e).1)
        (fun x hx=>by simp only [QQ,not_or] at hx;exact oo1 x hx.1 hx.2) hnd hh2 hv hvx apu
      .cases hbD
     |_=>simp [baseD] at hbD
    .cases hk
   .cases hk
  .cases hk
 .cases hk
theorem Oc {dc:List (Nat×Nat)} (htt:iR Pg tt) (t:TypeId) (x:Operand) (lo hi mx:Option Operand):qG Pg tt dc (.slice t x lo hi mx):=by
 intro E st gh val w ρ F o d r ho h hF hFn hk hp hd;cases lo with
 |some _=>simp [dW] at hk
 |none=>
 cases mx with
 |some _=>simp [dW] at hk
 |none=>
 simp only [dW] at hk;split at hk
 .rename_i e _ _ _ g ht hx;have rx:=hF x;rw [hx] at rx;have hu:=(htt _ _ ht).kind;simp only [oD] at hu;split at hk
  .rename_i ie a i sz l he hog;split at hk
   .rename_i hsz;split at hk
    .rename_i hi' hhi;simp only [Q0] at hk;subst hk;obtain ⟨k,hk,hkl⟩:=hp;have hd:=hd d (by simp);have Qy:(st.o g).dim=some (sz,l.length):=by rw [hog];rfl
     have hv:=(by cases rx.dK with | own _ _ _ hb=>exact hb _ _ Qy:ρ x=.slice (gh g).ad l.length (gh g).cap);have hob:=h.bf g;rw [hog] at hob;have hcap:l.length<=(gh g).cap:=NS hob;have zY:(hi.map ρ=none/\k=l.length)\/∃kd,hi.map ρ=some (.int kd k):=(iZ hF hhi hk).imp (fun ⟨a,b⟩=>⟨a,by simp [lY] at b;omega⟩) id;have hrun:(execOp ρ o).run Pg w=.ok (.value (.slice (gh g).ad k (gh g).cap)) w:=by
      have hs:=tN (Pg:=Pg) (w:=w) (len:=l.length) (lo:=(none:Option Value)) (hi:=hi.map ρ) (m:=0) (k:=k) (cap:=(gh g).cap) (.inl ⟨rfl,rfl⟩) zY (vh _) (by omega);have key:(execOp ρ o).run Pg w=.ok (.value (.slice (if (gh g).cap=0 then (gh g).ad else (gh g).ad.map (·.add (0*ie.size))) (k-0) ((gh g).cap-0))) w:=by
       unfold execOp;rw [ho];refine gY ?_;simp only [Kh];simp [Instr.sliceAt,eG hu,Instr.slice,hv,hs,dZ (htt _ _ he)]
      rw [key];congr 3;rcases hob with ⟨q1,q2,_⟩ | ⟨ad,c,e',q1,q2,_⟩
      .rw [q1,q2];rfl
      .rw [q1];obtain ⟨b0,o0,sp0⟩:=ad;simp only at q2;subst q2;split
       .rfl
       .rw [Z3,Addr.iG];simp
     have hgo:(st.o g).bP=true:=by rw [hog];rfl
     have hgu:st.used g=true:=h.ul g (O.qB hgo);have hgd:g≠d:=by intro e;subst e;rw [hd] at hgu;cases hgu
     have e0:(P.list (P.sl sz (l.take hi'.nat)))=l.take k:=by rw [hk];simp [P.list,P.nat,P.num]
     have apv :∀st',st'=st.aK [(d,.arr false a i sz (l.take k)),(g,.none)] [d]->
       ∃bM,Rel E st' bM val w/\Lets E st st' gh bM w w/\dL E st' bM w (.v (.one (.own d))) (.slice (gh g).ad k (gh g).cap):=by
      intro st' hst;have hod:st'.o d=.arr false a i sz (l.take k):=by rw [hst];simp [St.aK,List.lookup]
      have hm:=h.merge (fun g'=>g'=g) d (.arr false a i sz (l.take k)) (gh g) st' w (by rw [hst];rfl) hod (fun g' e1 e2=>by
        rw [hst,e1];have:(g==d)=false:=by simpa using hgd
        simp [St.aK,List.lookup,this]) (fun g' e1 e2=>by
        rw [hst];have q1:(g'==d)=false:=by simpa using e2
        have q2:(g'==g)=false:=by simpa using e1
        simp [St.aK,List.lookup,q1,q2]) (fun g' hg'=>by rw [hst];simp [St.aK,hg']) (by rw [hst];simp [St.aK]) (fun hu=>by rw [hd] at hu;cases hu)
       (fun b hb=>.inl ⟨g,.inl rfl,hgo,hb⟩) (fun b _ _=>rfl) (Z1 _) rfl rfl rfl
       (fun i1 b e1 hb hwr=>by cases e1;exact h.wi g i b (by rw [hog];rfl) hb hwr) (fun _ _=>h.ns g hgo (by rw [hog];rfl)) (fun hl => ?_) (fun g' hg'=>by simp [O.names] at hg')
      .refine ⟨_,hm.1,hm.2,dL.Ig (.own d _ rfl fun sz' len' hd' => ?_)⟩;rw [hod] at hd';obtain ⟨rfl,rfl⟩:=O.kC hd';have e1:fJ gh d (gh g) d=gh g:=by simp [fJ]
       rw [e1,UI,vn hkl]
      .show iK E st' _ w a i sz (l.take k) (gh g);have hold:iK E st gh w a i sz l (gh g):=hob;rcases hold with ⟨q1,q2,q3⟩ | ⟨ad,c,e',q1,q2,q3,q4,q5,q6,q7⟩
       .exact .inl ⟨q1,q2,by rw [q3];simp⟩
       .refine .inr ⟨ad,c,e',q1,q2,q3,q4,⟨by rw [UI];omega,q5.2⟩,fun x hx=>q6 x (W7 hx),fun n x hx j y hy => ?_⟩;rw [Z2] at hx;split at hx
        .obtain ⟨v,hv,hr⟩:=q7 n x hx j y hy;exact ⟨v,hv,hl.kP hr⟩
        .cases hx
     show∃v w' bM,Does Pg (execOp ρ o) w v w'/\Rel E (st.aK [(d,.arr false a i sz (P.list (P.sl sz (l.take hi'.nat)))),(g,.none)] [d]) bM val w'/\_;rw [e0];obtain ⟨bM,m1,m2,m3⟩:=apv _ rfl;refine ⟨_,w,bM,.inl hrun,m1,?_,?_,fun g' hg' => ?_⟩
     .show Lets E st (st.aK [(d,.arr false a i sz (P.list (P.sl sz (l.take hi'.nat)))),(g,.none)] [d]) gh bM w w;rw [e0];exact m2
     .show dL E (st.aK [(d,.arr false a i sz (P.list (P.sl sz (l.take hi'.nat)))),(g,.none)] [d]) bM w _ _;rw [e0];exact m3
     .have hg':g'∈(S.v (.one (.own d))).names:=hg';have:g'=d:=by simpa [S.names,V.names,W.names] using hg'
      subst this;simp [St.aK]
    .cases hk
   .cases hk
  .cases hk
 .cases hk
theorem KQ {dc:List (Nat×Nat)} (htt:iR Pg tt) (op:Op):qG Pg tt dc op:=by
 cases op with
 |load t x=>exact Qz htt t x
 |store t x y=>exact Ob htt t x y
 |buildSlice t n ps=>exact BM htt t n ps
 |makeSlice t n c=>exact DZ htt t n c
 |slice t x lo hi mx=>exact Oc htt t x lo hi mx
 |call c=>
  obtain ⟨callee,args,ts⟩:=c;cases callee with
  |builtin b=>
   cases b with
   |append=>exact KP htt args ts
   |_=>intro E st gh val w ρ F o d r ho h hF hFn hk;simp [dW] at hk
  |_=>intro E st gh val w ρ F o d r ho h hF hFn hk;simp [dW] at hk
 |_=>intro E st gh val w ρ F o d r ho h hF hFn hk;simp [dW] at hk
end
end Go.Fw

namespace Go.Fw
variable [eX]
def P.flat:P->Bool
 |.sl _ _=>false
 |.seq _=>false
 |_=>true
theorem dh.flat {w:World} {ok ok':Nat->Prop} {x:P} {v:Value} (hx:x.flat=true) (r:dh w ok x v):dh w ok' x v:=by
 cases r with
 |int k n=>exact .int k n
 |bool b=>exact .bool b
 |str s=>exact .str s
 |opq v h=>exact .opq v h
 |_=>cases hx
inductive Ww (C:Bool->Bool->Bool->Bool->Prop) (m:Nat->Option Nat) (nil:Nat->Prop):W->W->Prop where
 |no (x:W):Ww C m nil x .no
 |p {a i a' i':Bool} (x:P) (hc:C a i a' i'):Ww C m nil (.p a i x) (.p a' i' x)
 |flat {a i a' i':Bool} (x:P) (hx:x.flat=true):Ww C m nil (.p a i x) (.p a' i' x)
 |dF:Ww C m nil .dF .dF
 |aiZ (a i:Bool) (sz:Nat):Ww C m nil .dF (.p a i (.sl sz []))
 |alB {g':Nat} (h:m g'=none) (hn:nil g'):Ww C m nil .dF (.own g')
 |own {g g':Nat} (h:m g'=some g):Ww C m nil (.own g) (.own g')
 |vw {g g':Nat} (lo hi:P) (h:m g'=some g):Ww C m nil (.vw g lo hi) (.vw g' lo hi)
 |box {g g' off:Nat} (h:m g'=some g):Ww C m nil (.box g off) (.box g' off)
 |ep {g g':Nat} (n:P) (off:Nat) (h:m g'=some g):Ww C m nil (.ep g n off) (.ep g' n off)
 |ni {g g':Nat} (h:m g'=some g):Ww C m nil (.ni g) (.ni g')
 |sp {a i a' i':Bool} (row:List P) (off:Nat) (hc:C a i a' i'):Ww C m nil (.sp a i row off) (.sp a' i' row off)
 |gd (b:Bool) {x y:W} (h:Ww C m nil x y):Ww C m nil (.gd b x) (.gd b y)
 |clo (f:FuncId) (xs ys:List W) (hl:xs.length=ys.length) (h :∀(j:Nat) x y,xs[j]?=some x->ys[j]?=some y->Ww C m nil x y):Ww C m nil (.clo f xs) (.clo f ys)
inductive Vw (C:Bool->Bool->Bool->Bool->Prop) (m:Nat->Option Nat) (nil:Nat->Prop):V->V->Prop where
 |one {x y:W} (h:Ww C m nil x y):Vw C m nil (.one x) (.one y)
 |agg (xs ys:List W) (hl:xs.length=ys.length) (h :∀(j:Nat) x y,xs[j]?=some x->ys[j]?=some y->Ww C m nil x y):Vw C m nil (.agg xs) (.agg ys)
inductive Sw (C:Bool->Bool->Bool->Bool->Prop) (m:Nat->Option Nat) (nil:Nat->Prop):S->S->Prop where
 |no (x:S):Sw C m nil x .no
 |v {x y:V} (h:Vw C m nil x y):Sw C m nil (.v x) (.v y)
 |jq (xs ys:List V) (hl:xs.length=ys.length) (h :∀(j:Nat) x y,xs[j]?=some x->ys[j]?=some y->Vw C m nil x y):Sw C m nil (.jq xs) (.jq ys)
inductive Ow (C:Bool->Bool->Bool->Bool->Prop) (m:Nat->Option Nat) (nil:Nat->Prop):O->O->Prop where
 |none (x:O):Ow C m nil x .none
 |box (xs ys:List W) (hl:xs.length=ys.length) (h :∀(j:Nat) x y,xs[j]?=some x->ys[j]?=some y->Ww C m nil x y):Ow C m nil (.box xs) (.box ys)
 |arr (fz:Bool) {a i a' i':Bool} (sz:Nat) (l:List (List P)) (hc:C a i a' i'):Ow C m nil (.arr fz a i sz l) (.arr fz a' i' sz l)
 |aO {a i a' i':Bool} (sz:Nat) (aj:List (Nat×Nat)) (l:List (List P)) (hc:C a i a' i'):Ow C m nil (.aO a i sz aj l Option.none) (.aO a' i' sz aj l Option.none)
 |it (s n:P):Ow C m nil (.it s n) (.it s n)
def O.nilA (o:O):Prop:=(∃a i sz,o=.arr false a i sz [])\/∃a i sz aj,o=.aO a i sz aj [] Option.none
theorem Ow.dim {C:Bool->Bool->Bool->Bool->Prop} {m:Nat->Option Nat} {nil:Nat->Prop} {x y:O} (h:Ow C m nil x y) {d:Nat×Nat} (hd:y.dim=some d):x.dim=some d:=by
 cases h with
 |none=>cases hd
 |box=>cases hd
 |arr=>exact hd
 |aO=>exact hd
 |it=>cases hd
theorem Ow.bP {C:Bool->Bool->Bool->Bool->Prop} {m:Nat->Option Nat} {nil:Nat->Prop} {x y:O} (h:Ow C m nil x y) (hy:y.bP=true):x.bP=true/\x.oz=y.oz:=by
 cases h with
 |none=>cases hy
 |box=>exact ⟨rfl,rfl⟩
 |arr=>exact ⟨hy,rfl⟩
 |aO=>exact ⟨rfl,rfl⟩
 |it=>exact ⟨rfl,rfl⟩
theorem Ow.inner {C:Bool->Bool->Bool->Bool->Prop} {m:Nat->Option Nat} {nil:Nat->Prop} {x y:O} (h:Ow C m nil x y) {i:Bool} (hy:y.inner=some i) :∃a' a i',C a' i' a i/\x.inner=some i':=by
 cases h with
 |none=>cases hy
 |box=>cases hy
 |arr fz sz l hc=>
  cases fz with
  |false=>cases hy;exact ⟨_,_,_,hc,rfl⟩
  |true=>cases hy
 |aO sz aj l hc=>cases hy;exact ⟨_,_,_,hc,rfl⟩
 |it=>cases hy
structure Cast (C:Bool->Bool->Bool->Bool->Prop) (m:Nat->Option Nat) (nil:Nat->Prop) (E E':Env) (st st':St) (gh bM:Nat->Gh) (w:World):Prop where
 ok :∀a i a' i' b,C a i a' i'->E.ok st gh w a i b->E'.ok st' bM w a' i' b
 arr :∀g g',m g'=some g->∀sz len,(st'.o g').dim=some (sz,len)->((bM g').ad=(gh g).ad/\(bM g').cap=(gh g).cap)/\(st.o g).dim=some (sz,len)
 box :∀g g',m g'=some g->∀ws,st'.o g'=.box ws->(bM g').ad=(gh g).ad/\∃ws',st.o g=.box ws'
 it :∀g g',m g'=some g->∀s n,st'.o g'=.it s n->(bM g').ad=(gh g).ad/\∃s' n',st.o g=.it s' n'
 nil :∀g',nil g'->m g'=none->∀sz len,(st'.o g').dim=some (sz,len)->len=0/\(bM g').ad=none/\(bM g').cap=0
section
variable {C:Bool->Bool->Bool->Bool->Prop} {E E':Env} {st st':St} {gh bM:Nat->Gh} {w:World} {val:Nat->Value} {m:Nat->Option Nat} {nil:Nat->Prop}
theorem Cast.kP (r:Cast C m nil E E' st st' gh bM w) {a i a' i':Bool} (hc:C a i a' i') {x:P} {v:Value} (h:dh w (E.ok st gh w a i) x v):dh w (E'.ok st' bM w a' i') x v:=
 h.mono fun b hb=>⟨r.ok _ _ _ _ b hc hb,rfl⟩
theorem Cast.zT (r:Cast C m nil E E' st st' gh bM w) {x y:W} (hxy:Ww C m nil x y) {v:Value} (h:fF E st gh w x v):fF E' st' bM w y v:=by
 induction hxy generalizing v with
 |no x=>exact .no v
 |p x hc=>cases h with | p _ _ _ _ h=>exact .p _ _ _ _ (r.kP hc h)
 |flat x hx=>cases h with | p _ _ _ _ h=>exact .p _ _ _ _ (h.flat hx)
 |dF=>cases h;exact .dF
 |aiZ a i sz=>cases h;exact .p _ _ _ _ (.nil _ _ _)
 |alB hm hn=>
  cases h;refine .own _ _ rfl fun sz len ho => ?_;obtain ⟨h1,h2,h3⟩:=r.nil _ hn hm _ _ ho;rw [h1,h2,h3]
 |own hm=>
  cases h with | own _ _ hv hx=>
  refine .own _ _ hv fun sz len ho => ?_;obtain ⟨hg,e⟩:=r.arr _ _ hm _ _ ho;rw [hg.1,hg.2];exact hx _ _ e
 |vw lo hi hm=>
  cases h with | vw _ _ _ _ hv hx=>
  refine .vw _ _ _ _ hv fun sz len ho => ?_;obtain ⟨hg,e⟩:=r.arr _ _ hm _ _ ho;rw [hg.1,hg.2];exact hx _ _ e
 |box hm=>
  cases h with | box _ _ _ hv hx=>
  refine .box _ _ _ hv fun ws ho => ?_;obtain ⟨hg,ws',e⟩:=r.box _ _ hm _ ho;rw [hg];exact hx _ e
 |ep n off hm=>
  cases h with | ep _ _ _ _ hv hx=>
  refine .ep _ _ _ _ hv fun sz len ho => ?_;obtain ⟨hg,e⟩:=r.arr _ _ hm _ _ ho;rw [hg.1];exact hx _ _ e
 |ni hm=>
  cases h with | ni _ _ hv hx=>
  refine .ni _ _ hv fun s n ho => ?_;obtain ⟨hg,s',n',e⟩:=r.it _ _ hm _ _ ho;rw [hg];exact hx _ _ e
 |sp row off hc=>
  cases h with | sp _ _ _ _ b o hb hr=>exact .sp _ _ _ _ b o (fun h0=>r.ok _ _ _ _ b hc (hb h0)) fun j y hj=>let ⟨u,hu,Qv⟩:=hr j y hj;⟨u,hu,r.kP hc Qv⟩
 |gd b hxy ih=>cases h with | gd _ _ _ h=>exact .gd _ _ _ fun hb=>ih (h hb)
 |clo f xs ys hl hxy ih=>
  cases h with | clo _ _ vs hl' h=>
  exact .clo f ys vs (by omega) fun j y v hy hv=>by
   have hlt:j<xs.length:=by have:=(Q3.1 hy).1;omega
   exact ih j _ y (Q2 hlt) hy (h j _ v (Q2 hlt) hv)
theorem Cast.YW (r:Cast C m nil E E' st st' gh bM w) {x y:V} (hxy:Vw C m nil x y) {v:Value} (h:qX E st gh w x v):qX E' st' bM w y v:=by
 cases hxy with
 |one hxy=>cases h with | one _ _ h=>exact .one _ _ (r.zT hxy h)
 |agg xs ys hl hxy=>
  cases h with | agg _ cs hl' hv h=>
  exact .agg ys cs (by omega) hv fun j y v hy hv=>by
   have hlt:j<xs.length:=by have:=(Q3.1 hy).1;omega
   exact r.zT (hxy j _ y (Q2 hlt) hy) (h j _ v (Q2 hlt) hv)
theorem Cast.ae2 (r:Cast C m nil E E' st st' gh bM w) {x y:S} (hxy:Sw C m nil x y) {v:Value} (h:dL E st gh w x v):dL E' st' bM w y v:=by
 cases hxy with
 |no x=>exact .no v
 |v hxy=>cases h with | v _ _ h=>exact .v _ _ (r.YW hxy h)
 |jq xs ys hl hxy=>
  cases h with | jq _ vs hl' h=>
  exact .jq ys vs (by omega) fun j y v hy hv=>by
   have hlt:j<xs.length:=by have:=(Q3.1 hy).1;omega
   exact r.YW (hxy j _ y (Q2 hlt) hy) (h j _ v (Q2 hlt) hv)
theorem Cast.Bq (r:Cast C m nil E E' st st' gh bM w) {x y:O} (hxy:Ow C m nil x y) {G:Gh} (h:lX E st gh w x G):lX E' st' bM w y G:=by
 cases hxy with
 |none x=>trivial
 |box xs ys hl hxy=>
  obtain ⟨ad,c,e,h1,h2,h3,h4,h5⟩:=h;refine ⟨ad,c,e,h1,h2,h3,by omega,fun j y hy => ?_⟩;have hlt:j<xs.length:=by have:=(Q3.1 hy).1;omega
  obtain ⟨v,hv,ho,hr⟩:=h5 j _ (Q2 hlt);exact ⟨v,hv,ho,r.zT (hxy j _ y (Q2 hlt) hy) hr⟩
 |arr fz sz l hc=>
  cases fz with
  |false=>
   rcases h with hO | ⟨ad,c,e,h1,h2,h3,h4,h5,h6,h7⟩
   .exact .inl hO
   .exact .inr ⟨ad,c,e,h1,h2,h3,h4,h5,h6,fun n x hx j y hy=>let ⟨v,hv,hr⟩:=h7 n x hx j y hy;⟨v,hv,r.kP hc hr⟩⟩
  |true=>exact r.kP hc h
 |aO sz aj l hc=>
  rcases h with hO | ⟨ad,c,e,h1,h2,h3,h4,h5,h6,h7,h8⟩
  .exact .inl hO
  .refine .inr ⟨ad,c,e,h1,h2,h3,h4,h5,h6,h7,fun n x hx j y hy => ?_⟩;obtain ⟨v,hv,hr⟩:=h8 n x hx j y hy;refine ⟨v,hv,?_⟩;unfold iQ at *;cases hcl:aj.lookup j with
   |none=>rw [hcl] at hr;exact r.kP hc hr
   |some sz'=>
    rw [hcl] at hr;simp only [iq] at *;obtain ⟨l',ao,k,k1,k2,k3,k4⟩:=hr;refine ⟨l',ao,k,k1,k2,?_,k4⟩;rcases k3 with k3 | ⟨ad,c,e,h1,h2,h3,h4,h5,h6,h7⟩
    .exact .inl k3
    .exact .inr ⟨ad,c,e,h1,h2,h3,h4,h5,h6,fun n x hx j y hy=>let ⟨v,hv,hr⟩:=h7 n x hx j y hy;⟨v,hv,r.kP hc hr⟩⟩
 |it s n=>exact h
end
def Cle (a i a' i':Bool):Prop:=(a=true->a'=true)/\(i=true->i'=true)
structure sK (C:Bool->Bool->Bool->Bool->Prop) (m:Nat->Option Nat) (st st':St):Prop where
 slots :∀t,Sw C m (fun g=>(st'.o g).nilA) (st.s t) (st'.s t)
 bf :∀g' g,m g'=some g->Ow C m (fun g=>(st'.o g).nilA) (st.o g) (st'.o g')
 aV :∀g',m g'=none->st'.o g'=.none\/(st'.o g').nilA
 inj :∀g1 g2 g,(st'.o g1).bP=true->(st'.o g2).bP=true->m g1=some g->m g2=some g->g1=g2
 us :∀t,∀g∈(st'.s t).names,st'.used g=true
 uo :∀g,∀g'∈(st'.o g).names,st'.used g'=true
 ul :∀g,st'.o g≠.none->st'.used g=true
section
variable {C:Bool->Bool->Bool->Bool->Prop} {E E':Env} {st st':St} {gh:Nat->Gh} {w:World} {val:Nat->Value} {m:Nat->Option Nat}
def jV (gh:Nat->Gh) (m:Nat->Option Nat):Nat->Gh:=fun g'=>match m g' with
 |some g=>gh g
 |none=>Gh.nil
theorem sK.bP (r:sK C m st st') {g':Nat} (h:(st'.o g').bP=true) {b:Nat} (had:(jV gh m g').has b) :∃g,m g'=some g/\(st.o g).bP=true/\(gh g).has b:=by
 unfold jV at had;cases hm:m g' with
 |none=>rw [hm] at had;exact (Gh.not_nil had).elim
 |some g=>
  rw [hm] at had;exact ⟨g,rfl,((r.bf g' g hm).bP h).1,had⟩
theorem sK.cast (r:sK C m st st') (hok :∀a i a' i' b,C a i a' i'->E.ok st gh w a i b->E'.ok st' (jV gh m) w a' i' b) :
  Cast C m (fun g=>(st'.o g).nilA) E E' st st' gh (jV gh m) w:=by
 refine ⟨hok,fun g g' hm sz len ho=>⟨by simp [jV,hm],(r.bf g' g hm).dim ho⟩,fun g g' hm ws ho=>⟨by simp [jV,hm],?_⟩,fun g g' hm s n ho=>⟨by simp [jV,hm],?_⟩,fun g' hn hm sz len ho=>⟨?_,by simp [jV,hm,Gh.nil],by simp [jV,hm,Gh.nil]⟩⟩
 .have:=r.bf g' g hm;rw [ho] at this;generalize st.o g=x at this;cases this;exact ⟨_,rfl⟩
 .have:=r.bf g' g hm;rw [ho] at this;generalize st.o g=x at this;cases this;exact ⟨_,_,rfl⟩
 .rcases hn with ⟨a',i',sz',hn⟩ | ⟨a',i',sz',aj,hn⟩
  .rw [hn] at ho;cases ho;rfl
  .rw [hn] at ho;cases ho;rfl
theorem sK.ok (r:sK Cle m st st') :∀a i a' i' b,Cle a i a' i'->E.ok st gh w a i b->E.ok st' (jV gh m) w a' i' b:=by
 intro a i a' i' b hc h;have:=Env.pq hc.1 hc.2 h;refine ⟨this.1,this.2.1,fun g' ho had => ?_⟩;obtain ⟨g,_,h1,h2⟩:=r.bP ho had;exact h.2.2 g h1 h2
theorem sK.Bq (r:sK C m st st') (c:Cast C m (fun g=>(st'.o g).nilA) E E' st st' gh (jV gh m) w) (h :∀g,lX E st gh w (st.o g) (gh g)) (g':Nat):lX E' st' (jV gh m) w (st'.o g') (jV gh m g'):=by
 cases hm:m g' with
 |none=>
  rcases r.aV g' hm with e | ⟨a,i,sz,e⟩ | ⟨a,i,sz,aj,e⟩
  .rw [e];trivial
  .rw [e];exact .inl ⟨by simp [jV,hm,Gh.nil],by simp [jV,hm,Gh.nil],rfl⟩
  .rw [e];exact .inl ⟨by simp [jV,hm,Gh.nil],by simp [jV,hm,Gh.nil],rfl,fun b=>by simp [jV,hm,Gh.nil]⟩
 |some g=>
  have hg:jV gh m g'=gh g:=by simp [jV,hm]
  rw [hg];exact c.Bq (r.bf g' g hm) (h g)
theorem Rel.abp (h:Rel E st gh val w) (r:sK Cle m st st'):Rel E st' (jV gh m) val w:=by
 have c:=r.cast (E:=E) (E':=E) (gh:=gh) (w:=w) r.ok;refine ⟨fun t=>c.ae2 (r.slots t) (h.slots t),r.Bq c h.bf,fun g1 g2 b h1 h2 k1 k2 => ?_,fun g' b ho had => ?_,fun g' i b ho had hw => ?_,fun g' ho hd b => ?_,h.wb,h.frame,h.size,h.os,h.tape,h.output,r.us,r.uo,r.ul⟩
 .obtain ⟨q1,m1,o1,d1⟩:=r.bP h1 k1;obtain ⟨q2,m2,o2,d2⟩:=r.bP h2 k2;have:=h.inj q1 q2 b o1 o2 d1 d2;subst this;exact r.inj g1 g2 q1 h1 h2 m1 m2
 .obtain ⟨g,_,h1,h2⟩:=r.bP ho had;exact h.wr g b h1 h2
 .obtain ⟨g,hm,h1,h2⟩:=r.bP (gh:=gh) (g':=g') (O.kV ho) had;obtain ⟨a',a,i',hc,q⟩:=(r.bf g' g hm).inner ho;exact hc.2 (h.wi g i' b q h2 hw)
 .cases hm:m g' with
  |none=>simp [jV,hm,Gh.nil]
  |some g=>
   have hg:jV gh m g'=gh g:=by simp [jV,hm]
   rw [hg];obtain ⟨q1,q2⟩:=(r.bf g' g hm).bP ho;exact h.ns g q1 (by rw [q2];exact hd) b
end
end Go.Fw

namespace Go.Fw
variable [eX]
inductive WS where
 |p (a i:Bool)
 |dF
 |own (g:Nat)
 |box (g off:Nat)
 |fn (f:FuncId) (gs:List Nat)
 |ni (g:Nat)
 |no
 |vw (g:Nat)
 |ep (g off:Nat)
inductive SS where
 |one (x:WS)
 |agg (xs:List WS)
inductive OS where
 |box (ws:List WS)
 |arr (fz a i:Bool) (sz:Nat)
 |it
 |aO (a i:Bool) (sz:Nat) (aj:List (Nat×Nat))
structure Shape where
 slots:List (Nat×SS)
 bf:List (Nat×OS)
abbrev Ren:=List (Nat×Option Nat)
def imp (a b:Bool):Bool:=!a||b
def nodupB:List Nat->Bool
 | []=>true
 |x::xs=>!xs.contains x&&nodupB xs
def sN (m:Ren):List Nat->List W->Bool
 | [],[]=>true
 |g'::gs,.box g off::cs=>decide (m.lookup g'=some (some g))&&(Nat.beq off 0&&sN m gs cs)
 |_,_=>false
def gV:List Nat->List W
 | []=>[]
 |g::gs=>.box g 0::gV gs
def KE (m:Ren):WS->W->Option (List P)
 |.p a i,.p a' i' x=>if ((imp a' a&&imp i' i)||x.flat)=true then some [x] else none
 |.p _ _,.dF=>some [.sl 0 []]
 |.dF,.dF=>some []
 |.own g',.own g=>if m.lookup g'=some (some g) then some [] else none
 |.own g',.dF=>if m.lookup g'=some none then some [] else none
 |.box g' off,.box g off'=>if m.lookup g'=some (some g)/\off=off' then some [] else none
 |.fn f gs,.clo f' caps=>if f=f'/\sN m gs caps=true then some [] else none
 |.ni g',.ni g=>if m.lookup g'=some (some g) then some [] else none
 |.no,_=>some []
 |.vw g',.vw g lo hi=>if m.lookup g'=some (some g) then some [lo,hi] else none
 |.ep g' off,.ep g n off'=>if m.lookup g'=some (some g)/\off=off' then some [n] else none
 |_,_=>none
def KR (m:Ren):List WS->List W->Option (List P)
 | [],[]=>some []
 |k::ks,x::xs=>match KE m k x,KR m ks xs with
  |some u,some v=>some (u++v)
  |_,_=>none
 |_,_=>none
def coS (m:Ren):SS->S->Option (List P)
 |.one k,.v (.one x)=>KE m k x
 |.agg ks,.v (.agg xs)=>KR m ks xs
 |_,_=>none
def coO (m:Ren):OS->O->Option (List P)
 |.box ks,.box xs=>KR m ks xs
 |.arr fz a i sz,.arr fz' a' i' sz' l=>if fz=fz'/\sz=sz'/\(imp a' a&&imp i' i)=true then some [P.gq sz l] else none
 |.it,.it s n=>some [s,n]
 |.aO a i sz aj,.aO a' i' sz' kJ l Option.none=>if sz=sz'/\aj=kJ/\(imp a' a&&imp i' i)=true then some [P.gq sz l] else none
 |_,_=>none
def rG (m:Ren) (s:Nat->S):List (Nat×SS)->Option (List P)
 | []=>some []
 |(t,k)::rest=>match coS m k (s t),rG m s rest with
  |some u,some v=>some (u++v)
  |_,_=>none
def vO (m:Ren) (o:Nat->O):List (Nat×OS)->Option (List P)
 | []=>some []
 |(g',k)::rest=>match (match m.lookup g' with
   |some (some g)=>coO m k (o g)
   |some none=>(match k with
    |.arr false _ _ _=>some [.sl 0 []]
    |.aO _ _ _ _=>some [.sl 0 []]
    |_=>none)
   |none=>none),vO m o rest with
  |some u,some v=>some (u++v)
  |_,_=>none
def WS.names:WS->List Nat
 |.own g | .box g _ | .ni g | .vw g | .ep g _=>[g]
 |.fn _ gs=>gs
 |_=>[]
def SS.names:SS->List Nat
 |.one x=>x.names
 |.agg xs=>xs.flatMap WS.names
def OS.names:OS->List Nat
 |.box ws=>ws.flatMap WS.names
 |_=>[]
def Shape.nms (j:Shape):List Nat:=j.bf.map (·.1)
def Shape.ok (j:Shape):Bool:=nodupB j.nms&&j.slots.all (fun p=>p.2.names.all fun g=>j.nms.contains g)&&j.bf.all (fun p=>p.2.names.all fun g=>j.nms.contains g)
def ahz (j:Shape) (m:Ren):Bool:=nodupB (j.nms.filterMap fun g=>(m.lookup g).join)
def coerce (j:Shape) (m:Ren) (st:St):Option (List P):=
 if (j.ok&&ahz j m)=true then match rG m st.s j.slots,vO m st.o j.bf with
  |some u,some v=>some (u++v)
  |_,_=>none
 else none
def qm (vs:List P) (n:Nat):WS->W×Nat
 |.p a i=>(.p a i (vs.getD n default),n+1)
 |.dF=>(.dF,n)
 |.own g=>(.own g,n)
 |.box g off=>(.box g off,n)
 |.fn f gs=>(.clo f (gV gs),n)
 |.ni g=>(.ni g,n)
 |.no=>(.no,n)
 |.vw g=>(.vw g (vs.getD n default) (vs.getD (n+1) default),n+2)
 |.ep g off=>(.ep g (vs.getD n default) off,n+1)
def kY (vs:List P):Nat->List WS->List W×Nat
 |n,[]=>([],n)
 |n,k::ks=>((qm vs n k).1::(kY vs (qm vs n k).2 ks).1,(kY vs (qm vs n k).2 ks).2)
def mkS (vs:List P) (n:Nat):SS->S×Nat
 |.one k=>(.v (.one (qm vs n k).1),(qm vs n k).2)
 |.agg ks=>(.v (.agg (kY vs n ks).1),(kY vs n ks).2)
def tV (vs:List P) (n:Nat):OS->O×Nat
 |.box ks=>(.box (kY vs n ks).1,(kY vs n ks).2)
 |.arr fz a i sz=>(.arr fz a i sz (vs.getD n default).list,n+1)
 |.it=>(.it (vs.getD n default) (vs.getD (n+1) default),n+2)
 |.aO a i sz aj=>(.aO a i sz aj (vs.getD n default).list Option.none,n+1)
def dI (vs:List P):Nat->List (Nat×SS)->List (Nat×S)×Nat
 |n,[]=>([],n)
 |n,(t,k)::rest=>((t,(mkS vs n k).1)::(dI vs (mkS vs n k).2 rest).1,(dI vs (mkS vs n k).2 rest).2)
def gW (vs:List P):Nat->List (Nat×OS)->List (Nat×O)×Nat
 |n,[]=>([],n)
 |n,(g,k)::rest=>((g,(tV vs n k).1)::(gW vs (tV vs n k).2 rest).1,(gW vs (tV vs n k).2 rest).2)
def mk (j:Shape) (vs:List P):St:=
 { s:=fun t=>match (dI vs 0 j.slots).1.lookup t with | some x=>x | none=>.no,o:=fun g=>match (gW vs (dI vs 0 j.slots).2 j.bf).1.lookup g with | some x=>x | none=>.none,used:=fun g=>j.nms.contains g }
def IC (j:Shape) (m:Ren) (g':Nat):Option Nat:=if j.nms.contains g' then (m.lookup g').join else none
def At (vs:List P) (n:Nat) (us:List P):Prop :=∀k y,us[k]?=some y->vs[n+k]?=some y
theorem At.left {vs us1 us2:List P} {n:Nat} (h:At vs n (us1++us2)):At vs n us1:=fun k y hk=>h k y (by rw [W8 (Q3.1 hk).1];exact hk)
theorem At.right {vs us1 us2:List P} {n:Nat} (h:At vs n (us1++us2)):At vs (n+us1.length) us2:=fun k y hk=>by
 have:=h (us1.length+k) y (by rw [W5 (by omega),KM];exact hk);rw [<-this];congr 1;omega
theorem At.head {vs:List P} {n:Nat} {x:P} (h:At vs n [x]):vs.getD n default=x:=by
 have:=h 0 x rfl;rw [List.getD_eq_getElem?_getD];rw [Up] at this;rw [this];rfl
theorem tX {a b:Bool} (h:imp a b=true):a=true->b=true:=by
 cases a<;>cases b<;>simp_all [imp]
section
variable {vs:List P} {m:Ren} {F:Nat->Option Nat} {nil:Nat->Prop}
theorem vP :∀(gs:List Nat),(gV gs).flatMap W.names=gs
 | []=>rfl
 |g::gs=>by simp [gV,W.names,vP gs]
theorem tY (f:FuncId) (caps:List W):(W.clo f caps).names=caps.flatMap W.names:=by
 have :∀(l:List W) (q :∀x∈l,x∈caps),(l.attach.flatMap fun (x:{x // x∈l})=>x.1.names)=l.flatMap W.names:=fun l _=>by
  rw [List.flatMap_def,List.flatMap_def,List.map_attach_eq_pmap,List.pmap_eq_map]
 rw [W.names];exact this caps fun x hx=>hx
theorem LG :∀{gs:List Nat} {caps:List W},(∀g∈gs,F g=(m.lookup g).join)->sN m gs caps=true->caps.length=(gV gs).length/\∀(j:Nat) x y,caps[j]?=some x->(gV gs)[j]?=some y->Ww Cle F nil x y
 | [],[],_,_=>⟨rfl,fun j x y hx=>by simp at hx⟩
 | [],_::_,_,h=>by simp [sN] at h
 |_::_,[],_,h=>by simp [sN] at h
 |g'::gs,c::cs,hF,h=>by
  cases c with
  |box g off=>
   simp only [sN,Qt,decide_eq_true_eq] at h;obtain ⟨h1,h2,h3⟩:=h;have h2:=Q4 h2;subst h2;obtain ⟨e1,e2⟩:=LG (fun g hg=>hF g (by simp [hg])) h3;refine ⟨by simp [gV,e1],fun j x y hx hy => ?_⟩;cases j with
   |zero=>
    simp [gV] at hx hy;subst hx hy;exact .box (by rw [hF g' (by simp),h1];rfl)
   |succ j=>simp [gV] at hx hy;exact e2 j x y hx hy
  |_=>simp [sN] at h
theorem abr {k:WS} {x:W} {us:List P} {n:Nat} (hF :∀g∈k.names,F g=(m.lookup g).join) (hnil :∀g∈k.names,m.lookup g=some none->nil g) (h:KE m k x=some us) (ha:At vs n us) :
  Ww Cle F nil x (qm vs n k).1/\(qm vs n k).2=n+us.length/\(qm vs n k).1.names=k.names:=by
 cases k with
 |p a i=>
  cases x with
  |p a' i' y=>
   simp only [KE] at h;split at h
   .rename_i hc;simp only [Q0] at h;subst h;simp only [Jx,Qt] at hc;refine ⟨?_,rfl,by simp [qm,W.names,WS.names]⟩;simp only [qm,ha.head];rcases hc with hc | hc
    .exact .p y ⟨tX hc.1,tX hc.2⟩
    .exact .flat y hc
   .cases h
  |dF=>
   simp only [KE,Q0] at h;subst h;refine ⟨?_,rfl,by simp [qm,W.names,WS.names]⟩;simp only [qm,ha.head];exact .aiZ _ _ _
  |_=>simp [KE] at h
 |dF=>cases x<;>simp [KE] at h;subst h;exact ⟨.dF,rfl,by simp [qm,W.names,WS.names]⟩
 |own g'=>
  cases x with
  |own g=>
   simp only [KE] at h;split at h
   .rename_i hc;simp only [Q0] at h;subst h;exact ⟨.own (by rw [hF g' (by simp [WS.names]),hc];rfl),rfl,by simp [qm,W.names,WS.names]⟩
   .cases h
  |dF=>
   simp only [KE] at h;split at h
   .rename_i hc;simp only [Q0] at h;subst h;exact ⟨.alB (by rw [hF g' (by simp [WS.names]),hc];rfl) (hnil g' (by simp [WS.names]) hc),rfl,by simp [qm,W.names,WS.names]⟩
   .cases h
  |_=>simp [KE] at h
 |box g' off=>
  cases x with
  |box g off'=>
   simp only [KE] at h;split at h
   .rename_i hc;simp only [Q0] at h;subst h;obtain ⟨hc,rfl⟩:=hc;exact ⟨.box (by rw [hF g' (by simp [WS.names]),hc];rfl),rfl,by simp [qm,W.names,WS.names]⟩
   .cases h
  |_=>simp [KE] at h
 |fn f gs=>
  cases x with
  |clo f' caps=>
   simp only [KE] at h;split at h
   .rename_i hc;simp only [Q0] at h;subst h;obtain ⟨rfl,hc⟩:=hc;obtain ⟨e1,e2⟩:=LG (nil:=nil) hF hc;exact ⟨.clo f caps (gV gs) e1 e2,rfl,by simp only [qm,tY,vP,WS.names]⟩
   .cases h
  |_=>simp [KE] at h
 |ni g'=>
  cases x with
  |ni g=>
   simp only [KE] at h;split at h
   .rename_i hc;simp only [Q0] at h;subst h;exact ⟨.ni (by rw [hF g' (by simp [WS.names]),hc];rfl),rfl,by simp [qm,W.names,WS.names]⟩
   .cases h
  |_=>simp [KE] at h
 |no=>simp [KE] at h;subst h;exact ⟨.no _,rfl,by simp [qm,W.names,WS.names]⟩
 |vw g'=>
  cases x with
  |vw g lo hi=>
   simp only [KE] at h;split at h
   .rename_i hc;simp only [Q0] at h;subst h;have h0:vs.getD n default=lo:=At.head (At.left (us1:=[lo]) (us2:=[hi]) ha);have h1:vs.getD (n+1) default=hi:=At.head (At.right (us1:=[lo]) (us2:=[hi]) ha);refine ⟨?_,rfl,by simp [qm,W.names,WS.names]⟩;simp only [qm,h0,h1];exact .vw lo hi (by rw [hF g' (by simp [WS.names]),hc];rfl)
   .cases h
  |_=>simp [KE] at h
 |ep g' off=>
  cases x with
  |ep g q off'=>
   simp only [KE] at h;split at h
   .rename_i hc;simp only [Q0] at h;subst h;obtain ⟨hc,rfl⟩:=hc;refine ⟨?_,rfl,by simp [qm,W.names,WS.names]⟩;simp only [qm,ha.head];exact .ep q off (by rw [hF g' (by simp [WS.names]),hc];rfl)
   .cases h
  |_=>simp [KE] at h
theorem Oe :∀{ks:List WS} {xs:List W} {us:List P} {n:Nat},(∀k∈ks,∀g∈k.names,F g=(m.lookup g).join)->(∀k∈ks,∀g∈k.names,m.lookup g=some none->nil g)->KR m ks xs=some us->At vs n us->
  xs.length=(kY vs n ks).1.length/\(∀(j:Nat) x y,xs[j]?=some x->(kY vs n ks).1[j]?=some y->Ww Cle F nil x y)/\(kY vs n ks).2=n+us.length/\(kY vs n ks).1.flatMap W.names=ks.flatMap WS.names
 | [],xs,us,n,hF,hn,h,ha=>by
  cases xs with
  |nil=>simp [KR] at h;subst h;exact ⟨rfl,fun j x y hx=>by simp at hx,rfl,rfl⟩
  |cons x xs=>simp [KR] at h
 |k::ks,xs,us,n,hF,hn,h,ha=>by
  cases xs with
  |nil=>simp [KR] at h
  |cons x xs=>
   simp only [KR] at h;split at h
   .rename_i u v hu hv;simp only [Q0] at h;subst h;obtain ⟨a1,a2,a3⟩:=abr (hF k (by simp)) (hn k (by simp)) hu ha.left;have ih:=Oe (n:=n+u.length) (fun k hk=>hF k (by simp [hk])) (fun k hk=>hn k (by simp [hk])) hv ha.right;simp only [kY,a2];refine ⟨by simp [ih.1],fun j x' y' hx hy => ?_,by rw [ih.2.2.1];simp;omega,by simp [a3,ih.2.2.2]⟩;cases j with
    |zero=>simp at hx hy;subst hx hy;exact a1
    |succ j=>simp at hx hy;exact ih.2.1 j x' y' hx hy
   .cases h
theorem ai0 {k:SS} {x:S} {us:List P} {n:Nat} (hF :∀g∈k.names,F g=(m.lookup g).join) (hnil :∀g∈k.names,m.lookup g=some none->nil g) (h:coS m k x=some us) (ha:At vs n us) :
  Sw Cle F nil x (mkS vs n k).1/\(mkS vs n k).2=n+us.length/\(mkS vs n k).1.names=k.names:=by
 cases k with
 |one k=>
  cases x with
  |v x=>
   cases x with
   |one x=>
    obtain ⟨a1,a2,a3⟩:=abr hF hnil h ha;exact ⟨.v (.one a1),a2,by simpa [mkS,S.names,V.names,SS.names] using a3⟩
   |agg xs=>simp [coS] at h
  |_=>simp [coS] at h
 |agg ks=>
  cases x with
  |v x=>
   cases x with
   |one x=>simp [coS] at h
   |agg xs=>
    obtain ⟨a0,a1,a2,a3⟩:=Oe (fun k hk g hg=>hF g (by simp only [SS.names,Z0];exact ⟨k,hk,hg⟩)) (fun k hk g hg=>hnil g (by simp only [SS.names,Z0];exact ⟨k,hk,hg⟩)) h ha;exact ⟨.v (.agg _ _ a0 a1),a2,by simpa [mkS,S.names,V.names,SS.names] using a3⟩
  |_=>simp [coS] at h
theorem IE {s:Nat->S} :∀{L:List (Nat×SS)} {us:List P} {n:Nat},(∀p∈L,∀g∈p.2.names,F g=(m.lookup g).join)->(∀p∈L,∀g∈p.2.names,m.lookup g=some none->nil g)->rG m s L=some us->At vs n us->
  (∀t x,(dI vs n L).1.lookup t=some x->Sw Cle F nil (s t) x/\∀g∈x.names,∃p∈L,g∈p.2.names)/\(dI vs n L).2=n+us.length
 | [],us,n,hF,hn,h,ha=>by simp [rG] at h;subst h;exact ⟨fun t x hx=>by simp [dI] at hx,rfl⟩
 |(t0,k)::L,us,n,hF,hn,h,ha=>by
  simp only [rG] at h;split at h
  .rename_i u v hu hv;simp only [Q0] at h;subst h;obtain ⟨a1,a2,a3⟩:=ai0 (hF (t0,k) (by simp)) (hn (t0,k) (by simp)) hu ha.left;have ih:=IE (n:=n+u.length) (fun p hp=>hF p (by simp [hp])) (fun p hp=>hn p (by simp [hp])) hv ha.right;simp only [dI,a2];refine ⟨fun t x hx => ?_,by rw [ih.2];simp;omega⟩;simp only [List.lookup] at hx;split at hx
   .rename_i he;have he:t=t0:=by simpa using he
    subst he;simp only [Q0] at hx;subst hx;exact ⟨a1,fun g hg=>⟨(t,k),by simp,by rw [a3] at hg;exact hg⟩⟩
   .obtain ⟨b1,b2⟩:=ih.1 t x hx;exact ⟨b1,fun g hg=>let ⟨p,hp,hg⟩:=b2 g hg;⟨p,by simp [hp],hg⟩⟩
  .cases h
theorem ai1 {k:OS} {x:O} {us:List P} {n:Nat} (hF :∀g∈k.names,F g=(m.lookup g).join) (hnil :∀g∈k.names,m.lookup g=some none->nil g) (h:coO m k x=some us) (ha:At vs n us) :
  Ow Cle F nil x (tV vs n k).1/\(tV vs n k).2=n+us.length/\(tV vs n k).1.names=k.names:=by
 cases k with
 |box ks=>
  cases x with
  |box xs=>
   obtain ⟨a0,a1,a2,a3⟩:=Oe (fun k hk g hg=>hF g (by simp only [OS.names,Z0];exact ⟨k,hk,hg⟩)) (fun k hk g hg=>hnil g (by simp only [OS.names,Z0];exact ⟨k,hk,hg⟩)) h ha;exact ⟨.box _ _ a0 a1,a2,by simpa [tV,O.names,OS.names] using a3⟩
  |_=>simp [coO] at h
 |arr fz a i sz=>
  cases x with
  |arr fz' a' i' sz' l=>
   simp only [coO] at h;split at h
   .rename_i hc;simp only [Q0] at h;subst h;obtain ⟨rfl,rfl,hc⟩:=hc;simp only [Qt] at hc;refine ⟨?_,rfl,rfl⟩;simp only [tV,ha.head,P.oC];exact .arr fz sz l ⟨tX hc.1,tX hc.2⟩
   .cases h
  |_=>simp [coO] at h
 |it=>
  cases x with
  |it s p=>
   simp only [coO,Q0] at h;subst h;refine ⟨?_,rfl,rfl⟩;have h0:vs.getD n default=s:=At.head (At.left (us1:=[s]) (us2:=[p]) ha);have h1:vs.getD (n+1) default=p:=At.head (At.right (us1:=[s]) (us2:=[p]) ha);simp only [tV,h0,h1];exact .it s p
  |_=>simp [coO] at h
 |aO a i sz aj=>
  cases x with
  |aO a' i' sz' kJ l hole=>
   cases hole with
   |some q=>simp [coO] at h
   |none=>
    simp only [coO] at h;split at h
    .rename_i hc;simp only [Q0] at h;subst h;obtain ⟨rfl,rfl,hc⟩:=hc;simp only [Qt] at hc;refine ⟨?_,rfl,rfl⟩;simp only [tV,ha.head,P.oC];exact .aO sz aj l ⟨tX hc.1,tX hc.2⟩
    .cases h
  |_=>simp [coO] at h
end
theorem jB :∀{l:List Nat},nodupB l=true->l.Nodup
 | [],_=>List.nodup_nil
 |x::l,h=>by
  simp only [nodupB,Qt,Wf,Wl,decide_eq_false_iff_not] at h;exact UT.2 ⟨h.1,jB h.2⟩
theorem LH {vs:List P} {m:Ren} {F:Nat->Option Nat} {nil:Nat->Prop} {o:Nat->O} :∀{L:List (Nat×OS)} {us:List P} {n:Nat},(∀p∈L,∀g∈p.2.names,F g=(m.lookup g).join)->(∀p∈L,∀g∈p.2.names,m.lookup g=some none->nil g)->
  (L.map (·.1)).Nodup->vO m o L=some us->At vs n us->
  (∀g' x,(gW vs n L).1.lookup g'=some x->(g'∈L.map (·.1))/\(∀g∈x.names,∃p∈L,g∈p.2.names)/\((∃g,m.lookup g'=some (some g)/\Ow Cle F nil (o g) x)\/(m.lookup g'=some none/\x.nilA)))/\
  (∀g'∈L.map (·.1),∃x,(gW vs n L).1.lookup g'=some x)
 | [],us,n,hF,hn,hd,h,ha=>⟨fun g x hx=>by simp [gW] at hx,fun g hg=>by simp at hg⟩
 |(g0,k)::L,us,n,hF,hn,hd,h,ha=>by
  simp only [vO] at h;split at h
  .rename_i u v hu hv;simp only [Q0] at h;subst h;simp only [Qf,UT] at hd;have key:(tV vs n k).2=n+u.length/\(tV vs n k).1.names=k.names/\((∃g,m.lookup g0=some (some g)/\Ow Cle F nil (o g) (tV vs n k).1)\/(m.lookup g0=some none/\(tV vs n k).1.nilA)):=by
    split at hu
    .rename_i g hg;obtain ⟨a1,a2,a3⟩:=ai1 (hF (g0,k) (by simp)) (hn (g0,k) (by simp)) hu ha.left;exact ⟨a2,a3,.inl ⟨g,hg,a1⟩⟩
    .rename_i hg;split at hu
     .rename_i a i sz;simp only [Q0] at hu;subst hu;refine ⟨rfl,rfl,.inr ⟨hg,.inl ⟨a,i,sz,?_⟩⟩⟩;simp only [tV,ha.left.head];rfl
     .rename_i a i sz aj;simp only [Q0] at hu;subst hu;refine ⟨rfl,rfl,.inr ⟨hg,.inr ⟨a,i,sz,aj,?_⟩⟩⟩;simp only [tV,ha.left.head];rfl
     .cases hu
    .cases hu
   obtain ⟨a2,a3,a1⟩:=key;have ih:=LH (n:=n+u.length) (fun p hp=>hF p (by simp [hp])) (fun p hp=>hn p (by simp [hp])) hd.2 hv ha.right;simp only [gW,a2];refine ⟨fun g' x hx => ?_,fun g' hg' => ?_⟩
   .simp only [List.lookup] at hx;split at hx
    .rename_i he;have he:g'=g0:=by simpa using he
     subst he;simp only [Q0] at hx;subst hx;exact ⟨by simp,fun g hg=>⟨(g',k),by simp,by rw [a3] at hg;exact hg⟩,a1⟩
    .obtain ⟨b0,b1,b2⟩:=ih.1 g' x hx;exact ⟨by simp [b0],fun g hg=>let ⟨p,hp,hg⟩:=b1 g hg;⟨p,by simp [hp],hg⟩,b2⟩
   .simp only [List.lookup];by_cases he:g'=g0
    .subst he;simp
    .have:(g'==g0)=false:=by simpa using he
     rw [this];exact ih.2 g' (by simpa [he] using hg')
  .cases h
theorem zH {f:Nat->Option Nat} {g1 g2 g:Nat} :∀{L:List Nat},L.Nodup->(L.filterMap f).Nodup->g1∈L->g2∈L->f g1=some g->f g2=some g->g1=g2
 | [],_,_,n1,_,_,_=>by cases n1
 |y::L,hnd,iI,n1,n2,m1,m2=>by
  simp only [UT] at hnd;simp only [List.filterMap_cons] at iI;have hsub :∀{z},z∈L->f z=some g->g∈L.filterMap f:=fun hz he=>qa.2 ⟨_,hz,he⟩;rcases QQ.1 n1 with e1 | e1<;>rcases QQ.1 n2 with e2 | e2
  .rw [e1,e2]
  .subst e1;rw [m1] at iI;simp only [UT] at iI;exact absurd (hsub e2 m2) iI.1
  .subst e2;rw [m2] at iI;simp only [UT] at iI;exact absurd (hsub e1 m1) iI.1
  .refine zH hnd.2 ?_ e1 e2 m1 m2;split at iI
   .exact iI
   .exact (UT.1 iI).2
theorem zI {j:Shape} {m:Ren} {st:St} {vs:List P} (h:coerce j m st=some vs):sK Cle (IC j m) st (mk j vs):=by
 unfold coerce at h;split at h
 .rename_i hok;split at h
  .rename_i u v hu hv;simp only [Q0] at h;subst h;simp only [Qt,Shape.ok,XX,Wl,decide_eq_true_eq] at hok;obtain ⟨⟨⟨hnd,hsl⟩,hob⟩,iI⟩:=hok;have hnd':=jB hnd;have hAt:At (u++v) 0 (u++v):=fun k y hk=>by rw [Wm];exact hk
   have hF :∀g∈j.nms,IC j m g=(m.lookup g).join:=fun g hg=>by simp [IC,hg]
   have DN:=fun nil (hnil :∀p∈j.bf,∀g∈p.2.names,m.lookup g=some none->nil g)=>LH (vs:=u++v) (F:=IC j m) (nil:=nil) (n:=u.length) (fun p hp g hg=>hF g (hob p hp g hg)) hnil hnd' hv (by
    have:=hAt.right;rwa [Wm] at this)
   have sO:=fun nil (hnil :∀p∈j.slots,∀g∈p.2.names,m.lookup g=some none->nil g)=>IE (vs:=u++v) (F:=IC j m) (nil:=nil) (n:=0) (fun p hp g hg=>hF g (hsl p hp g hg)) hnil hu hAt.left;have hlen:(dI (u++v) 0 j.slots).2=u.length:=by have:=(sO (fun _=>True) (fun _ _ _ _ _=>trivial)).2;omega
   have hnil :∀g∈j.nms,m.lookup g=some none->((mk j (u++v)).o g).nilA:=by
    intro g hg hm;have hO:=DN (fun _=>True) (fun _ _ _ _ _=>trivial);obtain ⟨x,hx⟩:=hO.2 g hg;rcases (hO.1 g x hx).2.2 with ⟨g2,h2,_⟩ | ⟨_,e⟩
    .rw [hm] at h2;cases h2
    .show O.nilA (match (gW (u++v) (dI (u++v) 0 j.slots).2 j.bf).1.lookup g with | some x=>x | none=>.none);rw [hlen,hx];exact e
   have hO:=DN (fun g=>((mk j (u++v)).o g).nilA) (fun p hp g hg hm=>hnil g (hob p hp g hg) hm);have hS:=sO (fun g=>((mk j (u++v)).o g).nilA) (fun p hp g hg hm=>hnil g (hsl p hp g hg) hm);have zU :∀g x,(mk j (u++v)).o g=x->x≠.none->(gW (u++v) u.length j.bf).1.lookup g=some x:=by
    intro g x hx hne;have hx:(match (gW (u++v) (dI (u++v) 0 j.slots).2 j.bf).1.lookup g with | some x=>x | none=>.none)=x:=hx;rw [hlen] at hx;cases hz:(gW (u++v) u.length j.bf).1.lookup g with
    |none=>rw [hz] at hx;exact absurd hx.symm hne
    |some y=>rw [hz] at hx;rw [<-hx]
   refine ⟨fun t => ?_,fun g' g hm => ?_,fun g' hm => ?_,fun g1 g2 g h1 h2 m1 m2 => ?_,fun t g hg => ?_,fun g0 g hg => ?_,fun g hg => ?_⟩
   .show Sw _ _ _ (st.s t) (match (dI (u++v) 0 j.slots).1.lookup t with | some x=>x | none=>.no);cases hx:(dI (u++v) 0 j.slots).1.lookup t with
    |none=>exact .no _
    |some x=>exact (hS.1 t x hx).1
   .by_cases hne:(mk j (u++v)).o g'=.none
    .rw [hne];exact .none _
    .have hx:=zU g' _ rfl hne;obtain ⟨b0,b1,b2⟩:=hO.1 g' _ hx;rw [hF g' b0] at hm;rcases b2 with ⟨g3,h3,h4⟩ | ⟨h3,_⟩
     .rw [h3] at hm;cases hm;exact h4
     .rw [h3] at hm;cases hm
   .by_cases hne:(mk j (u++v)).o g'=.none
    .exact .inl hne
    .have hx:=zU g' _ rfl hne;obtain ⟨b0,b1,b2⟩:=hO.1 g' _ hx;rw [hF g' b0] at hm;rcases b2 with ⟨g3,h3,h4⟩ | ⟨h3,e⟩
     .rw [h3] at hm;cases hm
     .exact .inr e
   .have n1:g1∈j.nms:=by have:=hO.1 g1 _ (zU g1 _ rfl (by intro e;rw [e] at h1;cases h1));exact this.1
    have n2:g2∈j.nms:=by have:=hO.1 g2 _ (zU g2 _ rfl (by intro e;rw [e] at h2;cases h2));exact this.1
    rw [hF g1 n1] at m1;rw [hF g2 n2] at m2;exact zH hnd' (jB iI) n1 n2 m1 m2
   .have hg:g∈(match (dI (u++v) 0 j.slots).1.lookup t with | some x=>x | none=>S.no).names:=hg;cases hx:(dI (u++v) 0 j.slots).1.lookup t with
    |none=>rw [hx] at hg;simp [S.names] at hg
    |some x=>
     rw [hx] at hg;obtain ⟨p,hp,hg⟩:=(hS.1 t x hx).2 g hg;simpa [mk] using hsl p hp g hg
   .by_cases hne:(mk j (u++v)).o g0=.none
    .rw [hne] at hg;simp [O.names] at hg
    .obtain ⟨b0,b1,b2⟩:=hO.1 g0 _ (zU g0 _ rfl hne);obtain ⟨p,hp,hg⟩:=b1 g hg;simpa [mk] using hob p hp g hg
   .have:=(hO.1 g _ (zU g _ rfl hg)).1;simpa [mk,Shape.nms] using this
  .cases h
 .cases h
end Go.Fw

namespace Go.Fw
variable [eX]
structure zJ where
 aZ:Nat
 pin:Shape
 aT:Shape
 cu:Nat
 bD:List Nat
 aV:List Nat
structure Spec where
 sig:zJ
 R:List P->List P->Prop
abbrev Tab:=FuncId->Option Spec
def wX (x y:Bool×Bool):Bool×Bool:=(x.1||y.1,x.2||y.2)
def Og (xs ys:List Nat):Bool:=xs.all fun x=>!ys.contains x
def WS.flags (a i:Bool):WS->Bool
 |.p a' i'=>(a==a')&&(i==i')
 |.own _=>true
 |.box _ off=>off==0
 |.dF=>false
 |.fn _ _=>true
 |.ni _=>false
 |.no=>false
 |.vw _=>false
 |.ep _ _=>false
def SS.flags (a i:Bool):SS->Bool
 |.one x=>x.flags a i
 |.agg xs=>xs.all (WS.flags a i)
def WS.dH (aV:List Nat):WS->Bool
 |.p _ _=>true
 |.own g=>aV.contains g
 |.box g _=>aV.contains g
 |.dF=>true
 |.fn _ gs=>gs.all fun g=>aV.contains g
 |_=>false
def SS.dH (aV:List Nat):SS->Bool
 |.one x=>x.dH aV
 |.agg xs=>xs.all (WS.dH aV)
def WS.isA:WS->Bool
 |.p a _=>a
 |_=>false
def SS.isA:SS->Bool
 |.one x=>x.isA
 |.agg xs=>xs.any WS.isA
def OS.isA:OS->Bool
 |.box ws=>ws.any WS.isA
 |.arr _ a _ _=>a
 |.it=>false
 |.aO a _ _ _=>a
def zJ.mD (s:zJ):Bool:=s.aT.slots.any (·.2.isA)||s.aT.bf.any (·.2.isA)
def OS.kin:Option OS->Option OS->Bool
 |some (.box _),some (.box _)=>true
 |some (.arr _ _ _ sz),some (.arr _ _ _ sz')=>Nat.beq sz sz'
 |some (.aO _ _ sz _),some (.aO _ _ sz' _)=>Nat.beq sz sz'
 |_,_=>false
def OS.abt:Option OS->Bool
 |some (.box _)=>true
 |_=>false
def zJ.ok (s:zJ):Bool:=
 s.pin.ok&&s.aT.ok&&s.pin.slots.all (fun p=>p.2.flags true false&&decide (p.1<s.aZ)) &&
 s.pin.bf.all (fun p=>match p.2 with
  |.box ws=>ws.all (fun k=>k.flags false true)&&s.bD.contains p.1
  |.arr fz a i _=>!fz&&!a&&i
  |.aO a i _ _=>!a&&i
  |.it=>false) &&
 s.aT.slots.all (fun p=>p.2.dH (s.aV++s.bD)) &&
 s.aT.bf.all (fun p=>match p.2 with
  |.box ws=>ws.all (WS.dH (s.aV++s.bD))&&((s.bD.contains p.1&&s.pin.nms.contains p.1)||s.aV.contains p.1)
  |.arr fz _ _ _=>!fz&&(s.aV.contains p.1||s.bD.contains p.1)
  |.aO _ _ _ _=>s.aV.contains p.1||s.bD.contains p.1
  |.it=>false) &&
 Og s.bD s.aV&&nodupB s.aV&&s.bD.all (fun g=>OS.kin (s.pin.bf.lookup g) (s.aT.bf.lookup g))
def zJ.ai2 (s:zJ):Bool:=s.bD.all fun g=>OS.abt (s.pin.bf.lookup g)&&OS.abt (s.aT.bf.lookup g)
structure LJ where
 ins:List P
 A:Bool×Bool
 I:Bool×Bool
 uZ:List Nat
 ren:List (Nat×Nat)
def nM:List Nat->List W->Option (List (Nat×Nat))
 | [],[]=>some []
 |g'::gs,.box g 0::cs=>match nM gs cs with
  |some r=>some ((g',g)::r)
  |none=>none
 |_,_=>none
def fV (o:Nat->O):WS->W->Option (List P×(Bool×Bool)×List Nat×List (Nat×Nat))
 |.p _ _,x=>match x.toP o with
  |some (y,a,i,gs)=>some ([y],(a,i),gs,[])
  |none=>none
 |.own g',.own g=>some ([],(false,false),[],[(g',g)])
 |.box g' 0,.box g 0=>some ([],(false,false),[],[(g',g)])
 |.fn f gs,.clo f' caps=>if f=f' then match nM gs caps with
  |some r=>some ([],(false,false),[],r)
  |none=>none
  else none
 |_,_=>none
def jJ (o:Nat->O):List WS->List W->Option (List P×(Bool×Bool)×List Nat×List (Nat×Nat))
 | [],[]=>some ([],(false,false),[],[])
 |k::ks,x::xs=>match fV o k x,jJ o ks xs with
  |some (u,c,g,r),some (u',c',g',r')=>some (u++u',wX c c',g++g',r++r')
  |_,_=>none
 |_,_=>none
def oH (o:Nat->O):SS->S->Option (List P×(Bool×Bool)×List Nat×List (Nat×Nat))
 |.one k,.v (.one x)=>fV o k x
 |.agg ks,.v (.agg xs)=>jJ o ks xs
 |_,_=>none
def fD (o:Nat->O) (args:List S):List (Nat×SS)->Option (List P×(Bool×Bool)×List Nat×List (Nat×Nat))
 | []=>some ([],(false,false),[],[])
 |(t,k)::rest=>match oH o k (args.getD t .no),fD o args rest with
  |some (u,c,g,r),some (u',c',g',r')=>some (u++u',wX c c',g++g',r++r')
  |_,_=>none
def Un:WS->W->Option (List P×(Bool×Bool)×List (Nat×Nat))
 |.p _ _,.p a i x=>some ([x],(a,i),[])
 |.p _ _,.dF=>some ([.sl 0 []],(false,false),[])
 |.own g',.own g=>some ([],(false,false),[(g',g)])
 |.box g' 0,.box g 0=>some ([],(false,false),[(g',g)])
 |.fn f gs,.clo f' caps=>if f=f' then match nM gs caps with
  |some r=>some ([],(false,false),r)
  |none=>none
  else none
 |_,_=>none
def Oh:List WS->List W->Option (List P×(Bool×Bool)×List (Nat×Nat))
 | [],[]=>some ([],(false,false),[])
 |k::ks,x::xs=>match Un k x,Oh ks xs with
  |some (u,c,r),some (u',c',r')=>some (u++u',wX c c',r++r')
  |_,_=>none
 |_,_=>none
def jG (o:Nat->O):List (Nat×Nat)->List (Nat×OS)->Option (List P×(Bool×Bool)×List (Nat×Nat))
 |ren,[]=>some ([],(false,false),ren)
 |ren,(g',k)::rest=>match ren.lookup g' with
  |some g=>match k,o g with
   |.box ks,.box ws=>match Oh ks ws with
    |some (u,c,r)=>match jG o (ren++r) rest with
     |some (u',c',r')=>some (u++u',wX c c',r')
     |none=>none
    |none=>none
   |.arr _ _ _ sz,.arr false a i sz' l=>if sz=sz' then match jG o ren rest with
    |some (u',c',r')=>some (P.gq sz l::u',wX (a,i) c',r')
    |none=>none
    else none
   |.aO _ _ sz aj,.aO a i sz' kJ l Option.none=>if sz=sz'/\aj=kJ then match jG o ren rest with
    |some (u',c',r')=>some (P.gq sz l::u',wX (a,i) c',r')
    |none=>none
    else none
   |_,_=>none
  |none=>none
def jW:List (Nat×Nat)->List (Nat×Nat)
 | []=>[]
 |p::r=>match r.any fun q=>Nat.beq q.1 p.1&&Nat.beq q.2 p.2 with
  |true=>jW r
  |false=>p::jW r
def iM (s:zJ) (o:Nat->O) (args:List S):Option LJ:=
 match fD o args s.pin.slots with
 |some (u,A,gs,r)=>match jG o r s.pin.bf with
  |some (u',I,r')=>some { ins:=u++u',A,I,uZ:=gs,ren:=jW r' }
  |none=>none
 |none=>none
def LJ.fine (c:LJ) (s:zJ):Bool:=nodupB (c.ren.map (·.2))&&nodupB (c.ren.map (·.1))&&Og (c.ren.map (·.2)) c.uZ&&(c.ren.map (·.1)).all (fun g=>s.pin.nms.contains g)
def qH (A I:Bool×Bool) (a i:Bool):Bool×Bool:=((a&&A.1)||(i&&I.1),(a&&A.2)||(i&&I.2))
def kR (f:Nat->Nat):List W->List W
 | []=>[]
 |.box g off::r=>.box (f g) off::kR f r
 |_::r=>.no::kR f r
def Uo (A I:Bool×Bool) (f:Nat->Nat):W->W
 |.p a i x=>.p (qH A I a i).1 (qH A I a i).2 x
 |.dF=>.dF
 |.own g=>.own (f g)
 |.box g off=>.box (f g) off
 |.clo fn caps=>.clo fn (kR f caps)
 |_=>.no
def reV (A I:Bool×Bool) (f:Nat->Nat):V->V
 |.one x=>.one (Uo A I f x)
 |.agg xs=>.agg (xs.map (Uo A I f))
def WI (A I:Bool×Bool) (f:Nat->Nat):S->V
 |.v x=>reV A I f x
 |_=>.one .no
def wY (A I:Bool×Bool) (f:Nat->Nat):O->O
 |.none=>.none
 |.box ws=>.box (ws.map (Uo A I f))
 |.arr fz a i sz l=>.arr fz (qH A I a i).1 (qH A I a i).2 sz l
 |.it s n=>.it s n
 |.aO a i sz aj l _=>.aO (qH A I a i).1 (qH A I a i).2 sz aj l Option.none
def newName (d:Nat) (aV:List Nat) (g:Nat):Nat:=d+1000*aV.idxOf g
def callName (d:Nat) (s:zJ) (ren:List (Nat×Nat)) (g:Nat):Nat:=match s.bD.contains g with
 |true=>match ren.lookup g with
  |some g'=>g'
  |none=>g
 |false=>newName d s.aV g
structure Eff where
 x:S
 aK:List (Nat×O)
 new:List Nat
def Y8 (vs:List V):S:=match vs with
 | [x]=>.v x
 |xs=>.jq xs
def kT (s:zJ) (d:Nat) (o:Nat->O) (c:LJ) (dH:List P):Eff:=
 let x:=mk s.aT dH
 let f:=callName d s c.ren
 { x:=Y8 ((List.range s.cu).map fun k=>WI c.A c.I f (x.s k)),aK:=(if s.mD then c.uZ.map (aW o) else [])++c.ren.map (fun p=>(p.2,if s.bD.contains p.1 then wY c.A c.I f (x.o p.1) else .none))++s.aV.map (fun g=>(f g,wY c.A c.I f (x.o g))),new:=s.aV.map f }
def BN (same:List Nat) (e:Eff):Eff:={ e with aK:=e.aK.filter fun p=>!same.contains p.1 }
theorem sQ {α:Type} {same:List Nat} {g:Nat} (hg:g∉same) :∀(l:List (Nat×α)),(l.filter fun p=>!same.contains p.1).lookup g=l.lookup g
 | []=>rfl
 |(k,x)::l=>by
  simp only [vl];cases hk:same.contains k with
  |true=>
   have:(g==k)=false:=by
    cases hb:g==k with
    |false=>rfl
    |true=>
     have:g=k:=by simpa using hb
     subst this;simp only [Wl,decide_eq_true_eq] at hk;exact absurd hk hg
   simp only [Bool.not_true,W3,if_false,List.lookup,this];exact sQ hg l
  |false=>
   simp only [va,if_true,List.lookup];rw [sQ hg l]
theorem mQ {α:Type} {same:List Nat} {g:Nat} (hg:g∈same) :∀(l:List (Nat×α)),(l.filter fun p=>!same.contains p.1).lookup g=none
 | []=>rfl
 |(k,x)::l=>by
  simp only [vl];cases hk:same.contains k with
  |true=>
   simp only [Bool.not_true,W3,if_false];exact mQ hg l
  |false=>
   have:(g==k)=false:=by
    cases hb:g==k with
    |false=>rfl
    |true=>
     have:g=k:=by simpa using hb
     subst this;simp only [Wl,decide_eq_false_iff_not] at hk;exact absurd hg hk
   simp only [va,if_true,List.lookup,this];exact mQ hg l
theorem Y9 {st:St} {same:List Nat} {e:Eff} (h :∀g∈same,e.aK.lookup g=some (st.o g)):st.aK (BN same e).aK (BN same e).new=st.aK e.aK e.new:=by
 unfold St.aK BN;congr 1;funext g;by_cases hg:g∈same
 .simp only [mQ hg,h g hg]
 .simp only [sQ hg]
inductive Qc (x:P) (K:P->Prop):Prop where
 |mk (h :∀z,z=x->K z)
theorem Qc.iff {x:P} {K:P->Prop}:Qc x K↔K x:=⟨fun ⟨h⟩=>h x rfl,fun h=>⟨fun z e=>e▸h⟩⟩
def Fe:Op->Bool
 |.pick .. | .binOp .. | .unOp .. | .convert .. | .index .. | .call .. | .makeSlice .. | .store .. | .buildSlice .. | .slice .. => true
 |_=>false
def guardOf (ops:Array Oper) (st:St) (j:Nat) (want:Bool):Option Bool:=
 match (ops[j]?).bind (·.dst) with
 |some t=>match st.s t with
  |.v (.one (.p _ _ (.bool b)))=>some (bif want then b else !b)
  |.jq []=>some false
  |_=>none
 |none=>none
def Eff.skip:Eff:={ x:=.jq [],aK:=[],new:=[] }
def alD:S->Option Nat
 |.v (.one (.clo g _))=>some g
 |_=>none
def WJ:List S->Option Nat
 | []=>none
 |x::l=>match alD x with
  |some g=>some g
  |none=>WJ l
def QB (fn:Nat) (l:List S):Nat:=match WJ l with
 |some g=>fn+1000000*(g+1)
 |none=>fn
def pick (T:Tab) (fn:Nat) (l:List S):Option Spec:=match Nat.blt fn 1000000 with
 |true=>match T (QB fn l) with
  |some sp=>some sp
  |none=>T fn
 |false=>none
theorem ae_ {T:Tab} {fn:Nat} {l:List S} {sp:Spec} {p:Nat->Spec->Prop} (hT :∀f sp,T f=some sp->p (f % 1000000) sp) (h:pick T fn l=some sp):p fn sp:=by
 unfold pick at h;split at h
 .rename_i hb;have hlt:fn<1000000:=W2 hb;split at h
  .rename_i sp' h';cases h;have:=hT _ _ h';have e:QB fn l % 1000000=fn:=by unfold QB;split<;>omega
   rwa [e] at this
  .have:=hT _ _ h
   rwa [Ka hlt] at this
 .cases h
def jo (T:Tab) (tt:TT) (d:Nat) (st:St) (o:Oper) (K:Eff->Prop):Prop:=
 match o.op with
 |.call { callee:=.value f,args,.. }=>match st.dP f with
  |.v (.one (.clo fn caps))=>match pick T fn (args.toList.map st.dP) with
   |some sp=>match iM sp.sig st.o ((args.toList.map st.dP)++caps.map fun x=>S.v (.one x)) with
    |some c=>(c.fine sp.sig&&decide (args.size+caps.length=sp.sig.aZ))=true/\∃(dH:List P) (same:List Nat),sp.R c.ins dH/\(∀g∈same,g∈c.ren.map (·.2)/\(kT sp.sig d st.o c dH).aK.lookup g=some (st.o g))/\K (BN same (kT sp.sig d st.o c dH))
    |none=>False
   |none=>False
  |_=>False
 |op=>(∃dc r,dW tt dc d st.o st.dP op o.type=some r/\r.pre/\Qc r.val fun z=>K { x:=r.dst z,aK:=r.aK z,new:=r.new })\/match kernel tt d st.o st.dP op o.type with
  |some r=>r.pre/\bif Fe op then Qc r.val fun z=>K { x:=r.dst z,aK:=r.aK z,new:=r.new } else K { x:=r.dst r.val,aK:=r.aK r.val,new:=r.new }
  |none=>False
def St.eff (st:St) (dst:Option Tmp) (e:Eff):St:=(st.aK e.aK e.new).put dst e.x
def stepW (T:Tab) (tt:TT) (N:Nat) (ops:Array Oper) (o:Oper) (st:St) (K:Eff->Prop):Prop:=
 (match o.dst with
  |some d=>decide (d<N)
  |none=>true)=true/\
 match o.guard with
 |none=>jo T tt (o.dst.getD 0) st o fun e=>e.new.all (fun g=>!st.used g)=true/\K e
 |some (j,want)=>match guardOf ops st j want with
  |some b=>bif b then jo T tt (o.dst.getD 0) st o fun e=>e.new.all (fun g=>!st.used g)=true/\K e else K Eff.skip
  |none=>False
end Go.Fw

namespace Go.Fw
variable [eX]
theorem mF {α:Type} :∀{l:List (Nat×α)},(l.map (·.1)).Nodup->∀{k:Nat} {v:α},(k,v)∈l->l.lookup k=some v
 | [],_,k,v,h=>by cases h
 |(k0,v0)::l,hn,k,v,h=>by
  simp only [Qf,UT] at hn;simp only [List.lookup];rcases QQ.1 h with e | e
  .cases e;simp
  .have hne:(k==k0)=false:=by
    have:k∈l.map (·.1):=X1.2 ⟨(k,v),e,rfl⟩;have:k≠k0:=fun e=>hn.1 (by rw [<-e];exact this);simpa using this
   rw [hne];exact mF hn.2 e
theorem kN {α:Type} :∀{l:List (Nat×α)} {k:Nat} {v:α},l.lookup k=some v->(k,v)∈l
 | [],k,v,h=>by simp at h
 |(k0,v0)::l,k,v,h=>by
  simp only [List.lookup] at h;split at h
  .rename_i he;have he:k=k0:=by simpa using he
   simp only [Q0] at h;subst he h;simp
  .exact VM _ (kN h)
def cin (c d:Bool×Bool):Prop:=(c.1=true->d.1=true)/\(c.2=true->d.2=true)
theorem IG (c:Bool×Bool):cin c c:=⟨id,id⟩
theorem tZ {c c' d:Bool×Bool} (h:cin (wX c c') d):cin c d:=⟨fun e=>h.1 (by simp [wX,e]),fun e=>h.2 (by simp [wX,e])⟩
theorem qo {c c' d:Bool×Bool} (h:cin (wX c c') d):cin c' d:=⟨fun e=>h.1 (by simp [wX,e]),fun e=>h.2 (by simp [wX,e])⟩
def Cio (I:Bool×Bool) (a i a' i':Bool):Prop:=a'=false/\i'=true/\cin (a,i) I
section
variable {o:Nat->O} {ins:List P} {m:Nat->Option Nat} {nil:Nat->Prop} {I:Bool×Bool}
theorem WL {a i:Bool} {a' i':Bool} (h:(WS.p a' i').flags a i=true):a'=a/\i'=i:=by
 simp only [WS.flags,Qt,beq_iff_eq] at h;exact ⟨h.1.symm,h.2.symm⟩
theorem Ad {C:Bool->Bool->Bool->Bool->Prop} :∀{gs:List Nat} {caps:List W} {r:List (Nat×Nat)},nM gs caps=some r->(∀p∈r,m p.1=some p.2)->caps.length=(gV gs).length/\∀(j:Nat) x y,caps[j]?=some x->(gV gs)[j]?=some y->Ww C m nil x y
 | [],[],r,_,_=>⟨rfl,fun j x y hx=>by simp at hx⟩
 | [],_::_,r,h,_=>by simp [nM] at h
 |_::_,[],r,h,_=>by simp [nM] at h
 |g'::gs,c::cs,r,h,hm=>by
  cases c with
  |box g off=>
   cases off with
   |succ off=>simp [nM] at h
   |zero=>
    simp only [nM] at h;split at h
    .rename_i r' hr';simp only [Q0] at h;subst h;obtain ⟨e1,e2⟩:=Ad (C:=C) hr' (fun p hp=>hm p (by simp [hp]));refine ⟨by simp [gV,e1],fun j x y hx hy => ?_⟩;cases j with
     |zero=>
      simp [gV] at hx hy;subst hx hy;exact .box (hm (g',g) (by simp))
     |succ j=>simp [gV] at hx hy;exact e2 j x y hx hy
    .cases h
  |_=>simp [nM] at h
theorem ai4 {k:WS} {x:W} {us:List P} {c:Bool×Bool} {r:List (Nat×Nat)} {n:Nat} (h:Un k x=some (us,c,r)) (hk:k.flags false true=true) (hc:cin c I) (hm :∀p∈r,m p.1=some p.2) (ha:At ins n us) :
  Ww (Cio I) m nil x (qm ins n k).1/\(qm ins n k).2=n+us.length:=by
 cases k with
 |p a' i'=>
  obtain ⟨rfl,rfl⟩:=WL hk;cases x with
  |p a i y=>
   simp only [Un,Q0,Q1] at h;obtain ⟨rfl,rfl,rfl⟩:=h;exact ⟨by simp only [qm,ha.head];exact .p y ⟨rfl,rfl,hc⟩,rfl⟩
  |dF=>
   simp only [Un,Q0,Q1] at h;obtain ⟨rfl,rfl,rfl⟩:=h;exact ⟨by simp only [qm,ha.head];exact .aiZ _ _ _,rfl⟩
  |_=>simp [Un] at h
 |own g'=>
  cases x with
  |own g=>
   simp only [Un,Q0,Q1] at h;obtain ⟨rfl,rfl,rfl⟩:=h;exact ⟨.own (hm (g',g) (by simp)),rfl⟩
  |_=>simp [Un] at h
 |box g' off'=>
  cases x with
  |box g off=>
   cases off' with
   |succ n=>simp [Un] at h
   |zero=>
    cases off with
    |succ n=>simp [Un] at h
    |zero=>
     simp only [Un,Q0,Q1] at h;obtain ⟨rfl,rfl,rfl⟩:=h;exact ⟨.box (hm (g',g) (by simp)),rfl⟩
  |_=>simp [Un] at h
 |fn f gs=>
  cases x with
  |clo f' caps=>
   simp only [Un] at h;split at h
   .rename_i hf;subst hf;split at h
    .rename_i r' hr';simp only [Q0,Q1] at h;obtain ⟨rfl,rfl,rfl⟩:=h;obtain ⟨e1,e2⟩:=Ad (C:=Cio I) (nil:=nil) hr' hm;exact ⟨.clo f caps (gV gs) e1 e2,rfl⟩
    .cases h
   .cases h
  |_=>simp [Un] at h
 |_=>simp [Un] at h
theorem WM :∀{ks:List WS} {xs:List W} {us:List P} {c:Bool×Bool} {r:List (Nat×Nat)} {n:Nat},Oh ks xs=some (us,c,r)->(∀k∈ks,k.flags false true=true)->cin c I->(∀p∈r,m p.1=some p.2)->At ins n us->
  xs.length=(kY ins n ks).1.length/\(∀(j:Nat) x y,xs[j]?=some x->(kY ins n ks).1[j]?=some y->Ww (Cio I) m nil x y)/\(kY ins n ks).2=n+us.length
 | [],xs,us,c,r,n,h,hk,hc,hm,ha=>by
  cases xs with
  |nil=>simp [Oh] at h;obtain ⟨rfl,_⟩:=h;exact ⟨rfl,fun j x y hx=>by simp at hx,rfl⟩
  |cons x xs=>simp [Oh] at h
 |k::ks,xs,us,c,r,n,h,hk,hc,hm,ha=>by
  cases xs with
  |nil=>simp [Oh] at h
  |cons x xs=>
   simp only [Oh] at h;split at h
   .rename_i u c1 r1 u' c2 r2 h1 h2;simp only [Q0,Q1] at h;obtain ⟨rfl,rfl,rfl⟩:=h;obtain ⟨a1,a2⟩:=ai4 (nil:=nil) h1 (hk k (by simp)) (tZ hc) (fun p hp=>hm p (by simp [hp])) ha.left;have ih:=WM (n:=n+u.length) h2 (fun k hk'=>hk k (by simp [hk'])) (qo hc) (fun p hp=>hm p (by simp [hp])) ha.right;simp only [kY,a2];refine ⟨by simp [ih.1],fun j x' y' hx hy => ?_,by rw [ih.2.2];simp;omega⟩;cases j with
    |zero=>simp at hx hy;subst hx hy;exact a1
    |succ j=>simp at hx hy;exact ih.2.1 j x' y' hx hy
   .cases h
theorem t_ :∀{L:List (Nat×OS)} {ren ren':List (Nat×Nat)} {us:List P} {c:Bool×Bool} {n:Nat},jG o ren L=some (us,c,ren')->
  (∀p∈L,match p.2 with | .box ws =>∀k∈ws,k.flags false true=true | .arr fz a i _=>fz=false/\a=false/\i=true | .aO a i _ _=>a=false/\i=true | .it=>False)->cin c I->(∀p∈ren',m p.1=some p.2)->At ins n us->
  (∃r,ren'=ren++r)/\∀g' x,(gW ins n L).1.lookup g'=some x->∃g,m g'=some g/\Ow (Cio I) m nil (o g) x/\(g',g)∈ren'/\(o g).bP=true/\((∃ws,x=.box ws)\/(∃l sz,x=.arr false false true sz l)\/∃l sz aj,x=.aO false true sz aj l Option.none)
 | [],ren,ren',us,c,n,h,hk,hc,hm,ha=>by
  simp only [jG,Q0,Q1] at h;obtain ⟨rfl,rfl,rfl⟩:=h;exact ⟨⟨[],by simp⟩,fun g' x hx=>by simp [gW] at hx⟩
 |(g0,k)::L,ren,ren',us,c,n,h,hk,hc,hm,ha=>by
  simp only [jG] at h;split at h
  .rename_i g hg;split at h
   .rename_i ks ws hog;split at h
    .rename_i u c1 r1 h1;split at h
     .rename_i u' c2 r2 h2;simp only [Q0,Q1] at h;obtain ⟨rfl,rfl,rfl⟩:=h;have hk0:=hk (g0,.box ks) (by simp);have ih:=fun hm'=>t_ (n:=n+u.length) h2 (fun p hp=>hk p (by simp [hp])) (qo hc) hm' ha.right;obtain ⟨⟨r,hr⟩,ih⟩:=ih hm;obtain ⟨b0,b1,b2⟩:=WM (nil:=nil) h1 hk0 (tZ hc) (fun p hp=>hm p (by rw [hr];simp [hp])) ha.left;simp only [gW,tV,b2];refine ⟨⟨r1++r,by rw [hr,Wa]⟩,fun g' x hx => ?_⟩;simp only [List.lookup] at hx;split at hx
      .rename_i he;have he:g'=g0:=by simpa using he
       subst he;simp only [Q0] at hx;subst hx;have hmem:(g',g)∈r2:=by rw [hr,Wa];exact W6 _ (kN hg)
       exact ⟨g,hm _ hmem,by rw [hog];exact .box _ _ b0 b1,hmem,by rw [hog];rfl,.inl ⟨_,rfl⟩⟩
      .exact ih g' x hx
     .cases h
    .cases h
   .rename_i fz0 a0 i0 sz a i sz' l hog;split at h
    .rename_i hsz;split at h
     .rename_i u' c2 r2 h2;simp only [Q0,Q1] at h;obtain ⟨rfl,rfl,rfl⟩:=h;subst hsz;have hk0:=hk (g0,.arr fz0 a0 i0 sz) (by simp);obtain ⟨rfl,rfl,rfl⟩:=hk0;have hhead:At ins n [P.gq sz l]:=fun k y hk=>ha k y (by cases k with | zero=>simpa using hk | succ k=>simp at hk);have htail:At ins (n+1) u':=fun k y hk=>by
       have:=ha (k+1) y (by simpa using hk);rw [<-this];congr 1;omega
      obtain ⟨⟨r,hr⟩,ih⟩:=t_ (n:=n+1) h2 (fun p hp=>hk p (by simp [hp])) (qo hc) hm htail;simp only [gW,tV,hhead.head,P.oC];refine ⟨⟨r,hr⟩,fun g' x hx => ?_⟩;simp only [List.lookup] at hx;split at hx
      .rename_i he;have he:g'=g0:=by simpa using he
       subst he;simp only [Q0] at hx;subst hx;have hmem:(g',g)∈r2:=by rw [hr];exact W6 _ (kN hg)
       exact ⟨g,hm _ hmem,by rw [hog];exact .arr false sz l ⟨rfl,rfl,tZ hc⟩,hmem,by rw [hog];rfl,.inr (.inl ⟨_,_,rfl⟩)⟩
      .exact ih g' x hx
     .cases h
    .cases h
   .rename_i a0 i0 sz aj a i sz' kJ l hog;split at h
    .rename_i hsz;obtain ⟨rfl,rfl⟩:=hsz;split at h
     .rename_i u' c2 r2 h2;simp only [Q0,Q1] at h;obtain ⟨rfl,rfl,rfl⟩:=h;have hk0:=hk (g0,.aO a0 i0 sz aj) (by simp);obtain ⟨rfl,rfl⟩:=hk0;have hhead:At ins n [P.gq sz l]:=fun k y hk=>ha k y (by cases k with | zero=>simpa using hk | succ k=>simp at hk);have htail:At ins (n+1) u':=fun k y hk=>by
       have:=ha (k+1) y (by simpa using hk);rw [<-this];congr 1;omega
      obtain ⟨⟨r,hr⟩,ih⟩:=t_ (n:=n+1) h2 (fun p hp=>hk p (by simp [hp])) (qo hc) hm htail;simp only [gW,tV,hhead.head,P.oC];refine ⟨⟨r,hr⟩,fun g' x hx => ?_⟩;simp only [List.lookup] at hx;split at hx
      .rename_i he;have he:g'=g0:=by simpa using he
       subst he;simp only [Q0] at hx;subst hx;have hmem:(g',g)∈r2:=by rw [hr];exact W6 _ (kN hg)
       exact ⟨g,hm _ hmem,by rw [hog];exact .aO sz aj l ⟨rfl,rfl,tZ hc⟩,hmem,by rw [hog];rfl,.inr (.inr ⟨_,_,_,rfl⟩)⟩
      .exact ih g' x hx
     .cases h
    .cases h
   .cases h
  .cases h
end
section
variable {E E':Env} {st est:St} {gh ny:Nat->Gh} {w:World} {ins:List P} {A:Bool×Bool} {uZ:List Nat} {m:Nat->Option Nat} {nil:Nat->Prop} {C:Bool->Bool->Bool->Bool->Prop}
theorem QC (hP :∀x v y a i gs,fF E st gh w x v->x.toP st.o=some (y,a,i,gs)->cin (a,i) A->(∀g∈gs,g∈uZ)->dh w (E'.ok est ny w true false) y v) (hC:Cast C m nil E E' st est gh ny w)
  {k:WS} {x:W} {v:Value} {us:List P} {c:Bool×Bool} {gs:List Nat} {r:List (Nat×Nat)} {n:Nat} (h:fV st.o k x=some (us,c,gs,r)) (hk:k.flags true false=true) (hc:cin c A) (hgs :∀g∈gs,g∈uZ)
  (hm :∀p∈r,m p.1=some p.2) (ha:At ins n us) (hr:fF E st gh w x v):fF E' est ny w (qm ins n k).1 v/\(qm ins n k).2=n+us.length:=by
 cases k with
 |p a' i'=>
  obtain ⟨rfl,rfl⟩:=WL hk;simp only [fV] at h;split at h
  .rename_i y a i gs' ht;simp only [Q0,Q1] at h;obtain ⟨rfl,rfl,rfl,rfl⟩:=h;exact ⟨by simp only [qm,ha.head];exact .p _ _ _ _ (hP _ _ _ _ _ _ hr ht hc hgs),rfl⟩
  .cases h
 |own g'=>
  cases x with
  |own g=>
   simp only [fV,Q0,Q1] at h;obtain ⟨rfl,rfl,rfl,rfl⟩:=h;exact ⟨hC.zT (.own (hm (g',g) (by simp))) hr,rfl⟩
  |_=>simp [fV] at h
 |box g' off=>
  cases x with
  |box g off'=>
   cases off with
   |succ off=>simp [fV] at h
   |zero=>
    cases off' with
    |succ off'=>simp [fV] at h
    |zero=>
     simp only [fV,Q0,Q1] at h;obtain ⟨rfl,rfl,rfl,rfl⟩:=h;exact ⟨hC.zT (.box (hm (g',g) (by simp))) hr,rfl⟩
  |_=>cases off<;>simp [fV] at h
 |fn f gs0=>
  cases x with
  |clo f' caps=>
   simp only [fV] at h;split at h
   .rename_i hf;subst hf;split at h
    .rename_i r' hr';simp only [Q0,Q1] at h;obtain ⟨rfl,rfl,rfl,rfl⟩:=h;obtain ⟨e1,e2⟩:=Ad (C:=C) (nil:=nil) hr' hm;exact ⟨hC.zT (.clo f caps (gV gs0) e1 e2) hr,rfl⟩
    .cases h
   .cases h
  |_=>simp [fV] at h
 |_=>simp [fV] at h
theorem LK (hP :∀x v y a i gs,fF E st gh w x v->x.toP st.o=some (y,a,i,gs)->cin (a,i) A->(∀g∈gs,g∈uZ)->dh w (E'.ok est ny w true false) y v) (hC:Cast C m nil E E' st est gh ny w) :
  ∀{ks:List WS} {xs:List W} {cs:List Value} {us:List P} {c:Bool×Bool} {gs:List Nat} {r:List (Nat×Nat)} {n:Nat},jJ st.o ks xs=some (us,c,gs,r)->(∀k∈ks,k.flags true false=true)->cin c A->(∀g∈gs,g∈uZ)->
   (∀p∈r,m p.1=some p.2)->At ins n us->xs.length=cs.length->(∀(j:Nat) x v,xs[j]?=some x->cs[j]?=some v->fF E st gh w x v)->
   (kY ins n ks).1.length=cs.length/\(∀(j:Nat) x v,(kY ins n ks).1[j]?=some x->cs[j]?=some v->fF E' est ny w x v)/\(kY ins n ks).2=n+us.length
 | [],xs,cs,us,c,gs,r,n,h,hk,hc,hgs,hm,ha,hl,hr=>by
  cases xs with
  |nil=>simp [jJ] at h;obtain ⟨rfl,_⟩:=h;exact ⟨hl,fun j x v hx=>by simp [kY] at hx,rfl⟩
  |cons x xs=>simp [jJ] at h
 |k::ks,xs,cs,us,c,gs,r,n,h,hk,hc,hgs,hm,ha,hl,hr=>by
  cases xs with
  |nil=>simp [jJ] at h
  |cons x xs=>
   cases cs with
   |nil=>simp at hl
   |cons v cs=>
    simp only [jJ] at h;split at h
    .rename_i u c1 g1 r1 u' c2 g2 r2 h1 h2;simp only [Q0,Q1] at h;obtain ⟨rfl,rfl,rfl,rfl⟩:=h;obtain ⟨a1,a2⟩:=QC hP hC h1 (hk k (by simp)) (tZ hc) (fun g hg=>hgs g (by simp [hg])) (fun p hp=>hm p (by simp [hp])) ha.left (hr 0 x v rfl rfl);have ih:=LK hP hC (n:=n+u.length) h2 (fun k hk'=>hk k (by simp [hk'])) (qo hc) (fun g hg=>hgs g (by simp [hg])) (fun p hp=>hm p (by simp [hp])) ha.right (by simpa using hl)
      (fun j a b ha hb=>hr (j+1) a b (by simpa using ha) (by simpa using hb))
     simp only [kY,a2];refine ⟨by simp [ih.1],fun j x' v' hx hv => ?_,by rw [ih.2.2];simp;omega⟩;cases j with
     |zero=>simp at hx hv;subst hx hv;exact a1
     |succ j=>simp at hx hv;exact ih.2.1 j x' v' hx hv
    .cases h
theorem abu (hP :∀x v y a i gs,fF E st gh w x v->x.toP st.o=some (y,a,i,gs)->cin (a,i) A->(∀g∈gs,g∈uZ)->dh w (E'.ok est ny w true false) y v) (hC:Cast C m nil E E' st est gh ny w)
  {k:SS} {x:S} {v:Value} {us:List P} {c:Bool×Bool} {gs:List Nat} {r:List (Nat×Nat)} {n:Nat} (h:oH st.o k x=some (us,c,gs,r)) (hk:k.flags true false=true) (hc:cin c A) (hgs :∀g∈gs,g∈uZ)
  (hm :∀p∈r,m p.1=some p.2) (ha:At ins n us) (hr:dL E st gh w x v):dL E' est ny w (mkS ins n k).1 v/\(mkS ins n k).2=n+us.length:=by
 cases k with
 |one k=>
  cases x with
  |v x=>
   cases x with
   |one x=>
    obtain ⟨a1,a2⟩:=QC hP hC h hk hc hgs hm ha hr.dK;exact ⟨dL.Ig a1,a2⟩
   |agg xs=>simp [oH] at h
  |_=>simp [oH] at h
 |agg ks=>
  cases x with
  |v x=>
   cases x with
   |one x=>simp [oH] at h
   |agg xs=>
    obtain ⟨cs,hv,hl,hone,hrr⟩:=hr.GY;simp only [SS.flags,XX] at hk;obtain ⟨a0,a1,a2⟩:=LK hP hC h hk hc hgs hm ha hl hrr;subst hv;exact ⟨.v _ _ (.agg _ cs a0 hone a1),a2⟩
  |_=>simp [oH] at h
theorem BO (hP :∀x v y a i gs,fF E st gh w x v->x.toP st.o=some (y,a,i,gs)->cin (a,i) A->(∀g∈gs,g∈uZ)->dh w (E'.ok est ny w true false) y v) (hC:Cast C m nil E E' st est gh ny w) {args:List S} {vals:Nat->Value}
  (hr :∀t,dL E st gh w (args.getD t .no) (vals t)) :
  ∀{L:List (Nat×SS)} {us:List P} {c:Bool×Bool} {gs:List Nat} {r:List (Nat×Nat)} {n:Nat},fD st.o args L=some (us,c,gs,r)->(∀p∈L,p.2.flags true false=true)->cin c A->(∀g∈gs,g∈uZ)->
   (∀p∈r,m p.1=some p.2)->At ins n us->(∀t x,(dI ins n L).1.lookup t=some x->dL E' est ny w x (vals t))/\(dI ins n L).2=n+us.length
 | [],us,c,gs,r,n,h,hk,hc,hgs,hm,ha=>by
  simp [fD] at h;obtain ⟨rfl,_⟩:=h;exact ⟨fun t x hx=>by simp [dI] at hx,rfl⟩
 |(t0,k)::L,us,c,gs,r,n,h,hk,hc,hgs,hm,ha=>by
  simp only [fD] at h;split at h
  .rename_i u c1 g1 r1 u' c2 g2 r2 h1 h2;simp only [Q0,Q1] at h;obtain ⟨rfl,rfl,rfl,rfl⟩:=h;obtain ⟨a1,a2⟩:=abu hP hC h1 (hk (t0,k) (by simp)) (tZ hc) (fun g hg=>hgs g (by simp [hg])) (fun p hp=>hm p (by simp [hp])) ha.left (hr t0);have ih:=BO hP hC hr (n:=n+u.length) h2 (fun p hp=>hk p (by simp [hp])) (qo hc) (fun g hg=>hgs g (by simp [hg])) (fun p hp=>hm p (by simp [hp])) ha.right;simp only [dI,a2];refine ⟨fun t x hx => ?_,by rw [ih.2];simp;omega⟩;simp only [List.lookup] at hx;split at hx
   .rename_i he;have he:t=t0:=by simpa using he
    subst he;simp only [Q0] at hx;subst hx;exact a1
   .exact ih.1 t x hx
  .cases h
end
end Go.Fw

namespace Go.Fw
variable [eX]
def Enters (Pg:Program) (f:FuncId):Prop :=∀(args:Array Value) (w:World),(callFunc f args).run Pg w=.ok (.enter f args) w
def Y_ (rs:List Value):Value:=match rs with
 | [v]=>v
 |vs=>.tuple vs.toArray
def Sound (Pg:Program) (f:FuncId) (sp:Spec):Prop:=sp.sig.ok=true/\Enters Pg f/\
 ∀(E:Env) (w:World) (vals:List Value) (gh:Nat->Gh) (ins dH:List P),sp.R ins dH->E.B0=w.heap.size->E.w0=w->Rel E (mk sp.sig.pin ins) gh (fun k=>vals.getD k undef) w->vals.length=sp.sig.aZ->
  Calls Pg f vals.toArray w fun e w' =>∃(rs:List Value) (bM:Nat->Gh),rs.length=sp.sig.cu/\e=.returned (Y_ rs)/\Rel E (mk sp.sig.aT dH) bM (fun k=>rs.getD k undef) w'/\∀g∈sp.sig.bD,((bM g).ad=(gh g).ad/\(bM g).cap=(gh g).cap)/\((mk sp.sig.pin ins).o g).like ((mk sp.sig.aT dH).o g)
theorem afa {o:Nat->O} {x:W} {y:P} {a i:Bool} {gs:List Nat} (h:x.toP o=some (y,a,i,gs)):xw o gs:=by
 cases x<;>simp only [W.toP] at h
 case p=>simp only [Q0,Q1] at h;obtain ⟨_,_,_,rfl⟩:=h;exact xw.nil
 case dF=>simp only [Q0,Q1] at h;obtain ⟨_,_,_,rfl⟩:=h;exact xw.nil
 case own g=>
  split at h
  .rename_i ho;simp only [Q0,Q1] at h;obtain ⟨_,_,_,rfl⟩:=h;exact vJ ho
  .cases h
 case vw g lo hi=>
  split at h
  .rename_i ho;simp only [Q0,Q1] at h;obtain ⟨_,_,_,rfl⟩:=h;exact vJ ho
  .cases h
 all_goals cases h
theorem QD {o:Nat->O} {k:WS} {x:W} {us:List P} {c:Bool×Bool} {gs:List Nat} {r:List (Nat×Nat)} (h:fV o k x=some (us,c,gs,r)):xw o gs:=by
 cases k with
 |p a i=>
  simp only [fV] at h;split at h
  .rename_i ht;simp only [Q0,Q1] at h;obtain ⟨_,_,rfl,_⟩:=h;exact afa ht
  .cases h
 |own g'=>cases x<;>simp [fV] at h;obtain ⟨_,_,rfl,_⟩:=h;exact xw.nil
 |box g' off=>
  cases off with
  |succ off=>cases x<;>simp [fV] at h
  |zero=>
   cases x with
   |box g off=>cases off<;>simp [fV] at h;obtain ⟨_,_,rfl,_⟩:=h;exact xw.nil
   |_=>simp [fV] at h
 |dF=>simp [fV] at h
 |fn f gs0=>
  cases x with
  |clo f' caps=>
   simp only [fV] at h;split at h
   .split at h
    .simp only [Q0,Q1] at h;obtain ⟨_,_,rfl,_⟩:=h;exact xw.nil
    .cases h
   .cases h
  |_=>simp [fV] at h
 |ni g'=>simp [fV] at h
 |no=>simp [fV] at h
 |vw g'=>simp [fV] at h
 |ep g' off=>simp [fV] at h
theorem LM {o:Nat->O} :∀{ks:List WS} {xs:List W} {us:List P} {c:Bool×Bool} {gs:List Nat} {r:List (Nat×Nat)},jJ o ks xs=some (us,c,gs,r)->xw o gs
 | [],xs,us,c,gs,r,h=>by
  cases xs<;>simp [jJ] at h;obtain ⟨_,_,rfl,_⟩:=h;exact xw.nil
 |k::ks,xs,us,c,gs,r,h=>by
  cases xs with
  |nil=>simp [jJ] at h
  |cons x xs=>
   simp only [jJ] at h;split at h
   .rename_i h1 h2;simp only [Q0,Q1] at h;obtain ⟨_,_,rfl,_⟩:=h;exact (QD h1).append (LM h2)
   .cases h
theorem vS {o:Nat->O} {args:List S} :∀{L:List (Nat×SS)} {us:List P} {c:Bool×Bool} {gs:List Nat} {r:List (Nat×Nat)},fD o args L=some (us,c,gs,r)->xw o gs
 | [],us,c,gs,r,h=>by simp [fD] at h;obtain ⟨_,_,rfl,_⟩:=h;exact xw.nil
 |(t,k)::L,us,c,gs,r,h=>by
  simp only [fD] at h;split at h
  .rename_i h1 h2;simp only [Q0,Q1] at h;obtain ⟨_,_,rfl,_⟩:=h;refine xw.append ?_ (vS h2)
   .cases k with
    |one k=>
     generalize args.getD t S.no=z at h1;cases z with
     |v z=>
      cases z with
      |one z=>exact QD h1
      |agg z=>simp [oH] at h1
     |_=>simp [oH] at h1
    |agg ks=>
     generalize args.getD t S.no=z at h1;cases z with
     |v z=>
      cases z with
      |one z=>simp [oH] at h1
      |agg z=>exact LM h1
     |_=>simp [oH] at h1
  .cases h
theorem vT {vs:List P} :∀{L:List (Nat×OS)} {n g:Nat},g∈L.map (·.1)->∃x,(gW vs n L).1.lookup g=some x
 | [],n,g,h=>by simp at h
 |(g0,k)::L,n,g,h=>by
  simp only [gW,List.lookup];by_cases e:g=g0
  .subst e;simp
  .have:(g==g0)=false:=by simpa using e
   rw [this];exact vT (by simpa [e] using h)
theorem kZ {vs:List P} :∀{L:List (Nat×OS)} {n g:Nat} {x:O},(gW vs n L).1.lookup g=some x->∃k n',(g,k)∈L/\x=(tV vs n' k).1
 | [],n,g,x,h=>by simp [gW] at h
 |(g0,k)::L,n,g,x,h=>by
  simp only [gW,List.lookup] at h;split at h
  .rename_i e;have e:g=g0:=by simpa using e
   subst e;simp only [Q0] at h;exact ⟨k,n,by simp,h.symm⟩
  .obtain ⟨k',n',h1,h2⟩:=kZ h;exact ⟨k',n',by simp [h1],h2⟩
theorem xJ {vs:List P} :∀{L:List (Nat×SS)} {n t:Nat} {x:S},(dI vs n L).1.lookup t=some x->∃k n',(t,k)∈L/\x=(mkS vs n' k).1
 | [],n,t,x,h=>by simp [dI] at h
 |(t0,k)::L,n,t,x,h=>by
  simp only [dI,List.lookup] at h;split at h
  .rename_i e;have e:t=t0:=by simpa using e
   subst e;simp only [Q0] at h;exact ⟨k,n,by simp,h.symm⟩
  .obtain ⟨k',n',h1,h2⟩:=xJ h;exact ⟨k',n',by simp [h1],h2⟩
theorem LP (vs:List P) (n:Nat) (k:WS):(qm vs n k).1.names=k.names:=by
 cases k with
 |fn f gs=>simp only [qm,tY,vP,WS.names]
 |_=>simp [qm,W.names,WS.names]
theorem Ae (vs:List P) :∀(n:Nat) (ks:List WS),(kY vs n ks).1.flatMap W.names=ks.flatMap WS.names
 |n,[]=>rfl
 |n,k::ks=>by simp [kY,LP,Ae vs _ ks]
theorem Za (vs:List P) (n:Nat) (k:SS):(mkS vs n k).1.names=k.names:=by
 cases k with
 |one k=>simpa [mkS,S.names,V.names,SS.names] using LP vs n k
 |agg ks=>simpa [mkS,S.names,V.names,SS.names] using Ae vs n ks
theorem Zb (vs:List P) (n:Nat) (k:OS):(tV vs n k).1.names=k.names:=by
 cases k with
 |box ks=>simpa [tV,O.names,OS.names] using Ae vs n ks
 |arr=>simp [tV,O.names,OS.names]
 |it=>simp [tV,O.names,OS.names]
 |aO=>simp [tV,O.names,OS.names,dN]
theorem UH {j:Shape} {vs:List P} {g:Nat} (h:(mk j vs).o g≠.none):(gW vs (dI vs 0 j.slots).2 j.bf).1.lookup g=some ((mk j vs).o g):=by
 unfold mk at h ⊢;simp only at h ⊢;split at h
 .rename_i x hx;rw [hx]
 .exact absurd rfl h
theorem LQ {j:Shape} {vs:List P} {g:Nat} (h:g∉j.nms):(mk j vs).o g=.none:=by
 by_cases hn:(mk j vs).o g=.none
 .exact hn
 .obtain ⟨k,n',h1,h2⟩:=kZ (UH hn);exact absurd (X1.2 ⟨_,h1,rfl⟩) h
theorem ahB {j:Shape} (hj:j.ok=true) (vs:List P):(∀t,∀g∈((mk j vs).s t).names,(mk j vs).used g=true)/\(∀g,∀g'∈((mk j vs).o g).names,(mk j vs).used g'=true)/\∀g,(mk j vs).o g≠.none->(mk j vs).used g=true:=by
 simp only [Qt,Shape.ok,XX,Wl,decide_eq_true_eq] at hj;refine ⟨fun t g hg => ?_,fun g g' hg' => ?_,fun g hg => ?_⟩
 .have hg:g∈(match (dI vs 0 j.slots).1.lookup t with | some x=>x | none=>S.no).names:=hg;cases hx:(dI vs 0 j.slots).1.lookup t with
  |none=>rw [hx] at hg;simp [S.names] at hg
  |some x=>
   rw [hx] at hg;obtain ⟨k,n',h1,h2⟩:=xJ hx;subst h2;simp only at hg;rw [Za] at hg;simpa [mk] using hj.1.2 _ h1 g hg
 .by_cases hn:(mk j vs).o g=.none
  .rw [hn] at hg';simp [O.names] at hg'
  .obtain ⟨k,n',h1,h2⟩:=kZ (UH hn);rw [h2,Zb] at hg';simpa [mk] using hj.2 _ h1 g' hg'
 .obtain ⟨k,n',h1,h2⟩:=kZ (UH hg);simp only [mk,Wl,decide_eq_true_eq,Shape.nms];exact X1.2 ⟨_,h1,rfl⟩
section
variable {E:Env} {st:St} {gh:Nat->Gh} {w:World} {val:Nat->Value}
def WO (h:Rel E st gh val w) (st1:St) (c:LJ):Env where
 FA:=fun b=>E.ok st1 gh w c.A.1 c.A.2 b
 FI:=fun b=>E.ok st gh w c.I.1 c.I.2 b
 B0:=w.heap.size
 w0:=w
 Wr:=fun b =>∃p∈c.ren,(st.o p.2).bP=true/\(gh p.2).has b
 hg:=fun g sz rows hg=>by
  obtain ⟨g1,g2,g3⟩:=E.hg g sz rows hg;refine ⟨WF g1 h.size,?_,fun n x hx=>⟨(g3 n x hx).1,fun j y hy => ?_⟩⟩
  .rintro ⟨p,hp,ho,h1⟩;rcases (h.wr p.2 g ho h1).1 with q | q
   .omega
   .exact g2 q
  .obtain ⟨u,hu1,hu2⟩:=(g3 n x hx).2 j y hy;exact ⟨u,(World.cell?_of_block (w:=E.w0) (h.frame g g1 g2)).trans hu1,hu2.mono fun _ f=>f.elim⟩
theorem Fh {vs:List P} :∀{L:List (Nat×OS)} {n:Nat} {g:Nat} {k:OS},L.lookup g=some k->∃n',(gW vs n L).1.lookup g=some (tV vs n' k).1
 | [],n,g,k,h=>by cases h
 |(g0,k0)::L,n,g,k,h=>by
  simp only [gW,List.lookup] at h ⊢;split at h
  .cases h;exact ⟨_,rfl⟩
  .exact Fh h
theorem Oi {j:Shape} {vs:List P} {g:Nat} {k:OS} (h:j.bf.lookup g=some k) :∃n',(mk j vs).o g=(tV vs n' k).1:=by
 obtain ⟨n',h1⟩:=Fh (vs:=vs) (n:=(dI vs 0 j.slots).2) h;refine ⟨n',?_⟩;show (match (gW vs (dI vs 0 j.slots).2 j.bf).1.lookup g with | some x=>x | none=>O.none)=_;rw [h1]
theorem QE {j:Shape} {vs:List P} {g:Nat} (h:OS.abt (j.bf.lookup g)=true) :∃ws,(mk j vs).o g=.box ws:=by
 cases hl:j.bf.lookup g with
 |none=>rw [hl] at h;cases h
 |some k=>
  rw [hl] at h;cases k with
  |box ks=>obtain ⟨n',h1⟩:=Oi (vs:=vs) hl;exact ⟨_,h1⟩
  |arr=>cases h
  |it=>cases h
  |aO=>cases h
theorem zJ.Zc {s:zJ} (h:s.ai2=true) {ins dH:List P} :∀g∈s.bD,((Fw.mk s.pin ins).o g).like ((Fw.mk s.aT dH).o g):=fun g hg=>by
 have:=(XX.1 h) g hg;simp only [Qt] at this;obtain ⟨ws,e1⟩:=QE (vs:=ins) this.1;obtain ⟨ws',e2⟩:=QE (vs:=dH) this.2;rw [e1,e2];trivial
theorem mX {p:Nat×Nat} :∀{r:List (Nat×Nat)},p∈jW r↔p∈r
 | []=>Iff.rfl
 |q::r=>by
  simp only [jW];cases h:(r.any fun x=>Nat.beq x.1 q.1&&Nat.beq x.2 q.2) with
  |true=>
   simp only [mX (r:=r),QQ];refine ⟨.inr,fun hp => ?_⟩;rcases hp with rfl | hp
   .obtain ⟨x,hx,e⟩:=Kb.1 h;simp only [Qt] at e;have e1:=Q4 e.1;have e2:=Q4 e.2;have:x=p:=Prod.ext e1 e2;rw [<-this];exact hx
   .exact hp
  |false=>simp only [QQ,mX (r:=r)]
def rH:O->O
 |.arr fz _ _ sz l=>.arr fz false false sz l
 |.aO _ _ sz aj l hole=>.aO false false sz aj l hole
 |x=>x
def sS:O->Bool×Bool
 |.arr _ a i _ _=>(a,i)
 |.aO a i _ _ _ _=>(a,i)
 |_=>(false,false)
def UJ:O->Bool
 |.arr _ _ _ _ _=>true
 |.aO _ _ _ _ _ _=>true
 |_=>false
theorem UK {x y:O} (h:rH x=rH y) (hf:sS x=sS y) (ha:UJ x=true):x=y:=by
 cases x<;>simp only [UJ,W3] at ha<;>cases y<;>simp only [rH,sS,O.arr.injEq,O.aO.injEq,Q1,reduceCtorEq] at h hf
 .obtain ⟨rfl,_,_,rfl,rfl⟩:=h;obtain ⟨rfl,rfl⟩:=hf;rfl
 .obtain ⟨_,_,rfl,rfl,rfl,rfl⟩:=h;obtain ⟨rfl,rfl⟩:=hf;rfl
theorem Zd {s:zJ} (hok:s.ok=true) {o:Nat->O} {args:List S} {c:LJ} (hc:iM s o args=some c) (hf:c.fine s=true) :∀p∈c.ren,UJ (o p.2)=true->rH ((mk s.pin c.ins).o p.1)=rH (o p.2):=by
 unfold iM at hc;split at hc
 .rename_i u A gs r hsl;split at hc
  .rename_i u' I r' hob;simp only [Q0] at hc;subst hc;simp only [LJ.fine,Qt,XX,Og,Wl,decide_eq_true_eq,Wf,decide_eq_false_iff_not,X1,forall_exists_index,and_imp,forall_apply_eq_imp_iff₂] at hf;obtain ⟨⟨⟨hn2,hn1⟩,hdisj⟩,hkeys⟩:=hf;have hn1:=jB hn1;have hok':=hok;simp only [zJ.ok,Qt] at hok';obtain ⟨⟨⟨⟨⟨⟨⟨⟨abv,WQ⟩,hps⟩,hpo⟩,_⟩,_⟩,_⟩,_⟩,_⟩:=hok';have hm :∀p∈r',(fun g'=>(jW r').lookup g') p.1=some p.2:=fun p hp=>mF hn1 (mX.2 hp);have hAt:At (u++u') 0 (u++u'):=fun k y hk=>by rw [Wm];exact hk
   have ai5 :∀p∈s.pin.bf,match p.2 with | .box ws =>∀k∈ws,k.flags false true=true | .arr fz a i _=>fz=false/\a=false/\i=true | .aO a i _ _=>a=false/\i=true | .it=>False:=by
    intro p hp;have:=(XX.1 hpo) p hp;obtain ⟨g,k⟩:=p;cases k with
    |box ws=>
     simp only [Qt,XX] at this;exact fun k hk=>this.1 k hk
    |arr fz a i sz=>
     simp only [Qt,Wf] at this;exact ⟨this.1.1,this.1.2,this.2⟩
    |aO a i sz aj=>
     simp only [Qt,Wf] at this;exact this
    |it=>simp at this
   have QF:(dI (u++u') 0 s.pin.slots).2=u.length:=by
    have :∀{L:List (Nat×SS)} {us:List P} {c:Bool×Bool} {gs:List Nat} {r:List (Nat×Nat)} {n:Nat} (vs:List P),fD o args L=some (us,c,gs,r)->(∀p∈L,p.2.flags true false=true)->(dI vs n L).2=n+us.length:=by
     intro L
     induction L with
     |nil=>intro us c gs r n vs h _;simp [fD] at h;obtain ⟨rfl,_⟩:=h;rfl
     |cons p L ih=>
      intro us c gs r n vs h hk;obtain ⟨t0,k⟩:=p;simp only [fD] at h;split at h
      .rename_i u c1 g1 r1 u' c2 g2 r2 h1 h2;simp only [Q0,Q1] at h;obtain ⟨rfl,rfl,rfl,rfl⟩:=h;have e1:(mkS vs n k).2=n+u.length:=by
        have hkk:=hk (t0,k) (by simp);have one :∀(k:WS) (x:W) (us:List P) (c:Bool×Bool) (gs:List Nat) (r:List (Nat×Nat)) (n:Nat),fV o k x=some (us,c,gs,r)->(qm vs n k).2=n+us.length:=by
         intro k x us c gs r n h;cases k with
         |p a i=>
          simp only [fV] at h;split at h
          .simp only [Q0,Q1] at h;obtain ⟨rfl,_⟩:=h;rfl
          .cases h
         |own g'=>cases x<;>simp [fV] at h;obtain ⟨rfl,_⟩:=h;rfl
         |box g' off=>
          cases off with
          |succ off=>cases x<;>simp [fV] at h
          |zero=>
           cases x with
           |box g off=>cases off<;>simp [fV] at h;obtain ⟨rfl,_⟩:=h;rfl
           |_=>simp [fV] at h
         |dF=>simp [fV] at h
         |fn f gs0=>
          cases x with
          |clo f' caps=>
           simp only [fV] at h;split at h
           .split at h
            .simp only [Q0,Q1] at h;obtain ⟨rfl,_⟩:=h;rfl
            .cases h
           .cases h
          |_=>simp [fV] at h
         |ni g'=>simp [fV] at h
         |no=>simp [fV] at h
         |vw g'=>simp [fV] at h
         |ep g' off=>simp [fV] at h
        cases k with
        |one k=>
         generalize args.getD t0 S.no=z at h1;cases z with
         |v z=>
          cases z with
          |one z=>exact one k z _ _ _ _ n h1
          |agg z=>simp [oH] at h1
         |_=>simp [oH] at h1
        |agg ks=>
         generalize args.getD t0 S.no=z at h1;cases z with
         |v z=>
          cases z with
          |one z=>simp [oH] at h1
          |agg z=>
           have :∀(ks:List WS) (z:List W) (us:List P) (c:Bool×Bool) (gs:List Nat) (r:List (Nat×Nat)) (n:Nat),jJ o ks z=some (us,c,gs,r)->(kY vs n ks).2=n+us.length:=by
            intro ks
            induction ks with
            |nil=>intro z us c gs r n h;cases z<;>simp [jJ] at h;obtain ⟨rfl,_⟩:=h;rfl
            |cons k ks ih=>
             intro z us c gs r n h;cases z with
             |nil=>simp [jJ] at h
             |cons x xs=>
              simp only [jJ] at h;split at h
              .rename_i u c1 g1 r1 u' c2 g2 r2 h1 h2;simp only [Q0,Q1] at h;obtain ⟨rfl,rfl,rfl,rfl⟩:=h;simp only [kY];rw [one k x _ _ _ _ n h1,ih _ _ _ _ _ _ h2];simp;omega
              .cases h
           exact this ks z _ _ _ _ n h1
         |_=>simp [oH] at h1
       simp only [dI];rw [e1,ih vs h2 (fun p hp=>hk p (by simp [hp]))];simp;omega
      .cases h
    have:=this (n:=0) (u++u') hsl (fun p hp=>by have:=(XX.1 hps) p hp;simp only [Qt] at this;exact this.1);omega
   obtain ⟨⟨r0,hr0⟩,QG⟩:=t_ (m:=fun g'=>(jW r').lookup g') (nil:=fun _=>False) (I:=I) (ins:=u++u') (n:=u.length) hob ai5 (IG I) hm (by have:=hAt.right;rwa [Wm] at this);have DN :∀g' x,(mk s.pin (u++u')).o g'=x->x≠.none->∃g,(jW r').lookup g'=some g/\Ow (Cio I) (fun g'=>(jW r').lookup g') (fun _=>False) (o g) x/\(g',g)∈jW r'/\(o g).bP=true/\((∃ws,x=.box ws)\/(∃l sz,x=.arr false false true sz l)\/∃l sz aj,x=.aO false true sz aj l none):=by
    intro g' x hx hne;have:=UH (j:=s.pin) (vs:=u++u') (g:=g') (by rw [hx];exact hne);rw [QF,hx] at this;obtain ⟨g,k1,k2,k3,k4⟩:=QG g' x this;exact ⟨g,k1,k2,mX.2 k3,k4⟩
   intro p hp ha;have hkey:p.1∈s.pin.bf.map (·.1):=hkeys p hp;obtain ⟨x,hx⟩:=vT (vs:=u++u') (n:=u.length) hkey;obtain ⟨g,hg,how,hmem,hown,hsh⟩:=QG p.1 x hx;have hl:=mF hn1 hp;have:g=p.2:=by have hg':(jW r').lookup p.1=some g:=hg;rw [hl] at hg';exact (Wc hg').symm
   subst this;have hmk:(mk s.pin (u++u')).o p.1=x:=by
    show (match (gW (u++u') (dI (u++u') 0 s.pin.slots).2 s.pin.bf).1.lookup p.1 with | some x=>x | none=>O.none)=x;rw [QF,hx]
   rw [hmk];generalize hz:o p.2=z at how ha;rcases hsh with ⟨ws,rfl⟩ | ⟨l,sz,rfl⟩ | ⟨l,sz,aj,rfl⟩
   .cases how;cases ha
   .cases how;rfl
   .cases how;rfl
  .cases hc
 .cases hc
theorem UL (h:Rel E st gh val w) {s:zJ} (hok:s.ok=true) {args:List S} {vals:Nat->Value} (hr :∀t,dL E st gh w (args.getD t .no) (vals t)) {c:LJ} (hc:iM s st.o args=some c) (hf:c.fine s=true)
  (st1:St) (hst1:st1=st.aK (c.uZ.map (Fw.aW st.o)) []) (E':Env) (hE':E'=WO h st1 c) :
  Rel E st1 gh val w/\Lets E st st1 gh gh w w/\Rel E' (mk s.pin c.ins) (jV gh fun g'=>c.ren.lookup g') vals w/\
  (∀p∈c.ren,(st.o p.2).bP=true/\p.2∉c.uZ/\c.ren.lookup p.1=some p.2/\((s.bD.contains p.1=true/\∃ws ws',st.o p.2=.box ws/\(mk s.pin c.ins).o p.1=.box ws')\/(∃a i sz l,st.o p.2=.arr false a i sz l/\cin (a,i) c.I/\(mk s.pin c.ins).o p.1=.arr false false true sz l)\/(∃a i sz aj l,st.o p.2=.aO a i sz aj l none/\cin (a,i) c.I/\(mk s.pin c.ins).o p.1=.aO false true sz aj l none))):=by
 unfold iM at hc;split at hc
 .rename_i u A gs r hsl;split at hc
  .rename_i u' I r' hob;simp only [Q0] at hc;subst hc;simp only [LJ.fine,Qt,XX,Og,Wl,decide_eq_true_eq,Wf,decide_eq_false_iff_not,X1,forall_exists_index,and_imp,forall_apply_eq_imp_iff₂] at hf;obtain ⟨⟨⟨hn2,hn1⟩,hdisj⟩,hkeys⟩:=hf;have hn1:=jB hn1;have hok':=hok;simp only [zJ.ok,Qt] at hok';obtain ⟨⟨⟨⟨⟨⟨⟨⟨abv,WQ⟩,hps⟩,hpo⟩,_⟩,_⟩,_⟩,_⟩,_⟩:=hok';have ai6:=vS hsl;obtain ⟨f1,f2⟩:=Rel.freezes gs h ai6;subst hst1;have hm :∀p∈r',(fun g'=>(jW r').lookup g') p.1=some p.2:=fun p hp=>mF hn1 (mX.2 hp);have hAt:At (u++u') 0 (u++u'):=fun k y hk=>by rw [Wm];exact hk
   have ai5 :∀p∈s.pin.bf,match p.2 with | .box ws =>∀k∈ws,k.flags false true=true | .arr fz a i _=>fz=false/\a=false/\i=true | .aO a i _ _=>a=false/\i=true | .it=>False:=by
    intro p hp;have:=(XX.1 hpo) p hp;obtain ⟨g,k⟩:=p;cases k with
    |box ws=>
     simp only [Qt,XX] at this;exact fun k hk=>this.1 k hk
    |arr fz a i sz=>
     simp only [Qt,Wf] at this;exact ⟨this.1.1,this.1.2,this.2⟩
    |aO a i sz aj=>
     simp only [Qt,Wf] at this;exact this
    |it=>simp at this
   have QF:(dI (u++u') 0 s.pin.slots).2=u.length:=by
    have :∀{L:List (Nat×SS)} {us:List P} {c:Bool×Bool} {gs:List Nat} {r:List (Nat×Nat)} {n:Nat} (vs:List P),fD st.o args L=some (us,c,gs,r)->(∀p∈L,p.2.flags true false=true)->(dI vs n L).2=n+us.length:=by
     intro L
     induction L with
     |nil=>intro us c gs r n vs h _;simp [fD] at h;obtain ⟨rfl,_⟩:=h;rfl
     |cons p L ih=>
      intro us c gs r n vs h hk;obtain ⟨t0,k⟩:=p;simp only [fD] at h;split at h
      .rename_i u c1 g1 r1 u' c2 g2 r2 h1 h2;simp only [Q0,Q1] at h;obtain ⟨rfl,rfl,rfl,rfl⟩:=h;have e1:(mkS vs n k).2=n+u.length:=by
        have hkk:=hk (t0,k) (by simp);have one :∀(k:WS) (x:W) (us:List P) (c:Bool×Bool) (gs:List Nat) (r:List (Nat×Nat)) (n:Nat),fV st.o k x=some (us,c,gs,r)->(qm vs n k).2=n+us.length:=by
         intro k x us c gs r n h;cases k with
         |p a i=>
          simp only [fV] at h;split at h
          .simp only [Q0,Q1] at h;obtain ⟨rfl,_⟩:=h;rfl
          .cases h
         |own g'=>cases x<;>simp [fV] at h;obtain ⟨rfl,_⟩:=h;rfl
         |box g' off=>
          cases off with
          |succ off=>cases x<;>simp [fV] at h
          |zero=>
           cases x with
           |box g off=>cases off<;>simp [fV] at h;obtain ⟨rfl,_⟩:=h;rfl
           |_=>simp [fV] at h
         |dF=>simp [fV] at h
         |fn f gs0=>
          cases x with
          |clo f' caps=>
           simp only [fV] at h;split at h
           .split at h
            .simp only [Q0,Q1] at h;obtain ⟨rfl,_⟩:=h;rfl
            .cases h
           .cases h
          |_=>simp [fV] at h
         |ni g'=>simp [fV] at h
         |no=>simp [fV] at h
         |vw g'=>simp [fV] at h
         |ep g' off=>simp [fV] at h
        cases k with
        |one k=>
         generalize args.getD t0 S.no=z at h1;cases z with
         |v z=>
          cases z with
          |one z=>exact one k z _ _ _ _ n h1
          |agg z=>simp [oH] at h1
         |_=>simp [oH] at h1
        |agg ks=>
         generalize args.getD t0 S.no=z at h1;cases z with
         |v z=>
          cases z with
          |one z=>simp [oH] at h1
          |agg z=>
           have :∀(ks:List WS) (z:List W) (us:List P) (c:Bool×Bool) (gs:List Nat) (r:List (Nat×Nat)) (n:Nat),jJ st.o ks z=some (us,c,gs,r)->(kY vs n ks).2=n+us.length:=by
            intro ks
            induction ks with
            |nil=>intro z us c gs r n h;cases z<;>simp [jJ] at h;obtain ⟨rfl,_⟩:=h;rfl
            |cons k ks ih=>
             intro z us c gs r n h;cases z with
             |nil=>simp [jJ] at h
             |cons x xs=>
              simp only [jJ] at h;split at h
              .rename_i u c1 g1 r1 u' c2 g2 r2 h1 h2;simp only [Q0,Q1] at h;obtain ⟨rfl,rfl,rfl,rfl⟩:=h;simp only [kY];rw [one k x _ _ _ _ n h1,ih _ _ _ _ _ _ h2];simp;omega
              .cases h
           exact this ks z _ _ _ _ n h1
         |_=>simp [oH] at h1
       simp only [dI];rw [e1,ih vs h2 (fun p hp=>hk p (by simp [hp]))];simp;omega
      .cases h
    have:=this (n:=0) (u++u') hsl (fun p hp=>by have:=(XX.1 hps) p hp;simp only [Qt] at this;exact this.1);omega
   obtain ⟨⟨r0,hr0⟩,QG⟩:=t_ (m:=fun g'=>(jW r').lookup g') (nil:=fun _=>False) (I:=I) (ins:=u++u') (n:=u.length) hob ai5 (IG I) hm (by have:=hAt.right;rwa [Wm] at this);have DN :∀g' x,(mk s.pin (u++u')).o g'=x->x≠.none->∃g,(jW r').lookup g'=some g/\Ow (Cio I) (fun g'=>(jW r').lookup g') (fun _=>False) (st.o g) x/\(g',g)∈jW r'/\(st.o g).bP=true/\((∃ws,x=.box ws)\/(∃l sz,x=.arr false false true sz l)\/∃l sz aj,x=.aO false true sz aj l none):=by
    intro g' x hx hne;have:=UH (j:=s.pin) (vs:=u++u') (g:=g') (by rw [hx];exact hne);rw [QF,hx] at this;obtain ⟨g,k1,k2,k3,k4⟩:=QG g' x this;exact ⟨g,k1,k2,mX.2 k3,k4⟩
   have iI :∀p∈jW r',(st.o p.2).bP=true/\p.2∉gs/\(jW r').lookup p.1=some p.2/\((s.bD.contains p.1=true/\∃ws ws',st.o p.2=.box ws/\(mk s.pin (u++u')).o p.1=.box ws')\/(∃a i sz l,st.o p.2=.arr false a i sz l/\cin (a,i) I/\(mk s.pin (u++u')).o p.1=.arr false false true sz l)\/(∃a i sz aj l,st.o p.2=.aO a i sz aj l none/\cin (a,i) I/\(mk s.pin (u++u')).o p.1=.aO false true sz aj l none)):=by
    intro p hp;have hkey:p.1∈s.pin.bf.map (·.1):=hkeys p hp;obtain ⟨x,hx⟩:=vT (vs:=u++u') (n:=u.length) hkey;obtain ⟨g,hg,how,hmem,hown,_⟩:=QG p.1 x hx;have hl:=mF hn1 hp;have:g=p.2:=by have hg':(jW r').lookup p.1=some g:=hg;rw [hl] at hg';exact (Wc hg').symm
    subst this;refine ⟨hown,hdisj p hp,hl,?_⟩;have hmk:(mk s.pin (u++u')).o p.1=x:=by
     show (match (gW (u++u') (dI (u++u') 0 s.pin.slots).2 s.pin.bf).1.lookup p.1 with | some x=>x | none=>O.none)=x;rw [QF,hx]
    obtain ⟨k,n',h1,h2⟩:=kZ hx;have hk:=(XX.1 hpo) _ h1;rw [hmk];subst h2;cases k with
    |box ws=>
     simp only [Qt] at hk;generalize hz:st.o p.2=z at how;cases how;exact .inl ⟨hk.2,_,_,rfl,rfl⟩
    |arr fz a i sz=>
     simp only [Qt,Wf] at hk;obtain ⟨⟨rfl,rfl⟩,rfl⟩:=hk;generalize hz:st.o p.2=z at how;refine .inr (.inl ?_);cases how with | arr _ _ _ hc=>exact ⟨_,_,_,_,rfl,hc.2.2,rfl⟩
    |aO a i sz aj=>
     simp only [Qt,Wf] at hk;obtain ⟨rfl,rfl⟩:=hk;generalize hz:st.o p.2=z at how;refine .inr (.inr ?_);cases how with | aO _ _ _ hc=>exact ⟨_,_,_,_,_,rfl,hc.2.2,rfl⟩
    |it=>simp at hk
   have pU :∀g' b,((mk s.pin (u++u')).o g').bP=true->(jV gh (fun g'=>(jW r').lookup g') g').has b->∃g,(g',g)∈jW r'/\(st.o g).bP=true/\(gh g).has b/\g∉gs:=by
    intro g' b ho had;obtain ⟨g,hg,_,hmem,hown,_⟩:=DN g' _ rfl (by intro e;rw [e] at ho;cases ho);refine ⟨g,hmem,hown,?_,(iI _ hmem).2.1⟩;simpa [jV,hg] using had
   have alE :∀g,g∉gs->(st.aK (gs.map (Fw.aW st.o)) []).o g=st.o g:=by
    intro g hg;rw [gK,if_neg hg]
   have hcast:Cast (Cio I) (fun g'=>(jW r').lookup g') (fun _=>False) E E' st (mk s.pin (u++u')) gh (jV gh fun g'=>(jW r').lookup g') w:=by
    refine ⟨fun a i a' i' b hC hb => ?_,fun g g' hg sz len ho=>⟨by simp only [jV,hg];exact ⟨trivial,trivial⟩,?_⟩,fun g g' hg ws ho=>⟨by simp only [jV,hg],?_⟩,fun g g' hg s n ho=>⟨by simp only [jV,hg],?_⟩,fun g' hf=>hf.elim⟩
    .obtain ⟨rfl,rfl,hci⟩:=hC;subst hE';refine ⟨.inr (.inl ⟨rfl,.inl (Env.pq hci.1 hci.2 hb)⟩),hb.2.1,fun g' ho had => ?_⟩;obtain ⟨g,_,h1,h2,_⟩:=pU g' b ho had;exact hb.2.2 g h1 h2
    .obtain ⟨g2,hg2,how,_⟩:=DN g' _ rfl (by intro e;rw [e] at ho;cases ho);rw [hg] at hg2;cases hg2;exact how.dim ho
    .obtain ⟨g2,hg2,how,_⟩:=DN g' _ ho (by simp);rw [hg] at hg2;cases hg2;generalize st.o g=z at how;cases how;exact ⟨_,rfl⟩
    .obtain ⟨g2,hg2,how,_⟩:=DN g' _ ho (by simp);rw [hg] at hg2;cases hg2;generalize st.o g=z at how;cases how;exact ⟨_,_,rfl⟩
   have hP :∀x v y a i gs',fF E st gh w x v->x.toP st.o=some (y,a,i,gs')->cin (a,i) A->(∀g∈gs',g∈gs)->dh w (E'.ok (mk s.pin (u++u')) (jV gh fun g'=>(jW r').lookup g') w true false) y v:=by
    intro x v y a i gs' hrx ht hci hsub;have:=(NY h hrx ht).2 _ (fun g hg=>by rw [gK,if_pos (hsub g hg)]) f1 f2;refine this.mono fun b hb=>⟨?_,rfl⟩;subst hE';refine ⟨.inl ⟨rfl,Env.pq hci.1 hci.2 hb⟩,hb.2.1,fun g' ho had => ?_⟩;obtain ⟨g,_,h1,h2,h3⟩:=pU g' b ho had;exact hb.2.2 g (by rw [alE g h3];exact h1) h2
   have apw :∀p∈s.pin.slots,p.2.flags true false=true:=fun p hp=>by have:=(XX.1 hps) p hp;simp only [Qt] at this;exact this.1
   have sO:=(BO hP hcast hr (n:=0) hsl apw (IG A) (fun g hg=>hg) (fun p hp=>hm p (by rw [hr0];exact W6 _ hp)) hAt.left).1;have hus:=ahB abv (u++u');refine ⟨f1,f2,⟨fun t => ?_,fun g' => ?_,fun g1 g2 b h1 h2 k1 k2 => ?_,fun g' b ho had => ?_,fun g' i b ho had hw => ?_,fun g' ho hd b => ?_,fun b hb => ?_,fun b _ _ => ?_,?_,?_,?_,?_,hus.1,hus.2.1,hus.2.2⟩,iI⟩
   .show dL _ _ _ _ (match (dI (u++u') 0 s.pin.slots).1.lookup t with | some x=>x | none=>.no) _;cases hx:(dI (u++u') 0 s.pin.slots).1.lookup t with
    |none=>exact .no _
    |some x=>exact sO t x hx
   .by_cases hne:(mk s.pin (u++u')).o g'=.none
    .rw [hne];trivial
    .obtain ⟨g,hg,how,_⟩:=DN g' _ rfl hne;have:jV gh (fun g'=>(jW r').lookup g') g'=gh g:=by simp only [jV,hg]
     rw [this];exact hcast.Bq how (h.bf g)
   .obtain ⟨q1,m1,o1,d1,_⟩:=pU g1 b h1 k1;obtain ⟨q2,m2,o2,d2,_⟩:=pU g2 b h2 k2;have:=h.inj q1 q2 b o1 o2 d1 d2;subst this;have hn2:=jB hn2;have key :∀{l:List (Nat×Nat)},(l.map (·.2)).Nodup->(g1,q1)∈l->(g2,q1)∈l->g1=g2:=by
     intro l
     induction l with
     |nil=>intro _ h;cases h
     |cons p l ih=>
      intro hn e1 e2;simp only [Qf,UT] at hn;rcases QQ.1 e1 with f1 | f1<;>rcases QQ.1 e2 with f2 | f2
      .rw [<-f1] at f2;cases f2;rfl
      .have:q1∈l.map (·.2):=X1.2 ⟨(g2,q1),f2,rfl⟩;rw [<-f1] at hn;exact absurd this hn.1
      .have:q1∈l.map (·.2):=X1.2 ⟨(g1,q1),f1,rfl⟩;rw [<-f2] at hn;exact absurd this hn.1
      .exact ih hn.2 f1 f2
    exact key hn2 m1 m2
   .obtain ⟨g,hmem,h1,h2,_⟩:=pU g' b ho had;subst hE';exact ⟨.inr ⟨(g',g),hmem,h1,h2⟩,(h.wr g b h1 h2).2⟩
   .obtain ⟨g,hg,how,hmem,hown,hsh⟩:=DN g' _ rfl (by intro e;rw [e] at ho;cases ho);rcases hsh with ⟨ws,e⟩ | ⟨l',sz',e⟩ | ⟨l',sz',aj,e⟩
    .rw [e] at ho;cases ho
    .rw [e] at ho;cases ho;rfl
    .rw [e] at ho;cases ho;rfl
   .obtain ⟨g,hg,how,hmem,hown,hsh⟩:=DN g' _ rfl (by intro e;rw [e] at ho;cases ho);have e:jV gh (fun g'=>(jW r').lookup g') g'=gh g:=by simp only [jV,hg]
    rw [e];exact h.ns g hown (by rw [(how.bP ho).2];exact hd) b
   .subst hE';obtain ⟨p,hp,_,h1⟩:=hb;exact (h.wr p.2 b (iI p hp).1 h1).2
   .subst hE';rfl
   .subst hE';exact Z1 _
   .subst hE';rfl
   .subst hE';rfl
   .subst hE';rfl
  .cases hc
 .cases hc
end
end Go.Fw

namespace Go.Fw
variable [eX]
def Fj (A I:Bool×Bool) (lk:Bool) (a i a' i':Bool):Prop:=(a',i')=qH A I a i/\(a=true->lk=true)
section
variable {A I:Bool×Bool} {lk:Bool} {m:Nat->Option Nat} {f:Nat->Nat} {aV:List Nat} {vs:List P}
theorem ahC (hm :∀g∈aV,m (f g)=some g) {k:WS} (hk:k.dH aV=true) (hl:k.isA=true->lk=true) (n:Nat) :
  Ww (Fj A I lk) m (fun _=>False) (qm vs n k).1 (Uo A I f (qm vs n k).1)/\∀g∈(Uo A I f (qm vs n k).1).names,∃g0∈aV,g=f g0:=by
 cases k with
 |p a i=>exact ⟨.p _ ⟨rfl,hl⟩,by simp [qm,Uo,W.names]⟩
 |own g=>
  simp only [WS.dH,Wl,decide_eq_true_eq] at hk;exact ⟨.own (hm g hk),fun g' hg'=>⟨g,hk,by simpa [qm,Uo,W.names] using hg'⟩⟩
 |dF=>exact ⟨.dF,by simp [qm,Uo,W.names]⟩
 |box g off=>
  simp only [WS.dH,Wl,decide_eq_true_eq] at hk;exact ⟨.box (hm g hk),fun g' hg'=>⟨g,hk,by simpa [qm,Uo,W.names] using hg'⟩⟩
 |fn fn gs=>
  have hk :∀g∈gs,g∈aV:=by simpa [WS.dH,XX] using hk
  have key :∀(gs:List Nat),(∀g∈gs,g∈aV)->(gV gs).length=(kR f (gV gs)).length/\(∀(j:Nat) x y,(gV gs)[j]?=some x->(kR f (gV gs))[j]?=some y->Ww (Fj A I lk) m (fun _=>False) x y)/\∀g∈(kR f (gV gs)).flatMap W.names,∃g0∈aV,g=f g0:=by
   intro gs
   induction gs with
   |nil=>intro _;exact ⟨rfl,fun j x y hx=>(by simp [gV] at hx),by simp [gV,kR]⟩
   |cons g gs ih=>
    intro h;obtain ⟨e1,e2,e3⟩:=ih fun g hg=>h g (by simp [hg]);refine ⟨by simp [gV,kR,e1],fun j x y hx hy => ?_,fun g' hg' => ?_⟩
    .cases j with
     |zero=>
      simp [gV,kR] at hx hy;subst hx hy;exact .box (hm g (h g (by simp)))
     |succ j=>simp [gV,kR] at hx hy;exact e2 j x y hx hy
    .simp only [gV,kR,Z6,X2] at hg';rcases hg' with hg' | hg'
     .exact ⟨g,h g (by simp),by simpa [W.names] using hg'⟩
     .exact e3 g' hg'
  obtain ⟨e1,e2,e3⟩:=key gs hk;exact ⟨.clo fn _ _ e1 e2,fun g hg=>by
   have hg:g∈(W.clo fn (kR f (gV gs))).names:=hg;rw [tY] at hg;exact e3 g hg⟩
 |ni g=>cases hk
 |no=>cases hk
 |vw g=>cases hk
 |ep g off=>cases hk
theorem QH :∀{ks:List WS} {n:Nat} {x:W},x∈(kY vs n ks).1->∃k∈ks,∃n',x=(qm vs n' k).1
 | [],n,x,h=>by simp [kY] at h
 |k::ks,n,x,h=>by
  simp only [kY,QQ] at h;rcases h with h | h
  .exact ⟨k,by simp,n,h⟩
  .obtain ⟨k',h1,h2⟩:=QH h;exact ⟨k',by simp [h1],h2⟩
theorem abw (hm :∀g∈aV,m (f g)=some g) {ks:List WS} (hk:ks.all (WS.dH aV)=true) (hl:ks.any WS.isA=true->lk=true) (n:Nat) :
  (∀(j:Nat) x y,(kY vs n ks).1[j]?=some x->((kY vs n ks).1.map (Uo A I f))[j]?=some y->Ww (Fj A I lk) m (fun _=>False) x y)/\
  ∀g∈((kY vs n ks).1.map (Uo A I f)).flatMap W.names,∃g0∈aV,g=f g0:=by
 have key :∀x∈(kY vs n ks).1,Ww (Fj A I lk) m (fun _=>False) x (Uo A I f x)/\∀g∈(Uo A I f x).names,∃g0∈aV,g=f g0:=by
  intro x hx;obtain ⟨k,h1,n',rfl⟩:=QH hx;exact ahC hm ((XX.1 hk) k h1) (fun h=>hl (Kb.2 ⟨k,h1,h⟩)) n'
 refine ⟨fun j x y hx hy => ?_,fun g hg => ?_⟩
 .rw [XS,hx] at hy;simp only [Z3,Q0] at hy;subst hy;exact (key x (XN hx)).1
 .simp only [Z0,X1] at hg;obtain ⟨_,⟨x,hx,rfl⟩,hg⟩:=hg;exact (key x hx).2 g hg
theorem alF (hm :∀g∈aV,m (f g)=some g) {k:SS} (hk:k.dH aV=true) (hl:k.isA=true->lk=true) (n:Nat) :
  ∃x,(mkS vs n k).1=.v x/\Vw (Fj A I lk) m (fun _=>False) x (reV A I f x)/\∀g∈(reV A I f x).names,∃g0∈aV,g=f g0:=by
 cases k with
 |one k=>
  obtain ⟨h1,h2⟩:=ahC (vs:=vs) (A:=A) (I:=I) hm hk hl n;exact ⟨_,rfl,.one h1,h2⟩
 |agg ks=>
  obtain ⟨h1,h2⟩:=abw (vs:=vs) (A:=A) (I:=I) hm hk hl n;exact ⟨_,rfl,.agg _ _ (by simp) h1,h2⟩
theorem alG (hm :∀g∈aV,m (f g)=some g) {k:OS} (hk :∀ws,k=.box ws->ws.all (WS.dH aV)=true) (hl:k.isA=true->lk=true) (n:Nat) :
  Ow (Fj A I lk) m (fun _=>False) (tV vs n k).1 (wY A I f (tV vs n k).1)/\∀g∈(wY A I f (tV vs n k).1).names,∃g0∈aV,g=f g0:=by
 cases k with
 |box ks=>
  obtain ⟨h1,h2⟩:=abw (vs:=vs) (A:=A) (I:=I) hm (hk ks rfl) hl n;exact ⟨.box _ _ (by simp) h1,h2⟩
 |arr fz a i sz=>exact ⟨.arr _ _ _ ⟨rfl,hl⟩,by simp [tV,wY,O.names]⟩
 |it=>exact ⟨.it _ _,by simp [tV,wY,O.names]⟩
 |aO a i sz aj=>exact ⟨.aO _ _ _ ⟨rfl,hl⟩,by simp [tV,wY,O.names,dN]⟩
end
theorem LU {A I:Bool×Bool} {f:Nat->Nat} (x:O):(wY A I f x).bP=x.bP:=by cases x<;>rfl
theorem UM {A I:Bool×Bool} {f:Nat->Nat} (x:O):(wY A I f x).oz=x.oz:=by cases x<;>rfl
theorem afb {A I:Bool×Bool} {f:Nat->Nat} (x:O):(wY A I f x).dim=x.dim:=by cases x<;>rfl
theorem Ze {A I:Bool×Bool} {f:Nat->Nat} {x:O} {i:Bool} (h:(wY A I f x).inner=some i) :∃a i0,x.inner=some i0/\i=(qH A I a i0).2:=by
 cases x with
 |arr fz a i0 sz l=>
  cases fz with
  |false=>cases h;exact ⟨a,i0,rfl,rfl⟩
  |true=>cases h
 |aO a i0 sz aj l hole=>cases h;exact ⟨a,i0,rfl,rfl⟩
 |_=>cases h
theorem afc {A I:Bool×Bool} {f:Nat->Nat} {x:O} {ws:List W} (h:wY A I f x=.box ws) :∃ws',x=.box ws':=by cases x<;>first | exact ⟨_,rfl⟩ | cases h
theorem ai7 {A I:Bool×Bool} {f:Nat->Nat} {x:O} {s n:P} (h:wY A I f x=.it s n) :∃s' n',x=.it s' n':=by cases x<;>first | exact ⟨_,_,rfl⟩ | cases h
theorem Fp {d:Nat} {aV:List Nat} {g g':Nat} (hg:g∈aV) (h:newName d aV g=newName d aV g'):g=g':=by
 unfold newName at h;have e:aV.idxOf g=aV.idxOf g':=by omega
 have h1:aV.idxOf g<aV.length:=List.idxOf_lt_length_of_mem hg;have h2:aV.idxOf g'<aV.length:=by omega
 have a1:=List.getElem_idxOf h1;have a2:=List.getElem_idxOf h2;rw [<-a1,<-a2];congr 1
def xK (d:Nat) (aV:List Nat) (g:Nat):Option Nat:=aV.find? fun g0=>newName d aV g0==g
theorem Oj {d:Nat} {aV:List Nat} {g:Nat} (hg:g∈aV):xK d aV (newName d aV g)=some g:=by
 unfold xK;cases h:aV.find? fun g0=>newName d aV g0==newName d aV g with
 |none=>have:=List.find?_eq_none.1 h g hg;simp at this
 |some g'=>
  have h1:=qt h;simp only [beq_iff_eq] at h1;rw [Fp (K7 h) h1]
theorem KT {d:Nat} {aV:List Nat} {g g0:Nat} (h:xK d aV g=some g0):g0∈aV/\newName d aV g0=g:=by
 unfold xK at h;exact ⟨K7 h,by simpa using qt h⟩
theorem lI {α:Type} {g:Nat} :∀{l r:List (Nat×α)},(l++r).lookup g=(l.lookup g).or (r.lookup g)
 | [],r=>by simp
 |(k,v)::l,r=>by
  simp only [K5,List.lookup];split
  .rfl
  .exact lI
theorem xM {α:Type} {k:Nat->Nat} {v:Nat->α} {g:Nat} :∀{l:List Nat},(∀g'∈l,k g'≠g)->(l.map fun x=>(k x,v x)).lookup g=none
 | [],_=>rfl
 |x::l,h=>by
  have:(g==k x)=false:=by have:=h x (by simp);simp;exact fun e=>this e.symm
  simp only [Qf,List.lookup,this];exact xM fun g' hg'=>h g' (by simp [hg'])
theorem wM {α:Type} {k:Nat->Nat} {v:Nat->α} {g0:Nat} :∀{l:List Nat},g0∈l->(∀g'∈l,k g'=k g0->g'=g0)->(l.map fun x=>(k x,v x)).lookup (k g0)=some (v g0)
 | [],h,_=>by cases h
 |x::l,h,hi=>by
  simp only [Qf,List.lookup];by_cases e:k x=k g0
  .have:=hi x (by simp) e;subst this;simp
  .have:(k g0==k x)=false:=by simp;exact fun h=>e h.symm
   rw [this];rcases QQ.1 h with h | h
   .subst h;exact absurd rfl e
   .exact wM h fun g' hg'=>hi g' (by simp [hg'])
theorem lg {α:Type} {v:Nat×Nat->α} {p:Nat×Nat} :∀{l:List (Nat×Nat)},(l.map (·.2)).Nodup->p∈l->(l.map fun p=>(p.2,v p)).lookup p.2=some (v p)
 | [],_,h=>by cases h
 |x::l,hn,h=>by
  simp only [Qf,UT] at hn;simp only [Qf,List.lookup];rcases QQ.1 h with h | h
  .subst h;simp
  .have:(p.2==x.2)=false:=by
    simp only [beq_eq_false_iff_ne];intro e;exact hn.1 (e▸X1.2 ⟨p,h,rfl⟩)
   rw [this];exact lg hn.2 h
theorem lQ {α:Type} {v:Nat×Nat->α} {g:Nat} :∀{l:List (Nat×Nat)},g∉l.map (·.2)->(l.map fun p=>(p.2,v p)).lookup g=none
 | [],_=>rfl
 |x::l,h=>by
  simp only [Qf,QQ,not_or] at h;have:(g==x.2)=false:=by simpa using h.1
  simp only [Qf,List.lookup,this];exact lQ h.2
theorem O.LV {z:O} (h:O.none.like z):z=.none:=by cases z<;>first | rfl | exact h.elim
theorem O.II {x y z:O} (h1:x.like y) (h2:y.like z):z=.none\/x.like z:=.inr (O.like.trans h1 h2)
theorem UN {s:zJ} {o:Nat->O} {args:List S} {c:LJ} (hc:iM s o args=some c):xw o c.uZ:=by
 unfold iM at hc;split at hc
 .rename_i hsl;split at hc
  .simp only [Q0] at hc;subst hc;exact vS hsl
  .cases hc
 .cases hc
theorem Af {α:Type} {g:Nat} {v:α} :∀{l:List (Nat×α)},l.lookup g=some v->(g,v)∈l
 | [],h=>by cases h
 |(k,x)::l,h=>by
  simp only [List.lookup] at h;split at h
  .rename_i e;simp only [beq_iff_eq] at e;cases h;subst e;simp
  .exact VM _ (Af h)
theorem rJ {o:Nat->O} :∀{L:List (Nat×OS)} {r r':List (Nat×Nat)} {u:List P} {c:Bool×Bool},jG o r L=some (u,c,r')->(∀p∈r,p∈r')/\∀p∈L,∃q∈r',q.1=p.1
 | [],r,r',u,c,h=>by simp only [jG,Q0,Q1] at h;obtain ⟨_,_,rfl⟩:=h;exact ⟨fun p hp=>hp,fun p hp=>by cases hp⟩
 |(g',k)::rest,r,r',u,c,h=>by
  simp only [jG] at h;split at h
  .rename_i g hg;have hmem:=Af hg;have fin :∀{r1:List (Nat×Nat)},(∀p∈r,p∈r1)->((∀p∈r1,p∈r')/\∀p∈rest,∃q∈r',q.1=p.1)->(∀p∈r,p∈r')/\∀p∈(g',k)::rest,∃q∈r',q.1=p.1:=by
    intro r1 h1 ⟨h2,h3⟩;refine ⟨fun p hp=>h2 p (h1 p hp),fun p hp => ?_⟩;rcases QQ.1 hp with rfl | hp
    .exact ⟨_,h2 _ (h1 _ hmem),rfl⟩
    .exact h3 p hp
   split at h
   .split at h
    .split at h
     .rename_i h2;simp only [Q0,Q1] at h;obtain ⟨_,_,rfl⟩:=h;exact fin (fun p hp=>W6 _ hp) (rJ h2)
     .cases h
    .cases h
   .split at h
    .split at h
     .rename_i h2;simp only [Q0,Q1] at h;obtain ⟨_,_,rfl⟩:=h;exact fin (fun p hp=>hp) (rJ h2)
     .cases h
    .cases h
   .split at h
    .split at h
     .rename_i h2;simp only [Q0,Q1] at h;obtain ⟨_,_,rfl⟩:=h;exact fin (fun p hp=>hp) (rJ h2)
     .cases h
    .cases h
   .cases h
  .cases h
theorem afd {j:Shape} {vs:List P} {g:Nat} {a i:Bool} {sz:Nat} {aj:List (Nat×Nat)} {l:List (List P)} {hole:Option (Nat×Nat×Nat)} (h:(mk j vs).o g=.aO a i sz aj l hole):hole=none:=by
 have h1:=UH (j:=j) (vs:=vs) (g:=g) (by rw [h];simp);obtain ⟨k,n',_,h2⟩:=kZ h1;rw [h] at h2;cases k<;>simp [tV] at h2;exact h2.2.2.2.2.2
theorem IJ {s:zJ} {d:Nat} {o:Nat->O} {c:LJ} {dH:List P} (hf:c.fine s=true) {p:Nat×Nat} (hp:p∈c.ren) (KF:s.bD.contains p.1=true) :
  (kT s d o c dH).aK.lookup p.2=some (wY c.A c.I (callName d s c.ren) ((mk s.aT dH).o p.1)):=by
 simp only [LJ.fine,Qt] at hf;obtain ⟨⟨⟨hn2,hn1⟩,hdisj⟩,hkeys⟩:=hf;have hnb:p.2∉c.uZ:=by
  have:=(XX.1 hdisj) p.2 (X1.2 ⟨p,hp,rfl⟩);simpa using this
 have h1:(if s.mD=true then c.uZ.map (aW o) else []).lookup p.2=none:=by
  split
  .have :∀(l:List Nat),p.2∉l->(l.map (aW o)).lookup p.2=none:=by
    intro l
    induction l with
    |nil=>intro _;rfl
    |cons g l ih=>
     intro hl;simp only [QQ,not_or] at hl;have e:(p.2==(aW o g).1)=false:=by
      have:(aW o g).1=g:=rfl;rw [this];simpa using hl.1
     simp only [Qf,List.lookup,e];exact ih hl.2
   exact this _ hnb
  .rfl
 have h2:=lg (v:=fun p=>if s.bD.contains p.1=true then wY c.A c.I (callName d s c.ren) ((mk s.aT dH).o p.1) else .none) (jB hn2) hp;rw [if_pos KF] at h2;show (((if s.mD=true then c.uZ.map (aW o) else [])++c.ren.map _)++s.aV.map _).lookup p.2=_;rw [lI,lI,h1,h2];rfl
theorem Zf {s:zJ} (hok:s.ok=true) {d:Nat} {o:Nat->O} {args:List S} {c:LJ} (hc:iM s o args=some c) (hf:c.fine s=true) {dH:List P} {p:Nat×Nat} (hp:p∈c.ren) (KF:s.bD.contains p.1=true)
  (hk:rH ((mk s.aT dH).o p.1)=rH ((mk s.pin c.ins).o p.1)) (ha:UJ (o p.2)=true) (hfl:sS (wY c.A c.I (callName d s c.ren) ((mk s.aT dH).o p.1))=sS (o p.2)) :
  (kT s d o c dH).aK.lookup p.2=some (o p.2):=by
 rw [IJ hf hp KF];have hcore:=hk.trans (Zd hok hc hf p hp ha);have hm:=fun {a i:Bool} {sz:Nat} {aj:List (Nat×Nat)} {l:List (List P)} {hole:Option (Nat×Nat×Nat)}=>afd (j:=s.aT) (vs:=dH) (g:=p.1) (a:=a) (i:=i) (sz:=sz) (aj:=aj) (l:=l) (hole:=hole);congr 1;generalize (mk s.aT dH).o p.1=x at hcore hfl hm;have e:rH (wY c.A c.I (callName d s c.ren) x)=rH (o p.2):=by
  rw [<-hcore];cases x with
  |aO a i sz aj l hole=>have:=hm rfl;subst this;rfl
  |arr fz a i sz l=>rfl
  |_=>
   generalize o p.2=z at hcore ha;cases z<;>first | (cases ha;done) | (simp [rH] at hcore;done)
 exact (UK e.symm hfl.symm ha).symm
theorem QI {s:zJ} {o:Nat->O} {args:List S} {c:LJ} (hc:iM s o args=some c) :∀p∈s.pin.bf,∃q∈c.ren,q.1=p.1:=by
 unfold iM at hc;split at hc
 .split at hc
  .rename_i KF;simp only [Q0] at hc;subst hc;exact fun p hp=>let ⟨q,h1,h2⟩:=(rJ KF).2 p hp;⟨q,mX.2 h1,h2⟩
  .cases hc
 .cases hc
section
variable {E:Env} {st:St} {gh:Nat->Gh} {w:World} {val:Nat->Value}
theorem Zg {sp:Spec} (hok:sp.sig.ok=true) (h:Rel E st gh val w) {args:List S} {vals:List Value} (hr :∀t,dL E st gh w (args.getD t .no) (vals.getD t undef))
  {c:LJ} (hc:iM sp.sig st.o args=some c) (hf:c.fine sp.sig=true) :
  ∃(E':Env) (ny:Nat->Gh),E'.B0=w.heap.size/\E'.w0=w/\Rel E' (mk sp.sig.pin c.ins) ny (fun k=>vals.getD k undef) w/\(∀b,E'.Wr b->∃c e f,w.heap[b]?=some (.cells c e f))/\
  ∀(d:Nat) (dH:List P) (ef:Eff),ef=kT sp.sig d st.o c dH->(∀g∈ef.new,st.used g=false)->∀(w':World) (rs:List Value) (zD:Nat->Gh),rs.length=sp.sig.cu->Rel E' (mk sp.sig.aT dH) zD (fun k=>rs.getD k undef) w'->(∀g∈sp.sig.bD,((zD g).ad=(ny g).ad/\(zD g).cap=(ny g).cap)/\((mk sp.sig.pin c.ins).o g).like ((mk sp.sig.aT dH).o g))->
   ∃bM,Rel E (st.aK ef.aK ef.new) bM val w'/\Lets E st (st.aK ef.aK ef.new) gh bM w w'/\dL E (st.aK ef.aK ef.new) bM w' ef.x (Y_ rs)/\∀g∈ef.x.names,(st.aK ef.aK ef.new).used g=true:=by
 have hrr :∀t,dL E st gh w (args.getD t .no) ((fun k=>vals.getD k undef) t):=hr;obtain ⟨h1,hL1,hE,iI⟩:=UL h hok hrr hc hf _ rfl _ rfl;refine ⟨_,_,rfl,rfl,hE,fun b hb => ?_,fun d dH ef hef hnew w' rs zD hrl hx UO => ?_⟩
 .obtain ⟨p,hp,ow,e1⟩:=hb;have hO:=h.bf p.2;rcases (iI p hp).2.2.2 with ⟨_,ws,_,e,_⟩ | ⟨a,i,sz,l,e,_⟩ | ⟨a,i,sz,aj,l,e,_⟩
  .rw [e] at hO;obtain ⟨ad',c,e',q1,_,q3,_⟩:=hO;rcases e1 with ⟨ad,k1,k2⟩ | k1
   .rw [k1] at q1;cases q1;rw [<-k2];exact ⟨_,_,_,q3⟩
   .rw [h.ns p.2 ow (by rw [e];rfl) b] at k1;cases k1
  .rw [e] at hO;rcases e1 with ⟨ad,k1,k2⟩ | k1
   .rcases hO with ⟨q1,_⟩ | ⟨ad',c,e',q1,_,q3,_⟩
    .rw [k1] at q1;cases q1
    .rw [k1] at q1;cases q1;rw [<-k2];exact ⟨_,_,_,q3⟩
   .rw [h.ns p.2 ow (by rw [e];rfl) b] at k1;cases k1
  .rw [e] at hO;rcases hO with ⟨q1,_,_,q2⟩ | ⟨ad',c,e',q1,_,q3,_,_,_,⟨_,q4⟩,_⟩
   .rcases e1 with ⟨ad,k1,k2⟩ | k1
    .rw [k1] at q1;cases q1
    .rw [q2 b] at k1;cases k1
   .rcases e1 with ⟨ad,k1,k2⟩ | k1
    .rw [k1] at q1;cases q1;rw [<-k2];exact ⟨_,_,_,q3⟩
    .exact q4 b k1
 generalize hst1:st.aK (c.uZ.map (Fw.aW st.o)) []=st1 at h1 hL1 hE hx;generalize hE':WO h st1 c=E' at hE hx;generalize Zh:mk sp.sig.aT dH=xg at hx;have hok':=hok;simp only [zJ.ok,Qt] at hok';obtain ⟨⟨⟨⟨⟨⟨⟨⟨abv,WQ⟩,hps⟩,hpo⟩,hos⟩,zU⟩,hdisj⟩,hnn⟩,ahD⟩:=hok';have hnn:=jB hnn;simp only [LJ.fine,Qt] at hf;have hn2:=jB hf.1.1.1;have ai8 :∀g∈sp.sig.aV,sp.sig.bD.contains g=false:=by
  intro g hg;cases hi:sp.sig.bD.contains g with
  |false=>rfl
  |true=>
   have:=(XX.1 hdisj) g (by simpa using hi);simp [hg] at this
 generalize hfn:callName d sp.sig c.ren=f;have QJ :∀g∈sp.sig.aV,f g=newName d sp.sig.aV g:=fun g hg=>by subst hfn;unfold callName;rw [ai8 g hg]
 have asM:sp.sig.aV.map f=sp.sig.aV.map (newName d sp.sig.aV):=ZZ QJ;have ai9 :∀g,sp.sig.bD.contains g=true->∃g',(g,g')∈c.ren/\f g=g':=by
  intro g hi;have alH:=(XX.1 ahD) g (by simpa using hi);cases h1:sp.sig.pin.bf.lookup g with
  |none=>rw [h1] at alH;cases alH
  |some k1=>
   obtain ⟨q,hq,e⟩:=QI hc _ (Af h1);obtain ⟨q1,q2⟩:=q;simp only at e;subst e;refine ⟨q2,hq,?_⟩;subst hfn;unfold callName;rw [hi,(iI _ hq).2.2.1]
 generalize hbk:xK d sp.sig.aV=bk;have hbn :∀g∈sp.sig.aV,bk (f g)=some g:=fun g hg=>by rw [QJ g hg];subst hbk;exact Oj hg
 have hbs :∀g g0,bk g=some g0->g0∈sp.sig.aV/\f g0=g:=fun g g0 hb=>by subst hbk;obtain ⟨b1,b2⟩:=KT hb;exact ⟨b1,by rw [QJ g0 b1];exact b2⟩
 have hfi :∀g∈sp.sig.aV,∀g'∈sp.sig.aV,f g=f g'->g=g':=fun g hg g' hg' e=>by rw [QJ g hg,QJ g' hg'] at e;exact Fp hg e
 have afe:ef.new=sp.sig.aV.map f:=by subst hef;subst hfn;rfl
 have ai_:ef.aK=(if sp.sig.mD then c.uZ.map (Fw.aW st.o) else [])++c.ren.map (fun p=>(p.2,if sp.sig.bD.contains p.1 then wY c.A c.I f (xg.o p.1) else .none))++sp.sig.aV.map (fun g=>(f g,wY c.A c.I f (xg.o g))):=by
  subst hef;subst hfn;subst Zh;rfl
 have alI:ef.x=Y8 ((List.range sp.sig.cu).map fun k=>WI c.A c.I f (xg.s k)):=by subst hef;subst hfn;subst Zh;rfl
 have atD :∀g,bk g=none->g∉ef.new:=fun g hb hm=>by
  rw [afe] at hm;obtain ⟨g0,h1,rfl⟩:=X1.1 hm;rw [hbn g0 h1] at hb;cases hb
 have hbu :∀g,st.used g=true->bk g=none:=fun g hu=>by
  cases hb:bk g with
  |none=>rfl
  |some g0=>
   obtain ⟨h1,h2⟩:=hbs g g0 hb;have:=hnew g (by rw [afe];exact X1.2 ⟨g0,h1,h2⟩);rw [hu] at this;cases this
 let stB:St:=if sp.sig.mD then st1 else st
 have hB:Rel E stB gh val w/\Lets E st stB gh gh w w:=by
  by_cases hlk:sp.sig.mD=true
  .have:stB=st1:=by simp [stB,hlk]
   rw [this];exact ⟨h1,hL1⟩
  .have:stB=st:=by simp [stB,hlk]
   rw [this];exact ⟨h,⟨fun a i b hb=>⟨hb,rfl⟩,fun g _=>.inr ⟨⟨rfl,rfl⟩,O.fH _⟩⟩⟩
 obtain ⟨Zi,hLB⟩:=hB;have hBs:stB.s=st.s:=by
  by_cases hlk:sp.sig.mD=true
  .have:stB=st1:=by simp [stB,hlk]
   rw [this,<-hst1];rfl
  .have:stB=st:=by simp [stB,hlk]
   rw [this]
 have hBu:stB.used=st.used:=by
  by_cases hlk:sp.sig.mD=true
  .have:stB=st1:=by simp [stB,hlk]
   rw [this,<-hst1];rfl
  .have:stB=st:=by simp [stB,hlk]
   rw [this]
 have hBo :∀g,stB.o g=(if g∈c.uZ/\sp.sig.mD=true then (Fw.aW st.o g).2 else st.o g):=by
  intro g;by_cases hlk:sp.sig.mD=true
  .have:stB=st1:=by simp [stB,hlk]
   rw [this,<-hst1,gK];by_cases hg:g∈c.uZ<;>simp [hg,hlk]
  .have:stB=st:=by simp [stB,hlk]
   rw [this];simp [hlk]
 have WR :∀g,(stB.o g).bP=true->(st.o g).bP=true:=by
  intro g hg;rw [hBo] at hg;split at hg
  .cases hp:plainO st.o g with
   |none=>simpa [Fw.aW,hp] using hg
   |some x=>
    obtain ⟨a,i,sz,l⟩:=x;rw [mV hp] at hg;cases hg
  .exact hg
 have hBr :∀p∈c.ren,stB.o p.2=st.o p.2:=by
  intro p hp;rw [hBo,if_neg fun h=>(iI p hp).2.1 h.1]
 generalize aff:st.aK ef.aK ef.new=IK;have hFs:IK.s=st.s:=by subst aff;rfl
 have hFu :∀g,st.used g=true->IK.used g=true:=fun g hg=>by subst aff;simp [St.aK,hg]
 have hFn :∀g∈sp.sig.aV,IK.used (f g)=true:=fun g hg=>by
  subst aff;have:f g∈ef.new:=by rw [afe];exact X1.2 ⟨g,hg,rfl⟩
  simp [St.aK,this]
 have WT :∀p∈c.ren,st.used p.2=true:=fun p hp=>h.ul p.2 (by intro e;have:=(iI p hp).1;rw [e] at this;cases this);have asO :∀g∈c.uZ,st.used g=true\/st.o g=.none:=fun g hg=>by
  by_cases hn:st.o g=.none
  .exact .inr hn
  .exact .inl (h.ul g hn)
 have hFo :∀g,IK.o g=match ef.aK.lookup g with | some x=>x | none=>st.o g:=fun g=>by subst aff;rfl
 have WU :∀g∈sp.sig.aV,IK.o (f g)=wY c.A c.I f (xg.o g):=by
  intro g hg;have hfu:st.used (f g)=false:=hnew _ (by rw [afe];exact X1.2 ⟨g,hg,rfl⟩);have e2:(c.ren.map (fun p=>(p.2,if sp.sig.bD.contains p.1 then wY c.A c.I f (xg.o p.1) else .none))).lookup (f g)=none:=lQ fun hm=>by
   obtain ⟨p,hp,e⟩:=X1.1 hm;rw [<-e,WT p hp] at hfu;cases hfu
  have e3:=wM (k:=f) (v:=fun g=>wY c.A c.I f (xg.o g)) hg fun g' hg' e=>hfi g' hg' g hg e;have e1:(if sp.sig.mD then c.uZ.map (Fw.aW st.o) else []).lookup (f g)=none:=by
   split
   .rw [mg,if_neg];intro hm;have:=xw.used h (UN hc) hm;rw [this] at hfu;cases hfu
   .rfl
  rw [hFo,ai_,lI,lI,e1,e2,e3];rfl
 have LW :∀p∈c.ren,IK.o p.2=if sp.sig.bD.contains p.1 then wY c.A c.I f (xg.o p.1) else .none:=by
  intro p hp;have e1:(if sp.sig.mD then c.uZ.map (Fw.aW st.o) else []).lookup p.2=none:=by
   split
   .rw [mg,if_neg (iI p hp).2.1]
   .rfl
  have e2:=lg (v:=fun p=>if sp.sig.bD.contains p.1 then wY c.A c.I f (xg.o p.1) else O.none) hn2 hp;rw [hFo,ai_,lI,lI,e1,e2];rfl
 have QK :∀g,bk g=none->g∉c.ren.map (·.2)->IK.o g=stB.o g:=by
  intro g hb hg;have e2:=lQ (v:=fun p=>if sp.sig.bD.contains p.1 then wY c.A c.I f (xg.o p.1) else O.none) hg;have e3:(sp.sig.aV.map (fun g=>(f g,wY c.A c.I f (xg.o g)))).lookup g=none:=xM fun g' hg' e=>by
   have:=hbn g' hg';rw [e,hb] at this;cases this
  rw [hFo,ai_,lI,lI,e2,e3,hBo];by_cases hlk:sp.sig.mD=true
  .rw [if_pos hlk,mg];by_cases hg:g∈c.uZ<;>simp [hg,hlk]
  .simp [hlk]
 have ahE :∀p∈c.ren,sp.sig.bD.contains p.1=true->(zD p.1).ad=(gh p.2).ad/\(zD p.1).cap=(gh p.2).cap:=by
  intro p hp hi;have:=(UO p.1 (by simpa using hi)).1;have e:=(iI p hp).2.2.1;simp only [jV,e] at this;exact this
 generalize hbk2:(fun g=>match bk g with | some g0=>some g0 | none=>(c.ren.find? (fun (p:Nat×Nat)=>p.2==g&&sp.sig.bD.contains p.1)).map (fun (p:Nat×Nat)=>p.1))=bk2;have alK :∀g g0,bk2 g=some g0->(g0∈sp.sig.aV/\f g0=g)\/(bk g=none/\sp.sig.bD.contains g0=true/\(g0,g)∈c.ren):=by
  intro g g0 hb;subst hbk2;simp only at hb;cases h1:bk g with
  |some g1=>rw [h1] at hb;simp only [Q0] at hb;subst hb;exact .inl (hbs g _ h1)
  |none=>
   rw [h1] at hb;simp only [ZS] at hb;obtain ⟨p,hp,rfl⟩:=hb;have q1:=K7 hp;have q2:=qt hp;simp only [Qt,beq_iff_eq] at q2;obtain ⟨rfl,q3⟩:=q2;exact .inr ⟨rfl,q3,q1⟩
 have hb2 :∀g∈sp.sig.aV++sp.sig.bD,bk2 (f g)=some g:=by
  intro g hg;subst hbk2;simp only;rcases X2.1 hg with hg | hg
  .rw [hbn g hg]
  .have hi:sp.sig.bD.contains g=true:=by simpa using hg
   obtain ⟨g',hm,e⟩:=ai9 g hi;rw [e,hbu g' (WT _ hm)];cases h1:c.ren.find? fun p=>p.2==g'&&sp.sig.bD.contains p.1 with
   |none=>
    have:=List.find?_eq_none.1 h1 _ hm;simp at this;exact absurd hg this
   |some p=>
    have q1:=K7 h1;have q2:=qt h1;simp only [Qt,beq_iff_eq] at q2;obtain ⟨e2,q3⟩:=q2;have l1:=(iI _ hm).2.2.1;have e3:p=(g,g'):=by
     have:=lg (v:=fun p=>p) hn2 q1;have h2:=lg (v:=fun p=>p) hn2 hm;rw [e2] at this;simp only at h2;rw [this] at h2;exact Wc h2
    rw [e3];rfl
 let bM:Nat->Gh:=fun g=>match bk2 g with | some g0=>zD g0 | none=>gh g
 have hfp :∀p∈c.ren,sp.sig.bD.contains p.1=true->f p.1=p.2:=by
  intro p hp hi;obtain ⟨g',hm,e⟩:=ai9 p.1 hi;have l1:=(iI _ hm).2.2.1;have l2:=(iI _ hp).2.2.1;simp only at l1;rw [l2] at l1;rw [e,<-Wc l1]
 have hgb :∀g g0,bk2 g=some g0->bM g=zD g0:=fun g g0 hb=>by simp only [bM,hb]
 have hgn :∀g∈sp.sig.aV,bM (f g)=zD g:=fun g hg=>hgb _ _ (hb2 g (W6 _ hg));have hgi :∀p∈c.ren,sp.sig.bD.contains p.1=true->bM p.2=zD p.1:=by
  intro p hp hi;have:=hb2 p.1 (K0 _ (by simpa using hi));rw [hfp p hp hi] at this;exact hgb _ _ this
 have hgo :∀g,bk g=none->g∉c.ren.map (·.2)->bM g=gh g:=fun g hb hm=>by
  cases h2:bk2 g with
  |none=>simp only [bM,h2]
  |some g0=>
   rcases alK g g0 h2 with ⟨b1,b2⟩ | ⟨_,_,b3⟩
   .rw [<-b2,hbn g0 b1] at hb;cases hb
   .exact absurd (X1.2 ⟨_,b3,rfl⟩) hm
 have hFb :∀g g0,bk2 g=some g0->IK.o g=wY c.A c.I f (xg.o g0):=fun g g0 hb=>by
  rcases alK g g0 hb with ⟨b1,b2⟩ | ⟨_,b2,b3⟩
  .rw [<-b2];exact WU g0 b1
  .have e:=LW _ b3;simp only [b2,if_true] at e;exact e
 have abx :∀g∈sp.sig.aV++sp.sig.bD,IK.used (f g)=true:=by
  intro g hg;rcases X2.1 hg with hg | hg
  .exact hFn g hg
  .obtain ⟨g',hm,e⟩:=ai9 g (by simpa using hg);rw [e];exact hFu _ (WT _ hm)
 have hxo :∀g0,xg.o g0≠.none->∃k n',(g0,k)∈sp.sig.aT.bf/\xg.o g0=(tV dH n' k).1:=fun g0 hn=>by
  subst Zh;exact kZ (UH hn)
 have alL :∀g0,sp.sig.bD.contains g0=true->(∃ws,(mk sp.sig.pin c.ins).o g0=.box ws)->∃ws,xg.o g0=.box ws:=by
  rintro g0 hi ⟨ws,hb⟩;have hk:=(XX.1 ahD) g0 (by simpa using hi);cases h1:sp.sig.pin.bf.lookup g0 with
  |none=>rw [h1] at hk;cases hk
  |some k1=>
   cases h2:sp.sig.aT.bf.lookup g0 with
   |none=>rw [h1,h2] at hk;cases k1<;>cases hk
   |some k2=>
    rw [h1,h2] at hk;obtain ⟨n1,e1⟩:=Oi (vs:=c.ins) h1;obtain ⟨n2,e2⟩:=Oi (vs:=dH) h2;rw [hb] at e1;cases k1 with
    |box ks=>
     cases k2 with
     |box ks'=>subst Zh;exact ⟨_,e2⟩
     |arr=>cases hk
     |it=>cases hk
     |aO=>cases hk
    |arr=>cases e1
    |it=>cases e1
    |aO=>cases e1
 have apA :∀g0 k,(g0,k)∈sp.sig.aT.bf->k.isA=true->sp.sig.mD=true:=fun g0 k hm ha=>by
  simp only [zJ.mD,Jx,Kb];exact .inr ⟨_,hm,ha⟩
 have apB :∀t k,(t,k)∈sp.sig.aT.slots->k.isA=true->sp.sig.mD=true:=fun t k hm ha=>by
  simp only [zJ.mD,Jx,Kb];exact .inl ⟨_,hm,ha⟩
 have hOut :∀g0,Ow (Fj c.A c.I sp.sig.mD) bk2 (fun _=>False) (xg.o g0) (wY c.A c.I f (xg.o g0))/\∀g∈(wY c.A c.I f (xg.o g0)).names,∃g1∈sp.sig.aV++sp.sig.bD,g=f g1:=by
  intro g0;by_cases hn:xg.o g0=.none
  .rw [hn];exact ⟨.none _,by simp [wY,O.names]⟩
  .obtain ⟨k,n',h1,h2⟩:=hxo g0 hn;rw [h2];refine alG hb2 (fun ws e => ?_) (apA g0 k h1) n';subst e;have hk:=(XX.1 zU) _ h1;simp only [Qt] at hk;exact hk.1
 have WV :∀g,(IK.o g).bP=true->
   (∃g0,(xg.o g0).bP=true/\bM g=zD g0/\IK.o g=wY c.A c.I f (xg.o g0)/\((g0∈sp.sig.aV/\g=f g0)\/(sp.sig.bD.contains g0=true/\(g0,g)∈c.ren)))\/
   ((stB.o g).bP=true/\bM g=gh g/\g∉c.ren.map (·.2)/\bk g=none/\IK.o g=stB.o g):=by
  intro g ho;cases hb:bk g with
  |some g0=>
   obtain ⟨b1,b2⟩:=hbs g g0 hb;subst b2;have e:=WU g0 b1;exact .inl ⟨g0,by rw [e,LU] at ho;exact ho,hgn g0 b1,e,.inl ⟨b1,rfl⟩⟩
  |none=>
   by_cases hm:g∈c.ren.map (·.2)
   .obtain ⟨p,hp,e⟩:=X1.1 hm;subst e;have e:=LW p hp;cases hi:sp.sig.bD.contains p.1 with
    |false=>rw [e,hi] at ho;cases ho
    |true=>
     rw [hi,if_pos rfl] at e;exact .inl ⟨p.1,by rw [e,LU] at ho;exact ho,hgi p hp hi,e,.inr ⟨hi,hp⟩⟩
   .have e:=QK g hb hm;exact .inr ⟨by rw [e] at ho;exact ho,hgo g hb hm,hm,by first | exact hb | rfl,e⟩
 have hsplit :∀g b,(IK.o g).bP=true->(bM g).has b->
   (∃g0,(xg.o g0).bP=true/\(zD g0).has b/\IK.o g=wY c.A c.I f (xg.o g0)/\((g0∈sp.sig.aV/\g=f g0)\/(sp.sig.bD.contains g0=true/\(g0,g)∈c.ren)))\/
   ((stB.o g).bP=true/\(gh g).has b/\g∉c.ren.map (·.2)/\bk g=none/\IK.o g=stB.o g):=by
  intro g b ho had;rcases WV g ho with ⟨g0,q1,q2,q3⟩ | ⟨q1,q2,q3⟩
  .exact .inl ⟨g0,q1,by rw [<-q2];exact had,q3⟩
  .exact .inr ⟨q1,by rw [<-q2];exact had,q3⟩
 have aby :∀b,E'.Wr b->∃p∈c.ren,(gh p.2).has b:=fun b hb=>by subst hE';obtain ⟨p,hp,_,h1⟩:=hb;exact ⟨p,hp,h1⟩
 have hEB:E'.B0=w.heap.size:=by subst hE';rfl
 have hEw:E'.w0=w:=by subst hE';rfl
 have hframe :∀b,b<w.heap.size->¬ E'.Wr b->w'.heap[b]?=w.heap[b]?:=fun b hb hw=>by
  rw [hx.frame b (by rw [hEB];exact hb) hw,hEw]
 have aja :∀b,(∀p∈c.ren,¬ (gh p.2).has b)->¬ E'.Wr b:=fun b hb hw=>by
  obtain ⟨p,hp,e1⟩:=aby b hw;exact hb p hp e1
 have hsize:w.heap.size<=w'.heap.size:=by rw [<-hEB];exact hx.size
 have EX :∀g,st.used g=true->IK.o g=.none\/(((bM g).ad=(gh g).ad/\(bM g).cap=(gh g).cap)/\(stB.o g).like (IK.o g)):=by
  intro g hu;have hb:=hbu g hu;by_cases hm:g∈c.ren.map (·.2)
  .obtain ⟨p,hp,e⟩:=X1.1 hm;subst e;cases hi:sp.sig.bD.contains p.1 with
   |false=>exact .inl (by rw [LW p hp,hi];rfl)
   |true=>
    refine .inr ⟨by rw [hgi p hp hi];exact ahE p hp hi,?_⟩;rw [hBr p hp,LW p hp,hi,if_pos rfl];have hlk:=(UO p.1 (by simpa using hi)).2;rw [Zh] at hlk;rcases (iI p hp).2.2.2 with ⟨_,ws,ws1,e,eb⟩ | ⟨a,i,sz,l,e,_,ea⟩ | ⟨a,i,sz,aj,l,e,_,ea⟩
    .obtain ⟨ws',e'⟩:=alL p.1 hi ⟨_,eb⟩;rw [e,e'];trivial
    .rw [ea] at hlk;rw [e];generalize xg.o p.1=z at hlk;cases z with
     |none=>trivial
     |arr=>exact hlk
     |aO=>exact hlk.elim
     |box=>exact hlk.elim
     |it=>exact hlk.elim
    .rw [ea] at hlk;rw [e];generalize xg.o p.1=z at hlk;cases z with
     |none=>trivial
     |arr=>exact hlk
     |aO=>exact hlk
     |box=>exact hlk.elim
     |it=>exact hlk.elim
  .rw [QK g hb hm];exact .inr ⟨by rw [hgo g hb hm];exact ⟨rfl,rfl⟩,O.fH _⟩
 have abz:Lets E stB IK gh bM w w':=by
  refine ⟨fun a i b hb=>⟨⟨hb.1,by have:=hb.2.1;omega,fun g ho had => ?_⟩,?_⟩,fun g hu=>EX g (by rw [<-hBu];exact hu)⟩
  .rcases hsplit g b ho had with ⟨g0,o0,d0,_,_⟩ | ⟨o0,d0,_⟩
   .have hw0:=(hx.wr g0 b o0 d0).1;rw [hEB] at hw0;rcases hw0 with hw0 | hw0
    .have:=hb.2.1;omega
    .obtain ⟨p,hp,e1⟩:=aby b hw0;exact hb.2.2 p.2 (by rw [hBr p hp];exact (iI p hp).1) e1
   .exact hb.2.2 g o0 d0
  .exact hframe b hb.2.1 (aja b fun p hp e1=>hb.2.2 p.2 (by rw [hBr p hp];exact (iI p hp).1) e1)
 have alM :∀b,E'.Wr b->E.Wr b->(∀g ws,xg.o g=.box ws->(zD g).has b->sp.sig.bD.contains g=false)->c.I.2=true:=by
  intro b hb hEb hno;obtain ⟨p,hp,e1⟩:=aby b hb;rcases (iI p hp).2.2.2 with ⟨hi,ws,ws1,e,eb⟩ | ⟨a,i,sz,l,e,hci,_⟩ | ⟨a,i,sz,aj,l,e,hci,_⟩
  .obtain ⟨ws',e'⟩:=alL p.1 hi ⟨_,eb⟩;have:=hno p.1 ws' e' (by
    rcases e1 with ⟨ad,k1,k2⟩ | k1
    .exact .inl ⟨ad,by rw [(ahE p hp hi).1];exact k1,k2⟩
    .rw [h.ns p.2 (iI p hp).1 (by rw [e];rfl) b] at k1;cases k1)
   rw [hi] at this;cases this
  .exact hci.2 (h.wi p.2 i b (by rw [e];rfl) e1 hEb)
  .exact hci.2 (h.wi p.2 i b (by rw [e];rfl) e1 hEb)
 have hcls :∀{a i a' i':Bool} {A:Bool×Bool},(A.1=true->a'=true)->(A.2=true->i'=true)->∀{b:Nat},((A.1=true/\E.FA b)\/(A.2=true/\(E.FI b\/E.Wr b))\/E.B0<=b\/eX.has b)->((a'=true/\E.FA b)\/(i'=true/\(E.FI b\/E.Wr b))\/E.B0<=b\/eX.has b):=by
  intro a i a' i' A h1 h2 b hb;rcases hb with ⟨q1,q2⟩ | ⟨q1,q2⟩ | q
  .exact .inl ⟨h1 q1,q2⟩
  .exact .inr (.inl ⟨h2 q1,q2⟩)
  .exact .inr (.inr q)
 have hcast:Cast (Fj c.A c.I sp.sig.mD) bk2 (fun _=>False) E' E xg IK zD bM w':=by
  refine ⟨fun a i a' i' b hC hb => ?_,fun g g' hm sz len ho=>⟨by rw [hgb g' g hm];exact ⟨rfl,rfl⟩,by rw [hFb g' g hm,afb] at ho;exact ho⟩,
   fun g g' hm ws ho=>⟨by rw [hgb g' g hm],by rw [hFb g' g hm] at ho;exact afc ho⟩,fun g g' hm s n ho=>⟨by rw [hgb g' g hm],by rw [hFb g' g hm] at ho;exact ai7 ho⟩,fun g' hf=>hf.elim⟩
  obtain ⟨hC,hA⟩:=hC;have ha':a'=((a&&c.A.1)||(i&&c.I.1)):=congrArg Prod.fst hC;have hi':i'=((a&&c.A.2)||(i&&c.I.2)):=congrArg Prod.snd hC;have ahF :∀g,(xg.o g).bP=true->¬ (zD g).has b:=hb.2.2;have hcase:((a'=true/\E.FA b)\/(i'=true/\(E.FI b\/E.Wr b))\/E.B0<=b\/eX.has b)/\(∀g,(stB.o g).bP=true->g∉c.ren.map (·.2)->¬ (gh g).has b):=by
   have hb1:=hb.1;subst hE';rcases hb1 with ⟨ha,hFA⟩ | ⟨hi,hFI | hWr⟩ | hge | hgl
   .have hlk:=hA ha;have hst:stB=st1:=by simp [stB,hlk]
    refine ⟨hcls (a:=a) (i:=i) (A:=c.A) (by intro h;simp [ha',ha,h]) (by intro h;simp [hi',ha,h]) hFA.1,fun g ho _ => ?_⟩;rw [hst] at ho;exact hFA.2.2 g ho
   .refine ⟨hcls (a:=a) (i:=i) (A:=c.I) (by intro h;simp [ha',hi,h]) (by intro h;simp [hi',hi,h]) hFI.1,fun g ho _ => ?_⟩;exact hFI.2.2 g (WR g ho)
   .obtain ⟨p,hp,ow,e1⟩:=hWr;refine ⟨?_,fun g ho hng had => ?_⟩
    .rcases (h.wr p.2 b (iI p hp).1 e1).1 with q | q
     .exact .inr (.inr (.inl q))
     .have:=alM b ⟨p,hp,ow,e1⟩ q fun g ws1 o1 d1=>absurd d1 (ahF g (by rw [o1];rfl));exact .inr (.inl ⟨by simp [hi',hi,this],.inr q⟩)
    .have:=h.inj g p.2 b (WR g ho) (iI p hp).1 had e1;exact hng (this▸X1.2 ⟨p,hp,rfl⟩)
   .refine ⟨.inr (.inr (.inl (J1 h.size hge))),fun g ho _ had => ?_⟩;have:=(Zi.wr g b ho had).2;have hge:w.heap.size<=b:=hge;omega
   .refine ⟨.inr (.inr (.inr hgl)),fun g ho _ had => ?_⟩;obtain ⟨g1,g2⟩:=E.aa6 hgl;rcases (Zi.wr g b ho had).1 with q | q
    .omega
    .exact g2 q
  refine ⟨hcase.1,hb.2.1,fun g ho had => ?_⟩;rcases hsplit g b ho had with ⟨g0,o0,d0,_,_⟩ | ⟨o0,d0,n0,_⟩
  .exact ahF g0 o0 d0
  .exact hcase.2 g o0 n0 d0
 have ahG :∀g0,lX E IK bM w' (wY c.A c.I f (xg.o g0)) (zD g0):=fun g0=>hcast.Bq (hOut g0).1 (hx.bf g0);have KU:Rel E IK bM val w':=by
  refine Zi.step abz (hFs.trans hBs.symm) (fun g hg=>hFu g (by rw [<-hBu];exact hg)) (fun g => ?_) (fun g1 g2 b h1 h2 k1 k2 => ?_) (fun g b ho had => ?_) (fun g i b ho had hw => ?_) (fun g ho hd b => ?_) (fun b hb hw => ?_) hsize (by rw [hx.os,hEw]) (by rw [hx.tape,hEw]) (by rw [hx.output,hEw]) (fun g g' hg' => ?_) (fun g hg => ?_)
  .cases hb:bk g with
   |some g0=>
    obtain ⟨b1,b2⟩:=hbs g g0 hb;subst b2;rw [WU g0 b1,hgn g0 b1];exact ahG g0
   |none=>
    by_cases hm:g∈c.ren.map (·.2)
    .obtain ⟨p,hp,e⟩:=X1.1 hm;subst e;rw [LW p hp];cases hi:sp.sig.bD.contains p.1 with
     |false=>trivial
     |true=>rw [if_pos rfl,hgi p hp hi];exact ahG p.1
    .rw [QK g hb hm,hgo g hb hm];refine abz.Bq (fun ho b had=>hframe _ (Zi.wr g b ho had).2 (aja _ fun p hp e1 => ?_)) (fun g' hg'=>Zi.uo g g' hg') (Zi.bf g);have:=h.inj p.2 g b (iI p hp).1 (WR g ho) e1 had;exact hm (this▸X1.2 ⟨p,hp,rfl⟩)
  .have mixed :∀g1 g2 b g0,(xg.o g0).bP=true->(zD g0).has b->(stB.o g2).bP=true->(gh g2).has b->g2∉c.ren.map (·.2)->g1=g2:=by
    intro g1 g2 b g0 o1 d1 o2 d2 n2;exfalso;rcases (hx.wr g0 b o1 d1).1 with q | q
    .rw [hEB] at q;have:=(Zi.wr g2 b o2 d2).2;omega
    .obtain ⟨p,hp,e1⟩:=aby _ q;have:=h.inj p.2 g2 b (iI p hp).1 (WR g2 o2) e1 d2;exact n2 (this▸X1.2 ⟨p,hp,rfl⟩)
   rcases hsplit g1 b h1 k1 with ⟨q1,o1,d1,_,l1⟩ | ⟨o1,d1,n1,_⟩<;>rcases hsplit g2 b h2 k2 with ⟨q2,o2,d2,_,l2⟩ | ⟨o2,d2,n2,_⟩
   .have:=hx.inj q1 q2 b o1 o2 d1 d2;subst this;rcases l1 with ⟨m1,e1⟩ | ⟨i1,m1⟩<;>rcases l2 with ⟨m2,e2⟩ | ⟨i2,m2⟩
    .rw [e1,e2]
    .rw [ai8 q1 m1] at i2;cases i2
    .rw [ai8 q1 m2] at i1;cases i1
    .have l1:=(iI _ m1).2.2.1;have l2:=(iI _ m2).2.2.1;rw [l1] at l2;exact Wc l2
   .exact mixed g1 g2 b q1 o1 d1 o2 d2 n2
   .exact (mixed g2 g1 b q2 o2 d2 o1 d1 n1).symm
   .exact Zi.inj g1 g2 b o1 o2 d1 d2
  .rcases hsplit g b ho had with ⟨g0,o0,d0,_,_⟩ | ⟨o0,d0,_⟩
   .have:=hx.wr g0 b o0 d0;refine ⟨?_,this.2⟩;rcases this.1 with q | q
    .rw [hEB] at q;exact .inl (J1 h.size q)
    .obtain ⟨p,hp,e1⟩:=aby _ q;exact (h.wr p.2 b (iI p hp).1 e1).1
   .have:=Zi.wr g b o0 d0;exact ⟨this.1,by omega⟩
  .rcases hsplit g b (O.kV ho) had with ⟨g0,o0,d0,e0,l0⟩ | ⟨o0,d0,_,_,e0⟩
   .rw [e0] at ho;obtain ⟨a1,i1,h1,e2⟩:=Ze ho;have hlt:b<w.heap.size:=by have:=h.wb _ hw;have:=h.size;omega
    rcases (hx.wr g0 b o0 d0).1 with q | q
    .rw [hEB] at q;omega
    .have hi1:=hx.wi g0 i1 b h1 d0 q;have:=alM b q hw fun g3 ws3 o3 d3=>by
      have:=hx.inj g3 g0 b (by rw [o3];rfl) o0 d3 d0;subst this;rw [o3] at h1;cases h1
     rw [e2];simp [qH,hi1,this]
   .rw [e0] at ho;exact Zi.wi g i b ho d0 hw
  .rcases WV g ho with ⟨g0,o0,e,e0,_⟩ | ⟨o0,e,_,_,e0⟩
   .rw [e];exact hx.ns g0 o0 (by rw [e0,UM] at hd;exact hd) b
   .rw [e];exact Zi.ns g o0 (by rw [e0] at hd;exact hd) b
  .refine hframe b (WF hb h.size) (aja b fun p hp e1 => ?_);rcases (h.wr p.2 b (iI p hp).1 e1).1 with q | q
   .omega
   .exact hw q
  .cases hb:bk g with
   |some g0=>
    obtain ⟨b1,b2⟩:=hbs g g0 hb;subst b2;rw [WU g0 b1] at hg';obtain ⟨g1,m1,rfl⟩:=(hOut g0).2 g' hg';exact abx g1 m1
   |none=>
    by_cases hm:g∈c.ren.map (·.2)
    .obtain ⟨p,hp,e⟩:=X1.1 hm;subst e;rw [LW p hp] at hg';cases hi:sp.sig.bD.contains p.1 with
     |false=>rw [hi] at hg';simp [O.names] at hg'
     |true=>
      rw [hi,if_pos rfl] at hg';obtain ⟨g1,m1,rfl⟩:=(hOut p.1).2 g' hg';exact abx g1 m1
    .rw [QK g hb hm] at hg';exact hFu g' (by rw [<-hBu];exact Zi.uo g g' hg')
  .cases hb:bk g with
   |some g0=>
    obtain ⟨b1,b2⟩:=hbs g g0 hb;subst b2;exact hFn g0 b1
   |none=>
    by_cases hm:g∈c.ren.map (·.2)
    .obtain ⟨p,hp,e⟩:=X1.1 hm;subst e;exact hFu _ (WT p hp)
    .rw [QK g hb hm] at hg;exact hFu g (by rw [<-hBu];exact Zi.ul g hg)
 have alN :∀k,qX E IK bM w' (WI c.A c.I f (xg.s k)) (rs.getD k undef)/\∀g∈(WI c.A c.I f (xg.s k)).names,∃g1∈sp.sig.aV++sp.sig.bD,g=f g1:=by
  intro k;have hk:=hx.slots k;subst Zh;have e0:(mk sp.sig.aT dH).s k=match (dI dH 0 sp.sig.aT.slots).1.lookup k with | some x=>x | none=>.no:=rfl
  cases hxk:(dI dH 0 sp.sig.aT.slots).1.lookup k with
  |none=>
   rw [e0,hxk];exact ⟨.one _ _ (.no _),by simp [WI,V.names,W.names]⟩
  |some x=>
   rw [hxk] at e0;rw [e0] at hk ⊢;obtain ⟨kk,n',h1,h2⟩:=xJ hxk;obtain ⟨y,e,h3,h4⟩:=alF (vs:=dH) (A:=c.A) (I:=c.I) hb2 ((XX.1 hos) _ h1) (apB k kk h1) n';simp only [h2,e] at hk ⊢;cases hk with | v _ _ hk=>exact ⟨hcast.YW h3 hk,h4⟩
 refine ⟨bM,KU,⟨fun a i b hb => ?_,fun g hu => ?_⟩,?_,?_⟩
 .obtain ⟨q1,q2⟩:=hLB.ok a i b hb;exact abz.ok a i b q1
 .rcases EX g hu with q | ⟨q1,q2⟩
  .exact .inl q
  .rcases hLB.names g hu with q | ⟨_,q⟩
   .rw [q] at q2;rcases O.II (x:=.none) (O.fH _) q2 with q | q
    .exact .inl q
    .exact .inl (O.LV q)
   .rcases O.II q q2 with q | q
    .exact .inl q
    .exact .inr ⟨q1,q⟩
 .rw [alI];have hl:((List.range sp.sig.cu).map fun k=>WI c.A c.I f (xg.s k)).length=rs.length:=by simp [hrl]
  have hj :∀(j:Nat) x v,((List.range sp.sig.cu).map fun k=>WI c.A c.I f (xg.s k))[j]?=some x->rs[j]?=some v->qX E IK bM w' x v:=by
   intro j x v hx' hv;rw [XS] at hx';obtain ⟨k,hk,rfl⟩:=ZS.1 hx';obtain ⟨hlt,hk⟩:=Q3.1 hk;simp at hk;subst hk;have:=(alN j).1
   rwa [List.getD_eq_getElem?_getD,hv] at this
  generalize (List.range sp.sig.cu).map (fun k=>WI c.A c.I f (xg.s k))=xs at hl hj;unfold Y8 Y_
  match xs,rs,hl,hj with
  | [],[],_,hj=>exact .jq _ _ rfl hj
  | [x],[v],_,hj=>exact .v _ _ (hj 0 x v rfl rfl)
  |x::y::xs,v::u::vs,hl,hj=>exact .jq _ _ hl hj
 .intro g hg;have :∃k,g∈(WI c.A c.I f (xg.s k)).names:=by
   rw [alI] at hg;generalize hxs:(List.range sp.sig.cu).map (fun k=>WI c.A c.I f (xg.s k))=xs at hg;have hin :∃x∈xs,g∈x.names:=by
    unfold Y8 at hg;split at hg
    .exact ⟨_,by simp,hg⟩
    .simpa [S.names,Z0] using hg
   obtain ⟨x,hx1,hx2⟩:=hin;rw [<-hxs] at hx1;obtain ⟨k,_,rfl⟩:=X1.1 hx1;exact ⟨k,hx2⟩
  obtain ⟨k,hk⟩:=this;obtain ⟨g1,m1,rfl⟩:=(alN k).2 g hk;exact abx g1 m1
theorem UQ {Pg:Program} {fn:FuncId} {sp:Spec} (hs:Sound Pg fn sp) (h:Rel E st gh val w) {args:List S} {vals:List Value} (hr :∀t,dL E st gh w (args.getD t .no) (vals.getD t undef)) (hlen:vals.length=sp.sig.aZ)
  {c:LJ} (hc:iM sp.sig st.o args=some c) (hf:c.fine sp.sig=true) {dH:List P} (hR:sp.R c.ins dH) (d:Nat)
  {ef:Eff} (hef:ef=kT sp.sig d st.o c dH) (hnew :∀g∈ef.new,st.used g=false) :
  Calls Pg fn vals.toArray w fun e w' =>∃v bM,e=.returned v/\Rel E (st.aK ef.aK ef.new) bM val w'/\Lets E st (st.aK ef.aK ef.new) gh bM w w'/\dL E (st.aK ef.aK ef.new) bM w' ef.x v/\∀g∈ef.x.names,(st.aK ef.aK ef.new).used g=true:=by
 obtain ⟨E',ny,q1,q2,q3,_,q4⟩:=Zg hs.1 h hr hc hf;refine Calls.mono (hs.2.2 E' w vals ny c.ins dH hR q1 q2 q3 hlen) fun e w' he => ?_;obtain ⟨rs,zD,hrl,rfl,hx,UO⟩:=he;obtain ⟨bM,r1,r2,r3,r4⟩:=q4 d dH ef hef hnew w' rs zD hrl hx UO;exact ⟨_,bM,rfl,r1,r2,r3,r4⟩
end
end Go.Fw

namespace Go.Fw
variable [eX]
section
variable {o o':Nat->O}
theorem D6 {g:Nat} {x:Bool×Bool×Nat×List (List P)} (h:plainO o g=some x):(o g).names=(o g).hn/\∀d∈(o g).hn,(o d).hn=[]:=by
 obtain ⟨a,i,sz,l⟩:=x;rcases vI h with ⟨fz,h⟩ | ⟨aj,h⟩ | ⟨a0,i0,aj,l0,n,c,d,fz',a',i',sz',l',h,hd,_⟩
 .rw [h];exact ⟨rfl,fun d hd=>by cases hd⟩
 .rw [h];exact ⟨rfl,fun d hd=>by cases hd⟩
 .rw [h];refine ⟨rfl,fun d' hd' => ?_⟩;simp only [O.hn,dN,QP] at hd';subst hd';rw [hd];rfl
theorem Ol {g:Nat} (h:Agree o o' g):aW o g=aW o' g:=by simp only [aW,Bv h,h.1]
theorem QL {g d:Nat} (h:Agree o o' g) {x:Bool×Bool×Nat×List (List P)} (hp:plainO o g=some x) (hd:d∈(o g).hn):Agree o o' d:=by
 refine ⟨h.2 d hd,fun d' hd' => ?_⟩;rw [(D6 hp).2 d hd] at hd';cases hd'
theorem D7 {x:W} (h :∀g∈x.names,Agree o o' g):x.toP o=x.toP o':=by
 cases x<;>simp only [W.toP]<;>(try rw [Bv (h _ (by simp [W.names])),(h _ (by simp [W.names])).1])
theorem Ag {x:W} {y:P} {a i:Bool} {gs:List Nat} (h:x.toP o=some (y,a,i,gs)) (hx :∀g∈x.names,Agree o o' g) :∀g∈gs,Agree o o' g:=by
 cases x<;>simp only [W.toP] at h
 case p=>simp only [Q0,Q1] at h;obtain ⟨_,_,_,rfl⟩:=h;simp
 case dF=>simp only [Q0,Q1] at h;obtain ⟨_,_,_,rfl⟩:=h;simp
 case own g=>
  split at h
  .rename_i hp;simp only [Q0,Q1] at h;obtain ⟨_,_,_,rfl⟩:=h;have hg:=hx g (by simp [W.names]);rw [(D6 hp).1];intro d hd;rcases X2.1 hd with hd | hd
   .exact QL hg hp hd
   .rw [QP] at hd;subst hd;exact hg
  .cases h
 case vw g lo hi=>
  split at h
  .rename_i hp;simp only [Q0,Q1] at h;obtain ⟨_,_,_,rfl⟩:=h;have hg:=hx g (by simp [W.names]);rw [(D6 hp).1];intro d hd;rcases X2.1 hd with hd | hd
   .exact QL hg hp hd
   .rw [QP] at hd;subst hd;exact hg
  .cases h
 all_goals cases h
theorem qI :∀{xs:List W},(∀x∈xs,∀g∈x.names,Agree o o' g)->su o xs=su o' xs
 | [],_=>rfl
 |x::xs,h=>by simp only [su];rw [D7 (h x (by simp)),qI fun y hy=>h y (by simp [hy])]
theorem xO :∀{xs:List W} {ys:List P} {a i:Bool} {gs:List Nat},su o xs=some (ys,a,i,gs)->(∀x∈xs,∀g∈x.names,Agree o o' g)->∀g∈gs,Agree o o' g
 | [],ys,a,i,gs,h,_=>by simp [su] at h;obtain ⟨_,_,_,rfl⟩:=h;simp
 |x::xs,ys,a,i,gs,h,hx=>by
  simp only [su] at h;split at h
  .rename_i h1 h2;simp only [Q0,Q1] at h;obtain ⟨_,_,_,rfl⟩:=h;intro g hg;rcases X2.1 hg with hg | hg
   .exact Ag h1 (hx x (by simp)) g hg
   .exact xO h2 (fun y hy=>hx y (by simp [hy])) g hg
  .cases h
theorem nN {gs:List Nat} (h :∀g∈gs,Agree o o' g):gs.map (aW o)=gs.map (aW o'):=
 ZZ fun g hg=>Ol (h g hg)
theorem IL {sz:Nat} {x:W} (h :∀g∈x.names,o g=o' g):x.rows o sz=x.rows o' sz:=by
 cases x<;>simp only [W.rows]<;>(try rw [h _ (by simp [W.names])])
theorem Fq {x:W} (h :∀g∈x.names,o g=o' g):lenOf o x=lenOf o' x:=by
 cases x<;>simp only [lenOf]<;>(try rw [h _ (by simp [W.names])])
theorem Ah {x:W} (h :∀g∈x.names,o g=o' g):x.live o=x.live o':=by
 cases x<;>simp only [W.live]<;>(try rw [h _ (by simp [W.names])])
theorem Om {tt:TT} {d:Nat} {sT:TypeId} {s x:W} (hs :∀g∈s.names,o g=o' g) (h :∀g∈x.names,o g=o' g):vC tt d o sT s x=vC tt d o' sT s x:=by
 unfold vC;split
 .split
  .split
   .rfl
   .rw [IL h];split
    .rfl
    .cases s<;>simp only<;>(try rw [hs _ (by simp [W.names])])
  .rfl
 .rfl
theorem Ai {place:Nat->Option (Nat×Nat)} :∀{ps:List (Nat×S)} {WW ws:List W},lZ place WW ps=some ws->∀x∈ws,x∈WW\/∃p∈ps,∀g∈x.names,g∈p.2.names
 | [],WW,ws,h=>by simp only [lZ,Q0] at h;subst h;intro x hx;exact .inl hx
 |(n,s)::ps,WW,ws,h=>by
  cases s with
  |v y=>
   simp only [lZ] at h;split at h
   .split at h
    .intro x hx;rcases Ai h x hx with hx | ⟨p,hp,hg⟩
     .unfold aS at hx;rcases X2.1 hx with hx | hx
      .rcases X2.1 hx with hx | hx
       .exact .inl (W7 hx)
       .refine .inr ⟨(n,.v y),by simp,fun g hg => ?_⟩;cases y with
        |one y=>simp only [V.words,QP] at hx;subst hx;simpa [S.names,V.names] using hg
        |agg ys=>simp only [V.words] at hx;simp only [S.names,V.names,Z0];exact ⟨x,hx,hg⟩
      .exact .inl (WP hx)
     .exact .inr ⟨p,by simp [hp],hg⟩
    .cases h
   .cases h
  |jq=>simp [lZ] at h
  |no=>simp [lZ] at h
theorem Fv {y:V} {x:W} (h:x∈y.words) {g:Nat} (hg:g∈x.names):g∈(S.v y).names:=by
 cases y with
 |one y=>simp only [V.words,QP] at h;subst h;simpa [S.names,V.names] using hg
 |agg ys=>simp only [V.words] at h;simp only [S.names,V.names,Z0];exact ⟨x,h,hg⟩
theorem BP {tt:TT} {d:Nat} {F F':Operand->S} {op:Op} {ty:TypeId} (hF :∀x∈op.operands.toList,F x=F' x) (hO :∀x∈op.operands.toList,∀g∈(F x).names,Agree o o' g) :
  kernel tt d o F op ty=kernel tt d o' F' op ty:=by
 have ho :∀x∈op.operands.toList,∀g∈(F x).names,o g=o' g:=fun x hx g hg=>(hO x hx g hg).1;cases op with
 |move x=>simp only [kernel,<-hF x (by simp [Op.operands])]
 |assign x=>simp only [kernel,<-hF x (by simp [Op.operands])]
 |pick c x y=>simp only [kernel,<-hF c (by simp [Op.operands]),<-hF x (by simp [Op.operands]),<-hF y (by simp [Op.operands])]
 |alloc t=>rfl
 |box t x=>simp only [kernel,<-hF x (by simp [Op.operands])]
 |build t ps=>
  have e:ps.toList.map (fun p=>(p.1,F p.2))=ps.toList.map (fun p=>(p.1,F' p.2)):=ZZ fun p hp=>by
   rw [hF p.2 (by simp only [Op.operands];exact X1.2 ⟨p,hp,rfl⟩)]
  simp only [kernel,<-e]
 |buildSlice t n ps=>
  have e:ps.toList.map (fun p=>(p.1,F p.2))=ps.toList.map (fun p=>(p.1,F' p.2)):=ZZ fun p hp=>by
   rw [hF p.2 (by simp only [Op.operands];exact X1.2 ⟨p,hp,rfl⟩)]
  simp only [kernel,<-e];split
  .split
   .rename_i ie _;split
    .rename_i ws hws;have hn :∀x∈ws,∀g∈x.names,Agree o o' g:=by
      intro x hx g hg;rcases Ai hws x hx with h | ⟨p,hp,h⟩
      .have:=rE h;obtain ⟨v,_,rfl⟩:=X1.1 this;rw [nI] at hg;cases hg
      .obtain ⟨q,hq,rfl⟩:=X1.1 hp;exact hO q.2 (by simp only [Op.operands];exact X1.2 ⟨q,hq,rfl⟩) g (h g hg)
     rw [<-qI hn];split
     .rename_i h;rw [nN (xO h hn)]
     .rfl
    .rfl
   .rfl
  .rfl
 |load t x=>
  have hx:=hF x (by simp [Op.operands]);have hn:=ho x (by simp [Op.operands]);simp only [kernel,<-hx];generalize F x=sx at hn;split<;>simp_all [S.names,V.names,W.names]
 |store t x y=>
  have hx:=hF x (by simp [Op.operands]);have hy:=hF y (by simp [Op.operands]);have hn:=ho x (by simp [Op.operands]);have hm:=hO y (by simp [Op.operands]);simp only [kernel,<-hx,<-hy];generalize F x=sx at hn;generalize F y=sy at hm;split
  .rename_i g off y _;rw [hn g (by simp [S.names,V.names,W.names])]
  .rename_i g n off y _;rw [hn g (by simp [S.names,V.names,W.names])];have hw :∀x∈y.words,∀g∈x.names,Agree o o' g:=fun x hx g hg=>hm g (Fv hx hg);rw [<-qI hw];cases hz:su o y.words with
   |none=>cases o' g with | arr fz _ _ _ _=>cases fz<;>rfl | _=>rfl
   |some z=>
    obtain ⟨ps,a',i'',gs⟩:=z;have e:=nN (xO hz hw);cases o' g with
    |arr fz _ _ _ _=>cases fz<;>simp only [e]
    |_=>rfl
  .rfl
 |nilCheck x=>
  have hx:=hF x (by simp [Op.operands]);have hn:=ho x (by simp [Op.operands]);simp only [kernel,<-hx];generalize F x=sx at hn;split
  .rw [Ah fun g hg=>hn g (by simpa [S.names,V.names] using hg)]
  .rfl
 |binOp op t x y u=>simp only [kernel,<-hF x (by simp [Op.operands]),<-hF y (by simp [Op.operands])]
 |unOp op t x=>simp only [kernel,<-hF x (by simp [Op.operands])]
 |convert s t x=>
  have hx:=hF x (by simp [Op.operands]);have hn:=ho x (by simp [Op.operands]);simp only [kernel,<-hx];generalize F x=sx at hn;split
  .rfl
  .rw [IL fun g hg=>hn g (by simpa [S.names,V.names] using hg)]
  .rfl
  .rfl
 |makeSlice t n c=>
  simp only [kernel,<-hF n (by simp [Op.operands]),<-hF c (by simp [Op.operands])];split
  .split
   .rename_i ie _;have:su o (ie.zero.map cv)=su o' (ie.zero.map cv):=qI fun x hx g hg=>by
     obtain ⟨v,_,rfl⟩:=X1.1 hx;rw [nI] at hg;cases hg
    rw [this]
   .rfl
  .rfl
 |slice t x lo hi mx=>
  cases mx with
  |some m=>cases lo with
   |some l=>simp only [kernel]
   |none=>cases hi with
    |none=>simp only [kernel]
    |some h=>
     have hx:=hF x (by simp [Op.operands]);have hn:=ho x (by simp [Op.operands]);simp only [kernel,<-hx,<-hF h (by simp [Op.operands]),<-hF m (by simp [Op.operands])];generalize F x=sx at hn;unfold Bz;split
     .rename_i g _ _ h' _ _ m' _ _ _;rw [hn g (by simp [S.names,V.names,W.names])]
     .rfl
     .rfl
  |none=>
   have hx:=hF x (by simp [Op.operands]);have hn:=ho x (by simp [Op.operands]);have hlo:lo.map F=lo.map F':=by
    cases lo with
    |none=>rfl
    |some l=>simp [hF l (by simp [Op.operands])]
   have hhi:hi.map F=hi.map F':=by
    cases hi with
    |none=>rfl
    |some l=>simp [hF l (by simp [Op.operands])]
   simp only [kernel,<-hx,<-hlo,<-hhi];generalize F x=sx at hn;split
   .rename_i x _;have hn :∀g∈x.names,o g=o' g:=fun g hg=>hn g (by simpa [S.names,V.names] using hg);rw [<-Fq hn];split
    .split
     .split
      .rw [hn _ (by simp [W.names])]
      all_goals rfl
     .rfl
    .rfl
   .rfl
   .rfl
 |fieldAddr t x n=>
  have hx:=hF x (by simp [Op.operands]);have hn:=ho x (by simp [Op.operands]);simp only [kernel,<-hx];generalize F x=sx at hn;split
  .rw [Ah fun g hg=>hn g (by simpa [S.names,V.names] using hg)]
  .rfl
 |field t x n=>simp only [kernel,<-hF x (by simp [Op.operands])]
 |indexAddr t x ix=>
  have hx:=hF x (by simp [Op.operands]);have hn:=ho x (by simp [Op.operands]);simp only [kernel,<-hx,<-hF ix (by simp [Op.operands])];generalize F x=sx at hn;split
  .rename_i x a i n _ _;have hn :∀g∈x.names,o g=o' g:=fun g hg=>hn g (by simpa [S.names,V.names] using hg);split
   .rw [hn _ (by simp [W.names])]
   .rw [hn _ (by simp [W.names])]
   all_goals rfl
  .rfl
  .rw [Ah fun g hg=>hn g (by simpa [S.names,V.names] using hg)]
  .rfl
 |index t x ix=>simp only [kernel,<-hF x (by simp [Op.operands]),<-hF ix (by simp [Op.operands])]
 |extract t n=>simp only [kernel,<-hF t (by simp [Op.operands])]
 |range t x=>simp only [kernel,<-hF x (by simp [Op.operands])]
 |makeFunc fn first caps=>
  cases fn with
  |func g=>
   simp only [kernel];have hc :∀x∈caps.toList,F x=F' x:=fun x hx=>hF x (by simp [Op.operands];exact .inr (by simpa using hx));have :∀l:List Operand,(∀x∈l,F x=F' x)->∀(G:Option (List W)->Option DL),G (l.mapM (fun x=>match F x with | .v (.one w)=>some w | _=>none))=G (l.mapM (fun x=>match F' x with | .v (.one w)=>some w | _=>none)):=by
    intro l hl G;congr 1
    induction l with
    |nil=>rfl
    |cons x l ih=>
     simp only [v8];rw [hl x (by simp),ih fun y hy=>hl y (by simp [hy])]
   split
   .exact this _ hc fun z=>match z with | some ws=>some (.pure (.v (.one (.clo g ws)))) | none=>none
   .rfl
  |_=>rfl
 |call c=>
  obtain ⟨callee,args,ts⟩:=c;have ha :∀x∈args.toList,F x=F' x:=fun x hx=>hF x (by simp [Op.operands,Call.operands];exact .inr (by simpa using hx));have hb :∀x∈args.toList,∀g∈(F x).names,o g=o' g:=fun x hx=>ho x (by simp [Op.operands,Call.operands];exact .inr (by simpa using hx));cases callee with
  |builtin b=>
   cases b with
   |append=>
    simp only [kernel];split
    .rename_i s x sT xT _ hl _;have hs:=ha s (by rw [hl];simp);have hx:=ha x (by rw [hl];simp);have ns:=hb s (by rw [hl];simp);have nx:=hb x (by rw [hl];simp);rw [<-hs,<-hx];generalize F s=ss at ns;generalize F x=sx at nx;split
     .exact Om (fun g hg=>ns g (by simpa [S.names,V.names] using hg)) (fun g hg=>nx g (by simpa [S.names,V.names] using hg))
     .rfl
    .rfl
   |clear=>
    simp only [kernel];split
    .rename_i x t tl hl _;have hx:=ha x (by rw [hl];simp);have nx:=hb x (by rw [hl];simp);rw [<-hx];generalize F x=sx at nx;unfold NM;split
     .rename_i e _ _ _ g lo hi _;rw [nx g (by simp [S.names,V.names,W.names])];split
      .rename_i ie _ _ _ _ _ _;have:su o (ie.zero.map cv)=su o' (ie.zero.map cv):=qI fun x hx g hg=>by
        obtain ⟨v,_,rfl⟩:=X1.1 hx;rw [nI] at hg;cases hg
       rw [this]
      .rfl
     .rfl
    .rfl
   |len=>
    simp only [kernel];split
    .rename_i x t hl _;have hx:=ha x (by rw [hl];simp);have nx:=hb x (by rw [hl];simp);rw [<-hx];generalize F x=sx at nx;split
     .rw [Fq fun g hg=>nx g (by simpa [S.names,V.names] using hg)]
     .rfl
     .rfl
    .rfl
   |min=>
    simp only [kernel];split
    .rename_i x y hl;rw [ha x (by rw [hl];simp),ha y (by rw [hl];simp)]
    .rename_i x y z hl;rw [ha x (by rw [hl];simp),ha y (by rw [hl];simp),ha z (by rw [hl];simp)]
    .rfl
   |max=>
    simp only [kernel];split
    .rename_i x y hl;rw [ha x (by rw [hl];simp),ha y (by rw [hl];simp)]
    .rename_i x y z hl;rw [ha x (by rw [hl];simp),ha y (by rw [hl];simp),ha z (by rw [hl];simp)]
    .rfl
   |_=>rfl
  |_=>rfl
 |_=>rfl
theorem yX {col:Nat->Option Nat} :∀{xs:List W} {j:Nat},(∀x∈xs,∀g∈x.names,Agree o o' g)->Qb o col j xs=Qb o' col j xs
 | [],_,_=>rfl
 |x::xs,j,h=>by
  have hx:=h x (by simp);simp only [Qb];rw [yX fun y hy=>h y (by simp [hy]),D7 hx];cases x with
  |own e=>simp only [(hx e (by simp [W.names])).1]
  |_=>rfl
theorem Aj {col:Nat->Option Nat} :∀{xs:List W} {j:Nat} {ys:List P} {a i:Bool} {gs:List Nat} {es:List (Nat×Nat)},Qb o col j xs=some (ys,a,i,gs,es)->(∀x∈xs,∀g∈x.names,Agree o o' g)->∀g∈gs,Agree o o' g
 | [],j,ys,a,i,gs,es,h,_=>by simp [Qb] at h;obtain ⟨_,_,_,rfl,_⟩:=h;simp
 |x::xs,j,ys,a,i,gs,es,h,hx=>by
  simp only [Qb] at h;split at h
  .cases h
  .rename_i ys' a' i' gs' es' h2;have ih:=Aj h2 (fun y hy=>hx y (by simp [hy]));split at h
   .split at h
    .rename_i h1;simp only [Q0,Q1] at h;obtain ⟨_,_,_,rfl,_⟩:=h;intro g hg;rcases X2.1 hg with hg | hg
     .exact Ag h1 (hx x (by simp)) g hg
     .exact ih g hg
    .cases h
   .split at h
    .simp only [Q0,Q1] at h;obtain ⟨_,_,_,rfl,_⟩:=h;exact ih
    .split at h
     .split at h
      .simp only [Q0,Q1] at h;obtain ⟨_,_,_,rfl,_⟩:=h;exact ih
      .cases h
     .cases h
    .cases h
theorem QM {x:W} (h :∀g∈x.names,Agree o o' g):baseD o x=baseD o' x:=by
 cases x<;>simp only [baseD]<;>(try rw [mW (h _ (by simp [W.names])),(h _ (by simp [W.names])).1])
theorem KW {tt:TT} {dc:List (Nat×Nat)} {d:Nat} {F F':Operand->S} {op:Op} {ty:TypeId} (hF :∀x∈op.operands.toList,F x=F' x) (hO :∀x∈op.operands.toList,∀g∈(F x).names,Agree o o' g) :
  dW tt dc d o F op ty=dW tt dc d o' F' op ty:=by
 cases op with
 |load t x=>
  have hx:=hF x (by simp [Op.operands]);have hn:=hO x (by simp [Op.operands]);simp only [dW,z_,<-hx];generalize F x=sx at hn;congr 1
  .split
   .have hg:=hn _ (by simp [S.names,V.names,W.names];rfl);rw [<-mW hg]
   .rfl
  .split
   .have hg:=hn _ (by simp [S.names,V.names,W.names];rfl);rw [<-mW hg,<-hg.1]
   .rfl
 |slice t x lo hi mx=>
  cases lo with
  |some _=>rfl
  |none=>
  cases mx with
  |some _=>rfl
  |none=>
  have hx:=hF x (by simp [Op.operands]);have hn:=hO x (by simp [Op.operands]);have hh:hi.map F=hi.map F':=by
   cases hi with
   |none=>rfl
   |some y=>simp only [Z3,Q0];exact hF y (by simp [Op.operands])
  simp only [dW,<-hx,<-hh];generalize F x=sx at hn;split
  .have hg:=hn _ (by simp [S.names,V.names,W.names];rfl);rw [<-hg.1]
  .rfl
 |store t x y=>
  have hx:=hF x (by simp [Op.operands]);have hy:=hF y (by simp [Op.operands]);have hn:=hO x (by simp [Op.operands]);have hm:=hO y (by simp [Op.operands]);simp only [dW,<-hx,<-hy];generalize F x=sx at hn;generalize F y=sy at hm;split
  .rename_i g off y _;have hg:=hn _ (by simp [S.names,V.names,W.names];rfl);have hw :∀x∈y.words,∀g∈x.names,Agree o o' g:=fun x hx g hg=>hm g (Fv hx hg);rw [<-mW hg,<-hg.1];split
   .rename_i a0 i0 sz aj l0 hole _;rw [<-yX hw];split
    .rename_i ps a' i' gs es hz;rw [nN (Aj hz hw)]
    .rfl
   .rfl
  .rfl
 |buildSlice t n ps=>
  have e:ps.toList.map (fun p=>(p.1,F p.2))=ps.toList.map (fun p=>(p.1,F' p.2)):=ZZ fun p hp=>by
   rw [hF p.2 (by simp only [Op.operands];exact X1.2 ⟨p,hp,rfl⟩)]
  simp only [dW,<-e];split
  .split
   .rename_i ie _;split
    .rename_i ws hws;have hn :∀x∈ws,∀g∈x.names,Agree o o' g:=by
      intro x hx g hg;rcases Ai hws x hx with h | ⟨p,hp,h⟩
      .have:=rE h;obtain ⟨v,_,rfl⟩:=X1.1 this;rw [nI] at hg;cases hg
      .obtain ⟨q,hq,rfl⟩:=X1.1 hp;exact hO q.2 (by simp only [Op.operands];exact X1.2 ⟨q,hq,rfl⟩) g (h g hg)
     rw [<-yX hn];split
     .rename_i h;rw [nN (Aj h hn)]
     .rfl
    .rfl
   .rfl
  .rfl
 |makeSlice t n c=>
  simp only [dW,<-hF n (by simp [Op.operands]),<-hF c (by simp [Op.operands])];split
  .split
   .rename_i ie _;have :∀col,Qb o col 0 (ie.zero.map cv)=Qb o' col 0 (ie.zero.map cv):=fun col=>yX fun x hx g hg=>by
     obtain ⟨v,_,rfl⟩:=X1.1 hx;rw [nI] at hg;cases hg
    rw [this]
   .rfl
  .rfl
 |call c=>
  obtain ⟨callee,args,ts⟩:=c;have ha :∀x∈args.toList,F x=F' x:=fun x hx=>hF x (by simp [Op.operands,Call.operands];exact .inr (by simpa using hx));have hb :∀x∈args.toList,∀g∈(F x).names,Agree o o' g:=fun x hx=>hO x (by simp [Op.operands,Call.operands];exact .inr (by simpa using hx));cases callee with
  |builtin b=>
   cases b with
   |append=>
    simp only [dW];split
    .rename_i s x sT xT _ hl _;have hs:=ha s (by rw [hl];simp);have hx:=ha x (by rw [hl];simp);have ns:=hb s (by rw [hl];simp);have nx:=hb x (by rw [hl];simp);rw [<-hs,<-hx];generalize F s=ss at ns;generalize F x=sx at nx;split
     .rename_i s' g2 _ _;have hg:=nx g2 (by simp [S.names,V.names,W.names]);rw [<-QM (fun g hg=>ns g (by simpa [S.names,V.names] using hg)),<-mW hg,<-hg.1]
     .rfl
    .rfl
   |_=>rfl
  |_=>rfl
 |_=>rfl
end
end Go.Fw

namespace Go.Fw
open Go.RowKit
variable [eX]
def quiet:Obj->Bool
 |.loop _=>true
 |.deferred _=>true
 |_=>false
theorem kD {o:Obj} (h:quiet o=true) :∀c e f,o≠.cells c e f:=by intro c e f e';subst e';cases h
theorem IQ {o:Obj} (h:quiet o=true) :∀s k,o≠.stringIter s k:=by intro s k e';subst e';cases h
section
variable {w w':World} {b:Nat} {o:Obj}
theorem IU {a:Addr} {v:Value} (h:w.cell? a=some v) :∃c e f,w.heap[a.block]?=some (.cells c e f):=by
 obtain ⟨o,ho,hc⟩:=cells_of_cell h;cases o<;>first | exact ⟨_,_,_,ho⟩ | cases hc
theorem dh.turn (hb:w.heap[b]?=some o) (hq:quiet o=true) (hs :∀k,k≠b->w'.heap[k]?=w.heap[k]?) {ok:Nat->Prop} {x:P} {v:Value} (r:dh w ok x v):dh w' ok x v:=by
 have ne :∀{k c e f},w.heap[k]?=some (.cells c e f)->k≠b:=fun hk e'=>by subst e';rw [hb] at hk;exact kD hq _ _ _ (Wc hk)
 induction r with
 |int k n=>exact .int k n
 |bool b=>exact .bool b
 |str s=>exact .str s
 |opq v h=>exact .opq v h
 |nil sz ao cap=>exact .nil sz ao cap
 |sl sz l a cap f hs' hok hcap hlen hc hr ih=>
  refine .sl sz l a cap f hs' hok hcap hlen (fun i x hx j y hy => ?_) (fun i x hx j y hy=>ih i x hx j y hy);have h0:=hc i x hx j y hy;obtain ⟨c,e,f,hk⟩:=IU h0;rw [<-h0];exact World.cell?_of_block (w:=w) (hs _ (ne hk))
 |seq l v S hv hS hq'=>
  exact .seq l v S hv (fun b' hb'=>⟨(hS b' hb').1,by obtain ⟨c,e,f,hk⟩:=(hS b' hb').2;exact ⟨c,e,f,(hs _ (ne hk)).trans hk⟩⟩)
   (eX.WC (fun b' hb'=>by obtain ⟨c,e,f,hk⟩:=(hS b' hb').2;exact hs _ (ne hk)) hq')
variable {E:Env} {st:St} {gh:Nat->Gh}
theorem yY (hz:w'.heap.size=w.heap.size) {a i:Bool}:E.ok st gh w a i=E.ok st gh w' a i:=by
 funext b;unfold Env.ok;rw [hz]
theorem fF.turn (hb:w.heap[b]?=some o) (hq:quiet o=true) (hs :∀k,k≠b->w'.heap[k]?=w.heap[k]?) (hz:w'.heap.size=w.heap.size) {x:W} {v:Value} (r:fF E st gh w x v):fF E st gh w' x v:=by
 induction r with
 |p a i x v h=>exact .p a i x v (by rw [<-yY hz];exact h.turn hb hq hs)
 |dF=>exact .dF
 |own g v hv h=>exact .own g v hv h
 |vw g lo hi v hv h=>exact .vw g lo hi v hv h
 |box g off v hv h=>exact .box g off v hv h
 |ep g n off v hv h=>exact .ep g n off v hv h
 |sp a i row off b' o' hb' h=>
  refine .sp a i row off b' o' (by rw [<-yY hz];exact hb') fun j y hj => ?_;obtain ⟨u,hu,hr⟩:=h j y hj;obtain ⟨c,e,f,hk⟩:=IU hu;refine ⟨u,?_,by rw [<-yY hz];exact hr.turn hb hq hs⟩;rw [<-hu];refine World.cell?_of_block (w:=w) (hs _ fun e' => ?_);have hk:w.heap[b']?=some (.cells c e f):=hk;have e':b'=b:=e';rw [e',hb] at hk;exact kD hq _ _ _ (Wc hk)
 |gl g=>exact .gl g
 |ni g v hv h=>exact .ni g v hv h
 |gd b x v h ih=>exact .gd b x v ih
 |clo f caps vs hl h ih=>exact .clo f caps vs hl ih
 |no v=>exact .no v
theorem qX.turn (hb:w.heap[b]?=some o) (hq:quiet o=true) (hs :∀k,k≠b->w'.heap[k]?=w.heap[k]?) (hz:w'.heap.size=w.heap.size) {x:V} {v:Value} (r:qX E st gh w x v):qX E st gh w' x v:=by
 cases r with
 |one x v h=>exact .one x v (h.turn hb hq hs hz)
 |agg xs cs hl hv h=>exact .agg xs cs hl hv fun j x v hx hv'=>(h j x v hx hv').turn hb hq hs hz
theorem dL.turn (hb:w.heap[b]?=some o) (hq:quiet o=true) (hs :∀k,k≠b->w'.heap[k]?=w.heap[k]?) (hz:w'.heap.size=w.heap.size) {x:S} {v:Value} (r:dL E st gh w x v):dL E st gh w' x v:=by
 cases r with
 |v x v h=>exact .v x v (h.turn hb hq hs hz)
 |jq xs vs hl h=>exact .jq xs vs hl fun j x v hx hv=>(h j x v hx hv).turn hb hq hs hz
 |no v=>exact .no v
theorem iK.turn (hb:w.heap[b]?=some o) (hq:quiet o=true) (hs :∀k,k≠b->w'.heap[k]?=w.heap[k]?) (hz:w'.heap.size=w.heap.size) {a i:Bool} {sz:Nat} {l:List (List P)} {G:Gh} (r:iK E st gh w a i sz l G):iK E st gh w' a i sz l G:=by
 rcases r with r | ⟨ad,c,e,h1,h2,h3,h4,h5,h6,h7⟩
 .exact .inl r
 .exact .inr ⟨ad,c,e,h1,h2,(hs _ fun e'=>by rw [e',hb] at h3;exact kD hq _ _ _ (Wc h3)).trans h3,h4,h5,h6,fun n x hx j y hy=>let ⟨v,q1,q2⟩:=h7 n x hx j y hy;⟨v,q1,by rw [<-yY hz];exact q2.turn hb hq hs⟩⟩
theorem lX.turn (hb:w.heap[b]?=some o) (hq:quiet o=true) (hs :∀k,k≠b->w'.heap[k]?=w.heap[k]?) (hz:w'.heap.size=w.heap.size) {x:O} {G:Gh} (r:lX E st gh w x G):lX E st gh w' x G:=by
 have ne :∀{k c e f},w.heap[k]?=some (.cells c e f)->k≠b:=fun hk e'=>by subst e';rw [hb] at hk;exact kD hq _ _ _ (Wc hk)
 cases x with
 |none=>trivial
 |box ws=>
  obtain ⟨ad,c,e,h1,h2,h3,h4,h5⟩:=r;exact ⟨ad,c,e,h1,h2,(hs _ (ne h3)).trans h3,h4,fun j x hx=>let ⟨v,q1,q2,q3⟩:=h5 j x hx;⟨v,q1,q2,q3.turn hb hq hs hz⟩⟩
 |arr fz a i sz l=>
  cases fz with
  |true=>exact (by rw [<-yY hz];exact dh.turn hb hq hs r:dh w' (E.ok st gh w' a i) (.sl sz l) (.slice G.ad l.length G.cap))
  |false=>exact iK.turn hb hq hs hz r
 |aO a i sz aj l hole=>
  rcases r with r | ⟨ad,c,e,h1,h2,h3,h4,h5,h6,⟨h7,h7'⟩,h8⟩
  .exact .inl r
  .refine .inr ⟨ad,c,e,h1,h2,(hs _ (ne h3)).trans h3,h4,h5,h6,⟨h7,fun k hk=>let ⟨c,e,f,q⟩:=h7' k hk;⟨c,e,f,(hs _ (ne q)).trans q⟩⟩,fun n x hx j y hy => ?_⟩;obtain ⟨v,hv,hr⟩:=h8 n x hx j y hy;refine ⟨v,hv,?_⟩;unfold iQ at *;cases hc:aj.lookup j with
   |none=>rw [hc] at hr;exact (by rw [<-yY hz];exact dh.turn hb hq hs hr:dh w' (E.ok st gh w' a i) y v)
   |some sz'=>
    rw [hc] at hr;simp only at *;cases hh:iq hole n j with
    |some d=>rw [hh] at hr;exact ⟨hr.1,hr.2.turn hb hq hs hz⟩
    |none=>
     rw [hh] at hr;obtain ⟨l',ao,k,q1,q2,q3,q4⟩:=hr;exact ⟨l',ao,k,q1,q2,q3.turn hb hq hs hz,q4⟩
 |it s n=>
  obtain ⟨ad,bs,k,h1,h2,h3,h4⟩:=r;refine ⟨ad,bs,k,h1,h2,h3,(hs _ fun e' => ?_).trans h4⟩;rw [e',hb] at h4;exact IQ hq _ _ (Wc h4)
theorem Rel.turn {val:Nat->Value} (h:Rel E st gh val w) (hb:w.heap[b]?=some o) (hq:quiet o=true) (hB:E.B0<=b) (o':Obj):Rel E st gh val (w.putObj b o'):=by
 have hs :∀k,k≠b->(w.putObj b o').heap[k]?=w.heap[k]?:=fun k hk=>World.putObj_heap_other hk;have hz:(w.putObj b o').heap.size=w.heap.size:=World.putObj_size;exact ⟨fun t=>(h.slots t).turn hb hq hs hz,fun g=>(h.bf g).turn hb hq hs hz,h.inj,fun g a h1 h2=>by rw [hz];exact h.wr g a h1 h2,h.wi,h.ns,h.wb,fun k hk hw=>(hs k (by omega)).trans (h.frame k hk hw),by rw [hz];exact h.size,h.os,h.tape,h.output,h.us,h.uo,h.ul⟩
omit [eX] in
structure BQ (w w':World):Prop where
 size:w.heap.size<=w'.heap.size
 same :∀b,b<w.heap.size->w'.heap[b]?=w.heap[b]?
 os:w'.os=w.os
 tape:w'.tape=w.tape
 output:w'.output=w.output
theorem BQ.alloc (w:World) (o:Obj):BQ w (w.alloc o):=
 ⟨by simp,fun b hb=>Below.heap_alloc w o b hb,rfl,rfl,rfl⟩
theorem BQ.lets (h:BQ w w'):Lets E st st gh gh w w':=
 ⟨fun a i b hb=>⟨⟨hb.1,WF hb.2.1 h.size,hb.2.2⟩,h.same b hb.2.1⟩,fun g _=>.inr ⟨⟨rfl,rfl⟩,O.fH _⟩⟩
theorem Rel.grows {val:Nat->Value} (h:Rel E st gh val w) (hg:BQ w w'):Rel E st gh val w':=by
 have hl:Lets E st st gh gh w w':=hg.lets;refine ⟨fun t=>hl.ae2 (h.us t) (h.slots t),fun g=>hl.Bq (fun ho ad had=>hg.same _ (h.wr g ad ho had).2) (h.uo g) (h.bf g),h.inj,fun g a h1 h2=>⟨(h.wr g a h1 h2).1,WF (h.wr g a h1 h2).2 hg.size⟩,h.wi,h.ns,h.wb,fun k hk hw=>(hg.same k (WF hk h.size)).trans (h.frame k hk hw),J1 h.size hg.size,hg.os.trans h.os,hg.tape.trans h.tape,hg.output.trans h.output,h.us,h.uo,h.ul⟩
theorem Rel.abA {val:Nat->Value} (h:Rel E st gh val w) (hb:w.heap[b]?=some o) (hq:quiet o=true) (hB:E.B0<=b) (a i:Bool):E.ok st gh w a i b:=by
 refine ⟨.inr (.inr (.inl hB)),(V1.1 hb).1,fun g ho had => ?_⟩;have hO:=h.bf g;rcases had with ⟨ad,had,e⟩ | hsub
 case inr=>
  cases hd:(st.o g).oz with
  |false=>rw [h.ns g ho hd b] at hsub;cases hsub
  |true=>
   cases hog:st.o g with
   |aO a i sz aj l hole=>
    rw [hog] at hO;rcases hO with ⟨_,_,_,q⟩ | ⟨ad,c,e,_,_,_,_,_,_,⟨_,q⟩,_⟩
    .rw [q b] at hsub;cases hsub
    .obtain ⟨c,e,f,q⟩:=q b hsub;rw [hb] at q;exact kD hq _ _ _ (Wc q)
   |_=>rw [hog] at hd;cases hd
 cases hog:st.o g with
 |none=>rw [hog] at ho;cases ho
 |box ws=>
  rw [hog] at hO;obtain ⟨ad',c,e',q1,_,q3,_⟩:=hO;rw [had] at q1;cases q1;rw [e,hb] at q3;exact kD hq _ _ _ (Wc q3)
 |aO a i sz aj l hole=>
  rw [hog] at hO;rcases hO with ⟨q1,_⟩ | ⟨ad',c,e',q1,_,q3,_⟩
  .rw [had] at q1;cases q1
  .rw [had] at q1;cases q1;rw [e,hb] at q3;exact kD hq _ _ _ (Wc q3)
 |arr fz a i sz l=>
  cases fz with
  |true=>rw [hog] at ho;cases ho
  |false=>
   rw [hog] at hO;rcases hO with ⟨q1,_⟩ | ⟨ad',c,e',q1,_,q3,_⟩
   .rw [had] at q1;cases q1
   .rw [had] at q1;cases q1;rw [e,hb] at q3;exact kD hq _ _ _ (Wc q3)
 |it s n=>
  rw [hog] at hO;obtain ⟨ad',bs,k,q1,_,_,q4⟩:=hO;rw [had] at q1;cases q1;rw [e,hb] at q4;exact IQ hq _ _ (Wc q4)
end
end Go.Fw

namespace Go.Fw
variable [eX]
section
variable {E:Env} {st st':St} {gh bM:Nat->Gh} {w w':World} {a:Act}
theorem UR (v:Value):dL E st gh w (vg v) v:=by
 unfold vg;split
 .rename_i cs;split
  .rename_i h;have h:=XX.1 h;refine .v _ _ (.agg _ cs.toList (by simp) h fun j x u hx hu => ?_);rw [XS,hu] at hx;simp only [Z3,Q0] at hx;subst hx;exact UA (h u (XN hu))
  .exact .no _
 .exact .no _
 .exact .v _ _ (.one _ _ (.clo _ [] [] rfl fun j x v hx=>by simp at hx))
 .split
  .rename_i h;exact .v _ _ (.one _ _ (UA h))
  .exact .no _
theorem Oo (v:Value):(vg v).names=[]:=by
 unfold vg;split
 .split
  .simp [S.names,V.names,nI]
  .rfl
 .rfl
 .simp [S.names,V.names,W.names]
 .split
  .simp [S.names,V.names,nI]
  .rfl
theorem qJ (h:Rel E st gh (fun t=>a.tmps.getD t undef) w) (x:Operand):dL E st gh w (st.dP x) (a.eval x):=by
 cases x with
 |tmp t=>exact h.slots t
 |const v=>exact UR v
 |global g=>
  simp only [St.dP];split
  .exact .v _ _ (.one _ _ (.gl g))
  .exact .no _
 |func f=>exact .v _ _ (.one _ _ (.clo _ [] [] rfl fun j x v hx=>by simp at hx))
theorem IW (h:Rel E st gh (fun t=>a.tmps.getD t undef) w) (x:Operand) :∀g∈(st.dP x).names,st.used g=true:=by
 cases x with
 |tmp t=>exact h.us t
 |const v=>intro g hg;simp [St.dP,Oo] at hg
 |global g=>
  intro g' hg;simp only [St.dP] at hg;split at hg
  .simp [S.names,V.names,W.names] at hg
  .simp [S.names] at hg
 |func f=>intro g hg;simp [St.dP,S.names,V.names,W.names] at hg
theorem BR (dst:Option Tmp) (v:Value) (h :∀d,dst=some d->d<a.tmps.size):(fun t=>(a.put dst v).tmps.getD t undef)=Ic (fun t=>a.tmps.getD t undef) dst v:=by
 cases dst with
 |none=>rfl
 |some d=>
  funext t;have hd:=h d rfl;simp only [Act.put,Ic,We];by_cases e:t=d
  .subst e;simp [hd]
  .rw [Array.getElem?_setIfInBounds_ne (Ne.symm e),if_neg e]
variable {Pg:Program} {T:Tab} {tt:TT}
theorem Zj (hT :∀f sp,T f=some sp->Sound Pg (f % 1000000) sp) (htt:iR Pg tt) (h:Rel E st gh (fun t=>a.tmps.getD t undef) w) {o:Oper} {d:Nat} {e:Eff} (hc:jo T tt d st o fun e'=>e'=e) (hnew :∀g∈e.new,st.used g=false)
  {K:Act->World->Prop} {Q:Exit->Act->World->Prop}
  (hK :∀v w' bM,Rel E (st.aK e.aK e.new) bM (fun t=>a.tmps.getD t undef) w'->Lets E st (st.aK e.aK e.new) gh bM w w'->dL E (st.aK e.aK e.new) bM w' e.x v->(∀g∈e.x.names,(st.aK e.aK e.new).used g=true)->K (a.put o.dst v) w') :
  o.wp Pg a w K Q:=by
 unfold jo at hc;split at hc
 .rename_i f args ts ho;split at hc
  .rename_i fn caps hf;split at hc
   .rename_i sp hsp;split at hc
    .rename_i c hci;obtain ⟨WY,dH,same,hR,hsame,he⟩:=hc;simp only [Qt,decide_eq_true_eq] at WY;have hrf:=qJ h f;rw [hf] at hrf;generalize hvf:a.eval f=vf at hrf;cases hrf.dK with
     |clo _ _ vs hl hvs=>
     have hS:=ae_ (p:=Sound Pg) hT hsp;have hrun:(execOp a.eval o).run Pg w=.ok (.enter fn (args.toList.map a.eval++vs).toArray) w:=by
      have:(#[]++args.map a.eval)++vs.toArray=(args.toList.map a.eval++vs).toArray:=by
       apply Array.ext';simp
      rw [<-hS.2.1 (args.toList.map a.eval++vs).toArray w,<-this];simp only [execOp,ho,resolve,hvf,Deferred.ofValue];rfl
     show o.upon Pg a K Q ((execOp a.eval o).run Pg w);rw [hrun,Oper.upon_enter];have hr :∀t,dL E st gh w (((args.toList.map st.dP)++caps.map fun x=>S.v (.one x)).getD t .no) ((args.toList.map a.eval++vs).getD t undef):=by
      intro t;simp only [List.getD_eq_getElem?_getD];by_cases ht:t<args.toList.length
      .rw [W8 (by simpa using ht),W8 (by simpa using ht),XS,XS,Q2 ht];exact qJ h _
      .rw [W5 (by simpa using ht),W5 (by simpa using ht)];simp only [ZD];rw [XS];cases hx:caps[t-args.toList.length]? with
       |none=>exact .no _
       |some x=>
        have hlt:t-args.toList.length<vs.length:=by rw [<-hl];exact (Q3.1 hx).1
        rw [Q2 hlt];exact .v _ _ (.one _ _ (hvs _ x _ hx (Q2 hlt)))
     have hu:=Y9 (st:=st) (e:=kT sp.sig d st.o c dH) fun g hg=>(hsame g hg).2;have hnew :∀g∈(kT sp.sig d st.o c dH).new,st.used g=false:=fun g hg=>hnew g (by rw [<-he];exact hg);refine Calls.mono (UQ hS h hr (by simp;omega) hci WY.1 hR d rfl hnew) fun e' w' he' => ?_;obtain ⟨v,bM,rfl,q1,q2,q3,q4⟩:=he';rw [<-hu] at q1 q2 q3 q4;rw [he] at q1 q2 q3 q4;have q3:dL E (st.aK e.aK e.new) bM w' e.x v:=by rw [<-he];rw [<-he] at q3;exact q3
     have q4 :∀g∈e.x.names,(st.aK e.aK e.new).used g=true:=by rw [<-he];rw [<-he] at q4;exact q4
     exact hK v w' bM q1 q2 q3 q4
    .cases hc
   .cases hc
  .cases hc
 .rcases hc with ⟨dc,r,hk,hp,hc⟩ | hc
  .have he:=Qc.iff.1 hc;subst he;obtain ⟨v,w',bM,hd,q1,q2,q3,q4⟩:=KQ htt o.op E st gh _ w a.eval st.dP o d r rfl h (qJ h) (IW h) hk hp hnew;show o.upon Pg a K Q ((execOp a.eval o).run Pg w);rcases hd with hd | ⟨hd,rfl⟩
   .rw [hd];exact hK v w' bM q1 q2 q3 q4
   .rw [hd];exact hK _ w' bM q1 q2 q3 q4
  split at hc
  .rename_i r hk;obtain ⟨hp,hc⟩:=hc;have he:({ x:=r.dst r.val,aK:=r.aK r.val,new:=r.new }:Eff)=e:=by
    cases hb:Fe o.op with
    |true=>rw [hb] at hc;exact Qc.iff.1 hc
    |false=>rw [hb] at hc;exact hc
   subst he;obtain ⟨v,w',bM,hd,q1,q2,q3,q4⟩:=N9 htt o.op E st gh _ w a.eval st.dP o d r rfl h (qJ h) (IW h) hk hp hnew;show o.upon Pg a K Q ((execOp a.eval o).run Pg w);rcases hd with hd | ⟨hd,rfl⟩
   .rw [hd];exact hK v w' bM q1 q2 q3 q4
   .rw [hd];exact hK _ w' bM q1 q2 q3 q4
  .cases hc
def mark (D:Nat):Deferred:={ target:=.collected D,args:=#[] }
def Marks (E:Env) (a:Act) (w:World):Prop :=∃Ds:List Nat,a.defers=Ds.map mark/\Ds.Nodup/\∀D∈Ds,E.B0<=D/\w.heap[D]?=some (.deferred (some []))
theorem Marks.nil {E:Env} {a:Act} {w:World} (h:a.defers=[]):Marks E a w:=⟨[],h,List.nodup_nil,fun D hD=>by cases hD⟩
structure Good (E:Env) (N:Nat) (bD:List Nat) (xk:Nat->Gh) (st:St) (a:Act) (w:World):Prop where
 ex :∃gh,Rel E st gh (fun t=>a.tmps.getD t undef) w/\∀g∈bD,st.used g=true/\(st.o g=.none\/((gh g).ad=(xk g).ad/\(gh g).cap=(xk g).cap))
 size:a.tmps.size=N
 defers:Marks E a w
theorem BU (dst:Option Tmp) (v:Value):(a.put dst v).tmps.size=a.tmps.size:=by cases dst<;>simp [Act.put]
theorem put_defers (dst:Option Tmp) (v:Value):(a.put dst v).defers=a.defers:=by cases dst<;>rfl
theorem Marks.same {E:Env} {a:Act} {w w':World} (hm:Marks E a w) (h :∀D,E.B0<=D->w.heap[D]?=some (.deferred (some []))->w'.heap[D]?=w.heap[D]?) (dst:Option Tmp) (v:Value):Marks E (a.put dst v) w':=by
 obtain ⟨Ds,h1,h2,h3⟩:=hm;exact ⟨Ds,(put_defers dst v).trans h1,h2,fun D hD=>⟨(h3 D hD).1,(h D (h3 D hD).1 (h3 D hD).2).trans (h3 D hD).2⟩⟩
theorem Marks.step {val:Nat->Value} (hm:Marks E a w) (hR:Rel E st gh val w) (hL:Lets E st st' gh bM w w') (dst:Option Tmp) (v:Value):Marks E (a.put dst v) w':=
 hm.same (fun D h2 h3=>(hL.ok false false D (hR.abA h3 rfl h2 _ _)).2) dst v
theorem Marks.put (hm:Marks E a w) (dst:Option Tmp) (v:Value):Marks E (a.put dst v) w:=hm.same (fun _ _ _=>rfl) dst v
def Can (T:Tab) (tt:TT) (N:Nat) (ops:Array Oper) (st:St) (o:Oper) (e:Eff):Prop:=stepW T tt N ops o st fun e'=>e'=e
theorem oI {d:Nat} {o:Oper} {K K':Eff->Prop} (hK :∀e,K e->K' e) (h:jo T tt d st o K):jo T tt d st o K':=by
 unfold jo at *;split at h
 .split at h
  .split at h
   .split at h
    .obtain ⟨h1,dH,same,h2,h4,h3⟩:=h;exact ⟨h1,dH,same,h2,h4,hK _ h3⟩
    .exact h
   .exact h
  .exact h
 .rcases h with ⟨dc,r,h1,h2,h3⟩ | h
  .exact .inl ⟨dc,r,h1,h2,Qc.iff.2 (hK _ (Qc.iff.1 h3))⟩
  refine .inr ?_;split at h
  .refine ⟨h.1,?_⟩;obtain ⟨_,h⟩:=h;cases hb:Fe o.op with
   |true=>rw [hb] at h;exact Qc.iff.2 (hK _ (Qc.iff.1 h))
   |false=>rw [hb] at h;exact hK _ h
  .exact h
theorem D8 {d:Nat} {o:Oper} {K:Eff->Prop} (h:jo T tt d st o K) :∃e,jo T tt d st o (fun e'=>e'=e)/\K e:=by
 unfold jo at *;split at h
 .split at h
  .split at h
   .split at h
    .obtain ⟨h1,dH,same,h2,h4,h3⟩:=h;exact ⟨_,⟨h1,dH,same,h2,h4,rfl⟩,h3⟩
    .cases h
   .cases h
  .cases h
 .rcases h with ⟨dc,r,h1,h2,h3⟩ | h
  .exact ⟨_,.inl ⟨dc,r,h1,h2,Qc.iff.2 rfl⟩,Qc.iff.1 h3⟩
  split at h
  .obtain ⟨hp,h⟩:=h;cases hb:Fe o.op with
   |true=>rw [hb] at h;exact ⟨_,.inr ⟨hp,Qc.iff.2 rfl⟩,Qc.iff.1 h⟩
   |false=>rw [hb] at h;exact ⟨_,.inr ⟨hp,rfl⟩,h⟩
  .cases h
theorem QN {N:Nat} {ops:Array Oper} {o:Oper} {K:Eff->Prop} (h:stepW T tt N ops o st K) :∃e,Can T tt N ops st o e/\K e:=by
 unfold Can;unfold stepW at *;obtain ⟨hd,h⟩:=h;split at h
 .obtain ⟨e,h1,h2,h3⟩:=D8 h;exact ⟨e,⟨hd,oI (fun e' he=>⟨by rw [he];exact h2,he⟩) h1⟩,h3⟩
 .split at h
  .rename_i b hb;cases b with
   |true=>
    simp only [cond_true] at h;obtain ⟨e,h1,h2,h3⟩:=D8 h;refine ⟨e,⟨hd,?_⟩,h3⟩;simp only [cond_true];exact oI (fun e' he=>⟨by rw [he];exact h2,he⟩) h1
   |false=>exact ⟨Eff.skip,⟨hd,rfl⟩,h⟩
  .cases h
theorem IX {N:Nat} {bD:List Nat} {xk:Nat->Gh} (hT :∀f sp,T f=some sp->Sound Pg (f % 1000000) sp) (htt:iR Pg tt) {ops:Array Oper} {i:Nat} {o:Oper} (hi:ops[i]?=some o) (h:Good E N bD xk st a w) {e:Eff} (hc:Can T tt N ops st o e)
  {K:Act->World->Prop} {Q:Exit->Act->World->Prop} (hK :∀a' w',Good E N bD xk (st.eff o.dst e) a' w'->K a' w'):wpOp Pg ops Q i K a w:=by
 obtain ⟨⟨gh,hR,KF⟩,hsz,hdf⟩:=h;unfold Can stepW at hc;obtain ⟨hd,hc⟩:=hc;have hd :∀d,o.dst=some d->d<a.tmps.size:=by
  intro d e;rw [e] at hd;rw [hsz];simpa using hd
 have run:(jo T tt (o.dst.getD 0) st o fun e'=>e'.new.all (fun g=>!st.used g)=true/\e'=e)->o.wp Pg a w K Q:=by
  intro hc;obtain ⟨e',h1,h2,rfl⟩:=D8 hc;have hnew :∀g∈e'.new,st.used g=false:=fun g hg=>by have:=(XX.1 h2) g hg;simpa using this
  refine Zj hT htt hR h1 hnew fun v w' bM q1 q2 q3 q4=>hK _ _ ⟨⟨bM,?_,fun g hg => ?_⟩,by rw [BU];exact hsz,hdf.step hR q2 _ _⟩
  .rw [BR _ _ hd];exact q1.put o.dst q3 q4
  .obtain ⟨p1,p2⟩:=KF g hg;have ho:(st.eff o.dst e').o g=(st.aK e'.aK e'.new).o g:=by unfold St.eff St.put;cases o.dst<;>rfl
   have hu:(st.eff o.dst e').used g=(st.aK e'.aK e'.new).used g:=by unfold St.eff St.put;cases o.dst<;>rfl
   refine ⟨by rw [hu];simp [St.aK,p1],?_⟩;rw [ho];rcases q2.names g p1 with q | ⟨q,qk⟩
   .exact .inl q
   .rcases p2 with p2 | p2
    .rw [p2] at qk;exact .inl (O.LV qk)
    .exact .inr ⟨q.1.trans p2.1,q.2.trans p2.2⟩
 unfold wpOp;rw [hi];simp only;cases hg:o.guard with
 |none=>
  rw [hg] at hc;have:Region.wanted o (yielded ops a.tmps)=true:=by simp [Region.wanted,hg]
  rw [if_pos this];exact .inl (run hc)
 |some p=>
  obtain ⟨j,want⟩:=p;rw [hg] at hc;simp only at hc;split at hc
  .rename_i b hb;have hw:Region.wanted o (yielded ops a.tmps)=b:=by
    simp only [Region.wanted,hg,yielded];unfold guardOf at hb;split at hb
    .rename_i t ht;have QO:=hR.slots t;rw [ht];simp only [Option.bind_some];split at hb
     .rename_i a' i' b' hs;rw [hs] at QO;have hv:=QO.fP.nH;have:a.tmps[t]?=some (.bool b'):=by
       simp only [We] at hv;cases hx:a.tmps[t]? with
       |none=>rw [hx] at hv;cases hv
       |some x=>rw [hx] at hv;simp at hv;rw [hv]
      rw [this];simp only [Q0] at hb;subst hb;cases want<;>cases b'<;>rfl
     .rename_i hs;rw [hs] at QO;simp only [Q0] at hb;subst hb;have hv:a.tmps.getD t undef=.tuple #[]:=by
       generalize a.tmps.getD t undef=v at QO;cases QO with | jq _ vs hl _=>
       have:vs=[]:=by cases vs<;>simp_all
       subst this;rfl
      have:a.tmps[t]?=none\/a.tmps[t]?=some (.tuple #[]):=by
       simp only [We] at hv;cases hx:a.tmps[t]? with
       |none=>exact .inl rfl
       |some x=>rw [hx] at hv;simp at hv;rw [hv];exact .inr rfl
      rcases this with h | h<;>rw [h]<;>cases want<;>rfl
     .cases hb
    .cases hb
   rw [hw];cases b with
   |true=>exact .inl (run hc)
   |false=>
    simp only [cond_false] at hc;subst hc;refine hK _ _ ⟨⟨gh,?_,fun g hg => ?_⟩,by rw [BU];exact hsz,hdf.put _ _⟩
    .rw [BR _ _ hd];unfold St.eff Eff.skip;simp only [GZ];exact hR.put o.dst (.jq [] [] rfl fun j x v hx=>by simp at hx) (by simp [S.names])
    .have ho:(st.eff o.dst Eff.skip).o g=st.o g:=by unfold St.eff St.put Eff.skip;cases o.dst<;>simp [St.aK]
     have hu:(st.eff o.dst Eff.skip).used g=st.used g:=by unfold St.eff St.put Eff.skip;cases o.dst<;>simp [St.aK]
     rw [ho,hu];exact KF g hg
  .cases hc
end
end Go.Fw

namespace Go.Fw
variable [eX]
section
variable {o o':Nat->O}
theorem IY {k:WS} {x:W} (h :∀g∈x.names,Agree o o' g):fV o k x=fV o' k x:=by
 cases k with
 |p a i=>simp only [fV];rw [D7 h]
 |own g'=>cases x<;>rfl
 |box g' off=>
  cases off with
  |zero=>cases x<;>first | rfl | (rename_i off;cases off<;>rfl)
  |succ off=>cases x<;>rfl
 |dF=>cases x<;>rfl
 |fn f=>cases x<;>first | rfl | (rename_i caps;cases caps<;>rfl)
 |ni g=>cases x<;>rfl
 |no=>cases x<;>rfl
 |vw g=>cases x<;>rfl
 |ep g off=>cases x<;>rfl
theorem Fz :∀{ks:List WS} {xs:List W},(∀x∈xs,∀g∈x.names,Agree o o' g)->jJ o ks xs=jJ o' ks xs
 | [],[],_=>rfl
 | [],_::_,_=>rfl
 |_::_,[],_=>rfl
 |k::ks,x::xs,h=>by simp only [jJ];rw [IY (h x (by simp)),Fz fun y hy=>h y (by simp [hy])]
theorem UU {k:SS} {x:S} (h :∀g∈x.names,Agree o o' g):oH o k x=oH o' k x:=by
 cases k with
 |one k=>
  cases x with
  |v x=>cases x with
   |one x=>exact IY fun g hg=>h g (by simpa [S.names,V.names] using hg)
   |agg xs=>rfl
  |jq=>rfl
  |no=>rfl
 |agg ks=>
  cases x with
  |v x=>cases x with
   |one x=>rfl
   |agg xs=>exact Fz fun x hx g hg=>h g (by simp only [S.names,V.names,Z0];exact ⟨x,hx,hg⟩)
  |jq=>rfl
  |no=>rfl
theorem WZ {args:List S} {t:Nat}:args.getD t .no=.no\/args.getD t .no∈args:=by
 rw [List.getD_eq_getElem?_getD];cases h:args[t]? with
 |none=>exact .inl rfl
 |some x=>exact .inr (XN h)
theorem xP {args:List S} (h :∀x∈args,∀g∈x.names,Agree o o' g) :∀{L:List (Nat×SS)},fD o args L=fD o' args L
 | []=>rfl
 |(t,k)::L=>by
  simp only [fD];rw [UU (o:=o) (o':=o') (k:=k) (x:=args.getD t .no) (fun g hg=>by
   rcases WZ (args:=args) (t:=t) with e | e
   .rw [e] at hg;simp [S.names] at hg
   .exact h _ e g hg),xP h]
theorem BZ {k:WS} {x:W} {us:List P} {c:Bool×Bool} {gs:List Nat} {r:List (Nat×Nat)} (h:fV o k x=some (us,c,gs,r)) (hx :∀g∈x.names,Agree o o' g) :∀g∈gs,Agree o o' g:=by
 cases k with
 |p a i=>
  simp only [fV] at h;split at h
  .rename_i ht;simp only [Q0,Q1] at h;obtain ⟨_,_,rfl,_⟩:=h;exact Ag ht hx
  .cases h
 |own g'=>cases x<;>simp [fV] at h;obtain ⟨_,_,rfl,_⟩:=h;simp
 |box g' off=>
  cases off with
  |succ off=>cases x<;>simp [fV] at h
  |zero=>
   cases x with
   |box g off=>cases off<;>simp [fV] at h;obtain ⟨_,_,rfl,_⟩:=h;simp
   |_=>simp [fV] at h
 |dF=>simp [fV] at h
 |fn f gs0=>
  cases x with
  |clo f' caps=>
   simp only [fV] at h;split at h
   .split at h
    .simp only [Q0,Q1] at h;obtain ⟨_,_,rfl,_⟩:=h;simp
    .cases h
   .cases h
  |_=>simp [fV] at h
 |ni g=>simp [fV] at h
 |no=>simp [fV] at h
 |vw g=>simp [fV] at h
 |ep g off=>simp [fV] at h
theorem zK :∀{ks:List WS} {xs:List W} {us:List P} {c:Bool×Bool} {gs:List Nat} {r:List (Nat×Nat)},jJ o ks xs=some (us,c,gs,r)->(∀x∈xs,∀g∈x.names,Agree o o' g)->∀g∈gs,Agree o o' g
 | [],xs,us,c,gs,r,h,_=>by
  cases xs<;>simp [jJ] at h;obtain ⟨_,_,rfl,_⟩:=h;simp
 |k::ks,xs,us,c,gs,r,h,hx=>by
  cases xs with
  |nil=>simp [jJ] at h
  |cons x xs=>
   simp only [jJ] at h;split at h
   .rename_i h1 h2;simp only [Q0,Q1] at h;obtain ⟨_,_,rfl,_⟩:=h;intro g hg;rcases X2.1 hg with hg | hg
    .exact BZ h1 (hx _ (by simp)) g hg
    .exact zK h2 (fun y hy=>hx y (by simp [hy])) g hg
   .cases h
theorem ug {args:List S} :∀{L:List (Nat×SS)} {us:List P} {c:Bool×Bool} {gs:List Nat} {r:List (Nat×Nat)},fD o args L=some (us,c,gs,r)->(∀x∈args,∀g∈x.names,Agree o o' g)->∀g∈gs,Agree o o' g
 | [],us,c,gs,r,h,_=>by simp [fD] at h;obtain ⟨_,_,rfl,_⟩:=h;simp
 |(t,k)::L,us,c,gs,r,h,hx=>by
  simp only [fD] at h;split at h
  .rename_i h1 h2;simp only [Q0,Q1] at h;obtain ⟨_,_,rfl,_⟩:=h;intro g hg;rcases X2.1 hg with hg | hg
   .have hx0 :∀g∈(args.getD t .no).names,Agree o o' g:=by
     rcases WZ (args:=args) (t:=t) with e | e
     .rw [e];simp [S.names]
     .exact hx _ e
    .generalize args.getD t S.no=z at h1 hx0;cases k with
     |one k=>
      cases z with
      |v z=>
       cases z with
       |one z=>exact BZ h1 (fun g hg=>hx0 g (by simpa [S.names,V.names] using hg)) g hg
       |agg z=>simp [oH] at h1
      |_=>simp [oH] at h1
     |agg ks=>
      cases z with
      |v z=>
       cases z with
       |one z=>simp [oH] at h1
       |agg z=>exact zK h1 (fun x hx g hg=>hx0 g (by simp only [S.names,V.names,Z0];exact ⟨x,hx,hg⟩)) g hg
      |_=>simp [oH] at h1
   .exact ug h2 hx g hg
  .cases h
theorem oJ :∀{L:List (Nat×OS)} {r r':List (Nat×Nat)} {u:List P} {c:Bool×Bool},jG o r L=some (u,c,r')->∀p∈r,p∈r'
 | [],r,r',u,c,h=>by simp only [jG,Q0,Q1] at h;obtain ⟨_,_,rfl⟩:=h;exact fun p hp=>hp
 |(g',k)::L,r,r',u,c,h=>by
  simp only [jG] at h;split at h
  .split at h
   .split at h
    .split at h
     .rename_i h2;simp only [Q0,Q1] at h;obtain ⟨_,_,rfl⟩:=h;exact fun p hp=>oJ h2 p (W6 _ hp)
     .cases h
    .cases h
   .split at h
    .split at h
     .rename_i h2;simp only [Q0,Q1] at h;obtain ⟨_,_,rfl⟩:=h;exact oJ h2
     .cases h
    .cases h
   .split at h
    .split at h
     .rename_i h2;simp only [Q0,Q1] at h;obtain ⟨_,_,rfl⟩:=h;exact oJ h2
     .cases h
    .cases h
   .cases h
  .cases h
theorem qh :∀{L:List (Nat×OS)} {r r':List (Nat×Nat)} {u:List P} {c:Bool×Bool},jG o r L=some (u,c,r')->(∀p∈r',o p.2=o' p.2)->jG o' r L=some (u,c,r')
 | [],r,r',u,c,h,_=>h
 |(g',k)::L,r,r',u,c,h,hl=>by
  simp only [jG] at h ⊢;split at h
  .rename_i g hg;have hmem:=kN hg;have key :∀r2:List (Nat×Nat),(∀p∈r,p∈r2)->(∀p∈r2,p∈r')->o g=o' g:=fun r2 h1 h2=>hl _ (h2 _ (h1 _ hmem));split at h
   .rename_i ks ws hk;split at h
    .rename_i r1 h1;split at h
     .rename_i h2;simp only [Q0,Q1] at h;obtain ⟨rfl,rfl,rfl⟩:=h;have e:=key _ (fun p hp=>W6 _ hp) (oJ h2);simp only [<-e,hk,h1,qh h2 hl]
     .cases h
    .cases h
   .rename_i a1 b1 c1 sz a i sz' l hk;split at h
    .rename_i hsz;split at h
     .rename_i h2;simp only [Q0,Q1] at h;obtain ⟨rfl,rfl,rfl⟩:=h;have e:=key _ (fun p hp=>hp) (oJ h2);simp only [<-e,hk,qh h2 hl,if_pos hsz]
     .cases h
    .cases h
   .rename_i a1 b1 sz aj a i sz' kJ l hk;split at h
    .rename_i hsz;split at h
     .rename_i h2;simp only [Q0,Q1] at h;obtain ⟨rfl,rfl,rfl⟩:=h;have e:=key _ (fun p hp=>hp) (oJ h2);simp only [<-e,hk,qh h2 hl,if_pos hsz]
     .cases h
    .cases h
   .cases h
  .cases h
theorem Oq {s:zJ} {args:List S} {c:LJ} (h:iM s o args=some c) (h1 :∀x∈args,∀g∈x.names,Agree o o' g) (h2 :∀p∈c.ren,o p.2=o' p.2):iM s o' args=some c:=by
 unfold iM at *;rw [<-xP h1];split at h
 .rename_i hs;split at h
  .rename_i KF;simp only [Q0] at h;subst h;simp only [qh KF fun p hp=>h2 p (mX.2 hp)]
  .cases h
 .cases h
theorem IZ {s:zJ} {args:List S} {c:LJ} (hc:iM s o args=some c) (hx :∀x∈args,∀g∈x.names,Agree o o' g) :∀g∈c.uZ,Agree o o' g:=by
 unfold iM at hc;split at hc
 .rename_i hsl;split at hc
  .simp only [Q0] at hc;subst hc;exact ug hsl hx
  .cases hc
 .cases hc
end
def QT (T:Tab) (st:St) (o:Oper):List Nat:=
 match o.op with
 |.call { callee:=.value f,args,.. }=>match st.dP f with
  |.v (.one (.clo fn caps))=>match pick T fn (args.toList.map st.dP) with
   |some sp=>match iM sp.sig st.o ((args.toList.map st.dP)++caps.map fun x=>S.v (.one x)) with
    |some c=>c.ren.map (·.2)
    |none=>[]
   |none=>[]
  |_=>[]
 |_=>[]
def looks:Op->Bool
 |.move _ | .assign _ | .pick _ _ _ | .build _ _ | .extract _ _ | .field _ _ _ | .makeFunc _ _ _=>false
 |_=>true
theorem Ot {o o':Nat->O} {tt:TT} {d:Nat} {F F':Operand->S} {op:Op} {ty:TypeId} (hl:looks op=false) (hF :∀x∈op.operands.toList,F x=F' x):kernel tt d o F op ty=kernel tt d o' F' op ty:=by
 refine (BP (o':=o) hF fun _ _ _ _=>⟨rfl,fun _ _=>rfl⟩).trans ?_;cases op<;>first
  |(cases hl;done)
  |rfl
  |(rename_i fn first caps;cases fn<;>rfl)
theorem KY {o:Nat->O} {tt:TT} {dc:List (Nat×Nat)} {d:Nat} {F:Operand->S} {op:Op} {ty:TypeId} (hl:looks op=false):dW tt dc d o F op ty=none:=by
 cases op<;>first
  |(cases hl;done)
  |rfl
def qK (T:Tab) (st:St) (o:Oper):List Nat:=(bif looks o.op then (o.op.operands.toList.flatMap fun x=>(st.dP x).names.flatMap fun g=>g::(st.o g).hn) else [])++QT T st o
section
variable {T:Tab} {tt:TT} {st st':St}
theorem QU {d:Nat} {o:Oper} {K:Eff->Prop} (h:jo T tt d st o K) (hx :∀x∈o.op.operands.toList,st.dP x=st'.dP x) (ho :∀g∈qK T st o,st.o g=st'.o g):jo T tt d st' o K:=by
 have hfo:looks o.op=true->∀x∈o.op.operands.toList,∀g∈(st.dP x).names,Agree st.o st'.o g:=fun hl x hm g hg=>by
  have key :∀d∈g::(st.o g).hn,st.o d=st'.o d:=fun d hd=>ho d (W6 _ (by rw [hl];exact Z0.2 ⟨x,hm,Z0.2 ⟨g,hg,hd⟩⟩));exact ⟨key g (by simp),fun d hd=>key d (by simp [hd])⟩
 have iI :∀g∈QT T st o,st.o g=st'.o g:=fun g hg=>ho g (K0 _ hg);unfold jo at *;unfold QT at iI;split at h
 .rename_i f args ts hop;rw [hop] at hx hfo iI;have hfo:=hfo rfl;simp only at iI;have hxf:=hx f (by simp [Op.operands,Call.operands]);have hxa :∀x∈args.toList,st.dP x=st'.dP x:=fun x hm=>hx x (by simp [Op.operands,Call.operands];exact .inr (by simpa using hm));have hfa :∀x∈args.toList,∀g∈(st.dP x).names,Agree st.o st'.o g:=fun x hm=>hfo x (by simp [Op.operands,Call.operands];exact .inr (by simpa using hm));have hff:=hfo f (by simp [Op.operands,Call.operands]);rw [<-hxf];split at h
  .rename_i fn caps hf;rw [hf] at hff iI;simp only at iI;split at h
   .rename_i sp hsp;rw [hsp] at iI;simp only at iI;have hmap:args.toList.map st'.dP=args.toList.map st.dP:=ZZ fun x hm=>(hxa x hm).symm;rw [hmap];split at h
    .rename_i c hci;rw [hci] at iI;have hnm :∀x∈(args.toList.map st.dP)++(caps.map fun x=>S.v (.one x)),∀g∈x.names,Agree st.o st'.o g:=by
      intro x hm g hg;rcases X2.1 hm with hm | hm
      .obtain ⟨y,hy,rfl⟩:=X1.1 hm;exact hfa y hy g hg
      .obtain ⟨y,hy,rfl⟩:=X1.1 hm;refine hff g ?_;obtain ⟨j,hj⟩:=Vc.1 hy;simp only [S.names,V.names];exact zA hj (by simpa [S.names,V.names] using hg)
     have apC:=Oq hci hnm fun p hp=>iI p.2 (X1.2 ⟨p,hp,rfl⟩);have ai6:c.uZ.map (aW st.o)=c.uZ.map (aW st'.o):=nN (IZ hci hnm);simp only [hsp,apC];obtain ⟨q1,dH,same,q2,q4,q3⟩:=h;have:kT sp.sig d st'.o c dH=kT sp.sig d st.o c dH:=by simp only [kT,ai6]
     refine ⟨q1,dH,same,q2,?_,?_⟩
     .rw [this];intro g hg;obtain ⟨a1,a2⟩:=q4 g hg;exact ⟨a1,by rw [a2,iI g a1]⟩
     .rw [this];exact q3
    .cases h
   .cases h
  .cases h
 .rcases h with ⟨dc,r,h1,h2,h3⟩ | h
  .refine .inl ⟨dc,r,?_,h2,h3⟩;cases hl:looks o.op with
   |true=>rw [<-KW hx (hfo hl)];exact h1
   |false=>rw [KY hl] at h1;cases h1
  .refine .inr ?_;cases hl:looks o.op with
   |true=>rw [<-BP hx (hfo hl)];exact h
   |false=>rw [<-Ot hl hx];exact h
theorem Zk {N:Nat} {ops:Array Oper} {o:Oper} {e:Eff} (hc:Can T tt N ops st o e) (hs :∀t∈o.looksAt ops,st.s t=st'.s t) (ho :∀g∈qK T st o,st.o g=st'.o g) (hu :∀g∈e.new,st.used g=st'.used g):Can T tt N ops st' o e:=by
 have hx :∀x∈o.op.operands.toList,st.dP x=st'.dP x:=by
  intro x hm;cases x with
  |tmp t=>exact hs t (W6 _ (qa.2 ⟨_,hm,rfl⟩))
  |_=>rfl
 have eff:(jo T tt (o.dst.getD 0) st o fun e'=>e'.new.all (fun g=>!st.used g)=true/\e'=e)->(jo T tt (o.dst.getD 0) st' o fun e'=>e'.new.all (fun g=>!st'.used g)=true/\e'=e):=by
  intro h;refine oI (fun e' he => ?_) (QU h hx ho);obtain ⟨h1,rfl⟩:=he;refine ⟨?_,rfl⟩;rw [XX] at h1 ⊢;intro g hg;rw [<-hu g hg];exact h1 g hg
 unfold Can stepW at *;refine ⟨hc.1,?_⟩;have hc:=hc.2;cases hg:o.guard with
 |none=>rw [hg] at hc;exact eff hc
 |some p=>
  obtain ⟨j,want⟩:=p;rw [hg] at hc;simp only at hc ⊢;have:guardOf ops st j want=guardOf ops st' j want:=by
   unfold guardOf;cases hd:(ops[j]?).bind (·.dst) with
   |none=>rfl
   |some t=>
    simp only;rw [hs t (K0 _ (by simp [hg,hd]))]
  rw [<-this];split at hc
  .rename_i b hb;cases b with
   |true=>exact eff hc
   |false=>exact hc
  .cases hc
end
def LX (o:Nat->O):S->Option (Bool->Prop)
 |.v (.one (.p _ _ (.sl _ l)))=>some fun b=>l≠[]->b=false
 |.v (.one (.own g))=>match (o g).dim with
  |some (_,l)=>some fun b=>l≠0->b=false
  |none=>none
 |.v (.one .dF)=>some fun b=>b=true
 |_=>none
def FB (o:Nat->O):S->Option (Bool->Prop)
 |.v (.one (.box g _))=>match o g with
  |.box _=>some fun b=>b=false
  |_=>none
 |.v (.one (.p _ _ (.opq (.pointer none))))=>some fun b=>b=true
 |_=>none
def xQ (o:Nat->O) (x:S) (k:TK) (c:Value):Option (Bool->Prop):=
 match k,c with
 |.slice _,.slice none 0 0=>LX o x
 |.ptr,.pointer none=>FB o x
 |_,_=>none
def Ou (tt:TT) (st:St) (o:Oper):Option (Bool×(Bool->Prop)):=
 match o.guard with
 |some _=>none
 |none=>match o.op with
  |.binOp op t x (.const c) _=>match tt t with
   |some i=>match op,xQ st.o (st.dP x) i.k c with
    |.eql,some p=>some (true,p)
    |.neq,some p=>some (false,p)
    |_,_=>none
   |none=>none
  |_=>none
def QV (s n:P):Bool:=decide (n.nat<s.bytes.size)
def abB (s n:P):P:=.int .i32 (Utf8.decode s.bytes n.nat).1
def UW (s n:P):P:=lY (n.nat+(Utf8.decode s.bytes n.nat).2)
def Ov (st:St) (o:Oper):Option (Nat×P×P):=
 match o.guard with
 |some _=>none
 |none=>match o.op with
  |.next x true=>match st.dP x with
   |.v (.one (.ni g))=>match st.o g with
    |.it s n=>some (g,s,n)
    |_=>none
   |_=>none
  |_=>none
def I4 (g:Nat) (s n:P):Eff:={ x:=.jq [.one (.p false false (.bool true)),.one (.p false false (lY n.nat)),.one (.p false false (abB s n))],aK:=[(g,.it s (UW s n))],new:=[] }
def LY:Eff:={ x:=.jq [.one (.p false false (.bool false))],aK:=[],new:=[] }
def B_ (T:Tab) (tt:TT) (N:Nat) (ops:Array Oper) (o:Oper) (st:St) (K:Eff->Prop):Prop:=
 match Ou tt st o with
 |some (pos,p)=>(match o.dst with
  |some d=>decide (d<N)
  |none=>true)=true/\∀b:Bool,p b->K { x:=scalar (.bool (bif pos then b else !b)),aK:=[],new:=[] }
 |none=>match Ov st o with
  |some (g,s,n)=>(match o.dst with
   |some d=>decide (d<N)
   |none=>true)=true/\(QV s n=true->K (I4 g s n))/\(QV s n=false->K LY)
  |none=>stepW T tt N ops o st K
def vU (T:Tab) (tt:TT) (N:Nat) (ops:Array Oper):List Nat->St->(St->Prop)->Prop
 | [],st,K=>K st
 |i::is,st,K=>match ops[i]? with
  |some o=>B_ T tt N ops o st fun e=>vU T tt N ops is (st.eff o.dst e) K
  |none=>False
structure sU where
 rd:List Nat
 wr:List Nat
 new:List Nat
 ld:Option (Nat×Nat×Nat)
 kp:List (Nat×Nat)
 pk:Bool
 kd:List Nat
def abC:W->W->Bool
 |.own g,.own g'=>Nat.beq g g'
 |.box g off,.box g' off'=>Nat.beq g g'&&Nat.beq off off'
 |_,_=>false
def Cb (g:Nat):Nat->List W->List W->Option (List (Nat×Nat))
 |_,[],[]=>some []
 |j,x::xs,y::ys=>match Cb g (j+1) xs ys with
  |some r=>some (match abC x y with
   |true=>(g,j)::r
   |false=>r)
  |none=>none
 |_,_,_=>none
def QW (g:Nat):O->Option O->List (Nat×Nat)
 |.box ws,some (.box ws')=>match Cb g 0 ws ws' with
  |some r=>r
  |none=>[]
 |_,_=>[]
def UY (st:St) (e:Eff):List (Nat×Nat):=(e.aK.map (·.1)).flatMap fun g=>QW g (st.o g) (e.aK.lookup g)
def sV:Op->Bool
 |.nilCheck _=>true
 |.fieldAddr _ _ _=>true
 |_=>false
def kindOf:O->Nat
 |.box _=>1
 |.arr _ _ _ _ _=>2
 |.aO _ _ _ _ _ _=>2
 |.it _ _=>3
 |.none=>0
def UZ (st:St) (e:Eff):List Nat:=(e.aK.map (·.1)).filterMap fun g=>match e.aK.lookup g with
 |some x=>bif Nat.beq (kindOf x) (kindOf (st.o g)) then some g else none
 |none=>none
def I5 (tt:TT) (st:St) (o:Oper):Option (Nat×Nat×Nat):=match o.op with
 |.load t x=>match tt t,st.dP x with
  |some i,.v (.one (.box g off))=>some (g,off,i.size)
  |_,_=>none
 |_=>none
def oZ (T:Tab) (tt:TT) (N:Nat) (ops:Array Oper):List Nat->St->List sU->(St->List sU->Prop)->Prop
 | [],st,fs,K=>K st fs
 |i::is,st,fs,K=>match ops[i]? with
  |some o=>stepW T tt N ops o st fun e=>oZ T tt N ops is (st.eff o.dst e) (fs++[{ rd:=qK T st o,wr:=e.aK.map (·.1),new:=e.new,ld:=I5 tt st o,kp:=UY st e,pk:=sV o.op,kd:=UZ st e }]) K
  |none=>False
def lJ (acc:List Nat) (o:Oper):Nat:=o.after.toList.foldl (fun s e=>if Region.binds .any e=true then s ||| (2 ^ e.on) ||| acc.getD e.on 0 else s) 0
def oK:List Oper->List Nat->List Nat
 | [],acc=>acc
 |o::os,acc=>oK os (acc++[lJ acc o])
def I7 (x:Option Tmp) (ts:List Tmp):Bool:=match x with
 |some t=>!ts.contains t
 |none=>true
def FC (w r:sU):Bool:=match r.ld with
 |some (g,off,n)=>(List.range n).all fun j=>w.kp.any fun p=>Nat.beq p.1 g&&Nat.beq p.2 (off+j)
 |none=>r.pk&&r.rd.all fun g=>!w.wr.contains g||w.kd.contains g
def abD (ops:Array Oper) (x y:Oper) (fx fy:sU):Bool:=
 I7 x.dst (y.looksAt ops)&&I7 y.dst (x.looksAt ops)&&I7 x.dst y.dst.toList&&(Og fx.wr fy.rd||FC fx fy)&&(Og fy.wr fx.rd||FC fy fx)&&Og fx.wr fy.wr&&Og fx.new fy.new
def W9 (ops:Array Oper) (fs:List sU):Bool:=
 let as:=oK ops.toList []
 (List.range ops.size).all fun j=>decide (as.getD j 0<2 ^ j)&&(List.range j).all fun i=>(as.getD j 0).testBit i||match ops[i]?,ops[j]?,fs[i]?,fs[j]? with
  |some x,some y,some fx,some fy=>abD ops x y fx fy
  |_,_,_,_=>false
def rM (T:Tab) (tt:TT) (N:Nat) (ops:Array Oper) (draw:Bool) (st:St) (K:St->Prop):Prop:=
 match draw with
 |false=>vU T tt N ops (List.range ops.size) st K
 |true=>oZ T tt N ops (List.range ops.size) st [] fun st' fs=>W9 ops fs=true/\K st'
end Go.Fw

