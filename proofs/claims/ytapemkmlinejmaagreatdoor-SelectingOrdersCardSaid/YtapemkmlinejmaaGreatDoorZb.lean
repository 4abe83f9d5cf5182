/-
  The framework (a machine on plain data that answers as the program does), part 2.
-/
import Derived.RangeFuncOwn
import Derived.Orders
import Derived.Test.YtapemkmlinejmaaGreatDoorZa
set_option linter.unusedSimpArgs false
set_option linter.unusedVariables false
set_option linter.unusedSectionVars false
namespace Go.Fw
variable [eF]
def sN:List Nat->Bool
 | []=>true
 |x::xs=>!xs.contains x&&sN xs
def DJ (xs ys:List Nat):Bool:=xs.all fun x=>!ys.contains x
def nK (aj:List (Nat×Nat)) (off n:Nat):List (Nat×Nat):=aj.filter fun c=>Nat.ble off c.1&&Nat.blt c.1 (off+n)
def jH (o:Nat->O) (g:Nat):Option (Bool×Bool×Nat×List (Nat×Nat)×List (List P)):=match o g with
 |.aN a i sz aj l hole=>match hole with
  |none=>some (a,i,sz,aj,l)
  |some (n,c,d)=>match o d with
   |.arr false a' i' sz' l'=>if aj.lookup c=some sz'/\c<sz then some (a||a',i||i',sz,aj,jf l n c (P.fO sz' l')) else none
   |_=>none
 |_=>none
def kills (gs:List Nat):List (Nat×O):=gs.map fun g=>(g,.none)
def P9 (o:Nat->O) (col:Nat->Option Nat):Nat->List W->Option (List P×Bool×Bool×List Nat×List (Nat×Nat))
 |_,[]=>some ([],false,false,[],[])
 |j,x::xs=>match P9 o col (j+1) xs with
  |none=>none
  |some (ys,a',i',gs',es)=>match col j with
   |none=>match x.toP o with
    |some (y,a,i,gs)=>some (y::ys,a||a',i||i',gs++gs',es)
    |none=>none
   |some s=>match x with
    |.dD=>some (.sl 0 []::ys,a',i',gs',es)
    |.own e=>match o e with
     |.arr false a i s' l=>if s'=s then some (P.fO s l::ys,a||a',i||i',gs',(j,e)::es) else none
     |_=>none
    |_=>none
def baseD (o:Nat->O):W->Option (Prop×Bool×Bool×List (List P)×List Nat×Option (Nat×List (Nat×Nat)))
 |.dD=>some (True,false,false,[],[],none)
 |.own g=>match jH o g with
  |some (a,i,sz,aj,l)=>some (True,a,i,l,g::(o g).hn,some (sz,aj))
  |none=>none
 |.vw g lo hi=>match jH o g with
  |some (a,i,sz,aj,l)=>some (lo=lW 0,a,i,l.take hi.nat,g::(o g).hn,some (sz,aj))
  |none=>none
 |_=>none
def hdr (l:List (List P)):P:=.sl 0 (List.replicate l.length [])
def abk:List (Nat×Nat)->Bool
 | [(0,0)]=>true
 |_=>false
def zY (tt:TT) (o:Nat->O) (f:Operand->S) (t:TypeId) (x:Operand):Option Dv:=match tt t,f x with
 |some i,.v (.one (.ep g n off))=>match jH o g with
  |some (a,i',sz,aj,l)=>match aj.lookup off with
   |some _=>if off<sz/\i.size=1/\i.agg=false then some (.pure (.v (.one (.p false false (hdr ((l.getD n.nat []).getD off default).list))))) else none
   |none=>none
  |none=>none
 |_,_=>none
def dU (tt:TT) (dc:List (Nat×Nat)) (d:Nat) (o:Nat->O) (f:Operand->S) (op:Op) (ty:TypeId):Option Dv:=
 match op with
 |.load t x=>bif abk dc then zY tt o f t x else match tt t,f x with
  |some i,.v (.one (.ep g n off))=>match o g with
   |.aN a0 i0 zZ kP l0 hole=>if off+i.size<=zZ/\0<i.size then match nK kP off i.size with
    | []=>some (.pure (V.f_ i.agg ((List.range i.size).map fun j=>.p a0 i0 ((l0.getD n.nat []).getD (off+j) (Us i.zero j)))))
    | [(c,s)]=>match jH o g with
     |some (a,i',sz,aj,l)=>some (.mk True (.sl sz l) (fun y=>V.f_ i.agg ((List.range i.size).map fun j=>if Nat.beq (off+j) c=true then .own d else .p a i' ((y.list.getD n.nat []).getD (off+j) (Us i.zero j))))
       (fun y=>(g,.aN a i' sz aj y.list (some (n.nat,c,d)))::(d,.arr false a i' s ((y.list.getD n.nat []).getD c default).list)::kills (o g).hn) [d])
     |none=>none
    |_=>none
    else none
   |_=>none
  |_,_=>none
 |.store t x y=>match tt t,f x,f y with
  |some i,.v (.one (.ep g n off)),.v y=>match o g with
   |.aN a0 i0 sz aj l0 hole=>match P9 o (fun j=>aj.lookup j) off y.words with
    |some (ps,a',i',gs,es)=>if off+i.size<=sz/\y.words.length=i.size/\y.solid=true/\gs.contains g=false/\sN (es.map (·.2))=true/\DJ (es.map (·.2)) gs=true then
      let res (pre:Prop) (a i:Bool) (l:List (List P)) (iZ:Option (Nat×Nat×Nat)) (ks:List Nat):Dv:=
       .mk pre (.sl sz (l.set n.nat (aQ (l.getD n.nat []) off ps))) (fun _=>.no) (fun z=>(g,.aN (a||a') (i||i') sz aj z.list iZ)::kills (es.map (·.2))++kills ks++gs.map (aT o)) []
      match nK aj off i.size with
      | []=>some (res True a0 i0 l0 hole [])
      |_::_=>match hole with
       |none=>some (res True a0 i0 l0 none [])
       |some (n0,c0,d0)=>match jH o g with
        |some (a,i1,_,_,l)=>if (es.map (·.2)).contains d0=false/\gs.contains d0=false then some (res True a i1 l none [d0])
          else if off<=c0/\c0<off+i.size then some (res (n0=n.nat) a0 i0 l0 none []) else none
        |none=>if off<=c0/\c0<off+i.size then some (res (n0=n.nat) a0 i0 l0 none []) else none
      else none
    |none=>none
   |_=>none
  |_,_,_=>none
 |.buildSlice t n parts=>match tt t,dc with
  |some { k:=.slice e,.. },_::_=>match tt e with
   |some ie=>match lX (fun m=>if m<n then some (m*ie.size,ie.size) else none) (fQ (ie.zero.map cv) n) (parts.toList.map fun p=>(p.1,f p.2)) with
    |some ws=>match P9 o (fun j=>dc.lookup (j % ie.size)) 0 ws with
     |some (ps,a,i,gs,es)=>if n+n*ie.size<=16777216/\sN (es.map (·.2))=true/\DJ (es.map (·.2)) gs=true then
       some (.mk True (.sl ie.size (chunks ie.size n ps)) (fun _=>.v (.one (.own d)))
        (fun y=>(d,.aN a i ie.size dc y.list none)::kills (es.map (·.2))++gs.map (aT o)) [d]) else none
     |none=>none
    |none=>none
   |none=>none
  |_,_=>none
 |.makeSlice t n c=>match tt t,f n,f c,dc with
  |some { k:=.slice e,.. },.v (.one (.p _ _ n)),.v (.one (.p _ _ c)),_::_=>match tt e with
   |some ie=>match P9 o (fun j=>dc.lookup j) 0 (ie.zero.map cv) with
    |some (ps,false,false,[],[])=>if 0<ie.size then
     some (.mk (∃m k:Nat,n=.int .i64 m/\c=.int .i64 k/\m<=k/\ie.bytes*k<=281474976710656/\k<=9223372036854775807) (.sl ie.size (List.replicate n.nat ps))
      (fun _=>.v (.one (.own d))) (fun y=>[(d,.aN false false ie.size dc y.list none)]) [d]) else none
    |_=>none
   |none=>none
  |_,_,_,_=>none
 |.call { callee:=.builtin .append,args,argTypes }=>match args.toList,argTypes.toList with
  | [s,x],sT::xT::_=>match tt sT,tt xT,f s,f x with
   |some { k:=.slice e,.. },some { k:=.slice _,.. },.v (.one s),.v (.one (.own g2))=>match tt e,baseD o s,jH o g2 with
    |some ie,some (ask,a,i,old,ks,src),some (a2,i2,sz,aj,new)=>
     if ie.bytes≠0/\sz=ie.size/\(src=none\/src=some (sz,aj))/\sN (ks++g2::(o g2).hn)=true then
      some (.mk (ask/\(old.length+new.length)*ie.bytes<=140737488355328) (.sl sz (old++new)) (fun _=>.v (.one (.own d)))
       (fun y=>(d,.aN (a||a2) (i||i2) sz aj y.list none)::kills (ks++g2::(o g2).hn)) [d]) else none
    |_,_,_=>none
   |_,_,_,_=>none
  |_,_=>none
 |.slice t x none hi none=>match tt t,f x with
  |some { k:=.slice e,.. },.v (.one (.own g))=>match tt e,o g with
   |some ie,.arr false a i sz l=>if sz=ie.size then match nH (lW l.length) (hi.map f) with
    |some hi=>some (.mk (∃k:Nat,hi=.int .i64 k/\k<=l.length) (.sl sz (l.take hi.nat)) (fun _=>.v (.one (.own d))) (fun y=>[(d,.arr false a i sz y.list),(g,.none)]) [d])
    |none=>none
    else none
   |_,_=>none
  |_,_=>none
 |_=>none
section
variable {E:Env} {st st':St} {gh bK:Nat->Gh} {w w':World} {val:Nat->Value} {Pg:Program} {tt:TT}
theorem rO :∀{l:List Nat},sN l=true->l.Nodup
 | [],_=>List.nodup_nil
 |x::l,h=>by
  simp only [sN,Q6,Wc,Wm,decide_eq_false_iff_not] at h;exact UI.2 ⟨h.1,rO h.2⟩
theorem ES {xs ys:List Nat} (h:DJ xs ys=true) :∀x∈xs,x∉ys:=by
 intro x hx;have:=(X2.1 h) x hx;simpa using this
theorem ig {gs:List Nat} {g:Nat}:(kills gs).lookup g=if g∈gs then some O.none else none:=by
 induction gs with
 |nil=>rfl
 |cons x gs ih=>
  simp only [kills,Qf,List.lookup,QP];by_cases e:g=x
  .subst e;simp
  .have:(g==x)=false:=by simpa using e
   rw [this];simp only [e,false_or];exact ih
theorem z_ {α:Type} {g:Nat} :∀{l r:List (Nat×α)},(l++r).lookup g=(l.lookup g).or (r.lookup g)
 | [],r=>by simp
 |(k,v)::l,r=>by
  simp only [K7,List.lookup];split
  .rfl
  .exact z_
theorem lookup_cons {α:Type} {g k:Nat} {v:α} {r:List (Nat×α)}:((k,v)::r).lookup g=if g=k then some v else r.lookup g:=by
 simp only [List.lookup];by_cases e:g=k
 .subst e;simp
 .have:(g==k)=false:=by simpa using e
  rw [this,if_neg e]
theorem Ic {aj:List (Nat×Nat)} {off n j:Nat} (h:nK aj off n=[]) (h1:off<=j) (h2:j<off+n):aj.lookup j=none:=by
 cases hl:aj.lookup j with
 |none=>rfl
 |some s=>
  have hm:(j,s)∈aj:=by
   clear h
   induction aj with
   |nil=>cases hl
   |cons p aj ih=>
    obtain ⟨k,v⟩:=p;rw [lookup_cons] at hl;split at hl
    .rename_i e;cases hl;subst e;simp
    .exact Vi _ (ih hl)
  have:(j,s)∈nK aj off n:=vn.2 ⟨hm,by simp [h1,h2]⟩;rw [h] at this;cases this
theorem ET {α:Type} {g:Nat} {v:α} :∀{l:List (Nat×α)},l.lookup g=some v->(g,v)∈l
 | [],h=>by cases h
 |(k,x)::l,h=>by
  rw [lookup_cons] at h;split at h
  .rename_i e;cases h;subst e;simp
  .exact Vi _ (ET h)
theorem UE {aj:List (Nat×Nat)} {off n c s:Nat} (h:nK aj off n=[(c,s)]):aj.lookup c=some s/\off<=c/\c<off+n/\∀j,off<=j->j<off+n->j≠c->aj.lookup j=none:=by
 have hm:(c,s)∈nK aj off n:=by rw [h];simp
 obtain ⟨m1,m2⟩:=vn.1 hm;simp only [Q6,Nat.ble_eq,Nat.blt_eq] at m2;have key :∀j s',aj.lookup j=some s'->off<=j->j<off+n->(j,s')=(c,s):=by
  intro j s' hl h1 h2;have:(j,s')∈nK aj off n:=vn.2 ⟨ET hl,by simp [h1,h2]⟩;rw [h] at this;simpa using this
 refine ⟨?_,m2.1,m2.2,fun j h1 h2 hne => ?_⟩
 .cases hl:aj.lookup c with
  |none=>
   exfalso;clear h hm key
   induction aj with
   |nil=>cases m1
   |cons p aj ih=>
    obtain ⟨k,v⟩:=p;rw [lookup_cons] at hl;split at hl
    .cases hl
    .rename_i e;rcases QP.1 m1 with e1 | e1
     .cases e1;exact e rfl
     .exact ih e1 hl
  |some s'=>have:=key c s' hl m2.1 m2.2;cases this;rfl
 .cases hl:aj.lookup j with
  |none=>rfl
  |some s'=>have:=key j s' hl h1 h2;cases this;exact absurd rfl hne
theorem Rel.home (h:Rel E st gh val w) {g:Nat} {a i:Bool} {sz:Nat} {aj:List (Nat×Nat)} {l:List (List P)} (hh:jH st.o g=some (a,i,sz,aj,l)) :
  ∃st1 lF,Rel E st1 lF val w/\Lets E st st1 gh lF w w/\(∀x,(lF x).ad=(gh x).ad/\(lF x).cap=(gh x).cap)/\st1.s=st.s/\(∀x,st1.used x=st.used x)/\st1.o g=.aN a i sz aj l none/\
   (∀d∈(st.o g).hn,st1.o d=.none/\d≠g)/\∀g',g'≠g->g'∉(st.o g).hn->st1.o g'=st.o g':=by
 unfold jH at hh;cases ho:st.o g with
 |aN a0 i0 zZ kP l0 hole=>
  rw [ho] at hh;simp only at hh;rcases hole with _ | ⟨n,c,d⟩
  .simp only [Q0,Q1] at hh;obtain ⟨rfl,rfl,rfl,rfl,rfl⟩:=hh;exact ⟨st,gh,h,⟨fun a i b hb=>⟨hb,rfl⟩,fun g _=>.inr ⟨⟨rfl,rfl⟩,O.fC _⟩⟩,fun _=>⟨rfl,rfl⟩,rfl,fun _=>rfl,ho,(fun d hd=>by cases hd),fun _ _ _=>rfl⟩
  .simp only at hh;cases hd:st.o d with
   |arr fz a' i' sz' l'=>
    rw [hd] at hh;cases fz with
    |true=>cases hh
    |false=>
     simp only at hh;split at hh
     .rename_i hc;simp only [Q0,Q1] at hh;obtain ⟨rfl,rfl,rfl,rfl,rfl⟩:=hh;obtain ⟨lF,h1,l1,e1⟩:=h.shut ho hd hc.1 hc.2;have hne:d≠g:=by intro e;subst e;rw [ho] at hd;cases hd
      refine ⟨_,lF,h1,l1,e1,rfl,fun x=>by simp [St.aI],by simp [St.aI,List.lookup],fun d' hd' => ?_,fun g' h1 h2 => ?_⟩
      .simp only [O.hn,dJ,Qt] at hd';subst hd';have e1:(d'==g)=false:=by simpa using hne
       exact ⟨by simp [St.aI,List.lookup,e1],hne⟩
      .have e1:(g'==g)=false:=by simpa using h1
       have e2:(g'==d)=false:=by simp;intro e;exact h2 (by rw [e];simp [O.hn,dJ])
       simp [St.aI,List.lookup,e1,e2]
     .cases hh
   |_=>rw [hd] at hh;cases hh
 |_=>rw [ho] at hh;cases hh
theorem oz {o:Nat->O} {g:Nat} {a i:Bool} {sz:Nat} {aj:List (Nat×Nat)} {l:List (List P)} (hh:jH o g=some (a,i,sz,aj,l)):(o g).dim=some (sz,l.length):=by
 unfold jH at hh;cases ho:o g with
 |aN a0 i0 zZ kP l0 hole=>
  rw [ho] at hh;simp only at hh;rcases hole with _ | ⟨n,c,d⟩
  .simp only [Q0,Q1] at hh;obtain ⟨rfl,rfl,rfl,rfl,rfl⟩:=hh;rfl
  .simp only at hh;split at hh
   .split at hh
    .simp only [Q0,Q1] at hh;obtain ⟨rfl,rfl,rfl,rfl,rfl⟩:=hh;simp [O.dim,iY]
    .cases hh
   .cases hh
 |_=>rw [ho] at hh;cases hh
theorem Ie {Q:Nat->Value->Prop} {b o n:Nat} (h :∀j,j<n->∃v,w.cell? ⟨b,o+j,none⟩=some v/\v.oneCell'=true/\Q j v) :
  ∃cs:List Value,cs.length=n/\(∀(j:Nat) u,cs[j]?=some u->w.cell? ⟨b,o+j,none⟩=some u)/\(∀c∈cs,c.oneCell'=true)/\∀(j:Nat) u,cs[j]?=some u->Q j u:=by
 have key :∀j u,((List.range n).map fun j=>(w.cell? ⟨b,o+j,none⟩).getD undef)[j]?=some u->j<n/\w.cell? ⟨b,o+j,none⟩=some u/\u.oneCell'=true/\Q j u:=by
  intro j u hu;simp only [XN,ZD] at hu;obtain ⟨k,hk,rfl⟩:=hu;obtain ⟨hlt,rfl⟩:=Q3.1 hk;simp at hlt ⊢;obtain ⟨v,hv,h1,h2⟩:=h j hlt;rw [hv];exact ⟨hlt,rfl,h1,h2⟩
 refine ⟨(List.range n).map fun j=>(w.cell? ⟨b,o+j,none⟩).getD undef,by simp,fun j u hu=>(key j u hu).2.1,fun c hc => ?_,fun j u hu=>(key j u hu).2.2.2⟩;obtain ⟨j,hj⟩:=V2.1 hc;exact (key j c hj).2.2.1
def qG (Pg:Program) (tt:TT) (dc:List (Nat×Nat)) (op:Op):Prop:=
 ∀(E:Env) (st:St) (gh:Nat->Gh) (val:Nat->Value) (w:World) (ρ:Operand->Value) (F:Operand->S) (o:Oper) (d:Nat) (r:Dv),o.op=op->Rel E st gh val w->
  (∀x,dH E st gh w (F x) (ρ x))->(∀x,∀g∈(F x).names,st.used g=true)->dU tt dc d st.o F op o.type=some r->r.pre->(∀g∈r.new,st.used g=false)->
  ∃v w' bK,Does Pg (execOp ρ o) w v w'/\Rel E (st.aI (r.aI r.val) r.new) bK val w'/\Lets E st (st.aI (r.aI r.val) r.new) gh bK w w'/\dH E (st.aI (r.aI r.val) r.new) bK w' (r.dst r.val) v/\
   ∀g∈(r.dst r.val).names,(st.aI (r.aI r.val) r.new).used g=true
theorem St.DK {a b:St} (h1:a.s=b.s) (h2 :∀g,a.o g=b.o g) (h3 :∀g,a.used g=b.used g):a=b:=by
 obtain ⟨s,o,u⟩:=a;obtain ⟨s',o',u'⟩:=b;simp only at h1 h2 h3;rw [h1,funext h2,funext h3]
theorem KF (htt:iw Pg tt) (t:TypeId) (x:Operand) {E:Env} {st:St} {gh:Nat->Gh} {val:Nat->Value} {w:World} {ρ:Operand->Value} {F:Operand->S} {o:Oper} {r:Dv} (ho:o.op=.load t x) (h:Rel E st gh val w)
  (hF :∀x,dH E st gh w (F x) (ρ x)) (hk:zY tt st.o F t x=some r) :
  ∃v w' bK,Does Pg (execOp ρ o) w v w'/\Rel E (st.aI (r.aI r.val) r.new) bK val w'/\Lets E st (st.aI (r.aI r.val) r.new) gh bK w w'/\dH E (st.aI (r.aI r.val) r.new) bK w' (r.dst r.val) v/\
   ∀g∈(r.dst r.val).names,(st.aI (r.aI r.val) r.new).used g=true:=by
 unfold zY at hk;split at hk
 .rename_i i g n off ht hx;have rx:=hF x;rw [hx] at rx;split at hk
  .rename_i a i' sz aj l hh;split at hk
   .rename_i s afa;split at hk
    .rename_i hlt;simp only [Q0] at hk;subst hk;obtain ⟨st1,lF,h1,l1,e1,es,eu,eo,ek,en1⟩:=h.home hh;have Qv:=oz hh;obtain ⟨ad,k,had,rfl,hkl,hv⟩:=(by cases rx.dG with | ep _ _ _ _ _ hb=>exact hb _ _ Qv :∃(ad:Addr) (k:Nat),(gh g).ad=some ad/\n=.int .i64 k/\k<l.length/\ρ x=.pointer (some ⟨ad.block,ad.off+k*sz+off,none⟩));have en:(P.int .i64 (k:Int)).nat=k:=by simp [P.nat,P.num]
     have KG:(lF g).ad=some ad:=by rw [(e1 g).1];exact had
     have hD:mO E st1 lF w a i' sz aj l none (lF g):=by have:=h1.bf g;rw [eo] at this;exact this
     rcases hD with ⟨k1,_⟩ | ⟨ad0,cs0,ty,k1,k2,k3,k4,k5,k6,_,k8⟩
     .rw [KG] at k1;cases k1
     rw [KG] at k1;cases k1;have hrow:l[k]?=some l[k]:=Q2 hkl;have hrl:l[k].length=sz:=k6 _ (X1 hkl);have hoff:off<l[k].length:=by omega
     obtain ⟨v,hv0,hr⟩:=k8 k _ hrow off _ (Q2 hoff);unfold iK at hr;rw [afa] at hr;simp only [gY] at hr;obtain ⟨l',ao,kk,hy,rfl,harr,_⟩:=hr;have hcell:w.cell? ⟨ad.block,ad.off+k*sz+off,none⟩=some (.slice ao l'.length kk):=by simp [World.cell?,k3,hv0]
     obtain ⟨v,hrun,hval⟩:=ku (Pg:=Pg) (w:=w) (htt _ _ ht) ad.block (ad.off+k*sz+off) [.slice ao l'.length kk] (by simp [hlt.2.1]) (fun j c hj=>by
      cases j with
      |zero=>simp at hj;subst hj;exact hcell
      |succ j=>simp at hj) (fun _=>by omega)
     have hvv:v=.slice ao l'.length kk:=by
      rw [hlt.2.2] at hval;exact hval _ rfl
     have hdr':hdr ((l.getD (P.int .i64 (k:Int)).nat []).getD off default).list=.sl 0 (List.replicate l'.length []):=by
      rw [en];have e2:(l.getD k []).getD off default=l[k][off]:=by
       rw [List.getD_eq_getElem?_getD,List.getD_eq_getElem?_getD,hrow];simp [Q2 hoff]
      rw [e2,hy,P.oh];rfl
     rw [hdr'];refine still h (v:=v) (by unfold execOp;rw [ho];exact gK (by rw [hv];simpa [Instr.loadAt,Instr.sureAddr] using hrun)) (dH.ofP ?_) fun g' hg'=>by simp [Dv.pure,S.names,V.names,W.names] at hg'
     rw [hvv];rcases harr with ⟨q1,q2,q3⟩ | ⟨Bv,c2,e2,q1,q2,q3,q4,q5,_⟩
     .subst q3;exact .nil _ _ _
     .have q1:ao=some Bv:=q1;have q5:l'.length<=kk/\kk<=9223372036854775807:=q5;rw [q1];have:=dh.sl (w:=w) (ok:=E.ok st gh w false false) 0 (List.replicate l'.length []) Bv kk (fun _ _=>undef) q2 (fun h0=>absurd h0 (KV 0)) (by simpa using q5.1) (fun x hx=>by rw [Kx hx];rfl)
       (fun n x hx j y hy=>by rw [Kx (XS hx)] at hy;simp at hy) (fun n x hx j y hy=>by rw [Kx (XS hx)] at hy;simp at hy)
      simpa using this
    .cases hk
   .cases hk
  .cases hk
 .cases hk
theorem Qw {dc:List (Nat×Nat)} (htt:iw Pg tt) (t:TypeId) (x:Operand):qG Pg tt dc (.load t x):=by
 intro E st gh val w ρ F o d r ho h hF hFn hk hp hd;simp only [dU] at hk;cases hhd:abk dc with
 |true=>rw [hhd] at hk;exact KF htt t x ho h hF hk
 |false=>
 rw [hhd] at hk;simp only [cond_false] at hk;split at hk
 .rename_i i g n off ht hx;have rx:=hF x;rw [hx] at rx;split at hk
  .rename_i a0 i0 zZ kP l0 hole hog;split at hk
   .rename_i hlt;have Qv:(st.o g).dim=some (zZ,l0.length):=by rw [hog];rfl
    obtain ⟨ad,k,had,rfl,hkl,hv⟩:=(by cases rx.dG with | ep _ _ _ _ _ hb=>exact hb _ _ Qv :∃(ad:Addr) (k:Nat),(gh g).ad=some ad/\n=.int .i64 k/\k<l0.length/\ρ x=.pointer (some ⟨ad.block,ad.off+k*zZ+off,none⟩));have en:(P.int .i64 (k:Int)).nat=k:=by simp [P.nat,P.num]
    split at hk
    .rename_i hci;simp only [Q0] at hk;subst hk;have hD:mO E st gh w a0 i0 zZ kP l0 hole (gh g):=by have:=h.bf g;rw [hog] at this;exact this
     rcases hD with ⟨k1,_⟩ | ⟨ad0,cs0,ty,k1,k2,k3,k4,k5,k6,_,k8⟩
     .rw [had] at k1;cases k1
     rw [had] at k1;cases k1;have hrow:l0[k]?=some l0[k]:=Q2 hkl;have hrl:l0[k].length=zZ:=k6 _ (X1 hkl);have hget:l0.getD (P.int .i64 (k:Int)).nat []=l0[k]:=by rw [en,List.getD_eq_getElem?_getD,hrow];rfl
     obtain ⟨cs,hl,hcell,hone,hrep⟩:=Ie (w:=w) (b:=ad.block) (o:=ad.off+k*zZ+off) (n:=i.size) (Q:=fun j v=>dh w (E.ok st gh w a0 i0) (l0[k].getD (off+j) (Us i.zero j)) v) fun j hj=>by
      have hlt':off+j<l0[k].length:=by omega
      obtain ⟨v,hv,hr⟩:=k8 k _ hrow (off+j) _ (Q2 hlt');simp only [iK,Ic hci (show off<=off+j by omega) (show off+j<off+i.size by omega)] at hr;have e0:ad.off+k*zZ+off+j=ad.off+k*zZ+(off+j):=by omega
      refine ⟨v,by rw [e0];simp [World.cell?,k3,hv],hr.oneCell,?_⟩;rw [List.getD_eq_getElem?_getD,Q2 hlt'];exact hr
     obtain ⟨v,hrun,hval⟩:=ku (Pg:=Pg) (w:=w) (htt _ _ ht) ad.block (ad.off+k*zZ+off) cs hl hcell (fun _=>hlt.2);rw [hget];exact still h (v:=v) (by unfold execOp;rw [ho];exact gK (by rw [hv];simpa [Instr.loadAt,Instr.sureAddr] using hrun)) (kV (by simp [hl]) hone (fun j y u hy hu=>by
       simp only [XN,ZD] at hy;obtain ⟨q,hq,rfl⟩:=hy;obtain ⟨hlt2,rfl⟩:=Q3.1 hq;simp at hlt2 ⊢;exact .p _ _ _ _ (hrep _ u hu)) v hval)
      fun g' hg'=>by obtain ⟨y,hy,hg'⟩:=jD hg';rw [sJ hy] at hg';cases hg'
    .rename_i c s hci;split at hk
     .rename_i a i' sz aj l hh;simp only [Q0] at hk;subst hk;obtain ⟨st1,lF,h1,l1,e1,es,eu,eo,ek,en1⟩:=h.home hh;have abl:=oz hh;rw [Qv] at abl;simp only [Q0,Q1] at abl;obtain ⟨rfl,hll⟩:=abl;have hcols:aj=kP:=by
       unfold jH at hh;rw [hog] at hh;simp only at hh;split at hh
       .cases hh;rfl
       .split at hh
        .split at hh
         .cases hh;rfl
         .cases hh
        .cases hh
      subst hcols;obtain ⟨c1,c2,c3,c4⟩:=UE hci;have Gx:st.used d=false:=hd d (by simp);have KG:(lF g).ad=some ad:=by rw [(e1 g).1];exact had
      have hD:mO E st1 lF w a i' zZ aj l none (lF g):=by have:=h1.bf g;rw [eo] at this;exact this
      rcases hD with ⟨k1,_⟩ | ⟨ad0,cs0,ty,k1,k2,k3,k4,k5,k6,_,k8⟩
      .rw [KG] at k1;cases k1
      rw [KG] at k1;cases k1;have hkl':k<l.length:=by omega
      have hrow:l[k]?=some l[k]:=Q2 hkl';have hrl:l[k].length=zZ:=k6 _ (X1 hkl');have hget:l.getD (P.int .i64 (k:Int)).nat []=l[k]:=by rw [en,List.getD_eq_getElem?_getD,hrow];rfl
      have hyc:l[k][c]?=some l[k][c]:=Q2 (by omega);obtain ⟨l',ao,kc,xG,hy,⟨Bv,cs2,ty2,q1,q2,q3⟩,q4,q5,r1,r2⟩:=h1.split (d:=d) (by rw [eu];exact Gx) eo c1 hrow hyc;rw [KG] at q1;cases q1;rw [k3] at q2;cases q2;have hlist:((l.getD (P.int .i64 (k:Int)).nat []).getD c default).list=l':=by
       rw [hget,List.getD_eq_getElem?_getD,hyc];show (l[k][c]).list=l';rw [hy,P.oh]
      have hgd:g≠d:=fun e=>by rw [<-e,h.ul g (by rw [hog];simp)] at Gx;cases Gx
      have hst:st1.aI [(g,.aN a i' zZ aj l (some (k,c,d))),(d,.arr false a i' s l')] [d]=st.aI ((g,.aN a i' zZ aj l (some ((P.int .i64 (k:Int)).nat,c,d)))::(d,.arr false a i' s ((l.getD (P.int .i64 (k:Int)).nat []).getD c default).list)::kills (st.o g).hn) [d]:=by
       rw [hlist,en];refine St.DK es (fun x => ?_) (fun x=>by simp [St.aI,eu]);simp only [St.aI,lookup_cons,ig];by_cases x1:x=g
       .simp only [if_pos x1]
       .by_cases x2:x=d
        .simp only [if_neg x1,if_pos x2]
        .simp only [if_neg x1,if_neg x2];by_cases x3:x∈(st.o g).hn
         .simp only [if_pos x3];exact (ek x x3).1
         .simp only [if_neg x3];exact en1 x x1 x3
      obtain ⟨cs,hl,hcell,hone,hrep⟩:=Ie (w:=w) (b:=ad.block) (o:=ad.off+k*zZ+off) (n:=i.size) (Q:=fun j v=>if Nat.beq (off+j) c=true then v=.slice ao l'.length kc else dh w (E.ok st1 lF w a i') (l[k].getD (off+j) (Us i.zero j)) v) fun j hj=>by
       have hlt':off+j<l[k].length:=by omega
       obtain ⟨v,hv,hr⟩:=k8 k _ hrow (off+j) _ (Q2 hlt');have e0:ad.off+k*zZ+off+j=ad.off+k*zZ+(off+j):=by omega
       refine ⟨v,by rw [e0];simp [World.cell?,k3,hv],hr.oneCell,?_⟩;by_cases hjc:off+j=c
       .rw [if_pos (by simpa using hjc)];rw [hjc] at hv;rw [hv] at q3;exact Wa q3
       .rw [if_neg (by simpa using hjc)];simp only [iK,c4 (off+j) (by omega) (by omega) hjc] at hr;rw [List.getD_eq_getElem?_getD,Q2 hlt'];exact hr
      obtain ⟨v,hrun,hval⟩:=ku (Pg:=Pg) (w:=w) (htt _ _ ht) ad.block (ad.off+k*zZ+off) cs hl hcell (fun _=>hlt.2);have hod:(st1.aI [(g,.aN a i' zZ aj l (some (k,c,d))),(d,.arr false a i' s l')] [d]).o d=.arr false a i' s l':=by
       have:(d==g)=false:=by simpa using hgd.symm
       simp [St.aI,List.lookup,this]
      refine ⟨v,w,xG,.inl (by unfold execOp;rw [ho];exact gK (by rw [hv];simpa [Instr.loadAt,Instr.sureAddr] using hrun)),?_,?_,?_,fun g' hg' => ?_⟩
      .rw [hst] at r1;exact r1
      .have:=Lets.trans l1 r2 fun g hg=>by rw [eu];exact hg
       rw [hst] at this;exact this
      .have hS:dH E (st1.aI [(g,.aN a i' zZ aj l (some (k,c,d))),(d,.arr false a i' s l')] [d]) xG w (V.f_ i.agg ((List.range i.size).map fun j=>if Nat.beq (off+j) c=true then W.own d else W.p a i' ((l.getD (P.int .i64 (k:Int)).nat []).getD (off+j) (Us i.zero j)))) v:=by
        rw [hget];refine kV (by simp [hl]) hone (fun j y u hy hu => ?_) v hval;simp only [XN,ZD] at hy;obtain ⟨q,hq,rfl⟩:=hy;obtain ⟨hlt2,rfl⟩:=Q3.1 hq;simp at hlt2 ⊢;have hr:=hrep _ u hu;by_cases hjc:off+j=c
        .rw [if_pos hjc];rw [if_pos (by simpa using hjc)] at hr;subst hr;exact .own d _ rfl fun sz3 ao1 hd3=>by rw [hod] at hd3;obtain ⟨_,e2⟩:=O.jZ hd3;rw [q4,q5,e2]
        .rw [if_neg hjc];rw [if_neg (by simpa using hjc)] at hr;exact .p _ _ _ _ (r2.kN (by simpa using hr))
       rw [hst] at hS;exact hS
      .have hg':g'∈(V.f_ i.agg ((List.range i.size).map fun j=>if Nat.beq (off+j) c=true then W.own d else W.p a i' ((l.getD (P.int .i64 (k:Int)).nat []).getD (off+j) (Us i.zero j)))).names:=hg';obtain ⟨y,hy,hg'⟩:=jD hg';obtain ⟨j,_,rfl⟩:=QQ.1 hy;split at hg'
       .simp only [W.names,Qt] at hg';subst hg';simp [St.aI]
       .simp [W.names] at hg'
     .cases hk
    .cases hk
   .cases hk
  .cases hk
 .cases hk
theorem PartOf.mono {a i a' i':Bool} {es es':List (Nat×Nat)} {s j:Nat} {y:P} {u:Value} (h:PartOf st gh a i es s j y u) (ha:a=true->a'=true) (hi:i=true->i'=true) (he :∀p∈es,p∈es'):PartOf st gh a' i' es' s j y u:=by
 obtain ⟨l',h1,h2⟩:=h;refine ⟨l',h1,h2.imp id ?_⟩;rintro ⟨e,a1,i1,q1,q2,q3,q4,q5⟩;exact ⟨e,a1,i1,he _ q1,q2,fun h=>ha (q3 h),fun h=>hi (q4 h),q5⟩
theorem BJ (h:Rel E st gh val w) {col:Nat->Option Nat} :∀{ws:List W} {cs:List Value} {ps:List P} {a i:Bool} {gs:List Nat} {es:List (Nat×Nat)} {j0:Nat},ws.length=cs.length->(∀(j:Nat) x u,ws[j]?=some x->cs[j]?=some u->fA E st gh w x u)->
  P9 st.o col j0 ws=some (ps,a,i,gs,es)->ps.length=ws.length/\xw st.o gs/\(∀p∈es,∃a1 i1 s l',st.o p.2=.arr false a1 i1 s l'/\(i1=true->i=true))/\
   ∀(j:Nat) y u,ps[j]?=some y->cs[j]?=some u->match col (j0+j) with
    |none =>∀st',(∀g∈gs,st'.o g=(Fw.aT st.o g).2)->Rel E st' gh val w->Lets E st st' gh gh w w->dh w (E.ok st' gh w a i) y u
    |some s=>PartOf st gh a i es s (j0+j) y u
 | [],cs,ps,a,i,gs,es,j0,hl,hr,ht=>by
  simp only [P9,Q0,Q1] at ht;obtain ⟨rfl,rfl,rfl,rfl,rfl⟩:=ht;exact ⟨rfl,xw.nil,(fun p hp=>by cases hp),fun j y u hy=>by simp at hy⟩
 |x::ws,cs,ps,a,i,gs,es,j0,hl,hr,ht=>by
  cases cs with
  |nil=>simp at hl
  |cons c cs=>
   simp only [P9] at ht;split at ht
   .cases ht
   .rename_i ys a' i' gs' es' h2;obtain ⟨q0,q1,qe,q2⟩:=BJ h (j0:=j0+1) (by simpa using hl) (fun j a b ha hb=>hr (j+1) a b (by simpa using ha) (by simpa using hb)) h2;have rest :∀(a i:Bool) (gs:List Nat) (es:List (Nat×Nat)),(a'=true->a=true)->(i'=true->i=true)->(∀g∈gs',g∈gs)->(∀p∈es',p∈es)->∀(j:Nat) y u,ys[j]?=some y->cs[j]?=some u->match col (j0+(j+1)) with
      |none =>∀st',(∀g∈gs,st'.o g=(Fw.aT st.o g).2)->Rel E st' gh val w->Lets E st st' gh gh w w->dh w (E.ok st' gh w a i) y u
      |some s=>PartOf st gh a i es s (j0+(j+1)) y u:=by
     intro a i gs es ha hi hg he j y u hy hu;have:=q2 j y u hy hu;have e:j0+1+j=j0+(j+1):=by omega
     rw [e] at this;cases hc:col (j0+(j+1)) with
     |none=>rw [hc] at this;exact fun st' h1 h2 h3=>(this st' (fun g hg'=>h1 g (hg g hg')) h2 h3).cls ha hi
     |some s=>rw [hc] at this;exact this.mono ha hi he
    cases hc0:col j0 with
    |none=>
     rw [hc0] at ht;simp only at ht;split at ht
     .rename_i y1 a1 i1 gs1 h1;simp only [Q0,Q1] at ht;obtain ⟨rfl,rfl,rfl,rfl,rfl⟩:=ht;obtain ⟨k1,k2⟩:=NP h (hr 0 x c rfl rfl) h1;refine ⟨by simp [q0],k1.append q1,fun p hp=>let ⟨a2,i2,s2,l2,z1,z2⟩:=qe p hp;⟨a2,i2,s2,l2,z1,fun hh=>by simp [z2 hh]⟩,fun j y u hy hu => ?_⟩;cases j with
      |zero=>
       simp at hy hu;subst hy hu;rw [VM,hc0];exact fun st' hst h' hlet=>(k2 st' (fun g hg=>hst g (by simp [hg])) h' hlet).cls (by simp;exact fun h=>.inl h) (by simp;exact fun h=>.inl h)
      |succ j=>exact rest _ _ _ _ (by simp;exact fun h=>.inr h) (by simp;exact fun h=>.inr h) (fun g hg=>by simp [hg]) (fun p hp=>hp) j y u (by simpa using hy) (by simpa using hu)
     .cases ht
    |some s=>
     rw [hc0] at ht;simp only at ht;split at ht
     .simp only [Q0,Q1] at ht;obtain ⟨rfl,rfl,rfl,rfl,rfl⟩:=ht;refine ⟨by simp [q0],q1,qe,fun j y u hy hu => ?_⟩;cases j with
      |zero=>
       simp at hy hu;subst hy hu;rw [VM,hc0];have r0:=hr 0 _ _ rfl rfl;cases r0;exact ⟨[],rfl,.inl ⟨rfl,rfl⟩⟩
      |succ j=>exact rest _ _ _ _ id id (fun g hg=>hg) (fun p hp=>hp) j y u (by simpa using hy) (by simpa using hu)
     .rename_i e;split at ht
      .rename_i a1 i1 s' l1 hoe;split at ht
       .rename_i hs;subst hs;simp only [Q0,Q1] at ht;obtain ⟨rfl,rfl,rfl,rfl,rfl⟩:=ht;refine ⟨by simp [q0],q1,fun p hp => ?_,fun j y u hy hu => ?_⟩
        .rcases QP.1 hp with rfl | hp
         .exact ⟨a1,i1,s',l1,hoe,fun hh=>by simp [hh]⟩
         .obtain ⟨a2,i2,s2,l2,z1,z2⟩:=qe p hp;exact ⟨a2,i2,s2,l2,z1,fun hh=>by simp [z2 hh]⟩
        cases j with
        |zero=>
         simp at hy hu;subst hy hu;rw [VM,hc0];have r0:=hr 0 _ _ rfl rfl;refine ⟨l1,rfl,.inr ⟨e,a1,i1,by simp,hoe,by simp;exact fun h=>.inl h,by simp;exact fun h=>.inl h,?_⟩⟩;cases r0 with | own _ _ _ hb=>exact hb _ _ (O.jM hoe)
        |succ j=>exact rest _ _ _ _ (by simp;exact fun h=>.inr h) (by simp;exact fun h=>.inr h) (fun g hg=>hg) (fun p hp=>by simp [hp]) j y u (by simpa using hy) (by simpa using hu)
       .cases ht
      .cases ht
     .cases ht
theorem Ig {o:Nat->O} {g:Nat} {a0 i0:Bool} {zZ:Nat} {kP:List (Nat×Nat)} {l0:List (List P)} {hole:Option (Nat×Nat×Nat)} {a i:Bool} {sz:Nat} {aj:List (Nat×Nat)} {l:List (List P)} (hog:o g=.aN a0 i0 zZ kP l0 hole)
  (hh:jH o g=some (a,i,sz,aj,l)):sz=zZ/\aj=kP/\l.length=l0.length:=by
 have h1:=oz hh;rw [hog] at h1;simp only [O.dim,Q0,Q1] at h1;refine ⟨h1.1.symm,?_,h1.2.symm⟩;unfold jH at hh;rw [hog] at hh;simp only at hh;split at hh
 .cases hh;rfl
 .split at hh
  .split at hh
   .cases hh;rfl
   .cases hh
  .cases hh
theorem vJ (htt:iw Pg tt) (h:Rel E st gh val w) {o:Oper} {ρ:Operand->Value} {t:TypeId} {x y:Operand} (ho:o.op=.store t x y) {i:TI} (ht:tt t=some i) {y':V} (ry:rD E st gh w y' (ρ y)) (hys:y'.solid=true) (hyl:y'.words.length=i.size)
  {g:Nat} {a1 i1:Bool} {sz:Nat} {aj:List (Nat×Nat)} {l:List (List P)} {hole iZ:Option (Nat×Nat×Nat)} {ad:Addr} {k off:Nat} (hv:ρ x=.pointer (some ⟨ad.block,ad.off+k*sz+off,none⟩)) (hsz:off+i.size<=sz) (hk:k<l.length)
  {ps:List P} {a' i':Bool} {gs:List Nat} {es:List (Nat×Nat)} (hD:P9 st.o (fun j=>aj.lookup j) off y'.words=some (ps,a',i',gs,es)) (hnd:(es.map (·.2)).Nodup) (hap :∀e∈es.map (·.2),e∉gs)
  {st1:St} {lF:Nat->Gh} (ks:List Nat) (h1:Rel E st1 lF val w) (l1:Lets E (st.aI (gs.map (Fw.aT st.o)) []) st1 gh lF w w) (e1 :∀x,(lF x).ad=(gh x).ad/\(lF x).cap=(gh x).cap) (s1:st1.s=st.s) (u1 :∀x,st1.used x=st.used x)
  (o1:st1.o g=.aN a1 i1 sz aj l hole) (had:(gh g).ad=some ad) (ok1 :∀d∈ks,st1.o d=.none/\d≠g/\d∉es.map (·.2)) (oo1 :∀g',g'≠g->g'∉ks->st1.o g'=(st.aI (gs.map (Fw.aT st.o)) []).o g') (hgg:g∉gs)
  (hh1 :∀m j,¬ (m=k/\off<=j/\j<off+i.size)->∀s,aj.lookup j=some s->gY iZ m j=gY hole m j) (hh2 :∀j s,off<=j->j<off+i.size->aj.lookup j=some s->gY iZ k j=none) (hh3 :∀d∈dJ iZ,d∈dJ hole) :
  ∃v w' bK,Does Pg (execOp ρ o) w v w'/\Rel E (st.aI ((g,.aN (a1||a') (i1||i') sz aj (l.set k (aQ (l.getD k []) off ps)) iZ)::kills (es.map (·.2))++kills ks++gs.map (Fw.aT st.o)) []) bK val w'/\
   Lets E st (st.aI ((g,.aN (a1||a') (i1||i') sz aj (l.set k (aQ (l.getD k []) off ps)) iZ)::kills (es.map (·.2))++kills ks++gs.map (Fw.aT st.o)) []) gh bK w w'/\
   dH E (st.aI ((g,.aN (a1||a') (i1||i') sz aj (l.set k (aQ (l.getD k []) off ps)) iZ)::kills (es.map (·.2))++kills ks++gs.map (Fw.aT st.o)) []) bK w' .no v/\
   ∀g∈S.names .no,(st.aI ((g,.aN (a1||a') (i1||i') sz aj (l.set k (aQ (l.getD k []) off ps)) iZ)::kills (es.map (·.2))++kills ks++gs.map (Fw.aT st.o)) []).used g=true:=by
 obtain ⟨us,hus,NK,huo,hur⟩:=ry.cells hys;have abd:us.length=i.size:=by rw [NK,hyl]
 obtain ⟨q0,q1,qe,q2⟩:=BJ h NK.symm hur hD;have hpl:ps.length=i.size:=by rw [q0,hyl]
 obtain ⟨f1,f2⟩:=Rel.freezes gs h q1;have KG:(lF g).ad=some ad:=by rw [(e1 g).1];exact had
 have hDA:mO E st1 lF w a1 i1 sz aj l hole (lF g):=by have:=h1.bf g;rw [o1] at this;exact this
 rcases hDA with ⟨k1,_⟩ | ⟨ad0,cs0,ty,k1,k2,k3,k4,k5,k6,_,k8⟩
 .rw [KG] at k1;cases k1
 rw [KG] at k1;cases k1;have hle:(k+1)*sz<=(lF g).cap*sz:=Z0 _ (by have:=k5.1;omega);rw [W2,K2] at hle;obtain ⟨w',c',r1,r2,r3,r4,r5,r6,r7,r8⟩:=sK (Pg:=Pg) (htt _ _ ht) ad.block (ad.off+k*sz+off) hus abd huo k3 (by omega);have hes1 :∀p∈es,st1.o p.2=st.o p.2:=by
  intro p hp;have hpm:p.2∈es.map (·.2):=QQ.2 ⟨p,hp,rfl⟩;obtain ⟨a2,i2,s2,l2,z1,_⟩:=qe p hp;by_cases e:p.2=g
  .exfalso;have hog:(st.aI (gs.map (Fw.aT st.o)) []).o g=st.o g:=by rw [gu,if_neg hgg]
   have hlk:=l1.names g (by simp only [St.aI,List.contains_nil,J1];exact h.ul g (by rw [<-e,z1];simp));rw [o1,hog,<-e,z1] at hlk;rcases hlk with hlk | ⟨_,hlk⟩
   .cases hlk
   .exact hlk
  .rw [oo1 _ e fun hk=>(ok1 _ hk).2.2 hpm,gu,if_neg (hap _ hpm)]
 have hm:=h1.ai3 o1 KG hk (off:=off) (ps:=ps) (us:=us) (by omega) (by omega) a' i' es iZ hnd (fun p hp=>by
   obtain ⟨a2,i2,s2,l2,z1,z2⟩:=qe p hp;exact ⟨a2,i2,s2,l2,by rw [hes1 p hp];exact z1,z2⟩) (fun j y u hy hu=>by
   have:=q2 j y u hy hu;cases hc:aj.lookup (off+j) with
   |none=>rw [hc] at this;exact l1.kN (this _ (fun g hg=>by rw [gu,if_pos hg]) f1 f2)
   |some s=>
    rw [hc] at this;obtain ⟨l',z1,z2⟩:=this;refine ⟨l',z1,z2.imp id ?_⟩;rintro ⟨e,a2,i2,y1,y2,y3,y4,y5⟩;exact ⟨e,a2,i2,y1,by rw [hes1 _ y1];exact y2,y3,y4,by rw [(e1 e).1,(e1 e).2];exact y5⟩)
  (by rw [hpl];exact hh1) (by rw [hpl];exact hh2) hh3 w' r4 r5 r6 r7 r8 (fun c e hce=>by
   rw [k3] at hce;cases hce;exact ⟨c',r2,r3⟩)
 obtain ⟨bK,m1,m2⟩:=hm;have hst:st1.aI ((g,.aN (a1||a') (i1||i') sz aj (l.set k (aQ (l.getD k []) off ps)) iZ)::es.map fun p=>(p.2,O.none)) [] =
   st.aI ((g,.aN (a1||a') (i1||i') sz aj (l.set k (aQ (l.getD k []) off ps)) iZ)::kills (es.map (·.2))++kills ks++gs.map (Fw.aT st.o)) []:=by
  refine St.DK s1 (fun z => ?_) (fun z=>by simp [St.aI,u1]);have ek:(es.map fun p=>(p.2,O.none))=kills (es.map (·.2)):=by simp [kills]
  rw [ek];simp only [St.aI,K7,lookup_cons,z_,ig];by_cases z1:z=g
  .simp only [if_pos z1]
  .simp only [if_neg z1];by_cases z2:z∈es.map (·.2)
   .simp only [if_pos z2,Option.some_or]
   .simp only [if_neg z2,Option.none_or];by_cases z3:z∈ks
    .simp only [if_pos z3,Option.some_or];exact (ok1 z z3).1
    .simp only [if_neg z3,Option.none_or];rw [oo1 z z1 z3];rfl
 rw [hst] at m1 m2;refine ⟨undef,w',bK,.inr ⟨?_,rfl⟩,m1,?_,.no _,fun g hg=>by simp [S.names] at hg⟩
 .unfold execOp;rw [ho];refine aa8 ?_;rw [hv];simpa [Instr.storeAt,Instr.sureAddr] using r1
 .exact Lets.trans (Lets.trans f2 l1 (fun g hg=>by simpa [St.aI] using hg)) m2 (fun g hg=>by rw [u1];exact hg)
theorem alb {o:Nat->O} {g:Nat} {a i:Bool} {sz:Nat} {aj:List (Nat×Nat)} {l:List (List P)} {hole:Option (Nat×Nat×Nat)} (h:o g=.aN a i sz aj l hole):(o g).hn=dJ hole:=by rw [h];rfl
theorem NW {g:Nat} {gs:List Nat} (hg:g∉gs) (hn :∀d∈(st.o g).hn,d∉gs):jH (st.aI (gs.map (Fw.aT st.o)) []).o g=jH st.o g:=by
 have e1:(st.aI (gs.map (Fw.aT st.o)) []).o g=st.o g:=by rw [gu,if_neg hg]
 unfold jH;rw [e1];cases ho:st.o g with
 |aN a i sz aj l hole=>
  rcases hole with _ | ⟨n,c,d⟩
  .rfl
  .simp only;rw [gu,if_neg (hn d (by rw [ho];simp [O.hn,dJ]))]
 |_=>rfl
theorem NY {dc:List (Nat×Nat)} (htt:iw Pg tt) (t:TypeId) (x y:Operand):qG Pg tt dc (.store t x y):=by
 intro E st gh val w ρ F o d r ho h hF hFn hk hp hd;simp only [dU] at hk;split at hk
 .rename_i i g n off y' ht hx hy;have rx:=hF x;rw [hx] at rx;have ry:=hF y;rw [hy] at ry;split at hk
  .rename_i a0 i0 sz aj l0 hole hog;split at hk
   .rename_i ps a' i' gs es hD;split at hk
    .rename_i hc;obtain ⟨hc1,hc2,hc3,hc4,hc5,hc6⟩:=hc;have hgg:g∉gs:=fun hm=>by simp [hm] at hc4
     have hnd:=rO hc5;have hap:=ES hc6;have Qv:(st.o g).dim=some (sz,l0.length):=by rw [hog];rfl
     obtain ⟨ad,k,had,rfl,hkl,hv⟩:=(by cases rx.dG with | ep _ _ _ _ _ hb=>exact hb _ _ Qv :∃(ad:Addr) (k:Nat),(gh g).ad=some ad/\n=.int .i64 k/\k<l0.length/\ρ x=.pointer (some ⟨ad.block,ad.off+k*sz+off,none⟩));have en:(P.int .i64 (k:Int)).nat=k:=by simp [P.nat,P.num]
     have ogf:(st.aI (gs.map (Fw.aT st.o)) []).o g=.aN a0 i0 sz aj l0 hole:=by rw [gu,if_neg hgg];exact hog
     obtain ⟨us,hus,NK,huo,hur⟩:=ry.NJ.cells hc3;obtain ⟨_,q1,_,_⟩:=BJ h NK.symm hur hD;obtain ⟨f1,f2⟩:=Rel.freezes gs h q1;have refl:Lets E (st.aI (gs.map (Fw.aT st.o)) []) (st.aI (gs.map (Fw.aT st.o)) []) gh gh w w:=⟨fun a i b hb=>⟨hb,rfl⟩,fun g _=>.inr ⟨⟨rfl,rfl⟩,O.fC _⟩⟩;have home :∀(a i1:Bool) (l:List (List P)),jH st.o g=some (a,i1,sz,aj,l)->(∀d∈(st.o g).hn,d∉es.map (·.2)/\d∉gs)->
       ∃v w' bK,Does Pg (execOp ρ o) w v w'/\Rel E (st.aI ((g,.aN (a||a') (i1||i') sz aj (l.set k (aQ (l.getD k []) off ps)) none)::kills (es.map (·.2))++kills (st.o g).hn++gs.map (Fw.aT st.o)) []) bK val w'/\Lets E st (st.aI ((g,.aN (a||a') (i1||i') sz aj (l.set k (aQ (l.getD k []) off ps)) none)::kills (es.map (·.2))++kills (st.o g).hn++gs.map (Fw.aT st.o)) []) gh bK w w'/\dH E (st.aI ((g,.aN (a||a') (i1||i') sz aj (l.set k (aQ (l.getD k []) off ps)) none)::kills (es.map (·.2))++kills (st.o g).hn++gs.map (Fw.aT st.o)) []) bK w' .no v/\∀g'∈S.names .no,(st.aI ((g,.aN (a||a') (i1||i') sz aj (l.set k (aQ (l.getD k []) off ps)) none)::kills (es.map (·.2))++kills (st.o g).hn++gs.map (Fw.aT st.o)) []).used g'=true:=fun a i1 l hh hno=>by
      have hh':jH (st.aI (gs.map (Fw.aT st.o)) []).o g=some (a,i1,sz,aj,l):=by rw [NW hgg fun d hd=>(hno d hd).2];exact hh
      have hhn:((st.aI (gs.map (Fw.aT st.o)) []).o g).hn=(st.o g).hn:=by rw [ogf,hog]
      obtain ⟨st1,lF,h1,l1,e1,es1,eu,eo,ek,en1⟩:=f1.home hh';rw [hhn] at ek en1;have hll:=(Ig hog hh).2.2;exact vJ htt h ho ht ry.NJ hc3 hc2 hv hc1 (by omega) hD hnd hap (st.o g).hn h1 l1 e1 (by rw [es1];rfl) (fun z=>by rw [eu];simp [St.aI]) eo had
       (fun d hd=>⟨(ek d hd).1,(ek d hd).2,(hno d hd).1⟩) en1 hgg (iZ:=none) (fun _ _ _ _ _=>rfl) (fun _ _ _ _ _=>rfl) (fun d hd=>by cases hd)
     have over :∀n0 c0 d0,hole=some (n0,c0,d0)->off<=c0/\c0<off+i.size->n0=k->_:=fun n0 c0 d0 hho hcr hp=>
      vJ htt h ho ht ry.NJ hc3 hc2 hv hc1 hkl hD hnd hap [] f1 refl (fun _=>⟨rfl,rfl⟩) rfl (fun z=>by simp [St.aI]) ogf had (fun d hd=>by cases hd) (fun _ _ _=>rfl) hgg
       (iZ:=none) (fun m j hne s hs=>by
        subst hho hp;simp only [gY];rw [if_neg fun e=>hne ⟨e.1.symm,by omega,by omega⟩]) (fun _ _ _ _ _=>rfl) (fun d hd=>by cases hd)
     split at hk
     .rename_i hci;simp only [Q0] at hk;subst hk;have:=vJ htt h ho ht ry.NJ hc3 hc2 hv hc1 hkl hD hnd hap [] f1 refl (fun _=>⟨rfl,rfl⟩) rfl (fun z=>by simp [St.aI]) ogf had (fun d hd=>by cases hd) (fun _ _ _=>rfl) hgg
       (iZ:=hole) (fun _ _ _ _ _=>rfl) (fun j s h1 h2 h3=>by rw [Ic hci h1 h2] at h3;cases h3) (fun d hd=>hd)
      rw [en];exact this
     .split at hk
      .simp only [Q0] at hk;subst hk;have:=vJ htt h ho ht ry.NJ hc3 hc2 hv hc1 hkl hD hnd hap [] f1 refl (fun _=>⟨rfl,rfl⟩) rfl (fun z=>by simp [St.aI]) ogf had (fun d hd=>by cases hd) (fun _ _ _=>rfl) hgg
        (iZ:=none) (fun _ _ _ _ _=>rfl) (fun _ _ _ _ _=>rfl) (fun d hd=>hd)
       rw [en];exact this
      .rename_i n0 c0 d0;split at hk
       .rename_i a i1 _ _ l hh;split at hk
        .rename_i hcc;simp only [Q0] at hk;subst hk;obtain ⟨e1,e2,e3⟩:=Ig hog hh;subst e1 e2;have hhn:(st.o g).hn=[d0]:=by rw [alb hog];rfl
         have:=home a i1 l hh (fun d hd=>by
          rw [hhn,Qt] at hd;subst hd;exact ⟨fun hm=>by have:=hcc.1;simp only [Wm,decide_eq_false_iff_not] at this;exact this hm,fun hm=>by have:=hcc.2;simp [hm] at this⟩)
         rw [hhn] at this;rw [en];exact this
        .split at hk
         .rename_i hcr;simp only [Q0] at hk;subst hk;have hp:n0=(P.int .i64 (k:Int)).nat:=hp;rw [en] at hp;rw [en];exact over n0 c0 d0 rfl hcr hp
         .cases hk
       .split at hk
        .rename_i hcr;simp only [Q0] at hk;subst hk;have hp:n0=(P.int .i64 (k:Int)).nat:=hp;rw [en] at hp;rw [en];exact over n0 c0 d0 rfl hcr hp
        .cases hk
    .cases hk
   .cases hk
  .cases hk
 .cases hk
theorem Rel.abm (h:Rel E st gh val w) {d:Nat} (hd:st.used d=false) (a i:Bool) (sz:Nat) (aj:List (Nat×Nat)) (l:List (List P)) (c:Array Value) (t:TypeId) (cap:Nat) (hcap:l.length<=cap/\cap<=9223372036854775807) (hc:cap*sz<=c.size) (hrow :∀x∈l,x.length=sz)
  (es:List (Nat×Nat)) (hnd:(es.map (·.2)).Nodup) (hes :∀p∈es,∃a1 i1 s l',st.o p.2=.arr false a1 i1 s l'/\(i1=true->i=true))
  (hcell :∀(n:Nat) x,l[n]?=some x->∀(j:Nat) y,x[j]?=some y->∃v,c[n*sz+j]?=some v/\match aj.lookup j with
   |none=>dh w (E.ok st gh w a i) y v
   |some s=>PartOf st gh a i es s (n*sz+j) y v) :
  ∃bK,Rel E (st.aI ((d,.aN a i sz aj l none)::kills (es.map (·.2))) [d]) bK val { w with heap:=w.heap.push (.cells c t) }/\Lets E st (st.aI ((d,.aN a i sz aj l none)::kills (es.map (·.2))) [d]) gh bK w { w with heap:=w.heap.push (.cells c t) }/\
   (bK d).ad=some ⟨w.heap.size,0,none⟩ /\(bK d).cap=cap:=by
 have heo :∀p∈es,(st.o p.2).bP=true:=fun p hp=>by obtain ⟨_,_,_,_,e,_⟩:=hes p hp;rw [e];rfl
 have hde:d∉es.map (·.2):=fun hm=>by
  obtain ⟨p,hp,e⟩:=QQ.1 hm;have:=h.ul p.2 (O.qB (heo p hp));rw [e,hd] at this;cases this
 let G:Gh:=⟨some ⟨w.heap.size,0,none⟩,cap,fun b=>(whose gh es b).map fun p=>(p.1/sz,p.1 % sz)⟩
 have hwb :∀b,(G.sub b).isSome=true->∃p∈es,∃ad,(gh p.2).ad=some ad/\ad.block=b:=fun b hb=>by
  cases hx:whose gh es b with
  |none=>simp [G,hx] at hb
  |some p=>exact ⟨p,vI hx⟩
 have hm:=h.gather (fun g=>g∈es.map (·.2)) hd a i sz aj l G (st.aI ((d,.aN a i sz aj l none)::kills (es.map (·.2))) [d]) { w with heap:=w.heap.push (.cells c t) } rfl (by simp [St.aI,lookup_cons])
  (fun g hg e=>by simp only [St.aI,lookup_cons,if_neg e,ig,if_pos hg]) (fun g hg e=>by simp only [St.aI,lookup_cons,if_neg e,ig,if_neg hg]) (fun g hg=>by simp [St.aI,hg]) (by simp [St.aI])
  (ad:=⟨w.heap.size,0,none⟩) (c:=c) (ty:=t) rfl rfl (by simp) (by simpa [G] using hc) hcap hrow (by
   cases hx:G.sub w.heap.size with
   |none=>rfl
   |some p=>
    obtain ⟨p,hp,ad,q1,q2⟩:=hwb w.heap.size (by rw [hx];rfl);have:=(h.wr p.2 w.heap.size (heo p hp) (.inl ⟨ad,q1,q2⟩)).2;omega) (fun b hb=>by
   obtain ⟨p,hp,ad,q1,q2⟩:=hwb b hb;refine ⟨⟨p.2,QQ.2 ⟨p,hp,rfl⟩,heo p hp,.inl ⟨ad,q1,q2⟩⟩,?_⟩;obtain ⟨_,_,_,_,e,_⟩:=hes p hp;have hA:=h.bf p.2;rw [e] at hA;rcases hA with ⟨q3,_⟩ | ⟨Bv,c2,e2,q3,_,q4,_⟩
   .rw [q1] at q3;cases q3
   .rw [q1] at q3;cases q3;rw [<-q2];exact ⟨_,_,_,q4⟩)
  (.inr ⟨YY _,by simp⟩) (fun b hb _=>vg w _ b hb) (by simp) rfl rfl rfl (fun g i1 hg e1 hi=>by
   obtain ⟨p,hp,rfl⟩:=QQ.1 hg;obtain ⟨_,i2,_,_,e,hi2⟩:=hes p hp;rw [e] at e1;cases e1;exact hi2 hi) (fun g hg _=>by
   obtain ⟨p,hp,rfl⟩:=QQ.1 hg;obtain ⟨_,i2,_,_,e,hi2⟩:=hes p hp;exact ⟨i2,by rw [e];rfl⟩) (fun n x hx j y hy=>by
   obtain ⟨v,hv,hr⟩:=hcell n x hx j y hy;refine ⟨v,by simpa using hv,?_⟩;cases hcj:aj.lookup j with
   |none=>rw [hcj] at hr;exact hr
   |some s=>
    rw [hcj] at hr;have hjs:j<sz:=by have:=(Q3.1 hy).1;have:=hrow x (XS hx);omega
    refine PartOf.ak_ h hr fun p hp e ad had => ?_;have:=Lm h hnd heo hp had;simp only [G,this,Z3,e];have e1:(n*sz+j)/sz=n:=by rw [Ks,Nat.mul_add_div (by omega),Nat.div_eq_of_lt hjs,VM]
    have e2:(n*sz+j) % sz=j:=by rw [Ks,qS,Ke hjs]
    rw [e1,e2])
 exact ⟨_,hm.1,hm.2,by simp [fD,G],by simp [fD,G]⟩
theorem DL {dc:List (Nat×Nat)} (htt:iw Pg tt) (t:TypeId) (n c:Operand):qG Pg tt dc (.makeSlice t n c):=by
 intro E st gh val w ρ F o d r ho h hF hFn hk hp hd;simp only [dU] at hk;split at hk
 .rename_i e _ _ _ _ _ n' _ _ c' zG DN ht hn hc;split at hk
  .rename_i ie he;split at hk
   .rename_i ps hps;split at hk
    .rename_i hpos;simp only [Q0] at hk;subst hk;obtain ⟨m,k,rfl,rfl,hmk,hby,hkm⟩:=hp;have hu:=(htt _ _ ht).kind;simp only [oq] at hu;have rn:=hF n;rw [hn] at rn;have rc:=hF c;rw [hc] at rc;obtain ⟨x,z,g1,g2,g3,g4,g5,g6⟩:=(htt _ _ he).info;obtain ⟨hone,hl,hr⟩:=qC (E:=E) (st:=st) (gh:=gh) (w:=w) (htt _ _ he);have hzl:=(htt _ _ he).len;obtain ⟨q0,q1,_,q2⟩:=BJ h hl hr hps;have Gx:st.used d=false:=hd d (by simp);have hpl:ps.length=ie.size:=by rw [q0,hl,hzl]
     have e1:(P.int .i64 (m:Int)).nat=m:=by simp [P.nat,P.num]
     obtain ⟨bK,m1,m2,m3,m4⟩:=h.abm Gx false false ie.size (zG::DN) (List.replicate m ps) (fQ ie.zero k).toArray e k ⟨by simpa using hmk,by omega⟩ (by simp [dK,hzl]) (fun x hx=>by
       rw [List.mem_replicate] at hx;rw [hx.2,hpl]) [] List.nodup_nil (fun p hp=>by cases hp) (fun q x hx j y hy=>by
       rw [vh] at hx;split at hx
       .rename_i hq;simp only [Q0] at hx;subst hx;have hj:j<ie.size:=by have:=(Q3.1 hy).1;omega
        have hlt:q*ie.size+j<k*ie.zero.length:=by
         rw [hzl];have:(q+1)*ie.size<=k*ie.size:=Z0 _ (by omega);rw [W2] at this;omega
        have hz':ie.zero[j]?=some ie.zero[j]:=Q2 (by omega);refine ⟨ie.zero[j],?_,?_⟩
        .simp only [K0];have hmod:(q*ie.size+j) % ie.zero.length=j:=by rw [hzl,Ks,qS,Ke hj]
         rw [iC _ _ _ hlt,hmod];exact hz'
        .have:=q2 j y _ hy hz';rw [WD] at this;cases hcj:(zG::DN).lookup j with
         |none=>rw [hcj] at this;exact this st (by simp) h ⟨fun a i b hb=>⟨hb,rfl⟩,fun g _=>.inr ⟨⟨rfl,rfl⟩,O.fC _⟩⟩
         |some s=>
          rw [hcj] at this;obtain ⟨l',z1,z2⟩:=this;rcases z2 with z2 | ⟨_,_,_,z3,_⟩
          .exact ⟨l',z1,.inl z2⟩
          .cases z3
       .cases hx)
     refine ⟨.slice (some ⟨w.heap.size,0,none⟩) m k,_,bK,.inl ?_,by simpa [e1,P.list,kills] using m1,by simpa [e1,P.list,kills] using m2,dH.Hw (.own d _ rfl fun sz' len' ho' => ?_),fun g hg => ?_⟩
     .unfold execOp;rw [ho];refine gK ?_;have hrun:=run_make (P:=Pg) w t e x z hu g1 g4 .i64 .i64 (m:Int) (k:Int) (by omega) (by omega) (by rw [g3];omega) (by omega);rw [rn.fE.eH,rc.fE.eH,hrun];have:=nJ g5 k (by rw [hzl];exact hpos);rw [hzl] at this;simp only [QR,g2,madeCells,this]
     .rw [e1] at ho';have UA:(some (ie.size,m):Option (Nat×Nat))=some (sz',len'):=by
       rw [<-ho'];simp [St.aI,List.lookup,O.dim,P.list]
      cases UA;rw [m3,m4]
     .have hg:g∈(S.v (.one (.own d))).names:=hg;rw [dP] at hg;simp only [W.names,Qt] at hg;subst hg;simp [St.aI]
    .cases hk
   .cases hk
  .cases hk
 .cases hk
theorem BK {dc:List (Nat×Nat)} (htt:iw Pg tt) (t:TypeId) (n:Nat) (parts:Array (Nat×Operand)):qG Pg tt dc (.buildSlice t n parts):=by
 intro E st gh val w ρ F o d r ho h hF hFn hk hp hd;simp only [dU] at hk;split at hk
 .rename_i e _ _ _ zG DN ht;split at hk
  .rename_i ie he;split at hk
   .rename_i ws Ll;split at hk
    .rename_i ps a i gs es hps;split at hk
     .rename_i hcc;obtain ⟨hcap0,hnd,hap⟩:=hcc;have hnd:=rO hnd;have hap:=ES hap;have hcap:n*ie.size<=16777216:=by omega
      simp only [Q0] at hk;subst hk;have hu:=(htt _ _ ht).kind;simp only [oq] at hu;obtain ⟨z,hz,hzc,_⟩:=kU (Pg:=Pg) (w:=w) (htt _ _ he);obtain ⟨hone,hl,hr⟩:=qC (E:=E) (st:=st) (gh:=gh) (w:=w) (htt _ _ he);have hzl:=(htt _ _ he).len;have hparts:(parts.map fun (p:Nat×Operand)=>(p.1,ρ p.2)).toList=parts.toList.map fun p=>(p.1,ρ p.2):=by simp
      obtain ⟨cs',h1,h2,h3,h4,h5⟩:=BD (E:=E) (st:=st) (gh:=gh) (w:=w) (place':=fun i=>some (i*ie.size,ie.size)) (fun m p hpm=>by split at hpm;exact hpm;cases hpm) _ (parts.toList.map fun p=>(p.1,ρ p.2)) _ _
       (fQ ie.zero n) (by simp) (fun j x v hx hv=>Dz hF _ j x v hx hv) (by rw [dK,dK,hl]) (fun c hc=>by
        obtain ⟨j,hj⟩:=V2.1 hc;have hlt:j<n*ie.zero.length:=by have:=(Q3.1 hj).1;rwa [dK] at this
        rw [iC _ _ _ hlt] at hj;exact hone c (XS hj)) (fun j x u hx hu=>by
        have hlt:j<n*ie.zero.length:=by have:=(Q3.1 hu).1;rwa [dK] at this
        rw [iC _ _ _ hlt] at hu;rw [iC _ _ _ (by rw [hl];exact hlt),hl] at hx;exact hr _ _ _ hx hu) Ll
      obtain ⟨q0,q1,qe,q2⟩:=BJ h h2 h4 hps;obtain ⟨f1,f2⟩:=Rel.freezes gs h q1;have Gx:st.used d=false:=hd d (by simp);have hws:ws.length=n*ie.size:=by rw [h5,dK,hl,hzl]
      have aiZ:ps.length=n*ie.size:=by rw [q0,hws]
      have hfe :∀p∈es,(st.aI (gs.map (Fw.aT st.o)) []).o p.2=st.o p.2:=fun p hp=>by rw [gu,if_neg (hap _ (QQ.2 ⟨p,hp,rfl⟩))]
      obtain ⟨bK,m1,m2,m3,m4⟩:=f1.abm (d:=d) (by simpa [St.aI] using Gx) a i ie.size (zG::DN) (chunks ie.size n ps) cs'.toArray e n ⟨by rw [h_];exact YY _,by omega⟩ (by simp;omega) (fun x hx=>by
        obtain ⟨m,hm⟩:=V2.1 hx;have hlt:m<n:=by have:=(Q3.1 hm).1;rwa [h_] at this
        rw [qE _ _ _ _ hlt] at hm;simp only [Q0] at hm;subst hm;simp [aiZ];have:(m+1)*ie.size<=n*ie.size:=Z0 _ hlt;rw [W2] at this;omega) es hnd (fun p hp=>by
        obtain ⟨a2,i2,s2,l2,z1,z2⟩:=qe p hp;exact ⟨a2,i2,s2,l2,by rw [hfe p hp];exact z1,z2⟩) (fun m x hx j y hy=>by
        have hlt:m<n:=by have:=(Q3.1 hx).1;rwa [h_] at this
        rw [qE _ _ _ _ hlt] at hx;simp only [Q0] at hx;subst hx;rw [Z2] at hy;split at hy
        .rename_i hj;rw [W5] at hy;have hlt2:m*ie.size+j<cs'.length:=by
          have:=(Q3.1 hy).1;omega
         refine ⟨cs'[m*ie.size+j],by simp,?_⟩;have:=q2 _ y _ hy (Q2 hlt2);have em:(0+(m*ie.size+j)) % ie.size=j:=by rw [WD,Ks,qS,Ke hj]
         rw [em,WD] at this;cases hcj:(zG::DN).lookup j with
         |none=>rw [hcj] at this;exact this _ (fun g hg=>by rw [gu,if_pos hg]) f1 f2
         |some s=>
          rw [hcj] at this;obtain ⟨l',z1,z2⟩:=this;refine ⟨l',z1,z2.imp id ?_⟩;rintro ⟨e,a2,i2,y1,y2,y3,y4,y5⟩;exact ⟨e,a2,i2,y1,by rw [hfe _ y1];exact y2,y3,y4,y5⟩
        .cases hy)
      have hst:(st.aI (gs.map (Fw.aT st.o)) []).aI ((d,.aN a i ie.size (zG::DN) (chunks ie.size n ps) none)::kills (es.map (·.2))) [d]=st.aI ((d,.aN a i ie.size (zG::DN) (chunks ie.size n ps) none)::kills (es.map (·.2))++gs.map (Fw.aT st.o)) [d]:=by
       refine St.DK rfl (fun z => ?_) (fun z=>by simp [St.aI]);simp only [St.aI,K7,lookup_cons,z_,ig];by_cases z1:z=d
       .simp only [if_pos z1]
       .simp only [if_neg z1];by_cases z2:z∈es.map (·.2)
        .simp only [if_pos z2,Option.some_or]
        .simp only [if_neg z2,Option.none_or]
      rw [hst] at m1 m2;refine ⟨.slice (some ⟨w.heap.size,0,none⟩) n n,_,bK,.inl ?_,m1,Lets.trans f2 m2 (fun g hg=>by simpa [St.aI] using hg),dH.Hw (.own d _ rfl fun sz' len' ho' => ?_),fun g hg => ?_⟩
      .unfold execOp;rw [ho];refine gK ?_;have hle:¬ n*ie.size>2 ^ 24:=by omega
       have fin :∀Z:Array Value,(Array.range (n*ie.size)).map (fun i=>Z[i % Z.size]!)=(fQ ie.zero n).toArray->
         Instr.fill (fun i=>some (i*ie.size,ie.size)) ((Array.range (n*ie.size)).map fun i=>Z[i % Z.size]!) (parts.map fun (p:Nat×Operand)=>(p.1,ρ p.2)).toList=some cs'.toArray:=by
        intro Z hZ;rw [hZ,hparts,h1]
       by_cases h0:n*ie.size=0
       .have e0:fQ ie.zero n=[]:=WP (by rw [dK,hzl,h0]);have e1:=fin #[] (by rw [h0,e0];simp);simp only [Instr.buildSlice,Sem.run_bind,dZ hu,Result.andThen_ok,dW (htt _ _ he),if_neg hle,if_pos h0,Sem.run_pure];simp only [e1];simp [newRow]
       .have hpos:0<ie.zero.length:=by rw [hzl];rcases qf ie.size with h | h;(rw [h] at h0;simp at h0);exact h
        have e1:=fin z.cells (by have:=nJ hzc n hpos;rw [hzl] at this;exact this);simp only [Instr.buildSlice,Sem.run_bind,dZ hu,Result.andThen_ok,dW (htt _ _ he),if_neg hle,if_neg h0,hz,Sem.run_pure];simp only [e1];simp [newRow]
      .have UA:(some (ie.size,n):Option (Nat×Nat))=some (sz',len'):=by
        rw [<-ho'];simp [St.aI,List.lookup,O.dim,P.list,h_]
       cases UA;rw [m3,m4]
      .have hg:g∈(S.v (.one (.own d))).names:=hg;rw [dP] at hg;simp only [W.names,Qt] at hg;subst hg;simp [St.aI]
     .cases hk
    .cases hk
   .cases hk
  .cases hk
 .cases hk
def yX (gh:Nat->Gh):Option Nat->Nat->Option (Nat×Nat)
 |some g,b=>(gh g).sub b
 |none,_=>none
theorem Qx (h:Rel E st gh val w) {d g2:Nat} (hd:st.used d=false) {a i a2 i2:Bool} {sz:Nat} {aj:List (Nat×Nat)} {old new:List (List P)} {base:Option Nat} {bad:Option Addr} {vK m:Nat}
  (hb:(base=none/\bad=none/\vK=0/\m=0/\old=[])\/∃g l,base=some g/\st.o g=.aN a i sz aj l none/\bad=(gh g).ad/\(m<=vK/\vK<=(gh g).cap)/\m<=l.length/\old=l.take m/\g≠g2)
  (ho2:st.o g2=.aN a2 i2 sz aj new none)
  {ts:Array TypeId} {ty sT xT e e':TypeId} {ie:TI} (h0:ts[0]?=some sT) (h1:ts[1]?=some xT) (hs:Pg.underlying sT=some (.slice e)) (hxt:Pg.underlying xT=some (.slice e')) (he:pJ Pg e ie) (hsz:sz=ie.size)
  (hbb:(m+new.length)*ie.bytes<=140737488355328) (hb0:ie.bytes≠0) :
  ∃v w' bK,(Builtin.append_ ts ty #[.slice bad m vK,.slice (gh g2).ad new.length (gh g2).cap]).run Pg w=.ok v w'/\Rel E (st.aI ((d,.aN (a||a2) (i||i2) sz aj (old++new) none)::kills (base.toList++[g2])) [d]) bK val w'/\
   Lets E st (st.aI ((d,.aN (a||a2) (i||i2) sz aj (old++new) none)::kills (base.toList++[g2])) [d]) gh bK w w'/\v=.slice (bK d).ad (old++new).length (bK d).cap:=by
 subst hsz;have ca:a=true->(a||a2)=true:=by simp;exact fun h=>.inl h
 have ci:i=true->(i||i2)=true:=by simp;exact fun h=>.inl h
 have ca2:a2=true->(a||a2)=true:=by simp;exact fun h=>.inr h
 have ci2:i2=true->(i||i2)=true:=by simp;exact fun h=>.inr h
 have hnd :∀g,st.o g≠.none->g≠d:=fun g hg e=>by rw [<-e,h.ul g hg] at hd;cases hd
 have apa:g2≠d:=hnd g2 (by rw [ho2];simp);have afb:(st.o g2).bP=true:=by rw [ho2];rfl
 have hol:old.length=m:=by
  rcases hb with ⟨_,_,_,rfl,rfl⟩ | ⟨g,l,_,_,_,_,hm,rfl,_⟩
  .rfl
  .simp;omega
 have hlen:(old++new).length=m+new.length:=by rw [Ys,hol]
 have hbS :∀g,g∈base.toList++[g2]->g≠d/\(st.o g).bP=true/\∃a0 i0 l0,st.o g=.aN a0 i0 ie.size aj l0 none/\(i0=true->(i||i2)=true):=by
  intro g hg;rcases Xs.1 hg with hg | hg
  .rcases hb with ⟨rfl,_⟩ | ⟨g',l,rfl,hog,_⟩
   .simp at hg
   .simp at hg;subst hg;exact ⟨hnd g (by rw [hog];simp),by rw [hog];rfl,a,i,l,hog,ci⟩
  .rw [Qt] at hg;subst hg;exact ⟨apa,afb,a2,i2,new,ho2,ci2⟩
 let sub:Nat->Option (Nat×Nat):=fun b=>match (gh g2).sub b with
  |some (n,j)=>some (n+m,j)
  |none=>yX gh base b
 have alc :∀b,(yX gh base b).isSome=true->(gh g2).has b->False:=fun b h1 h2=>by
  rcases hb with ⟨rfl,_⟩ | ⟨g,l,rfl,hog,_,_,_,_,hne⟩
  .cases h1
  .exact hne (h.inj g g2 b (by rw [hog];rfl) afb (.inr h1) h2)
 have hsub :∀b,(sub b).isSome=true->(∃g,g∈base.toList++[g2]/\(st.o g).bP=true/\((gh g).sub b).isSome=true):=fun b hbs=>by
  cases hx:(gh g2).sub b with
  |some p=>exact ⟨g2,by simp,afb,by rw [hx];rfl⟩
  |none=>
   simp only [sub,hx] at hbs;rcases hb with ⟨rfl,_⟩ | ⟨g,l,rfl,hog,_⟩
   .cases hbs
   .exact ⟨g,by simp,by rw [hog];rfl,hbs⟩
 have abn :∀g,g∈base.toList++[g2]->∀b,((gh g).sub b).isSome=true->∃c e f,w.heap[b]?=some (.cells c e f):=fun g hg b hbs=>by
  obtain ⟨_,_,a0,i0,l0,hog,_⟩:=hbS g hg;have hD:=h.bf g;rw [hog] at hD;rcases hD with ⟨_,_,_,q⟩ | ⟨_,_,_,_,_,_,_,_,_,⟨_,q⟩,_⟩
  .rw [q b] at hbs;cases hbs
  .exact q b hbs
 have ald :∀(G:Gh),G.sub=sub->∀n j y u,iK E st gh w a2 i2 (gh g2) aj none n j y u->match aj.lookup j with
   |none=>dh w (E.ok st gh w (a||a2) (i||i2)) y u
   |some s=>zA E st gh w (a||a2) (i||i2) G s (n+m) j y u:=by
  intro G hG n j y u hr;unfold iK at hr;cases hc:aj.lookup j with
  |none=>rw [hc] at hr;exact hr.cls ca2 ci2
  |some s=>
   rw [hc] at hr;simp only [gY] at hr;obtain ⟨l',ao,k,q1,q2,q3,q4⟩:=hr.cls ca2 ci2;exact ⟨l',ao,k,q1,q2,q3,fun ad had=>by rw [hG];simp only [sub,q4 ad had]⟩
 have ale :∀(G:Gh),G.sub=sub->∀g,base=some g->∀n j y u,iK E st gh w a i (gh g) aj none n j y u->match aj.lookup j with
   |none=>dh w (E.ok st gh w (a||a2) (i||i2)) y u
   |some s=>zA E st gh w (a||a2) (i||i2) G s n j y u:=by
  intro G hG g hgb n j y u hr;unfold iK at hr;cases hc:aj.lookup j with
  |none=>rw [hc] at hr;exact hr.cls ca ci
  |some s=>
   rw [hc] at hr;simp only [gY] at hr;obtain ⟨l',ao,k,q1,q2,q3,q4⟩:=hr.cls ca ci;refine ⟨l',ao,k,q1,q2,q3,fun ad had => ?_⟩;have hq:=q4 ad had;have hb1:(yX gh base ad.block).isSome=true:=by rw [hgb];simp only [yX,hq];rfl
   rw [hG];cases hx:(gh g2).sub ad.block with
   |some p=>exact (alc ad.block hb1 (.inr (by rw [hx];rfl))).elim
   |none=>simp only [sub,hx,hgb,yX];exact hq
 have hD2:mO E st gh w a2 i2 ie.size aj new none (gh g2):=by have:=h.bf g2;rw [ho2] at this;exact this
 have alf :∀X:O,∀g,g∈base.toList++[g2]->g≠d->(st.aI ((d,X)::kills (base.toList++[g2])) [d]).o g=.none:=fun X g hg e=>by simp only [St.aI,lookup_cons,if_neg e,ig,if_pos hg]
 have alg :∀X:O,∀g,¬ g∈base.toList++[g2]->g≠d->(st.aI ((d,X)::kills (base.toList++[g2])) [d]).o g=st.o g:=fun X g hg e=>by simp only [St.aI,lookup_cons,if_neg e,ig,if_neg hg]
 by_cases rJ:m+new.length<=vK
 .obtain ⟨c2,hc2,hl2,alh,hr2,hcell2⟩:=zX (Pg:=Pg) hD2 new.length (YY _);rcases hb with ⟨rfl,rfl,rfl,rfl,rfl⟩ | ⟨g,l,rfl,hog,rfl,hbc,hm,rfl,ali⟩
  .have hn0:new=[]:=WP (by omega);subst hn0;have hk:=h.kill g2;have hmk:=Rel.NC hk.1 d (by simpa [St.aI] using hd) (.aN (a||a2) (i||i2) ie.size aj [] none) (.inl ⟨rfl,rfl,rfl,fun _=>rfl⟩) (fun g hg=>by simp [O.names,dJ] at hg);have hst:(st.aI [(g2,.none)] []).aI [(d,.aN (a||a2) (i||i2) ie.size aj [] none)] [d]=st.aI ((d,.aN (a||a2) (i||i2) ie.size aj ([]++[]) none)::kills ((none:Option Nat).toList++[g2])) [d]:=by
    refine St.DK rfl (fun z => ?_) (fun z=>by simp [St.aI]);simp only [St.aI,lookup_cons,ig,Option.toList,qd,Qt,List.lookup_nil];by_cases z1:z=d
    .simp only [if_pos z1]
    .simp only [if_neg z1]
   rw [hst] at hmk;refine ⟨.slice none (0+0) 0,w,_,kK h0 h1 hs hxt he hc2 (by simp) (fun a ha=>by cases ha) (fun _=>rfl),hmk.1,Lets.trans hk.2 hmk.2 (fun g hg=>by simpa [St.aI] using hg),by simp [fD,Gh.nil]⟩
  .have hD:mO E st gh w a i ie.size aj l none (gh g):=by have:=h.bf g;rw [hog] at this;exact this
   have hgo:(st.o g).bP=true:=by rw [hog];rfl
   rcases hD with ⟨z1,z2,z3,z4⟩ | ⟨ad,c,e0,z1,z2,z3,z4,z5,z6,⟨z7,z7'⟩,z8⟩
   .subst z3;have hm0:m=0:=by simpa using hm
    subst hm0;have hn0:new=[]:=WP (by omega);subst hn0;have hk:=h.kill g;have hk2:=hk.1.kill g2;have hmk:=Rel.NC hk2.1 d (by simpa [St.aI] using hd) (.aN (a||a2) (i||i2) ie.size aj [] none) (.inl ⟨rfl,rfl,rfl,fun _=>rfl⟩) (fun g hg=>by simp [O.names,dJ] at hg);have hst:((st.aI [(g,.none)] []).aI [(g2,.none)] []).aI [(d,.aN (a||a2) (i||i2) ie.size aj [] none)] [d]=st.aI ((d,.aN (a||a2) (i||i2) ie.size aj (([]:List (List P)).take 0++[]) none)::kills ((some g:Option Nat).toList++[g2])) [d]:=by
     refine St.DK rfl (fun z => ?_) (fun z=>by simp [St.aI]);simp only [St.aI,lookup_cons,ig,Option.toList,K7,qd,QP,List.not_mem_nil,or_false,List.lookup_nil];by_cases z1:z=d
     .simp only [if_pos z1];rfl
     .simp only [if_neg z1];by_cases z2:z=g2
      .simp [z2]
      .simp only [if_neg z2];by_cases z3:z=g
       .simp [z3]
       .simp [z2,z3]
    rw [hst] at hmk;have ai2:vK=0:=by omega
    subst ai2;refine ⟨.slice none (0+0) 0,w,_,by rw [z1];exact kK h0 h1 hs hxt he hc2 (by simp) (fun a ha=>by cases ha) (fun _=>rfl),hmk.1,Lets.trans (Lets.trans hk.2 hk2.2 (fun g hg=>by simpa [St.aI] using hg)) hmk.2 (fun g hg=>by simpa [St.aI] using hg),by simp [fD,Gh.nil]⟩
   .have ao6:m*ie.size+new.length*ie.size<=(gh g).cap*ie.size:=by rw [<-W2];exact Z0 _ (UP rJ hbc.2)
    have hbz:vK*ie.size<=(gh g).cap*ie.size:=Z0 _ hbc.2;obtain ⟨b0,o0,sp0⟩:=ad;simp only at z2 z3 z4 z7 z8;subst z2;obtain ⟨w',c',s1,s2,s3,s4,s5,s6,s7,s8⟩:=kE (Pg:=Pg) b0 (o0+m*ie.size) e0 c2 0 w c z3 alh (by omega);have xH:c'.size=c.size:=by
     have:=congrArg List.length s3;rw [dQ (by simp;omega)] at this;simpa using this
    let G:Gh:=⟨some ⟨b0,o0,none⟩,vK,sub⟩
    have hn2:¬ (gh g2).has b0:=fun hb=>ali (h.inj g g2 b0 hgo afb (Gh.jS z1) hb);have hget :∀q:Nat,c'[q]?=(aQ c.toList (o0+m*ie.size) c2)[q]?:=fun q=>by rw [<-Wo,s3,VM]
    have hga:=h.gather (fun g'=>g'∈(some g:Option Nat).toList++[g2]) hd (a||a2) (i||i2) ie.size aj (l.take m++new) G (st.aI ((d,.aN (a||a2) (i||i2) ie.size aj (l.take m++new) none)::kills ((some g:Option Nat).toList++[g2])) [d]) w' rfl (by simp [St.aI,lookup_cons])
     (alf _) (alg _) (fun g hg=>by simp [St.aI,hg]) (by simp [St.aI]) (ad:=⟨b0,o0,none⟩) (c:=c') (ty:=e0) rfl rfl s2 (by rw [xH];simp only [G];omega) ⟨by rw [hlen];exact rJ,by simp only [G];have:=z5.2;omega⟩ (fun x hx=>by
      rcases Xs.1 hx with hx | hx
      .exact z6 x (W7 hx)
      .exact hr2 x hx) (by
      show sub b0=none;cases hx:(gh g2).sub b0 with
      |some p=>exact (hn2 (.inr (by rw [hx];rfl))).elim
      |none=>simp only [sub,hx,yX];exact z7) (fun b hb=>by
      obtain ⟨g',q1,q2,q3⟩:=hsub b hb;exact ⟨⟨g',q1,q2,.inr q3⟩,abn g' q1 b q3⟩) (.inl ⟨g,by simp,hgo,Gh.jS z1⟩) (fun b _ hne=>s4 b hne) (by omega) s6 s7 s8
     (fun g' i1 hg' e1 hi=>by obtain ⟨_,_,a0,i0,l0,hq,hi0⟩:=hbS g' hg';rw [hq] at e1;cases e1;exact hi0 hi) (fun g' hg' _=>by obtain ⟨_,_,a0,i0,l0,hq,_⟩:=hbS g' hg';exact ⟨i0,by rw [hq];rfl⟩)
     (fun n x hx j y hy=>by
      rw [K4] at hx;split at hx
      .rename_i hn;have hnm:n<m:=by simp at hn;omega
       rw [Z2,if_pos hnm] at hx;obtain ⟨v,hv,hvr⟩:=z8 n x hx j y hy;have hj:j<ie.size:=by have:=(Q3.1 hy).1;have:=z6 x (XS hx);omega
       have:(n+1)*ie.size<=m*ie.size:=Z0 _ hnm;rw [W2,K2] at this;exact ⟨v,by rw [hget,dX (by simp;omega),if_neg (by show ¬ (_/\_);simp only;omega)];simpa using hv,ale G rfl g rfl n j y v hvr⟩
      .rename_i hn;have hlm:(l.take m).length=m:=by simp;omega
       rw [hlm] at hx hn;obtain ⟨u,hu,hur⟩:=hcell2 _ x (by have:=(Q3.1 hx).1;omega) hx j y hy;have NK:=(Q3.1 hu).1;have hnm:n*ie.size=m*ie.size+(n-m)*ie.size:=by rw [<-W2];congr 1;omega
       refine ⟨u,?_,?_⟩
       .have e1:o0+n*ie.size+j-(o0+m*ie.size)=(n-m)*ie.size+j:=by omega
        rw [hget,dX (by simp;omega),if_pos (by simp only;omega),e1];exact hu
       .have:=ald G rfl (n-m) j y u hur;have e2:n-m+m=n:=by omega
        rw [e2] at this;exact this)
    refine ⟨_,w',_,kK h0 h1 hs hxt he hc2 rJ (fun a ha => ?_) (fun hn=>by rw [z1] at hn;cases hn),hga.1,hga.2,by rw [hlen];simp [fD,G,z1]⟩;rw [z1] at ha;cases ha;rw [Addr.iy];simpa using s1
 .have hd1:=h.drew (w.drawn+1);have hl1:Lets E st st gh gh w { w with drawn:=w.drawn+1 }:=Rel.DF _;have apb:mO E st gh { w with drawn:=w.drawn+1 } a2 i2 ie.size aj new none (gh g2):=by have:=hd1.bf g2;rw [ho2] at this;exact this
  obtain ⟨c2,hc2,hl2,alh,hr2,hcell2⟩:=zX (Pg:=Pg) apb new.length (YY _);have hbase :∃c1:List Value,(Builtin.firstCells ie.size m (.slice bad m vK)).run Pg { w with drawn:=w.drawn+1 }=.ok c1.toArray { w with drawn:=w.drawn+1 }/\c1.length=m*ie.size/\(∀x∈old,x.length=ie.size)/\
    ∀(n:Nat) x,old[n]?=some x->∀(j:Nat) y,x[j]?=some y->∃u,c1[n*ie.size+j]?=some u/\∃g,base=some g/\iK E st gh { w with drawn:=w.drawn+1 } a i (gh g) aj none n j y u:=by
   rcases hb with ⟨rfl,rfl,rfl,rfl,rfl⟩ | ⟨g,l,rfl,hog,rfl,hbc,hm,rfl,ali⟩
   .exact ⟨[],by simp [Builtin.firstCells],by simp,by simp,by simp⟩
   .have hD:mO E st gh { w with drawn:=w.drawn+1 } a i ie.size aj l none (gh g):=by have:=hd1.bf g;rw [hog] at this;exact this
    obtain ⟨c1,k1,k2,k3,k4,k5⟩:=zX (Pg:=Pg) hD m hm;rw [xI _ _ _ _ _ vK] at k1;refine ⟨c1,k1,k2,fun x hx=>k4 x (W7 hx),fun n x hx j y hy => ?_⟩;rw [Z2] at hx;split at hx
    .rename_i hn;obtain ⟨u,q1,q2⟩:=k5 n x hn hx j y hy;exact ⟨u,q1,g,rfl,q2⟩
    .cases hx
  obtain ⟨c1,hc1,abg,hr1,hcell1⟩:=hbase;have hback:Lets E st st gh gh { w with drawn:=w.drawn+1 } w:=⟨fun a i b hb=>⟨hb,rfl⟩,fun g _=>.inr ⟨⟨rfl,rfl⟩,O.fC _⟩⟩;obtain ⟨rest,newCap,k1,k2,k3⟩:=qF (ty:=ty) h0 h1 hs hxt he hc2 hc1 rJ hbb hb0
  let G:Gh:=⟨some ⟨w.heap.size,0,none⟩,newCap,sub⟩
  have hga:=h.gather (fun g'=>g'∈base.toList++[g2]) hd (a||a2) (i||i2) ie.size aj (old++new) G (st.aI ((d,.aN (a||a2) (i||i2) ie.size aj (old++new) none)::kills (base.toList++[g2])) [d])
   { w with drawn:=w.drawn+1,heap:=w.heap.push (.cells (c1.toArray++c2.toArray++rest) e) } rfl (by simp [St.aI,lookup_cons])
   (alf _) (alg _) (fun g hg=>by simp [St.aI,hg]) (by simp [St.aI]) (ad:=⟨w.heap.size,0,none⟩) (c:=c1.toArray++c2.toArray++rest) (ty:=e) rfl rfl (by simp) (by
    simp only [vi,Kk,abg,hl2,k2,G];rw [<-W2,<-W2,WD];exact Z0 _ (by omega)) ⟨by rw [hlen];exact k1.1,k1.2⟩ (fun x hx=>by
    rcases Xs.1 hx with hx | hx
    .exact hr1 x hx
    .exact hr2 x hx) (by
    show sub w.heap.size=none;cases hx:sub w.heap.size with
    |none=>rfl
    |some p=>
     obtain ⟨g',q1,q2,q3⟩:=hsub w.heap.size (by rw [hx];rfl);have:=(h.wr g' _ q2 (.inr q3)).2;omega) (fun b hb=>by
    obtain ⟨g',q1,q2,q3⟩:=hsub b hb;exact ⟨⟨g',q1,q2,.inr q3⟩,abn g' q1 b q3⟩) (.inr ⟨YY _,by simp⟩) (fun b hb _=>vg w _ b hb) (by simp) rfl rfl rfl
   (fun g' i1 hg' e1 hi=>by obtain ⟨_,_,a0,i0,l0,hq,hi0⟩:=hbS g' hg';rw [hq] at e1;cases e1;exact hi0 hi) (fun g' hg' _=>by obtain ⟨_,_,a0,i0,l0,hq,_⟩:=hbS g' hg';exact ⟨i0,by rw [hq];rfl⟩)
   (fun n x hx j y hy=>by
    rw [K4] at hx;split at hx
    .rename_i hn;obtain ⟨u,q1,g,q2,q3⟩:=hcell1 n x hx j y hy;have hlt:=(Q3.1 q1).1;refine ⟨u,?_,ale G rfl g q2 n j y u (hback.aa7 (fun _ _=>rfl) (fun g hg=>by cases hg) q3)⟩;rw [WD,JP (by simp;omega),JP (by simpa using hlt)];simpa using q1
    .rename_i hn;rw [hol] at hx hn;obtain ⟨u,hu,hur⟩:=hcell2 _ x (by have:=(Q3.1 hx).1;omega) hx j y hy;have NK:=(Q3.1 hu).1;have hnm:n*ie.size=m*ie.size+(n-m)*ie.size:=by rw [<-W2];congr 1;omega
     refine ⟨u,?_,?_⟩
     .rw [WD,JP (by simp;omega),Array.getElem?_append_right (by simp;omega)];simp only [Kk,K0];have e1:n*ie.size+j-c1.length=(n-m)*ie.size+j:=by omega
      rw [e1];exact hu
     .have:=ald G rfl (n-m) j y u (hback.aa7 (fun _ _=>rfl) (fun g hg=>by cases hg) hur);have e2:n-m+m=n:=by omega
      rw [e2] at this;exact this)
  exact ⟨_,_,_,k3,hga.1,hga.2,by rw [hlen];simp [fD,G]⟩
theorem mY {o o':Nat->O} {g:Nat} (h:Agree o o' g):jH o g=jH o' g:=by
 obtain ⟨h1,h2⟩:=h;unfold jH;rw [<-h1];cases ho:o g with
 |aN a i sz aj l hole=>
  rcases hole with _ | ⟨n,c,d⟩
  .rfl
  .simp only;rw [h2 d (by rw [ho];simp [O.hn,dJ])]
 |_=>rfl
theorem xK (htt:iw Pg tt) (h:Rel E st gh val w) {o:Oper} {ρ:Operand->Value} {s x:Operand} {ts:Array TypeId} (ho:o.op=.call { callee:=.builtin .append,args:=#[s,x],argTypes:=ts }) {d g2:Nat} (hd:st.used d=false)
  {sT xT e e':TypeId} {ie:TI} (h0:ts[0]?=some sT) (h1:ts[1]?=some xT) (hs:Pg.underlying sT=some (.slice e)) (hxt:Pg.underlying xT=some (.slice e')) (he:pJ Pg e ie) (hb0:ie.bytes≠0)
  {a i a2 i2:Bool} {sz:Nat} {aj:List (Nat×Nat)} {old new:List (List P)} {base:Option Nat} {bad:Option Addr} {vK m:Nat} (hsz:sz=ie.size)
  {st1:St} {lF:Nat->Gh} (ks:List Nat) (h1':Rel E st1 lF val w) (l1:Lets E st st1 gh lF w w) (e1 :∀x,(lF x).ad=(gh x).ad/\(lF x).cap=(gh x).cap) (s1:st1.s=st.s) (u1 :∀x,st1.used x=st.used x)
  (hb:(base=none/\bad=none/\vK=0/\m=0/\old=[]/\ks=[])\/∃g l,base=some g/\st1.o g=.aN a i sz aj l none/\bad=(gh g).ad/\(m<=vK/\vK<=(gh g).cap)/\m<=l.length/\old=l.take m/\ks=g::(st.o g).hn)
  (ok1 :∀x∈ks,(∀g,base=some g->x≠g)->st1.o x=.none) (oo1 :∀x,x∉ks->st1.o x=st.o x) (hnd:(ks++g2::(st.o g2).hn).Nodup)
  (h2:jH st.o g2=some (a2,i2,sz,aj,new)) (hvs:ρ s=.slice bad m vK) (hvx:ρ x=.slice (gh g2).ad new.length (gh g2).cap) (hbb:(m+new.length)*ie.bytes<=140737488355328) :
  ∃v w' bK,Does Pg (execOp ρ o) w v w'/\Rel E (st.aI ((d,.aN (a||a2) (i||i2) sz aj (old++new) none)::kills (ks++g2::(st.o g2).hn)) [d]) bK val w'/\
   Lets E st (st.aI ((d,.aN (a||a2) (i||i2) sz aj (old++new) none)::kills (ks++g2::(st.o g2).hn)) [d]) gh bK w w'/\
   dH E (st.aI ((d,.aN (a||a2) (i||i2) sz aj (old++new) none)::kills (ks++g2::(st.o g2).hn)) [d]) bK w' (.v (.one (.own d))) v/\
   ∀g∈(S.v (.one (.own d))).names,(st.aI ((d,.aN (a||a2) (i||i2) sz aj (old++new) none)::kills (ks++g2::(st.o g2).hn)) [d]).used g=true:=by
 have hdis :∀x∈ks,x∉g2::(st.o g2).hn:=fun x hx hx'=>by
  have:=(List.nodup_append.1 hnd).2.2 x hx x hx';exact this rfl
 have hag:Agree st.o st1.o g2:=⟨(oo1 g2 fun hm=>hdis g2 hm (by simp)).symm,fun d' hd'=>(oo1 d' fun hm=>hdis d' hm (by simp [hd'])).symm⟩;have h2':jH st1.o g2=some (a2,i2,sz,aj,new):=by rw [<-mY hag];exact h2
 obtain ⟨st2,xG,r2,l2,e2,s2,u2,o2,ok2,oo2⟩:=h1'.home h2';rw [<-hag.1] at ok2 oo2;have hb2:(base=none/\bad=none/\vK=0/\m=0/\old=[])\/∃g l,base=some g/\st2.o g=.aN a i sz aj l none/\bad=(xG g).ad/\(m<=vK/\vK<=(xG g).cap)/\m<=l.length/\old=l.take m/\g≠g2:=by
  rcases hb with ⟨q1,q2,q3,q4,q5,_⟩ | ⟨g,l,q1,q2,q3,q4,q5,q6,q7⟩
  .exact .inl ⟨q1,q2,q3,q4,q5⟩
  .have hgk:=hdis g (by rw [q7];simp);have hg2:g≠g2:=fun e=>hgk (by rw [e];simp);refine .inr ⟨g,l,q1,?_,by rw [(e2 g).1,(e1 g).1];exact q3,by rw [(e2 g).2,(e1 g).2];exact q4,q5,q6,hg2⟩;rw [oo2 g hg2 fun hm=>hgk (by simp [hm])];exact q2
 obtain ⟨v,w',bK,k1,k2,k3,k4⟩:=Qx (d:=d) (ty:=o.type) r2 (by rw [u2,u1];exact hd) hb2 o2 h0 h1 hs hxt he hsz hbb hb0;have hst:st2.aI ((d,.aN (a||a2) (i||i2) sz aj (old++new) none)::kills (base.toList++[g2])) [d]=st.aI ((d,.aN (a||a2) (i||i2) sz aj (old++new) none)::kills (ks++g2::(st.o g2).hn)) [d]:=by
  refine St.DK (s2.trans s1) (fun z => ?_) (fun z=>by simp [St.aI,u2,u1]);simp only [St.aI,lookup_cons,ig];by_cases z1:z=d
  .simp only [if_pos z1]
  .simp only [if_neg z1];by_cases z2:z∈base.toList++[g2]
   .have:z∈ks++g2::(st.o g2).hn:=by
     rcases Xs.1 z2 with z2 | z2
     .rcases hb with ⟨q1,_⟩ | ⟨g,l,q1,_,_,_,_,_,q7⟩
      .rw [q1] at z2;simp at z2
      .rw [q1] at z2;simp at z2;subst z2;rw [q7];simp
     .simp at z2;subst z2;simp
    simp only [if_pos z2,if_pos this]
   .by_cases z3:z∈ks++g2::(st.o g2).hn
    .simp only [if_neg z2,if_pos z3];have hzg:z≠g2:=fun e=>z2 (by simp [e]);by_cases z4:z∈(st.o g2).hn
     .exact (ok2 z z4).1
     .rw [oo2 z hzg z4];rcases Xs.1 z3 with z5 | z5
      .exact ok1 z z5 fun g hg e=>z2 (by rw [hg,e];simp)
      .rcases QP.1 z5 with z5 | z5
       .exact absurd z5 hzg
       .exact absurd z5 z4
    .simp only [if_neg z2,if_neg z3];simp only [Xs,QP,not_or] at z3;rw [oo2 z z3.2.1 z3.2.2,oo1 z z3.1]
 rw [hst] at k2 k3;have hod:(st.aI ((d,.aN (a||a2) (i||i2) sz aj (old++new) none)::kills (ks++g2::(st.o g2).hn)) [d]).o d=.aN (a||a2) (i||i2) sz aj (old++new) none:=by simp [St.aI,lookup_cons]
 refine ⟨v,w',bK,.inl (jq ho ?_),k2,Lets.trans (Lets.trans l1 l2 (fun g hg=>by rw [u1];exact hg)) k3 (fun g hg=>by rw [u2,u1];exact hg),dH.Hw (.own d v (by rw [k4];rfl) fun sz1 len1 ho1 => ?_),fun g hg => ?_⟩
 .rw [(e2 g2).1,(e1 g2).1,(e2 g2).2,(e1 g2).2] at k1;simp [builtin,hvs,hvx,k1]
 .rw [hod] at ho1;simp only [O.dim,Q0,Q1] at ho1;obtain ⟨_,rfl⟩:=ho1;exact k4
 .rw [dP] at hg;simp only [W.names,Qt] at hg;subst hg;simp [St.aI]
theorem KH {dc:List (Nat×Nat)} (htt:iw Pg tt) (args:Array Operand) (ts:Array TypeId):qG Pg tt dc (.call { callee:=.builtin .append,args:=args,argTypes:=ts }):=by
 intro E st gh val w ρ F o d r ho h hF hFn hk hp hd;simp only [dU] at hk;split at hk
 .rename_i s x sT xT tl ha hts;obtain rfl:=vC ha;have h0:ts[0]?=some sT:=by rw [<-Wo,hts];rfl
  have h1:ts[1]?=some xT:=by rw [<-Wo,hts];rfl
  split at hk
  .rename_i e _ _ _ e' _ _ _ s' g2 hsT hxT hs hx;have rs:=hF s;rw [hs] at rs;have rx:=hF x;rw [hx] at rx;have huS:=(htt _ _ hsT).kind;have huX:=(htt _ _ hxT).kind;simp only [oq] at huS huX;split at hk
   .rename_i ie ask a i old ks src a2 i2 sz aj new he hbD hh2;split at hk
    .rename_i hc;obtain ⟨hb0,hsz,hsrc,hnd⟩:=hc;have hnd:=rO hnd;simp only [Q0] at hk;subst hk;obtain ⟨hask,hbb⟩:=hp;have Gx:st.used d=false:=hd d (by simp);have hvx:ρ x=.slice (gh g2).ad new.length (gh g2).cap:=by cases rx.dG with | own _ _ _ hb=>exact hb _ _ (oz hh2)
     have refl:Lets E st st gh gh w w:=⟨fun a i b hb=>⟨hb,rfl⟩,fun g _=>.inr ⟨⟨rfl,rfl⟩,O.fC _⟩⟩;cases s' with
     |dD=>
      simp only [baseD,Q0,Q1] at hbD;obtain ⟨rfl,rfl,rfl,rfl,rfl,rfl⟩:=hbD;have hv:ρ s=.slice none 0 0:=by generalize hz:ρ s=z at rs;cases rs.dG;rfl
      exact xK htt h ho Gx h0 h1 huS huX (htt _ _ he) hb0 (base:=none) (bad:=none) (vK:=0) (m:=0) hsz [] h refl (fun _=>⟨rfl,rfl⟩) rfl (fun _=>rfl) (.inl ⟨rfl,rfl,rfl,rfl,rfl,rfl⟩) (fun x hx=>by cases hx) (fun _ _=>rfl) hnd hh2 hv hvx (by simpa using hbb)
     |own g=>
      simp only [baseD] at hbD;split at hbD
      .rename_i a0 i0 zZ kP l0 hh;simp only [Q0,Q1] at hbD;obtain ⟨rfl,rfl,rfl,rfl,rfl,rfl⟩:=hbD;have hsc:zZ=sz/\kP=aj:=by rcases hsrc with e | e;cases e;simpa using e
       obtain ⟨rfl,rfl⟩:=hsc;obtain ⟨st1,lF,r1,l1,e1,s1,u1,o1,ok1,oo1⟩:=h.home hh;have hv:ρ s=.slice (gh g).ad l0.length (gh g).cap:=by cases rs.dG with | own _ _ _ hb=>exact hb _ _ (oz hh)
       exact xK htt h ho Gx h0 h1 huS huX (htt _ _ he) hb0 (base:=some g) hsz (g::(st.o g).hn) r1 l1 e1 s1 u1 (.inr ⟨g,l0,rfl,o1,rfl,⟨(vF (h.bf g) (oz hh)).1,YY _⟩,YY _,by rw [UX],rfl⟩)
        (fun x hx hxg=>by
         rcases QP.1 hx with e | e
         .exact absurd e (hxg g rfl)
         .exact (ok1 x e).1)
        (fun x hx=>by simp only [QP,not_or] at hx;exact oo1 x hx.1 hx.2) hnd hh2 hv hvx hbb
      .cases hbD
     |vw g lo hi=>
      simp only [baseD] at hbD;split at hbD
      .rename_i a0 i0 zZ kP l0 hh;simp only [Q0,Q1] at hbD;obtain ⟨rfl,rfl,rfl,rfl,rfl,rfl⟩:=hbD;have hsc:zZ=sz/\kP=aj:=by rcases hsrc with e | e;cases e;simpa using e
       obtain ⟨rfl,rfl⟩:=hsc;obtain ⟨st1,lF,r1,l1,e1,s1,u1,o1,ok1,oo1⟩:=h.home hh;obtain ⟨n,m,vc,h4,rfl,h5,h6,hvc,hv⟩:=(by cases rs.dG with | vw _ _ _ _ _ hb=>exact hb _ _ (oz hh) :∃n m c:Nat,lo=.int .i64 n/\hi=.int .i64 m/\n<=m/\m<=l0.length/\(m-n<=c/\n+c<=(gh g).cap)/\
        ρ s=.slice (if (gh g).cap=n then (gh g).ad else (gh g).ad.map (·.add (n*zZ))) (m-n) c)
       have hn0:n=0:=by rw [hask] at h4;simp [lW] at h4;omega
       subst hn0;have hadd:(gh g).ad.map (·.add (0*zZ))=(gh g).ad:=by
        cases (gh g).ad with
        |none=>rfl
        |some a=>simp [Addr.add]
       rw [hadd] at hv;simp only [ite_self,Nat.sub_zero] at hv;have em:(P.int .i64 (m:Int)).nat=m:=by simp [P.nat,P.num]
       rw [em] at hbb ⊢;have apc:(m+new.length)*ie.bytes<=140737488355328:=by rw [Uv,vm h6] at hbb;exact hbb
       exact xK htt h ho Gx h0 h1 huS huX (htt _ _ he) hb0 (base:=some g) hsz (g::(st.o g).hn) r1 l1 e1 s1 u1 (.inr ⟨g,l0,rfl,o1,rfl,by omega,h6,rfl,rfl⟩)
        (fun x hx hxg=>by
         rcases QP.1 hx with e | e
         .exact absurd e (hxg g rfl)
         .exact (ok1 x e).1)
        (fun x hx=>by simp only [QP,not_or] at hx;exact oo1 x hx.1 hx.2) hnd hh2 hv hvx apc
      .cases hbD
     |_=>simp [baseD] at hbD
    .cases hk
   .cases hk
  .cases hk
 .cases hk
theorem NZ {dc:List (Nat×Nat)} (htt:iw Pg tt) (t:TypeId) (x:Operand) (lo hi mx:Option Operand):qG Pg tt dc (.slice t x lo hi mx):=by
 intro E st gh val w ρ F o d r ho h hF hFn hk hp hd;cases lo with
 |some _=>simp [dU] at hk
 |none=>
 cases mx with
 |some _=>simp [dU] at hk
 |none=>
 simp only [dU] at hk;split at hk
 .rename_i e _ _ _ g ht hx;have rx:=hF x;rw [hx] at rx;have hu:=(htt _ _ ht).kind;simp only [oq] at hu;split at hk
  .rename_i ie a i sz l he hog;split at hk
   .rename_i hsz;split at hk
    .rename_i hi' hhi;simp only [Q0] at hk;subst hk;obtain ⟨k,hk,hkl⟩:=hp;have hd:=hd d (by simp);have Qv:(st.o g).dim=some (sz,l.length):=by rw [hog];rfl
     have hv:=(by cases rx.dG with | own _ _ _ hb=>exact hb _ _ Qv:ρ x=.slice (gh g).ad l.length (gh g).cap);have hob:=h.bf g;rw [hog] at hob;have hcap:l.length<=(gh g).cap:=NH hob;have zW:(hi.map ρ=none/\k=l.length)\/∃kd,hi.map ρ=some (.int kd k):=(iP hF hhi hk).imp (fun ⟨a,b⟩=>⟨a,by simp [lW] at b;omega⟩) id;have hrun:(execOp ρ o).run Pg w=.ok (.value (.slice (gh g).ad k (gh g).cap)) w:=by
      have hs:=tX (Pg:=Pg) (w:=w) (len:=l.length) (lo:=(none:Option Value)) (hi:=hi.map ρ) (m:=0) (k:=k) (cap:=(gh g).cap) (.inl ⟨rfl,rfl⟩) zW (Nat.zero_le _) (by omega);have key:(execOp ρ o).run Pg w=.ok (.value (.slice (if (gh g).cap=0 then (gh g).ad else (gh g).ad.map (·.add (0*ie.size))) (k-0) ((gh g).cap-0))) w:=by
       unfold execOp;rw [ho];refine gK ?_;simp only [Kg];simp [Instr.sliceAt,dZ hu,Instr.slice,hv,hs,dW (htt _ _ he)]
      rw [key];congr 3;rcases hob with ⟨q1,q2,_⟩ | ⟨ad,c,e',q1,q2,_⟩
      .rw [q1,q2];rfl
      .rw [q1];obtain ⟨b0,o0,sp0⟩:=ad;simp only at q2;subst q2;split
       .rfl
       .rw [Z3,Addr.iy];simp
     have hgo:(st.o g).bP=true:=by rw [hog];rfl
     have hgu:st.used g=true:=h.ul g (O.qB hgo);have hgd:g≠d:=by intro e;subst e;rw [hd] at hgu;cases hgu
     have e0:(P.list (P.sl sz (l.take hi'.nat)))=l.take k:=by rw [hk];simp [P.list,P.nat,P.num]
     have apd :∀st',st'=st.aI [(d,.arr false a i sz (l.take k)),(g,.none)] [d]->
       ∃bK,Rel E st' bK val w/\Lets E st st' gh bK w w/\dH E st' bK w (.v (.one (.own d))) (.slice (gh g).ad k (gh g).cap):=by
      intro st' hst;have hod:st'.o d=.arr false a i sz (l.take k):=by rw [hst];simp [St.aI,List.lookup]
      have hm:=h.merge (fun g'=>g'=g) d (.arr false a i sz (l.take k)) (gh g) st' w (by rw [hst];rfl) hod (fun g' e1 e2=>by
        rw [hst,e1];have:(g==d)=false:=by simpa using hgd
        simp [St.aI,List.lookup,this]) (fun g' e1 e2=>by
        rw [hst];have q1:(g'==d)=false:=by simpa using e2
        have q2:(g'==g)=false:=by simpa using e1
        simp [St.aI,List.lookup,q1,q2]) (fun g' hg'=>by rw [hst];simp [St.aI,hg']) (by rw [hst];simp [St.aI]) (fun hu=>by rw [hd] at hu;cases hu)
       (fun b hb=>.inl ⟨g,.inl rfl,hgo,hb⟩) (fun b _ _=>rfl) (YY _) rfl rfl rfl
       (fun i1 b e1 hb hwr=>by cases e1;exact h.wi g i b (by rw [hog];rfl) hb hwr) (fun _ _=>h.ns g hgo (by rw [hog];rfl)) (fun hl => ?_) (fun g' hg'=>by simp [O.names] at hg')
      .refine ⟨_,hm.1,hm.2,dH.Hw (.own d _ rfl fun sz' len' hd' => ?_)⟩;rw [hod] at hd';obtain ⟨rfl,rfl⟩:=O.jZ hd';have e1:fD gh d (gh g) d=gh g:=by simp [fD]
       rw [e1,Uv,vm hkl]
      .show iG E st' _ w a i sz (l.take k) (gh g);have hold:iG E st gh w a i sz l (gh g):=hob;rcases hold with ⟨q1,q2,q3⟩ | ⟨ad,c,e',q1,q2,q3,q4,q5,q6,q7⟩
       .exact .inl ⟨q1,q2,by rw [q3];simp⟩
       .refine .inr ⟨ad,c,e',q1,q2,q3,q4,⟨by rw [Uv];omega,q5.2⟩,fun x hx=>q6 x (W7 hx),fun n x hx j y hy => ?_⟩;rw [Z2] at hx;split at hx
        .obtain ⟨v,hv,hr⟩:=q7 n x hx j y hy;exact ⟨v,hv,hl.kN hr⟩
        .cases hx
     show∃v w' bK,Does Pg (execOp ρ o) w v w'/\Rel E (st.aI [(d,.arr false a i sz (P.list (P.sl sz (l.take hi'.nat)))),(g,.none)] [d]) bK val w'/\_;rw [e0];obtain ⟨bK,m1,m2,m3⟩:=apd _ rfl;refine ⟨_,w,bK,.inl hrun,m1,?_,?_,fun g' hg' => ?_⟩
     .show Lets E st (st.aI [(d,.arr false a i sz (P.list (P.sl sz (l.take hi'.nat)))),(g,.none)] [d]) gh bK w w;rw [e0];exact m2
     .show dH E (st.aI [(d,.arr false a i sz (P.list (P.sl sz (l.take hi'.nat)))),(g,.none)] [d]) bK w _ _;rw [e0];exact m3
     .have hg':g'∈(S.v (.one (.own d))).names:=hg';have:g'=d:=by simpa [S.names,V.names,W.names] using hg'
      subst this;simp [St.aI]
    .cases hk
   .cases hk
  .cases hk
 .cases hk
theorem KI {dc:List (Nat×Nat)} (htt:iw Pg tt) (op:Op):qG Pg tt dc op:=by
 cases op with
 |load t x=>exact Qw htt t x
 |store t x y=>exact NY htt t x y
 |buildSlice t n ps=>exact BK htt t n ps
 |makeSlice t n c=>exact DL htt t n c
 |slice t x lo hi mx=>exact NZ htt t x lo hi mx
 |call c=>
  obtain ⟨callee,args,ts⟩:=c;cases callee with
  |builtin b=>
   cases b with
   |append=>exact KH htt args ts
   |_=>intro E st gh val w ρ F o d r ho h hF hFn hk;simp [dU] at hk
  |_=>intro E st gh val w ρ F o d r ho h hF hFn hk;simp [dU] at hk
 |_=>intro E st gh val w ρ F o d r ho h hF hFn hk;simp [dU] at hk
end
end Go.Fw

namespace Go.Fw
variable [eF]
def P.flat:P->Bool
 |.sl _ _=>false
 |.seq _=>false
 |_=>true
theorem dh.flat {w:World} {ok ok':Nat->Prop} {x:P} {v:Value} (hx:x.flat=true) (r:dh w ok x v):dh w ok' x v:=by
 cases r with
 |int k n=>exact .int k n
 |bool b=>exact .bool b
 |str s=>exact .str s
 |opq v h=>exact .opq v h
 |_=>cases hx
inductive Ww (C:Bool->Bool->Bool->Bool->Prop) (m:Nat->Option Nat) (nil:Nat->Prop):W->W->Prop where
 |no (x:W):Ww C m nil x .no
 |p {a i a' i':Bool} (x:P) (hc:C a i a' i'):Ww C m nil (.p a i x) (.p a' i' x)
 |flat {a i a' i':Bool} (x:P) (hx:x.flat=true):Ww C m nil (.p a i x) (.p a' i' x)
 |dD:Ww C m nil .dD .dD
 |ai4 (a i:Bool) (sz:Nat):Ww C m nil .dD (.p a i (.sl sz []))
 |alj {g':Nat} (h:m g'=none) (hn:nil g'):Ww C m nil .dD (.own g')
 |own {g g':Nat} (h:m g'=some g):Ww C m nil (.own g) (.own g')
 |vw {g g':Nat} (lo hi:P) (h:m g'=some g):Ww C m nil (.vw g lo hi) (.vw g' lo hi)
 |box {g g' off:Nat} (h:m g'=some g):Ww C m nil (.box g off) (.box g' off)
 |ep {g g':Nat} (n:P) (off:Nat) (h:m g'=some g):Ww C m nil (.ep g n off) (.ep g' n off)
 |nC {g g':Nat} (h:m g'=some g):Ww C m nil (.nC g) (.nC g')
 |sp {a i a' i':Bool} (row:List P) (off:Nat) (hc:C a i a' i'):Ww C m nil (.sp a i row off) (.sp a' i' row off)
 |gd (b:Bool) {x y:W} (h:Ww C m nil x y):Ww C m nil (.gd b x) (.gd b y)
 |clo (f:FuncId) (xs ys:List W) (hl:xs.length=ys.length) (h :∀(j:Nat) x y,xs[j]?=some x->ys[j]?=some y->Ww C m nil x y):Ww C m nil (.clo f xs) (.clo f ys)
inductive Vw (C:Bool->Bool->Bool->Bool->Prop) (m:Nat->Option Nat) (nil:Nat->Prop):V->V->Prop where
 |one {x y:W} (h:Ww C m nil x y):Vw C m nil (.one x) (.one y)
 |agg (xs ys:List W) (hl:xs.length=ys.length) (h :∀(j:Nat) x y,xs[j]?=some x->ys[j]?=some y->Ww C m nil x y):Vw C m nil (.agg xs) (.agg ys)
inductive Sw (C:Bool->Bool->Bool->Bool->Prop) (m:Nat->Option Nat) (nil:Nat->Prop):S->S->Prop where
 |no (x:S):Sw C m nil x .no
 |v {x y:V} (h:Vw C m nil x y):Sw C m nil (.v x) (.v y)
 |jK (xs ys:List V) (hl:xs.length=ys.length) (h :∀(j:Nat) x y,xs[j]?=some x->ys[j]?=some y->Vw C m nil x y):Sw C m nil (.jK xs) (.jK ys)
inductive Ow (C:Bool->Bool->Bool->Bool->Prop) (m:Nat->Option Nat) (nil:Nat->Prop):O->O->Prop where
 |none (x:O):Ow C m nil x .none
 |box (xs ys:List W) (hl:xs.length=ys.length) (h :∀(j:Nat) x y,xs[j]?=some x->ys[j]?=some y->Ww C m nil x y):Ow C m nil (.box xs) (.box ys)
 |arr (fz:Bool) {a i a' i':Bool} (sz:Nat) (l:List (List P)) (hc:C a i a' i'):Ow C m nil (.arr fz a i sz l) (.arr fz a' i' sz l)
 |aN {a i a' i':Bool} (sz:Nat) (aj:List (Nat×Nat)) (l:List (List P)) (hc:C a i a' i'):Ow C m nil (.aN a i sz aj l Option.none) (.aN a' i' sz aj l Option.none)
 |it (s n:P):Ow C m nil (.it s n) (.it s n)
def O.nilA (o:O):Prop:=(∃a i sz,o=.arr false a i sz [])\/∃a i sz aj,o=.aN a i sz aj [] Option.none
theorem Ow.dim {C:Bool->Bool->Bool->Bool->Prop} {m:Nat->Option Nat} {nil:Nat->Prop} {x y:O} (h:Ow C m nil x y) {d:Nat×Nat} (hd:y.dim=some d):x.dim=some d:=by
 cases h with
 |none=>cases hd
 |box=>cases hd
 |arr=>exact hd
 |aN=>exact hd
 |it=>cases hd
theorem Ow.bP {C:Bool->Bool->Bool->Bool->Prop} {m:Nat->Option Nat} {nil:Nat->Prop} {x y:O} (h:Ow C m nil x y) (hy:y.bP=true):x.bP=true/\x.n_=y.n_:=by
 cases h with
 |none=>cases hy
 |box=>exact ⟨rfl,rfl⟩
 |arr=>exact ⟨hy,rfl⟩
 |aN=>exact ⟨rfl,rfl⟩
 |it=>exact ⟨rfl,rfl⟩
theorem Ow.inner {C:Bool->Bool->Bool->Bool->Prop} {m:Nat->Option Nat} {nil:Nat->Prop} {x y:O} (h:Ow C m nil x y) {i:Bool} (hy:y.inner=some i) :∃a' a i',C a' i' a i/\x.inner=some i':=by
 cases h with
 |none=>cases hy
 |box=>cases hy
 |arr fz sz l hc=>
  cases fz with
  |false=>cases hy;exact ⟨_,_,_,hc,rfl⟩
  |true=>cases hy
 |aN sz aj l hc=>cases hy;exact ⟨_,_,_,hc,rfl⟩
 |it=>cases hy
structure Cast (C:Bool->Bool->Bool->Bool->Prop) (m:Nat->Option Nat) (nil:Nat->Prop) (E E':Env) (st st':St) (gh bK:Nat->Gh) (w:World):Prop where
 ok :∀a i a' i' b,C a i a' i'->E.ok st gh w a i b->E'.ok st' bK w a' i' b
 arr :∀g g',m g'=some g->∀sz len,(st'.o g').dim=some (sz,len)->((bK g').ad=(gh g).ad/\(bK g').cap=(gh g).cap)/\(st.o g).dim=some (sz,len)
 box :∀g g',m g'=some g->∀ws,st'.o g'=.box ws->(bK g').ad=(gh g).ad/\∃ws',st.o g=.box ws'
 it :∀g g',m g'=some g->∀s n,st'.o g'=.it s n->(bK g').ad=(gh g).ad/\∃s' n',st.o g=.it s' n'
 nil :∀g',nil g'->m g'=none->∀sz len,(st'.o g').dim=some (sz,len)->len=0/\(bK g').ad=none/\(bK g').cap=0
section
variable {C:Bool->Bool->Bool->Bool->Prop} {E E':Env} {st st':St} {gh bK:Nat->Gh} {w:World} {val:Nat->Value} {m:Nat->Option Nat} {nil:Nat->Prop}
theorem Cast.kN (r:Cast C m nil E E' st st' gh bK w) {a i a' i':Bool} (hc:C a i a' i') {x:P} {v:Value} (h:dh w (E.ok st gh w a i) x v):dh w (E'.ok st' bK w a' i') x v:=
 h.mono fun b hb=>⟨r.ok _ _ _ _ b hc hb,rfl⟩
theorem Cast.zQ (r:Cast C m nil E E' st st' gh bK w) {x y:W} (hxy:Ww C m nil x y) {v:Value} (h:fA E st gh w x v):fA E' st' bK w y v:=by
 induction hxy generalizing v with
 |no x=>exact .no v
 |p x hc=>cases h with | p _ _ _ _ h=>exact .p _ _ _ _ (r.kN hc h)
 |flat x hx=>cases h with | p _ _ _ _ h=>exact .p _ _ _ _ (h.flat hx)
 |dD=>cases h;exact .dD
 |ai4 a i sz=>cases h;exact .p _ _ _ _ (.nil _ _ _)
 |alj hm hn=>
  cases h;refine .own _ _ rfl fun sz len ho => ?_;obtain ⟨h1,h2,h3⟩:=r.nil _ hn hm _ _ ho;rw [h1,h2,h3]
 |own hm=>
  cases h with | own _ _ hv hx=>
  refine .own _ _ hv fun sz len ho => ?_;obtain ⟨hg,e⟩:=r.arr _ _ hm _ _ ho;rw [hg.1,hg.2];exact hx _ _ e
 |vw lo hi hm=>
  cases h with | vw _ _ _ _ hv hx=>
  refine .vw _ _ _ _ hv fun sz len ho => ?_;obtain ⟨hg,e⟩:=r.arr _ _ hm _ _ ho;rw [hg.1,hg.2];exact hx _ _ e
 |box hm=>
  cases h with | box _ _ _ hv hx=>
  refine .box _ _ _ hv fun ws ho => ?_;obtain ⟨hg,ws',e⟩:=r.box _ _ hm _ ho;rw [hg];exact hx _ e
 |ep n off hm=>
  cases h with | ep _ _ _ _ hv hx=>
  refine .ep _ _ _ _ hv fun sz len ho => ?_;obtain ⟨hg,e⟩:=r.arr _ _ hm _ _ ho;rw [hg.1];exact hx _ _ e
 |nC hm=>
  cases h with | nC _ _ hv hx=>
  refine .nC _ _ hv fun s n ho => ?_;obtain ⟨hg,s',n',e⟩:=r.it _ _ hm _ _ ho;rw [hg];exact hx _ _ e
 |sp row off hc=>
  cases h with | sp _ _ _ _ b o hb hr=>exact .sp _ _ _ _ b o (fun h0=>r.ok _ _ _ _ b hc (hb h0)) fun j y hj=>let ⟨u,hu,Qr⟩:=hr j y hj;⟨u,hu,r.kN hc Qr⟩
 |gd b hxy ih=>cases h with | gd _ _ _ h=>exact .gd _ _ _ fun hb=>ih (h hb)
 |clo f xs ys hl hxy ih=>
  cases h with | clo _ _ vs hl' h=>
  exact .clo f ys vs (by omega) fun j y v hy hv=>by
   have hlt:j<xs.length:=by have:=(Q3.1 hy).1;omega
   exact ih j _ y (Q2 hlt) hy (h j _ v (Q2 hlt) hv)
theorem Cast.YT (r:Cast C m nil E E' st st' gh bK w) {x y:V} (hxy:Vw C m nil x y) {v:Value} (h:rD E st gh w x v):rD E' st' bK w y v:=by
 cases hxy with
 |one hxy=>cases h with | one _ _ h=>exact .one _ _ (r.zQ hxy h)
 |agg xs ys hl hxy=>
  cases h with | agg _ cs hl' hv h=>
  exact .agg ys cs (by omega) hv fun j y v hy hv=>by
   have hlt:j<xs.length:=by have:=(Q3.1 hy).1;omega
   exact r.zQ (hxy j _ y (Q2 hlt) hy) (h j _ v (Q2 hlt) hv)
theorem Cast.ae5 (r:Cast C m nil E E' st st' gh bK w) {x y:S} (hxy:Sw C m nil x y) {v:Value} (h:dH E st gh w x v):dH E' st' bK w y v:=by
 cases hxy with
 |no x=>exact .no v
 |v hxy=>cases h with | v _ _ h=>exact .v _ _ (r.YT hxy h)
 |jK xs ys hl hxy=>
  cases h with | jK _ vs hl' h=>
  exact .jK ys vs (by omega) fun j y v hy hv=>by
   have hlt:j<xs.length:=by have:=(Q3.1 hy).1;omega
   exact r.YT (hxy j _ y (Q2 hlt) hy) (h j _ v (Q2 hlt) hv)
theorem Cast.Bl (r:Cast C m nil E E' st st' gh bK w) {x y:O} (hxy:Ow C m nil x y) {G:Gh} (h:lT E st gh w x G):lT E' st' bK w y G:=by
 cases hxy with
 |none x=>trivial
 |box xs ys hl hxy=>
  obtain ⟨ad,c,e,h1,h2,h3,h4,h5⟩:=h;refine ⟨ad,c,e,h1,h2,h3,by omega,fun j y hy => ?_⟩;have hlt:j<xs.length:=by have:=(Q3.1 hy).1;omega
  obtain ⟨v,hv,ho,hr⟩:=h5 j _ (Q2 hlt);exact ⟨v,hv,ho,r.zQ (hxy j _ y (Q2 hlt) hy) hr⟩
 |arr fz sz l hc=>
  cases fz with
  |false=>
   rcases h with hO | ⟨ad,c,e,h1,h2,h3,h4,h5,h6,h7⟩
   .exact .inl hO
   .exact .inr ⟨ad,c,e,h1,h2,h3,h4,h5,h6,fun n x hx j y hy=>let ⟨v,hv,hr⟩:=h7 n x hx j y hy;⟨v,hv,r.kN hc hr⟩⟩
  |true=>exact r.kN hc h
 |aN sz aj l hc=>
  rcases h with hO | ⟨ad,c,e,h1,h2,h3,h4,h5,h6,h7,h8⟩
  .exact .inl hO
  .refine .inr ⟨ad,c,e,h1,h2,h3,h4,h5,h6,h7,fun n x hx j y hy => ?_⟩;obtain ⟨v,hv,hr⟩:=h8 n x hx j y hy;refine ⟨v,hv,?_⟩;unfold iK at *;cases hcl:aj.lookup j with
   |none=>rw [hcl] at hr;exact r.kN hc hr
   |some sz'=>
    rw [hcl] at hr;simp only [gY] at *;obtain ⟨l',ao,k,k1,k2,k3,k4⟩:=hr;refine ⟨l',ao,k,k1,k2,?_,k4⟩;rcases k3 with k3 | ⟨ad,c,e,h1,h2,h3,h4,h5,h6,h7⟩
    .exact .inl k3
    .exact .inr ⟨ad,c,e,h1,h2,h3,h4,h5,h6,fun n x hx j y hy=>let ⟨v,hv,hr⟩:=h7 n x hx j y hy;⟨v,hv,r.kN hc hr⟩⟩
 |it s n=>exact h
end
def Cle (a i a' i':Bool):Prop:=(a=true->a'=true)/\(i=true->i'=true)
structure sO (C:Bool->Bool->Bool->Bool->Prop) (m:Nat->Option Nat) (st st':St):Prop where
 slots :∀t,Sw C m (fun g=>(st'.o g).nilA) (st.s t) (st'.s t)
 bf :∀g' g,m g'=some g->Ow C m (fun g=>(st'.o g).nilA) (st.o g) (st'.o g')
 aU :∀g',m g'=none->st'.o g'=.none\/(st'.o g').nilA
 inj :∀g1 g2 g,(st'.o g1).bP=true->(st'.o g2).bP=true->m g1=some g->m g2=some g->g1=g2
 us :∀t,∀g∈(st'.s t).names,st'.used g=true
 uo :∀g,∀g'∈(st'.o g).names,st'.used g'=true
 ul :∀g,st'.o g≠.none->st'.used g=true
section
variable {C:Bool->Bool->Bool->Bool->Prop} {E E':Env} {st st':St} {gh:Nat->Gh} {w:World} {val:Nat->Value} {m:Nat->Option Nat}
def jE (gh:Nat->Gh) (m:Nat->Option Nat):Nat->Gh:=fun g'=>match m g' with
 |some g=>gh g
 |none=>Gh.nil
theorem sO.bP (r:sO C m st st') {g':Nat} (h:(st'.o g').bP=true) {b:Nat} (had:(jE gh m g').has b) :∃g,m g'=some g/\(st.o g).bP=true/\(gh g).has b:=by
 unfold jE at had;cases hm:m g' with
 |none=>rw [hm] at had;exact (Gh.not_nil had).elim
 |some g=>
  rw [hm] at had;exact ⟨g,rfl,((r.bf g' g hm).bP h).1,had⟩
theorem sO.cast (r:sO C m st st') (hok :∀a i a' i' b,C a i a' i'->E.ok st gh w a i b->E'.ok st' (jE gh m) w a' i' b) :
  Cast C m (fun g=>(st'.o g).nilA) E E' st st' gh (jE gh m) w:=by
 refine ⟨hok,fun g g' hm sz len ho=>⟨by simp [jE,hm],(r.bf g' g hm).dim ho⟩,fun g g' hm ws ho=>⟨by simp [jE,hm],?_⟩,fun g g' hm s n ho=>⟨by simp [jE,hm],?_⟩,fun g' hn hm sz len ho=>⟨?_,by simp [jE,hm,Gh.nil],by simp [jE,hm,Gh.nil]⟩⟩
 .have:=r.bf g' g hm;rw [ho] at this;generalize st.o g=x at this;cases this;exact ⟨_,rfl⟩
 .have:=r.bf g' g hm;rw [ho] at this;generalize st.o g=x at this;cases this;exact ⟨_,_,rfl⟩
 .rcases hn with ⟨a',i',sz',hn⟩ | ⟨a',i',sz',aj,hn⟩
  .rw [hn] at ho;cases ho;rfl
  .rw [hn] at ho;cases ho;rfl
theorem sO.ok (r:sO Cle m st st') :∀a i a' i' b,Cle a i a' i'->E.ok st gh w a i b->E.ok st' (jE gh m) w a' i' b:=by
 intro a i a' i' b hc h;have:=Env.o8 hc.1 hc.2 h;refine ⟨this.1,this.2.1,fun g' ho had => ?_⟩;obtain ⟨g,_,h1,h2⟩:=r.bP ho had;exact h.2.2 g h1 h2
theorem sO.Bl (r:sO C m st st') (c:Cast C m (fun g=>(st'.o g).nilA) E E' st st' gh (jE gh m) w) (h :∀g,lT E st gh w (st.o g) (gh g)) (g':Nat):lT E' st' (jE gh m) w (st'.o g') (jE gh m g'):=by
 cases hm:m g' with
 |none=>
  rcases r.aU g' hm with e | ⟨a,i,sz,e⟩ | ⟨a,i,sz,aj,e⟩
  .rw [e];trivial
  .rw [e];exact .inl ⟨by simp [jE,hm,Gh.nil],by simp [jE,hm,Gh.nil],rfl⟩
  .rw [e];exact .inl ⟨by simp [jE,hm,Gh.nil],by simp [jE,hm,Gh.nil],rfl,fun b=>by simp [jE,hm,Gh.nil]⟩
 |some g=>
  have hg:jE gh m g'=gh g:=by simp [jE,hm]
  rw [hg];exact c.Bl (r.bf g' g hm) (h g)
theorem Rel.UF (h:Rel E st gh val w) (r:sO Cle m st st'):Rel E st' (jE gh m) val w:=by
 have c:=r.cast (E:=E) (E':=E) (gh:=gh) (w:=w) r.ok;refine ⟨fun t=>c.ae5 (r.slots t) (h.slots t),r.Bl c h.bf,fun g1 g2 b h1 h2 k1 k2 => ?_,fun g' b ho had => ?_,fun g' i b ho had hw => ?_,fun g' ho hd b => ?_,h.wb,h.frame,h.size,h.os,h.tape,h.output,r.us,r.uo,r.ul⟩
 .obtain ⟨q1,m1,o1,d1⟩:=r.bP h1 k1;obtain ⟨q2,m2,o2,d2⟩:=r.bP h2 k2;have:=h.inj q1 q2 b o1 o2 d1 d2;subst this;exact r.inj g1 g2 q1 h1 h2 m1 m2
 .obtain ⟨g,_,h1,h2⟩:=r.bP ho had;exact h.wr g b h1 h2
 .obtain ⟨g,hm,h1,h2⟩:=r.bP (gh:=gh) (g':=g') (O.kT ho) had;obtain ⟨a',a,i',hc,q⟩:=(r.bf g' g hm).inner ho;exact hc.2 (h.wi g i' b q h2 hw)
 .cases hm:m g' with
  |none=>simp [jE,hm,Gh.nil]
  |some g=>
   have hg:jE gh m g'=gh g:=by simp [jE,hm]
   rw [hg];obtain ⟨q1,q2⟩:=(r.bf g' g hm).bP ho;exact h.ns g q1 (by rw [q2];exact hd) b
end
end Go.Fw

namespace Go.Fw
variable [eF]
inductive WS where
 |p (a i:Bool)
 |dD
 |own (g:Nat)
 |box (g off:Nat)
 |fn (f:FuncId) (gs:List Nat)
 |nC (g:Nat)
 |no
 |vw (g:Nat)
 |ep (g off:Nat)
inductive SS where
 |one (x:WS)
 |agg (xs:List WS)
inductive OS where
 |box (ws:List WS)
 |arr (fz a i:Bool) (sz:Nat)
 |it
 |aN (a i:Bool) (sz:Nat) (aj:List (Nat×Nat))
structure Shape where
 slots:List (Nat×SS)
 bf:List (Nat×OS)
abbrev Ren:=List (Nat×Option Nat)
def imp (a b:Bool):Bool:=!a||b
def nodupB:List Nat->Bool
 | []=>true
 |x::xs=>!xs.contains x&&nodupB xs
def sQ (m:Ren):List Nat->List W->Bool
 | [],[]=>true
 |g'::gs,.box g off::cs=>decide (m.lookup g'=some (some g))&&(Nat.beq off 0&&sQ m gs cs)
 |_,_=>false
def gG:List Nat->List W
 | []=>[]
 |g::gs=>.box g 0::gG gs
def Kz (m:Ren):WS->W->Option (List P)
 |.p a i,.p a' i' x=>if ((imp a' a&&imp i' i)||x.flat)=true then some [x] else none
 |.p _ _,.dD=>some [.sl 0 []]
 |.dD,.dD=>some []
 |.own g',.own g=>if m.lookup g'=some (some g) then some [] else none
 |.own g',.dD=>if m.lookup g'=some none then some [] else none
 |.box g' off,.box g off'=>if m.lookup g'=some (some g)/\off=off' then some [] else none
 |.fn f gs,.clo f' caps=>if f=f'/\sQ m gs caps=true then some [] else none
 |.nC g',.nC g=>if m.lookup g'=some (some g) then some [] else none
 |.no,_=>some []
 |.vw g',.vw g lo hi=>if m.lookup g'=some (some g) then some [lo,hi] else none
 |.ep g' off,.ep g n off'=>if m.lookup g'=some (some g)/\off=off' then some [n] else none
 |_,_=>none
def KJ (m:Ren):List WS->List W->Option (List P)
 | [],[]=>some []
 |k::ks,x::xs=>match Kz m k x,KJ m ks xs with
  |some u,some v=>some (u++v)
  |_,_=>none
 |_,_=>none
def coS (m:Ren):SS->S->Option (List P)
 |.one k,.v (.one x)=>Kz m k x
 |.agg ks,.v (.agg xs)=>KJ m ks xs
 |_,_=>none
def coO (m:Ren):OS->O->Option (List P)
 |.box ks,.box xs=>KJ m ks xs
 |.arr fz a i sz,.arr fz' a' i' sz' l=>if fz=fz'/\sz=sz'/\(imp a' a&&imp i' i)=true then some [P.fO sz l] else none
 |.it,.it s n=>some [s,n]
 |.aN a i sz aj,.aN a' i' sz' kF l Option.none=>if sz=sz'/\aj=kF/\(imp a' a&&imp i' i)=true then some [P.fO sz l] else none
 |_,_=>none
def rP (m:Ren) (s:Nat->S):List (Nat×SS)->Option (List P)
 | []=>some []
 |(t,k)::rest=>match coS m k (s t),rP m s rest with
  |some u,some v=>some (u++v)
  |_,_=>none
def vM (m:Ren) (o:Nat->O):List (Nat×OS)->Option (List P)
 | []=>some []
 |(g',k)::rest=>match (match m.lookup g' with
   |some (some g)=>coO m k (o g)
   |some none=>(match k with
    |.arr false _ _ _=>some [.sl 0 []]
    |.aN _ _ _ _=>some [.sl 0 []]
    |_=>none)
   |none=>none),vM m o rest with
  |some u,some v=>some (u++v)
  |_,_=>none
def WS.names:WS->List Nat
 |.own g | .box g _ | .nC g | .vw g | .ep g _=>[g]
 |.fn _ gs=>gs
 |_=>[]
def SS.names:SS->List Nat
 |.one x=>x.names
 |.agg xs=>xs.flatMap WS.names
def OS.names:OS->List Nat
 |.box ws=>ws.flatMap WS.names
 |_=>[]
def Shape.nms (j:Shape):List Nat:=j.bf.map (·.1)
def Shape.ok (j:Shape):Bool:=nodupB j.nms&&j.slots.all (fun p=>p.2.names.all fun g=>j.nms.contains g)&&j.bf.all (fun p=>p.2.names.all fun g=>j.nms.contains g)
def ahE (j:Shape) (m:Ren):Bool:=nodupB (j.nms.filterMap fun g=>(m.lookup g).join)
def coerce (j:Shape) (m:Ren) (st:St):Option (List P):=
 if (j.ok&&ahE j m)=true then match rP m st.s j.slots,vM m st.o j.bf with
  |some u,some v=>some (u++v)
  |_,_=>none
 else none
def qo (vs:List P) (n:Nat):WS->W×Nat
 |.p a i=>(.p a i (vs.getD n default),n+1)
 |.dD=>(.dD,n)
 |.own g=>(.own g,n)
 |.box g off=>(.box g off,n)
 |.fn f gs=>(.clo f (gG gs),n)
 |.nC g=>(.nC g,n)
 |.no=>(.no,n)
 |.vw g=>(.vw g (vs.getD n default) (vs.getD (n+1) default),n+2)
 |.ep g off=>(.ep g (vs.getD n default) off,n+1)
def kW (vs:List P):Nat->List WS->List W×Nat
 |n,[]=>([],n)
 |n,k::ks=>((qo vs n k).1::(kW vs (qo vs n k).2 ks).1,(kW vs (qo vs n k).2 ks).2)
def mkS (vs:List P) (n:Nat):SS->S×Nat
 |.one k=>(.v (.one (qo vs n k).1),(qo vs n k).2)
 |.agg ks=>(.v (.agg (kW vs n ks).1),(kW vs n ks).2)
def tY (vs:List P) (n:Nat):OS->O×Nat
 |.box ks=>(.box (kW vs n ks).1,(kW vs n ks).2)
 |.arr fz a i sz=>(.arr fz a i sz (vs.getD n default).list,n+1)
 |.it=>(.it (vs.getD n default) (vs.getD (n+1) default),n+2)
 |.aN a i sz aj=>(.aN a i sz aj (vs.getD n default).list Option.none,n+1)
def dF (vs:List P):Nat->List (Nat×SS)->List (Nat×S)×Nat
 |n,[]=>([],n)
 |n,(t,k)::rest=>((t,(mkS vs n k).1)::(dF vs (mkS vs n k).2 rest).1,(dF vs (mkS vs n k).2 rest).2)
def gI (vs:List P):Nat->List (Nat×OS)->List (Nat×O)×Nat
 |n,[]=>([],n)
 |n,(g,k)::rest=>((g,(tY vs n k).1)::(gI vs (tY vs n k).2 rest).1,(gI vs (tY vs n k).2 rest).2)
def mk (j:Shape) (vs:List P):St:=
 { s:=fun t=>match (dF vs 0 j.slots).1.lookup t with | some x=>x | none=>.no,o:=fun g=>match (gI vs (dF vs 0 j.slots).2 j.bf).1.lookup g with | some x=>x | none=>.none,used:=fun g=>j.nms.contains g }
def BL (j:Shape) (m:Ren) (g':Nat):Option Nat:=if j.nms.contains g' then (m.lookup g').join else none
def At (vs:List P) (n:Nat) (us:List P):Prop :=∀k y,us[k]?=some y->vs[n+k]?=some y
theorem At.left {vs us1 us2:List P} {n:Nat} (h:At vs n (us1++us2)):At vs n us1:=fun k y hk=>h k y (by rw [Wb (Q3.1 hk).1];exact hk)
theorem At.right {vs us1 us2:List P} {n:Nat} (h:At vs n (us1++us2)):At vs (n+us1.length) us2:=fun k y hk=>by
 have:=h (us1.length+k) y (by rw [W6 (by omega),KS];exact hk);rw [<-this];congr 1;omega
theorem At.head {vs:List P} {n:Nat} {x:P} (h:At vs n [x]):vs.getD n default=x:=by
 have:=h 0 x rfl;rw [List.getD_eq_getElem?_getD];rw [VM] at this;rw [this];rfl
theorem tZ {a b:Bool} (h:imp a b=true):a=true->b=true:=by
 cases a<;>cases b<;>simp_all [imp]
section
variable {vs:List P} {m:Ren} {F:Nat->Option Nat} {nil:Nat->Prop}
theorem vN :∀(gs:List Nat),(gG gs).flatMap W.names=gs
 | []=>rfl
 |g::gs=>by simp [gG,W.names,vN gs]
theorem t_ (f:FuncId) (caps:List W):(W.clo f caps).names=caps.flatMap W.names:=by
 have :∀(l:List W) (q :∀x∈l,x∈caps),(l.attach.flatMap fun (x:{x // x∈l})=>x.1.names)=l.flatMap W.names:=fun l _=>by
  rw [List.flatMap_def,List.flatMap_def,List.map_attach_eq_pmap,List.pmap_eq_map]
 rw [W.names];exact this caps fun x hx=>hx
theorem Lp :∀{gs:List Nat} {caps:List W},(∀g∈gs,F g=(m.lookup g).join)->sQ m gs caps=true->caps.length=(gG gs).length/\∀(j:Nat) x y,caps[j]?=some x->(gG gs)[j]?=some y->Ww Cle F nil x y
 | [],[],_,_=>⟨rfl,fun j x y hx=>by simp at hx⟩
 | [],_::_,_,h=>by simp [sQ] at h
 |_::_,[],_,h=>by simp [sQ] at h
 |g'::gs,c::cs,hF,h=>by
  cases c with
  |box g off=>
   simp only [sQ,Q6,decide_eq_true_eq] at h;obtain ⟨h1,h2,h3⟩:=h;have h2:=Q4 h2;subst h2;obtain ⟨e1,e2⟩:=Lp (fun g hg=>hF g (by simp [hg])) h3;refine ⟨by simp [gG,e1],fun j x y hx hy => ?_⟩;cases j with
   |zero=>
    simp [gG] at hx hy;subst hx hy;exact .box (by rw [hF g' (by simp),h1];rfl)
   |succ j=>simp [gG] at hx hy;exact e2 j x y hx hy
  |_=>simp [sQ] at h
theorem abp {k:WS} {x:W} {us:List P} {n:Nat} (hF :∀g∈k.names,F g=(m.lookup g).join) (hnil :∀g∈k.names,m.lookup g=some none->nil g) (h:Kz m k x=some us) (ha:At vs n us) :
  Ww Cle F nil x (qo vs n k).1/\(qo vs n k).2=n+us.length/\(qo vs n k).1.names=k.names:=by
 cases k with
 |p a i=>
  cases x with
  |p a' i' y=>
   simp only [Kz] at h;split at h
   .rename_i hc;simp only [Q0] at h;subst h;simp only [JN,Q6] at hc;refine ⟨?_,rfl,by simp [qo,W.names,WS.names]⟩;simp only [qo,ha.head];rcases hc with hc | hc
    .exact .p y ⟨tZ hc.1,tZ hc.2⟩
    .exact .flat y hc
   .cases h
  |dD=>
   simp only [Kz,Q0] at h;subst h;refine ⟨?_,rfl,by simp [qo,W.names,WS.names]⟩;simp only [qo,ha.head];exact .ai4 _ _ _
  |_=>simp [Kz] at h
 |dD=>cases x<;>simp [Kz] at h;subst h;exact ⟨.dD,rfl,by simp [qo,W.names,WS.names]⟩
 |own g'=>
  cases x with
  |own g=>
   simp only [Kz] at h;split at h
   .rename_i hc;simp only [Q0] at h;subst h;exact ⟨.own (by rw [hF g' (by simp [WS.names]),hc];rfl),rfl,by simp [qo,W.names,WS.names]⟩
   .cases h
  |dD=>
   simp only [Kz] at h;split at h
   .rename_i hc;simp only [Q0] at h;subst h;exact ⟨.alj (by rw [hF g' (by simp [WS.names]),hc];rfl) (hnil g' (by simp [WS.names]) hc),rfl,by simp [qo,W.names,WS.names]⟩
   .cases h
  |_=>simp [Kz] at h
 |box g' off=>
  cases x with
  |box g off'=>
   simp only [Kz] at h;split at h
   .rename_i hc;simp only [Q0] at h;subst h;obtain ⟨hc,rfl⟩:=hc;exact ⟨.box (by rw [hF g' (by simp [WS.names]),hc];rfl),rfl,by simp [qo,W.names,WS.names]⟩
   .cases h
  |_=>simp [Kz] at h
 |fn f gs=>
  cases x with
  |clo f' caps=>
   simp only [Kz] at h;split at h
   .rename_i hc;simp only [Q0] at h;subst h;obtain ⟨rfl,hc⟩:=hc;obtain ⟨e1,e2⟩:=Lp (nil:=nil) hF hc;exact ⟨.clo f caps (gG gs) e1 e2,rfl,by simp only [qo,t_,vN,WS.names]⟩
   .cases h
  |_=>simp [Kz] at h
 |nC g'=>
  cases x with
  |nC g=>
   simp only [Kz] at h;split at h
   .rename_i hc;simp only [Q0] at h;subst h;exact ⟨.nC (by rw [hF g' (by simp [WS.names]),hc];rfl),rfl,by simp [qo,W.names,WS.names]⟩
   .cases h
  |_=>simp [Kz] at h
 |no=>simp [Kz] at h;subst h;exact ⟨.no _,rfl,by simp [qo,W.names,WS.names]⟩
 |vw g'=>
  cases x with
  |vw g lo hi=>
   simp only [Kz] at h;split at h
   .rename_i hc;simp only [Q0] at h;subst h;have h0:vs.getD n default=lo:=At.head (At.left (us1:=[lo]) (us2:=[hi]) ha);have h1:vs.getD (n+1) default=hi:=At.head (At.right (us1:=[lo]) (us2:=[hi]) ha);refine ⟨?_,rfl,by simp [qo,W.names,WS.names]⟩;simp only [qo,h0,h1];exact .vw lo hi (by rw [hF g' (by simp [WS.names]),hc];rfl)
   .cases h
  |_=>simp [Kz] at h
 |ep g' off=>
  cases x with
  |ep g q off'=>
   simp only [Kz] at h;split at h
   .rename_i hc;simp only [Q0] at h;subst h;obtain ⟨hc,rfl⟩:=hc;refine ⟨?_,rfl,by simp [qo,W.names,WS.names]⟩;simp only [qo,ha.head];exact .ep q off (by rw [hF g' (by simp [WS.names]),hc];rfl)
   .cases h
  |_=>simp [Kz] at h
theorem N7 :∀{ks:List WS} {xs:List W} {us:List P} {n:Nat},(∀k∈ks,∀g∈k.names,F g=(m.lookup g).join)->(∀k∈ks,∀g∈k.names,m.lookup g=some none->nil g)->KJ m ks xs=some us->At vs n us->
  xs.length=(kW vs n ks).1.length/\(∀(j:Nat) x y,xs[j]?=some x->(kW vs n ks).1[j]?=some y->Ww Cle F nil x y)/\(kW vs n ks).2=n+us.length/\(kW vs n ks).1.flatMap W.names=ks.flatMap WS.names
 | [],xs,us,n,hF,hn,h,ha=>by
  cases xs with
  |nil=>simp [KJ] at h;subst h;exact ⟨rfl,fun j x y hx=>by simp at hx,rfl,rfl⟩
  |cons x xs=>simp [KJ] at h
 |k::ks,xs,us,n,hF,hn,h,ha=>by
  cases xs with
  |nil=>simp [KJ] at h
  |cons x xs=>
   simp only [KJ] at h;split at h
   .rename_i u v hu hv;simp only [Q0] at h;subst h;obtain ⟨a1,a2,a3⟩:=abp (hF k (by simp)) (hn k (by simp)) hu ha.left;have ih:=N7 (n:=n+u.length) (fun k hk=>hF k (by simp [hk])) (fun k hk=>hn k (by simp [hk])) hv ha.right;simp only [kW,a2];refine ⟨by simp [ih.1],fun j x' y' hx hy => ?_,by rw [ih.2.2.1];simp;omega,by simp [a3,ih.2.2.2]⟩;cases j with
    |zero=>simp at hx hy;subst hx hy;exact a1
    |succ j=>simp at hx hy;exact ih.2.1 j x' y' hx hy
   .cases h
theorem ai5 {k:SS} {x:S} {us:List P} {n:Nat} (hF :∀g∈k.names,F g=(m.lookup g).join) (hnil :∀g∈k.names,m.lookup g=some none->nil g) (h:coS m k x=some us) (ha:At vs n us) :
  Sw Cle F nil x (mkS vs n k).1/\(mkS vs n k).2=n+us.length/\(mkS vs n k).1.names=k.names:=by
 cases k with
 |one k=>
  cases x with
  |v x=>
   cases x with
   |one x=>
    obtain ⟨a1,a2,a3⟩:=abp hF hnil h ha;exact ⟨.v (.one a1),a2,by simpa [mkS,S.names,V.names,SS.names] using a3⟩
   |agg xs=>simp [coS] at h
  |_=>simp [coS] at h
 |agg ks=>
  cases x with
  |v x=>
   cases x with
   |one x=>simp [coS] at h
   |agg xs=>
    obtain ⟨a0,a1,a2,a3⟩:=N7 (fun k hk g hg=>hF g (by simp only [SS.names,Z1];exact ⟨k,hk,hg⟩)) (fun k hk g hg=>hnil g (by simp only [SS.names,Z1];exact ⟨k,hk,hg⟩)) h ha;exact ⟨.v (.agg _ _ a0 a1),a2,by simpa [mkS,S.names,V.names,SS.names] using a3⟩
  |_=>simp [coS] at h
theorem Ih {s:Nat->S} :∀{L:List (Nat×SS)} {us:List P} {n:Nat},(∀p∈L,∀g∈p.2.names,F g=(m.lookup g).join)->(∀p∈L,∀g∈p.2.names,m.lookup g=some none->nil g)->rP m s L=some us->At vs n us->
  (∀t x,(dF vs n L).1.lookup t=some x->Sw Cle F nil (s t) x/\∀g∈x.names,∃p∈L,g∈p.2.names)/\(dF vs n L).2=n+us.length
 | [],us,n,hF,hn,h,ha=>by simp [rP] at h;subst h;exact ⟨fun t x hx=>by simp [dF] at hx,rfl⟩
 |(t0,k)::L,us,n,hF,hn,h,ha=>by
  simp only [rP] at h;split at h
  .rename_i u v hu hv;simp only [Q0] at h;subst h;obtain ⟨a1,a2,a3⟩:=ai5 (hF (t0,k) (by simp)) (hn (t0,k) (by simp)) hu ha.left;have ih:=Ih (n:=n+u.length) (fun p hp=>hF p (by simp [hp])) (fun p hp=>hn p (by simp [hp])) hv ha.right;simp only [dF,a2];refine ⟨fun t x hx => ?_,by rw [ih.2];simp;omega⟩;simp only [List.lookup] at hx;split at hx
   .rename_i he;have he:t=t0:=by simpa using he
    subst he;simp only [Q0] at hx;subst hx;exact ⟨a1,fun g hg=>⟨(t,k),by simp,by rw [a3] at hg;exact hg⟩⟩
   .obtain ⟨b1,b2⟩:=ih.1 t x hx;exact ⟨b1,fun g hg=>let ⟨p,hp,hg⟩:=b2 g hg;⟨p,by simp [hp],hg⟩⟩
  .cases h
theorem ai6 {k:OS} {x:O} {us:List P} {n:Nat} (hF :∀g∈k.names,F g=(m.lookup g).join) (hnil :∀g∈k.names,m.lookup g=some none->nil g) (h:coO m k x=some us) (ha:At vs n us) :
  Ow Cle F nil x (tY vs n k).1/\(tY vs n k).2=n+us.length/\(tY vs n k).1.names=k.names:=by
 cases k with
 |box ks=>
  cases x with
  |box xs=>
   obtain ⟨a0,a1,a2,a3⟩:=N7 (fun k hk g hg=>hF g (by simp only [OS.names,Z1];exact ⟨k,hk,hg⟩)) (fun k hk g hg=>hnil g (by simp only [OS.names,Z1];exact ⟨k,hk,hg⟩)) h ha;exact ⟨.box _ _ a0 a1,a2,by simpa [tY,O.names,OS.names] using a3⟩
  |_=>simp [coO] at h
 |arr fz a i sz=>
  cases x with
  |arr fz' a' i' sz' l=>
   simp only [coO] at h;split at h
   .rename_i hc;simp only [Q0] at h;subst h;obtain ⟨rfl,rfl,hc⟩:=hc;simp only [Q6] at hc;refine ⟨?_,rfl,rfl⟩;simp only [tY,ha.head,P.oh];exact .arr fz sz l ⟨tZ hc.1,tZ hc.2⟩
   .cases h
  |_=>simp [coO] at h
 |it=>
  cases x with
  |it s p=>
   simp only [coO,Q0] at h;subst h;refine ⟨?_,rfl,rfl⟩;have h0:vs.getD n default=s:=At.head (At.left (us1:=[s]) (us2:=[p]) ha);have h1:vs.getD (n+1) default=p:=At.head (At.right (us1:=[s]) (us2:=[p]) ha);simp only [tY,h0,h1];exact .it s p
  |_=>simp [coO] at h
 |aN a i sz aj=>
  cases x with
  |aN a' i' sz' kF l hole=>
   cases hole with
   |some q=>simp [coO] at h
   |none=>
    simp only [coO] at h;split at h
    .rename_i hc;simp only [Q0] at h;subst h;obtain ⟨rfl,rfl,hc⟩:=hc;simp only [Q6] at hc;refine ⟨?_,rfl,rfl⟩;simp only [tY,ha.head,P.oh];exact .aN sz aj l ⟨tZ hc.1,tZ hc.2⟩
    .cases h
  |_=>simp [coO] at h
end
theorem jr :∀{l:List Nat},nodupB l=true->l.Nodup
 | [],_=>List.nodup_nil
 |x::l,h=>by
  simp only [nodupB,Q6,Wc,Wm,decide_eq_false_iff_not] at h;exact UI.2 ⟨h.1,jr h.2⟩
theorem Lr {vs:List P} {m:Ren} {F:Nat->Option Nat} {nil:Nat->Prop} {o:Nat->O} :∀{L:List (Nat×OS)} {us:List P} {n:Nat},(∀p∈L,∀g∈p.2.names,F g=(m.lookup g).join)->(∀p∈L,∀g∈p.2.names,m.lookup g=some none->nil g)->
  (L.map (·.1)).Nodup->vM m o L=some us->At vs n us->
  (∀g' x,(gI vs n L).1.lookup g'=some x->(g'∈L.map (·.1))/\(∀g∈x.names,∃p∈L,g∈p.2.names)/\((∃g,m.lookup g'=some (some g)/\Ow Cle F nil (o g) x)\/(m.lookup g'=some none/\x.nilA)))/\
  (∀g'∈L.map (·.1),∃x,(gI vs n L).1.lookup g'=some x)
 | [],us,n,hF,hn,hd,h,ha=>⟨fun g x hx=>by simp [gI] at hx,fun g hg=>by simp at hg⟩
 |(g0,k)::L,us,n,hF,hn,hd,h,ha=>by
  simp only [vM] at h;split at h
  .rename_i u v hu hv;simp only [Q0] at h;subst h;simp only [Qf,UI] at hd;have key:(tY vs n k).2=n+u.length/\(tY vs n k).1.names=k.names/\((∃g,m.lookup g0=some (some g)/\Ow Cle F nil (o g) (tY vs n k).1)\/(m.lookup g0=some none/\(tY vs n k).1.nilA)):=by
    split at hu
    .rename_i g hg;obtain ⟨a1,a2,a3⟩:=ai6 (hF (g0,k) (by simp)) (hn (g0,k) (by simp)) hu ha.left;exact ⟨a2,a3,.inl ⟨g,hg,a1⟩⟩
    .rename_i hg;split at hu
     .rename_i a i sz;simp only [Q0] at hu;subst hu;refine ⟨rfl,rfl,.inr ⟨hg,.inl ⟨a,i,sz,?_⟩⟩⟩;simp only [tY,ha.left.head];rfl
     .rename_i a i sz aj;simp only [Q0] at hu;subst hu;refine ⟨rfl,rfl,.inr ⟨hg,.inr ⟨a,i,sz,aj,?_⟩⟩⟩;simp only [tY,ha.left.head];rfl
     .cases hu
    .cases hu
   obtain ⟨a2,a3,a1⟩:=key;have ih:=Lr (n:=n+u.length) (fun p hp=>hF p (by simp [hp])) (fun p hp=>hn p (by simp [hp])) hd.2 hv ha.right;simp only [gI,a2];refine ⟨fun g' x hx => ?_,fun g' hg' => ?_⟩
   .simp only [List.lookup] at hx;split at hx
    .rename_i he;have he:g'=g0:=by simpa using he
     subst he;simp only [Q0] at hx;subst hx;exact ⟨by simp,fun g hg=>⟨(g',k),by simp,by rw [a3] at hg;exact hg⟩,a1⟩
    .obtain ⟨b0,b1,b2⟩:=ih.1 g' x hx;exact ⟨by simp [b0],fun g hg=>let ⟨p,hp,hg⟩:=b1 g hg;⟨p,by simp [hp],hg⟩,b2⟩
   .simp only [List.lookup];by_cases he:g'=g0
    .subst he;simp
    .have:(g'==g0)=false:=by simpa using he
     rw [this];exact ih.2 g' (by simpa [he] using hg')
  .cases h
theorem zH {f:Nat->Option Nat} {g1 g2 g:Nat} :∀{L:List Nat},L.Nodup->(L.filterMap f).Nodup->g1∈L->g2∈L->f g1=some g->f g2=some g->g1=g2
 | [],_,_,n1,_,_,_=>by cases n1
 |y::L,hnd,iE,n1,n2,m1,m2=>by
  simp only [UI] at hnd;simp only [List.filterMap_cons] at iE;have hsub :∀{z},z∈L->f z=some g->g∈L.filterMap f:=fun hz he=>qi.2 ⟨_,hz,he⟩;rcases QP.1 n1 with e1 | e1<;>rcases QP.1 n2 with e2 | e2
  .rw [e1,e2]
  .subst e1;rw [m1] at iE;simp only [UI] at iE;exact absurd (hsub e2 m2) iE.1
  .subst e2;rw [m2] at iE;simp only [UI] at iE;exact absurd (hsub e1 m1) iE.1
  .refine zH hnd.2 ?_ e1 e2 m1 m2;split at iE
   .exact iE
   .exact (UI.1 iE).2
theorem sS {j:Shape} {m:Ren} {st:St} {vs:List P} (h:coerce j m st=some vs):sO Cle (BL j m) st (mk j vs):=by
 unfold coerce at h;split at h
 .rename_i hok;split at h
  .rename_i u v hu hv;simp only [Q0] at h;subst h;simp only [Q6,Shape.ok,X2,Wm,decide_eq_true_eq] at hok;obtain ⟨⟨⟨hnd,hsl⟩,hob⟩,iE⟩:=hok;have hnd':=jr hnd;have hAt:At (u++v) 0 (u++v):=fun k y hk=>by rw [WD];exact hk
   have hF :∀g∈j.nms,BL j m g=(m.lookup g).join:=fun g hg=>by simp [BL,hg]
   have Dw:=fun nil (hnil :∀p∈j.bf,∀g∈p.2.names,m.lookup g=some none->nil g)=>Lr (vs:=u++v) (F:=BL j m) (nil:=nil) (n:=u.length) (fun p hp g hg=>hF g (hob p hp g hg)) hnil hnd' hv (by
    have:=hAt.right;rwa [WD] at this)
   have sV:=fun nil (hnil :∀p∈j.slots,∀g∈p.2.names,m.lookup g=some none->nil g)=>Ih (vs:=u++v) (F:=BL j m) (nil:=nil) (n:=0) (fun p hp g hg=>hF g (hsl p hp g hg)) hnil hu hAt.left;have hlen:(dF (u++v) 0 j.slots).2=u.length:=by have:=(sV (fun _=>True) (fun _ _ _ _ _=>trivial)).2;omega
   have hnil :∀g∈j.nms,m.lookup g=some none->((mk j (u++v)).o g).nilA:=by
    intro g hg hm;have hO:=Dw (fun _=>True) (fun _ _ _ _ _=>trivial);obtain ⟨x,hx⟩:=hO.2 g hg;rcases (hO.1 g x hx).2.2 with ⟨g2,h2,_⟩ | ⟨_,e⟩
    .rw [hm] at h2;cases h2
    .show O.nilA (match (gI (u++v) (dF (u++v) 0 j.slots).2 j.bf).1.lookup g with | some x=>x | none=>.none);rw [hlen,hx];exact e
   have hO:=Dw (fun g=>((mk j (u++v)).o g).nilA) (fun p hp g hg hm=>hnil g (hob p hp g hg) hm);have hS:=sV (fun g=>((mk j (u++v)).o g).nilA) (fun p hp g hg hm=>hnil g (hsl p hp g hg) hm);have zS :∀g x,(mk j (u++v)).o g=x->x≠.none->(gI (u++v) u.length j.bf).1.lookup g=some x:=by
    intro g x hx hne;have hx:(match (gI (u++v) (dF (u++v) 0 j.slots).2 j.bf).1.lookup g with | some x=>x | none=>.none)=x:=hx;rw [hlen] at hx;cases hz:(gI (u++v) u.length j.bf).1.lookup g with
    |none=>rw [hz] at hx;exact absurd hx.symm hne
    |some y=>rw [hz] at hx;rw [<-hx]
   refine ⟨fun t => ?_,fun g' g hm => ?_,fun g' hm => ?_,fun g1 g2 g h1 h2 m1 m2 => ?_,fun t g hg => ?_,fun g0 g hg => ?_,fun g hg => ?_⟩
   .show Sw _ _ _ (st.s t) (match (dF (u++v) 0 j.slots).1.lookup t with | some x=>x | none=>.no);cases hx:(dF (u++v) 0 j.slots).1.lookup t with
    |none=>exact .no _
    |some x=>exact (hS.1 t x hx).1
   .by_cases hne:(mk j (u++v)).o g'=.none
    .rw [hne];exact .none _
    .have hx:=zS g' _ rfl hne;obtain ⟨b0,b1,b2⟩:=hO.1 g' _ hx;rw [hF g' b0] at hm;rcases b2 with ⟨g3,h3,h4⟩ | ⟨h3,_⟩
     .rw [h3] at hm;cases hm;exact h4
     .rw [h3] at hm;cases hm
   .by_cases hne:(mk j (u++v)).o g'=.none
    .exact .inl hne
    .have hx:=zS g' _ rfl hne;obtain ⟨b0,b1,b2⟩:=hO.1 g' _ hx;rw [hF g' b0] at hm;rcases b2 with ⟨g3,h3,h4⟩ | ⟨h3,e⟩
     .rw [h3] at hm;cases hm
     .exact .inr e
   .have n1:g1∈j.nms:=by have:=hO.1 g1 _ (zS g1 _ rfl (by intro e;rw [e] at h1;cases h1));exact this.1
    have n2:g2∈j.nms:=by have:=hO.1 g2 _ (zS g2 _ rfl (by intro e;rw [e] at h2;cases h2));exact this.1
    rw [hF g1 n1] at m1;rw [hF g2 n2] at m2;exact zH hnd' (jr iE) n1 n2 m1 m2
   .have hg:g∈(match (dF (u++v) 0 j.slots).1.lookup t with | some x=>x | none=>S.no).names:=hg;cases hx:(dF (u++v) 0 j.slots).1.lookup t with
    |none=>rw [hx] at hg;simp [S.names] at hg
    |some x=>
     rw [hx] at hg;obtain ⟨p,hp,hg⟩:=(hS.1 t x hx).2 g hg;simpa [mk] using hsl p hp g hg
   .by_cases hne:(mk j (u++v)).o g0=.none
    .rw [hne] at hg;simp [O.names] at hg
    .obtain ⟨b0,b1,b2⟩:=hO.1 g0 _ (zS g0 _ rfl hne);obtain ⟨p,hp,hg⟩:=b1 g hg;simpa [mk] using hob p hp g hg
   .have:=(hO.1 g _ (zS g _ rfl hg)).1;simpa [mk,Shape.nms] using this
  .cases h
 .cases h
end Go.Fw

namespace Go.Fw
variable [eF]
structure yY where
 bD:Nat
 pin:Shape
 aP:Shape
 dw:Nat
 aY:List Nat
 aU:List Nat
structure Spec where
 sig:yY
 R:List P->List P->Prop
abbrev Tab:=FuncId->Option Spec
def wY (x y:Bool×Bool):Bool×Bool:=(x.1||y.1,x.2||y.2)
def N8 (xs ys:List Nat):Bool:=xs.all fun x=>!ys.contains x
def WS.flags (a i:Bool):WS->Bool
 |.p a' i'=>(a==a')&&(i==i')
 |.own _=>true
 |.box _ off=>off==0
 |.dD=>false
 |.fn _ _=>true
 |.nC _=>false
 |.no=>false
 |.vw _=>false
 |.ep _ _=>false
def SS.flags (a i:Bool):SS->Bool
 |.one x=>x.flags a i
 |.agg xs=>xs.all (WS.flags a i)
def WS.bW (aU:List Nat):WS->Bool
 |.p _ _=>true
 |.own g=>aU.contains g
 |.box g _=>aU.contains g
 |.dD=>true
 |.fn _ gs=>gs.all fun g=>aU.contains g
 |_=>false
def SS.bW (aU:List Nat):SS->Bool
 |.one x=>x.bW aU
 |.agg xs=>xs.all (WS.bW aU)
def WS.isA:WS->Bool
 |.p a _=>a
 |_=>false
def SS.isA:SS->Bool
 |.one x=>x.isA
 |.agg xs=>xs.any WS.isA
def OS.isA:OS->Bool
 |.box ws=>ws.any WS.isA
 |.arr _ a _ _=>a
 |.it=>false
 |.aN a _ _ _=>a
def yY.mg (s:yY):Bool:=s.aP.slots.any (·.2.isA)||s.aP.bf.any (·.2.isA)
def OS.kin:Option OS->Option OS->Bool
 |some (.box _),some (.box _)=>true
 |some (.arr _ _ _ sz),some (.arr _ _ _ sz')=>Nat.beq sz sz'
 |some (.aN _ _ sz _),some (.aN _ _ sz' _)=>Nat.beq sz sz'
 |_,_=>false
def OS.abq:Option OS->Bool
 |some (.box _)=>true
 |_=>false
def yY.ok (s:yY):Bool:=
 s.pin.ok&&s.aP.ok&&s.pin.slots.all (fun p=>p.2.flags true false&&decide (p.1<s.bD)) &&
 s.pin.bf.all (fun p=>match p.2 with
  |.box ws=>ws.all (fun k=>k.flags false true)&&s.aY.contains p.1
  |.arr fz a i _=>!fz&&!a&&i
  |.aN a i _ _=>!a&&i
  |.it=>false) &&
 s.aP.slots.all (fun p=>p.2.bW (s.aU++s.aY)) &&
 s.aP.bf.all (fun p=>match p.2 with
  |.box ws=>ws.all (WS.bW (s.aU++s.aY))&&((s.aY.contains p.1&&s.pin.nms.contains p.1)||s.aU.contains p.1)
  |.arr fz _ _ _=>!fz&&(s.aU.contains p.1||s.aY.contains p.1)
  |.aN _ _ _ _=>s.aU.contains p.1||s.aY.contains p.1
  |.it=>false) &&
 N8 s.aY s.aU&&nodupB s.aU&&s.aY.all (fun g=>OS.kin (s.pin.bf.lookup g) (s.aP.bf.lookup g))
def yY.abr (s:yY):Bool:=s.aY.all fun g=>OS.abq (s.pin.bf.lookup g)&&OS.abq (s.aP.bf.lookup g)
structure KL where
 ins:List P
 A:Bool×Bool
 I:Bool×Bool
 uV:List Nat
 ren:List (Nat×Nat)
def nM:List Nat->List W->Option (List (Nat×Nat))
 | [],[]=>some []
 |g'::gs,.box g 0::cs=>match nM gs cs with
  |some r=>some ((g',g)::r)
  |none=>none
 |_,_=>none
def fJ (o:Nat->O):WS->W->Option (List P×(Bool×Bool)×List Nat×List (Nat×Nat))
 |.p _ _,x=>match x.toP o with
  |some (y,a,i,gs)=>some ([y],(a,i),gs,[])
  |none=>none
 |.own g',.own g=>some ([],(false,false),[],[(g',g)])
 |.box g' 0,.box g 0=>some ([],(false,false),[],[(g',g)])
 |.fn f gs,.clo f' caps=>if f=f' then match nM gs caps with
  |some r=>some ([],(false,false),[],r)
  |none=>none
  else none
 |_,_=>none
def jI (o:Nat->O):List WS->List W->Option (List P×(Bool×Bool)×List Nat×List (Nat×Nat))
 | [],[]=>some ([],(false,false),[],[])
 |k::ks,x::xs=>match fJ o k x,jI o ks xs with
  |some (u,c,g,r),some (u',c',g',r')=>some (u++u',wY c c',g++g',r++r')
  |_,_=>none
 |_,_=>none
def oC (o:Nat->O):SS->S->Option (List P×(Bool×Bool)×List Nat×List (Nat×Nat))
 |.one k,.v (.one x)=>fJ o k x
 |.agg ks,.v (.agg xs)=>jI o ks xs
 |_,_=>none
def eU (o:Nat->O) (args:List S):List (Nat×SS)->Option (List P×(Bool×Bool)×List Nat×List (Nat×Nat))
 | []=>some ([],(false,false),[],[])
 |(t,k)::rest=>match oC o k (args.getD t .no),eU o args rest with
  |some (u,c,g,r),some (u',c',g',r')=>some (u++u',wY c c',g++g',r++r')
  |_,_=>none
def Ul:WS->W->Option (List P×(Bool×Bool)×List (Nat×Nat))
 |.p _ _,.p a i x=>some ([x],(a,i),[])
 |.p _ _,.dD=>some ([.sl 0 []],(false,false),[])
 |.own g',.own g=>some ([],(false,false),[(g',g)])
 |.box g' 0,.box g 0=>some ([],(false,false),[(g',g)])
 |.fn f gs,.clo f' caps=>if f=f' then match nM gs caps with
  |some r=>some ([],(false,false),r)
  |none=>none
  else none
 |_,_=>none
def N9:List WS->List W->Option (List P×(Bool×Bool)×List (Nat×Nat))
 | [],[]=>some ([],(false,false),[])
 |k::ks,x::xs=>match Ul k x,N9 ks xs with
  |some (u,c,r),some (u',c',r')=>some (u++u',wY c c',r++r')
  |_,_=>none
 |_,_=>none
def jF (o:Nat->O):List (Nat×Nat)->List (Nat×OS)->Option (List P×(Bool×Bool)×List (Nat×Nat))
 |ren,[]=>some ([],(false,false),ren)
 |ren,(g',k)::rest=>match ren.lookup g' with
  |some g=>match k,o g with
   |.box ks,.box ws=>match N9 ks ws with
    |some (u,c,r)=>match jF o (ren++r) rest with
     |some (u',c',r')=>some (u++u',wY c c',r')
     |none=>none
    |none=>none
   |.arr _ _ _ sz,.arr false a i sz' l=>if sz=sz' then match jF o ren rest with
    |some (u',c',r')=>some (P.fO sz l::u',wY (a,i) c',r')
    |none=>none
    else none
   |.aN _ _ sz aj,.aN a i sz' kF l Option.none=>if sz=sz'/\aj=kF then match jF o ren rest with
    |some (u',c',r')=>some (P.fO sz l::u',wY (a,i) c',r')
    |none=>none
    else none
   |_,_=>none
  |none=>none
def jT:List (Nat×Nat)->List (Nat×Nat)
 | []=>[]
 |p::r=>match r.any fun q=>Nat.beq q.1 p.1&&Nat.beq q.2 p.2 with
  |true=>jT r
  |false=>p::jT r
def gZ (s:yY) (o:Nat->O) (args:List S):Option KL:=
 match eU o args s.pin.slots with
 |some (u,A,gs,r)=>match jF o r s.pin.bf with
  |some (u',I,r')=>some { ins:=u++u',A,I,uV:=gs,ren:=jT r' }
  |none=>none
 |none=>none
def KL.fine (c:KL) (s:yY):Bool:=nodupB (c.ren.map (·.2))&&nodupB (c.ren.map (·.1))&&N8 (c.ren.map (·.2)) c.uV&&(c.ren.map (·.1)).all (fun g=>s.pin.nms.contains g)
def qH (A I:Bool×Bool) (a i:Bool):Bool×Bool:=((a&&A.1)||(i&&I.1),(a&&A.2)||(i&&I.2))
def kQ (f:Nat->Nat):List W->List W
 | []=>[]
 |.box g off::r=>.box (f g) off::kQ f r
 |_::r=>.no::kQ f r
def Um (A I:Bool×Bool) (f:Nat->Nat):W->W
 |.p a i x=>.p (qH A I a i).1 (qH A I a i).2 x
 |.dD=>.dD
 |.own g=>.own (f g)
 |.box g off=>.box (f g) off
 |.clo fn caps=>.clo fn (kQ f caps)
 |_=>.no
def reV (A I:Bool×Bool) (f:Nat->Nat):V->V
 |.one x=>.one (Um A I f x)
 |.agg xs=>.agg (xs.map (Um A I f))
def WH (A I:Bool×Bool) (f:Nat->Nat):S->V
 |.v x=>reV A I f x
 |_=>.one .no
def wZ (A I:Bool×Bool) (f:Nat->Nat):O->O
 |.none=>.none
 |.box ws=>.box (ws.map (Um A I f))
 |.arr fz a i sz l=>.arr fz (qH A I a i).1 (qH A I a i).2 sz l
 |.it s n=>.it s n
 |.aN a i sz aj l _=>.aN (qH A I a i).1 (qH A I a i).2 sz aj l Option.none
def newName (d:Nat) (aU:List Nat) (g:Nat):Nat:=d+1000*aU.idxOf g
def callName (d:Nat) (s:yY) (ren:List (Nat×Nat)) (g:Nat):Nat:=match s.aY.contains g with
 |true=>match ren.lookup g with
  |some g'=>g'
  |none=>g
 |false=>newName d s.aU g
structure Eff where
 x:S
 aI:List (Nat×O)
 new:List Nat
def Y5 (vs:List V):S:=match vs with
 | [x]=>.v x
 |xs=>.jK xs
def iH (s:yY) (d:Nat) (o:Nat->O) (c:KL) (bW:List P):Eff:=
 let x:=mk s.aP bW
 let f:=callName d s c.ren
 { x:=Y5 ((List.range s.dw).map fun k=>WH c.A c.I f (x.s k)),aI:=(if s.mg then c.uV.map (aT o) else [])++c.ren.map (fun p=>(p.2,if s.aY.contains p.1 then wZ c.A c.I f (x.o p.1) else .none))++s.aU.map (fun g=>(f g,wZ c.A c.I f (x.o g))),new:=s.aU.map f }
def BM (same:List Nat) (e:Eff):Eff:={ e with aI:=e.aI.filter fun p=>!same.contains p.1 }
theorem sZ {α:Type} {same:List Nat} {g:Nat} (hg:g∉same) :∀(l:List (Nat×α)),(l.filter fun p=>!same.contains p.1).lookup g=l.lookup g
 | []=>rfl
 |(k,x)::l=>by
  simp only [vl];cases hk:same.contains k with
  |true=>
   have:(g==k)=false:=by
    cases hb:g==k with
    |false=>rfl
    |true=>
     have:g=k:=by simpa using hb
     subst this;simp only [Wm,decide_eq_true_eq] at hk;exact absurd hk hg
   simp only [Bool.not_true,W4,if_false,List.lookup,this];exact sZ hg l
  |false=>
   simp only [ve,if_true,List.lookup];rw [sZ hg l]
theorem mQ {α:Type} {same:List Nat} {g:Nat} (hg:g∈same) :∀(l:List (Nat×α)),(l.filter fun p=>!same.contains p.1).lookup g=none
 | []=>rfl
 |(k,x)::l=>by
  simp only [vl];cases hk:same.contains k with
  |true=>
   simp only [Bool.not_true,W4,if_false];exact mQ hg l
  |false=>
   have:(g==k)=false:=by
    cases hb:g==k with
    |false=>rfl
    |true=>
     have:g=k:=by simpa using hb
     subst this;simp only [Wm,decide_eq_false_iff_not] at hk;exact absurd hg hk
   simp only [ve,if_true,List.lookup,this];exact mQ hg l
theorem Y6 {st:St} {same:List Nat} {e:Eff} (h :∀g∈same,e.aI.lookup g=some (st.o g)):st.aI (BM same e).aI (BM same e).new=st.aI e.aI e.new:=by
 unfold St.aI BM;congr 1;funext g;by_cases hg:g∈same
 .simp only [mQ hg,h g hg]
 .simp only [sZ hg]
inductive P_ (x:P) (K:P->Prop):Prop where
 |mk (h :∀z,z=x->K z)
theorem P_.iff {x:P} {K:P->Prop}:P_ x K↔K x:=⟨fun ⟨h⟩=>h x rfl,fun h=>⟨fun z e=>e▸h⟩⟩
def EU:Op->Bool
 |.pick .. | .binOp .. | .unOp .. | .convert .. | .index .. | .call .. | .makeSlice .. | .store .. | .buildSlice .. | .slice .. => true
 |_=>false
def guardOf (ops:Array Oper) (st:St) (j:Nat) (want:Bool):Option Bool:=
 match (ops[j]?).bind (·.dst) with
 |some t=>match st.s t with
  |.v (.one (.p _ _ (.bool b)))=>some (bif want then b else !b)
  |.jK []=>some false
  |_=>none
 |none=>none
def Eff.skip:Eff:={ x:=.jK [],aI:=[],new:=[] }
def alm:S->Option Nat
 |.v (.one (.clo g _))=>some g
 |_=>none
def WI:List S->Option Nat
 | []=>none
 |x::l=>match alm x with
  |some g=>some g
  |none=>WI l
def Qy (fn:Nat) (l:List S):Nat:=match WI l with
 |some g=>fn+1000000*(g+1)
 |none=>fn
def pick (T:Tab) (fn:Nat) (l:List S):Option Spec:=match Nat.blt fn 1000000 with
 |true=>match T (Qy fn l) with
  |some sp=>some sp
  |none=>T fn
 |false=>none
theorem afc {T:Tab} {fn:Nat} {l:List S} {sp:Spec} {p:Nat->Spec->Prop} (hT :∀f sp,T f=some sp->p (f % 1000000) sp) (h:pick T fn l=some sp):p fn sp:=by
 unfold pick at h;split at h
 .rename_i hb;have hlt:fn<1000000:=W3 hb;split at h
  .rename_i sp' h';cases h;have:=hT _ _ h';have e:Qy fn l % 1000000=fn:=by unfold Qy;split<;>omega
   rwa [e] at this
  .have:=hT _ _ h
   rwa [Ke hlt] at this
 .cases h
def ji (T:Tab) (tt:TT) (d:Nat) (st:St) (o:Oper) (K:Eff->Prop):Prop:=
 match o.op with
 |.call { callee:=.value f,args,.. }=>match st.dI f with
  |.v (.one (.clo fn caps))=>match pick T fn (args.toList.map st.dI) with
   |some sp=>match gZ sp.sig st.o ((args.toList.map st.dI)++caps.map fun x=>S.v (.one x)) with
    |some c=>(c.fine sp.sig&&decide (args.size+caps.length=sp.sig.bD))=true/\∃(bW:List P) (same:List Nat),sp.R c.ins bW/\(∀g∈same,g∈c.ren.map (·.2)/\(iH sp.sig d st.o c bW).aI.lookup g=some (st.o g))/\K (BM same (iH sp.sig d st.o c bW))
    |none=>False
   |none=>False
  |_=>False
 |op=>(∃dc r,dU tt dc d st.o st.dI op o.type=some r/\r.pre/\P_ r.val fun z=>K { x:=r.dst z,aI:=r.aI z,new:=r.new })\/match kernel tt d st.o st.dI op o.type with
  |some r=>r.pre/\bif EU op then P_ r.val fun z=>K { x:=r.dst z,aI:=r.aI z,new:=r.new } else K { x:=r.dst r.val,aI:=r.aI r.val,new:=r.new }
  |none=>False
def St.eff (st:St) (dst:Option Tmp) (e:Eff):St:=(st.aI e.aI e.new).put dst e.x
def stepW (T:Tab) (tt:TT) (N:Nat) (ops:Array Oper) (o:Oper) (st:St) (K:Eff->Prop):Prop:=
 (match o.dst with
  |some d=>decide (d<N)
  |none=>true)=true/\
 match o.guard with
 |none=>ji T tt (o.dst.getD 0) st o fun e=>e.new.all (fun g=>!st.used g)=true/\K e
 |some (j,want)=>match guardOf ops st j want with
  |some b=>bif b then ji T tt (o.dst.getD 0) st o fun e=>e.new.all (fun g=>!st.used g)=true/\K e else K Eff.skip
  |none=>False
end Go.Fw

namespace Go.Fw
variable [eF]
theorem mD {α:Type} :∀{l:List (Nat×α)},(l.map (·.1)).Nodup->∀{k:Nat} {v:α},(k,v)∈l->l.lookup k=some v
 | [],_,k,v,h=>by cases h
 |(k0,v0)::l,hn,k,v,h=>by
  simp only [Qf,UI] at hn;simp only [List.lookup];rcases QP.1 h with e | e
  .cases e;simp
  .have hne:(k==k0)=false:=by
    have:k∈l.map (·.1):=QQ.2 ⟨(k,v),e,rfl⟩;have:k≠k0:=fun e=>hn.1 (by rw [<-e];exact this);simpa using this
   rw [hne];exact mD hn.2 e
theorem kL {α:Type} :∀{l:List (Nat×α)} {k:Nat} {v:α},l.lookup k=some v->(k,v)∈l
 | [],k,v,h=>by simp at h
 |(k0,v0)::l,k,v,h=>by
  simp only [List.lookup] at h;split at h
  .rename_i he;have he:k=k0:=by simpa using he
   simp only [Q0] at h;subst he h;simp
  .exact Vi _ (kL h)
def cin (c d:Bool×Bool):Prop:=(c.1=true->d.1=true)/\(c.2=true->d.2=true)
theorem Ii (c:Bool×Bool):cin c c:=⟨id,id⟩
theorem ug {c c' d:Bool×Bool} (h:cin (wY c c') d):cin c d:=⟨fun e=>h.1 (by simp [wY,e]),fun e=>h.2 (by simp [wY,e])⟩
theorem qp {c c' d:Bool×Bool} (h:cin (wY c c') d):cin c' d:=⟨fun e=>h.1 (by simp [wY,e]),fun e=>h.2 (by simp [wY,e])⟩
def Cio (I:Bool×Bool) (a i a' i':Bool):Prop:=a'=false/\i'=true/\cin (a,i) I
section
variable {o:Nat->O} {ins:List P} {m:Nat->Option Nat} {nil:Nat->Prop} {I:Bool×Bool}
theorem WJ {a i:Bool} {a' i':Bool} (h:(WS.p a' i').flags a i=true):a'=a/\i'=i:=by
 simp only [WS.flags,Q6,beq_iff_eq] at h;exact ⟨h.1.symm,h.2.symm⟩
theorem Aa {C:Bool->Bool->Bool->Bool->Prop} :∀{gs:List Nat} {caps:List W} {r:List (Nat×Nat)},nM gs caps=some r->(∀p∈r,m p.1=some p.2)->caps.length=(gG gs).length/\∀(j:Nat) x y,caps[j]?=some x->(gG gs)[j]?=some y->Ww C m nil x y
 | [],[],r,_,_=>⟨rfl,fun j x y hx=>by simp at hx⟩
 | [],_::_,r,h,_=>by simp [nM] at h
 |_::_,[],r,h,_=>by simp [nM] at h
 |g'::gs,c::cs,r,h,hm=>by
  cases c with
  |box g off=>
   cases off with
   |succ off=>simp [nM] at h
   |zero=>
    simp only [nM] at h;split at h
    .rename_i r' hr';simp only [Q0] at h;subst h;obtain ⟨e1,e2⟩:=Aa (C:=C) hr' (fun p hp=>hm p (by simp [hp]));refine ⟨by simp [gG,e1],fun j x y hx hy => ?_⟩;cases j with
     |zero=>
      simp [gG] at hx hy;subst hx hy;exact .box (hm (g',g) (by simp))
     |succ j=>simp [gG] at hx hy;exact e2 j x y hx hy
    .cases h
  |_=>simp [nM] at h
theorem ai8 {k:WS} {x:W} {us:List P} {c:Bool×Bool} {r:List (Nat×Nat)} {n:Nat} (h:Ul k x=some (us,c,r)) (hk:k.flags false true=true) (hc:cin c I) (hm :∀p∈r,m p.1=some p.2) (ha:At ins n us) :
  Ww (Cio I) m nil x (qo ins n k).1/\(qo ins n k).2=n+us.length:=by
 cases k with
 |p a' i'=>
  obtain ⟨rfl,rfl⟩:=WJ hk;cases x with
  |p a i y=>
   simp only [Ul,Q0,Q1] at h;obtain ⟨rfl,rfl,rfl⟩:=h;exact ⟨by simp only [qo,ha.head];exact .p y ⟨rfl,rfl,hc⟩,rfl⟩
  |dD=>
   simp only [Ul,Q0,Q1] at h;obtain ⟨rfl,rfl,rfl⟩:=h;exact ⟨by simp only [qo,ha.head];exact .ai4 _ _ _,rfl⟩
  |_=>simp [Ul] at h
 |own g'=>
  cases x with
  |own g=>
   simp only [Ul,Q0,Q1] at h;obtain ⟨rfl,rfl,rfl⟩:=h;exact ⟨.own (hm (g',g) (by simp)),rfl⟩
  |_=>simp [Ul] at h
 |box g' off'=>
  cases x with
  |box g off=>
   cases off' with
   |succ n=>simp [Ul] at h
   |zero=>
    cases off with
    |succ n=>simp [Ul] at h
    |zero=>
     simp only [Ul,Q0,Q1] at h;obtain ⟨rfl,rfl,rfl⟩:=h;exact ⟨.box (hm (g',g) (by simp)),rfl⟩
  |_=>simp [Ul] at h
 |fn f gs=>
  cases x with
  |clo f' caps=>
   simp only [Ul] at h;split at h
   .rename_i hf;subst hf;split at h
    .rename_i r' hr';simp only [Q0,Q1] at h;obtain ⟨rfl,rfl,rfl⟩:=h;obtain ⟨e1,e2⟩:=Aa (C:=Cio I) (nil:=nil) hr' hm;exact ⟨.clo f caps (gG gs) e1 e2,rfl⟩
    .cases h
   .cases h
  |_=>simp [Ul] at h
 |_=>simp [Ul] at h
theorem WL :∀{ks:List WS} {xs:List W} {us:List P} {c:Bool×Bool} {r:List (Nat×Nat)} {n:Nat},N9 ks xs=some (us,c,r)->(∀k∈ks,k.flags false true=true)->cin c I->(∀p∈r,m p.1=some p.2)->At ins n us->
  xs.length=(kW ins n ks).1.length/\(∀(j:Nat) x y,xs[j]?=some x->(kW ins n ks).1[j]?=some y->Ww (Cio I) m nil x y)/\(kW ins n ks).2=n+us.length
 | [],xs,us,c,r,n,h,hk,hc,hm,ha=>by
  cases xs with
  |nil=>simp [N9] at h;obtain ⟨rfl,_⟩:=h;exact ⟨rfl,fun j x y hx=>by simp at hx,rfl⟩
  |cons x xs=>simp [N9] at h
 |k::ks,xs,us,c,r,n,h,hk,hc,hm,ha=>by
  cases xs with
  |nil=>simp [N9] at h
  |cons x xs=>
   simp only [N9] at h;split at h
   .rename_i u c1 r1 u' c2 r2 h1 h2;simp only [Q0,Q1] at h;obtain ⟨rfl,rfl,rfl⟩:=h;obtain ⟨a1,a2⟩:=ai8 (nil:=nil) h1 (hk k (by simp)) (ug hc) (fun p hp=>hm p (by simp [hp])) ha.left;have ih:=WL (n:=n+u.length) h2 (fun k hk'=>hk k (by simp [hk'])) (qp hc) (fun p hp=>hm p (by simp [hp])) ha.right;simp only [kW,a2];refine ⟨by simp [ih.1],fun j x' y' hx hy => ?_,by rw [ih.2.2];simp;omega⟩;cases j with
    |zero=>simp at hx hy;subst hx hy;exact a1
    |succ j=>simp at hx hy;exact ih.2.1 j x' y' hx hy
   .cases h
theorem uh :∀{L:List (Nat×OS)} {ren ren':List (Nat×Nat)} {us:List P} {c:Bool×Bool} {n:Nat},jF o ren L=some (us,c,ren')->
  (∀p∈L,match p.2 with | .box ws =>∀k∈ws,k.flags false true=true | .arr fz a i _=>fz=false/\a=false/\i=true | .aN a i _ _=>a=false/\i=true | .it=>False)->cin c I->(∀p∈ren',m p.1=some p.2)->At ins n us->
  (∃r,ren'=ren++r)/\∀g' x,(gI ins n L).1.lookup g'=some x->∃g,m g'=some g/\Ow (Cio I) m nil (o g) x/\(g',g)∈ren'/\(o g).bP=true/\((∃ws,x=.box ws)\/(∃l sz,x=.arr false false true sz l)\/∃l sz aj,x=.aN false true sz aj l Option.none)
 | [],ren,ren',us,c,n,h,hk,hc,hm,ha=>by
  simp only [jF,Q0,Q1] at h;obtain ⟨rfl,rfl,rfl⟩:=h;exact ⟨⟨[],by simp⟩,fun g' x hx=>by simp [gI] at hx⟩
 |(g0,k)::L,ren,ren',us,c,n,h,hk,hc,hm,ha=>by
  simp only [jF] at h;split at h
  .rename_i g hg;split at h
   .rename_i ks ws hog;split at h
    .rename_i u c1 r1 h1;split at h
     .rename_i u' c2 r2 h2;simp only [Q0,Q1] at h;obtain ⟨rfl,rfl,rfl⟩:=h;have hk0:=hk (g0,.box ks) (by simp);have ih:=fun hm'=>uh (n:=n+u.length) h2 (fun p hp=>hk p (by simp [hp])) (qp hc) hm' ha.right;obtain ⟨⟨r,hr⟩,ih⟩:=ih hm;obtain ⟨b0,b1,b2⟩:=WL (nil:=nil) h1 hk0 (ug hc) (fun p hp=>hm p (by rw [hr];simp [hp])) ha.left;simp only [gI,tY,b2];refine ⟨⟨r1++r,by rw [hr,Wf]⟩,fun g' x hx => ?_⟩;simp only [List.lookup] at hx;split at hx
      .rename_i he;have he:g'=g0:=by simpa using he
       subst he;simp only [Q0] at hx;subst hx;have hmem:(g',g)∈r2:=by rw [hr,Wf];exact ZZ _ (kL hg)
       exact ⟨g,hm _ hmem,by rw [hog];exact .box _ _ b0 b1,hmem,by rw [hog];rfl,.inl ⟨_,rfl⟩⟩
      .exact ih g' x hx
     .cases h
    .cases h
   .rename_i fz0 a0 i0 sz a i sz' l hog;split at h
    .rename_i hsz;split at h
     .rename_i u' c2 r2 h2;simp only [Q0,Q1] at h;obtain ⟨rfl,rfl,rfl⟩:=h;subst hsz;have hk0:=hk (g0,.arr fz0 a0 i0 sz) (by simp);obtain ⟨rfl,rfl,rfl⟩:=hk0;have hhead:At ins n [P.fO sz l]:=fun k y hk=>ha k y (by cases k with | zero=>simpa using hk | succ k=>simp at hk);have htail:At ins (n+1) u':=fun k y hk=>by
       have:=ha (k+1) y (by simpa using hk);rw [<-this];congr 1;omega
      obtain ⟨⟨r,hr⟩,ih⟩:=uh (n:=n+1) h2 (fun p hp=>hk p (by simp [hp])) (qp hc) hm htail;simp only [gI,tY,hhead.head,P.oh];refine ⟨⟨r,hr⟩,fun g' x hx => ?_⟩;simp only [List.lookup] at hx;split at hx
      .rename_i he;have he:g'=g0:=by simpa using he
       subst he;simp only [Q0] at hx;subst hx;have hmem:(g',g)∈r2:=by rw [hr];exact ZZ _ (kL hg)
       exact ⟨g,hm _ hmem,by rw [hog];exact .arr false sz l ⟨rfl,rfl,ug hc⟩,hmem,by rw [hog];rfl,.inr (.inl ⟨_,_,rfl⟩)⟩
      .exact ih g' x hx
     .cases h
    .cases h
   .rename_i a0 i0 sz aj a i sz' kF l hog;split at h
    .rename_i hsz;obtain ⟨rfl,rfl⟩:=hsz;split at h
     .rename_i u' c2 r2 h2;simp only [Q0,Q1] at h;obtain ⟨rfl,rfl,rfl⟩:=h;have hk0:=hk (g0,.aN a0 i0 sz aj) (by simp);obtain ⟨rfl,rfl⟩:=hk0;have hhead:At ins n [P.fO sz l]:=fun k y hk=>ha k y (by cases k with | zero=>simpa using hk | succ k=>simp at hk);have htail:At ins (n+1) u':=fun k y hk=>by
       have:=ha (k+1) y (by simpa using hk);rw [<-this];congr 1;omega
      obtain ⟨⟨r,hr⟩,ih⟩:=uh (n:=n+1) h2 (fun p hp=>hk p (by simp [hp])) (qp hc) hm htail;simp only [gI,tY,hhead.head,P.oh];refine ⟨⟨r,hr⟩,fun g' x hx => ?_⟩;simp only [List.lookup] at hx;split at hx
      .rename_i he;have he:g'=g0:=by simpa using he
       subst he;simp only [Q0] at hx;subst hx;have hmem:(g',g)∈r2:=by rw [hr];exact ZZ _ (kL hg)
       exact ⟨g,hm _ hmem,by rw [hog];exact .aN sz aj l ⟨rfl,rfl,ug hc⟩,hmem,by rw [hog];rfl,.inr (.inr ⟨_,_,_,rfl⟩)⟩
      .exact ih g' x hx
     .cases h
    .cases h
   .cases h
  .cases h
end
section
variable {E E':Env} {st est:St} {gh lF:Nat->Gh} {w:World} {ins:List P} {A:Bool×Bool} {uV:List Nat} {m:Nat->Option Nat} {nil:Nat->Prop} {C:Bool->Bool->Bool->Bool->Prop}
theorem Qz (hP :∀x v y a i gs,fA E st gh w x v->x.toP st.o=some (y,a,i,gs)->cin (a,i) A->(∀g∈gs,g∈uV)->dh w (E'.ok est lF w true false) y v) (hC:Cast C m nil E E' st est gh lF w)
  {k:WS} {x:W} {v:Value} {us:List P} {c:Bool×Bool} {gs:List Nat} {r:List (Nat×Nat)} {n:Nat} (h:fJ st.o k x=some (us,c,gs,r)) (hk:k.flags true false=true) (hc:cin c A) (hgs :∀g∈gs,g∈uV)
  (hm :∀p∈r,m p.1=some p.2) (ha:At ins n us) (hr:fA E st gh w x v):fA E' est lF w (qo ins n k).1 v/\(qo ins n k).2=n+us.length:=by
 cases k with
 |p a' i'=>
  obtain ⟨rfl,rfl⟩:=WJ hk;simp only [fJ] at h;split at h
  .rename_i y a i gs' ht;simp only [Q0,Q1] at h;obtain ⟨rfl,rfl,rfl,rfl⟩:=h;exact ⟨by simp only [qo,ha.head];exact .p _ _ _ _ (hP _ _ _ _ _ _ hr ht hc hgs),rfl⟩
  .cases h
 |own g'=>
  cases x with
  |own g=>
   simp only [fJ,Q0,Q1] at h;obtain ⟨rfl,rfl,rfl,rfl⟩:=h;exact ⟨hC.zQ (.own (hm (g',g) (by simp))) hr,rfl⟩
  |_=>simp [fJ] at h
 |box g' off=>
  cases x with
  |box g off'=>
   cases off with
   |succ off=>simp [fJ] at h
   |zero=>
    cases off' with
    |succ off'=>simp [fJ] at h
    |zero=>
     simp only [fJ,Q0,Q1] at h;obtain ⟨rfl,rfl,rfl,rfl⟩:=h;exact ⟨hC.zQ (.box (hm (g',g) (by simp))) hr,rfl⟩
  |_=>cases off<;>simp [fJ] at h
 |fn f gs0=>
  cases x with
  |clo f' caps=>
   simp only [fJ] at h;split at h
   .rename_i hf;subst hf;split at h
    .rename_i r' hr';simp only [Q0,Q1] at h;obtain ⟨rfl,rfl,rfl,rfl⟩:=h;obtain ⟨e1,e2⟩:=Aa (C:=C) (nil:=nil) hr' hm;exact ⟨hC.zQ (.clo f caps (gG gs0) e1 e2) hr,rfl⟩
    .cases h
   .cases h
  |_=>simp [fJ] at h
 |_=>simp [fJ] at h
theorem Ls (hP :∀x v y a i gs,fA E st gh w x v->x.toP st.o=some (y,a,i,gs)->cin (a,i) A->(∀g∈gs,g∈uV)->dh w (E'.ok est lF w true false) y v) (hC:Cast C m nil E E' st est gh lF w) :
  ∀{ks:List WS} {xs:List W} {cs:List Value} {us:List P} {c:Bool×Bool} {gs:List Nat} {r:List (Nat×Nat)} {n:Nat},jI st.o ks xs=some (us,c,gs,r)->(∀k∈ks,k.flags true false=true)->cin c A->(∀g∈gs,g∈uV)->
   (∀p∈r,m p.1=some p.2)->At ins n us->xs.length=cs.length->(∀(j:Nat) x v,xs[j]?=some x->cs[j]?=some v->fA E st gh w x v)->
   (kW ins n ks).1.length=cs.length/\(∀(j:Nat) x v,(kW ins n ks).1[j]?=some x->cs[j]?=some v->fA E' est lF w x v)/\(kW ins n ks).2=n+us.length
 | [],xs,cs,us,c,gs,r,n,h,hk,hc,hgs,hm,ha,hl,hr=>by
  cases xs with
  |nil=>simp [jI] at h;obtain ⟨rfl,_⟩:=h;exact ⟨hl,fun j x v hx=>by simp [kW] at hx,rfl⟩
  |cons x xs=>simp [jI] at h
 |k::ks,xs,cs,us,c,gs,r,n,h,hk,hc,hgs,hm,ha,hl,hr=>by
  cases xs with
  |nil=>simp [jI] at h
  |cons x xs=>
   cases cs with
   |nil=>simp at hl
   |cons v cs=>
    simp only [jI] at h;split at h
    .rename_i u c1 g1 r1 u' c2 g2 r2 h1 h2;simp only [Q0,Q1] at h;obtain ⟨rfl,rfl,rfl,rfl⟩:=h;obtain ⟨a1,a2⟩:=Qz hP hC h1 (hk k (by simp)) (ug hc) (fun g hg=>hgs g (by simp [hg])) (fun p hp=>hm p (by simp [hp])) ha.left (hr 0 x v rfl rfl);have ih:=Ls hP hC (n:=n+u.length) h2 (fun k hk'=>hk k (by simp [hk'])) (qp hc) (fun g hg=>hgs g (by simp [hg])) (fun p hp=>hm p (by simp [hp])) ha.right (by simpa using hl)
      (fun j a b ha hb=>hr (j+1) a b (by simpa using ha) (by simpa using hb))
     simp only [kW,a2];refine ⟨by simp [ih.1],fun j x' v' hx hv => ?_,by rw [ih.2.2];simp;omega⟩;cases j with
     |zero=>simp at hx hv;subst hx hv;exact a1
     |succ j=>simp at hx hv;exact ih.2.1 j x' v' hx hv
    .cases h
theorem abt (hP :∀x v y a i gs,fA E st gh w x v->x.toP st.o=some (y,a,i,gs)->cin (a,i) A->(∀g∈gs,g∈uV)->dh w (E'.ok est lF w true false) y v) (hC:Cast C m nil E E' st est gh lF w)
  {k:SS} {x:S} {v:Value} {us:List P} {c:Bool×Bool} {gs:List Nat} {r:List (Nat×Nat)} {n:Nat} (h:oC st.o k x=some (us,c,gs,r)) (hk:k.flags true false=true) (hc:cin c A) (hgs :∀g∈gs,g∈uV)
  (hm :∀p∈r,m p.1=some p.2) (ha:At ins n us) (hr:dH E st gh w x v):dH E' est lF w (mkS ins n k).1 v/\(mkS ins n k).2=n+us.length:=by
 cases k with
 |one k=>
  cases x with
  |v x=>
   cases x with
   |one x=>
    obtain ⟨a1,a2⟩:=Qz hP hC h hk hc hgs hm ha hr.dG;exact ⟨dH.Hw a1,a2⟩
   |agg xs=>simp [oC] at h
  |_=>simp [oC] at h
 |agg ks=>
  cases x with
  |v x=>
   cases x with
   |one x=>simp [oC] at h
   |agg xs=>
    obtain ⟨cs,hv,hl,hone,hrr⟩:=hr.Gv;simp only [SS.flags,X2] at hk;obtain ⟨a0,a1,a2⟩:=Ls hP hC h hk hc hgs hm ha hl hrr;subst hv;exact ⟨.v _ _ (.agg _ cs a0 hone a1),a2⟩
  |_=>simp [oC] at h
theorem BN (hP :∀x v y a i gs,fA E st gh w x v->x.toP st.o=some (y,a,i,gs)->cin (a,i) A->(∀g∈gs,g∈uV)->dh w (E'.ok est lF w true false) y v) (hC:Cast C m nil E E' st est gh lF w) {args:List S} {vals:Nat->Value}
  (hr :∀t,dH E st gh w (args.getD t .no) (vals t)) :
  ∀{L:List (Nat×SS)} {us:List P} {c:Bool×Bool} {gs:List Nat} {r:List (Nat×Nat)} {n:Nat},eU st.o args L=some (us,c,gs,r)->(∀p∈L,p.2.flags true false=true)->cin c A->(∀g∈gs,g∈uV)->
   (∀p∈r,m p.1=some p.2)->At ins n us->(∀t x,(dF ins n L).1.lookup t=some x->dH E' est lF w x (vals t))/\(dF ins n L).2=n+us.length
 | [],us,c,gs,r,n,h,hk,hc,hgs,hm,ha=>by
  simp [eU] at h;obtain ⟨rfl,_⟩:=h;exact ⟨fun t x hx=>by simp [dF] at hx,rfl⟩
 |(t0,k)::L,us,c,gs,r,n,h,hk,hc,hgs,hm,ha=>by
  simp only [eU] at h;split at h
  .rename_i u c1 g1 r1 u' c2 g2 r2 h1 h2;simp only [Q0,Q1] at h;obtain ⟨rfl,rfl,rfl,rfl⟩:=h;obtain ⟨a1,a2⟩:=abt hP hC h1 (hk (t0,k) (by simp)) (ug hc) (fun g hg=>hgs g (by simp [hg])) (fun p hp=>hm p (by simp [hp])) ha.left (hr t0);have ih:=BN hP hC hr (n:=n+u.length) h2 (fun p hp=>hk p (by simp [hp])) (qp hc) (fun g hg=>hgs g (by simp [hg])) (fun p hp=>hm p (by simp [hp])) ha.right;simp only [dF,a2];refine ⟨fun t x hx => ?_,by rw [ih.2];simp;omega⟩;simp only [List.lookup] at hx;split at hx
   .rename_i he;have he:t=t0:=by simpa using he
    subst he;simp only [Q0] at hx;subst hx;exact a1
   .exact ih.1 t x hx
  .cases h
end
end Go.Fw

namespace Go.Fw
variable [eF]
def Enters (Pg:Program) (f:FuncId):Prop :=∀(args:Array Value) (w:World),(callFunc f args).run Pg w=.ok (.enter f args) w
def Y7 (rs:List Value):Value:=match rs with
 | [v]=>v
 |vs=>.tuple vs.toArray
def Sound (Pg:Program) (f:FuncId) (sp:Spec):Prop:=sp.sig.ok=true/\Enters Pg f/\
 ∀(E:Env) (w:World) (vals:List Value) (gh:Nat->Gh) (ins bW:List P),sp.R ins bW->E.B0=w.heap.size->E.w0=w->Rel E (mk sp.sig.pin ins) gh (fun k=>vals.getD k undef) w->vals.length=sp.sig.bD->
  Calls Pg f vals.toArray w fun e w' =>∃(rs:List Value) (bK:Nat->Gh),rs.length=sp.sig.dw/\e=.returned (Y7 rs)/\Rel E (mk sp.sig.aP bW) bK (fun k=>rs.getD k undef) w'/\∀g∈sp.sig.aY,((bK g).ad=(gh g).ad/\(bK g).cap=(gh g).cap)/\((mk sp.sig.pin ins).o g).like ((mk sp.sig.aP bW).o g)
theorem afd {o:Nat->O} {x:W} {y:P} {a i:Bool} {gs:List Nat} (h:x.toP o=some (y,a,i,gs)):xw o gs:=by
 cases x<;>simp only [W.toP] at h
 case p=>simp only [Q0,Q1] at h;obtain ⟨_,_,_,rfl⟩:=h;exact xw.nil
 case dD=>simp only [Q0,Q1] at h;obtain ⟨_,_,_,rfl⟩:=h;exact xw.nil
 case own g=>
  split at h
  .rename_i ho;simp only [Q0,Q1] at h;obtain ⟨_,_,_,rfl⟩:=h;exact vH ho
  .cases h
 case vw g lo hi=>
  split at h
  .rename_i ho;simp only [Q0,Q1] at h;obtain ⟨_,_,_,rfl⟩:=h;exact vH ho
  .cases h
 all_goals cases h
theorem QA {o:Nat->O} {k:WS} {x:W} {us:List P} {c:Bool×Bool} {gs:List Nat} {r:List (Nat×Nat)} (h:fJ o k x=some (us,c,gs,r)):xw o gs:=by
 cases k with
 |p a i=>
  simp only [fJ] at h;split at h
  .rename_i ht;simp only [Q0,Q1] at h;obtain ⟨_,_,rfl,_⟩:=h;exact afd ht
  .cases h
 |own g'=>cases x<;>simp [fJ] at h;obtain ⟨_,_,rfl,_⟩:=h;exact xw.nil
 |box g' off=>
  cases off with
  |succ off=>cases x<;>simp [fJ] at h
  |zero=>
   cases x with
   |box g off=>cases off<;>simp [fJ] at h;obtain ⟨_,_,rfl,_⟩:=h;exact xw.nil
   |_=>simp [fJ] at h
 |dD=>simp [fJ] at h
 |fn f gs0=>
  cases x with
  |clo f' caps=>
   simp only [fJ] at h;split at h
   .split at h
    .simp only [Q0,Q1] at h;obtain ⟨_,_,rfl,_⟩:=h;exact xw.nil
    .cases h
   .cases h
  |_=>simp [fJ] at h
 |nC g'=>simp [fJ] at h
 |no=>simp [fJ] at h
 |vw g'=>simp [fJ] at h
 |ep g' off=>simp [fJ] at h
theorem Lu {o:Nat->O} :∀{ks:List WS} {xs:List W} {us:List P} {c:Bool×Bool} {gs:List Nat} {r:List (Nat×Nat)},jI o ks xs=some (us,c,gs,r)->xw o gs
 | [],xs,us,c,gs,r,h=>by
  cases xs<;>simp [jI] at h;obtain ⟨_,_,rfl,_⟩:=h;exact xw.nil
 |k::ks,xs,us,c,gs,r,h=>by
  cases xs with
  |nil=>simp [jI] at h
  |cons x xs=>
   simp only [jI] at h;split at h
   .rename_i h1 h2;simp only [Q0,Q1] at h;obtain ⟨_,_,rfl,_⟩:=h;exact (QA h1).append (Lu h2)
   .cases h
theorem vO {o:Nat->O} {args:List S} :∀{L:List (Nat×SS)} {us:List P} {c:Bool×Bool} {gs:List Nat} {r:List (Nat×Nat)},eU o args L=some (us,c,gs,r)->xw o gs
 | [],us,c,gs,r,h=>by simp [eU] at h;obtain ⟨_,_,rfl,_⟩:=h;exact xw.nil
 |(t,k)::L,us,c,gs,r,h=>by
  simp only [eU] at h;split at h
  .rename_i h1 h2;simp only [Q0,Q1] at h;obtain ⟨_,_,rfl,_⟩:=h;refine xw.append ?_ (vO h2)
   .cases k with
    |one k=>
     generalize args.getD t S.no=z at h1;cases z with
     |v z=>
      cases z with
      |one z=>exact QA h1
      |agg z=>simp [oC] at h1
     |_=>simp [oC] at h1
    |agg ks=>
     generalize args.getD t S.no=z at h1;cases z with
     |v z=>
      cases z with
      |one z=>simp [oC] at h1
      |agg z=>exact Lu h1
     |_=>simp [oC] at h1
  .cases h
theorem vP {vs:List P} :∀{L:List (Nat×OS)} {n g:Nat},g∈L.map (·.1)->∃x,(gI vs n L).1.lookup g=some x
 | [],n,g,h=>by simp at h
 |(g0,k)::L,n,g,h=>by
  simp only [gI,List.lookup];by_cases e:g=g0
  .subst e;simp
  .have:(g==g0)=false:=by simpa using e
   rw [this];exact vP (by simpa [e] using h)
theorem kX {vs:List P} :∀{L:List (Nat×OS)} {n g:Nat} {x:O},(gI vs n L).1.lookup g=some x->∃k n',(g,k)∈L/\x=(tY vs n' k).1
 | [],n,g,x,h=>by simp [gI] at h
 |(g0,k)::L,n,g,x,h=>by
  simp only [gI,List.lookup] at h;split at h
  .rename_i e;have e:g=g0:=by simpa using e
   subst e;simp only [Q0] at h;exact ⟨k,n,by simp,h.symm⟩
  .obtain ⟨k',n',h1,h2⟩:=kX h;exact ⟨k',n',by simp [h1],h2⟩
theorem xM {vs:List P} :∀{L:List (Nat×SS)} {n t:Nat} {x:S},(dF vs n L).1.lookup t=some x->∃k n',(t,k)∈L/\x=(mkS vs n' k).1
 | [],n,t,x,h=>by simp [dF] at h
 |(t0,k)::L,n,t,x,h=>by
  simp only [dF,List.lookup] at h;split at h
  .rename_i e;have e:t=t0:=by simpa using e
   subst e;simp only [Q0] at h;exact ⟨k,n,by simp,h.symm⟩
  .obtain ⟨k',n',h1,h2⟩:=xM h;exact ⟨k',n',by simp [h1],h2⟩
theorem LC (vs:List P) (n:Nat) (k:WS):(qo vs n k).1.names=k.names:=by
 cases k with
 |fn f gs=>simp only [qo,t_,vN,WS.names]
 |_=>simp [qo,W.names,WS.names]
theorem Ac (vs:List P) :∀(n:Nat) (ks:List WS),(kW vs n ks).1.flatMap W.names=ks.flatMap WS.names
 |n,[]=>rfl
 |n,k::ks=>by simp [kW,LC,Ac vs _ ks]
theorem Y8 (vs:List P) (n:Nat) (k:SS):(mkS vs n k).1.names=k.names:=by
 cases k with
 |one k=>simpa [mkS,S.names,V.names,SS.names] using LC vs n k
 |agg ks=>simpa [mkS,S.names,V.names,SS.names] using Ac vs n ks
theorem Y9 (vs:List P) (n:Nat) (k:OS):(tY vs n k).1.names=k.names:=by
 cases k with
 |box ks=>simpa [tY,O.names,OS.names] using Ac vs n ks
 |arr=>simp [tY,O.names,OS.names]
 |it=>simp [tY,O.names,OS.names]
 |aN=>simp [tY,O.names,OS.names,dJ]
theorem UG {j:Shape} {vs:List P} {g:Nat} (h:(mk j vs).o g≠.none):(gI vs (dF vs 0 j.slots).2 j.bf).1.lookup g=some ((mk j vs).o g):=by
 unfold mk at h ⊢;simp only at h ⊢;split at h
 .rename_i x hx;rw [hx]
 .exact absurd rfl h
theorem LD {j:Shape} {vs:List P} {g:Nat} (h:g∉j.nms):(mk j vs).o g=.none:=by
 by_cases hn:(mk j vs).o g=.none
 .exact hn
 .obtain ⟨k,n',h1,h2⟩:=kX (UG hn);exact absurd (QQ.2 ⟨_,h1,rfl⟩) h
theorem ahG {j:Shape} (hj:j.ok=true) (vs:List P):(∀t,∀g∈((mk j vs).s t).names,(mk j vs).used g=true)/\(∀g,∀g'∈((mk j vs).o g).names,(mk j vs).used g'=true)/\∀g,(mk j vs).o g≠.none->(mk j vs).used g=true:=by
 simp only [Q6,Shape.ok,X2,Wm,decide_eq_true_eq] at hj;refine ⟨fun t g hg => ?_,fun g g' hg' => ?_,fun g hg => ?_⟩
 .have hg:g∈(match (dF vs 0 j.slots).1.lookup t with | some x=>x | none=>S.no).names:=hg;cases hx:(dF vs 0 j.slots).1.lookup t with
  |none=>rw [hx] at hg;simp [S.names] at hg
  |some x=>
   rw [hx] at hg;obtain ⟨k,n',h1,h2⟩:=xM hx;subst h2;simp only at hg;rw [Y8] at hg;simpa [mk] using hj.1.2 _ h1 g hg
 .by_cases hn:(mk j vs).o g=.none
  .rw [hn] at hg';simp [O.names] at hg'
  .obtain ⟨k,n',h1,h2⟩:=kX (UG hn);rw [h2,Y9] at hg';simpa [mk] using hj.2 _ h1 g' hg'
 .obtain ⟨k,n',h1,h2⟩:=kX (UG hg);simp only [mk,Wm,decide_eq_true_eq,Shape.nms];exact QQ.2 ⟨_,h1,rfl⟩
section
variable {E:Env} {st:St} {gh:Nat->Gh} {w:World} {val:Nat->Value}
def WM (h:Rel E st gh val w) (st1:St) (c:KL):Env where
 FA:=fun b=>E.ok st1 gh w c.A.1 c.A.2 b
 FI:=fun b=>E.ok st gh w c.I.1 c.I.2 b
 B0:=w.heap.size
 w0:=w
 Wr:=fun b =>∃p∈c.ren,(st.o p.2).bP=true/\(gh p.2).has b
 hg:=fun g sz rows hg=>by
  obtain ⟨g1,g2,g3⟩:=E.hg g sz rows hg;refine ⟨Wz g1 h.size,?_,fun n x hx=>⟨(g3 n x hx).1,fun j y hy => ?_⟩⟩
  .rintro ⟨p,hp,ho,h1⟩;rcases (h.wr p.2 g ho h1).1 with q | q
   .omega
   .exact g2 q
  .obtain ⟨u,hu1,hu2⟩:=(g3 n x hx).2 j y hy;exact ⟨u,(World.cell?_of_block (w:=E.w0) (h.frame g g1 g2)).trans hu1,hu2.mono fun _ f=>f.elim⟩
theorem EW {vs:List P} :∀{L:List (Nat×OS)} {n:Nat} {g:Nat} {k:OS},L.lookup g=some k->∃n',(gI vs n L).1.lookup g=some (tY vs n' k).1
 | [],n,g,k,h=>by cases h
 |(g0,k0)::L,n,g,k,h=>by
  simp only [gI,List.lookup] at h ⊢;split at h
  .cases h;exact ⟨_,rfl⟩
  .exact EW h
theorem N_ {j:Shape} {vs:List P} {g:Nat} {k:OS} (h:j.bf.lookup g=some k) :∃n',(mk j vs).o g=(tY vs n' k).1:=by
 obtain ⟨n',h1⟩:=EW (vs:=vs) (n:=(dF vs 0 j.slots).2) h;refine ⟨n',?_⟩;show (match (gI vs (dF vs 0 j.slots).2 j.bf).1.lookup g with | some x=>x | none=>O.none)=_;rw [h1]
theorem QB {j:Shape} {vs:List P} {g:Nat} (h:OS.abq (j.bf.lookup g)=true) :∃ws,(mk j vs).o g=.box ws:=by
 cases hl:j.bf.lookup g with
 |none=>rw [hl] at h;cases h
 |some k=>
  rw [hl] at h;cases k with
  |box ks=>obtain ⟨n',h1⟩:=N_ (vs:=vs) hl;exact ⟨_,h1⟩
  |arr=>cases h
  |it=>cases h
  |aN=>cases h
theorem yY.LG {s:yY} (h:s.abr=true) {ins bW:List P} :∀g∈s.aY,((Fw.mk s.pin ins).o g).like ((Fw.mk s.aP bW).o g):=fun g hg=>by
 have:=(X2.1 h) g hg;simp only [Q6] at this;obtain ⟨ws,e1⟩:=QB (vs:=ins) this.1;obtain ⟨ws',e2⟩:=QB (vs:=bW) this.2;rw [e1,e2];trivial
theorem mZ {p:Nat×Nat} :∀{r:List (Nat×Nat)},p∈jT r↔p∈r
 | []=>Iff.rfl
 |q::r=>by
  simp only [jT];cases h:(r.any fun x=>Nat.beq x.1 q.1&&Nat.beq x.2 q.2) with
  |true=>
   simp only [mZ (r:=r),QP];refine ⟨.inr,fun hp => ?_⟩;rcases hp with rfl | hp
   .obtain ⟨x,hx,e⟩:=KB.1 h;simp only [Q6] at e;have e1:=Q4 e.1;have e2:=Q4 e.2;have:x=p:=Prod.ext e1 e2;rw [<-this];exact hx
   .exact hp
  |false=>simp only [QP,mZ (r:=r)]
def rQ:O->O
 |.arr fz _ _ sz l=>.arr fz false false sz l
 |.aN _ _ sz aj l hole=>.aN false false sz aj l hole
 |x=>x
def tq:O->Bool×Bool
 |.arr _ a i _ _=>(a,i)
 |.aN a i _ _ _ _=>(a,i)
 |_=>(false,false)
def UH:O->Bool
 |.arr _ _ _ _ _=>true
 |.aN _ _ _ _ _ _=>true
 |_=>false
theorem UJ {x y:O} (h:rQ x=rQ y) (hf:tq x=tq y) (ha:UH x=true):x=y:=by
 cases x<;>simp only [UH,W4] at ha<;>cases y<;>simp only [rQ,tq,O.arr.injEq,O.aN.injEq,Q1,reduceCtorEq] at h hf
 .obtain ⟨rfl,_,_,rfl,rfl⟩:=h;obtain ⟨rfl,rfl⟩:=hf;rfl
 .obtain ⟨_,_,rfl,rfl,rfl,rfl⟩:=h;obtain ⟨rfl,rfl⟩:=hf;rfl
theorem Y_ {s:yY} (hok:s.ok=true) {o:Nat->O} {args:List S} {c:KL} (hc:gZ s o args=some c) (hf:c.fine s=true) :∀p∈c.ren,UH (o p.2)=true->rQ ((mk s.pin c.ins).o p.1)=rQ (o p.2):=by
 unfold gZ at hc;split at hc
 .rename_i u A gs r hsl;split at hc
  .rename_i u' I r' hob;simp only [Q0] at hc;subst hc;simp only [KL.fine,Q6,X2,N8,Wm,decide_eq_true_eq,Wc,decide_eq_false_iff_not,QQ,forall_exists_index,and_imp,forall_apply_eq_imp_iff₂] at hf;obtain ⟨⟨⟨hn2,hn1⟩,hdisj⟩,hkeys⟩:=hf;have hn1:=jr hn1;have hok':=hok;simp only [yY.ok,Q6] at hok';obtain ⟨⟨⟨⟨⟨⟨⟨⟨abu,WO⟩,hps⟩,hpo⟩,_⟩,_⟩,_⟩,_⟩,_⟩:=hok';have hm :∀p∈r',(fun g'=>(jT r').lookup g') p.1=some p.2:=fun p hp=>mD hn1 (mZ.2 hp);have hAt:At (u++u') 0 (u++u'):=fun k y hk=>by rw [WD];exact hk
   have ai9 :∀p∈s.pin.bf,match p.2 with | .box ws =>∀k∈ws,k.flags false true=true | .arr fz a i _=>fz=false/\a=false/\i=true | .aN a i _ _=>a=false/\i=true | .it=>False:=by
    intro p hp;have:=(X2.1 hpo) p hp;obtain ⟨g,k⟩:=p;cases k with
    |box ws=>
     simp only [Q6,X2] at this;exact fun k hk=>this.1 k hk
    |arr fz a i sz=>
     simp only [Q6,Wc] at this;exact ⟨this.1.1,this.1.2,this.2⟩
    |aN a i sz aj=>
     simp only [Q6,Wc] at this;exact this
    |it=>simp at this
   have QC:(dF (u++u') 0 s.pin.slots).2=u.length:=by
    have :∀{L:List (Nat×SS)} {us:List P} {c:Bool×Bool} {gs:List Nat} {r:List (Nat×Nat)} {n:Nat} (vs:List P),eU o args L=some (us,c,gs,r)->(∀p∈L,p.2.flags true false=true)->(dF vs n L).2=n+us.length:=by
     intro L
     induction L with
     |nil=>intro us c gs r n vs h _;simp [eU] at h;obtain ⟨rfl,_⟩:=h;rfl
     |cons p L ih=>
      intro us c gs r n vs h hk;obtain ⟨t0,k⟩:=p;simp only [eU] at h;split at h
      .rename_i u c1 g1 r1 u' c2 g2 r2 h1 h2;simp only [Q0,Q1] at h;obtain ⟨rfl,rfl,rfl,rfl⟩:=h;have e1:(mkS vs n k).2=n+u.length:=by
        have hkk:=hk (t0,k) (by simp);have one :∀(k:WS) (x:W) (us:List P) (c:Bool×Bool) (gs:List Nat) (r:List (Nat×Nat)) (n:Nat),fJ o k x=some (us,c,gs,r)->(qo vs n k).2=n+us.length:=by
         intro k x us c gs r n h;cases k with
         |p a i=>
          simp only [fJ] at h;split at h
          .simp only [Q0,Q1] at h;obtain ⟨rfl,_⟩:=h;rfl
          .cases h
         |own g'=>cases x<;>simp [fJ] at h;obtain ⟨rfl,_⟩:=h;rfl
         |box g' off=>
          cases off with
          |succ off=>cases x<;>simp [fJ] at h
          |zero=>
           cases x with
           |box g off=>cases off<;>simp [fJ] at h;obtain ⟨rfl,_⟩:=h;rfl
           |_=>simp [fJ] at h
         |dD=>simp [fJ] at h
         |fn f gs0=>
          cases x with
          |clo f' caps=>
           simp only [fJ] at h;split at h
           .split at h
            .simp only [Q0,Q1] at h;obtain ⟨rfl,_⟩:=h;rfl
            .cases h
           .cases h
          |_=>simp [fJ] at h
         |nC g'=>simp [fJ] at h
         |no=>simp [fJ] at h
         |vw g'=>simp [fJ] at h
         |ep g' off=>simp [fJ] at h
        cases k with
        |one k=>
         generalize args.getD t0 S.no=z at h1;cases z with
         |v z=>
          cases z with
          |one z=>exact one k z _ _ _ _ n h1
          |agg z=>simp [oC] at h1
         |_=>simp [oC] at h1
        |agg ks=>
         generalize args.getD t0 S.no=z at h1;cases z with
         |v z=>
          cases z with
          |one z=>simp [oC] at h1
          |agg z=>
           have :∀(ks:List WS) (z:List W) (us:List P) (c:Bool×Bool) (gs:List Nat) (r:List (Nat×Nat)) (n:Nat),jI o ks z=some (us,c,gs,r)->(kW vs n ks).2=n+us.length:=by
            intro ks
            induction ks with
            |nil=>intro z us c gs r n h;cases z<;>simp [jI] at h;obtain ⟨rfl,_⟩:=h;rfl
            |cons k ks ih=>
             intro z us c gs r n h;cases z with
             |nil=>simp [jI] at h
             |cons x xs=>
              simp only [jI] at h;split at h
              .rename_i u c1 g1 r1 u' c2 g2 r2 h1 h2;simp only [Q0,Q1] at h;obtain ⟨rfl,rfl,rfl,rfl⟩:=h;simp only [kW];rw [one k x _ _ _ _ n h1,ih _ _ _ _ _ _ h2];simp;omega
              .cases h
           exact this ks z _ _ _ _ n h1
         |_=>simp [oC] at h1
       simp only [dF];rw [e1,ih vs h2 (fun p hp=>hk p (by simp [hp]))];simp;omega
      .cases h
    have:=this (n:=0) (u++u') hsl (fun p hp=>by have:=(X2.1 hps) p hp;simp only [Q6] at this;exact this.1);omega
   obtain ⟨⟨r0,hr0⟩,QD⟩:=uh (m:=fun g'=>(jT r').lookup g') (nil:=fun _=>False) (I:=I) (ins:=u++u') (n:=u.length) hob ai9 (Ii I) hm (by have:=hAt.right;rwa [WD] at this);have Dw :∀g' x,(mk s.pin (u++u')).o g'=x->x≠.none->∃g,(jT r').lookup g'=some g/\Ow (Cio I) (fun g'=>(jT r').lookup g') (fun _=>False) (o g) x/\(g',g)∈jT r'/\(o g).bP=true/\((∃ws,x=.box ws)\/(∃l sz,x=.arr false false true sz l)\/∃l sz aj,x=.aN false true sz aj l none):=by
    intro g' x hx hne;have:=UG (j:=s.pin) (vs:=u++u') (g:=g') (by rw [hx];exact hne);rw [QC,hx] at this;obtain ⟨g,k1,k2,k3,k4⟩:=QD g' x this;exact ⟨g,k1,k2,mZ.2 k3,k4⟩
   intro p hp ha;have hkey:p.1∈s.pin.bf.map (·.1):=hkeys p hp;obtain ⟨x,hx⟩:=vP (vs:=u++u') (n:=u.length) hkey;obtain ⟨g,hg,how,hmem,hown,hsh⟩:=QD p.1 x hx;have hl:=mD hn1 hp;have:g=p.2:=by have hg':(jT r').lookup p.1=some g:=hg;rw [hl] at hg';exact (Wa hg').symm
   subst this;have hmk:(mk s.pin (u++u')).o p.1=x:=by
    show (match (gI (u++u') (dF (u++u') 0 s.pin.slots).2 s.pin.bf).1.lookup p.1 with | some x=>x | none=>O.none)=x;rw [QC,hx]
   rw [hmk];generalize hz:o p.2=z at how ha;rcases hsh with ⟨ws,rfl⟩ | ⟨l,sz,rfl⟩ | ⟨l,sz,aj,rfl⟩
   .cases how;cases ha
   .cases how;rfl
   .cases how;rfl
  .cases hc
 .cases hc
theorem UK (h:Rel E st gh val w) {s:yY} (hok:s.ok=true) {args:List S} {vals:Nat->Value} (hr :∀t,dH E st gh w (args.getD t .no) (vals t)) {c:KL} (hc:gZ s st.o args=some c) (hf:c.fine s=true)
  (st1:St) (hst1:st1=st.aI (c.uV.map (Fw.aT st.o)) []) (E':Env) (hE':E'=WM h st1 c) :
  Rel E st1 gh val w/\Lets E st st1 gh gh w w/\Rel E' (mk s.pin c.ins) (jE gh fun g'=>c.ren.lookup g') vals w/\
  (∀p∈c.ren,(st.o p.2).bP=true/\p.2∉c.uV/\c.ren.lookup p.1=some p.2/\((s.aY.contains p.1=true/\∃ws ws',st.o p.2=.box ws/\(mk s.pin c.ins).o p.1=.box ws')\/(∃a i sz l,st.o p.2=.arr false a i sz l/\cin (a,i) c.I/\(mk s.pin c.ins).o p.1=.arr false false true sz l)\/(∃a i sz aj l,st.o p.2=.aN a i sz aj l none/\cin (a,i) c.I/\(mk s.pin c.ins).o p.1=.aN false true sz aj l none))):=by
 unfold gZ at hc;split at hc
 .rename_i u A gs r hsl;split at hc
  .rename_i u' I r' hob;simp only [Q0] at hc;subst hc;simp only [KL.fine,Q6,X2,N8,Wm,decide_eq_true_eq,Wc,decide_eq_false_iff_not,QQ,forall_exists_index,and_imp,forall_apply_eq_imp_iff₂] at hf;obtain ⟨⟨⟨hn2,hn1⟩,hdisj⟩,hkeys⟩:=hf;have hn1:=jr hn1;have hok':=hok;simp only [yY.ok,Q6] at hok';obtain ⟨⟨⟨⟨⟨⟨⟨⟨abu,WO⟩,hps⟩,hpo⟩,_⟩,_⟩,_⟩,_⟩,_⟩:=hok';have ai_:=vO hsl;obtain ⟨f1,f2⟩:=Rel.freezes gs h ai_;subst hst1;have hm :∀p∈r',(fun g'=>(jT r').lookup g') p.1=some p.2:=fun p hp=>mD hn1 (mZ.2 hp);have hAt:At (u++u') 0 (u++u'):=fun k y hk=>by rw [WD];exact hk
   have ai9 :∀p∈s.pin.bf,match p.2 with | .box ws =>∀k∈ws,k.flags false true=true | .arr fz a i _=>fz=false/\a=false/\i=true | .aN a i _ _=>a=false/\i=true | .it=>False:=by
    intro p hp;have:=(X2.1 hpo) p hp;obtain ⟨g,k⟩:=p;cases k with
    |box ws=>
     simp only [Q6,X2] at this;exact fun k hk=>this.1 k hk
    |arr fz a i sz=>
     simp only [Q6,Wc] at this;exact ⟨this.1.1,this.1.2,this.2⟩
    |aN a i sz aj=>
     simp only [Q6,Wc] at this;exact this
    |it=>simp at this
   have QC:(dF (u++u') 0 s.pin.slots).2=u.length:=by
    have :∀{L:List (Nat×SS)} {us:List P} {c:Bool×Bool} {gs:List Nat} {r:List (Nat×Nat)} {n:Nat} (vs:List P),eU st.o args L=some (us,c,gs,r)->(∀p∈L,p.2.flags true false=true)->(dF vs n L).2=n+us.length:=by
     intro L
     induction L with
     |nil=>intro us c gs r n vs h _;simp [eU] at h;obtain ⟨rfl,_⟩:=h;rfl
     |cons p L ih=>
      intro us c gs r n vs h hk;obtain ⟨t0,k⟩:=p;simp only [eU] at h;split at h
      .rename_i u c1 g1 r1 u' c2 g2 r2 h1 h2;simp only [Q0,Q1] at h;obtain ⟨rfl,rfl,rfl,rfl⟩:=h;have e1:(mkS vs n k).2=n+u.length:=by
        have hkk:=hk (t0,k) (by simp);have one :∀(k:WS) (x:W) (us:List P) (c:Bool×Bool) (gs:List Nat) (r:List (Nat×Nat)) (n:Nat),fJ st.o k x=some (us,c,gs,r)->(qo vs n k).2=n+us.length:=by
         intro k x us c gs r n h;cases k with
         |p a i=>
          simp only [fJ] at h;split at h
          .simp only [Q0,Q1] at h;obtain ⟨rfl,_⟩:=h;rfl
          .cases h
         |own g'=>cases x<;>simp [fJ] at h;obtain ⟨rfl,_⟩:=h;rfl
         |box g' off=>
          cases off with
          |succ off=>cases x<;>simp [fJ] at h
          |zero=>
           cases x with
           |box g off=>cases off<;>simp [fJ] at h;obtain ⟨rfl,_⟩:=h;rfl
           |_=>simp [fJ] at h
         |dD=>simp [fJ] at h
         |fn f gs0=>
          cases x with
          |clo f' caps=>
           simp only [fJ] at h;split at h
           .split at h
            .simp only [Q0,Q1] at h;obtain ⟨rfl,_⟩:=h;rfl
            .cases h
           .cases h
          |_=>simp [fJ] at h
         |nC g'=>simp [fJ] at h
         |no=>simp [fJ] at h
         |vw g'=>simp [fJ] at h
         |ep g' off=>simp [fJ] at h
        cases k with
        |one k=>
         generalize args.getD t0 S.no=z at h1;cases z with
         |v z=>
          cases z with
          |one z=>exact one k z _ _ _ _ n h1
          |agg z=>simp [oC] at h1
         |_=>simp [oC] at h1
        |agg ks=>
         generalize args.getD t0 S.no=z at h1;cases z with
         |v z=>
          cases z with
          |one z=>simp [oC] at h1
          |agg z=>
           have :∀(ks:List WS) (z:List W) (us:List P) (c:Bool×Bool) (gs:List Nat) (r:List (Nat×Nat)) (n:Nat),jI st.o ks z=some (us,c,gs,r)->(kW vs n ks).2=n+us.length:=by
            intro ks
            induction ks with
            |nil=>intro z us c gs r n h;cases z<;>simp [jI] at h;obtain ⟨rfl,_⟩:=h;rfl
            |cons k ks ih=>
             intro z us c gs r n h;cases z with
             |nil=>simp [jI] at h
             |cons x xs=>
              simp only [jI] at h;split at h
              .rename_i u c1 g1 r1 u' c2 g2 r2 h1 h2;simp only [Q0,Q1] at h;obtain ⟨rfl,rfl,rfl,rfl⟩:=h;simp only [kW];rw [one k x _ _ _ _ n h1,ih _ _ _ _ _ _ h2];simp;omega
              .cases h
           exact this ks z _ _ _ _ n h1
         |_=>simp [oC] at h1
       simp only [dF];rw [e1,ih vs h2 (fun p hp=>hk p (by simp [hp]))];simp;omega
      .cases h
    have:=this (n:=0) (u++u') hsl (fun p hp=>by have:=(X2.1 hps) p hp;simp only [Q6] at this;exact this.1);omega
   obtain ⟨⟨r0,hr0⟩,QD⟩:=uh (m:=fun g'=>(jT r').lookup g') (nil:=fun _=>False) (I:=I) (ins:=u++u') (n:=u.length) hob ai9 (Ii I) hm (by have:=hAt.right;rwa [WD] at this);have Dw :∀g' x,(mk s.pin (u++u')).o g'=x->x≠.none->∃g,(jT r').lookup g'=some g/\Ow (Cio I) (fun g'=>(jT r').lookup g') (fun _=>False) (st.o g) x/\(g',g)∈jT r'/\(st.o g).bP=true/\((∃ws,x=.box ws)\/(∃l sz,x=.arr false false true sz l)\/∃l sz aj,x=.aN false true sz aj l none):=by
    intro g' x hx hne;have:=UG (j:=s.pin) (vs:=u++u') (g:=g') (by rw [hx];exact hne);rw [QC,hx] at this;obtain ⟨g,k1,k2,k3,k4⟩:=QD g' x this;exact ⟨g,k1,k2,mZ.2 k3,k4⟩
   have iE :∀p∈jT r',(st.o p.2).bP=true/\p.2∉gs/\(jT r').lookup p.1=some p.2/\((s.aY.contains p.1=true/\∃ws ws',st.o p.2=.box ws/\(mk s.pin (u++u')).o p.1=.box ws')\/(∃a i sz l,st.o p.2=.arr false a i sz l/\cin (a,i) I/\(mk s.pin (u++u')).o p.1=.arr false false true sz l)\/(∃a i sz aj l,st.o p.2=.aN a i sz aj l none/\cin (a,i) I/\(mk s.pin (u++u')).o p.1=.aN false true sz aj l none)):=by
    intro p hp;have hkey:p.1∈s.pin.bf.map (·.1):=hkeys p hp;obtain ⟨x,hx⟩:=vP (vs:=u++u') (n:=u.length) hkey;obtain ⟨g,hg,how,hmem,hown,_⟩:=QD p.1 x hx;have hl:=mD hn1 hp;have:g=p.2:=by have hg':(jT r').lookup p.1=some g:=hg;rw [hl] at hg';exact (Wa hg').symm
    subst this;refine ⟨hown,hdisj p hp,hl,?_⟩;have hmk:(mk s.pin (u++u')).o p.1=x:=by
     show (match (gI (u++u') (dF (u++u') 0 s.pin.slots).2 s.pin.bf).1.lookup p.1 with | some x=>x | none=>O.none)=x;rw [QC,hx]
    obtain ⟨k,n',h1,h2⟩:=kX hx;have hk:=(X2.1 hpo) _ h1;rw [hmk];subst h2;cases k with
    |box ws=>
     simp only [Q6] at hk;generalize hz:st.o p.2=z at how;cases how;exact .inl ⟨hk.2,_,_,rfl,rfl⟩
    |arr fz a i sz=>
     simp only [Q6,Wc] at hk;obtain ⟨⟨rfl,rfl⟩,rfl⟩:=hk;generalize hz:st.o p.2=z at how;refine .inr (.inl ?_);cases how with | arr _ _ _ hc=>exact ⟨_,_,_,_,rfl,hc.2.2,rfl⟩
    |aN a i sz aj=>
     simp only [Q6,Wc] at hk;obtain ⟨rfl,rfl⟩:=hk;generalize hz:st.o p.2=z at how;refine .inr (.inr ?_);cases how with | aN _ _ _ hc=>exact ⟨_,_,_,_,_,rfl,hc.2.2,rfl⟩
    |it=>simp at hk
   have pI :∀g' b,((mk s.pin (u++u')).o g').bP=true->(jE gh (fun g'=>(jT r').lookup g') g').has b->∃g,(g',g)∈jT r'/\(st.o g).bP=true/\(gh g).has b/\g∉gs:=by
    intro g' b ho had;obtain ⟨g,hg,_,hmem,hown,_⟩:=Dw g' _ rfl (by intro e;rw [e] at ho;cases ho);refine ⟨g,hmem,hown,?_,(iE _ hmem).2.1⟩;simpa [jE,hg] using had
   have aln :∀g,g∉gs->(st.aI (gs.map (Fw.aT st.o)) []).o g=st.o g:=by
    intro g hg;rw [gu,if_neg hg]
   have hcast:Cast (Cio I) (fun g'=>(jT r').lookup g') (fun _=>False) E E' st (mk s.pin (u++u')) gh (jE gh fun g'=>(jT r').lookup g') w:=by
    refine ⟨fun a i a' i' b hC hb => ?_,fun g g' hg sz len ho=>⟨by simp only [jE,hg];exact ⟨trivial,trivial⟩,?_⟩,fun g g' hg ws ho=>⟨by simp only [jE,hg],?_⟩,fun g g' hg s n ho=>⟨by simp only [jE,hg],?_⟩,fun g' hf=>hf.elim⟩
    .obtain ⟨rfl,rfl,hci⟩:=hC;subst hE';refine ⟨.inr (.inl ⟨rfl,.inl (Env.o8 hci.1 hci.2 hb)⟩),hb.2.1,fun g' ho had => ?_⟩;obtain ⟨g,_,h1,h2,_⟩:=pI g' b ho had;exact hb.2.2 g h1 h2
    .obtain ⟨g2,hg2,how,_⟩:=Dw g' _ rfl (by intro e;rw [e] at ho;cases ho);rw [hg] at hg2;cases hg2;exact how.dim ho
    .obtain ⟨g2,hg2,how,_⟩:=Dw g' _ ho (by simp);rw [hg] at hg2;cases hg2;generalize st.o g=z at how;cases how;exact ⟨_,rfl⟩
    .obtain ⟨g2,hg2,how,_⟩:=Dw g' _ ho (by simp);rw [hg] at hg2;cases hg2;generalize st.o g=z at how;cases how;exact ⟨_,_,rfl⟩
   have hP :∀x v y a i gs',fA E st gh w x v->x.toP st.o=some (y,a,i,gs')->cin (a,i) A->(∀g∈gs',g∈gs)->dh w (E'.ok (mk s.pin (u++u')) (jE gh fun g'=>(jT r').lookup g') w true false) y v:=by
    intro x v y a i gs' hrx ht hci hsub;have:=(NP h hrx ht).2 _ (fun g hg=>by rw [gu,if_pos (hsub g hg)]) f1 f2;refine this.mono fun b hb=>⟨?_,rfl⟩;subst hE';refine ⟨.inl ⟨rfl,Env.o8 hci.1 hci.2 hb⟩,hb.2.1,fun g' ho had => ?_⟩;obtain ⟨g,_,h1,h2,h3⟩:=pI g' b ho had;exact hb.2.2 g (by rw [aln g h3];exact h1) h2
   have ape :∀p∈s.pin.slots,p.2.flags true false=true:=fun p hp=>by have:=(X2.1 hps) p hp;simp only [Q6] at this;exact this.1
   have sV:=(BN hP hcast hr (n:=0) hsl ape (Ii A) (fun g hg=>hg) (fun p hp=>hm p (by rw [hr0];exact ZZ _ hp)) hAt.left).1;have hus:=ahG abu (u++u');refine ⟨f1,f2,⟨fun t => ?_,fun g' => ?_,fun g1 g2 b h1 h2 k1 k2 => ?_,fun g' b ho had => ?_,fun g' i b ho had hw => ?_,fun g' ho hd b => ?_,fun b hb => ?_,fun b _ _ => ?_,?_,?_,?_,?_,hus.1,hus.2.1,hus.2.2⟩,iE⟩
   .show dH _ _ _ _ (match (dF (u++u') 0 s.pin.slots).1.lookup t with | some x=>x | none=>.no) _;cases hx:(dF (u++u') 0 s.pin.slots).1.lookup t with
    |none=>exact .no _
    |some x=>exact sV t x hx
   .by_cases hne:(mk s.pin (u++u')).o g'=.none
    .rw [hne];trivial
    .obtain ⟨g,hg,how,_⟩:=Dw g' _ rfl hne;have:jE gh (fun g'=>(jT r').lookup g') g'=gh g:=by simp only [jE,hg]
     rw [this];exact hcast.Bl how (h.bf g)
   .obtain ⟨q1,m1,o1,d1,_⟩:=pI g1 b h1 k1;obtain ⟨q2,m2,o2,d2,_⟩:=pI g2 b h2 k2;have:=h.inj q1 q2 b o1 o2 d1 d2;subst this;have hn2:=jr hn2;have key :∀{l:List (Nat×Nat)},(l.map (·.2)).Nodup->(g1,q1)∈l->(g2,q1)∈l->g1=g2:=by
     intro l
     induction l with
     |nil=>intro _ h;cases h
     |cons p l ih=>
      intro hn e1 e2;simp only [Qf,UI] at hn;rcases QP.1 e1 with f1 | f1<;>rcases QP.1 e2 with f2 | f2
      .rw [<-f1] at f2;cases f2;rfl
      .have:q1∈l.map (·.2):=QQ.2 ⟨(g2,q1),f2,rfl⟩;rw [<-f1] at hn;exact absurd this hn.1
      .have:q1∈l.map (·.2):=QQ.2 ⟨(g1,q1),f1,rfl⟩;rw [<-f2] at hn;exact absurd this hn.1
      .exact ih hn.2 f1 f2
    exact key hn2 m1 m2
   .obtain ⟨g,hmem,h1,h2,_⟩:=pI g' b ho had;subst hE';exact ⟨.inr ⟨(g',g),hmem,h1,h2⟩,(h.wr g b h1 h2).2⟩
   .obtain ⟨g,hg,how,hmem,hown,hsh⟩:=Dw g' _ rfl (by intro e;rw [e] at ho;cases ho);rcases hsh with ⟨ws,e⟩ | ⟨l',sz',e⟩ | ⟨l',sz',aj,e⟩
    .rw [e] at ho;cases ho
    .rw [e] at ho;cases ho;rfl
    .rw [e] at ho;cases ho;rfl
   .obtain ⟨g,hg,how,hmem,hown,hsh⟩:=Dw g' _ rfl (by intro e;rw [e] at ho;cases ho);have e:jE gh (fun g'=>(jT r').lookup g') g'=gh g:=by simp only [jE,hg]
    rw [e];exact h.ns g hown (by rw [(how.bP ho).2];exact hd) b
   .subst hE';obtain ⟨p,hp,_,h1⟩:=hb;exact (h.wr p.2 b (iE p hp).1 h1).2
   .subst hE';rfl
   .subst hE';exact YY _
   .subst hE';rfl
   .subst hE';rfl
   .subst hE';rfl
  .cases hc
 .cases hc
end
end Go.Fw

namespace Go.Fw
variable [eF]
def EX (A I:Bool×Bool) (lk:Bool) (a i a' i':Bool):Prop:=(a',i')=qH A I a i/\(a=true->lk=true)
section
variable {A I:Bool×Bool} {lk:Bool} {m:Nat->Option Nat} {f:Nat->Nat} {aU:List Nat} {vs:List P}
theorem ahH (hm :∀g∈aU,m (f g)=some g) {k:WS} (hk:k.bW aU=true) (hl:k.isA=true->lk=true) (n:Nat) :
  Ww (EX A I lk) m (fun _=>False) (qo vs n k).1 (Um A I f (qo vs n k).1)/\∀g∈(Um A I f (qo vs n k).1).names,∃g0∈aU,g=f g0:=by
 cases k with
 |p a i=>exact ⟨.p _ ⟨rfl,hl⟩,by simp [qo,Um,W.names]⟩
 |own g=>
  simp only [WS.bW,Wm,decide_eq_true_eq] at hk;exact ⟨.own (hm g hk),fun g' hg'=>⟨g,hk,by simpa [qo,Um,W.names] using hg'⟩⟩
 |dD=>exact ⟨.dD,by simp [qo,Um,W.names]⟩
 |box g off=>
  simp only [WS.bW,Wm,decide_eq_true_eq] at hk;exact ⟨.box (hm g hk),fun g' hg'=>⟨g,hk,by simpa [qo,Um,W.names] using hg'⟩⟩
 |fn fn gs=>
  have hk :∀g∈gs,g∈aU:=by simpa [WS.bW,X2] using hk
  have key :∀(gs:List Nat),(∀g∈gs,g∈aU)->(gG gs).length=(kQ f (gG gs)).length/\(∀(j:Nat) x y,(gG gs)[j]?=some x->(kQ f (gG gs))[j]?=some y->Ww (EX A I lk) m (fun _=>False) x y)/\∀g∈(kQ f (gG gs)).flatMap W.names,∃g0∈aU,g=f g0:=by
   intro gs
   induction gs with
   |nil=>intro _;exact ⟨rfl,fun j x y hx=>(by simp [gG] at hx),by simp [gG,kQ]⟩
   |cons g gs ih=>
    intro h;obtain ⟨e1,e2,e3⟩:=ih fun g hg=>h g (by simp [hg]);refine ⟨by simp [gG,kQ,e1],fun j x y hx hy => ?_,fun g' hg' => ?_⟩
    .cases j with
     |zero=>
      simp [gG,kQ] at hx hy;subst hx hy;exact .box (hm g (h g (by simp)))
     |succ j=>simp [gG,kQ] at hx hy;exact e2 j x y hx hy
    .simp only [gG,kQ,Z6,Xs] at hg';rcases hg' with hg' | hg'
     .exact ⟨g,h g (by simp),by simpa [W.names] using hg'⟩
     .exact e3 g' hg'
  obtain ⟨e1,e2,e3⟩:=key gs hk;exact ⟨.clo fn _ _ e1 e2,fun g hg=>by
   have hg:g∈(W.clo fn (kQ f (gG gs))).names:=hg;rw [t_] at hg;exact e3 g hg⟩
 |nC g=>cases hk
 |no=>cases hk
 |vw g=>cases hk
 |ep g off=>cases hk
theorem QE :∀{ks:List WS} {n:Nat} {x:W},x∈(kW vs n ks).1->∃k∈ks,∃n',x=(qo vs n' k).1
 | [],n,x,h=>by simp [kW] at h
 |k::ks,n,x,h=>by
  simp only [kW,QP] at h;rcases h with h | h
  .exact ⟨k,by simp,n,h⟩
  .obtain ⟨k',h1,h2⟩:=QE h;exact ⟨k',by simp [h1],h2⟩
theorem abv (hm :∀g∈aU,m (f g)=some g) {ks:List WS} (hk:ks.all (WS.bW aU)=true) (hl:ks.any WS.isA=true->lk=true) (n:Nat) :
  (∀(j:Nat) x y,(kW vs n ks).1[j]?=some x->((kW vs n ks).1.map (Um A I f))[j]?=some y->Ww (EX A I lk) m (fun _=>False) x y)/\
  ∀g∈((kW vs n ks).1.map (Um A I f)).flatMap W.names,∃g0∈aU,g=f g0:=by
 have key :∀x∈(kW vs n ks).1,Ww (EX A I lk) m (fun _=>False) x (Um A I f x)/\∀g∈(Um A I f x).names,∃g0∈aU,g=f g0:=by
  intro x hx;obtain ⟨k,h1,n',rfl⟩:=QE hx;exact ahH hm ((X2.1 hk) k h1) (fun h=>hl (KB.2 ⟨k,h1,h⟩)) n'
 refine ⟨fun j x y hx hy => ?_,fun g hg => ?_⟩
 .rw [XN,hx] at hy;simp only [Z3,Q0] at hy;subst hy;exact (key x (XS hx)).1
 .simp only [Z1,QQ] at hg;obtain ⟨_,⟨x,hx,rfl⟩,hg⟩:=hg;exact (key x hx).2 g hg
theorem alo (hm :∀g∈aU,m (f g)=some g) {k:SS} (hk:k.bW aU=true) (hl:k.isA=true->lk=true) (n:Nat) :
  ∃x,(mkS vs n k).1=.v x/\Vw (EX A I lk) m (fun _=>False) x (reV A I f x)/\∀g∈(reV A I f x).names,∃g0∈aU,g=f g0:=by
 cases k with
 |one k=>
  obtain ⟨h1,h2⟩:=ahH (vs:=vs) (A:=A) (I:=I) hm hk hl n;exact ⟨_,rfl,.one h1,h2⟩
 |agg ks=>
  obtain ⟨h1,h2⟩:=abv (vs:=vs) (A:=A) (I:=I) hm hk hl n;exact ⟨_,rfl,.agg _ _ (by simp) h1,h2⟩
theorem alp (hm :∀g∈aU,m (f g)=some g) {k:OS} (hk :∀ws,k=.box ws->ws.all (WS.bW aU)=true) (hl:k.isA=true->lk=true) (n:Nat) :
  Ow (EX A I lk) m (fun _=>False) (tY vs n k).1 (wZ A I f (tY vs n k).1)/\∀g∈(wZ A I f (tY vs n k).1).names,∃g0∈aU,g=f g0:=by
 cases k with
 |box ks=>
  obtain ⟨h1,h2⟩:=abv (vs:=vs) (A:=A) (I:=I) hm (hk ks rfl) hl n;exact ⟨.box _ _ (by simp) h1,h2⟩
 |arr fz a i sz=>exact ⟨.arr _ _ _ ⟨rfl,hl⟩,by simp [tY,wZ,O.names]⟩
 |it=>exact ⟨.it _ _,by simp [tY,wZ,O.names]⟩
 |aN a i sz aj=>exact ⟨.aN _ _ _ ⟨rfl,hl⟩,by simp [tY,wZ,O.names,dJ]⟩
end
theorem LH {A I:Bool×Bool} {f:Nat->Nat} (x:O):(wZ A I f x).bP=x.bP:=by cases x<;>rfl
theorem UL {A I:Bool×Bool} {f:Nat->Nat} (x:O):(wZ A I f x).n_=x.n_:=by cases x<;>rfl
theorem afe {A I:Bool×Bool} {f:Nat->Nat} (x:O):(wZ A I f x).dim=x.dim:=by cases x<;>rfl
theorem Za {A I:Bool×Bool} {f:Nat->Nat} {x:O} {i:Bool} (h:(wZ A I f x).inner=some i) :∃a i0,x.inner=some i0/\i=(qH A I a i0).2:=by
 cases x with
 |arr fz a i0 sz l=>
  cases fz with
  |false=>cases h;exact ⟨a,i0,rfl,rfl⟩
  |true=>cases h
 |aN a i0 sz aj l hole=>cases h;exact ⟨a,i0,rfl,rfl⟩
 |_=>cases h
theorem aff {A I:Bool×Bool} {f:Nat->Nat} {x:O} {ws:List W} (h:wZ A I f x=.box ws) :∃ws',x=.box ws':=by cases x<;>first | exact ⟨_,rfl⟩ | cases h
theorem aja {A I:Bool×Bool} {f:Nat->Nat} {x:O} {s n:P} (h:wZ A I f x=.it s n) :∃s' n',x=.it s' n':=by cases x<;>first | exact ⟨_,_,rfl⟩ | cases h
theorem EY {d:Nat} {aU:List Nat} {g g':Nat} (hg:g∈aU) (h:newName d aU g=newName d aU g'):g=g':=by
 unfold newName at h;have e:aU.idxOf g=aU.idxOf g':=by omega
 have h1:aU.idxOf g<aU.length:=List.idxOf_lt_length_of_mem hg;have h2:aU.idxOf g'<aU.length:=by omega
 have a1:=List.getElem_idxOf h1;have a2:=List.getElem_idxOf h2;rw [<-a1,<-a2];congr 1
def xO (d:Nat) (aU:List Nat) (g:Nat):Option Nat:=aU.find? fun g0=>newName d aU g0==g
theorem Oa {d:Nat} {aU:List Nat} {g:Nat} (hg:g∈aU):xO d aU (newName d aU g)=some g:=by
 unfold xO;cases h:aU.find? fun g0=>newName d aU g0==newName d aU g with
 |none=>have:=List.find?_eq_none.1 h g hg;simp at this
 |some g'=>
  have h1:=qT h;simp only [beq_iff_eq] at h1;rw [EY (Ka h) h1]
theorem KN {d:Nat} {aU:List Nat} {g g0:Nat} (h:xO d aU g=some g0):g0∈aU/\newName d aU g0=g:=by
 unfold xO at h;exact ⟨Ka h,by simpa using qT h⟩
theorem lG {α:Type} {g:Nat} :∀{l r:List (Nat×α)},(l++r).lookup g=(l.lookup g).or (r.lookup g)
 | [],r=>by simp
 |(k,v)::l,r=>by
  simp only [K7,List.lookup];split
  .rfl
  .exact lG
theorem xP {α:Type} {k:Nat->Nat} {v:Nat->α} {g:Nat} :∀{l:List Nat},(∀g'∈l,k g'≠g)->(l.map fun x=>(k x,v x)).lookup g=none
 | [],_=>rfl
 |x::l,h=>by
  have:(g==k x)=false:=by have:=h x (by simp);simp;exact fun e=>this e.symm
  simp only [Qf,List.lookup,this];exact xP fun g' hg'=>h g' (by simp [hg'])
theorem wM {α:Type} {k:Nat->Nat} {v:Nat->α} {g0:Nat} :∀{l:List Nat},g0∈l->(∀g'∈l,k g'=k g0->g'=g0)->(l.map fun x=>(k x,v x)).lookup (k g0)=some (v g0)
 | [],h,_=>by cases h
 |x::l,h,hi=>by
  simp only [Qf,List.lookup];by_cases e:k x=k g0
  .have:=hi x (by simp) e;subst this;simp
  .have:(k g0==k x)=false:=by simp;exact fun h=>e h.symm
   rw [this];rcases QP.1 h with h | h
   .subst h;exact absurd rfl e
   .exact wM h fun g' hg'=>hi g' (by simp [hg'])
theorem kY {α:Type} {v:Nat×Nat->α} {p:Nat×Nat} :∀{l:List (Nat×Nat)},(l.map (·.2)).Nodup->p∈l->(l.map fun p=>(p.2,v p)).lookup p.2=some (v p)
 | [],_,h=>by cases h
 |x::l,hn,h=>by
  simp only [Qf,UI] at hn;simp only [Qf,List.lookup];rcases QP.1 h with h | h
  .subst h;simp
  .have:(p.2==x.2)=false:=by
    simp only [beq_eq_false_iff_ne];intro e;exact hn.1 (e▸QQ.2 ⟨p,h,rfl⟩)
   rw [this];exact kY hn.2 h
theorem lU {α:Type} {v:Nat×Nat->α} {g:Nat} :∀{l:List (Nat×Nat)},g∉l.map (·.2)->(l.map fun p=>(p.2,v p)).lookup g=none
 | [],_=>rfl
 |x::l,h=>by
  simp only [Qf,QP,not_or] at h;have:(g==x.2)=false:=by simpa using h.1
  simp only [Qf,List.lookup,this];exact lU h.2
theorem O.DR {z:O} (h:O.none.like z):z=.none:=by cases z<;>first | rfl | exact h.elim
theorem O.Ij {x y z:O} (h1:x.like y) (h2:y.like z):z=.none\/x.like z:=.inr (O.like.trans h1 h2)
theorem UM {s:yY} {o:Nat->O} {args:List S} {c:KL} (hc:gZ s o args=some c):xw o c.uV:=by
 unfold gZ at hc;split at hc
 .rename_i hsl;split at hc
  .simp only [Q0] at hc;subst hc;exact vO hsl
  .cases hc
 .cases hc
theorem Ad {α:Type} {g:Nat} {v:α} :∀{l:List (Nat×α)},l.lookup g=some v->(g,v)∈l
 | [],h=>by cases h
 |(k,x)::l,h=>by
  simp only [List.lookup] at h;split at h
  .rename_i e;simp only [beq_iff_eq] at e;cases h;subst e;simp
  .exact Vi _ (Ad h)
theorem rU {o:Nat->O} :∀{L:List (Nat×OS)} {r r':List (Nat×Nat)} {u:List P} {c:Bool×Bool},jF o r L=some (u,c,r')->(∀p∈r,p∈r')/\∀p∈L,∃q∈r',q.1=p.1
 | [],r,r',u,c,h=>by simp only [jF,Q0,Q1] at h;obtain ⟨_,_,rfl⟩:=h;exact ⟨fun p hp=>hp,fun p hp=>by cases hp⟩
 |(g',k)::rest,r,r',u,c,h=>by
  simp only [jF] at h;split at h
  .rename_i g hg;have hmem:=Ad hg;have fin :∀{r1:List (Nat×Nat)},(∀p∈r,p∈r1)->((∀p∈r1,p∈r')/\∀p∈rest,∃q∈r',q.1=p.1)->(∀p∈r,p∈r')/\∀p∈(g',k)::rest,∃q∈r',q.1=p.1:=by
    intro r1 h1 ⟨h2,h3⟩;refine ⟨fun p hp=>h2 p (h1 p hp),fun p hp => ?_⟩;rcases QP.1 hp with rfl | hp
    .exact ⟨_,h2 _ (h1 _ hmem),rfl⟩
    .exact h3 p hp
   split at h
   .split at h
    .split at h
     .rename_i h2;simp only [Q0,Q1] at h;obtain ⟨_,_,rfl⟩:=h;exact fin (fun p hp=>ZZ _ hp) (rU h2)
     .cases h
    .cases h
   .split at h
    .split at h
     .rename_i h2;simp only [Q0,Q1] at h;obtain ⟨_,_,rfl⟩:=h;exact fin (fun p hp=>hp) (rU h2)
     .cases h
    .cases h
   .split at h
    .split at h
     .rename_i h2;simp only [Q0,Q1] at h;obtain ⟨_,_,rfl⟩:=h;exact fin (fun p hp=>hp) (rU h2)
     .cases h
    .cases h
   .cases h
  .cases h
theorem afg {j:Shape} {vs:List P} {g:Nat} {a i:Bool} {sz:Nat} {aj:List (Nat×Nat)} {l:List (List P)} {hole:Option (Nat×Nat×Nat)} (h:(mk j vs).o g=.aN a i sz aj l hole):hole=none:=by
 have h1:=UG (j:=j) (vs:=vs) (g:=g) (by rw [h];simp);obtain ⟨k,n',_,h2⟩:=kX h1;rw [h] at h2;cases k<;>simp [tY] at h2;exact h2.2.2.2.2.2
theorem Ik {s:yY} {d:Nat} {o:Nat->O} {c:KL} {bW:List P} (hf:c.fine s=true) {p:Nat×Nat} (hp:p∈c.ren) (EZ:s.aY.contains p.1=true) :
  (iH s d o c bW).aI.lookup p.2=some (wZ c.A c.I (callName d s c.ren) ((mk s.aP bW).o p.1)):=by
 simp only [KL.fine,Q6] at hf;obtain ⟨⟨⟨hn2,hn1⟩,hdisj⟩,hkeys⟩:=hf;have hnb:p.2∉c.uV:=by
  have:=(X2.1 hdisj) p.2 (QQ.2 ⟨p,hp,rfl⟩);simpa using this
 have h1:(if s.mg=true then c.uV.map (aT o) else []).lookup p.2=none:=by
  split
  .have :∀(l:List Nat),p.2∉l->(l.map (aT o)).lookup p.2=none:=by
    intro l
    induction l with
    |nil=>intro _;rfl
    |cons g l ih=>
     intro hl;simp only [QP,not_or] at hl;have e:(p.2==(aT o g).1)=false:=by
      have:(aT o g).1=g:=rfl;rw [this];simpa using hl.1
     simp only [Qf,List.lookup,e];exact ih hl.2
   exact this _ hnb
  .rfl
 have h2:=kY (v:=fun p=>if s.aY.contains p.1=true then wZ c.A c.I (callName d s c.ren) ((mk s.aP bW).o p.1) else .none) (jr hn2) hp;rw [if_pos EZ] at h2;show (((if s.mg=true then c.uV.map (aT o) else [])++c.ren.map _)++s.aU.map _).lookup p.2=_;rw [lG,lG,h1,h2];rfl
theorem Zb {s:yY} (hok:s.ok=true) {d:Nat} {o:Nat->O} {args:List S} {c:KL} (hc:gZ s o args=some c) (hf:c.fine s=true) {bW:List P} {p:Nat×Nat} (hp:p∈c.ren) (EZ:s.aY.contains p.1=true)
  (hk:rQ ((mk s.aP bW).o p.1)=rQ ((mk s.pin c.ins).o p.1)) (ha:UH (o p.2)=true) (hfl:tq (wZ c.A c.I (callName d s c.ren) ((mk s.aP bW).o p.1))=tq (o p.2)) :
  (iH s d o c bW).aI.lookup p.2=some (o p.2):=by
 rw [Ik hf hp EZ];have hcore:=hk.trans (Y_ hok hc hf p hp ha);have hm:=fun {a i:Bool} {sz:Nat} {aj:List (Nat×Nat)} {l:List (List P)} {hole:Option (Nat×Nat×Nat)}=>afg (j:=s.aP) (vs:=bW) (g:=p.1) (a:=a) (i:=i) (sz:=sz) (aj:=aj) (l:=l) (hole:=hole);congr 1;generalize (mk s.aP bW).o p.1=x at hcore hfl hm;have e:rQ (wZ c.A c.I (callName d s c.ren) x)=rQ (o p.2):=by
  rw [<-hcore];cases x with
  |aN a i sz aj l hole=>have:=hm rfl;subst this;rfl
  |arr fz a i sz l=>rfl
  |_=>
   generalize o p.2=z at hcore ha;cases z<;>first | (cases ha;done) | (simp [rQ] at hcore;done)
 exact (UJ e.symm hfl.symm ha).symm
theorem QF {s:yY} {o:Nat->O} {args:List S} {c:KL} (hc:gZ s o args=some c) :∀p∈s.pin.bf,∃q∈c.ren,q.1=p.1:=by
 unfold gZ at hc;split at hc
 .split at hc
  .rename_i EZ;simp only [Q0] at hc;subst hc;exact fun p hp=>let ⟨q,h1,h2⟩:=(rU EZ).2 p hp;⟨q,mZ.2 h1,h2⟩
  .cases hc
 .cases hc
section
variable {E:Env} {st:St} {gh:Nat->Gh} {w:World} {val:Nat->Value}
theorem LJ {sp:Spec} (hok:sp.sig.ok=true) (h:Rel E st gh val w) {args:List S} {vals:List Value} (hr :∀t,dH E st gh w (args.getD t .no) (vals.getD t undef))
  {c:KL} (hc:gZ sp.sig st.o args=some c) (hf:c.fine sp.sig=true) :
  ∃(E':Env) (lF:Nat->Gh),E'.B0=w.heap.size/\E'.w0=w/\Rel E' (mk sp.sig.pin c.ins) lF (fun k=>vals.getD k undef) w/\(∀b,E'.Wr b->∃c e f,w.heap[b]?=some (.cells c e f))/\
  ∀(d:Nat) (bW:List P) (ef:Eff),ef=iH sp.sig d st.o c bW->(∀g∈ef.new,st.used g=false)->∀(w':World) (rs:List Value) (xG:Nat->Gh),rs.length=sp.sig.dw->Rel E' (mk sp.sig.aP bW) xG (fun k=>rs.getD k undef) w'->(∀g∈sp.sig.aY,((xG g).ad=(lF g).ad/\(xG g).cap=(lF g).cap)/\((mk sp.sig.pin c.ins).o g).like ((mk sp.sig.aP bW).o g))->
   ∃bK,Rel E (st.aI ef.aI ef.new) bK val w'/\Lets E st (st.aI ef.aI ef.new) gh bK w w'/\dH E (st.aI ef.aI ef.new) bK w' ef.x (Y7 rs)/\∀g∈ef.x.names,(st.aI ef.aI ef.new).used g=true:=by
 have hrr :∀t,dH E st gh w (args.getD t .no) ((fun k=>vals.getD k undef) t):=hr;obtain ⟨h1,hL1,hE,iE⟩:=UK h hok hrr hc hf _ rfl _ rfl;refine ⟨_,_,rfl,rfl,hE,fun b hb => ?_,fun d bW ef hef hnew w' rs xG hrl hx UN => ?_⟩
 .obtain ⟨p,hp,ow,e1⟩:=hb;have hO:=h.bf p.2;rcases (iE p hp).2.2.2 with ⟨_,ws,_,e,_⟩ | ⟨a,i,sz,l,e,_⟩ | ⟨a,i,sz,aj,l,e,_⟩
  .rw [e] at hO;obtain ⟨ad',c,e',q1,_,q3,_⟩:=hO;rcases e1 with ⟨ad,k1,k2⟩ | k1
   .rw [k1] at q1;cases q1;rw [<-k2];exact ⟨_,_,_,q3⟩
   .rw [h.ns p.2 ow (by rw [e];rfl) b] at k1;cases k1
  .rw [e] at hO;rcases e1 with ⟨ad,k1,k2⟩ | k1
   .rcases hO with ⟨q1,_⟩ | ⟨ad',c,e',q1,_,q3,_⟩
    .rw [k1] at q1;cases q1
    .rw [k1] at q1;cases q1;rw [<-k2];exact ⟨_,_,_,q3⟩
   .rw [h.ns p.2 ow (by rw [e];rfl) b] at k1;cases k1
  .rw [e] at hO;rcases hO with ⟨q1,_,_,q2⟩ | ⟨ad',c,e',q1,_,q3,_,_,_,⟨_,q4⟩,_⟩
   .rcases e1 with ⟨ad,k1,k2⟩ | k1
    .rw [k1] at q1;cases q1
    .rw [q2 b] at k1;cases k1
   .rcases e1 with ⟨ad,k1,k2⟩ | k1
    .rw [k1] at q1;cases q1;rw [<-k2];exact ⟨_,_,_,q3⟩
    .exact q4 b k1
 generalize hst1:st.aI (c.uV.map (Fw.aT st.o)) []=st1 at h1 hL1 hE hx;generalize hE':WM h st1 c=E' at hE hx;generalize Zc:mk sp.sig.aP bW=xq at hx;have hok':=hok;simp only [yY.ok,Q6] at hok';obtain ⟨⟨⟨⟨⟨⟨⟨⟨abu,WO⟩,hps⟩,hpo⟩,hos⟩,zS⟩,hdisj⟩,hnn⟩,ahI⟩:=hok';have hnn:=jr hnn;simp only [KL.fine,Q6] at hf;have hn2:=jr hf.1.1.1;have ajb :∀g∈sp.sig.aU,sp.sig.aY.contains g=false:=by
  intro g hg;cases hi:sp.sig.aY.contains g with
  |false=>rfl
  |true=>
   have:=(X2.1 hdisj) g (by simpa using hi);simp [hg] at this
 generalize hfn:callName d sp.sig c.ren=f;have QG :∀g∈sp.sig.aU,f g=newName d sp.sig.aU g:=fun g hg=>by subst hfn;unfold callName;rw [ajb g hg]
 have ar_:sp.sig.aU.map f=sp.sig.aU.map (newName d sp.sig.aU):=W8 QG;have ajc :∀g,sp.sig.aY.contains g=true->∃g',(g,g')∈c.ren/\f g=g':=by
  intro g hi;have alq:=(X2.1 ahI) g (by simpa using hi);cases h1:sp.sig.pin.bf.lookup g with
  |none=>rw [h1] at alq;cases alq
  |some k1=>
   obtain ⟨q,hq,e⟩:=QF hc _ (Ad h1);obtain ⟨q1,q2⟩:=q;simp only at e;subst e;refine ⟨q2,hq,?_⟩;subst hfn;unfold callName;rw [hi,(iE _ hq).2.2.1]
 generalize hbk:xO d sp.sig.aU=bk;have hbn :∀g∈sp.sig.aU,bk (f g)=some g:=fun g hg=>by rw [QG g hg];subst hbk;exact Oa hg
 have hbs :∀g g0,bk g=some g0->g0∈sp.sig.aU/\f g0=g:=fun g g0 hb=>by subst hbk;obtain ⟨b1,b2⟩:=KN hb;exact ⟨b1,by rw [QG g0 b1];exact b2⟩
 have hfi :∀g∈sp.sig.aU,∀g'∈sp.sig.aU,f g=f g'->g=g':=fun g hg g' hg' e=>by rw [QG g hg,QG g' hg'] at e;exact EY hg e
 have afh:ef.new=sp.sig.aU.map f:=by subst hef;subst hfn;rfl
 have ajd:ef.aI=(if sp.sig.mg then c.uV.map (Fw.aT st.o) else [])++c.ren.map (fun p=>(p.2,if sp.sig.aY.contains p.1 then wZ c.A c.I f (xq.o p.1) else .none))++sp.sig.aU.map (fun g=>(f g,wZ c.A c.I f (xq.o g))):=by
  subst hef;subst hfn;subst Zc;rfl
 have alr:ef.x=Y5 ((List.range sp.sig.dw).map fun k=>WH c.A c.I f (xq.s k)):=by subst hef;subst hfn;subst Zc;rfl
 have as6 :∀g,bk g=none->g∉ef.new:=fun g hb hm=>by
  rw [afh] at hm;obtain ⟨g0,h1,rfl⟩:=QQ.1 hm;rw [hbn g0 h1] at hb;cases hb
 have hbu :∀g,st.used g=true->bk g=none:=fun g hu=>by
  cases hb:bk g with
  |none=>rfl
  |some g0=>
   obtain ⟨h1,h2⟩:=hbs g g0 hb;have:=hnew g (by rw [afh];exact QQ.2 ⟨g0,h1,h2⟩);rw [hu] at this;cases this
 let stB:St:=if sp.sig.mg then st1 else st
 have hB:Rel E stB gh val w/\Lets E st stB gh gh w w:=by
  by_cases hlk:sp.sig.mg=true
  .have:stB=st1:=by simp [stB,hlk]
   rw [this];exact ⟨h1,hL1⟩
  .have:stB=st:=by simp [stB,hlk]
   rw [this];exact ⟨h,⟨fun a i b hb=>⟨hb,rfl⟩,fun g _=>.inr ⟨⟨rfl,rfl⟩,O.fC _⟩⟩⟩
 obtain ⟨Zd,hLB⟩:=hB;have hBs:stB.s=st.s:=by
  by_cases hlk:sp.sig.mg=true
  .have:stB=st1:=by simp [stB,hlk]
   rw [this,<-hst1];rfl
  .have:stB=st:=by simp [stB,hlk]
   rw [this]
 have hBu:stB.used=st.used:=by
  by_cases hlk:sp.sig.mg=true
  .have:stB=st1:=by simp [stB,hlk]
   rw [this,<-hst1];rfl
  .have:stB=st:=by simp [stB,hlk]
   rw [this]
 have hBo :∀g,stB.o g=(if g∈c.uV/\sp.sig.mg=true then (Fw.aT st.o g).2 else st.o g):=by
  intro g;by_cases hlk:sp.sig.mg=true
  .have:stB=st1:=by simp [stB,hlk]
   rw [this,<-hst1,gu];by_cases hg:g∈c.uV<;>simp [hg,hlk]
  .have:stB=st:=by simp [stB,hlk]
   rw [this];simp [hlk]
 have WQ :∀g,(stB.o g).bP=true->(st.o g).bP=true:=by
  intro g hg;rw [hBo] at hg;split at hg
  .cases hp:plainO st.o g with
   |none=>simpa [Fw.aT,hp] using hg
   |some x=>
    obtain ⟨a,i,sz,l⟩:=x;rw [mX hp] at hg;cases hg
  .exact hg
 have hBr :∀p∈c.ren,stB.o p.2=st.o p.2:=by
  intro p hp;rw [hBo,if_neg fun h=>(iE p hp).2.1 h.1]
 generalize afi:st.aI ef.aI ef.new=Il;have hFs:Il.s=st.s:=by subst afi;rfl
 have hFu :∀g,st.used g=true->Il.used g=true:=fun g hg=>by subst afi;simp [St.aI,hg]
 have hFn :∀g∈sp.sig.aU,Il.used (f g)=true:=fun g hg=>by
  subst afi;have:f g∈ef.new:=by rw [afh];exact QQ.2 ⟨g,hg,rfl⟩
  simp [St.aI,this]
 have WR :∀p∈c.ren,st.used p.2=true:=fun p hp=>h.ul p.2 (by intro e;have:=(iE p hp).1;rw [e] at this;cases this);have asb :∀g∈c.uV,st.used g=true\/st.o g=.none:=fun g hg=>by
  by_cases hn:st.o g=.none
  .exact .inr hn
  .exact .inl (h.ul g hn)
 have hFo :∀g,Il.o g=match ef.aI.lookup g with | some x=>x | none=>st.o g:=fun g=>by subst afi;rfl
 have WT :∀g∈sp.sig.aU,Il.o (f g)=wZ c.A c.I f (xq.o g):=by
  intro g hg;have hfu:st.used (f g)=false:=hnew _ (by rw [afh];exact QQ.2 ⟨g,hg,rfl⟩);have e2:(c.ren.map (fun p=>(p.2,if sp.sig.aY.contains p.1 then wZ c.A c.I f (xq.o p.1) else .none))).lookup (f g)=none:=lU fun hm=>by
   obtain ⟨p,hp,e⟩:=QQ.1 hm;rw [<-e,WR p hp] at hfu;cases hfu
  have e3:=wM (k:=f) (v:=fun g=>wZ c.A c.I f (xq.o g)) hg fun g' hg' e=>hfi g' hg' g hg e;have e1:(if sp.sig.mg then c.uV.map (Fw.aT st.o) else []).lookup (f g)=none:=by
   split
   .rw [lZ,if_neg];intro hm;have:=xw.used h (UM hc) hm;rw [this] at hfu;cases hfu
   .rfl
  rw [hFo,ajd,lG,lG,e1,e2,e3];rfl
 have LK :∀p∈c.ren,Il.o p.2=if sp.sig.aY.contains p.1 then wZ c.A c.I f (xq.o p.1) else .none:=by
  intro p hp;have e1:(if sp.sig.mg then c.uV.map (Fw.aT st.o) else []).lookup p.2=none:=by
   split
   .rw [lZ,if_neg (iE p hp).2.1]
   .rfl
  have e2:=kY (v:=fun p=>if sp.sig.aY.contains p.1 then wZ c.A c.I f (xq.o p.1) else O.none) hn2 hp;rw [hFo,ajd,lG,lG,e1,e2];rfl
 have QH :∀g,bk g=none->g∉c.ren.map (·.2)->Il.o g=stB.o g:=by
  intro g hb hg;have e2:=lU (v:=fun p=>if sp.sig.aY.contains p.1 then wZ c.A c.I f (xq.o p.1) else O.none) hg;have e3:(sp.sig.aU.map (fun g=>(f g,wZ c.A c.I f (xq.o g)))).lookup g=none:=xP fun g' hg' e=>by
   have:=hbn g' hg';rw [e,hb] at this;cases this
  rw [hFo,ajd,lG,lG,e2,e3,hBo];by_cases hlk:sp.sig.mg=true
  .rw [if_pos hlk,lZ];by_cases hg:g∈c.uV<;>simp [hg,hlk]
  .simp [hlk]
 have ahJ :∀p∈c.ren,sp.sig.aY.contains p.1=true->(xG p.1).ad=(gh p.2).ad/\(xG p.1).cap=(gh p.2).cap:=by
  intro p hp hi;have:=(UN p.1 (by simpa using hi)).1;have e:=(iE p hp).2.2.1;simp only [jE,e] at this;exact this
 generalize hbk2:(fun g=>match bk g with | some g0=>some g0 | none=>(c.ren.find? (fun (p:Nat×Nat)=>p.2==g&&sp.sig.aY.contains p.1)).map (fun (p:Nat×Nat)=>p.1))=bk2;have alv :∀g g0,bk2 g=some g0->(g0∈sp.sig.aU/\f g0=g)\/(bk g=none/\sp.sig.aY.contains g0=true/\(g0,g)∈c.ren):=by
  intro g g0 hb;subst hbk2;simp only at hb;cases h1:bk g with
  |some g1=>rw [h1] at hb;simp only [Q0] at hb;subst hb;exact .inl (hbs g _ h1)
  |none=>
   rw [h1] at hb;simp only [ZD] at hb;obtain ⟨p,hp,rfl⟩:=hb;have q1:=Ka hp;have q2:=qT hp;simp only [Q6,beq_iff_eq] at q2;obtain ⟨rfl,q3⟩:=q2;exact .inr ⟨rfl,q3,q1⟩
 have hb2 :∀g∈sp.sig.aU++sp.sig.aY,bk2 (f g)=some g:=by
  intro g hg;subst hbk2;simp only;rcases Xs.1 hg with hg | hg
  .rw [hbn g hg]
  .have hi:sp.sig.aY.contains g=true:=by simpa using hg
   obtain ⟨g',hm,e⟩:=ajc g hi;rw [e,hbu g' (WR _ hm)];cases h1:c.ren.find? fun p=>p.2==g'&&sp.sig.aY.contains p.1 with
   |none=>
    have:=List.find?_eq_none.1 h1 _ hm;simp at this;exact absurd hg this
   |some p=>
    have q1:=Ka h1;have q2:=qT h1;simp only [Q6,beq_iff_eq] at q2;obtain ⟨e2,q3⟩:=q2;have l1:=(iE _ hm).2.2.1;have e3:p=(g,g'):=by
     have:=kY (v:=fun p=>p) hn2 q1;have h2:=kY (v:=fun p=>p) hn2 hm;rw [e2] at this;simp only at h2;rw [this] at h2;exact Wa h2
    rw [e3];rfl
 let bK:Nat->Gh:=fun g=>match bk2 g with | some g0=>xG g0 | none=>gh g
 have hfp :∀p∈c.ren,sp.sig.aY.contains p.1=true->f p.1=p.2:=by
  intro p hp hi;obtain ⟨g',hm,e⟩:=ajc p.1 hi;have l1:=(iE _ hm).2.2.1;have l2:=(iE _ hp).2.2.1;simp only at l1;rw [l2] at l1;rw [e,<-Wa l1]
 have hgb :∀g g0,bk2 g=some g0->bK g=xG g0:=fun g g0 hb=>by simp only [bK,hb]
 have hgn :∀g∈sp.sig.aU,bK (f g)=xG g:=fun g hg=>hgb _ _ (hb2 g (ZZ _ hg));have hgi :∀p∈c.ren,sp.sig.aY.contains p.1=true->bK p.2=xG p.1:=by
  intro p hp hi;have:=hb2 p.1 (US _ (by simpa using hi));rw [hfp p hp hi] at this;exact hgb _ _ this
 have hgo :∀g,bk g=none->g∉c.ren.map (·.2)->bK g=gh g:=fun g hb hm=>by
  cases h2:bk2 g with
  |none=>simp only [bK,h2]
  |some g0=>
   rcases alv g g0 h2 with ⟨b1,b2⟩ | ⟨_,_,b3⟩
   .rw [<-b2,hbn g0 b1] at hb;cases hb
   .exact absurd (QQ.2 ⟨_,b3,rfl⟩) hm
 have hFb :∀g g0,bk2 g=some g0->Il.o g=wZ c.A c.I f (xq.o g0):=fun g g0 hb=>by
  rcases alv g g0 hb with ⟨b1,b2⟩ | ⟨_,b2,b3⟩
  .rw [<-b2];exact WT g0 b1
  .have e:=LK _ b3;simp only [b2,if_true] at e;exact e
 have abw :∀g∈sp.sig.aU++sp.sig.aY,Il.used (f g)=true:=by
  intro g hg;rcases Xs.1 hg with hg | hg
  .exact hFn g hg
  .obtain ⟨g',hm,e⟩:=ajc g (by simpa using hg);rw [e];exact hFu _ (WR _ hm)
 have hxo :∀g0,xq.o g0≠.none->∃k n',(g0,k)∈sp.sig.aP.bf/\xq.o g0=(tY bW n' k).1:=fun g0 hn=>by
  subst Zc;exact kX (UG hn)
 have alx :∀g0,sp.sig.aY.contains g0=true->(∃ws,(mk sp.sig.pin c.ins).o g0=.box ws)->∃ws,xq.o g0=.box ws:=by
  rintro g0 hi ⟨ws,hb⟩;have hk:=(X2.1 ahI) g0 (by simpa using hi);cases h1:sp.sig.pin.bf.lookup g0 with
  |none=>rw [h1] at hk;cases hk
  |some k1=>
   cases h2:sp.sig.aP.bf.lookup g0 with
   |none=>rw [h1,h2] at hk;cases k1<;>cases hk
   |some k2=>
    rw [h1,h2] at hk;obtain ⟨n1,e1⟩:=N_ (vs:=c.ins) h1;obtain ⟨n2,e2⟩:=N_ (vs:=bW) h2;rw [hb] at e1;cases k1 with
    |box ks=>
     cases k2 with
     |box ks'=>subst Zc;exact ⟨_,e2⟩
     |arr=>cases hk
     |it=>cases hk
     |aN=>cases hk
    |arr=>cases e1
    |it=>cases e1
    |aN=>cases e1
 have apj :∀g0 k,(g0,k)∈sp.sig.aP.bf->k.isA=true->sp.sig.mg=true:=fun g0 k hm ha=>by
  simp only [yY.mg,JN,KB];exact .inr ⟨_,hm,ha⟩
 have apk :∀t k,(t,k)∈sp.sig.aP.slots->k.isA=true->sp.sig.mg=true:=fun t k hm ha=>by
  simp only [yY.mg,JN,KB];exact .inl ⟨_,hm,ha⟩
 have hOut :∀g0,Ow (EX c.A c.I sp.sig.mg) bk2 (fun _=>False) (xq.o g0) (wZ c.A c.I f (xq.o g0))/\∀g∈(wZ c.A c.I f (xq.o g0)).names,∃g1∈sp.sig.aU++sp.sig.aY,g=f g1:=by
  intro g0;by_cases hn:xq.o g0=.none
  .rw [hn];exact ⟨.none _,by simp [wZ,O.names]⟩
  .obtain ⟨k,n',h1,h2⟩:=hxo g0 hn;rw [h2];refine alp hb2 (fun ws e => ?_) (apj g0 k h1) n';subst e;have hk:=(X2.1 zS) _ h1;simp only [Q6] at hk;exact hk.1
 have WU :∀g,(Il.o g).bP=true->
   (∃g0,(xq.o g0).bP=true/\bK g=xG g0/\Il.o g=wZ c.A c.I f (xq.o g0)/\((g0∈sp.sig.aU/\g=f g0)\/(sp.sig.aY.contains g0=true/\(g0,g)∈c.ren)))\/
   ((stB.o g).bP=true/\bK g=gh g/\g∉c.ren.map (·.2)/\bk g=none/\Il.o g=stB.o g):=by
  intro g ho;cases hb:bk g with
  |some g0=>
   obtain ⟨b1,b2⟩:=hbs g g0 hb;subst b2;have e:=WT g0 b1;exact .inl ⟨g0,by rw [e,LH] at ho;exact ho,hgn g0 b1,e,.inl ⟨b1,rfl⟩⟩
  |none=>
   by_cases hm:g∈c.ren.map (·.2)
   .obtain ⟨p,hp,e⟩:=QQ.1 hm;subst e;have e:=LK p hp;cases hi:sp.sig.aY.contains p.1 with
    |false=>rw [e,hi] at ho;cases ho
    |true=>
     rw [hi,if_pos rfl] at e;exact .inl ⟨p.1,by rw [e,LH] at ho;exact ho,hgi p hp hi,e,.inr ⟨hi,hp⟩⟩
   .have e:=QH g hb hm;exact .inr ⟨by rw [e] at ho;exact ho,hgo g hb hm,hm,by first | exact hb | rfl,e⟩
 have hsplit :∀g b,(Il.o g).bP=true->(bK g).has b->
   (∃g0,(xq.o g0).bP=true/\(xG g0).has b/\Il.o g=wZ c.A c.I f (xq.o g0)/\((g0∈sp.sig.aU/\g=f g0)\/(sp.sig.aY.contains g0=true/\(g0,g)∈c.ren)))\/
   ((stB.o g).bP=true/\(gh g).has b/\g∉c.ren.map (·.2)/\bk g=none/\Il.o g=stB.o g):=by
  intro g b ho had;rcases WU g ho with ⟨g0,q1,q2,q3⟩ | ⟨q1,q2,q3⟩
  .exact .inl ⟨g0,q1,by rw [<-q2];exact had,q3⟩
  .exact .inr ⟨q1,by rw [<-q2];exact had,q3⟩
 have abx :∀b,E'.Wr b->∃p∈c.ren,(gh p.2).has b:=fun b hb=>by subst hE';obtain ⟨p,hp,_,h1⟩:=hb;exact ⟨p,hp,h1⟩
 have hEB:E'.B0=w.heap.size:=by subst hE';rfl
 have hEw:E'.w0=w:=by subst hE';rfl
 have hframe :∀b,b<w.heap.size->¬ E'.Wr b->w'.heap[b]?=w.heap[b]?:=fun b hb hw=>by
  rw [hx.frame b (by rw [hEB];exact hb) hw,hEw]
 have aje :∀b,(∀p∈c.ren,¬ (gh p.2).has b)->¬ E'.Wr b:=fun b hb hw=>by
  obtain ⟨p,hp,e1⟩:=abx b hw;exact hb p hp e1
 have hsize:w.heap.size<=w'.heap.size:=by rw [<-hEB];exact hx.size
 have EL :∀g,st.used g=true->Il.o g=.none\/(((bK g).ad=(gh g).ad/\(bK g).cap=(gh g).cap)/\(stB.o g).like (Il.o g)):=by
  intro g hu;have hb:=hbu g hu;by_cases hm:g∈c.ren.map (·.2)
  .obtain ⟨p,hp,e⟩:=QQ.1 hm;subst e;cases hi:sp.sig.aY.contains p.1 with
   |false=>exact .inl (by rw [LK p hp,hi];rfl)
   |true=>
    refine .inr ⟨by rw [hgi p hp hi];exact ahJ p hp hi,?_⟩;rw [hBr p hp,LK p hp,hi,if_pos rfl];have hlk:=(UN p.1 (by simpa using hi)).2;rw [Zc] at hlk;rcases (iE p hp).2.2.2 with ⟨_,ws,ws1,e,eb⟩ | ⟨a,i,sz,l,e,_,ea⟩ | ⟨a,i,sz,aj,l,e,_,ea⟩
    .obtain ⟨ws',e'⟩:=alx p.1 hi ⟨_,eb⟩;rw [e,e'];trivial
    .rw [ea] at hlk;rw [e];generalize xq.o p.1=z at hlk;cases z with
     |none=>trivial
     |arr=>exact hlk
     |aN=>exact hlk.elim
     |box=>exact hlk.elim
     |it=>exact hlk.elim
    .rw [ea] at hlk;rw [e];generalize xq.o p.1=z at hlk;cases z with
     |none=>trivial
     |arr=>exact hlk
     |aN=>exact hlk
     |box=>exact hlk.elim
     |it=>exact hlk.elim
  .rw [QH g hb hm];exact .inr ⟨by rw [hgo g hb hm];exact ⟨rfl,rfl⟩,O.fC _⟩
 have aby:Lets E stB Il gh bK w w':=by
  refine ⟨fun a i b hb=>⟨⟨hb.1,by have:=hb.2.1;omega,fun g ho had => ?_⟩,?_⟩,fun g hu=>EL g (by rw [<-hBu];exact hu)⟩
  .rcases hsplit g b ho had with ⟨g0,o0,d0,_,_⟩ | ⟨o0,d0,_⟩
   .have hw0:=(hx.wr g0 b o0 d0).1;rw [hEB] at hw0;rcases hw0 with hw0 | hw0
    .have:=hb.2.1;omega
    .obtain ⟨p,hp,e1⟩:=abx b hw0;exact hb.2.2 p.2 (by rw [hBr p hp];exact (iE p hp).1) e1
   .exact hb.2.2 g o0 d0
  .exact hframe b hb.2.1 (aje b fun p hp e1=>hb.2.2 p.2 (by rw [hBr p hp];exact (iE p hp).1) e1)
 have aly :∀b,E'.Wr b->E.Wr b->(∀g ws,xq.o g=.box ws->(xG g).has b->sp.sig.aY.contains g=false)->c.I.2=true:=by
  intro b hb hEb hno;obtain ⟨p,hp,e1⟩:=abx b hb;rcases (iE p hp).2.2.2 with ⟨hi,ws,ws1,e,eb⟩ | ⟨a,i,sz,l,e,hci,_⟩ | ⟨a,i,sz,aj,l,e,hci,_⟩
  .obtain ⟨ws',e'⟩:=alx p.1 hi ⟨_,eb⟩;have:=hno p.1 ws' e' (by
    rcases e1 with ⟨ad,k1,k2⟩ | k1
    .exact .inl ⟨ad,by rw [(ahJ p hp hi).1];exact k1,k2⟩
    .rw [h.ns p.2 (iE p hp).1 (by rw [e];rfl) b] at k1;cases k1)
   rw [hi] at this;cases this
  .exact hci.2 (h.wi p.2 i b (by rw [e];rfl) e1 hEb)
  .exact hci.2 (h.wi p.2 i b (by rw [e];rfl) e1 hEb)
 have hcls :∀{a i a' i':Bool} {A:Bool×Bool},(A.1=true->a'=true)->(A.2=true->i'=true)->∀{b:Nat},((A.1=true/\E.FA b)\/(A.2=true/\(E.FI b\/E.Wr b))\/E.B0<=b\/eF.has b)->((a'=true/\E.FA b)\/(i'=true/\(E.FI b\/E.Wr b))\/E.B0<=b\/eF.has b):=by
  intro a i a' i' A h1 h2 b hb;rcases hb with ⟨q1,q2⟩ | ⟨q1,q2⟩ | q
  .exact .inl ⟨h1 q1,q2⟩
  .exact .inr (.inl ⟨h2 q1,q2⟩)
  .exact .inr (.inr q)
 have hcast:Cast (EX c.A c.I sp.sig.mg) bk2 (fun _=>False) E' E xq Il xG bK w':=by
  refine ⟨fun a i a' i' b hC hb => ?_,fun g g' hm sz len ho=>⟨by rw [hgb g' g hm];exact ⟨rfl,rfl⟩,by rw [hFb g' g hm,afe] at ho;exact ho⟩,
   fun g g' hm ws ho=>⟨by rw [hgb g' g hm],by rw [hFb g' g hm] at ho;exact aff ho⟩,fun g g' hm s n ho=>⟨by rw [hgb g' g hm],by rw [hFb g' g hm] at ho;exact aja ho⟩,fun g' hf=>hf.elim⟩
  obtain ⟨hC,hA⟩:=hC;have ha':a'=((a&&c.A.1)||(i&&c.I.1)):=congrArg Prod.fst hC;have hi':i'=((a&&c.A.2)||(i&&c.I.2)):=congrArg Prod.snd hC;have ahK :∀g,(xq.o g).bP=true->¬ (xG g).has b:=hb.2.2;have hcase:((a'=true/\E.FA b)\/(i'=true/\(E.FI b\/E.Wr b))\/E.B0<=b\/eF.has b)/\(∀g,(stB.o g).bP=true->g∉c.ren.map (·.2)->¬ (gh g).has b):=by
   have hb1:=hb.1;subst hE';rcases hb1 with ⟨ha,hFA⟩ | ⟨hi,hFI | hWr⟩ | hge | hgl
   .have hlk:=hA ha;have hst:stB=st1:=by simp [stB,hlk]
    refine ⟨hcls (a:=a) (i:=i) (A:=c.A) (by intro h;simp [ha',ha,h]) (by intro h;simp [hi',ha,h]) hFA.1,fun g ho _ => ?_⟩;rw [hst] at ho;exact hFA.2.2 g ho
   .refine ⟨hcls (a:=a) (i:=i) (A:=c.I) (by intro h;simp [ha',hi,h]) (by intro h;simp [hi',hi,h]) hFI.1,fun g ho _ => ?_⟩;exact hFI.2.2 g (WQ g ho)
   .obtain ⟨p,hp,ow,e1⟩:=hWr;refine ⟨?_,fun g ho hng had => ?_⟩
    .rcases (h.wr p.2 b (iE p hp).1 e1).1 with q | q
     .exact .inr (.inr (.inl q))
     .have:=aly b ⟨p,hp,ow,e1⟩ q fun g ws1 o1 d1=>absurd d1 (ahK g (by rw [o1];rfl));exact .inr (.inl ⟨by simp [hi',hi,this],.inr q⟩)
    .have:=h.inj g p.2 b (WQ g ho) (iE p hp).1 had e1;exact hng (this▸QQ.2 ⟨p,hp,rfl⟩)
   .refine ⟨.inr (.inr (.inl (UP h.size hge))),fun g ho _ had => ?_⟩;have:=(Zd.wr g b ho had).2;have hge:w.heap.size<=b:=hge;omega
   .refine ⟨.inr (.inr (.inr hgl)),fun g ho _ had => ?_⟩;obtain ⟨g1,g2⟩:=E.aa5 hgl;rcases (Zd.wr g b ho had).1 with q | q
    .omega
    .exact g2 q
  refine ⟨hcase.1,hb.2.1,fun g ho had => ?_⟩;rcases hsplit g b ho had with ⟨g0,o0,d0,_,_⟩ | ⟨o0,d0,n0,_⟩
  .exact ahK g0 o0 d0
  .exact hcase.2 g o0 n0 d0
 have ahL :∀g0,lT E Il bK w' (wZ c.A c.I f (xq.o g0)) (xG g0):=fun g0=>hcast.Bl (hOut g0).1 (hx.bf g0);have KO:Rel E Il bK val w':=by
  refine Zd.step aby (hFs.trans hBs.symm) (fun g hg=>hFu g (by rw [<-hBu];exact hg)) (fun g => ?_) (fun g1 g2 b h1 h2 k1 k2 => ?_) (fun g b ho had => ?_) (fun g i b ho had hw => ?_) (fun g ho hd b => ?_) (fun b hb hw => ?_) hsize (by rw [hx.os,hEw]) (by rw [hx.tape,hEw]) (by rw [hx.output,hEw]) (fun g g' hg' => ?_) (fun g hg => ?_)
  .cases hb:bk g with
   |some g0=>
    obtain ⟨b1,b2⟩:=hbs g g0 hb;subst b2;rw [WT g0 b1,hgn g0 b1];exact ahL g0
   |none=>
    by_cases hm:g∈c.ren.map (·.2)
    .obtain ⟨p,hp,e⟩:=QQ.1 hm;subst e;rw [LK p hp];cases hi:sp.sig.aY.contains p.1 with
     |false=>trivial
     |true=>rw [if_pos rfl,hgi p hp hi];exact ahL p.1
    .rw [QH g hb hm,hgo g hb hm];refine aby.Bl (fun ho b had=>hframe _ (Zd.wr g b ho had).2 (aje _ fun p hp e1 => ?_)) (fun g' hg'=>Zd.uo g g' hg') (Zd.bf g);have:=h.inj p.2 g b (iE p hp).1 (WQ g ho) e1 had;exact hm (this▸QQ.2 ⟨p,hp,rfl⟩)
  .have mixed :∀g1 g2 b g0,(xq.o g0).bP=true->(xG g0).has b->(stB.o g2).bP=true->(gh g2).has b->g2∉c.ren.map (·.2)->g1=g2:=by
    intro g1 g2 b g0 o1 d1 o2 d2 n2;exfalso;rcases (hx.wr g0 b o1 d1).1 with q | q
    .rw [hEB] at q;have:=(Zd.wr g2 b o2 d2).2;omega
    .obtain ⟨p,hp,e1⟩:=abx _ q;have:=h.inj p.2 g2 b (iE p hp).1 (WQ g2 o2) e1 d2;exact n2 (this▸QQ.2 ⟨p,hp,rfl⟩)
   rcases hsplit g1 b h1 k1 with ⟨q1,o1,d1,_,l1⟩ | ⟨o1,d1,n1,_⟩<;>rcases hsplit g2 b h2 k2 with ⟨q2,o2,d2,_,l2⟩ | ⟨o2,d2,n2,_⟩
   .have:=hx.inj q1 q2 b o1 o2 d1 d2;subst this;rcases l1 with ⟨m1,e1⟩ | ⟨i1,m1⟩<;>rcases l2 with ⟨m2,e2⟩ | ⟨i2,m2⟩
    .rw [e1,e2]
    .rw [ajb q1 m1] at i2;cases i2
    .rw [ajb q1 m2] at i1;cases i1
    .have l1:=(iE _ m1).2.2.1;have l2:=(iE _ m2).2.2.1;rw [l1] at l2;exact Wa l2
   .exact mixed g1 g2 b q1 o1 d1 o2 d2 n2
   .exact (mixed g2 g1 b q2 o2 d2 o1 d1 n1).symm
   .exact Zd.inj g1 g2 b o1 o2 d1 d2
  .rcases hsplit g b ho had with ⟨g0,o0,d0,_,_⟩ | ⟨o0,d0,_⟩
   .have:=hx.wr g0 b o0 d0;refine ⟨?_,this.2⟩;rcases this.1 with q | q
    .rw [hEB] at q;exact .inl (UP h.size q)
    .obtain ⟨p,hp,e1⟩:=abx _ q;exact (h.wr p.2 b (iE p hp).1 e1).1
   .have:=Zd.wr g b o0 d0;exact ⟨this.1,by omega⟩
  .rcases hsplit g b (O.kT ho) had with ⟨g0,o0,d0,e0,l0⟩ | ⟨o0,d0,_,_,e0⟩
   .rw [e0] at ho;obtain ⟨a1,i1,h1,e2⟩:=Za ho;have hlt:b<w.heap.size:=by have:=h.wb _ hw;have:=h.size;omega
    rcases (hx.wr g0 b o0 d0).1 with q | q
    .rw [hEB] at q;omega
    .have hi1:=hx.wi g0 i1 b h1 d0 q;have:=aly b q hw fun g3 ws3 o3 d3=>by
      have:=hx.inj g3 g0 b (by rw [o3];rfl) o0 d3 d0;subst this;rw [o3] at h1;cases h1
     rw [e2];simp [qH,hi1,this]
   .rw [e0] at ho;exact Zd.wi g i b ho d0 hw
  .rcases WU g ho with ⟨g0,o0,e,e0,_⟩ | ⟨o0,e,_,_,e0⟩
   .rw [e];exact hx.ns g0 o0 (by rw [e0,UL] at hd;exact hd) b
   .rw [e];exact Zd.ns g o0 (by rw [e0] at hd;exact hd) b
  .refine hframe b (Wz hb h.size) (aje b fun p hp e1 => ?_);rcases (h.wr p.2 b (iE p hp).1 e1).1 with q | q
   .omega
   .exact hw q
  .cases hb:bk g with
   |some g0=>
    obtain ⟨b1,b2⟩:=hbs g g0 hb;subst b2;rw [WT g0 b1] at hg';obtain ⟨g1,m1,rfl⟩:=(hOut g0).2 g' hg';exact abw g1 m1
   |none=>
    by_cases hm:g∈c.ren.map (·.2)
    .obtain ⟨p,hp,e⟩:=QQ.1 hm;subst e;rw [LK p hp] at hg';cases hi:sp.sig.aY.contains p.1 with
     |false=>rw [hi] at hg';simp [O.names] at hg'
     |true=>
      rw [hi,if_pos rfl] at hg';obtain ⟨g1,m1,rfl⟩:=(hOut p.1).2 g' hg';exact abw g1 m1
    .rw [QH g hb hm] at hg';exact hFu g' (by rw [<-hBu];exact Zd.uo g g' hg')
  .cases hb:bk g with
   |some g0=>
    obtain ⟨b1,b2⟩:=hbs g g0 hb;subst b2;exact hFn g0 b1
   |none=>
    by_cases hm:g∈c.ren.map (·.2)
    .obtain ⟨p,hp,e⟩:=QQ.1 hm;subst e;exact hFu _ (WR p hp)
    .rw [QH g hb hm] at hg;exact hFu g (by rw [<-hBu];exact Zd.ul g hg)
 have alz :∀k,rD E Il bK w' (WH c.A c.I f (xq.s k)) (rs.getD k undef)/\∀g∈(WH c.A c.I f (xq.s k)).names,∃g1∈sp.sig.aU++sp.sig.aY,g=f g1:=by
  intro k;have hk:=hx.slots k;subst Zc;have e0:(mk sp.sig.aP bW).s k=match (dF bW 0 sp.sig.aP.slots).1.lookup k with | some x=>x | none=>.no:=rfl
  cases hxk:(dF bW 0 sp.sig.aP.slots).1.lookup k with
  |none=>
   rw [e0,hxk];exact ⟨.one _ _ (.no _),by simp [WH,V.names,W.names]⟩
  |some x=>
   rw [hxk] at e0;rw [e0] at hk ⊢;obtain ⟨kk,n',h1,h2⟩:=xM hxk;obtain ⟨y,e,h3,h4⟩:=alo (vs:=bW) (A:=c.A) (I:=c.I) hb2 ((X2.1 hos) _ h1) (apk k kk h1) n';simp only [h2,e] at hk ⊢;cases hk with | v _ _ hk=>exact ⟨hcast.YT h3 hk,h4⟩
 refine ⟨bK,KO,⟨fun a i b hb => ?_,fun g hu => ?_⟩,?_,?_⟩
 .obtain ⟨q1,q2⟩:=hLB.ok a i b hb;exact aby.ok a i b q1
 .rcases EL g hu with q | ⟨q1,q2⟩
  .exact .inl q
  .rcases hLB.names g hu with q | ⟨_,q⟩
   .rw [q] at q2;rcases O.Ij (x:=.none) (O.fC _) q2 with q | q
    .exact .inl q
    .exact .inl (O.DR q)
   .rcases O.Ij q q2 with q | q
    .exact .inl q
    .exact .inr ⟨q1,q⟩
 .rw [alr];have hl:((List.range sp.sig.dw).map fun k=>WH c.A c.I f (xq.s k)).length=rs.length:=by simp [hrl]
  have hj :∀(j:Nat) x v,((List.range sp.sig.dw).map fun k=>WH c.A c.I f (xq.s k))[j]?=some x->rs[j]?=some v->rD E Il bK w' x v:=by
   intro j x v hx' hv;rw [XN] at hx';obtain ⟨k,hk,rfl⟩:=ZD.1 hx';obtain ⟨hlt,hk⟩:=Q3.1 hk;simp at hk;subst hk;have:=(alz j).1
   rwa [List.getD_eq_getElem?_getD,hv] at this
  generalize (List.range sp.sig.dw).map (fun k=>WH c.A c.I f (xq.s k))=xs at hl hj;unfold Y5 Y7
  match xs,rs,hl,hj with
  | [],[],_,hj=>exact .jK _ _ rfl hj
  | [x],[v],_,hj=>exact .v _ _ (hj 0 x v rfl rfl)
  |x::y::xs,v::u::vs,hl,hj=>exact .jK _ _ hl hj
 .intro g hg;have :∃k,g∈(WH c.A c.I f (xq.s k)).names:=by
   rw [alr] at hg;generalize hxs:(List.range sp.sig.dw).map (fun k=>WH c.A c.I f (xq.s k))=xs at hg;have hin :∃x∈xs,g∈x.names:=by
    unfold Y5 at hg;split at hg
    .exact ⟨_,by simp,hg⟩
    .simpa [S.names,Z1] using hg
   obtain ⟨x,hx1,hx2⟩:=hin;rw [<-hxs] at hx1;obtain ⟨k,_,rfl⟩:=QQ.1 hx1;exact ⟨k,hx2⟩
  obtain ⟨k,hk⟩:=this;obtain ⟨g1,m1,rfl⟩:=(alz k).2 g hk;exact abw g1 m1
theorem UO {Pg:Program} {fn:FuncId} {sp:Spec} (hs:Sound Pg fn sp) (h:Rel E st gh val w) {args:List S} {vals:List Value} (hr :∀t,dH E st gh w (args.getD t .no) (vals.getD t undef)) (hlen:vals.length=sp.sig.bD)
  {c:KL} (hc:gZ sp.sig st.o args=some c) (hf:c.fine sp.sig=true) {bW:List P} (hR:sp.R c.ins bW) (d:Nat)
  {ef:Eff} (hef:ef=iH sp.sig d st.o c bW) (hnew :∀g∈ef.new,st.used g=false) :
  Calls Pg fn vals.toArray w fun e w' =>∃v bK,e=.returned v/\Rel E (st.aI ef.aI ef.new) bK val w'/\Lets E st (st.aI ef.aI ef.new) gh bK w w'/\dH E (st.aI ef.aI ef.new) bK w' ef.x v/\∀g∈ef.x.names,(st.aI ef.aI ef.new).used g=true:=by
 obtain ⟨E',lF,q1,q2,q3,_,q4⟩:=LJ hs.1 h hr hc hf;refine Calls.mono (hs.2.2 E' w vals lF c.ins bW hR q1 q2 q3 hlen) fun e w' he => ?_;obtain ⟨rs,xG,hrl,rfl,hx,UN⟩:=he;obtain ⟨bK,r1,r2,r3,r4⟩:=q4 d bW ef hef hnew w' rs xG hrl hx UN;exact ⟨_,bK,rfl,r1,r2,r3,r4⟩
end
end Go.Fw

namespace Go.Fw
variable [eF]
section
variable {o o':Nat->O}
theorem DT {g:Nat} {x:Bool×Bool×Nat×List (List P)} (h:plainO o g=some x):(o g).names=(o g).hn/\∀d∈(o g).hn,(o d).hn=[]:=by
 obtain ⟨a,i,sz,l⟩:=x;rcases vG h with ⟨fz,h⟩ | ⟨aj,h⟩ | ⟨a0,i0,aj,l0,n,c,d,fz',a',i',sz',l',h,hd,_⟩
 .rw [h];exact ⟨rfl,fun d hd=>by cases hd⟩
 .rw [h];exact ⟨rfl,fun d hd=>by cases hd⟩
 .rw [h];refine ⟨rfl,fun d' hd' => ?_⟩;simp only [O.hn,dJ,Qt] at hd';subst hd';rw [hd];rfl
theorem Ob {g:Nat} (h:Agree o o' g):aT o g=aT o' g:=by simp only [aT,Bo h,h.1]
theorem QI {g d:Nat} (h:Agree o o' g) {x:Bool×Bool×Nat×List (List P)} (hp:plainO o g=some x) (hd:d∈(o g).hn):Agree o o' d:=by
 refine ⟨h.2 d hd,fun d' hd' => ?_⟩;rw [(DT hp).2 d hd] at hd';cases hd'
theorem DU {x:W} (h :∀g∈x.names,Agree o o' g):x.toP o=x.toP o':=by
 cases x<;>simp only [W.toP]<;>(try rw [Bo (h _ (by simp [W.names])),(h _ (by simp [W.names])).1])
theorem Ae {x:W} {y:P} {a i:Bool} {gs:List Nat} (h:x.toP o=some (y,a,i,gs)) (hx :∀g∈x.names,Agree o o' g) :∀g∈gs,Agree o o' g:=by
 cases x<;>simp only [W.toP] at h
 case p=>simp only [Q0,Q1] at h;obtain ⟨_,_,_,rfl⟩:=h;simp
 case dD=>simp only [Q0,Q1] at h;obtain ⟨_,_,_,rfl⟩:=h;simp
 case own g=>
  split at h
  .rename_i hp;simp only [Q0,Q1] at h;obtain ⟨_,_,_,rfl⟩:=h;have hg:=hx g (by simp [W.names]);rw [(DT hp).1];intro d hd;rcases Xs.1 hd with hd | hd
   .exact QI hg hp hd
   .rw [Qt] at hd;subst hd;exact hg
  .cases h
 case vw g lo hi=>
  split at h
  .rename_i hp;simp only [Q0,Q1] at h;obtain ⟨_,_,_,rfl⟩:=h;have hg:=hx g (by simp [W.names]);rw [(DT hp).1];intro d hd;rcases Xs.1 hd with hd | hd
   .exact QI hg hp hd
   .rw [Qt] at hd;subst hd;exact hg
  .cases h
 all_goals cases h
theorem qI :∀{xs:List W},(∀x∈xs,∀g∈x.names,Agree o o' g)->sF o xs=sF o' xs
 | [],_=>rfl
 |x::xs,h=>by simp only [sF];rw [DU (h x (by simp)),qI fun y hy=>h y (by simp [hy])]
theorem xQ :∀{xs:List W} {ys:List P} {a i:Bool} {gs:List Nat},sF o xs=some (ys,a,i,gs)->(∀x∈xs,∀g∈x.names,Agree o o' g)->∀g∈gs,Agree o o' g
 | [],ys,a,i,gs,h,_=>by simp [sF] at h;obtain ⟨_,_,_,rfl⟩:=h;simp
 |x::xs,ys,a,i,gs,h,hx=>by
  simp only [sF] at h;split at h
  .rename_i h1 h2;simp only [Q0,Q1] at h;obtain ⟨_,_,_,rfl⟩:=h;intro g hg;rcases Xs.1 hg with hg | hg
   .exact Ae h1 (hx x (by simp)) g hg
   .exact xQ h2 (fun y hy=>hx y (by simp [hy])) g hg
  .cases h
theorem nN {gs:List Nat} (h :∀g∈gs,Agree o o' g):gs.map (aT o)=gs.map (aT o'):=
 W8 fun g hg=>Ob (h g hg)
theorem Io {sz:Nat} {x:W} (h :∀g∈x.names,o g=o' g):x.rows o sz=x.rows o' sz:=by
 cases x<;>simp only [W.rows]<;>(try rw [h _ (by simp [W.names])])
theorem E5 {x:W} (h :∀g∈x.names,o g=o' g):lenOf o x=lenOf o' x:=by
 cases x<;>simp only [lenOf]<;>(try rw [h _ (by simp [W.names])])
theorem Af {x:W} (h :∀g∈x.names,o g=o' g):x.live o=x.live o':=by
 cases x<;>simp only [W.live]<;>(try rw [h _ (by simp [W.names])])
theorem Oc {tt:TT} {d:Nat} {sT:TypeId} {s x:W} (hs :∀g∈s.names,o g=o' g) (h :∀g∈x.names,o g=o' g):u_ tt d o sT s x=u_ tt d o' sT s x:=by
 unfold u_;split
 .split
  .split
   .rfl
   .rw [Io h];split
    .rfl
    .cases s<;>simp only<;>(try rw [hs _ (by simp [W.names])])
  .rfl
 .rfl
theorem Ag {place:Nat->Option (Nat×Nat)} :∀{ps:List (Nat×S)} {WV ws:List W},lX place WV ps=some ws->∀x∈ws,x∈WV\/∃p∈ps,∀g∈x.names,g∈p.2.names
 | [],WV,ws,h=>by simp only [lX,Q0] at h;subst h;intro x hx;exact .inl hx
 |(n,s)::ps,WV,ws,h=>by
  cases s with
  |v y=>
   simp only [lX] at h;split at h
   .split at h
    .intro x hx;rcases Ag h x hx with hx | ⟨p,hp,hg⟩
     .unfold aQ at hx;rcases Xs.1 hx with hx | hx
      .rcases Xs.1 hx with hx | hx
       .exact .inl (W7 hx)
       .refine .inr ⟨(n,.v y),by simp,fun g hg => ?_⟩;cases y with
        |one y=>simp only [V.words,Qt] at hx;subst hx;simpa [S.names,V.names] using hg
        |agg ys=>simp only [V.words] at hx;simp only [S.names,V.names,Z1];exact ⟨x,hx,hg⟩
      .exact .inl (V0 hx)
     .exact .inr ⟨p,by simp [hp],hg⟩
    .cases h
   .cases h
  |jK=>simp [lX] at h
  |no=>simp [lX] at h
theorem E8 {y:V} {x:W} (h:x∈y.words) {g:Nat} (hg:g∈x.names):g∈(S.v y).names:=by
 cases y with
 |one y=>simp only [V.words,Qt] at h;subst h;simpa [S.names,V.names] using hg
 |agg ys=>simp only [V.words] at h;simp only [S.names,V.names,Z1];exact ⟨x,h,hg⟩
theorem BO {tt:TT} {d:Nat} {F F':Operand->S} {op:Op} {ty:TypeId} (hF :∀x∈op.operands.toList,F x=F' x) (hO :∀x∈op.operands.toList,∀g∈(F x).names,Agree o o' g) :
  kernel tt d o F op ty=kernel tt d o' F' op ty:=by
 have ho :∀x∈op.operands.toList,∀g∈(F x).names,o g=o' g:=fun x hx g hg=>(hO x hx g hg).1;cases op with
 |move x=>simp only [kernel,<-hF x (by simp [Op.operands])]
 |assign x=>simp only [kernel,<-hF x (by simp [Op.operands])]
 |pick c x y=>simp only [kernel,<-hF c (by simp [Op.operands]),<-hF x (by simp [Op.operands]),<-hF y (by simp [Op.operands])]
 |alloc t=>rfl
 |box t x=>simp only [kernel,<-hF x (by simp [Op.operands])]
 |build t ps=>
  have e:ps.toList.map (fun p=>(p.1,F p.2))=ps.toList.map (fun p=>(p.1,F' p.2)):=W8 fun p hp=>by
   rw [hF p.2 (by simp only [Op.operands];exact QQ.2 ⟨p,hp,rfl⟩)]
  simp only [kernel,<-e]
 |buildSlice t n ps=>
  have e:ps.toList.map (fun p=>(p.1,F p.2))=ps.toList.map (fun p=>(p.1,F' p.2)):=W8 fun p hp=>by
   rw [hF p.2 (by simp only [Op.operands];exact QQ.2 ⟨p,hp,rfl⟩)]
  simp only [kernel,<-e];split
  .split
   .rename_i ie _;split
    .rename_i ws hws;have hn :∀x∈ws,∀g∈x.names,Agree o o' g:=by
      intro x hx g hg;rcases Ag hws x hx with h | ⟨p,hp,h⟩
      .have:=rM h;obtain ⟨v,_,rfl⟩:=QQ.1 this;rw [nI] at hg;cases hg
      .obtain ⟨q,hq,rfl⟩:=QQ.1 hp;exact hO q.2 (by simp only [Op.operands];exact QQ.2 ⟨q,hq,rfl⟩) g (h g hg)
     rw [<-qI hn];split
     .rename_i h;rw [nN (xQ h hn)]
     .rfl
    .rfl
   .rfl
  .rfl
 |load t x=>
  have hx:=hF x (by simp [Op.operands]);have hn:=ho x (by simp [Op.operands]);simp only [kernel,<-hx];generalize F x=sx at hn;split<;>simp_all [S.names,V.names,W.names]
 |store t x y=>
  have hx:=hF x (by simp [Op.operands]);have hy:=hF y (by simp [Op.operands]);have hn:=ho x (by simp [Op.operands]);have hm:=hO y (by simp [Op.operands]);simp only [kernel,<-hx,<-hy];generalize F x=sx at hn;generalize F y=sy at hm;split
  .rename_i g off y _;rw [hn g (by simp [S.names,V.names,W.names])]
  .rename_i g n off y _;rw [hn g (by simp [S.names,V.names,W.names])];have hw :∀x∈y.words,∀g∈x.names,Agree o o' g:=fun x hx g hg=>hm g (E8 hx hg);rw [<-qI hw];cases hz:sF o y.words with
   |none=>cases o' g with | arr fz _ _ _ _=>cases fz<;>rfl | _=>rfl
   |some z=>
    obtain ⟨ps,a',i'',gs⟩:=z;have e:=nN (xQ hz hw);cases o' g with
    |arr fz _ _ _ _=>cases fz<;>simp only [e]
    |_=>rfl
  .rfl
 |nilCheck x=>
  have hx:=hF x (by simp [Op.operands]);have hn:=ho x (by simp [Op.operands]);simp only [kernel,<-hx];generalize F x=sx at hn;split
  .rw [Af fun g hg=>hn g (by simpa [S.names,V.names] using hg)]
  .rfl
 |binOp op t x y u=>simp only [kernel,<-hF x (by simp [Op.operands]),<-hF y (by simp [Op.operands])]
 |unOp op t x=>simp only [kernel,<-hF x (by simp [Op.operands])]
 |convert s t x=>
  have hx:=hF x (by simp [Op.operands]);have hn:=ho x (by simp [Op.operands]);simp only [kernel,<-hx];generalize F x=sx at hn;split
  .rfl
  .rw [Io fun g hg=>hn g (by simpa [S.names,V.names] using hg)]
  .rfl
  .rfl
 |makeSlice t n c=>
  simp only [kernel,<-hF n (by simp [Op.operands]),<-hF c (by simp [Op.operands])];split
  .split
   .rename_i ie _;have:sF o (ie.zero.map cv)=sF o' (ie.zero.map cv):=qI fun x hx g hg=>by
     obtain ⟨v,_,rfl⟩:=QQ.1 hx;rw [nI] at hg;cases hg
    rw [this]
   .rfl
  .rfl
 |slice t x lo hi mx=>
  cases mx with
  |some m=>cases lo with
   |some l=>simp only [kernel]
   |none=>cases hi with
    |none=>simp only [kernel]
    |some h=>
     have hx:=hF x (by simp [Op.operands]);have hn:=ho x (by simp [Op.operands]);simp only [kernel,<-hx,<-hF h (by simp [Op.operands]),<-hF m (by simp [Op.operands])];generalize F x=sx at hn;unfold Bq;split
     .rename_i g _ _ h' _ _ m' _ _ _;rw [hn g (by simp [S.names,V.names,W.names])]
     .rfl
     .rfl
  |none=>
   have hx:=hF x (by simp [Op.operands]);have hn:=ho x (by simp [Op.operands]);have hlo:lo.map F=lo.map F':=by
    cases lo with
    |none=>rfl
    |some l=>simp [hF l (by simp [Op.operands])]
   have hhi:hi.map F=hi.map F':=by
    cases hi with
    |none=>rfl
    |some l=>simp [hF l (by simp [Op.operands])]
   simp only [kernel,<-hx,<-hlo,<-hhi];generalize F x=sx at hn;split
   .rename_i x _;have hn :∀g∈x.names,o g=o' g:=fun g hg=>hn g (by simpa [S.names,V.names] using hg);rw [<-E5 hn];split
    .split
     .split
      .rw [hn _ (by simp [W.names])]
      all_goals rfl
     .rfl
    .rfl
   .rfl
   .rfl
 |fieldAddr t x n=>
  have hx:=hF x (by simp [Op.operands]);have hn:=ho x (by simp [Op.operands]);simp only [kernel,<-hx];generalize F x=sx at hn;split
  .rw [Af fun g hg=>hn g (by simpa [S.names,V.names] using hg)]
  .rfl
 |field t x n=>simp only [kernel,<-hF x (by simp [Op.operands])]
 |indexAddr t x ix=>
  have hx:=hF x (by simp [Op.operands]);have hn:=ho x (by simp [Op.operands]);simp only [kernel,<-hx,<-hF ix (by simp [Op.operands])];generalize F x=sx at hn;split
  .rename_i x a i n _ _;have hn :∀g∈x.names,o g=o' g:=fun g hg=>hn g (by simpa [S.names,V.names] using hg);split
   .rw [hn _ (by simp [W.names])]
   .rw [hn _ (by simp [W.names])]
   all_goals rfl
  .rfl
  .rw [Af fun g hg=>hn g (by simpa [S.names,V.names] using hg)]
  .rfl
 |index t x ix=>simp only [kernel,<-hF x (by simp [Op.operands]),<-hF ix (by simp [Op.operands])]
 |extract t n=>simp only [kernel,<-hF t (by simp [Op.operands])]
 |range t x=>simp only [kernel,<-hF x (by simp [Op.operands])]
 |makeFunc fn first caps=>
  cases fn with
  |func g=>
   simp only [kernel];have hc :∀x∈caps.toList,F x=F' x:=fun x hx=>hF x (by simp [Op.operands];exact .inr (by simpa using hx));have :∀l:List Operand,(∀x∈l,F x=F' x)->∀(G:Option (List W)->Option Dv),G (l.mapM (fun x=>match F x with | .v (.one w)=>some w | _=>none))=G (l.mapM (fun x=>match F' x with | .v (.one w)=>some w | _=>none)):=by
    intro l hl G;congr 1
    induction l with
    |nil=>rfl
    |cons x l ih=>
     simp only [vd];rw [hl x (by simp),ih fun y hy=>hl y (by simp [hy])]
   split
   .exact this _ hc fun z=>match z with | some ws=>some (.pure (.v (.one (.clo g ws)))) | none=>none
   .rfl
  |_=>rfl
 |call c=>
  obtain ⟨callee,args,ts⟩:=c;have ha :∀x∈args.toList,F x=F' x:=fun x hx=>hF x (by simp [Op.operands,Call.operands];exact .inr (by simpa using hx));have hb :∀x∈args.toList,∀g∈(F x).names,o g=o' g:=fun x hx=>ho x (by simp [Op.operands,Call.operands];exact .inr (by simpa using hx));cases callee with
  |builtin b=>
   cases b with
   |append=>
    simp only [kernel];split
    .rename_i s x sT xT _ hl _;have hs:=ha s (by rw [hl];simp);have hx:=ha x (by rw [hl];simp);have ns:=hb s (by rw [hl];simp);have nx:=hb x (by rw [hl];simp);rw [<-hs,<-hx];generalize F s=ss at ns;generalize F x=sx at nx;split
     .exact Oc (fun g hg=>ns g (by simpa [S.names,V.names] using hg)) (fun g hg=>nx g (by simpa [S.names,V.names] using hg))
     .rfl
    .rfl
   |clear=>
    simp only [kernel];split
    .rename_i x t tl hl _;have hx:=ha x (by rw [hl];simp);have nx:=hb x (by rw [hl];simp);rw [<-hx];generalize F x=sx at nx;unfold Nz;split
     .rename_i e _ _ _ g lo hi _;rw [nx g (by simp [S.names,V.names,W.names])];split
      .rename_i ie _ _ _ _ _ _;have:sF o (ie.zero.map cv)=sF o' (ie.zero.map cv):=qI fun x hx g hg=>by
        obtain ⟨v,_,rfl⟩:=QQ.1 hx;rw [nI] at hg;cases hg
       rw [this]
      .rfl
     .rfl
    .rfl
   |len=>
    simp only [kernel];split
    .rename_i x t hl _;have hx:=ha x (by rw [hl];simp);have nx:=hb x (by rw [hl];simp);rw [<-hx];generalize F x=sx at nx;split
     .rw [E5 fun g hg=>nx g (by simpa [S.names,V.names] using hg)]
     .rfl
     .rfl
    .rfl
   |min=>
    simp only [kernel];split
    .rename_i x y hl;rw [ha x (by rw [hl];simp),ha y (by rw [hl];simp)]
    .rename_i x y z hl;rw [ha x (by rw [hl];simp),ha y (by rw [hl];simp),ha z (by rw [hl];simp)]
    .rfl
   |max=>
    simp only [kernel];split
    .rename_i x y hl;rw [ha x (by rw [hl];simp),ha y (by rw [hl];simp)]
    .rename_i x y z hl;rw [ha x (by rw [hl];simp),ha y (by rw [hl];simp),ha z (by rw [hl];simp)]
    .rfl
   |_=>rfl
  |_=>rfl
 |_=>rfl
theorem yZ {col:Nat->Option Nat} :∀{xs:List W} {j:Nat},(∀x∈xs,∀g∈x.names,Agree o o' g)->P9 o col j xs=P9 o' col j xs
 | [],_,_=>rfl
 |x::xs,j,h=>by
  have hx:=h x (by simp);simp only [P9];rw [yZ fun y hy=>h y (by simp [hy]),DU hx];cases x with
  |own e=>simp only [(hx e (by simp [W.names])).1]
  |_=>rfl
theorem Ah {col:Nat->Option Nat} :∀{xs:List W} {j:Nat} {ys:List P} {a i:Bool} {gs:List Nat} {es:List (Nat×Nat)},P9 o col j xs=some (ys,a,i,gs,es)->(∀x∈xs,∀g∈x.names,Agree o o' g)->∀g∈gs,Agree o o' g
 | [],j,ys,a,i,gs,es,h,_=>by simp [P9] at h;obtain ⟨_,_,_,rfl,_⟩:=h;simp
 |x::xs,j,ys,a,i,gs,es,h,hx=>by
  simp only [P9] at h;split at h
  .cases h
  .rename_i ys' a' i' gs' es' h2;have ih:=Ah h2 (fun y hy=>hx y (by simp [hy]));split at h
   .split at h
    .rename_i h1;simp only [Q0,Q1] at h;obtain ⟨_,_,_,rfl,_⟩:=h;intro g hg;rcases Xs.1 hg with hg | hg
     .exact Ae h1 (hx x (by simp)) g hg
     .exact ih g hg
    .cases h
   .split at h
    .simp only [Q0,Q1] at h;obtain ⟨_,_,_,rfl,_⟩:=h;exact ih
    .split at h
     .split at h
      .simp only [Q0,Q1] at h;obtain ⟨_,_,_,rfl,_⟩:=h;exact ih
      .cases h
     .cases h
    .cases h
theorem QJ {x:W} (h :∀g∈x.names,Agree o o' g):baseD o x=baseD o' x:=by
 cases x<;>simp only [baseD]<;>(try rw [mY (h _ (by simp [W.names])),(h _ (by simp [W.names])).1])
theorem KP {tt:TT} {dc:List (Nat×Nat)} {d:Nat} {F F':Operand->S} {op:Op} {ty:TypeId} (hF :∀x∈op.operands.toList,F x=F' x) (hO :∀x∈op.operands.toList,∀g∈(F x).names,Agree o o' g) :
  dU tt dc d o F op ty=dU tt dc d o' F' op ty:=by
 cases op with
 |load t x=>
  have hx:=hF x (by simp [Op.operands]);have hn:=hO x (by simp [Op.operands]);simp only [dU,zY,<-hx];generalize F x=sx at hn;congr 1
  .split
   .have hg:=hn _ (by simp [S.names,V.names,W.names];rfl);rw [<-mY hg]
   .rfl
  .split
   .have hg:=hn _ (by simp [S.names,V.names,W.names];rfl);rw [<-mY hg,<-hg.1]
   .rfl
 |slice t x lo hi mx=>
  cases lo with
  |some _=>rfl
  |none=>
  cases mx with
  |some _=>rfl
  |none=>
  have hx:=hF x (by simp [Op.operands]);have hn:=hO x (by simp [Op.operands]);have hh:hi.map F=hi.map F':=by
   cases hi with
   |none=>rfl
   |some y=>simp only [Z3,Q0];exact hF y (by simp [Op.operands])
  simp only [dU,<-hx,<-hh];generalize F x=sx at hn;split
  .have hg:=hn _ (by simp [S.names,V.names,W.names];rfl);rw [<-hg.1]
  .rfl
 |store t x y=>
  have hx:=hF x (by simp [Op.operands]);have hy:=hF y (by simp [Op.operands]);have hn:=hO x (by simp [Op.operands]);have hm:=hO y (by simp [Op.operands]);simp only [dU,<-hx,<-hy];generalize F x=sx at hn;generalize F y=sy at hm;split
  .rename_i g off y _;have hg:=hn _ (by simp [S.names,V.names,W.names];rfl);have hw :∀x∈y.words,∀g∈x.names,Agree o o' g:=fun x hx g hg=>hm g (E8 hx hg);rw [<-mY hg,<-hg.1];split
   .rename_i a0 i0 sz aj l0 hole _;rw [<-yZ hw];split
    .rename_i ps a' i' gs es hz;rw [nN (Ah hz hw)]
    .rfl
   .rfl
  .rfl
 |buildSlice t n ps=>
  have e:ps.toList.map (fun p=>(p.1,F p.2))=ps.toList.map (fun p=>(p.1,F' p.2)):=W8 fun p hp=>by
   rw [hF p.2 (by simp only [Op.operands];exact QQ.2 ⟨p,hp,rfl⟩)]
  simp only [dU,<-e];split
  .split
   .rename_i ie _;split
    .rename_i ws hws;have hn :∀x∈ws,∀g∈x.names,Agree o o' g:=by
      intro x hx g hg;rcases Ag hws x hx with h | ⟨p,hp,h⟩
      .have:=rM h;obtain ⟨v,_,rfl⟩:=QQ.1 this;rw [nI] at hg;cases hg
      .obtain ⟨q,hq,rfl⟩:=QQ.1 hp;exact hO q.2 (by simp only [Op.operands];exact QQ.2 ⟨q,hq,rfl⟩) g (h g hg)
     rw [<-yZ hn];split
     .rename_i h;rw [nN (Ah h hn)]
     .rfl
    .rfl
   .rfl
  .rfl
 |makeSlice t n c=>
  simp only [dU,<-hF n (by simp [Op.operands]),<-hF c (by simp [Op.operands])];split
  .split
   .rename_i ie _;have :∀col,P9 o col 0 (ie.zero.map cv)=P9 o' col 0 (ie.zero.map cv):=fun col=>yZ fun x hx g hg=>by
     obtain ⟨v,_,rfl⟩:=QQ.1 hx;rw [nI] at hg;cases hg
    rw [this]
   .rfl
  .rfl
 |call c=>
  obtain ⟨callee,args,ts⟩:=c;have ha :∀x∈args.toList,F x=F' x:=fun x hx=>hF x (by simp [Op.operands,Call.operands];exact .inr (by simpa using hx));have hb :∀x∈args.toList,∀g∈(F x).names,Agree o o' g:=fun x hx=>hO x (by simp [Op.operands,Call.operands];exact .inr (by simpa using hx));cases callee with
  |builtin b=>
   cases b with
   |append=>
    simp only [dU];split
    .rename_i s x sT xT _ hl _;have hs:=ha s (by rw [hl];simp);have hx:=ha x (by rw [hl];simp);have ns:=hb s (by rw [hl];simp);have nx:=hb x (by rw [hl];simp);rw [<-hs,<-hx];generalize F s=ss at ns;generalize F x=sx at nx;split
     .rename_i s' g2 _ _;have hg:=nx g2 (by simp [S.names,V.names,W.names]);rw [<-QJ (fun g hg=>ns g (by simpa [S.names,V.names] using hg)),<-mY hg,<-hg.1]
     .rfl
    .rfl
   |_=>rfl
  |_=>rfl
 |_=>rfl
end
end Go.Fw

namespace Go.Fw
open Go.RowKit
variable [eF]
def quiet:Obj->Bool
 |.loop _=>true
 |.deferred _=>true
 |_=>false
theorem jv {o:Obj} (h:quiet o=true) :∀c e f,o≠.cells c e f:=by intro c e f e';subst e';cases h
theorem Ip {o:Obj} (h:quiet o=true) :∀s k,o≠.stringIter s k:=by intro s k e';subst e';cases h
section
variable {w w':World} {b:Nat} {o:Obj}
theorem Iq {a:Addr} {v:Value} (h:w.cell? a=some v) :∃c e f,w.heap[a.block]?=some (.cells c e f):=by
 obtain ⟨o,ho,hc⟩:=cells_of_cell h;cases o<;>first | exact ⟨_,_,_,ho⟩ | cases hc
theorem dh.turn (hb:w.heap[b]?=some o) (hq:quiet o=true) (hs :∀k,k≠b->w'.heap[k]?=w.heap[k]?) {ok:Nat->Prop} {x:P} {v:Value} (r:dh w ok x v):dh w' ok x v:=by
 have ne :∀{k c e f},w.heap[k]?=some (.cells c e f)->k≠b:=fun hk e'=>by subst e';rw [hb] at hk;exact jv hq _ _ _ (Wa hk)
 induction r with
 |int k n=>exact .int k n
 |bool b=>exact .bool b
 |str s=>exact .str s
 |opq v h=>exact .opq v h
 |nil sz ao cap=>exact .nil sz ao cap
 |sl sz l a cap f hs' hok hcap hlen hc hr ih=>
  refine .sl sz l a cap f hs' hok hcap hlen (fun i x hx j y hy => ?_) (fun i x hx j y hy=>ih i x hx j y hy);have h0:=hc i x hx j y hy;obtain ⟨c,e,f,hk⟩:=Iq h0;rw [<-h0];exact World.cell?_of_block (w:=w) (hs _ (ne hk))
 |seq l v S hv hS hq'=>
  exact .seq l v S hv (fun b' hb'=>⟨(hS b' hb').1,by obtain ⟨c,e,f,hk⟩:=(hS b' hb').2;exact ⟨c,e,f,(hs _ (ne hk)).trans hk⟩⟩)
   (eF.WB (fun b' hb'=>by obtain ⟨c,e,f,hk⟩:=(hS b' hb').2;exact hs _ (ne hk)) hq')
variable {E:Env} {st:St} {gh:Nat->Gh}
theorem vS (hz:w'.heap.size=w.heap.size) {a i:Bool}:E.ok st gh w a i=E.ok st gh w' a i:=by
 funext b;unfold Env.ok;rw [hz]
theorem fA.turn (hb:w.heap[b]?=some o) (hq:quiet o=true) (hs :∀k,k≠b->w'.heap[k]?=w.heap[k]?) (hz:w'.heap.size=w.heap.size) {x:W} {v:Value} (r:fA E st gh w x v):fA E st gh w' x v:=by
 induction r with
 |p a i x v h=>exact .p a i x v (by rw [<-vS hz];exact h.turn hb hq hs)
 |dD=>exact .dD
 |own g v hv h=>exact .own g v hv h
 |vw g lo hi v hv h=>exact .vw g lo hi v hv h
 |box g off v hv h=>exact .box g off v hv h
 |ep g n off v hv h=>exact .ep g n off v hv h
 |sp a i row off b' o' hb' h=>
  refine .sp a i row off b' o' (by rw [<-vS hz];exact hb') fun j y hj => ?_;obtain ⟨u,hu,hr⟩:=h j y hj;obtain ⟨c,e,f,hk⟩:=Iq hu;refine ⟨u,?_,by rw [<-vS hz];exact hr.turn hb hq hs⟩;rw [<-hu];refine World.cell?_of_block (w:=w) (hs _ fun e' => ?_);have hk:w.heap[b']?=some (.cells c e f):=hk;have e':b'=b:=e';rw [e',hb] at hk;exact jv hq _ _ _ (Wa hk)
 |gl g=>exact .gl g
 |nC g v hv h=>exact .nC g v hv h
 |gd b x v h ih=>exact .gd b x v ih
 |clo f caps vs hl h ih=>exact .clo f caps vs hl ih
 |no v=>exact .no v
theorem rD.turn (hb:w.heap[b]?=some o) (hq:quiet o=true) (hs :∀k,k≠b->w'.heap[k]?=w.heap[k]?) (hz:w'.heap.size=w.heap.size) {x:V} {v:Value} (r:rD E st gh w x v):rD E st gh w' x v:=by
 cases r with
 |one x v h=>exact .one x v (h.turn hb hq hs hz)
 |agg xs cs hl hv h=>exact .agg xs cs hl hv fun j x v hx hv'=>(h j x v hx hv').turn hb hq hs hz
theorem dH.turn (hb:w.heap[b]?=some o) (hq:quiet o=true) (hs :∀k,k≠b->w'.heap[k]?=w.heap[k]?) (hz:w'.heap.size=w.heap.size) {x:S} {v:Value} (r:dH E st gh w x v):dH E st gh w' x v:=by
 cases r with
 |v x v h=>exact .v x v (h.turn hb hq hs hz)
 |jK xs vs hl h=>exact .jK xs vs hl fun j x v hx hv=>(h j x v hx hv).turn hb hq hs hz
 |no v=>exact .no v
theorem iG.turn (hb:w.heap[b]?=some o) (hq:quiet o=true) (hs :∀k,k≠b->w'.heap[k]?=w.heap[k]?) (hz:w'.heap.size=w.heap.size) {a i:Bool} {sz:Nat} {l:List (List P)} {G:Gh} (r:iG E st gh w a i sz l G):iG E st gh w' a i sz l G:=by
 rcases r with r | ⟨ad,c,e,h1,h2,h3,h4,h5,h6,h7⟩
 .exact .inl r
 .exact .inr ⟨ad,c,e,h1,h2,(hs _ fun e'=>by rw [e',hb] at h3;exact jv hq _ _ _ (Wa h3)).trans h3,h4,h5,h6,fun n x hx j y hy=>let ⟨v,q1,q2⟩:=h7 n x hx j y hy;⟨v,q1,by rw [<-vS hz];exact q2.turn hb hq hs⟩⟩
theorem lT.turn (hb:w.heap[b]?=some o) (hq:quiet o=true) (hs :∀k,k≠b->w'.heap[k]?=w.heap[k]?) (hz:w'.heap.size=w.heap.size) {x:O} {G:Gh} (r:lT E st gh w x G):lT E st gh w' x G:=by
 have ne :∀{k c e f},w.heap[k]?=some (.cells c e f)->k≠b:=fun hk e'=>by subst e';rw [hb] at hk;exact jv hq _ _ _ (Wa hk)
 cases x with
 |none=>trivial
 |box ws=>
  obtain ⟨ad,c,e,h1,h2,h3,h4,h5⟩:=r;exact ⟨ad,c,e,h1,h2,(hs _ (ne h3)).trans h3,h4,fun j x hx=>let ⟨v,q1,q2,q3⟩:=h5 j x hx;⟨v,q1,q2,q3.turn hb hq hs hz⟩⟩
 |arr fz a i sz l=>
  cases fz with
  |true=>exact (by rw [<-vS hz];exact dh.turn hb hq hs r:dh w' (E.ok st gh w' a i) (.sl sz l) (.slice G.ad l.length G.cap))
  |false=>exact iG.turn hb hq hs hz r
 |aN a i sz aj l hole=>
  rcases r with r | ⟨ad,c,e,h1,h2,h3,h4,h5,h6,⟨h7,h7'⟩,h8⟩
  .exact .inl r
  .refine .inr ⟨ad,c,e,h1,h2,(hs _ (ne h3)).trans h3,h4,h5,h6,⟨h7,fun k hk=>let ⟨c,e,f,q⟩:=h7' k hk;⟨c,e,f,(hs _ (ne q)).trans q⟩⟩,fun n x hx j y hy => ?_⟩;obtain ⟨v,hv,hr⟩:=h8 n x hx j y hy;refine ⟨v,hv,?_⟩;unfold iK at *;cases hc:aj.lookup j with
   |none=>rw [hc] at hr;exact (by rw [<-vS hz];exact dh.turn hb hq hs hr:dh w' (E.ok st gh w' a i) y v)
   |some sz'=>
    rw [hc] at hr;simp only at *;cases hh:gY hole n j with
    |some d=>rw [hh] at hr;exact ⟨hr.1,hr.2.turn hb hq hs hz⟩
    |none=>
     rw [hh] at hr;obtain ⟨l',ao,k,q1,q2,q3,q4⟩:=hr;exact ⟨l',ao,k,q1,q2,q3.turn hb hq hs hz,q4⟩
 |it s n=>
  obtain ⟨ad,bs,k,h1,h2,h3,h4⟩:=r;refine ⟨ad,bs,k,h1,h2,h3,(hs _ fun e' => ?_).trans h4⟩;rw [e',hb] at h4;exact Ip hq _ _ (Wa h4)
theorem Rel.turn {val:Nat->Value} (h:Rel E st gh val w) (hb:w.heap[b]?=some o) (hq:quiet o=true) (hB:E.B0<=b) (o':Obj):Rel E st gh val (w.putObj b o'):=by
 have hs :∀k,k≠b->(w.putObj b o').heap[k]?=w.heap[k]?:=fun k hk=>World.putObj_heap_other hk;have hz:(w.putObj b o').heap.size=w.heap.size:=World.putObj_size;exact ⟨fun t=>(h.slots t).turn hb hq hs hz,fun g=>(h.bf g).turn hb hq hs hz,h.inj,fun g a h1 h2=>by rw [hz];exact h.wr g a h1 h2,h.wi,h.ns,h.wb,fun k hk hw=>(hs k (by omega)).trans (h.frame k hk hw),by rw [hz];exact h.size,h.os,h.tape,h.output,h.us,h.uo,h.ul⟩
omit [eF] in
structure BP (w w':World):Prop where
 size:w.heap.size<=w'.heap.size
 same :∀b,b<w.heap.size->w'.heap[b]?=w.heap[b]?
 os:w'.os=w.os
 tape:w'.tape=w.tape
 output:w'.output=w.output
theorem BP.alloc (w:World) (o:Obj):BP w (w.alloc o):=
 ⟨by simp,fun b hb=>Below.heap_alloc w o b hb,rfl,rfl,rfl⟩
theorem BP.lets (h:BP w w'):Lets E st st gh gh w w':=
 ⟨fun a i b hb=>⟨⟨hb.1,Wz hb.2.1 h.size,hb.2.2⟩,h.same b hb.2.1⟩,fun g _=>.inr ⟨⟨rfl,rfl⟩,O.fC _⟩⟩
theorem Rel.grows {val:Nat->Value} (h:Rel E st gh val w) (hg:BP w w'):Rel E st gh val w':=by
 have hl:Lets E st st gh gh w w':=hg.lets;refine ⟨fun t=>hl.ae5 (h.us t) (h.slots t),fun g=>hl.Bl (fun ho ad had=>hg.same _ (h.wr g ad ho had).2) (h.uo g) (h.bf g),h.inj,fun g a h1 h2=>⟨(h.wr g a h1 h2).1,Wz (h.wr g a h1 h2).2 hg.size⟩,h.wi,h.ns,h.wb,fun k hk hw=>(hg.same k (Wz hk h.size)).trans (h.frame k hk hw),UP h.size hg.size,hg.os.trans h.os,hg.tape.trans h.tape,hg.output.trans h.output,h.us,h.uo,h.ul⟩
theorem Rel.abz {val:Nat->Value} (h:Rel E st gh val w) (hb:w.heap[b]?=some o) (hq:quiet o=true) (hB:E.B0<=b) (a i:Bool):E.ok st gh w a i b:=by
 refine ⟨.inr (.inr (.inl hB)),(Wg.1 hb).1,fun g ho had => ?_⟩;have hO:=h.bf g;rcases had with ⟨ad,had,e⟩ | hsub
 case inr=>
  cases hd:(st.o g).n_ with
  |false=>rw [h.ns g ho hd b] at hsub;cases hsub
  |true=>
   cases hog:st.o g with
   |aN a i sz aj l hole=>
    rw [hog] at hO;rcases hO with ⟨_,_,_,q⟩ | ⟨ad,c,e,_,_,_,_,_,_,⟨_,q⟩,_⟩
    .rw [q b] at hsub;cases hsub
    .obtain ⟨c,e,f,q⟩:=q b hsub;rw [hb] at q;exact jv hq _ _ _ (Wa q)
   |_=>rw [hog] at hd;cases hd
 cases hog:st.o g with
 |none=>rw [hog] at ho;cases ho
 |box ws=>
  rw [hog] at hO;obtain ⟨ad',c,e',q1,_,q3,_⟩:=hO;rw [had] at q1;cases q1;rw [e,hb] at q3;exact jv hq _ _ _ (Wa q3)
 |aN a i sz aj l hole=>
  rw [hog] at hO;rcases hO with ⟨q1,_⟩ | ⟨ad',c,e',q1,_,q3,_⟩
  .rw [had] at q1;cases q1
  .rw [had] at q1;cases q1;rw [e,hb] at q3;exact jv hq _ _ _ (Wa q3)
 |arr fz a i sz l=>
  cases fz with
  |true=>rw [hog] at ho;cases ho
  |false=>
   rw [hog] at hO;rcases hO with ⟨q1,_⟩ | ⟨ad',c,e',q1,_,q3,_⟩
   .rw [had] at q1;cases q1
   .rw [had] at q1;cases q1;rw [e,hb] at q3;exact jv hq _ _ _ (Wa q3)
 |it s n=>
  rw [hog] at hO;obtain ⟨ad',bs,k,q1,_,_,q4⟩:=hO;rw [had] at q1;cases q1;rw [e,hb] at q4;exact Ip hq _ _ (Wa q4)
end
end Go.Fw

namespace Go.Fw
variable [eF]
section
variable {E:Env} {st st':St} {gh bK:Nat->Gh} {w w':World} {a:Act}
theorem UQ (v:Value):dH E st gh w (uZ v) v:=by
 unfold uZ;split
 .rename_i cs;split
  .rename_i h;have h:=X2.1 h;refine .v _ _ (.agg _ cs.toList (by simp) h fun j x u hx hu => ?_);rw [XN,hu] at hx;simp only [Z3,Q0] at hx;subst hx;exact Uy (h u (XS hu))
  .exact .no _
 .exact .no _
 .exact .v _ _ (.one _ _ (.clo _ [] [] rfl fun j x v hx=>by simp at hx))
 .split
  .rename_i h;exact .v _ _ (.one _ _ (Uy h))
  .exact .no _
theorem Oe (v:Value):(uZ v).names=[]:=by
 unfold uZ;split
 .split
  .simp [S.names,V.names,nI]
  .rfl
 .rfl
 .simp [S.names,V.names,W.names]
 .split
  .simp [S.names,V.names,nI]
  .rfl
theorem nO (h:Rel E st gh (fun t=>a.tmps.getD t undef) w) (x:Operand):dH E st gh w (st.dI x) (a.eval x):=by
 cases x with
 |tmp t=>exact h.slots t
 |const v=>exact UQ v
 |global g=>
  simp only [St.dI];split
  .exact .v _ _ (.one _ _ (.gl g))
  .exact .no _
 |func f=>exact .v _ _ (.one _ _ (.clo _ [] [] rfl fun j x v hx=>by simp at hx))
theorem Ir (h:Rel E st gh (fun t=>a.tmps.getD t undef) w) (x:Operand) :∀g∈(st.dI x).names,st.used g=true:=by
 cases x with
 |tmp t=>exact h.us t
 |const v=>intro g hg;simp [St.dI,Oe] at hg
 |global g=>
  intro g' hg;simp only [St.dI] at hg;split at hg
  .simp [S.names,V.names,W.names] at hg
  .simp [S.names] at hg
 |func f=>intro g hg;simp [St.dI,S.names,V.names,W.names] at hg
theorem xR (dst:Option Tmp) (v:Value) (h :∀d,dst=some d->d<a.tmps.size):(fun t=>(a.put dst v).tmps.getD t undef)=xA (fun t=>a.tmps.getD t undef) dst v:=by
 cases dst with
 |none=>rfl
 |some d=>
  funext t;have hd:=h d rfl;simp only [Act.put,xA,ZS];by_cases e:t=d
  .subst e;simp [hd]
  .rw [KM (Ne.symm e),if_neg e]
variable {Pg:Program} {T:Tab} {tt:TT}
theorem Ze (hT :∀f sp,T f=some sp->Sound Pg (f % 1000000) sp) (htt:iw Pg tt) (h:Rel E st gh (fun t=>a.tmps.getD t undef) w) {o:Oper} {d:Nat} {e:Eff} (hc:ji T tt d st o fun e'=>e'=e) (hnew :∀g∈e.new,st.used g=false)
  {K:Act->World->Prop} {Q:Exit->Act->World->Prop}
  (hK :∀v w' bK,Rel E (st.aI e.aI e.new) bK (fun t=>a.tmps.getD t undef) w'->Lets E st (st.aI e.aI e.new) gh bK w w'->dH E (st.aI e.aI e.new) bK w' e.x v->(∀g∈e.x.names,(st.aI e.aI e.new).used g=true)->K (a.put o.dst v) w') :
  o.wp Pg a w K Q:=by
 unfold ji at hc;split at hc
 .rename_i f args ts ho;split at hc
  .rename_i fn caps hf;split at hc
   .rename_i sp hsp;split at hc
    .rename_i c hci;obtain ⟨WW,bW,same,hR,hsame,he⟩:=hc;simp only [Q6,decide_eq_true_eq] at WW;have hrf:=nO h f;rw [hf] at hrf;generalize hvf:a.eval f=vf at hrf;cases hrf.dG with
     |clo _ _ vs hl hvs=>
     have hS:=afc (p:=Sound Pg) hT hsp;have hrun:(execOp a.eval o).run Pg w=.ok (.enter fn (args.toList.map a.eval++vs).toArray) w:=by
      have:(#[]++args.map a.eval)++vs.toArray=(args.toList.map a.eval++vs).toArray:=by
       apply Array.ext';simp
      rw [<-hS.2.1 (args.toList.map a.eval++vs).toArray w,<-this];simp only [execOp,ho,resolve,hvf,Deferred.ofValue];rfl
     show o.upon Pg a K Q ((execOp a.eval o).run Pg w);rw [hrun,Oper.upon_enter];have hr :∀t,dH E st gh w (((args.toList.map st.dI)++caps.map fun x=>S.v (.one x)).getD t .no) ((args.toList.map a.eval++vs).getD t undef):=by
      intro t;simp only [List.getD_eq_getElem?_getD];by_cases ht:t<args.toList.length
      .rw [Wb (by simpa using ht),Wb (by simpa using ht),XN,XN,Q2 ht];exact nO h _
      .rw [W6 (by simpa using ht),W6 (by simpa using ht)];simp only [W0];rw [XN];cases hx:caps[t-args.toList.length]? with
       |none=>exact .no _
       |some x=>
        have hlt:t-args.toList.length<vs.length:=by rw [<-hl];exact (Q3.1 hx).1
        rw [Q2 hlt];exact .v _ _ (.one _ _ (hvs _ x _ hx (Q2 hlt)))
     have hu:=Y6 (st:=st) (e:=iH sp.sig d st.o c bW) fun g hg=>(hsame g hg).2;have hnew :∀g∈(iH sp.sig d st.o c bW).new,st.used g=false:=fun g hg=>hnew g (by rw [<-he];exact hg);refine Calls.mono (UO hS h hr (by simp;omega) hci WW.1 hR d rfl hnew) fun e' w' he' => ?_;obtain ⟨v,bK,rfl,q1,q2,q3,q4⟩:=he';rw [<-hu] at q1 q2 q3 q4;rw [he] at q1 q2 q3 q4;have q3:dH E (st.aI e.aI e.new) bK w' e.x v:=by rw [<-he];rw [<-he] at q3;exact q3
     have q4 :∀g∈e.x.names,(st.aI e.aI e.new).used g=true:=by rw [<-he];rw [<-he] at q4;exact q4
     exact hK v w' bK q1 q2 q3 q4
    .cases hc
   .cases hc
  .cases hc
 .rcases hc with ⟨dc,r,hk,hp,hc⟩ | hc
  .have he:=P_.iff.1 hc;subst he;obtain ⟨v,w',bK,hd,q1,q2,q3,q4⟩:=KI htt o.op E st gh _ w a.eval st.dI o d r rfl h (nO h) (Ir h) hk hp hnew;show o.upon Pg a K Q ((execOp a.eval o).run Pg w);rcases hd with hd | ⟨hd,rfl⟩
   .rw [hd];exact hK v w' bK q1 q2 q3 q4
   .rw [hd];exact hK _ w' bK q1 q2 q3 q4
  split at hc
  .rename_i r hk;obtain ⟨hp,hc⟩:=hc;have he:({ x:=r.dst r.val,aI:=r.aI r.val,new:=r.new }:Eff)=e:=by
    cases hb:EU o.op with
    |true=>rw [hb] at hc;exact P_.iff.1 hc
    |false=>rw [hb] at hc;exact hc
   subst he;obtain ⟨v,w',bK,hd,q1,q2,q3,q4⟩:=NT htt o.op E st gh _ w a.eval st.dI o d r rfl h (nO h) (Ir h) hk hp hnew;show o.upon Pg a K Q ((execOp a.eval o).run Pg w);rcases hd with hd | ⟨hd,rfl⟩
   .rw [hd];exact hK v w' bK q1 q2 q3 q4
   .rw [hd];exact hK _ w' bK q1 q2 q3 q4
  .cases hc
def mark (D:Nat):Deferred:={ target:=.collected D,args:=#[] }
def Marks (E:Env) (a:Act) (w:World):Prop :=∃Ds:List Nat,a.defers=Ds.map mark/\Ds.Nodup/\∀D∈Ds,E.B0<=D/\w.heap[D]?=some (.deferred (some []))
theorem Marks.nil {E:Env} {a:Act} {w:World} (h:a.defers=[]):Marks E a w:=⟨[],h,List.nodup_nil,fun D hD=>by cases hD⟩
structure Good (E:Env) (N:Nat) (aY:List Nat) (pO:Nat->Gh) (st:St) (a:Act) (w:World):Prop where
 ex :∃gh,Rel E st gh (fun t=>a.tmps.getD t undef) w/\∀g∈aY,st.used g=true/\(st.o g=.none\/((gh g).ad=(pO g).ad/\(gh g).cap=(pO g).cap))
 size:a.tmps.size=N
 defers:Marks E a w
theorem xU (dst:Option Tmp) (v:Value):(a.put dst v).tmps.size=a.tmps.size:=by cases dst<;>simp [Act.put]
theorem put_defers (dst:Option Tmp) (v:Value):(a.put dst v).defers=a.defers:=by cases dst<;>rfl
theorem Marks.same {E:Env} {a:Act} {w w':World} (hm:Marks E a w) (h :∀D,E.B0<=D->w.heap[D]?=some (.deferred (some []))->w'.heap[D]?=w.heap[D]?) (dst:Option Tmp) (v:Value):Marks E (a.put dst v) w':=by
 obtain ⟨Ds,h1,h2,h3⟩:=hm;exact ⟨Ds,(put_defers dst v).trans h1,h2,fun D hD=>⟨(h3 D hD).1,(h D (h3 D hD).1 (h3 D hD).2).trans (h3 D hD).2⟩⟩
theorem Marks.step {val:Nat->Value} (hm:Marks E a w) (hR:Rel E st gh val w) (hL:Lets E st st' gh bK w w') (dst:Option Tmp) (v:Value):Marks E (a.put dst v) w':=
 hm.same (fun D h2 h3=>(hL.ok false false D (hR.abz h3 rfl h2 _ _)).2) dst v
theorem Marks.put (hm:Marks E a w) (dst:Option Tmp) (v:Value):Marks E (a.put dst v) w:=hm.same (fun _ _ _=>rfl) dst v
def Can (T:Tab) (tt:TT) (N:Nat) (ops:Array Oper) (st:St) (o:Oper) (e:Eff):Prop:=stepW T tt N ops o st fun e'=>e'=e
theorem oD {d:Nat} {o:Oper} {K K':Eff->Prop} (hK :∀e,K e->K' e) (h:ji T tt d st o K):ji T tt d st o K':=by
 unfold ji at *;split at h
 .split at h
  .split at h
   .split at h
    .obtain ⟨h1,bW,same,h2,h4,h3⟩:=h;exact ⟨h1,bW,same,h2,h4,hK _ h3⟩
    .exact h
   .exact h
  .exact h
 .rcases h with ⟨dc,r,h1,h2,h3⟩ | h
  .exact .inl ⟨dc,r,h1,h2,P_.iff.2 (hK _ (P_.iff.1 h3))⟩
  refine .inr ?_;split at h
  .refine ⟨h.1,?_⟩;obtain ⟨_,h⟩:=h;cases hb:EU o.op with
   |true=>rw [hb] at h;exact P_.iff.2 (hK _ (P_.iff.1 h))
   |false=>rw [hb] at h;exact hK _ h
  .exact h
theorem DV {d:Nat} {o:Oper} {K:Eff->Prop} (h:ji T tt d st o K) :∃e,ji T tt d st o (fun e'=>e'=e)/\K e:=by
 unfold ji at *;split at h
 .split at h
  .split at h
   .split at h
    .obtain ⟨h1,bW,same,h2,h4,h3⟩:=h;exact ⟨_,⟨h1,bW,same,h2,h4,rfl⟩,h3⟩
    .cases h
   .cases h
  .cases h
 .rcases h with ⟨dc,r,h1,h2,h3⟩ | h
  .exact ⟨_,.inl ⟨dc,r,h1,h2,P_.iff.2 rfl⟩,P_.iff.1 h3⟩
  split at h
  .obtain ⟨hp,h⟩:=h;cases hb:EU o.op with
   |true=>rw [hb] at h;exact ⟨_,.inr ⟨hp,P_.iff.2 rfl⟩,P_.iff.1 h⟩
   |false=>rw [hb] at h;exact ⟨_,.inr ⟨hp,rfl⟩,h⟩
  .cases h
theorem QK {N:Nat} {ops:Array Oper} {o:Oper} {K:Eff->Prop} (h:stepW T tt N ops o st K) :∃e,Can T tt N ops st o e/\K e:=by
 unfold Can;unfold stepW at *;obtain ⟨hd,h⟩:=h;split at h
 .obtain ⟨e,h1,h2,h3⟩:=DV h;exact ⟨e,⟨hd,oD (fun e' he=>⟨by rw [he];exact h2,he⟩) h1⟩,h3⟩
 .split at h
  .rename_i b hb;cases b with
   |true=>
    simp only [cond_true] at h;obtain ⟨e,h1,h2,h3⟩:=DV h;refine ⟨e,⟨hd,?_⟩,h3⟩;simp only [cond_true];exact oD (fun e' he=>⟨by rw [he];exact h2,he⟩) h1
   |false=>exact ⟨Eff.skip,⟨hd,rfl⟩,h⟩
  .cases h
theorem Iu {N:Nat} {aY:List Nat} {pO:Nat->Gh} (hT :∀f sp,T f=some sp->Sound Pg (f % 1000000) sp) (htt:iw Pg tt) {ops:Array Oper} {i:Nat} {o:Oper} (hi:ops[i]?=some o) (h:Good E N aY pO st a w) {e:Eff} (hc:Can T tt N ops st o e)
  {K:Act->World->Prop} {Q:Exit->Act->World->Prop} (hK :∀a' w',Good E N aY pO (st.eff o.dst e) a' w'->K a' w'):wpOp Pg ops Q i K a w:=by
 obtain ⟨⟨gh,hR,EZ⟩,hsz,hdf⟩:=h;unfold Can stepW at hc;obtain ⟨hd,hc⟩:=hc;have hd :∀d,o.dst=some d->d<a.tmps.size:=by
  intro d e;rw [e] at hd;rw [hsz];simpa using hd
 have run:(ji T tt (o.dst.getD 0) st o fun e'=>e'.new.all (fun g=>!st.used g)=true/\e'=e)->o.wp Pg a w K Q:=by
  intro hc;obtain ⟨e',h1,h2,rfl⟩:=DV hc;have hnew :∀g∈e'.new,st.used g=false:=fun g hg=>by have:=(X2.1 h2) g hg;simpa using this
  refine Ze hT htt hR h1 hnew fun v w' bK q1 q2 q3 q4=>hK _ _ ⟨⟨bK,?_,fun g hg => ?_⟩,by rw [xU];exact hsz,hdf.step hR q2 _ _⟩
  .rw [xR _ _ hd];exact q1.put o.dst q3 q4
  .obtain ⟨p1,p2⟩:=EZ g hg;have ho:(st.eff o.dst e').o g=(st.aI e'.aI e'.new).o g:=by unfold St.eff St.put;cases o.dst<;>rfl
   have hu:(st.eff o.dst e').used g=(st.aI e'.aI e'.new).used g:=by unfold St.eff St.put;cases o.dst<;>rfl
   refine ⟨by rw [hu];simp [St.aI,p1],?_⟩;rw [ho];rcases q2.names g p1 with q | ⟨q,qk⟩
   .exact .inl q
   .rcases p2 with p2 | p2
    .rw [p2] at qk;exact .inl (O.DR qk)
    .exact .inr ⟨q.1.trans p2.1,q.2.trans p2.2⟩
 unfold wpOp;rw [hi];simp only;cases hg:o.guard with
 |none=>
  rw [hg] at hc;have:Region.wanted o (yielded ops a.tmps)=true:=by simp [Region.wanted,hg]
  rw [if_pos this];exact .inl (run hc)
 |some p=>
  obtain ⟨j,want⟩:=p;rw [hg] at hc;simp only at hc;split at hc
  .rename_i b hb;have hw:Region.wanted o (yielded ops a.tmps)=b:=by
    simp only [Region.wanted,hg,yielded];unfold guardOf at hb;split at hb
    .rename_i t ht;have QL:=hR.slots t;rw [ht];simp only [Option.bind_some];split at hb
     .rename_i a' i' b' hs;rw [hs] at QL;have hv:=QL.fE.lY;have:a.tmps[t]?=some (.bool b'):=by
       simp only [ZS] at hv;cases hx:a.tmps[t]? with
       |none=>rw [hx] at hv;cases hv
       |some x=>rw [hx] at hv;simp at hv;rw [hv]
      rw [this];simp only [Q0] at hb;subst hb;cases want<;>cases b'<;>rfl
     .rename_i hs;rw [hs] at QL;simp only [Q0] at hb;subst hb;have hv:a.tmps.getD t undef=.tuple #[]:=by
       generalize a.tmps.getD t undef=v at QL;cases QL with | jK _ vs hl _=>
       have:vs=[]:=by cases vs<;>simp_all
       subst this;rfl
      have:a.tmps[t]?=none\/a.tmps[t]?=some (.tuple #[]):=by
       simp only [ZS] at hv;cases hx:a.tmps[t]? with
       |none=>exact .inl rfl
       |some x=>rw [hx] at hv;simp at hv;rw [hv];exact .inr rfl
      rcases this with h | h<;>rw [h]<;>cases want<;>rfl
     .cases hb
    .cases hb
   rw [hw];cases b with
   |true=>exact .inl (run hc)
   |false=>
    simp only [cond_false] at hc;subst hc;refine hK _ _ ⟨⟨gh,?_,fun g hg => ?_⟩,by rw [xU];exact hsz,hdf.put _ _⟩
    .rw [xR _ _ hd];unfold St.eff Eff.skip;simp only [Gw];exact hR.put o.dst (.jK [] [] rfl fun j x v hx=>by simp at hx) (by simp [S.names])
    .have ho:(st.eff o.dst Eff.skip).o g=st.o g:=by unfold St.eff St.put Eff.skip;cases o.dst<;>simp [St.aI]
     have hu:(st.eff o.dst Eff.skip).used g=st.used g:=by unfold St.eff St.put Eff.skip;cases o.dst<;>simp [St.aI]
     rw [ho,hu];exact EZ g hg
  .cases hc
end
end Go.Fw

namespace Go.Fw
variable [eF]
section
variable {o o':Nat->O}
theorem Iw {k:WS} {x:W} (h :∀g∈x.names,Agree o o' g):fJ o k x=fJ o' k x:=by
 cases k with
 |p a i=>simp only [fJ];rw [DU h]
 |own g'=>cases x<;>rfl
 |box g' off=>
  cases off with
  |zero=>cases x<;>first | rfl | (rename_i off;cases off<;>rfl)
  |succ off=>cases x<;>rfl
 |dD=>cases x<;>rfl
 |fn f=>cases x<;>first | rfl | (rename_i caps;cases caps<;>rfl)
 |nC g=>cases x<;>rfl
 |no=>cases x<;>rfl
 |vw g=>cases x<;>rfl
 |ep g off=>cases x<;>rfl
theorem E_ :∀{ks:List WS} {xs:List W},(∀x∈xs,∀g∈x.names,Agree o o' g)->jI o ks xs=jI o' ks xs
 | [],[],_=>rfl
 | [],_::_,_=>rfl
 |_::_,[],_=>rfl
 |k::ks,x::xs,h=>by simp only [jI];rw [Iw (h x (by simp)),E_ fun y hy=>h y (by simp [hy])]
theorem UR {k:SS} {x:S} (h :∀g∈x.names,Agree o o' g):oC o k x=oC o' k x:=by
 cases k with
 |one k=>
  cases x with
  |v x=>cases x with
   |one x=>exact Iw fun g hg=>h g (by simpa [S.names,V.names] using hg)
   |agg xs=>rfl
  |jK=>rfl
  |no=>rfl
 |agg ks=>
  cases x with
  |v x=>cases x with
   |one x=>rfl
   |agg xs=>exact E_ fun x hx g hg=>h g (by simp only [S.names,V.names,Z1];exact ⟨x,hx,hg⟩)
  |jK=>rfl
  |no=>rfl
theorem WY {args:List S} {t:Nat}:args.getD t .no=.no\/args.getD t .no∈args:=by
 rw [List.getD_eq_getElem?_getD];cases h:args[t]? with
 |none=>exact .inl rfl
 |some x=>exact .inr (XS h)
theorem xW {args:List S} (h :∀x∈args,∀g∈x.names,Agree o o' g) :∀{L:List (Nat×SS)},eU o args L=eU o' args L
 | []=>rfl
 |(t,k)::L=>by
  simp only [eU];rw [UR (o:=o) (o':=o') (k:=k) (x:=args.getD t .no) (fun g hg=>by
   rcases WY (args:=args) (t:=t) with e | e
   .rw [e] at hg;simp [S.names] at hg
   .exact h _ e g hg),xW h]
theorem BQ {k:WS} {x:W} {us:List P} {c:Bool×Bool} {gs:List Nat} {r:List (Nat×Nat)} (h:fJ o k x=some (us,c,gs,r)) (hx :∀g∈x.names,Agree o o' g) :∀g∈gs,Agree o o' g:=by
 cases k with
 |p a i=>
  simp only [fJ] at h;split at h
  .rename_i ht;simp only [Q0,Q1] at h;obtain ⟨_,_,rfl,_⟩:=h;exact Ae ht hx
  .cases h
 |own g'=>cases x<;>simp [fJ] at h;obtain ⟨_,_,rfl,_⟩:=h;simp
 |box g' off=>
  cases off with
  |succ off=>cases x<;>simp [fJ] at h
  |zero=>
   cases x with
   |box g off=>cases off<;>simp [fJ] at h;obtain ⟨_,_,rfl,_⟩:=h;simp
   |_=>simp [fJ] at h
 |dD=>simp [fJ] at h
 |fn f gs0=>
  cases x with
  |clo f' caps=>
   simp only [fJ] at h;split at h
   .split at h
    .simp only [Q0,Q1] at h;obtain ⟨_,_,rfl,_⟩:=h;simp
    .cases h
   .cases h
  |_=>simp [fJ] at h
 |nC g=>simp [fJ] at h
 |no=>simp [fJ] at h
 |vw g=>simp [fJ] at h
 |ep g off=>simp [fJ] at h
theorem zI :∀{ks:List WS} {xs:List W} {us:List P} {c:Bool×Bool} {gs:List Nat} {r:List (Nat×Nat)},jI o ks xs=some (us,c,gs,r)->(∀x∈xs,∀g∈x.names,Agree o o' g)->∀g∈gs,Agree o o' g
 | [],xs,us,c,gs,r,h,_=>by
  cases xs<;>simp [jI] at h;obtain ⟨_,_,rfl,_⟩:=h;simp
 |k::ks,xs,us,c,gs,r,h,hx=>by
  cases xs with
  |nil=>simp [jI] at h
  |cons x xs=>
   simp only [jI] at h;split at h
   .rename_i h1 h2;simp only [Q0,Q1] at h;obtain ⟨_,_,rfl,_⟩:=h;intro g hg;rcases Xs.1 hg with hg | hg
    .exact BQ h1 (hx _ (by simp)) g hg
    .exact zI h2 (fun y hy=>hx y (by simp [hy])) g hg
   .cases h
theorem uj {args:List S} :∀{L:List (Nat×SS)} {us:List P} {c:Bool×Bool} {gs:List Nat} {r:List (Nat×Nat)},eU o args L=some (us,c,gs,r)->(∀x∈args,∀g∈x.names,Agree o o' g)->∀g∈gs,Agree o o' g
 | [],us,c,gs,r,h,_=>by simp [eU] at h;obtain ⟨_,_,rfl,_⟩:=h;simp
 |(t,k)::L,us,c,gs,r,h,hx=>by
  simp only [eU] at h;split at h
  .rename_i h1 h2;simp only [Q0,Q1] at h;obtain ⟨_,_,rfl,_⟩:=h;intro g hg;rcases Xs.1 hg with hg | hg
   .have hx0 :∀g∈(args.getD t .no).names,Agree o o' g:=by
     rcases WY (args:=args) (t:=t) with e | e
     .rw [e];simp [S.names]
     .exact hx _ e
    .generalize args.getD t S.no=z at h1 hx0;cases k with
     |one k=>
      cases z with
      |v z=>
       cases z with
       |one z=>exact BQ h1 (fun g hg=>hx0 g (by simpa [S.names,V.names] using hg)) g hg
       |agg z=>simp [oC] at h1
      |_=>simp [oC] at h1
     |agg ks=>
      cases z with
      |v z=>
       cases z with
       |one z=>simp [oC] at h1
       |agg z=>exact zI h1 (fun x hx g hg=>hx0 g (by simp only [S.names,V.names,Z1];exact ⟨x,hx,hg⟩)) g hg
      |_=>simp [oC] at h1
   .exact uj h2 hx g hg
  .cases h
theorem oG :∀{L:List (Nat×OS)} {r r':List (Nat×Nat)} {u:List P} {c:Bool×Bool},jF o r L=some (u,c,r')->∀p∈r,p∈r'
 | [],r,r',u,c,h=>by simp only [jF,Q0,Q1] at h;obtain ⟨_,_,rfl⟩:=h;exact fun p hp=>hp
 |(g',k)::L,r,r',u,c,h=>by
  simp only [jF] at h;split at h
  .split at h
   .split at h
    .split at h
     .rename_i h2;simp only [Q0,Q1] at h;obtain ⟨_,_,rfl⟩:=h;exact fun p hp=>oG h2 p (ZZ _ hp)
     .cases h
    .cases h
   .split at h
    .split at h
     .rename_i h2;simp only [Q0,Q1] at h;obtain ⟨_,_,rfl⟩:=h;exact oG h2
     .cases h
    .cases h
   .split at h
    .split at h
     .rename_i h2;simp only [Q0,Q1] at h;obtain ⟨_,_,rfl⟩:=h;exact oG h2
     .cases h
    .cases h
   .cases h
  .cases h
theorem pX :∀{L:List (Nat×OS)} {r r':List (Nat×Nat)} {u:List P} {c:Bool×Bool},jF o r L=some (u,c,r')->(∀p∈r',o p.2=o' p.2)->jF o' r L=some (u,c,r')
 | [],r,r',u,c,h,_=>h
 |(g',k)::L,r,r',u,c,h,hl=>by
  simp only [jF] at h ⊢;split at h
  .rename_i g hg;have hmem:=kL hg;have key :∀r2:List (Nat×Nat),(∀p∈r,p∈r2)->(∀p∈r2,p∈r')->o g=o' g:=fun r2 h1 h2=>hl _ (h2 _ (h1 _ hmem));split at h
   .rename_i ks ws hk;split at h
    .rename_i r1 h1;split at h
     .rename_i h2;simp only [Q0,Q1] at h;obtain ⟨rfl,rfl,rfl⟩:=h;have e:=key _ (fun p hp=>ZZ _ hp) (oG h2);simp only [<-e,hk,h1,pX h2 hl]
     .cases h
    .cases h
   .rename_i a1 b1 c1 sz a i sz' l hk;split at h
    .rename_i hsz;split at h
     .rename_i h2;simp only [Q0,Q1] at h;obtain ⟨rfl,rfl,rfl⟩:=h;have e:=key _ (fun p hp=>hp) (oG h2);simp only [<-e,hk,pX h2 hl,if_pos hsz]
     .cases h
    .cases h
   .rename_i a1 b1 sz aj a i sz' kF l hk;split at h
    .rename_i hsz;split at h
     .rename_i h2;simp only [Q0,Q1] at h;obtain ⟨rfl,rfl,rfl⟩:=h;have e:=key _ (fun p hp=>hp) (oG h2);simp only [<-e,hk,pX h2 hl,if_pos hsz]
     .cases h
    .cases h
   .cases h
  .cases h
theorem Og {s:yY} {args:List S} {c:KL} (h:gZ s o args=some c) (h1 :∀x∈args,∀g∈x.names,Agree o o' g) (h2 :∀p∈c.ren,o p.2=o' p.2):gZ s o' args=some c:=by
 unfold gZ at *;rw [<-xW h1];split at h
 .rename_i hs;split at h
  .rename_i EZ;simp only [Q0] at h;subst h;simp only [pX EZ fun p hp=>h2 p (mZ.2 hp)]
  .cases h
 .cases h
theorem Iy {s:yY} {args:List S} {c:KL} (hc:gZ s o args=some c) (hx :∀x∈args,∀g∈x.names,Agree o o' g) :∀g∈c.uV,Agree o o' g:=by
 unfold gZ at hc;split at hc
 .rename_i hsl;split at hc
  .simp only [Q0] at hc;subst hc;exact uj hsl hx
  .cases hc
 .cases hc
end
def QM (T:Tab) (st:St) (o:Oper):List Nat:=
 match o.op with
 |.call { callee:=.value f,args,.. }=>match st.dI f with
  |.v (.one (.clo fn caps))=>match pick T fn (args.toList.map st.dI) with
   |some sp=>match gZ sp.sig st.o ((args.toList.map st.dI)++caps.map fun x=>S.v (.one x)) with
    |some c=>c.ren.map (·.2)
    |none=>[]
   |none=>[]
  |_=>[]
 |_=>[]
def looks:Op->Bool
 |.move _ | .assign _ | .pick _ _ _ | .build _ _ | .extract _ _ | .field _ _ _ | .makeFunc _ _ _=>false
 |_=>true
theorem Oh {o o':Nat->O} {tt:TT} {d:Nat} {F F':Operand->S} {op:Op} {ty:TypeId} (hl:looks op=false) (hF :∀x∈op.operands.toList,F x=F' x):kernel tt d o F op ty=kernel tt d o' F' op ty:=by
 refine (BO (o':=o) hF fun _ _ _ _=>⟨rfl,fun _ _=>rfl⟩).trans ?_;cases op<;>first
  |(cases hl;done)
  |rfl
  |(rename_i fn first caps;cases fn<;>rfl)
theorem KQ {o:Nat->O} {tt:TT} {dc:List (Nat×Nat)} {d:Nat} {F:Operand->S} {op:Op} {ty:TypeId} (hl:looks op=false):dU tt dc d o F op ty=none:=by
 cases op<;>first
  |(cases hl;done)
  |rfl
def qJ (T:Tab) (st:St) (o:Oper):List Nat:=(bif looks o.op then (o.op.operands.toList.flatMap fun x=>(st.dI x).names.flatMap fun g=>g::(st.o g).hn) else [])++QM T st o
section
variable {T:Tab} {tt:TT} {st st':St}
theorem QN {d:Nat} {o:Oper} {K:Eff->Prop} (h:ji T tt d st o K) (hx :∀x∈o.op.operands.toList,st.dI x=st'.dI x) (ho :∀g∈qJ T st o,st.o g=st'.o g):ji T tt d st' o K:=by
 have hfo:looks o.op=true->∀x∈o.op.operands.toList,∀g∈(st.dI x).names,Agree st.o st'.o g:=fun hl x hm g hg=>by
  have key :∀d∈g::(st.o g).hn,st.o d=st'.o d:=fun d hd=>ho d (ZZ _ (by rw [hl];exact Z1.2 ⟨x,hm,Z1.2 ⟨g,hg,hd⟩⟩));exact ⟨key g (by simp),fun d hd=>key d (by simp [hd])⟩
 have iE :∀g∈QM T st o,st.o g=st'.o g:=fun g hg=>ho g (US _ hg);unfold ji at *;unfold QM at iE;split at h
 .rename_i f args ts hop;rw [hop] at hx hfo iE;have hfo:=hfo rfl;simp only at iE;have hxf:=hx f (by simp [Op.operands,Call.operands]);have hxa :∀x∈args.toList,st.dI x=st'.dI x:=fun x hm=>hx x (by simp [Op.operands,Call.operands];exact .inr (by simpa using hm));have hfa :∀x∈args.toList,∀g∈(st.dI x).names,Agree st.o st'.o g:=fun x hm=>hfo x (by simp [Op.operands,Call.operands];exact .inr (by simpa using hm));have hff:=hfo f (by simp [Op.operands,Call.operands]);rw [<-hxf];split at h
  .rename_i fn caps hf;rw [hf] at hff iE;simp only at iE;split at h
   .rename_i sp hsp;rw [hsp] at iE;simp only at iE;have hmap:args.toList.map st'.dI=args.toList.map st.dI:=W8 fun x hm=>(hxa x hm).symm;rw [hmap];split at h
    .rename_i c hci;rw [hci] at iE;have hnm :∀x∈(args.toList.map st.dI)++(caps.map fun x=>S.v (.one x)),∀g∈x.names,Agree st.o st'.o g:=by
      intro x hm g hg;rcases Xs.1 hm with hm | hm
      .obtain ⟨y,hy,rfl⟩:=QQ.1 hm;exact hfa y hy g hg
      .obtain ⟨y,hy,rfl⟩:=QQ.1 hm;refine hff g ?_;obtain ⟨j,hj⟩:=V2.1 hy;simp only [S.names,V.names];exact zB hj (by simpa [S.names,V.names] using hg)
     have apl:=Og hci hnm fun p hp=>iE p.2 (QQ.2 ⟨p,hp,rfl⟩);have ai_:c.uV.map (aT st.o)=c.uV.map (aT st'.o):=nN (Iy hci hnm);simp only [hsp,apl];obtain ⟨q1,bW,same,q2,q4,q3⟩:=h;have:iH sp.sig d st'.o c bW=iH sp.sig d st.o c bW:=by simp only [iH,ai_]
     refine ⟨q1,bW,same,q2,?_,?_⟩
     .rw [this];intro g hg;obtain ⟨a1,a2⟩:=q4 g hg;exact ⟨a1,by rw [a2,iE g a1]⟩
     .rw [this];exact q3
    .cases h
   .cases h
  .cases h
 .rcases h with ⟨dc,r,h1,h2,h3⟩ | h
  .refine .inl ⟨dc,r,?_,h2,h3⟩;cases hl:looks o.op with
   |true=>rw [<-KP hx (hfo hl)];exact h1
   |false=>rw [KQ hl] at h1;cases h1
  .refine .inr ?_;cases hl:looks o.op with
   |true=>rw [<-BO hx (hfo hl)];exact h
   |false=>rw [<-Oh hl hx];exact h
theorem Zf {N:Nat} {ops:Array Oper} {o:Oper} {e:Eff} (hc:Can T tt N ops st o e) (hs :∀t∈o.looksAt ops,st.s t=st'.s t) (ho :∀g∈qJ T st o,st.o g=st'.o g) (hu :∀g∈e.new,st.used g=st'.used g):Can T tt N ops st' o e:=by
 have hx :∀x∈o.op.operands.toList,st.dI x=st'.dI x:=by
  intro x hm;cases x with
  |tmp t=>exact hs t (ZZ _ (qi.2 ⟨_,hm,rfl⟩))
  |_=>rfl
 have eff:(ji T tt (o.dst.getD 0) st o fun e'=>e'.new.all (fun g=>!st.used g)=true/\e'=e)->(ji T tt (o.dst.getD 0) st' o fun e'=>e'.new.all (fun g=>!st'.used g)=true/\e'=e):=by
  intro h;refine oD (fun e' he => ?_) (QN h hx ho);obtain ⟨h1,rfl⟩:=he;refine ⟨?_,rfl⟩;rw [X2] at h1 ⊢;intro g hg;rw [<-hu g hg];exact h1 g hg
 unfold Can stepW at *;refine ⟨hc.1,?_⟩;have hc:=hc.2;cases hg:o.guard with
 |none=>rw [hg] at hc;exact eff hc
 |some p=>
  obtain ⟨j,want⟩:=p;rw [hg] at hc;simp only at hc ⊢;have:guardOf ops st j want=guardOf ops st' j want:=by
   unfold guardOf;cases hd:(ops[j]?).bind (·.dst) with
   |none=>rfl
   |some t=>
    simp only;rw [hs t (US _ (by simp [hg,hd]))]
  rw [<-this];split at hc
  .rename_i b hb;cases b with
   |true=>exact eff hc
   |false=>exact hc
  .cases hc
end
def LM (o:Nat->O):S->Option (Bool->Prop)
 |.v (.one (.p _ _ (.sl _ l)))=>some fun b=>l≠[]->b=false
 |.v (.one (.own g))=>match (o g).dim with
  |some (_,l)=>some fun b=>l≠0->b=false
  |none=>none
 |.v (.one .dD)=>some fun b=>b=true
 |_=>none
def Fa (o:Nat->O):S->Option (Bool->Prop)
 |.v (.one (.box g _))=>match o g with
  |.box _=>some fun b=>b=false
  |_=>none
 |.v (.one (.p _ _ (.opq (.pointer none))))=>some fun b=>b=true
 |_=>none
def xX (o:Nat->O) (x:S) (k:TK) (c:Value):Option (Bool->Prop):=
 match k,c with
 |.slice _,.slice none 0 0=>LM o x
 |.ptr,.pointer none=>Fa o x
 |_,_=>none
def Oi (tt:TT) (st:St) (o:Oper):Option (Bool×(Bool->Prop)):=
 match o.guard with
 |some _=>none
 |none=>match o.op with
  |.binOp op t x (.const c) _=>match tt t with
   |some i=>match op,xX st.o (st.dI x) i.k c with
    |.eql,some p=>some (true,p)
    |.neq,some p=>some (false,p)
    |_,_=>none
   |none=>none
  |_=>none
def QO (s n:P):Bool:=decide (n.nat<s.bytes.size)
def abA (s n:P):P:=.int .i32 (Utf8.decode s.bytes n.nat).1
def UU (s n:P):P:=lW (n.nat+(Utf8.decode s.bytes n.nat).2)
def Oj (st:St) (o:Oper):Option (Nat×P×P):=
 match o.guard with
 |some _=>none
 |none=>match o.op with
  |.next x true=>match st.dI x with
   |.v (.one (.nC g))=>match st.o g with
    |.it s n=>some (g,s,n)
    |_=>none
   |_=>none
  |_=>none
def Iz (g:Nat) (s n:P):Eff:={ x:=.jK [.one (.p false false (.bool true)),.one (.p false false (lW n.nat)),.one (.p false false (abA s n))],aI:=[(g,.it s (UU s n))],new:=[] }
def LP:Eff:={ x:=.jK [.one (.p false false (.bool false))],aI:=[],new:=[] }
def BR (T:Tab) (tt:TT) (N:Nat) (ops:Array Oper) (o:Oper) (st:St) (K:Eff->Prop):Prop:=
 match Oi tt st o with
 |some (pos,p)=>(match o.dst with
  |some d=>decide (d<N)
  |none=>true)=true/\∀b:Bool,p b->K { x:=scalar (.bool (bif pos then b else !b)),aI:=[],new:=[] }
 |none=>match Oj st o with
  |some (g,s,n)=>(match o.dst with
   |some d=>decide (d<N)
   |none=>true)=true/\(QO s n=true->K (Iz g s n))/\(QO s n=false->K LP)
  |none=>stepW T tt N ops o st K
def vT (T:Tab) (tt:TT) (N:Nat) (ops:Array Oper):List Nat->St->(St->Prop)->Prop
 | [],st,K=>K st
 |i::is,st,K=>match ops[i]? with
  |some o=>BR T tt N ops o st fun e=>vT T tt N ops is (st.eff o.dst e) K
  |none=>False
structure tu where
 rd:List Nat
 wr:List Nat
 new:List Nat
 ld:Option (Nat×Nat×Nat)
 kp:List (Nat×Nat)
 pk:Bool
 kd:List Nat
def abB:W->W->Bool
 |.own g,.own g'=>Nat.beq g g'
 |.box g off,.box g' off'=>Nat.beq g g'&&Nat.beq off off'
 |_,_=>false
def BU (g:Nat):Nat->List W->List W->Option (List (Nat×Nat))
 |_,[],[]=>some []
 |j,x::xs,y::ys=>match BU g (j+1) xs ys with
  |some r=>some (match abB x y with
   |true=>(g,j)::r
   |false=>r)
  |none=>none
 |_,_,_=>none
def QT (g:Nat):O->Option O->List (Nat×Nat)
 |.box ws,some (.box ws')=>match BU g 0 ws ws' with
  |some r=>r
  |none=>[]
 |_,_=>[]
def UW (st:St) (e:Eff):List (Nat×Nat):=(e.aI.map (·.1)).flatMap fun g=>QT g (st.o g) (e.aI.lookup g)
def tC:Op->Bool
 |.nilCheck _=>true
 |.fieldAddr _ _ _=>true
 |_=>false
def kindOf:O->Nat
 |.box _=>1
 |.arr _ _ _ _ _=>2
 |.aN _ _ _ _ _ _=>2
 |.it _ _=>3
 |.none=>0
def UY (st:St) (e:Eff):List Nat:=(e.aI.map (·.1)).filterMap fun g=>match e.aI.lookup g with
 |some x=>bif Nat.beq (kindOf x) (kindOf (st.o g)) then some g else none
 |none=>none
def IB (tt:TT) (st:St) (o:Oper):Option (Nat×Nat×Nat):=match o.op with
 |.load t x=>match tt t,st.dI x with
  |some i,.v (.one (.box g off))=>some (g,off,i.size)
  |_,_=>none
 |_=>none
def oU (T:Tab) (tt:TT) (N:Nat) (ops:Array Oper):List Nat->St->List tu->(St->List tu->Prop)->Prop
 | [],st,fs,K=>K st fs
 |i::is,st,fs,K=>match ops[i]? with
  |some o=>stepW T tt N ops o st fun e=>oU T tt N ops is (st.eff o.dst e) (fs++[{ rd:=qJ T st o,wr:=e.aI.map (·.1),new:=e.new,ld:=IB tt st o,kp:=UW st e,pk:=tC o.op,kd:=UY st e }]) K
  |none=>False
def lH (acc:List Nat) (o:Oper):Nat:=o.after.toList.foldl (fun s e=>if Region.binds .any e=true then s ||| (2 ^ e.on) ||| acc.getD e.on 0 else s) 0
def oH:List Oper->List Nat->List Nat
 | [],acc=>acc
 |o::os,acc=>oH os (acc++[lH acc o])
def IC (x:Option Tmp) (ts:List Tmp):Bool:=match x with
 |some t=>!ts.contains t
 |none=>true
def Fb (w r:tu):Bool:=match r.ld with
 |some (g,off,n)=>(List.range n).all fun j=>w.kp.any fun p=>Nat.beq p.1 g&&Nat.beq p.2 (off+j)
 |none=>r.pk&&r.rd.all fun g=>!w.wr.contains g||w.kd.contains g
def abC (ops:Array Oper) (x y:Oper) (fx fy:tu):Bool:=
 IC x.dst (y.looksAt ops)&&IC y.dst (x.looksAt ops)&&IC x.dst y.dst.toList&&(N8 fx.wr fy.rd||Fb fx fy)&&(N8 fy.wr fx.rd||Fb fy fx)&&N8 fx.wr fy.wr&&N8 fx.new fy.new
def WZ (ops:Array Oper) (fs:List tu):Bool:=
 let as:=oH ops.toList []
 (List.range ops.size).all fun j=>decide (as.getD j 0<2 ^ j)&&(List.range j).all fun i=>(as.getD j 0).testBit i||match ops[i]?,ops[j]?,fs[i]?,fs[j]? with
  |some x,some y,some fx,some fy=>abC ops x y fx fy
  |_,_,_,_=>false
def pY (T:Tab) (tt:TT) (N:Nat) (ops:Array Oper) (draw:Bool) (st:St) (K:St->Prop):Prop:=
 match draw with
 |false=>vT T tt N ops (List.range ops.size) st K
 |true=>oU T tt N ops (List.range ops.size) st [] fun st' fs=>WZ ops fs=true/\K st'
end Go.Fw

