/-
  The framework (a machine on plain data that answers as the program does), part 2.
-/
import Derived.RangeFuncOwn
import Derived.Orders
import Derived.Test.YtfklooeiipkijaaZa
set_option linter.unusedSimpArgs false
set_option linter.unusedVariables false
set_option linter.unusedSectionVars false
namespace Go.Fw
variable [d_]
def tq:List Nat→Bool
 | []=>true
 |x::xs=>!xs.contains x&&tq xs
def DT (xs ys:List Nat):Bool:=xs.all fun x=>!ys.contains x
def nG (au:List (Nat×Nat)) (off n:Nat):List (Nat×Nat):=au.filter fun c=>Nat.ble off c.1&&Nat.blt c.1 (off+n)
def jA (o:Nat→O) (g:Nat):Option (Bool×Bool×Nat×List (Nat×Nat)×List (List P)):=match o g with
 |.aP a i sz au l hole=>match hole with
  |none=>some (a,i,sz,au,l)
  |some (n,c,d)=>match o d with
   |.arr false a' i' sz' l'=>if au.lookup c=some sz'∧c<sz then some (a||a',i||i',sz,au,iV l n c (P.fF sz' l')) else none
   |_=>none
 |_=>none
def kills (gs:List Nat):List (Nat×O):=gs.map fun g=>(g,.none)
def P8 (o:Nat→O) (col:Nat→Option Nat):Nat→List W→Option (List P×Bool×Bool×List Nat×List (Nat×Nat))
 |_,[]=>some ([],false,false,[],[])
 |j,x::xs=>match P8 o col (j+1) xs with
  |none=>none
  |some (ys,a',i',gs',es)=>match col j with
   |none=>match x.toP o with
    |some (y,a,i,gs)=>some (y::ys,a||a',i||i',gs++gs',es)
    |none=>none
   |some s=>match x with
    |.cO=>some (.sl 0 []::ys,a',i',gs',es)
    |.own e=>match o e with
     |.arr false a i s' l=>if s'=s then some (P.fF s l::ys,a||a',i||i',gs',(j,e)::es) else none
     |_=>none
    |_=>none
def baseD (o:Nat→O):W→Option (Prop×Bool×Bool×List (List P)×List Nat×Option (Nat×List (Nat×Nat)))
 |.cO=>some (True,false,false,[],[],none)
 |.own g=>match jA o g with
  |some (a,i,sz,au,l)=>some (True,a,i,l,g::(o g).hn,some (sz,au))
  |none=>none
 |.vw g lo hi=>match jA o g with
  |some (a,i,sz,au,l)=>some (lo=lN 0,a,i,l.take hi.nat,g::(o g).hn,some (sz,au))
  |none=>none
 |_=>none
def hdr (l:List (List P)):P:=.sl 0 (List.replicate l.length [])
def aau:List (Nat×Nat)→Bool
 | [(0,0)]=>true
 |_=>false
def Ap (tt:TT) (o:Nat→O) (f:Operand→S) (t:TypeId) (x:Operand):Option Gx:=match tt t,f x with
 |some i,.v (.one (.ep g n off))=>match jA o g with
  |some (a,i',sz,au,l)=>match au.lookup off with
   |some _=>if off<sz∧i.size=1∧i.agg=false then some (.pure (.v (.one (.p false false (hdr ((l.getD n.nat []).getD off default).list))))) else none
   |none=>none
  |none=>none
 |_,_=>none
def dU (tt:TT) (dc:List (Nat×Nat)) (d:Nat) (o:Nat→O) (f:Operand→S) (op:Op) (ty:TypeId):Option Gx:=
 match op with
 |.load t x=>bif aau dc then Ap tt o f t x else match tt t,f x with
  |some i,.v (.one (.ep g n off))=>match o g with
   |.aP a0 i0 Aq kE l0 hole=>if off+i.size≤Aq∧0<i.size then match nG kE off i.size with
    | []=>some (.pure (V.fQ i.agg ((List.range i.size).map fun j=>.p a0 i0 ((l0.getD n.nat []).getD (off+j) (Ue i.zero j)))))
    | [(c,s)]=>match jA o g with
     |some (a,i',sz,au,l)=>some (.mk True (.sl sz l) (fun y=>V.fQ i.agg ((List.range i.size).map fun j=>if Nat.beq (off+j) c=true then .own d else .p a i' ((y.list.getD n.nat []).getD (off+j) (Ue i.zero j))))
       (fun y=>(g,.aP a i' sz au y.list (some (n.nat,c,d)))::(d,.arr false a i' s ((y.list.getD n.nat []).getD c default).list)::kills (o g).hn) [d])
     |none=>none
    |_=>none
    else none
   |_=>none
  |_,_=>none
 |.store t x y=>match tt t,f x,f y with
  |some i,.v (.one (.ep g n off)),.v y=>match o g with
   |.aP a0 i0 sz au l0 hole=>match P8 o (fun j=>au.lookup j) off y.words with
    |some (ps,a',i',gs,es)=>if off+i.size≤sz∧y.words.length=i.size∧y.solid=true∧gs.contains g=false∧tq (es.map (·.2))=true∧DT (es.map (·.2)) gs=true then
      let res (pre:Prop) (a i:Bool) (l:List (List P)) (iT:Option (Nat×Nat×Nat)) (ks:List Nat):Gx:=
       .mk pre (.sl sz (l.set n.nat (aQ (l.getD n.nat []) off ps))) (fun _=>.no) (fun z=>(g,.aP (a||a') (i||i') sz au z.list iT)::kills (es.map (·.2))++kills ks++gs.map (aV o)) []
      match nG au off i.size with
      | []=>some (res True a0 i0 l0 hole [])
      |_::_=>match hole with
       |none=>some (res True a0 i0 l0 none [])
       |some (n0,c0,d0)=>match jA o g with
        |some (a,i1,_,_,l)=>if (es.map (·.2)).contains d0=false∧gs.contains d0=false then some (res True a i1 l none [d0])
          else if off≤c0∧c0<off+i.size then some (res (n0=n.nat) a0 i0 l0 none []) else none
        |none=>if off≤c0∧c0<off+i.size then some (res (n0=n.nat) a0 i0 l0 none []) else none
      else none
    |none=>none
   |_=>none
  |_,_,_=>none
 |.buildSlice t n parts=>match tt t,dc with
  |some { k:=.slice e,.. },_::_=>match tt e with
   |some ie=>match lQ (fun m=>if m<n then some (m*ie.size,ie.size) else none) (fK (ie.zero.map cv) n) (parts.toList.map fun p=>(p.1,f p.2)) with
    |some ws=>match P8 o (fun j=>dc.lookup (j % ie.size)) 0 ws with
     |some (ps,a,i,gs,es)=>if n+n*ie.size≤16777216∧tq (es.map (·.2))=true∧DT (es.map (·.2)) gs=true then
       some (.mk True (.sl ie.size (chunks ie.size n ps)) (fun _=>.v (.one (.own d)))
        (fun y=>(d,.aP a i ie.size dc y.list none)::kills (es.map (·.2))++gs.map (aV o)) [d]) else none
     |none=>none
    |none=>none
   |none=>none
  |_,_=>none
 |.makeSlice t n c=>match tt t,f n,f c,dc with
  |some { k:=.slice e,.. },.v (.one (.p _ _ n)),.v (.one (.p _ _ c)),_::_=>match tt e with
   |some ie=>match P8 o (fun j=>dc.lookup j) 0 (ie.zero.map cv) with
    |some (ps,false,false,[],[])=>if 0<ie.size then
     some (.mk (∃m k:Nat,n=.int .i64 m∧c=.int .i64 k∧m≤k∧ie.bytes*k≤281474976710656∧k≤9223372036854775807) (.sl ie.size (List.replicate n.nat ps))
      (fun _=>.v (.one (.own d))) (fun y=>[(d,.aP false false ie.size dc y.list none)]) [d]) else none
    |_=>none
   |none=>none
  |_,_,_,_=>none
 |.call { callee:=.builtin .append,args,argTypes }=>match args.toList,argTypes.toList with
  | [s,x],sT::xT::_=>match tt sT,tt xT,f s,f x with
   |some { k:=.slice e,.. },some { k:=.slice _,.. },.v (.one s),.v (.one (.own g2))=>match tt e,baseD o s,jA o g2 with
    |some ie,some (ask,a,i,old,ks,src),some (a2,i2,sz,au,new)=>
     if ie.bytes≠0∧sz=ie.size∧(src=none∨src=some (sz,au))∧tq (ks++g2::(o g2).hn)=true then
      some (.mk (ask∧(old.length+new.length)*ie.bytes≤140737488355328) (.sl sz (old++new)) (fun _=>.v (.one (.own d)))
       (fun y=>(d,.aP (a||a2) (i||i2) sz au y.list none)::kills (ks++g2::(o g2).hn)) [d]) else none
    |_,_,_=>none
   |_,_,_,_=>none
  |_,_=>none
 |.slice t x none hi none=>match tt t,f x with
  |some { k:=.slice e,.. },.v (.one (.own g))=>match tt e,o g with
   |some ie,.arr false a i sz l=>if sz=ie.size then match ny (lN l.length) (hi.map f) with
    |some hi=>some (.mk (∃k:Nat,hi=.int .i64 k∧k≤l.length) (.sl sz (l.take hi.nat)) (fun _=>.v (.one (.own d))) (fun y=>[(d,.arr false a i sz y.list),(g,.none)]) [d])
    |none=>none
    else none
   |_,_=>none
  |_,_=>none
 |_=>none
section
variable {E:Env} {st st':St} {gh bP:Nat→Gh} {w w':World} {val:Nat→Value} {Pg:Program} {tt:TT}
theorem rX :∀{l:List Nat},tq l=true→l.Nodup
 | [],_=>List.nodup_nil
 |x::l,h=>by
  simp only [tq,Q6,Wz,Wl,decide_eq_false_iff_not] at h
  exact VM.2 ⟨h.1,rX h.2⟩
theorem EZ {xs ys:List Nat} (h:DT xs ys=true) :∀x∈xs,x∉ys:=by
 intro x hx
 have:=(X2.1 h) x hx
 simpa using this
theorem g_ {gs:List Nat} {g:Nat}:(kills gs).lookup g=if g∈gs then some O.none else none:=by
 induction gs with
 |nil=>rfl
 |cons x gs ih=>
  simp only [kills,Qf,List.lookup,QR]
  by_cases e:g=x
  ·subst e;simp
  ·have:(g==x)=false:=by simpa using e
   rw [this]
   simp only [e,false_or]
   exact ih
theorem Ar {α:Type} {g:Nat} :∀{l r:List (Nat×α)},(l++r).lookup g=(l.lookup g).or (r.lookup g)
 | [],r=>by simp
 |(k,v)::l,r=>by
  simp only [JS,List.lookup]
  split
  ·rfl
  ·exact Ar
theorem lookup_cons {α:Type} {g k:Nat} {v:α} {r:List (Nat×α)}:((k,v)::r).lookup g=if g=k then some v else r.lookup g:=by
 simp only [List.lookup]
 by_cases e:g=k
 ·subst e;simp
 ·have:(g==k)=false:=by simpa using e
  rw [this,if_neg e]
theorem Ij {au:List (Nat×Nat)} {off n j:Nat} (h:nG au off n=[]) (h1:off≤j) (h2:j<off+n):au.lookup j=none:=by
 cases hl:au.lookup j with
 |none=>rfl
 |some s=>
  have hm:(j,s)∈au:=by
   clear h
   induction au with
   |nil=>cases hl
   |cons p au ih=>
    obtain ⟨k,v⟩:=p
    rw [lookup_cons] at hl
    split at hl
    ·rename_i e;cases hl;subst e;simp
    ·exact US _ (ih hl)
  have:(j,s)∈nG au off n:=v9.2 ⟨hm,by simp [h1,h2]⟩
  rw [h] at this;cases this
theorem E5 {α:Type} {g:Nat} {v:α} :∀{l:List (Nat×α)},l.lookup g=some v→(g,v)∈l
 | [],h=>by cases h
 |(k,x)::l,h=>by
  rw [lookup_cons] at h
  split at h
  ·rename_i e;cases h;subst e;simp
  ·exact US _ (E5 h)
theorem Uo {au:List (Nat×Nat)} {off n c s:Nat} (h:nG au off n=[(c,s)]):au.lookup c=some s∧off≤c∧c<off+n∧∀j,off≤j→j<off+n→j≠c→au.lookup j=none:=by
 have hm:(c,s)∈nG au off n:=by rw [h];simp
 obtain ⟨m1,m2⟩:=v9.1 hm
 simp only [Q6,Nat.ble_eq,Nat.blt_eq] at m2
 have key :∀j s',au.lookup j=some s'→off≤j→j<off+n→(j,s')=(c,s):=by
  intro j s' hl h1 h2
  have:(j,s')∈nG au off n:=v9.2 ⟨E5 hl,by simp [h1,h2]⟩
  rw [h] at this;simpa using this
 refine ⟨?_,m2.1,m2.2,fun j h1 h2 hne => ?_⟩
 ·cases hl:au.lookup c with
  |none=>
   exfalso
   clear h hm key
   induction au with
   |nil=>cases m1
   |cons p au ih=>
    obtain ⟨k,v⟩:=p
    rw [lookup_cons] at hl
    split at hl
    ·cases hl
    ·rename_i e
     rcases QR.1 m1 with e1 | e1
     ·cases e1;exact e rfl
     ·exact ih e1 hl
  |some s'=>have:=key c s' hl m2.1 m2.2;cases this;rfl
 ·cases hl:au.lookup j with
  |none=>rfl
  |some s'=>have:=key j s' hl h1 h2;cases this;exact absurd rfl hne
theorem Rel.home (h:Rel E st gh val w) {g:Nat} {a i:Bool} {sz:Nat} {au:List (Nat×Nat)} {l:List (List P)} (hh:jA st.o g=some (a,i,sz,au,l)) :
  ∃st1 kY,Rel E st1 kY val w∧Lets E st st1 gh kY w w∧(∀x,(kY x).ad=(gh x).ad∧(kY x).cap=(gh x).cap)∧st1.s=st.s∧(∀x,st1.used x=st.used x)∧st1.o g=.aP a i sz au l none∧
   (∀d∈(st.o g).hn,st1.o d=.none∧d≠g)∧∀g',g'≠g→g'∉(st.o g).hn→st1.o g'=st.o g':=by
 unfold jA at hh
 cases ho:st.o g with
 |aP a0 i0 Aq kE l0 hole=>
  rw [ho] at hh
  simp only at hh
  rcases hole with _ | ⟨n,c,d⟩
  ·simp only [Q0,Q1] at hh
   obtain ⟨rfl,rfl,rfl,rfl,rfl⟩:=hh
   exact ⟨st,gh,h,⟨fun a i b hb=>⟨hb,rfl⟩,fun g _=>.inr ⟨⟨rfl,rfl⟩,O.fA _⟩⟩,fun _=>⟨rfl,rfl⟩,rfl,fun _=>rfl,ho,(fun d hd=>by cases hd),fun _ _ _=>rfl⟩
  ·simp only at hh
   cases hd:st.o d with
   |arr fz a' i' sz' l'=>
    rw [hd] at hh
    cases fz with
    |true=>cases hh
    |false=>
     simp only at hh
     split at hh
     ·rename_i hc
      simp only [Q0,Q1] at hh
      obtain ⟨rfl,rfl,rfl,rfl,rfl⟩:=hh
      obtain ⟨kY,h1,l1,e1⟩:=h.shut ho hd hc.1 hc.2
      have hne:d≠g:=by intro e;subst e;rw [ho] at hd;cases hd
      refine ⟨_,kY,h1,l1,e1,rfl,fun x=>by simp [St.aK],by simp [St.aK,List.lookup],fun d' hd' => ?_,fun g' h1 h2 => ?_⟩
      ·simp only [O.hn,dI,Qt] at hd'
       subst hd'
       have e1:(d'==g)=false:=by simpa using hne
       exact ⟨by simp [St.aK,List.lookup,e1],hne⟩
      ·have e1:(g'==g)=false:=by simpa using h1
       have e2:(g'==d)=false:=by simp;intro e;exact h2 (by rw [e];simp [O.hn,dI])
       simp [St.aK,List.lookup,e1,e2]
     ·cases hh
   |_=>rw [hd] at hh;cases hh
 |_=>rw [ho] at hh;cases hh
theorem nZ {o:Nat→O} {g:Nat} {a i:Bool} {sz:Nat} {au:List (Nat×Nat)} {l:List (List P)} (hh:jA o g=some (a,i,sz,au,l)):(o g).dim=some (sz,l.length):=by
 unfold jA at hh
 cases ho:o g with
 |aP a0 i0 Aq kE l0 hole=>
  rw [ho] at hh
  simp only at hh
  rcases hole with _ | ⟨n,c,d⟩
  ·simp only [Q0,Q1] at hh
   obtain ⟨rfl,rfl,rfl,rfl,rfl⟩:=hh;rfl
  ·simp only at hh
   split at hh
   ·split at hh
    ·simp only [Q0,Q1] at hh
     obtain ⟨rfl,rfl,rfl,rfl,rfl⟩:=hh
     simp [O.dim,iR]
    ·cases hh
   ·cases hh
 |_=>rw [ho] at hh;cases hh
theorem Ik {Q:Nat→Value→Prop} {b o n:Nat} (h :∀j,j<n→∃v,w.cell? ⟨b,o+j,none⟩=some v∧v.oneCell'=true∧Q j v) :
  ∃cs:List Value,cs.length=n∧(∀(j:Nat) u,cs[j]?=some u→w.cell? ⟨b,o+j,none⟩=some u)∧(∀c∈cs,c.oneCell'=true)∧∀(j:Nat) u,cs[j]?=some u→Q j u:=by
 have key :∀j u,((List.range n).map fun j=>(w.cell? ⟨b,o+j,none⟩).getD undef)[j]?=some u→j<n∧w.cell? ⟨b,o+j,none⟩=some u∧u.oneCell'=true∧Q j u:=by
  intro j u hu
  simp only [XS,W0] at hu
  obtain ⟨k,hk,rfl⟩:=hu
  obtain ⟨hlt,rfl⟩:=Q3.1 hk
  simp at hlt ⊢
  obtain ⟨v,hv,h1,h2⟩:=h j hlt
  rw [hv];exact ⟨hlt,rfl,h1,h2⟩
 refine ⟨(List.range n).map fun j=>(w.cell? ⟨b,o+j,none⟩).getD undef,by simp,fun j u hu=>(key j u hu).2.1,fun c hc => ?_,fun j u hu=>(key j u hu).2.2.2⟩
 obtain ⟨j,hj⟩:=V0.1 hc
 exact (key j c hj).2.2.1
def qI (Pg:Program) (tt:TT) (dc:List (Nat×Nat)) (op:Op):Prop:=
 ∀(E:Env) (st:St) (gh:Nat→Gh) (val:Nat→Value) (w:World) (ρ:Operand→Value) (F:Operand→S) (o:Oper) (d:Nat) (r:Gx),o.op=op→Rel E st gh val w→
  (∀x,dG E st gh w (F x) (ρ x))→(∀x,∀g∈(F x).names,st.used g=true)→dU tt dc d st.o F op o.type=some r→r.pre→(∀g∈r.new,st.used g=false)→
  ∃v w' bP,Does Pg (execOp ρ o) w v w'∧Rel E (st.aK (r.aK r.val) r.new) bP val w'∧Lets E st (st.aK (r.aK r.val) r.new) gh bP w w'∧dG E (st.aK (r.aK r.val) r.new) bP w' (r.dst r.val) v∧
   ∀g∈(r.dst r.val).names,(st.aK (r.aK r.val) r.new).used g=true
theorem St.DU {a b:St} (h1:a.s=b.s) (h2 :∀g,a.o g=b.o g) (h3 :∀g,a.used g=b.used g):a=b:=by
 obtain ⟨s,o,u⟩:=a
 obtain ⟨s',o',u'⟩:=b
 simp only at h1 h2 h3
 rw [h1,funext h2,funext h3]
theorem KN (htt:ig Pg tt) (t:TypeId) (x:Operand) {E:Env} {st:St} {gh:Nat→Gh} {val:Nat→Value} {w:World} {ρ:Operand→Value} {F:Operand→S} {o:Oper} {r:Gx} (ho:o.op=.load t x) (h:Rel E st gh val w)
  (hF :∀x,dG E st gh w (F x) (ρ x)) (hk:Ap tt st.o F t x=some r) :
  ∃v w' bP,Does Pg (execOp ρ o) w v w'∧Rel E (st.aK (r.aK r.val) r.new) bP val w'∧Lets E st (st.aK (r.aK r.val) r.new) gh bP w w'∧dG E (st.aK (r.aK r.val) r.new) bP w' (r.dst r.val) v∧
   ∀g∈(r.dst r.val).names,(st.aK (r.aK r.val) r.new).used g=true:=by
 unfold Ap at hk
 split at hk
 ·rename_i i g n off ht hx
  have rx:=hF x;rw [hx] at rx
  split at hk
  ·rename_i a i' sz au l hh
   split at hk
   ·rename_i s ad9
    split at hk
    ·rename_i hlt
     simp only [Q0] at hk;subst hk
     obtain ⟨st1,kY,h1,l1,e1,es,eu,eo,ek,en1⟩:=h.home hh
     have Qx:=nZ hh
     obtain ⟨ad,k,had,rfl,hkl,hv⟩:=(by cases rx.dJ with | ep _ _ _ _ _ hb=>exact hb _ _ Qx :∃(ad:Addr) (k:Nat),(gh g).ad=some ad∧n=.int .i64 k∧k<l.length∧ρ x=.pointer (some ⟨ad.block,ad.off+k*sz+off,none⟩))
     have en:(P.int .i64 (k:Int)).nat=k:=by simp [P.nat,P.num]
     have KO:(kY g).ad=some ad:=by rw [(e1 g).1];exact had
     have hD:mF E st1 kY w a i' sz au l none (kY g):=by have:=h1.bf g;rw [eo] at this;exact this
     rcases hD with ⟨k1,_⟩ | ⟨ad0,cs0,ty,k1,k2,k3,k4,k5,k6,_,k8⟩
     ·rw [KO] at k1;cases k1
     rw [KO] at k1;cases k1
     have hrow:l[k]?=some l[k]:=Q2 hkl
     have hrl:l[k].length=sz:=k6 _ (XX hkl)
     have hoff:off<l[k].length:=by omega
     obtain ⟨v,hv0,hr⟩:=k8 k _ hrow off _ (Q2 hoff)
     unfold iE at hr
     rw [ad9] at hr
     simp only [gW] at hr
     obtain ⟨l',ao,kk,hy,rfl,harr,_⟩:=hr
     have hcell:w.cell? ⟨ad.block,ad.off+k*sz+off,none⟩=some (.slice ao l'.length kk):=by simp [World.cell?,k3,hv0]
     obtain ⟨v,hrun,hval⟩:=jS (Pg:=Pg) (w:=w) (htt _ _ ht) ad.block (ad.off+k*sz+off) [.slice ao l'.length kk] (by simp [hlt.2.1]) (fun j c hj=>by
      cases j with
      |zero=>simp at hj;subst hj;exact hcell
      |succ j=>simp at hj) (fun _=>by omega)
     have hvv:v=.slice ao l'.length kk:=by
      rw [hlt.2.2] at hval
      exact hval _ rfl
     have hdr':hdr ((l.getD (P.int .i64 (k:Int)).nat []).getD off default).list=.sl 0 (List.replicate l'.length []):=by
      rw [en]
      have e2:(l.getD k []).getD off default=l[k][off]:=by
       rw [List.getD_eq_getElem?_getD,List.getD_eq_getElem?_getD,hrow]
       simp [Q2 hoff]
      rw [e2,hy,P.nX];rfl
     rw [hdr']
     refine still h (v:=v) (by unfold execOp;rw [ho];exact gI (by rw [hv];simpa [Instr.loadAt,Instr.sureAddr] using hrun)) (dG.ofP ?_) fun g' hg'=>by simp [Gx.pure,S.names,V.names,W.names] at hg'
     rw [hvv]
     rcases harr with ⟨q1,q2,q3⟩ | ⟨BP,c2,e2,q1,q2,q3,q4,q5,_⟩
     ·subst q3;exact .nil _ _ _
     ·have q1:ao=some BP:=q1
      have q5:l'.length≤kk∧kk≤9223372036854775807:=q5
      rw [q1]
      have:=cu.sl (w:=w) (ok:=E.ok st gh w false false) 0 (List.replicate l'.length []) BP kk (fun _ _=>undef) q2 (fun h0=>absurd h0 (Km 0)) (by simpa using q5.1) (fun x hx=>by rw [qr hx];rfl)
       (fun n x hx j y hy=>by rw [qr (Xs hx)] at hy;simp at hy) (fun n x hx j y hy=>by rw [qr (Xs hx)] at hy;simp at hy)
      simpa using this
    ·cases hk
   ·cases hk
  ·cases hk
 ·cases hk
theorem Qy {dc:List (Nat×Nat)} (htt:ig Pg tt) (t:TypeId) (x:Operand):qI Pg tt dc (.load t x):=by
 intro E st gh val w ρ F o d r ho h hF hFn hk hp hd
 simp only [dU] at hk
 cases hhd:aau dc with
 |true=>rw [hhd] at hk;exact KN htt t x ho h hF hk
 |false=>
 rw [hhd] at hk
 simp only [cond_false] at hk
 split at hk
 ·rename_i i g n off ht hx
  have rx:=hF x;rw [hx] at rx
  split at hk
  ·rename_i a0 i0 Aq kE l0 hole hog
   split at hk
   ·rename_i hlt
    have Qx:(st.o g).dim=some (Aq,l0.length):=by rw [hog];rfl
    obtain ⟨ad,k,had,rfl,hkl,hv⟩:=(by cases rx.dJ with | ep _ _ _ _ _ hb=>exact hb _ _ Qx :∃(ad:Addr) (k:Nat),(gh g).ad=some ad∧n=.int .i64 k∧k<l0.length∧ρ x=.pointer (some ⟨ad.block,ad.off+k*Aq+off,none⟩))
    have en:(P.int .i64 (k:Int)).nat=k:=by simp [P.nat,P.num]
    split at hk
    ·rename_i hci
     simp only [Q0] at hk;subst hk
     have hD:mF E st gh w a0 i0 Aq kE l0 hole (gh g):=by have:=h.bf g;rw [hog] at this;exact this
     rcases hD with ⟨k1,_⟩ | ⟨ad0,cs0,ty,k1,k2,k3,k4,k5,k6,_,k8⟩
     ·rw [had] at k1;cases k1
     rw [had] at k1;cases k1
     have hrow:l0[k]?=some l0[k]:=Q2 hkl
     have hrl:l0[k].length=Aq:=k6 _ (XX hkl)
     have hget:l0.getD (P.int .i64 (k:Int)).nat []=l0[k]:=by rw [en,List.getD_eq_getElem?_getD,hrow];rfl
     obtain ⟨cs,hl,hcell,hone,hrep⟩:=Ik (w:=w) (b:=ad.block) (o:=ad.off+k*Aq+off) (n:=i.size) (Q:=fun j v=>cu w (E.ok st gh w a0 i0) (l0[k].getD (off+j) (Ue i.zero j)) v) fun j hj=>by
      have hlt':off+j<l0[k].length:=by omega
      obtain ⟨v,hv,hr⟩:=k8 k _ hrow (off+j) _ (Q2 hlt')
      simp only [iE,Ij hci (show off≤off+j by omega) (show off+j<off+i.size by omega)] at hr
      have e0:ad.off+k*Aq+off+j=ad.off+k*Aq+(off+j):=by omega
      refine ⟨v,by rw [e0];simp [World.cell?,k3,hv],hr.oneCell,?_⟩
      rw [List.getD_eq_getElem?_getD,Q2 hlt'];exact hr
     obtain ⟨v,hrun,hval⟩:=jS (Pg:=Pg) (w:=w) (htt _ _ ht) ad.block (ad.off+k*Aq+off) cs hl hcell (fun _=>hlt.2)
     rw [hget]
     exact still h (v:=v) (by unfold execOp;rw [ho];exact gI (by rw [hv];simpa [Instr.loadAt,Instr.sureAddr] using hrun)) (kM (by simp [hl]) hone (fun j y u hy hu=>by
       simp only [XS,W0] at hy
       obtain ⟨q,hq,rfl⟩:=hy
       obtain ⟨hlt2,rfl⟩:=Q3.1 hq
       simp at hlt2 ⊢
       exact .p _ _ _ _ (hrep _ u hu)) v hval)
      fun g' hg'=>by obtain ⟨y,hy,hg'⟩:=jq hg';rw [sW hy] at hg';cases hg'
    ·rename_i c s hci
     split at hk
     ·rename_i a i' sz au l hh
      simp only [Q0] at hk;subst hk
      obtain ⟨st1,kY,h1,l1,e1,es,eu,eo,ek,en1⟩:=h.home hh
      have aav:=nZ hh
      rw [Qx] at aav
      simp only [Q0,Q1] at aav
      obtain ⟨rfl,hll⟩:=aav
      have hcols:au=kE:=by
       unfold jA at hh
       rw [hog] at hh
       simp only at hh
       split at hh
       ·cases hh;rfl
       ·split at hh
        ·split at hh
         ·cases hh;rfl
         ·cases hh
        ·cases hh
      subst hcols
      obtain ⟨c1,c2,c3,c4⟩:=Uo hci
      have EX:st.used d=false:=hd d (by simp)
      have KO:(kY g).ad=some ad:=by rw [(e1 g).1];exact had
      have hD:mF E st1 kY w a i' Aq au l none (kY g):=by have:=h1.bf g;rw [eo] at this;exact this
      rcases hD with ⟨k1,_⟩ | ⟨ad0,cs0,ty,k1,k2,k3,k4,k5,k6,_,k8⟩
      ·rw [KO] at k1;cases k1
      rw [KO] at k1;cases k1
      have hkl':k<l.length:=by omega
      have hrow:l[k]?=some l[k]:=Q2 hkl'
      have hrl:l[k].length=Aq:=k6 _ (XX hkl')
      have hget:l.getD (P.int .i64 (k:Int)).nat []=l[k]:=by rw [en,List.getD_eq_getElem?_getD,hrow];rfl
      have hyc:l[k][c]?=some l[k][c]:=Q2 (by omega)
      obtain ⟨l',ao,kc,xG,hy,⟨BP,cs2,ty2,q1,q2,q3⟩,q4,q5,r1,r2⟩:=h1.split (d:=d) (by rw [eu];exact EX) eo c1 hrow hyc
      rw [KO] at q1;cases q1
      rw [k3] at q2;cases q2
      have hlist:((l.getD (P.int .i64 (k:Int)).nat []).getD c default).list=l':=by
       rw [hget,List.getD_eq_getElem?_getD,hyc]
       show (l[k][c]).list=l'
       rw [hy,P.nX]
      have hgd:g≠d:=fun e=>by rw [←e,h.ul g (by rw [hog];simp)] at EX;cases EX
      have hst:st1.aK [(g,.aP a i' Aq au l (some (k,c,d))),(d,.arr false a i' s l')] [d]=st.aK ((g,.aP a i' Aq au l (some ((P.int .i64 (k:Int)).nat,c,d)))::(d,.arr false a i' s ((l.getD (P.int .i64 (k:Int)).nat []).getD c default).list)::kills (st.o g).hn) [d]:=by
       rw [hlist,en]
       refine St.DU es (fun x => ?_) (fun x=>by simp [St.aK,eu])
       simp only [St.aK,lookup_cons,g_]
       by_cases x1:x=g
       ·simp only [if_pos x1]
       ·by_cases x2:x=d
        ·simp only [if_neg x1,if_pos x2]
        ·simp only [if_neg x1,if_neg x2]
         by_cases x3:x∈(st.o g).hn
         ·simp only [if_pos x3];exact (ek x x3).1
         ·simp only [if_neg x3];exact en1 x x1 x3
      obtain ⟨cs,hl,hcell,hone,hrep⟩:=Ik (w:=w) (b:=ad.block) (o:=ad.off+k*Aq+off) (n:=i.size) (Q:=fun j v=>if Nat.beq (off+j) c=true then v=.slice ao l'.length kc else cu w (E.ok st1 kY w a i') (l[k].getD (off+j) (Ue i.zero j)) v) fun j hj=>by
       have hlt':off+j<l[k].length:=by omega
       obtain ⟨v,hv,hr⟩:=k8 k _ hrow (off+j) _ (Q2 hlt')
       have e0:ad.off+k*Aq+off+j=ad.off+k*Aq+(off+j):=by omega
       refine ⟨v,by rw [e0];simp [World.cell?,k3,hv],hr.oneCell,?_⟩
       by_cases hjc:off+j=c
       ·rw [if_pos (by simpa using hjc)]
        rw [hjc] at hv
        rw [hv] at q3;exact Wf q3
       ·rw [if_neg (by simpa using hjc)]
        simp only [iE,c4 (off+j) (by omega) (by omega) hjc] at hr
        rw [List.getD_eq_getElem?_getD,Q2 hlt'];exact hr
      obtain ⟨v,hrun,hval⟩:=jS (Pg:=Pg) (w:=w) (htt _ _ ht) ad.block (ad.off+k*Aq+off) cs hl hcell (fun _=>hlt.2)
      have hod:(st1.aK [(g,.aP a i' Aq au l (some (k,c,d))),(d,.arr false a i' s l')] [d]).o d=.arr false a i' s l':=by
       have:(d==g)=false:=by simpa using hgd.symm
       simp [St.aK,List.lookup,this]
      refine ⟨v,w,xG,.inl (by unfold execOp;rw [ho];exact gI (by rw [hv];simpa [Instr.loadAt,Instr.sureAddr] using hrun)),?_,?_,?_,fun g' hg' => ?_⟩
      ·rw [hst] at r1;exact r1
      ·have:=Lets.trans l1 r2 fun g hg=>by rw [eu];exact hg
       rw [hst] at this;exact this
      ·have hS:dG E (st1.aK [(g,.aP a i' Aq au l (some (k,c,d))),(d,.arr false a i' s l')] [d]) xG w (V.fQ i.agg ((List.range i.size).map fun j=>if Nat.beq (off+j) c=true then W.own d else W.p a i' ((l.getD (P.int .i64 (k:Int)).nat []).getD (off+j) (Ue i.zero j)))) v:=by
        rw [hget]
        refine kM (by simp [hl]) hone (fun j y u hy hu => ?_) v hval
        simp only [XS,W0] at hy
        obtain ⟨q,hq,rfl⟩:=hy
        obtain ⟨hlt2,rfl⟩:=Q3.1 hq
        simp at hlt2 ⊢
        have hr:=hrep _ u hu
        by_cases hjc:off+j=c
        ·rw [if_pos hjc]
         rw [if_pos (by simpa using hjc)] at hr
         subst hr
         exact .own d _ rfl fun sz3 am5 hd3=>by rw [hod] at hd3;obtain ⟨_,e2⟩:=O.jP hd3;rw [q4,q5,e2]
        ·rw [if_neg hjc]
         rw [if_neg (by simpa using hjc)] at hr
         exact .p _ _ _ _ (r2.kC (by simpa using hr))
       rw [hst] at hS;exact hS
      ·have hg':g'∈(V.fQ i.agg ((List.range i.size).map fun j=>if Nat.beq (off+j) c=true then W.own d else W.p a i' ((l.getD (P.int .i64 (k:Int)).nat []).getD (off+j) (Ue i.zero j)))).names:=hg'
       obtain ⟨y,hy,hg'⟩:=jq hg'
       obtain ⟨j,_,rfl⟩:=QQ.1 hy
       split at hg'
       ·simp only [W.names,Qt] at hg';subst hg';simp [St.aK]
       ·simp [W.names] at hg'
     ·cases hk
    ·cases hk
   ·cases hk
  ·cases hk
 ·cases hk
theorem PartOf.mono {a i a' i':Bool} {es es':List (Nat×Nat)} {s j:Nat} {y:P} {u:Value} (h:PartOf st gh a i es s j y u) (ha:a=true→a'=true) (hi:i=true→i'=true) (he :∀p∈es,p∈es'):PartOf st gh a' i' es' s j y u:=by
 obtain ⟨l',h1,h2⟩:=h
 refine ⟨l',h1,h2.imp id ?_⟩
 rintro ⟨e,a1,i1,q1,q2,q3,q4,q5⟩
 exact ⟨e,a1,i1,he _ q1,q2,fun h=>ha (q3 h),fun h=>hi (q4 h),q5⟩
theorem Cb (h:Rel E st gh val w) {col:Nat→Option Nat} :∀{ws:List W} {cs:List Value} {ps:List P} {a i:Bool} {gs:List Nat} {es:List (Nat×Nat)} {j0:Nat},ws.length=cs.length→(∀(j:Nat) x u,ws[j]?=some x→cs[j]?=some u→eU E st gh w x u)→
  P8 st.o col j0 ws=some (ps,a,i,gs,es)→ps.length=ws.length∧xw st.o gs∧(∀p∈es,∃a1 i1 s l',st.o p.2=.arr false a1 i1 s l'∧(i1=true→i=true))∧
   ∀(j:Nat) y u,ps[j]?=some y→cs[j]?=some u→match col (j0+j) with
    |none =>∀st',(∀g∈gs,st'.o g=(Fw.aV st.o g).2)→Rel E st' gh val w→Lets E st st' gh gh w w→cu w (E.ok st' gh w a i) y u
    |some s=>PartOf st gh a i es s (j0+j) y u
 | [],cs,ps,a,i,gs,es,j0,hl,hr,ht=>by
  simp only [P8,Q0,Q1] at ht
  obtain ⟨rfl,rfl,rfl,rfl,rfl⟩:=ht
  exact ⟨rfl,xw.nil,(fun p hp=>by cases hp),fun j y u hy=>by simp at hy⟩
 |x::ws,cs,ps,a,i,gs,es,j0,hl,hr,ht=>by
  cases cs with
  |nil=>simp at hl
  |cons c cs=>
   simp only [P8] at ht
   split at ht
   ·cases ht
   ·rename_i ys a' i' gs' es' h2
    obtain ⟨q0,q1,qe,q2⟩:=Cb h (j0:=j0+1) (by simpa using hl) (fun j a b ha hb=>hr (j+1) a b (by simpa using ha) (by simpa using hb)) h2
    have rest :∀(a i:Bool) (gs:List Nat) (es:List (Nat×Nat)),(a'=true→a=true)→(i'=true→i=true)→(∀g∈gs',g∈gs)→(∀p∈es',p∈es)→∀(j:Nat) y u,ys[j]?=some y→cs[j]?=some u→match col (j0+(j+1)) with
      |none =>∀st',(∀g∈gs,st'.o g=(Fw.aV st.o g).2)→Rel E st' gh val w→Lets E st st' gh gh w w→cu w (E.ok st' gh w a i) y u
      |some s=>PartOf st gh a i es s (j0+(j+1)) y u:=by
     intro a i gs es ha hi hg he j y u hy hu
     have:=q2 j y u hy hu
     have e:j0+1+j=j0+(j+1):=by omega
     rw [e] at this
     cases hc:col (j0+(j+1)) with
     |none=>rw [hc] at this;exact fun st' h1 h2 h3=>(this st' (fun g hg'=>h1 g (hg g hg')) h2 h3).cls ha hi
     |some s=>rw [hc] at this;exact this.mono ha hi he
    cases hc0:col j0 with
    |none=>
     rw [hc0] at ht
     simp only at ht
     split at ht
     ·rename_i y1 a1 i1 gs1 h1
      simp only [Q0,Q1] at ht
      obtain ⟨rfl,rfl,rfl,rfl,rfl⟩:=ht
      obtain ⟨k1,k2⟩:=NW h (hr 0 x c rfl rfl) h1
      refine ⟨by simp [q0],k1.append q1,fun p hp=>let ⟨a2,i2,s2,l2,z1,z2⟩:=qe p hp;⟨a2,i2,s2,l2,z1,fun hh=>by simp [z2 hh]⟩,fun j y u hy hu => ?_⟩
      cases j with
      |zero=>
       simp at hy hu;subst hy hu
       rw [WK,hc0]
       exact fun st' hst h' hlet=>(k2 st' (fun g hg=>hst g (by simp [hg])) h' hlet).cls (by simp;exact fun h=>.inl h) (by simp;exact fun h=>.inl h)
      |succ j=>exact rest _ _ _ _ (by simp;exact fun h=>.inr h) (by simp;exact fun h=>.inr h) (fun g hg=>by simp [hg]) (fun p hp=>hp) j y u (by simpa using hy) (by simpa using hu)
     ·cases ht
    |some s=>
     rw [hc0] at ht
     simp only at ht
     split at ht
     ·simp only [Q0,Q1] at ht
      obtain ⟨rfl,rfl,rfl,rfl,rfl⟩:=ht
      refine ⟨by simp [q0],q1,qe,fun j y u hy hu => ?_⟩
      cases j with
      |zero=>
       simp at hy hu;subst hy hu
       rw [WK,hc0]
       have r0:=hr 0 _ _ rfl rfl
       cases r0
       exact ⟨[],rfl,.inl ⟨rfl,rfl⟩⟩
      |succ j=>exact rest _ _ _ _ id id (fun g hg=>hg) (fun p hp=>hp) j y u (by simpa using hy) (by simpa using hu)
     ·rename_i e
      split at ht
      ·rename_i a1 i1 s' l1 hoe
       split at ht
       ·rename_i hs
        subst hs
        simp only [Q0,Q1] at ht
        obtain ⟨rfl,rfl,rfl,rfl,rfl⟩:=ht
        refine ⟨by simp [q0],q1,fun p hp => ?_,fun j y u hy hu => ?_⟩
        ·rcases QR.1 hp with rfl | hp
         ·exact ⟨a1,i1,s',l1,hoe,fun hh=>by simp [hh]⟩
         ·obtain ⟨a2,i2,s2,l2,z1,z2⟩:=qe p hp
          exact ⟨a2,i2,s2,l2,z1,fun hh=>by simp [z2 hh]⟩
        cases j with
        |zero=>
         simp at hy hu;subst hy hu
         rw [WK,hc0]
         have r0:=hr 0 _ _ rfl rfl
         refine ⟨l1,rfl,.inr ⟨e,a1,i1,by simp,hoe,by simp;exact fun h=>.inl h,by simp;exact fun h=>.inl h,?_⟩⟩
         cases r0 with | own _ _ _ hb=>exact hb _ _ (O.jR hoe)
        |succ j=>exact rest _ _ _ _ (by simp;exact fun h=>.inr h) (by simp;exact fun h=>.inr h) (fun g hg=>hg) (fun p hp=>by simp [hp]) j y u (by simpa using hy) (by simpa using hu)
       ·cases ht
      ·cases ht
     ·cases ht
theorem Il {o:Nat→O} {g:Nat} {a0 i0:Bool} {Aq:Nat} {kE:List (Nat×Nat)} {l0:List (List P)} {hole:Option (Nat×Nat×Nat)} {a i:Bool} {sz:Nat} {au:List (Nat×Nat)} {l:List (List P)} (hog:o g=.aP a0 i0 Aq kE l0 hole)
  (hh:jA o g=some (a,i,sz,au,l)):sz=Aq∧au=kE∧l.length=l0.length:=by
 have h1:=nZ hh
 rw [hog] at h1
 simp only [O.dim,Q0,Q1] at h1
 refine ⟨h1.1.symm,?_,h1.2.symm⟩
 unfold jA at hh
 rw [hog] at hh
 simp only at hh
 split at hh
 ·cases hh;rfl
 ·split at hh
  ·split at hh
   ·cases hh;rfl
   ·cases hh
  ·cases hh
theorem vM (htt:ig Pg tt) (h:Rel E st gh val w) {o:Oper} {ρ:Operand→Value} {t:TypeId} {x y:Operand} (ho:o.op=.store t x y) {i:TI} (ht:tt t=some i) {y':V} (ry:rH E st gh w y' (ρ y)) (hys:y'.solid=true) (hyl:y'.words.length=i.size)
  {g:Nat} {a1 i1:Bool} {sz:Nat} {au:List (Nat×Nat)} {l:List (List P)} {hole iT:Option (Nat×Nat×Nat)} {ad:Addr} {k off:Nat} (hv:ρ x=.pointer (some ⟨ad.block,ad.off+k*sz+off,none⟩)) (hsz:off+i.size≤sz) (hk:k<l.length)
  {ps:List P} {a' i':Bool} {gs:List Nat} {es:List (Nat×Nat)} (hD:P8 st.o (fun j=>au.lookup j) off y'.words=some (ps,a',i',gs,es)) (hnd:(es.map (·.2)).Nodup) (hap :∀e∈es.map (·.2),e∉gs)
  {st1:St} {kY:Nat→Gh} (ks:List Nat) (h1:Rel E st1 kY val w) (l1:Lets E (st.aK (gs.map (Fw.aV st.o)) []) st1 gh kY w w) (e1 :∀x,(kY x).ad=(gh x).ad∧(kY x).cap=(gh x).cap) (s1:st1.s=st.s) (u1 :∀x,st1.used x=st.used x)
  (o1:st1.o g=.aP a1 i1 sz au l hole) (had:(gh g).ad=some ad) (ok1 :∀d∈ks,st1.o d=.none∧d≠g∧d∉es.map (·.2)) (oo1 :∀g',g'≠g→g'∉ks→st1.o g'=(st.aK (gs.map (Fw.aV st.o)) []).o g') (hgg:g∉gs)
  (hh1 :∀m j,¬ (m=k∧off≤j∧j<off+i.size)→∀s,au.lookup j=some s→gW iT m j=gW hole m j) (hh2 :∀j s,off≤j→j<off+i.size→au.lookup j=some s→gW iT k j=none) (hh3 :∀d∈dI iT,d∈dI hole) :
  ∃v w' bP,Does Pg (execOp ρ o) w v w'∧Rel E (st.aK ((g,.aP (a1||a') (i1||i') sz au (l.set k (aQ (l.getD k []) off ps)) iT)::kills (es.map (·.2))++kills ks++gs.map (Fw.aV st.o)) []) bP val w'∧
   Lets E st (st.aK ((g,.aP (a1||a') (i1||i') sz au (l.set k (aQ (l.getD k []) off ps)) iT)::kills (es.map (·.2))++kills ks++gs.map (Fw.aV st.o)) []) gh bP w w'∧
   dG E (st.aK ((g,.aP (a1||a') (i1||i') sz au (l.set k (aQ (l.getD k []) off ps)) iT)::kills (es.map (·.2))++kills ks++gs.map (Fw.aV st.o)) []) bP w' .no v∧
   ∀g∈S.names .no,(st.aK ((g,.aP (a1||a') (i1||i') sz au (l.set k (aQ (l.getD k []) off ps)) iT)::kills (es.map (·.2))++kills ks++gs.map (Fw.aV st.o)) []).used g=true:=by
 obtain ⟨us,hus,P7,huo,hur⟩:=ry.cells hys
 have aao:us.length=i.size:=by rw [P7,hyl]
 obtain ⟨q0,q1,qe,q2⟩:=Cb h P7.symm hur hD
 have hpl:ps.length=i.size:=by rw [q0,hyl]
 obtain ⟨f1,f2⟩:=Rel.freezes gs h q1
 have KO:(kY g).ad=some ad:=by rw [(e1 g).1];exact had
 have hDA:mF E st1 kY w a1 i1 sz au l hole (kY g):=by have:=h1.bf g;rw [o1] at this;exact this
 rcases hDA with ⟨k1,_⟩ | ⟨ad0,cs0,ty,k1,k2,k3,k4,k5,k6,_,k8⟩
 ·rw [KO] at k1;cases k1
 rw [KO] at k1;cases k1
 have hle:(k+1)*sz≤(kY g).cap*sz:=XN _ (by have:=k5.1;omega)
 rw [W4,J2] at hle
 obtain ⟨w',c',r1,r2,r3,r4,r5,r6,r7,r8⟩:=sZ (Pg:=Pg) (htt _ _ ht) ad.block (ad.off+k*sz+off) hus aao huo k3 (by omega)
 have hes1 :∀p∈es,st1.o p.2=st.o p.2:=by
  intro p hp
  have hpm:p.2∈es.map (·.2):=QQ.2 ⟨p,hp,rfl⟩
  obtain ⟨a2,i2,s2,l2,z1,_⟩:=qe p hp
  by_cases e:p.2=g
  ·exfalso
   have hog:(st.aK (gs.map (Fw.aV st.o)) []).o g=st.o g:=by rw [fU,if_neg hgg]
   have hlk:=l1.names g (by simp only [St.aK,List.contains_nil,UT];exact h.ul g (by rw [←e,z1];simp))
   rw [o1,hog,←e,z1] at hlk
   rcases hlk with hlk | ⟨_,hlk⟩
   ·cases hlk
   ·exact hlk
  ·rw [oo1 _ e fun hk=>(ok1 _ hk).2.2 hpm,fU,if_neg (hap _ hpm)]
 have hm:=h1.ahD o1 KO hk (off:=off) (ps:=ps) (us:=us) (by omega) (by omega) a' i' es iT hnd (fun p hp=>by
   obtain ⟨a2,i2,s2,l2,z1,z2⟩:=qe p hp
   exact ⟨a2,i2,s2,l2,by rw [hes1 p hp];exact z1,z2⟩) (fun j y u hy hu=>by
   have:=q2 j y u hy hu
   cases hc:au.lookup (off+j) with
   |none=>rw [hc] at this;exact l1.kC (this _ (fun g hg=>by rw [fU,if_pos hg]) f1 f2)
   |some s=>
    rw [hc] at this
    obtain ⟨l',z1,z2⟩:=this
    refine ⟨l',z1,z2.imp id ?_⟩
    rintro ⟨e,a2,i2,y1,y2,y3,y4,y5⟩
    exact ⟨e,a2,i2,y1,by rw [hes1 _ y1];exact y2,y3,y4,by rw [(e1 e).1,(e1 e).2];exact y5⟩)
  (by rw [hpl];exact hh1) (by rw [hpl];exact hh2) hh3 w' r4 r5 r6 r7 r8 (fun c e hce=>by
   rw [k3] at hce;cases hce
   exact ⟨c',r2,r3⟩)
 obtain ⟨bP,m1,m2⟩:=hm
 have hst:st1.aK ((g,.aP (a1||a') (i1||i') sz au (l.set k (aQ (l.getD k []) off ps)) iT)::es.map fun p=>(p.2,O.none)) [] =
   st.aK ((g,.aP (a1||a') (i1||i') sz au (l.set k (aQ (l.getD k []) off ps)) iT)::kills (es.map (·.2))++kills ks++gs.map (Fw.aV st.o)) []:=by
  refine St.DU s1 (fun z => ?_) (fun z=>by simp [St.aK,u1])
  have ek:(es.map fun p=>(p.2,O.none))=kills (es.map (·.2)):=by simp [kills]
  rw [ek]
  simp only [St.aK,JS,lookup_cons,Ar,g_]
  by_cases z1:z=g
  ·simp only [if_pos z1]
  ·simp only [if_neg z1]
   by_cases z2:z∈es.map (·.2)
   ·simp only [if_pos z2,Option.some_or]
   ·simp only [if_neg z2,Option.none_or]
    by_cases z3:z∈ks
    ·simp only [if_pos z3,Option.some_or];exact (ok1 z z3).1
    ·simp only [if_neg z3,Option.none_or]
     rw [oo1 z z1 z3]
     rfl
 rw [hst] at m1 m2
 refine ⟨undef,w',bP,.inr ⟨?_,rfl⟩,m1,?_,.no _,fun g hg=>by simp [S.names] at hg⟩
 ·unfold execOp;rw [ho]
  refine aak ?_
  rw [hv]
  simpa [Instr.storeAt,Instr.sureAddr] using r1
 ·exact Lets.trans (Lets.trans f2 l1 (fun g hg=>by simpa [St.aK] using hg)) m2 (fun g hg=>by rw [u1];exact hg)
theorem ajR {o:Nat→O} {g:Nat} {a i:Bool} {sz:Nat} {au:List (Nat×Nat)} {l:List (List P)} {hole:Option (Nat×Nat×Nat)} (h:o g=.aP a i sz au l hole):(o g).hn=dI hole:=by rw [h];rfl
theorem N_ {g:Nat} {gs:List Nat} (hg:g∉gs) (hn :∀d∈(st.o g).hn,d∉gs):jA (st.aK (gs.map (Fw.aV st.o)) []).o g=jA st.o g:=by
 have e1:(st.aK (gs.map (Fw.aV st.o)) []).o g=st.o g:=by rw [fU,if_neg hg]
 unfold jA
 rw [e1]
 cases ho:st.o g with
 |aP a i sz au l hole=>
  rcases hole with _ | ⟨n,c,d⟩
  ·rfl
  ·simp only
   rw [fU,if_neg (hn d (by rw [ho];simp [O.hn,dI]))]
 |_=>rfl
theorem Oa {dc:List (Nat×Nat)} (htt:ig Pg tt) (t:TypeId) (x y:Operand):qI Pg tt dc (.store t x y):=by
 intro E st gh val w ρ F o d r ho h hF hFn hk hp hd
 simp only [dU] at hk
 split at hk
 ·rename_i i g n off y' ht hx hy
  have rx:=hF x;rw [hx] at rx
  have ry:=hF y;rw [hy] at ry
  split at hk
  ·rename_i a0 i0 sz au l0 hole hog
   split at hk
   ·rename_i ps a' i' gs es hD
    split at hk
    ·rename_i hc
     obtain ⟨hc1,hc2,hc3,hc4,hc5,hc6⟩:=hc
     have hgg:g∉gs:=fun hm=>by simp [hm] at hc4
     have hnd:=rX hc5
     have hap:=EZ hc6
     have Qx:(st.o g).dim=some (sz,l0.length):=by rw [hog];rfl
     obtain ⟨ad,k,had,rfl,hkl,hv⟩:=(by cases rx.dJ with | ep _ _ _ _ _ hb=>exact hb _ _ Qx :∃(ad:Addr) (k:Nat),(gh g).ad=some ad∧n=.int .i64 k∧k<l0.length∧ρ x=.pointer (some ⟨ad.block,ad.off+k*sz+off,none⟩))
     have en:(P.int .i64 (k:Int)).nat=k:=by simp [P.nat,P.num]
     have ogf:(st.aK (gs.map (Fw.aV st.o)) []).o g=.aP a0 i0 sz au l0 hole:=by rw [fU,if_neg hgg];exact hog
     obtain ⟨us,hus,P7,huo,hur⟩:=ry.NU.cells hc3
     obtain ⟨_,q1,_,_⟩:=Cb h P7.symm hur hD
     obtain ⟨f1,f2⟩:=Rel.freezes gs h q1
     have refl:Lets E (st.aK (gs.map (Fw.aV st.o)) []) (st.aK (gs.map (Fw.aV st.o)) []) gh gh w w:=⟨fun a i b hb=>⟨hb,rfl⟩,fun g _=>.inr ⟨⟨rfl,rfl⟩,O.fA _⟩⟩
     have home :∀(a i1:Bool) (l:List (List P)),jA st.o g=some (a,i1,sz,au,l)→(∀d∈(st.o g).hn,d∉es.map (·.2)∧d∉gs)→
       ∃v w' bP,Does Pg (execOp ρ o) w v w'∧Rel E (st.aK ((g,.aP (a||a') (i1||i') sz au (l.set k (aQ (l.getD k []) off ps)) none)::kills (es.map (·.2))++kills (st.o g).hn++gs.map (Fw.aV st.o)) []) bP val w'∧Lets E st (st.aK ((g,.aP (a||a') (i1||i') sz au (l.set k (aQ (l.getD k []) off ps)) none)::kills (es.map (·.2))++kills (st.o g).hn++gs.map (Fw.aV st.o)) []) gh bP w w'∧dG E (st.aK ((g,.aP (a||a') (i1||i') sz au (l.set k (aQ (l.getD k []) off ps)) none)::kills (es.map (·.2))++kills (st.o g).hn++gs.map (Fw.aV st.o)) []) bP w' .no v∧∀g'∈S.names .no,(st.aK ((g,.aP (a||a') (i1||i') sz au (l.set k (aQ (l.getD k []) off ps)) none)::kills (es.map (·.2))++kills (st.o g).hn++gs.map (Fw.aV st.o)) []).used g'=true:=fun a i1 l hh hno=>by
      have hh':jA (st.aK (gs.map (Fw.aV st.o)) []).o g=some (a,i1,sz,au,l):=by rw [N_ hgg fun d hd=>(hno d hd).2];exact hh
      have hhn:((st.aK (gs.map (Fw.aV st.o)) []).o g).hn=(st.o g).hn:=by rw [ogf,hog]
      obtain ⟨st1,kY,h1,l1,e1,es1,eu,eo,ek,en1⟩:=f1.home hh'
      rw [hhn] at ek en1
      have hll:=(Il hog hh).2.2
      exact vM htt h ho ht ry.NU hc3 hc2 hv hc1 (by omega) hD hnd hap (st.o g).hn h1 l1 e1 (by rw [es1];rfl) (fun z=>by rw [eu];simp [St.aK]) eo had
       (fun d hd=>⟨(ek d hd).1,(ek d hd).2,(hno d hd).1⟩) en1 hgg (iT:=none) (fun _ _ _ _ _=>rfl) (fun _ _ _ _ _=>rfl) (fun d hd=>by cases hd)
     have over :∀n0 c0 d0,hole=some (n0,c0,d0)→off≤c0∧c0<off+i.size→n0=k→_:=fun n0 c0 d0 hho hcr hp=>
      vM htt h ho ht ry.NU hc3 hc2 hv hc1 hkl hD hnd hap [] f1 refl (fun _=>⟨rfl,rfl⟩) rfl (fun z=>by simp [St.aK]) ogf had (fun d hd=>by cases hd) (fun _ _ _=>rfl) hgg
       (iT:=none) (fun m j hne s hs=>by
        subst hho hp
        simp only [gW]
        rw [if_neg fun e=>hne ⟨e.1.symm,by omega,by omega⟩]) (fun _ _ _ _ _=>rfl) (fun d hd=>by cases hd)
     split at hk
     ·rename_i hci
      simp only [Q0] at hk;subst hk
      have:=vM htt h ho ht ry.NU hc3 hc2 hv hc1 hkl hD hnd hap [] f1 refl (fun _=>⟨rfl,rfl⟩) rfl (fun z=>by simp [St.aK]) ogf had (fun d hd=>by cases hd) (fun _ _ _=>rfl) hgg
       (iT:=hole) (fun _ _ _ _ _=>rfl) (fun j s h1 h2 h3=>by rw [Ij hci h1 h2] at h3;cases h3) (fun d hd=>hd)
      rw [en];exact this
     ·split at hk
      ·simp only [Q0] at hk;subst hk
       have:=vM htt h ho ht ry.NU hc3 hc2 hv hc1 hkl hD hnd hap [] f1 refl (fun _=>⟨rfl,rfl⟩) rfl (fun z=>by simp [St.aK]) ogf had (fun d hd=>by cases hd) (fun _ _ _=>rfl) hgg
        (iT:=none) (fun _ _ _ _ _=>rfl) (fun _ _ _ _ _=>rfl) (fun d hd=>hd)
       rw [en];exact this
      ·rename_i n0 c0 d0
       split at hk
       ·rename_i a i1 _ _ l hh
        split at hk
        ·rename_i hcc
         simp only [Q0] at hk;subst hk
         obtain ⟨e1,e2,e3⟩:=Il hog hh
         subst e1 e2
         have hhn:(st.o g).hn=[d0]:=by rw [ajR hog];rfl
         have:=home a i1 l hh (fun d hd=>by
          rw [hhn,Qt] at hd;subst hd
          exact ⟨fun hm=>by have:=hcc.1;simp only [Wl,decide_eq_false_iff_not] at this;exact this hm,fun hm=>by have:=hcc.2;simp [hm] at this⟩)
         rw [hhn] at this
         rw [en];exact this
        ·split at hk
         ·rename_i hcr
          simp only [Q0] at hk;subst hk
          have hp:n0=(P.int .i64 (k:Int)).nat:=hp
          rw [en] at hp
          rw [en];exact over n0 c0 d0 rfl hcr hp
         ·cases hk
       ·split at hk
        ·rename_i hcr
         simp only [Q0] at hk;subst hk
         have hp:n0=(P.int .i64 (k:Int)).nat:=hp
         rw [en] at hp
         rw [en];exact over n0 c0 d0 rfl hcr hp
        ·cases hk
    ·cases hk
   ·cases hk
  ·cases hk
 ·cases hk
theorem Rel.aaw (h:Rel E st gh val w) {d:Nat} (hd:st.used d=false) (a i:Bool) (sz:Nat) (au:List (Nat×Nat)) (l:List (List P)) (c:Array Value) (t:TypeId) (cap:Nat) (hcap:l.length≤cap∧cap≤9223372036854775807) (hc:cap*sz≤c.size) (hrow :∀x∈l,x.length=sz)
  (es:List (Nat×Nat)) (hnd:(es.map (·.2)).Nodup) (hes :∀p∈es,∃a1 i1 s l',st.o p.2=.arr false a1 i1 s l'∧(i1=true→i=true))
  (hcell :∀(n:Nat) x,l[n]?=some x→∀(j:Nat) y,x[j]?=some y→∃v,c[n*sz+j]?=some v∧match au.lookup j with
   |none=>cu w (E.ok st gh w a i) y v
   |some s=>PartOf st gh a i es s (n*sz+j) y v) :
  ∃bP,Rel E (st.aK ((d,.aP a i sz au l none)::kills (es.map (·.2))) [d]) bP val { w with heap:=w.heap.push (.cells c t) }∧Lets E st (st.aK ((d,.aP a i sz au l none)::kills (es.map (·.2))) [d]) gh bP w { w with heap:=w.heap.push (.cells c t) }∧
   (bP d).ad=some ⟨w.heap.size,0,none⟩ ∧(bP d).cap=cap:=by
 have heo :∀p∈es,(st.o p.2).bU=true:=fun p hp=>by obtain ⟨_,_,_,_,e,_⟩:=hes p hp;rw [e];rfl
 have hde:d∉es.map (·.2):=fun hm=>by
  obtain ⟨p,hp,e⟩:=QQ.1 hm
  have:=h.ul p.2 (O.qE (heo p hp))
  rw [e,hd] at this;cases this
 let G:Gh:=⟨some ⟨w.heap.size,0,none⟩,cap,fun b=>(whose gh es b).map fun p=>(p.1/sz,p.1 % sz)⟩
 have hwb :∀b,(G.sub b).isSome=true→∃p∈es,∃ad,(gh p.2).ad=some ad∧ad.block=b:=fun b hb=>by
  cases hx:whose gh es b with
  |none=>simp [G,hx] at hb
  |some p=>exact ⟨p,vK hx⟩
 have hm:=h.gather (fun g=>g∈es.map (·.2)) hd a i sz au l G (st.aK ((d,.aP a i sz au l none)::kills (es.map (·.2))) [d]) { w with heap:=w.heap.push (.cells c t) } rfl (by simp [St.aK,lookup_cons])
  (fun g hg e=>by simp only [St.aK,lookup_cons,if_neg e,g_,if_pos hg]) (fun g hg e=>by simp only [St.aK,lookup_cons,if_neg e,g_,if_neg hg]) (fun g hg=>by simp [St.aK,hg]) (by simp [St.aK])
  (ad:=⟨w.heap.size,0,none⟩) (c:=c) (ty:=t) rfl rfl (by simp) (by simpa [G] using hc) hcap hrow (by
   cases hx:G.sub w.heap.size with
   |none=>rfl
   |some p=>
    obtain ⟨p,hp,ad,q1,q2⟩:=hwb w.heap.size (by rw [hx];rfl)
    have:=(h.wr p.2 w.heap.size (heo p hp) (.inl ⟨ad,q1,q2⟩)).2
    omega) (fun b hb=>by
   obtain ⟨p,hp,ad,q1,q2⟩:=hwb b hb
   refine ⟨⟨p.2,QQ.2 ⟨p,hp,rfl⟩,heo p hp,.inl ⟨ad,q1,q2⟩⟩,?_⟩
   obtain ⟨_,_,_,_,e,_⟩:=hes p hp
   have hA:=h.bf p.2
   rw [e] at hA
   rcases hA with ⟨q3,_⟩ | ⟨BP,c2,e2,q3,_,q4,_⟩
   ·rw [q1] at q3;cases q3
   ·rw [q1] at q3;cases q3;rw [←q2];exact ⟨_,_,_,q4⟩)
  (.inr ⟨YY _,by simp⟩) (fun b hb _=>vF w _ b hb) (by simp) rfl rfl rfl (fun g i1 hg e1 hi=>by
   obtain ⟨p,hp,rfl⟩:=QQ.1 hg
   obtain ⟨_,i2,_,_,e,hi2⟩:=hes p hp
   rw [e] at e1;cases e1;exact hi2 hi) (fun g hg _=>by
   obtain ⟨p,hp,rfl⟩:=QQ.1 hg
   obtain ⟨_,i2,_,_,e,hi2⟩:=hes p hp
   exact ⟨i2,by rw [e];rfl⟩) (fun n x hx j y hy=>by
   obtain ⟨v,hv,hr⟩:=hcell n x hx j y hy
   refine ⟨v,by simpa using hv,?_⟩
   cases hcj:au.lookup j with
   |none=>rw [hcj] at hr;exact hr
   |some s=>
    rw [hcj] at hr
    have hjs:j<sz:=by have:=(Q3.1 hy).1;have:=hrow x (Xs hx);omega
    refine PartOf.ajP h hr fun p hp e ad had => ?_
    have:=LG h hnd heo hp had
    simp only [G,this,ZZ,e]
    have e1:(n*sz+j)/sz=n:=by rw [Ki,Nat.mul_add_div (by omega),Nat.div_eq_of_lt hjs,WK]
    have e2:(n*sz+j) % sz=j:=by rw [Ki,qd,K9 hjs]
    rw [e1,e2])
 exact ⟨_,hm.1,hm.2,by simp [fB,G],by simp [fB,G]⟩
theorem DV {dc:List (Nat×Nat)} (htt:ig Pg tt) (t:TypeId) (n c:Operand):qI Pg tt dc (.makeSlice t n c):=by
 intro E st gh val w ρ F o d r ho h hF hFn hk hp hd
 simp only [dU] at hk
 split at hk
 ·rename_i e _ _ _ _ _ n' _ _ c' zQ DW ht hn hc
  split at hk
  ·rename_i ie he
   split at hk
   ·rename_i ps hps
    split at hk
    ·rename_i hpos
     simp only [Q0] at hk;subst hk
     obtain ⟨m,k,rfl,rfl,hmk,hby,hkm⟩:=hp
     have hu:=(htt _ _ ht).kind
     simp only [nY] at hu
     have rn:=hF n;rw [hn] at rn
     have rc:=hF c;rw [hc] at rc
     obtain ⟨x,z,g1,g2,g3,g4,g5,g6⟩:=(htt _ _ he).info
     obtain ⟨hone,hl,hr⟩:=qF (E:=E) (st:=st) (gh:=gh) (w:=w) (htt _ _ he)
     have hzl:=(htt _ _ he).len
     obtain ⟨q0,q1,_,q2⟩:=Cb h hl hr hps
     have EX:st.used d=false:=hd d (by simp)
     have hpl:ps.length=ie.size:=by rw [q0,hl,hzl]
     have e1:(P.int .i64 (m:Int)).nat=m:=by simp [P.nat,P.num]
     obtain ⟨bP,m1,m2,m3,m4⟩:=h.aaw EX false false ie.size (zQ::DW) (List.replicate m ps) (fK ie.zero k).toArray e k ⟨by simpa using hmk,by omega⟩ (by simp [dK,hzl]) (fun x hx=>by
       rw [List.mem_replicate] at hx;rw [hx.2,hpl]) [] List.nodup_nil (fun p hp=>by cases hp) (fun q x hx j y hy=>by
       rw [qD] at hx
       split at hx
       ·rename_i hq
        simp only [Q0] at hx;subst hx
        have hj:j<ie.size:=by have:=(Q3.1 hy).1;omega
        have hlt:q*ie.size+j<k*ie.zero.length:=by
         rw [hzl]
         have:(q+1)*ie.size≤k*ie.size:=XN _ (by omega)
         rw [W4] at this;omega
        have hz':ie.zero[j]?=some ie.zero[j]:=Q2 (by omega)
        refine ⟨ie.zero[j],?_,?_⟩
        ·simp only [J0]
         have hmod:(q*ie.size+j) % ie.zero.length=j:=by rw [hzl,Ki,qd,K9 hj]
         rw [iw _ _ _ hlt,hmod]
         exact hz'
        ·have:=q2 j y _ hy hz'
         rw [We] at this
         cases hcj:(zQ::DW).lookup j with
         |none=>rw [hcj] at this;exact this st (by simp) h ⟨fun a i b hb=>⟨hb,rfl⟩,fun g _=>.inr ⟨⟨rfl,rfl⟩,O.fA _⟩⟩
         |some s=>
          rw [hcj] at this
          obtain ⟨l',z1,z2⟩:=this
          rcases z2 with z2 | ⟨_,_,_,z3,_⟩
          ·exact ⟨l',z1,.inl z2⟩
          ·cases z3
       ·cases hx)
     refine ⟨.slice (some ⟨w.heap.size,0,none⟩) m k,_,bP,.inl ?_,by simpa [e1,P.list,kills] using m1,by simpa [e1,P.list,kills] using m2,dG.H7 (.own d _ rfl fun sz' len' ho' => ?_),fun g hg => ?_⟩
     ·unfold execOp;rw [ho]
      refine gI ?_
      have hrun:=run_make (P:=Pg) w t e x z hu g1 g4 .i64 .i64 (m:Int) (k:Int) (by omega) (by omega) (by rw [g3];omega) (by omega)
      rw [rn.fC.eG,rc.fC.eG,hrun]
      have:=nD g5 k (by rw [hzl];exact hpos)
      rw [hzl] at this
      simp only [QP,g2,madeCells,this]
     ·rw [e1] at ho'
      have Ul:(some (ie.size,m):Option (Nat×Nat))=some (sz',len'):=by
       rw [←ho'];simp [St.aK,List.lookup,O.dim,P.list]
      cases Ul
      rw [m3,m4]
     ·have hg:g∈(S.v (.one (.own d))).names:=hg
      rw [dL] at hg
      simp only [W.names,Qt] at hg
      subst hg;simp [St.aK]
    ·cases hk
   ·cases hk
  ·cases hk
 ·cases hk
theorem Cc {dc:List (Nat×Nat)} (htt:ig Pg tt) (t:TypeId) (n:Nat) (parts:Array (Nat×Operand)):qI Pg tt dc (.buildSlice t n parts):=by
 intro E st gh val w ρ F o d r ho h hF hFn hk hp hd
 simp only [dU] at hk
 split at hk
 ·rename_i e _ _ _ zQ DW ht
  split at hk
  ·rename_i ie he
   split at hk
   ·rename_i ws LD
    split at hk
    ·rename_i ps a i gs es hps
     split at hk
     ·rename_i hcc
      obtain ⟨hcap0,hnd,hap⟩:=hcc
      have hnd:=rX hnd
      have hap:=EZ hap
      have hcap:n*ie.size≤16777216:=by omega
      simp only [Q0] at hk;subst hk
      have hu:=(htt _ _ ht).kind
      simp only [nY] at hu
      obtain ⟨z,hz,hzc,_⟩:=kL (Pg:=Pg) (w:=w) (htt _ _ he)
      obtain ⟨hone,hl,hr⟩:=qF (E:=E) (st:=st) (gh:=gh) (w:=w) (htt _ _ he)
      have hzl:=(htt _ _ he).len
      have hparts:(parts.map fun (p:Nat×Operand)=>(p.1,ρ p.2)).toList=parts.toList.map fun p=>(p.1,ρ p.2):=by simp
      obtain ⟨cs',h1,h2,h3,h4,h5⟩:=BU (E:=E) (st:=st) (gh:=gh) (w:=w) (place':=fun i=>some (i*ie.size,ie.size)) (fun m p hpm=>by split at hpm;exact hpm;cases hpm) _ (parts.toList.map fun p=>(p.1,ρ p.2)) _ _
       (fK ie.zero n) (by simp) (fun j x v hx hv=>DL hF _ j x v hx hv) (by rw [dK,dK,hl]) (fun c hc=>by
        obtain ⟨j,hj⟩:=V0.1 hc
        have hlt:j<n*ie.zero.length:=by have:=(Q3.1 hj).1;rwa [dK] at this
        rw [iw _ _ _ hlt] at hj
        exact hone c (Xs hj)) (fun j x u hx hu=>by
        have hlt:j<n*ie.zero.length:=by have:=(Q3.1 hu).1;rwa [dK] at this
        rw [iw _ _ _ hlt] at hu
        rw [iw _ _ _ (by rw [hl];exact hlt),hl] at hx
        exact hr _ _ _ hx hu) LD
      obtain ⟨q0,q1,qe,q2⟩:=Cb h h2 h4 hps
      obtain ⟨f1,f2⟩:=Rel.freezes gs h q1
      have EX:st.used d=false:=hd d (by simp)
      have hws:ws.length=n*ie.size:=by rw [h5,dK,hl,hzl]
      have ahz:ps.length=n*ie.size:=by rw [q0,hws]
      have hfe :∀p∈es,(st.aK (gs.map (Fw.aV st.o)) []).o p.2=st.o p.2:=fun p hp=>by rw [fU,if_neg (hap _ (QQ.2 ⟨p,hp,rfl⟩))]
      obtain ⟨bP,m1,m2,m3,m4⟩:=f1.aaw (d:=d) (by simpa [St.aK] using EX) a i ie.size (zQ::DW) (chunks ie.size n ps) cs'.toArray e n ⟨by rw [gZ];exact YY _,by omega⟩ (by simp;omega) (fun x hx=>by
        obtain ⟨m,hm⟩:=V0.1 hx
        have hlt:m<n:=by have:=(Q3.1 hm).1;rwa [gZ] at this
        rw [qG _ _ _ _ hlt] at hm
        simp only [Q0] at hm;subst hm
        simp [ahz]
        have:(m+1)*ie.size≤n*ie.size:=XN _ hlt
        rw [W4] at this;omega) es hnd (fun p hp=>by
        obtain ⟨a2,i2,s2,l2,z1,z2⟩:=qe p hp
        exact ⟨a2,i2,s2,l2,by rw [hfe p hp];exact z1,z2⟩) (fun m x hx j y hy=>by
        have hlt:m<n:=by have:=(Q3.1 hx).1;rwa [gZ] at this
        rw [qG _ _ _ _ hlt] at hx
        simp only [Q0] at hx;subst hx
        rw [Z6] at hy
        split at hy
        ·rename_i hj
         rw [W5] at hy
         have hlt2:m*ie.size+j<cs'.length:=by
          have:=(Q3.1 hy).1;omega
         refine ⟨cs'[m*ie.size+j],by simp,?_⟩
         have:=q2 _ y _ hy (Q2 hlt2)
         have em:(0+(m*ie.size+j)) % ie.size=j:=by rw [We,Ki,qd,K9 hj]
         rw [em,We] at this
         cases hcj:(zQ::DW).lookup j with
         |none=>rw [hcj] at this;exact this _ (fun g hg=>by rw [fU,if_pos hg]) f1 f2
         |some s=>
          rw [hcj] at this
          obtain ⟨l',z1,z2⟩:=this
          refine ⟨l',z1,z2.imp id ?_⟩
          rintro ⟨e,a2,i2,y1,y2,y3,y4,y5⟩
          exact ⟨e,a2,i2,y1,by rw [hfe _ y1];exact y2,y3,y4,y5⟩
        ·cases hy)
      have hst:(st.aK (gs.map (Fw.aV st.o)) []).aK ((d,.aP a i ie.size (zQ::DW) (chunks ie.size n ps) none)::kills (es.map (·.2))) [d]=st.aK ((d,.aP a i ie.size (zQ::DW) (chunks ie.size n ps) none)::kills (es.map (·.2))++gs.map (Fw.aV st.o)) [d]:=by
       refine St.DU rfl (fun z => ?_) (fun z=>by simp [St.aK])
       simp only [St.aK,JS,lookup_cons,Ar,g_]
       by_cases z1:z=d
       ·simp only [if_pos z1]
       ·simp only [if_neg z1]
        by_cases z2:z∈es.map (·.2)
        ·simp only [if_pos z2,Option.some_or]
        ·simp only [if_neg z2,Option.none_or]
      rw [hst] at m1 m2
      refine ⟨.slice (some ⟨w.heap.size,0,none⟩) n n,_,bP,.inl ?_,m1,Lets.trans f2 m2 (fun g hg=>by simpa [St.aK] using hg),dG.H7 (.own d _ rfl fun sz' len' ho' => ?_),fun g hg => ?_⟩
      ·unfold execOp;rw [ho]
       refine gI ?_
       have hle:¬ n*ie.size>2 ^ 24:=by omega
       have fin :∀Z:Array Value,(Array.range (n*ie.size)).map (fun i=>Z[i % Z.size]!)=(fK ie.zero n).toArray→
         Instr.fill (fun i=>some (i*ie.size,ie.size)) ((Array.range (n*ie.size)).map fun i=>Z[i % Z.size]!) (parts.map fun (p:Nat×Operand)=>(p.1,ρ p.2)).toList=some cs'.toArray:=by
        intro Z hZ;rw [hZ,hparts,h1]
       by_cases h0:n*ie.size=0
       ·have e0:fK ie.zero n=[]:=WD (by rw [dK,hzl,h0])
        have e1:=fin #[] (by rw [h0,e0];simp)
        simp only [Instr.buildSlice,Sem.run_bind,dZ hu,Result.andThen_ok,dV (htt _ _ he),if_neg hle,if_pos h0,Sem.run_pure]
        simp only [e1]
        simp [newRow]
       ·have hpos:0<ie.zero.length:=by rw [hzl];rcases qq ie.size with h | h;(rw [h] at h0;simp at h0);exact h
        have e1:=fin z.cells (by have:=nD hzc n hpos;rw [hzl] at this;exact this)
        simp only [Instr.buildSlice,Sem.run_bind,dZ hu,Result.andThen_ok,dV (htt _ _ he),if_neg hle,if_neg h0,hz,Sem.run_pure]
        simp only [e1]
        simp [newRow]
      ·have Ul:(some (ie.size,n):Option (Nat×Nat))=some (sz',len'):=by
        rw [←ho'];simp [St.aK,List.lookup,O.dim,P.list,gZ]
       cases Ul
       rw [m3,m4]
      ·have hg:g∈(S.v (.one (.own d))).names:=hg
       rw [dL] at hg
       simp only [W.names,Qt] at hg
       subst hg;simp [St.aK]
     ·cases hk
    ·cases hk
   ·cases hk
  ·cases hk
 ·cases hk
def y9 (gh:Nat→Gh):Option Nat→Nat→Option (Nat×Nat)
 |some g,b=>(gh g).sub b
 |none,_=>none
theorem Qz (h:Rel E st gh val w) {d g2:Nat} (hd:st.used d=false) {a i a2 i2:Bool} {sz:Nat} {au:List (Nat×Nat)} {old new:List (List P)} {base:Option Nat} {bad:Option Addr} {vN m:Nat}
  (hb:(base=none∧bad=none∧vN=0∧m=0∧old=[])∨∃g l,base=some g∧st.o g=.aP a i sz au l none∧bad=(gh g).ad∧(m≤vN∧vN≤(gh g).cap)∧m≤l.length∧old=l.take m∧g≠g2)
  (ho2:st.o g2=.aP a2 i2 sz au new none)
  {ts:Array TypeId} {ty sT xT e e':TypeId} {ie:TI} (h0:ts[0]?=some sT) (h1:ts[1]?=some xT) (hs:Pg.underlying sT=some (.slice e)) (hxt:Pg.underlying xT=some (.slice e')) (he:pJ Pg e ie) (hsz:sz=ie.size)
  (hbb:(m+new.length)*ie.bytes≤140737488355328) (hb0:ie.bytes≠0) :
  ∃v w' bP,(Builtin.append_ ts ty #[.slice bad m vN,.slice (gh g2).ad new.length (gh g2).cap]).run Pg w=.ok v w'∧Rel E (st.aK ((d,.aP (a||a2) (i||i2) sz au (old++new) none)::kills (base.toList++[g2])) [d]) bP val w'∧
   Lets E st (st.aK ((d,.aP (a||a2) (i||i2) sz au (old++new) none)::kills (base.toList++[g2])) [d]) gh bP w w'∧v=.slice (bP d).ad (old++new).length (bP d).cap:=by
 subst hsz
 have ca:a=true→(a||a2)=true:=by simp;exact fun h=>.inl h
 have ci:i=true→(i||i2)=true:=by simp;exact fun h=>.inl h
 have ca2:a2=true→(a||a2)=true:=by simp;exact fun h=>.inr h
 have ci2:i2=true→(i||i2)=true:=by simp;exact fun h=>.inr h
 have hnd :∀g,st.o g≠.none→g≠d:=fun g hg e=>by rw [←e,h.ul g hg] at hd;cases hd
 have ane:g2≠d:=hnd g2 (by rw [ho2];simp)
 have ad_:(st.o g2).bU=true:=by rw [ho2];rfl
 have hol:old.length=m:=by
  rcases hb with ⟨_,_,_,rfl,rfl⟩ | ⟨g,l,_,_,_,_,hm,rfl,_⟩
  ·rfl
  ·simp;omega
 have hlen:(old++new).length=m+new.length:=by rw [Z0,hol]
 have hbS :∀g,g∈base.toList++[g2]→g≠d∧(st.o g).bU=true∧∃a0 i0 l0,st.o g=.aP a0 i0 ie.size au l0 none∧(i0=true→(i||i2)=true):=by
  intro g hg
  rcases X1.1 hg with hg | hg
  ·rcases hb with ⟨rfl,_⟩ | ⟨g',l,rfl,hog,_⟩
   ·simp at hg
   ·simp at hg;subst hg
    exact ⟨hnd g (by rw [hog];simp),by rw [hog];rfl,a,i,l,hog,ci⟩
  ·rw [Qt] at hg;subst hg
   exact ⟨ane,ad_,a2,i2,new,ho2,ci2⟩
 let sub:Nat→Option (Nat×Nat):=fun b=>match (gh g2).sub b with
  |some (n,j)=>some (n+m,j)
  |none=>y9 gh base b
 have ajS :∀b,(y9 gh base b).isSome=true→(gh g2).has b→False:=fun b h1 h2=>by
  rcases hb with ⟨rfl,_⟩ | ⟨g,l,rfl,hog,_,_,_,_,hne⟩
  ·cases h1
  ·exact hne (h.inj g g2 b (by rw [hog];rfl) ad_ (.inr h1) h2)
 have hsub :∀b,(sub b).isSome=true→(∃g,g∈base.toList++[g2]∧(st.o g).bU=true∧((gh g).sub b).isSome=true):=fun b hbs=>by
  cases hx:(gh g2).sub b with
  |some p=>exact ⟨g2,by simp,ad_,by rw [hx];rfl⟩
  |none=>
   simp only [sub,hx] at hbs
   rcases hb with ⟨rfl,_⟩ | ⟨g,l,rfl,hog,_⟩
   ·cases hbs
   ·exact ⟨g,by simp,by rw [hog];rfl,hbs⟩
 have aax :∀g,g∈base.toList++[g2]→∀b,((gh g).sub b).isSome=true→∃c e f,w.heap[b]?=some (.cells c e f):=fun g hg b hbs=>by
  obtain ⟨_,_,a0,i0,l0,hog,_⟩:=hbS g hg
  have hD:=h.bf g
  rw [hog] at hD
  rcases hD with ⟨_,_,_,q⟩ | ⟨_,_,_,_,_,_,_,_,_,⟨_,q⟩,_⟩
  ·rw [q b] at hbs;cases hbs
  ·exact q b hbs
 have ajT :∀(G:Gh),G.sub=sub→∀n j y u,iE E st gh w a2 i2 (gh g2) au none n j y u→match au.lookup j with
   |none=>cu w (E.ok st gh w (a||a2) (i||i2)) y u
   |some s=>zK E st gh w (a||a2) (i||i2) G s (n+m) j y u:=by
  intro G hG n j y u hr
  unfold iE at hr
  cases hc:au.lookup j with
  |none=>rw [hc] at hr;exact hr.cls ca2 ci2
  |some s=>
   rw [hc] at hr
   simp only [gW] at hr
   obtain ⟨l',ao,k,q1,q2,q3,q4⟩:=hr.cls ca2 ci2
   exact ⟨l',ao,k,q1,q2,q3,fun ad had=>by rw [hG];simp only [sub,q4 ad had]⟩
 have ajU :∀(G:Gh),G.sub=sub→∀g,base=some g→∀n j y u,iE E st gh w a i (gh g) au none n j y u→match au.lookup j with
   |none=>cu w (E.ok st gh w (a||a2) (i||i2)) y u
   |some s=>zK E st gh w (a||a2) (i||i2) G s n j y u:=by
  intro G hG g hgb n j y u hr
  unfold iE at hr
  cases hc:au.lookup j with
  |none=>rw [hc] at hr;exact hr.cls ca ci
  |some s=>
   rw [hc] at hr
   simp only [gW] at hr
   obtain ⟨l',ao,k,q1,q2,q3,q4⟩:=hr.cls ca ci
   refine ⟨l',ao,k,q1,q2,q3,fun ad had => ?_⟩
   have hq:=q4 ad had
   have hb1:(y9 gh base ad.block).isSome=true:=by rw [hgb];simp only [y9,hq];rfl
   rw [hG]
   cases hx:(gh g2).sub ad.block with
   |some p=>exact (ajS ad.block hb1 (.inr (by rw [hx];rfl))).elim
   |none=>simp only [sub,hx,hgb,y9];exact hq
 have hD2:mF E st gh w a2 i2 ie.size au new none (gh g2):=by have:=h.bf g2;rw [ho2] at this;exact this
 have ajV :∀X:O,∀g,g∈base.toList++[g2]→g≠d→(st.aK ((d,X)::kills (base.toList++[g2])) [d]).o g=.none:=fun X g hg e=>by simp only [St.aK,lookup_cons,if_neg e,g_,if_pos hg]
 have ajW :∀X:O,∀g,¬ g∈base.toList++[g2]→g≠d→(st.aK ((d,X)::kills (base.toList++[g2])) [d]).o g=st.o g:=fun X g hg e=>by simp only [St.aK,lookup_cons,if_neg e,g_,if_neg hg]
 by_cases rV:m+new.length≤vN
 ·obtain ⟨c2,hc2,hl2,ajX,hr2,hcell2⟩:=Am (Pg:=Pg) hD2 new.length (YY _)
  rcases hb with ⟨rfl,rfl,rfl,rfl,rfl⟩ | ⟨g,l,rfl,hog,rfl,hbc,hm,rfl,ajY⟩
  ·have hn0:new=[]:=WD (by omega)
   subst hn0
   have hk:=h.kill g2
   have hmk:=Rel.NP hk.1 d (by simpa [St.aK] using hd) (.aP (a||a2) (i||i2) ie.size au [] none) (.inl ⟨rfl,rfl,rfl,fun _=>rfl⟩) (fun g hg=>by simp [O.names,dI] at hg)
   have hst:(st.aK [(g2,.none)] []).aK [(d,.aP (a||a2) (i||i2) ie.size au [] none)] [d]=st.aK ((d,.aP (a||a2) (i||i2) ie.size au ([]++[]) none)::kills ((none:Option Nat).toList++[g2])) [d]:=by
    refine St.DU rfl (fun z => ?_) (fun z=>by simp [St.aK])
    simp only [St.aK,lookup_cons,g_,Option.toList,K4,Qt,List.lookup_nil]
    by_cases z1:z=d
    ·simp only [if_pos z1]
    ·simp only [if_neg z1]
   rw [hst] at hmk
   refine ⟨.slice none (0+0) 0,w,_,j_ h0 h1 hs hxt he hc2 (by simp) (fun a ha=>by cases ha) (fun _=>rfl),hmk.1,Lets.trans hk.2 hmk.2 (fun g hg=>by simpa [St.aK] using hg),by simp [fB,Gh.nil]⟩
  ·have hD:mF E st gh w a i ie.size au l none (gh g):=by have:=h.bf g;rw [hog] at this;exact this
   have hgo:(st.o g).bU=true:=by rw [hog];rfl
   rcases hD with ⟨z1,z2,z3,z4⟩ | ⟨ad,c,e0,z1,z2,z3,z4,z5,z6,⟨z7,z7'⟩,z8⟩
   ·subst z3
    have hm0:m=0:=by simpa using hm
    subst hm0
    have hn0:new=[]:=WD (by omega)
    subst hn0
    have hk:=h.kill g
    have hk2:=hk.1.kill g2
    have hmk:=Rel.NP hk2.1 d (by simpa [St.aK] using hd) (.aP (a||a2) (i||i2) ie.size au [] none) (.inl ⟨rfl,rfl,rfl,fun _=>rfl⟩) (fun g hg=>by simp [O.names,dI] at hg)
    have hst:((st.aK [(g,.none)] []).aK [(g2,.none)] []).aK [(d,.aP (a||a2) (i||i2) ie.size au [] none)] [d]=st.aK ((d,.aP (a||a2) (i||i2) ie.size au (([]:List (List P)).take 0++[]) none)::kills ((some g:Option Nat).toList++[g2])) [d]:=by
     refine St.DU rfl (fun z => ?_) (fun z=>by simp [St.aK])
     simp only [St.aK,lookup_cons,g_,Option.toList,JS,K4,QR,List.not_mem_nil,or_false,List.lookup_nil]
     by_cases z1:z=d
     ·simp only [if_pos z1];rfl
     ·simp only [if_neg z1]
      by_cases z2:z=g2
      ·simp [z2]
      ·simp only [if_neg z2]
       by_cases z3:z=g
       ·simp [z3]
       ·simp [z2,z3]
    rw [hst] at hmk
    have ahC:vN=0:=by omega
    subst ahC
    refine ⟨.slice none (0+0) 0,w,_,by rw [z1];exact j_ h0 h1 hs hxt he hc2 (by simp) (fun a ha=>by cases ha) (fun _=>rfl),hmk.1,Lets.trans (Lets.trans hk.2 hk2.2 (fun g hg=>by simpa [St.aK] using hg)) hmk.2 (fun g hg=>by simpa [St.aK] using hg),by simp [fB,Gh.nil]⟩
   ·have am9:m*ie.size+new.length*ie.size≤(gh g).cap*ie.size:=by rw [←W4];exact XN _ (Vn rV hbc.2)
    have hbz:vN*ie.size≤(gh g).cap*ie.size:=XN _ hbc.2
    obtain ⟨b0,o0,sp0⟩:=ad
    simp only at z2 z3 z4 z7 z8;subst z2
    obtain ⟨w',c',s1,s2,s3,s4,s5,s6,s7,s8⟩:=jW (Pg:=Pg) b0 (o0+m*ie.size) e0 c2 0 w c z3 ajX (by omega)
    have xH:c'.size=c.size:=by
     have:=congrArg List.length s3
     rw [dM (by simp;omega)] at this;simpa using this
    let G:Gh:=⟨some ⟨b0,o0,none⟩,vN,sub⟩
    have hn2:¬ (gh g2).has b0:=fun hb=>ajY (h.inj g g2 b0 hgo ad_ (Gh.jQ z1) hb)
    have hget :∀q:Nat,c'[q]?=(aQ c.toList (o0+m*ie.size) c2)[q]?:=fun q=>by rw [←Wm,s3,WK]
    have hga:=h.gather (fun g'=>g'∈(some g:Option Nat).toList++[g2]) hd (a||a2) (i||i2) ie.size au (l.take m++new) G (st.aK ((d,.aP (a||a2) (i||i2) ie.size au (l.take m++new) none)::kills ((some g:Option Nat).toList++[g2])) [d]) w' rfl (by simp [St.aK,lookup_cons])
     (ajV _) (ajW _) (fun g hg=>by simp [St.aK,hg]) (by simp [St.aK]) (ad:=⟨b0,o0,none⟩) (c:=c') (ty:=e0) rfl rfl s2 (by rw [xH];simp only [G];omega) ⟨by rw [hlen];exact rV,by simp only [G];have:=z5.2;omega⟩ (fun x hx=>by
      rcases X1.1 hx with hx | hx
      ·exact z6 x (Wb hx)
      ·exact hr2 x hx) (by
      show sub b0=none
      cases hx:(gh g2).sub b0 with
      |some p=>exact (hn2 (.inr (by rw [hx];rfl))).elim
      |none=>simp only [sub,hx,y9];exact z7) (fun b hb=>by
      obtain ⟨g',q1,q2,q3⟩:=hsub b hb
      exact ⟨⟨g',q1,q2,.inr q3⟩,aax g' q1 b q3⟩) (.inl ⟨g,by simp,hgo,Gh.jQ z1⟩) (fun b _ hne=>s4 b hne) (by omega) s6 s7 s8
     (fun g' i1 hg' e1 hi=>by obtain ⟨_,_,a0,i0,l0,hq,hi0⟩:=hbS g' hg';rw [hq] at e1;cases e1;exact hi0 hi) (fun g' hg' _=>by obtain ⟨_,_,a0,i0,l0,hq,_⟩:=hbS g' hg';exact ⟨i0,by rw [hq];rfl⟩)
     (fun n x hx j y hy=>by
      rw [Jx] at hx
      split at hx
      ·rename_i hn
       have hnm:n<m:=by simp at hn;omega
       rw [Z6,if_pos hnm] at hx
       obtain ⟨v,hv,hvr⟩:=z8 n x hx j y hy
       have hj:j<ie.size:=by have:=(Q3.1 hy).1;have:=z6 x (Xs hx);omega
       have:(n+1)*ie.size≤m*ie.size:=XN _ hnm
       rw [W4,J2] at this
       exact ⟨v,by rw [hget,dW (by simp;omega),if_neg (by show ¬ (_∧_);simp only;omega)];simpa using hv,ajU G rfl g rfl n j y v hvr⟩
      ·rename_i hn
       have hlm:(l.take m).length=m:=by simp;omega
       rw [hlm] at hx hn
       obtain ⟨u,hu,hur⟩:=hcell2 _ x (by have:=(Q3.1 hx).1;omega) hx j y hy
       have P7:=(Q3.1 hu).1
       have hnm:n*ie.size=m*ie.size+(n-m)*ie.size:=by rw [←W4];congr 1;omega
       refine ⟨u,?_,?_⟩
       ·have e1:o0+n*ie.size+j-(o0+m*ie.size)=(n-m)*ie.size+j:=by omega
        rw [hget,dW (by simp;omega),if_pos (by simp only;omega),e1];exact hu
       ·have:=ajT G rfl (n-m) j y u hur
        have e2:n-m+m=n:=by omega
        rw [e2] at this;exact this)
    refine ⟨_,w',_,j_ h0 h1 hs hxt he hc2 rV (fun a ha => ?_) (fun hn=>by rw [z1] at hn;cases hn),hga.1,hga.2,by rw [hlen];simp [fB,G,z1]⟩
    rw [z1] at ha;cases ha
    rw [Addr.iq]
    simpa using s1
 ·have hd1:=h.drew (w.drawn+1)
  have hl1:Lets E st st gh gh w { w with drawn:=w.drawn+1 }:=Rel.DR _
  have anf:mF E st gh { w with drawn:=w.drawn+1 } a2 i2 ie.size au new none (gh g2):=by have:=hd1.bf g2;rw [ho2] at this;exact this
  obtain ⟨c2,hc2,hl2,ajX,hr2,hcell2⟩:=Am (Pg:=Pg) anf new.length (YY _)
  have hbase :∃c1:List Value,(Builtin.firstCells ie.size m (.slice bad m vN)).run Pg { w with drawn:=w.drawn+1 }=.ok c1.toArray { w with drawn:=w.drawn+1 }∧c1.length=m*ie.size∧(∀x∈old,x.length=ie.size)∧
    ∀(n:Nat) x,old[n]?=some x→∀(j:Nat) y,x[j]?=some y→∃u,c1[n*ie.size+j]?=some u∧∃g,base=some g∧iE E st gh { w with drawn:=w.drawn+1 } a i (gh g) au none n j y u:=by
   rcases hb with ⟨rfl,rfl,rfl,rfl,rfl⟩ | ⟨g,l,rfl,hog,rfl,hbc,hm,rfl,ajY⟩
   ·exact ⟨[],by simp [Builtin.firstCells],by simp,by simp,by simp⟩
   ·have hD:mF E st gh { w with drawn:=w.drawn+1 } a i ie.size au l none (gh g):=by have:=hd1.bf g;rw [hog] at this;exact this
    obtain ⟨c1,k1,k2,k3,k4,k5⟩:=Am (Pg:=Pg) hD m hm
    rw [xI _ _ _ _ _ vN] at k1
    refine ⟨c1,k1,k2,fun x hx=>k4 x (Wb hx),fun n x hx j y hy => ?_⟩
    rw [Z6] at hx
    split at hx
    ·rename_i hn
     obtain ⟨u,q1,q2⟩:=k5 n x hn hx j y hy
     exact ⟨u,q1,g,rfl,q2⟩
    ·cases hx
  obtain ⟨c1,hc1,aar,hr1,hcell1⟩:=hbase
  have hback:Lets E st st gh gh { w with drawn:=w.drawn+1 } w:=⟨fun a i b hb=>⟨hb,rfl⟩,fun g _=>.inr ⟨⟨rfl,rfl⟩,O.fA _⟩⟩
  obtain ⟨rest,newCap,k1,k2,k3⟩:=qH (ty:=ty) h0 h1 hs hxt he hc2 hc1 rV hbb hb0
  let G:Gh:=⟨some ⟨w.heap.size,0,none⟩,newCap,sub⟩
  have hga:=h.gather (fun g'=>g'∈base.toList++[g2]) hd (a||a2) (i||i2) ie.size au (old++new) G (st.aK ((d,.aP (a||a2) (i||i2) ie.size au (old++new) none)::kills (base.toList++[g2])) [d])
   { w with drawn:=w.drawn+1,heap:=w.heap.push (.cells (c1.toArray++c2.toArray++rest) e) } rfl (by simp [St.aK,lookup_cons])
   (ajV _) (ajW _) (fun g hg=>by simp [St.aK,hg]) (by simp [St.aK]) (ad:=⟨w.heap.size,0,none⟩) (c:=c1.toArray++c2.toArray++rest) (ty:=e) rfl rfl (by simp) (by
    simp only [Array.size_append,Kf,aar,hl2,k2,G]
    rw [←W4,←W4,We];exact XN _ (by omega)) ⟨by rw [hlen];exact k1.1,k1.2⟩ (fun x hx=>by
    rcases X1.1 hx with hx | hx
    ·exact hr1 x hx
    ·exact hr2 x hx) (by
    show sub w.heap.size=none
    cases hx:sub w.heap.size with
    |none=>rfl
    |some p=>
     obtain ⟨g',q1,q2,q3⟩:=hsub w.heap.size (by rw [hx];rfl)
     have:=(h.wr g' _ q2 (.inr q3)).2
     omega) (fun b hb=>by
    obtain ⟨g',q1,q2,q3⟩:=hsub b hb
    exact ⟨⟨g',q1,q2,.inr q3⟩,aax g' q1 b q3⟩) (.inr ⟨YY _,by simp⟩) (fun b hb _=>vF w _ b hb) (by simp) rfl rfl rfl
   (fun g' i1 hg' e1 hi=>by obtain ⟨_,_,a0,i0,l0,hq,hi0⟩:=hbS g' hg';rw [hq] at e1;cases e1;exact hi0 hi) (fun g' hg' _=>by obtain ⟨_,_,a0,i0,l0,hq,_⟩:=hbS g' hg';exact ⟨i0,by rw [hq];rfl⟩)
   (fun n x hx j y hy=>by
    rw [Jx] at hx
    split at hx
    ·rename_i hn
     obtain ⟨u,q1,g,q2,q3⟩:=hcell1 n x hx j y hy
     have hlt:=(Q3.1 q1).1
     refine ⟨u,?_,ajU G rfl g q2 n j y u (hback.aaj (fun _ _=>rfl) (fun g hg=>by cases hg) q3)⟩
     rw [We,JP (by simp;omega),JP (by simpa using hlt)]
     simpa using q1
    ·rename_i hn
     rw [hol] at hx hn
     obtain ⟨u,hu,hur⟩:=hcell2 _ x (by have:=(Q3.1 hx).1;omega) hx j y hy
     have P7:=(Q3.1 hu).1
     have hnm:n*ie.size=m*ie.size+(n-m)*ie.size:=by rw [←W4];congr 1;omega
     refine ⟨u,?_,?_⟩
     ·rw [We,JP (by simp;omega),Array.getElem?_append_right (by simp;omega)]
      simp only [Kf,J0]
      have e1:n*ie.size+j-c1.length=(n-m)*ie.size+j:=by omega
      rw [e1];exact hu
     ·have:=ajT G rfl (n-m) j y u (hback.aaj (fun _ _=>rfl) (fun g hg=>by cases hg) hur)
      have e2:n-m+m=n:=by omega
      rw [e2] at this;exact this)
  exact ⟨_,_,_,k3,hga.1,hga.2,by rw [hlen];simp [fB,G]⟩
theorem mP {o o':Nat→O} {g:Nat} (h:Agree o o' g):jA o g=jA o' g:=by
 obtain ⟨h1,h2⟩:=h
 unfold jA
 rw [←h1]
 cases ho:o g with
 |aP a i sz au l hole=>
  rcases hole with _ | ⟨n,c,d⟩
  ·rfl
  ·simp only
   rw [h2 d (by rw [ho];simp [O.hn,dI])]
 |_=>rfl
theorem xK (htt:ig Pg tt) (h:Rel E st gh val w) {o:Oper} {ρ:Operand→Value} {s x:Operand} {ts:Array TypeId} (ho:o.op=.call { callee:=.builtin .append,args:=#[s,x],argTypes:=ts }) {d g2:Nat} (hd:st.used d=false)
  {sT xT e e':TypeId} {ie:TI} (h0:ts[0]?=some sT) (h1:ts[1]?=some xT) (hs:Pg.underlying sT=some (.slice e)) (hxt:Pg.underlying xT=some (.slice e')) (he:pJ Pg e ie) (hb0:ie.bytes≠0)
  {a i a2 i2:Bool} {sz:Nat} {au:List (Nat×Nat)} {old new:List (List P)} {base:Option Nat} {bad:Option Addr} {vN m:Nat} (hsz:sz=ie.size)
  {st1:St} {kY:Nat→Gh} (ks:List Nat) (h1':Rel E st1 kY val w) (l1:Lets E st st1 gh kY w w) (e1 :∀x,(kY x).ad=(gh x).ad∧(kY x).cap=(gh x).cap) (s1:st1.s=st.s) (u1 :∀x,st1.used x=st.used x)
  (hb:(base=none∧bad=none∧vN=0∧m=0∧old=[]∧ks=[])∨∃g l,base=some g∧st1.o g=.aP a i sz au l none∧bad=(gh g).ad∧(m≤vN∧vN≤(gh g).cap)∧m≤l.length∧old=l.take m∧ks=g::(st.o g).hn)
  (ok1 :∀x∈ks,(∀g,base=some g→x≠g)→st1.o x=.none) (oo1 :∀x,x∉ks→st1.o x=st.o x) (hnd:(ks++g2::(st.o g2).hn).Nodup)
  (h2:jA st.o g2=some (a2,i2,sz,au,new)) (hvs:ρ s=.slice bad m vN) (hvx:ρ x=.slice (gh g2).ad new.length (gh g2).cap) (hbb:(m+new.length)*ie.bytes≤140737488355328) :
  ∃v w' bP,Does Pg (execOp ρ o) w v w'∧Rel E (st.aK ((d,.aP (a||a2) (i||i2) sz au (old++new) none)::kills (ks++g2::(st.o g2).hn)) [d]) bP val w'∧
   Lets E st (st.aK ((d,.aP (a||a2) (i||i2) sz au (old++new) none)::kills (ks++g2::(st.o g2).hn)) [d]) gh bP w w'∧
   dG E (st.aK ((d,.aP (a||a2) (i||i2) sz au (old++new) none)::kills (ks++g2::(st.o g2).hn)) [d]) bP w' (.v (.one (.own d))) v∧
   ∀g∈(S.v (.one (.own d))).names,(st.aK ((d,.aP (a||a2) (i||i2) sz au (old++new) none)::kills (ks++g2::(st.o g2).hn)) [d]).used g=true:=by
 have hdis :∀x∈ks,x∉g2::(st.o g2).hn:=fun x hx hx'=>by
  have:=(List.nodup_append.1 hnd).2.2 x hx x hx'
  exact this rfl
 have hag:Agree st.o st1.o g2:=⟨(oo1 g2 fun hm=>hdis g2 hm (by simp)).symm,fun d' hd'=>(oo1 d' fun hm=>hdis d' hm (by simp [hd'])).symm⟩
 have h2':jA st1.o g2=some (a2,i2,sz,au,new):=by rw [←mP hag];exact h2
 obtain ⟨st2,xG,r2,l2,e2,s2,u2,o2,ok2,oo2⟩:=h1'.home h2'
 rw [←hag.1] at ok2 oo2
 have hb2:(base=none∧bad=none∧vN=0∧m=0∧old=[])∨∃g l,base=some g∧st2.o g=.aP a i sz au l none∧bad=(xG g).ad∧(m≤vN∧vN≤(xG g).cap)∧m≤l.length∧old=l.take m∧g≠g2:=by
  rcases hb with ⟨q1,q2,q3,q4,q5,_⟩ | ⟨g,l,q1,q2,q3,q4,q5,q6,q7⟩
  ·exact .inl ⟨q1,q2,q3,q4,q5⟩
  ·have hgk:=hdis g (by rw [q7];simp)
   have hg2:g≠g2:=fun e=>hgk (by rw [e];simp)
   refine .inr ⟨g,l,q1,?_,by rw [(e2 g).1,(e1 g).1];exact q3,by rw [(e2 g).2,(e1 g).2];exact q4,q5,q6,hg2⟩
   rw [oo2 g hg2 fun hm=>hgk (by simp [hm])];exact q2
 obtain ⟨v,w',bP,k1,k2,k3,k4⟩:=Qz (d:=d) (ty:=o.type) r2 (by rw [u2,u1];exact hd) hb2 o2 h0 h1 hs hxt he hsz hbb hb0
 have hst:st2.aK ((d,.aP (a||a2) (i||i2) sz au (old++new) none)::kills (base.toList++[g2])) [d]=st.aK ((d,.aP (a||a2) (i||i2) sz au (old++new) none)::kills (ks++g2::(st.o g2).hn)) [d]:=by
  refine St.DU (s2.trans s1) (fun z => ?_) (fun z=>by simp [St.aK,u2,u1])
  simp only [St.aK,lookup_cons,g_]
  by_cases z1:z=d
  ·simp only [if_pos z1]
  ·simp only [if_neg z1]
   by_cases z2:z∈base.toList++[g2]
   ·have:z∈ks++g2::(st.o g2).hn:=by
     rcases X1.1 z2 with z2 | z2
     ·rcases hb with ⟨q1,_⟩ | ⟨g,l,q1,_,_,_,_,_,q7⟩
      ·rw [q1] at z2;simp at z2
      ·rw [q1] at z2;simp at z2;subst z2;rw [q7];simp
     ·simp at z2;subst z2;simp
    simp only [if_pos z2,if_pos this]
   ·by_cases z3:z∈ks++g2::(st.o g2).hn
    ·simp only [if_neg z2,if_pos z3]
     have hzg:z≠g2:=fun e=>z2 (by simp [e])
     by_cases z4:z∈(st.o g2).hn
     ·exact (ok2 z z4).1
     ·rw [oo2 z hzg z4]
      rcases X1.1 z3 with z5 | z5
      ·exact ok1 z z5 fun g hg e=>z2 (by rw [hg,e];simp)
      ·rcases QR.1 z5 with z5 | z5
       ·exact absurd z5 hzg
       ·exact absurd z5 z4
    ·simp only [if_neg z2,if_neg z3]
     simp only [X1,QR,not_or] at z3
     rw [oo2 z z3.2.1 z3.2.2,oo1 z z3.1]
 rw [hst] at k2 k3
 have hod:(st.aK ((d,.aP (a||a2) (i||i2) sz au (old++new) none)::kills (ks++g2::(st.o g2).hn)) [d]).o d=.aP (a||a2) (i||i2) sz au (old++new) none:=by simp [St.aK,lookup_cons]
 refine ⟨v,w',bP,.inl (jf ho ?_),k2,Lets.trans (Lets.trans l1 l2 (fun g hg=>by rw [u1];exact hg)) k3 (fun g hg=>by rw [u2,u1];exact hg),dG.H7 (.own d v (by rw [k4];rfl) fun sz1 len1 ho1 => ?_),fun g hg => ?_⟩
 ·rw [(e2 g2).1,(e1 g2).1,(e2 g2).2,(e1 g2).2] at k1
  simp [builtin,hvs,hvx,k1]
 ·rw [hod] at ho1
  simp only [O.dim,Q0,Q1] at ho1
  obtain ⟨_,rfl⟩:=ho1;exact k4
 ·rw [dL] at hg
  simp only [W.names,Qt] at hg
  subst hg;simp [St.aK]
theorem KP {dc:List (Nat×Nat)} (htt:ig Pg tt) (args:Array Operand) (ts:Array TypeId):qI Pg tt dc (.call { callee:=.builtin .append,args:=args,argTypes:=ts }):=by
 intro E st gh val w ρ F o d r ho h hF hFn hk hp hd
 simp only [dU] at hk
 split at hk
 ·rename_i s x sT xT tl ha hts
  obtain rfl:=vG ha
  have h0:ts[0]?=some sT:=by rw [←Wm,hts];rfl
  have h1:ts[1]?=some xT:=by rw [←Wm,hts];rfl
  split at hk
  ·rename_i e _ _ _ e' _ _ _ s' g2 hsT hxT hs hx
   have rs:=hF s;rw [hs] at rs
   have rx:=hF x;rw [hx] at rx
   have huS:=(htt _ _ hsT).kind
   have huX:=(htt _ _ hxT).kind
   simp only [nY] at huS huX
   split at hk
   ·rename_i ie ask a i old ks src a2 i2 sz au new he hbD hh2
    split at hk
    ·rename_i hc
     obtain ⟨hb0,hsz,hsrc,hnd⟩:=hc
     have hnd:=rX hnd
     simp only [Q0] at hk;subst hk
     obtain ⟨hask,hbb⟩:=hp
     have EX:st.used d=false:=hd d (by simp)
     have hvx:ρ x=.slice (gh g2).ad new.length (gh g2).cap:=by cases rx.dJ with | own _ _ _ hb=>exact hb _ _ (nZ hh2)
     have refl:Lets E st st gh gh w w:=⟨fun a i b hb=>⟨hb,rfl⟩,fun g _=>.inr ⟨⟨rfl,rfl⟩,O.fA _⟩⟩
     cases s' with
     |cO=>
      simp only [baseD,Q0,Q1] at hbD
      obtain ⟨rfl,rfl,rfl,rfl,rfl,rfl⟩:=hbD
      have hv:ρ s=.slice none 0 0:=by generalize hz:ρ s=z at rs;cases rs.dJ;rfl
      exact xK htt h ho EX h0 h1 huS huX (htt _ _ he) hb0 (base:=none) (bad:=none) (vN:=0) (m:=0) hsz [] h refl (fun _=>⟨rfl,rfl⟩) rfl (fun _=>rfl) (.inl ⟨rfl,rfl,rfl,rfl,rfl,rfl⟩) (fun x hx=>by cases hx) (fun _ _=>rfl) hnd hh2 hv hvx (by simpa using hbb)
     |own g=>
      simp only [baseD] at hbD
      split at hbD
      ·rename_i a0 i0 Aq kE l0 hh
       simp only [Q0,Q1] at hbD
       obtain ⟨rfl,rfl,rfl,rfl,rfl,rfl⟩:=hbD
       have hsc:Aq=sz∧kE=au:=by rcases hsrc with e | e;cases e;simpa using e
       obtain ⟨rfl,rfl⟩:=hsc
       obtain ⟨st1,kY,r1,l1,e1,s1,u1,o1,ok1,oo1⟩:=h.home hh
       have hv:ρ s=.slice (gh g).ad l0.length (gh g).cap:=by cases rs.dJ with | own _ _ _ hb=>exact hb _ _ (nZ hh)
       exact xK htt h ho EX h0 h1 huS huX (htt _ _ he) hb0 (base:=some g) hsz (g::(st.o g).hn) r1 l1 e1 s1 u1 (.inr ⟨g,l0,rfl,o1,rfl,⟨(vH (h.bf g) (nZ hh)).1,YY _⟩,YY _,by rw [VV],rfl⟩)
        (fun x hx hxg=>by
         rcases QR.1 hx with e | e
         ·exact absurd e (hxg g rfl)
         ·exact (ok1 x e).1)
        (fun x hx=>by simp only [QR,not_or] at hx;exact oo1 x hx.1 hx.2) hnd hh2 hv hvx hbb
      ·cases hbD
     |vw g lo hi=>
      simp only [baseD] at hbD
      split at hbD
      ·rename_i a0 i0 Aq kE l0 hh
       simp only [Q0,Q1] at hbD
       obtain ⟨rfl,rfl,rfl,rfl,rfl,rfl⟩:=hbD
       have hsc:Aq=sz∧kE=au:=by rcases hsrc with e | e;cases e;simpa using e
       obtain ⟨rfl,rfl⟩:=hsc
       obtain ⟨st1,kY,r1,l1,e1,s1,u1,o1,ok1,oo1⟩:=h.home hh
       obtain ⟨n,m,vc,h4,rfl,h5,h6,hvc,hv⟩:=(by cases rs.dJ with | vw _ _ _ _ _ hb=>exact hb _ _ (nZ hh) :∃n m c:Nat,lo=.int .i64 n∧hi=.int .i64 m∧n≤m∧m≤l0.length∧(m-n≤c∧n+c≤(gh g).cap)∧
        ρ s=.slice (if (gh g).cap=n then (gh g).ad else (gh g).ad.map (·.add (n*Aq))) (m-n) c)
       have hn0:n=0:=by rw [hask] at h4;simp [lN] at h4;omega
       subst hn0
       have hadd:(gh g).ad.map (·.add (0*Aq))=(gh g).ad:=by
        cases (gh g).ad with
        |none=>rfl
        |some a=>simp [Addr.add]
       rw [hadd] at hv
       simp only [ite_self,Nat.sub_zero] at hv
       have em:(P.int .i64 (m:Int)).nat=m:=by simp [P.nat,P.num]
       rw [em] at hbb ⊢
       have ang:(m+new.length)*ie.bytes≤140737488355328:=by rw [WP,Kn h6] at hbb;exact hbb
       exact xK htt h ho EX h0 h1 huS huX (htt _ _ he) hb0 (base:=some g) hsz (g::(st.o g).hn) r1 l1 e1 s1 u1 (.inr ⟨g,l0,rfl,o1,rfl,by omega,h6,rfl,rfl⟩)
        (fun x hx hxg=>by
         rcases QR.1 hx with e | e
         ·exact absurd e (hxg g rfl)
         ·exact (ok1 x e).1)
        (fun x hx=>by simp only [QR,not_or] at hx;exact oo1 x hx.1 hx.2) hnd hh2 hv hvx ang
      ·cases hbD
     |_=>simp [baseD] at hbD
    ·cases hk
   ·cases hk
  ·cases hk
 ·cases hk
theorem Ob {dc:List (Nat×Nat)} (htt:ig Pg tt) (t:TypeId) (x:Operand) (lo hi mx:Option Operand):qI Pg tt dc (.slice t x lo hi mx):=by
 intro E st gh val w ρ F o d r ho h hF hFn hk hp hd
 cases lo with
 |some _=>simp [dU] at hk
 |none=>
 cases mx with
 |some _=>simp [dU] at hk
 |none=>
 simp only [dU] at hk
 split at hk
 ·rename_i e _ _ _ g ht hx
  have rx:=hF x;rw [hx] at rx
  have hu:=(htt _ _ ht).kind
  simp only [nY] at hu
  split at hk
  ·rename_i ie a i sz l he hog
   split at hk
   ·rename_i hsz
    split at hk
    ·rename_i hi' hhi
     simp only [Q0] at hk;subst hk
     obtain ⟨k,hk,hkl⟩:=hp
     have hd:=hd d (by simp)
     have Qx:(st.o g).dim=some (sz,l.length):=by rw [hog];rfl
     have hv:=(by cases rx.dJ with | own _ _ _ hb=>exact hb _ _ Qx:ρ x=.slice (gh g).ad l.length (gh g).cap)
     have hob:=h.bf g
     rw [hog] at hob
     have hcap:l.length≤(gh g).cap:=NS hob
     have Ak:(hi.map ρ=none∧k=l.length)∨∃kd,hi.map ρ=some (.int kd k):=(iH hF hhi hk).imp (fun ⟨a,b⟩=>⟨a,by simp [lN] at b;omega⟩) id
     have hrun:(execOp ρ o).run Pg w=.ok (.value (.slice (gh g).ad k (gh g).cap)) w:=by
      have hs:=um (Pg:=Pg) (w:=w) (len:=l.length) (lo:=(none:Option Value)) (hi:=hi.map ρ) (m:=0) (k:=k) (cap:=(gh g).cap) (.inl ⟨rfl,rfl⟩) Ak (qS _) (by omega)
      have key:(execOp ρ o).run Pg w=.ok (.value (.slice (if (gh g).cap=0 then (gh g).ad else (gh g).ad.map (·.add (0*ie.size))) (k-0) ((gh g).cap-0))) w:=by
       unfold execOp
       rw [ho]
       refine gI ?_
       simp only [Ka]
       simp [Instr.sliceAt,dZ hu,Instr.slice,hv,hs,dV (htt _ _ he)]
      rw [key]
      congr 3
      rcases hob with ⟨q1,q2,_⟩ | ⟨ad,c,e',q1,q2,_⟩
      ·rw [q1,q2];rfl
      ·rw [q1]
       obtain ⟨b0,o0,sp0⟩:=ad
       simp only at q2;subst q2
       split
       ·rfl
       ·rw [ZZ,Addr.iq];simp
     have hgo:(st.o g).bU=true:=by rw [hog];rfl
     have hgu:st.used g=true:=h.ul g (O.qE hgo)
     have hgd:g≠d:=by intro e;subst e;rw [hd] at hgu;cases hgu
     have e0:(P.list (P.sl sz (l.take hi'.nat)))=l.take k:=by rw [hk];simp [P.list,P.nat,P.num]
     have anh :∀st',st'=st.aK [(d,.arr false a i sz (l.take k)),(g,.none)] [d]→
       ∃bP,Rel E st' bP val w∧Lets E st st' gh bP w w∧dG E st' bP w (.v (.one (.own d))) (.slice (gh g).ad k (gh g).cap):=by
      intro st' hst
      have hod:st'.o d=.arr false a i sz (l.take k):=by rw [hst];simp [St.aK,List.lookup]
      have hm:=h.merge (fun g'=>g'=g) d (.arr false a i sz (l.take k)) (gh g) st' w (by rw [hst];rfl) hod (fun g' e1 e2=>by
        rw [hst,e1]
        have:(g==d)=false:=by simpa using hgd
        simp [St.aK,List.lookup,this]) (fun g' e1 e2=>by
        rw [hst]
        have q1:(g'==d)=false:=by simpa using e2
        have q2:(g'==g)=false:=by simpa using e1
        simp [St.aK,List.lookup,q1,q2]) (fun g' hg'=>by rw [hst];simp [St.aK,hg']) (by rw [hst];simp [St.aK]) (fun hu=>by rw [hd] at hu;cases hu)
       (fun b hb=>.inl ⟨g,.inl rfl,hgo,hb⟩) (fun b _ _=>rfl) (YY _) rfl rfl rfl
       (fun i1 b e1 hb hwr=>by cases e1;exact h.wi g i b (by rw [hog];rfl) hb hwr) (fun _ _=>h.ns g hgo (by rw [hog];rfl)) (fun hl => ?_) (fun g' hg'=>by simp [O.names] at hg')
      ·refine ⟨_,hm.1,hm.2,dG.H7 (.own d _ rfl fun sz' len' hd' => ?_)⟩
       rw [hod] at hd'
       obtain ⟨rfl,rfl⟩:=O.jP hd'
       have e1:fB gh d (gh g) d=gh g:=by simp [fB]
       rw [e1,WP,Kn hkl]
      ·show iL E st' _ w a i sz (l.take k) (gh g)
       have hold:iL E st gh w a i sz l (gh g):=hob
       rcases hold with ⟨q1,q2,q3⟩ | ⟨ad,c,e',q1,q2,q3,q4,q5,q6,q7⟩
       ·exact .inl ⟨q1,q2,by rw [q3];simp⟩
       ·refine .inr ⟨ad,c,e',q1,q2,q3,q4,⟨by rw [WP];omega,q5.2⟩,fun x hx=>q6 x (Wb hx),fun n x hx j y hy => ?_⟩
        rw [Z6] at hx
        split at hx
        ·obtain ⟨v,hv,hr⟩:=q7 n x hx j y hy
         exact ⟨v,hv,hl.kC hr⟩
        ·cases hx
     show∃v w' bP,Does Pg (execOp ρ o) w v w'∧Rel E (st.aK [(d,.arr false a i sz (P.list (P.sl sz (l.take hi'.nat)))),(g,.none)] [d]) bP val w'∧_
     rw [e0]
     obtain ⟨bP,m1,m2,m3⟩:=anh _ rfl
     refine ⟨_,w,bP,.inl hrun,m1,?_,?_,fun g' hg' => ?_⟩
     ·show Lets E st (st.aK [(d,.arr false a i sz (P.list (P.sl sz (l.take hi'.nat)))),(g,.none)] [d]) gh bP w w
      rw [e0];exact m2
     ·show dG E (st.aK [(d,.arr false a i sz (P.list (P.sl sz (l.take hi'.nat)))),(g,.none)] [d]) bP w _ _
      rw [e0];exact m3
     ·have hg':g'∈(S.v (.one (.own d))).names:=hg'
      have:g'=d:=by simpa [S.names,V.names,W.names] using hg'
      subst this
      simp [St.aK]
    ·cases hk
   ·cases hk
  ·cases hk
 ·cases hk
theorem KQ {dc:List (Nat×Nat)} (htt:ig Pg tt) (op:Op):qI Pg tt dc op:=by
 cases op with
 |load t x=>exact Qy htt t x
 |store t x y=>exact Oa htt t x y
 |buildSlice t n ps=>exact Cc htt t n ps
 |makeSlice t n c=>exact DV htt t n c
 |slice t x lo hi mx=>exact Ob htt t x lo hi mx
 |call c=>
  obtain ⟨callee,args,ts⟩:=c
  cases callee with
  |builtin b=>
   cases b with
   |append=>exact KP htt args ts
   |_=>intro E st gh val w ρ F o d r ho h hF hFn hk;simp [dU] at hk
  |_=>intro E st gh val w ρ F o d r ho h hF hFn hk;simp [dU] at hk
 |_=>intro E st gh val w ρ F o d r ho h hF hFn hk;simp [dU] at hk
end
end Go.Fw

namespace Go.Fw
variable [d_]
def P.flat:P→Bool
 |.sl _ _=>false
 |.seq _=>false
 |_=>true
theorem cu.flat {w:World} {ok ok':Nat→Prop} {x:P} {v:Value} (hx:x.flat=true) (r:cu w ok x v):cu w ok' x v:=by
 cases r with
 |int k n=>exact .int k n
 |bool b=>exact .bool b
 |str s=>exact .str s
 |opq v h=>exact .opq v h
 |_=>cases hx
inductive Ww (C:Bool→Bool→Bool→Bool→Prop) (m:Nat→Option Nat) (nil:Nat→Prop):W→W→Prop where
 |no (x:W):Ww C m nil x .no
 |p {a i a' i':Bool} (x:P) (hc:C a i a' i'):Ww C m nil (.p a i x) (.p a' i' x)
 |flat {a i a' i':Bool} (x:P) (hx:x.flat=true):Ww C m nil (.p a i x) (.p a' i' x)
 |cO:Ww C m nil .cO .cO
 |ahE (a i:Bool) (sz:Nat):Ww C m nil .cO (.p a i (.sl sz []))
 |ajZ {g':Nat} (h:m g'=none) (hn:nil g'):Ww C m nil .cO (.own g')
 |own {g g':Nat} (h:m g'=some g):Ww C m nil (.own g) (.own g')
 |vw {g g':Nat} (lo hi:P) (h:m g'=some g):Ww C m nil (.vw g lo hi) (.vw g' lo hi)
 |box {g g' off:Nat} (h:m g'=some g):Ww C m nil (.box g off) (.box g' off)
 |ep {g g':Nat} (n:P) (off:Nat) (h:m g'=some g):Ww C m nil (.ep g n off) (.ep g' n off)
 |m_ {g g':Nat} (h:m g'=some g):Ww C m nil (.m_ g) (.m_ g')
 |sp {a i a' i':Bool} (row:List P) (off:Nat) (hc:C a i a' i'):Ww C m nil (.sp a i row off) (.sp a' i' row off)
 |gd (b:Bool) {x y:W} (h:Ww C m nil x y):Ww C m nil (.gd b x) (.gd b y)
 |clo (f:FuncId) (xs ys:List W) (hl:xs.length=ys.length) (h :∀(j:Nat) x y,xs[j]?=some x→ys[j]?=some y→Ww C m nil x y):Ww C m nil (.clo f xs) (.clo f ys)
inductive Vw (C:Bool→Bool→Bool→Bool→Prop) (m:Nat→Option Nat) (nil:Nat→Prop):V→V→Prop where
 |one {x y:W} (h:Ww C m nil x y):Vw C m nil (.one x) (.one y)
 |agg (xs ys:List W) (hl:xs.length=ys.length) (h :∀(j:Nat) x y,xs[j]?=some x→ys[j]?=some y→Ww C m nil x y):Vw C m nil (.agg xs) (.agg ys)
inductive Sw (C:Bool→Bool→Bool→Bool→Prop) (m:Nat→Option Nat) (nil:Nat→Prop):S→S→Prop where
 |no (x:S):Sw C m nil x .no
 |v {x y:V} (h:Vw C m nil x y):Sw C m nil (.v x) (.v y)
 |lG (xs ys:List V) (hl:xs.length=ys.length) (h :∀(j:Nat) x y,xs[j]?=some x→ys[j]?=some y→Vw C m nil x y):Sw C m nil (.lG xs) (.lG ys)
inductive Ow (C:Bool→Bool→Bool→Bool→Prop) (m:Nat→Option Nat) (nil:Nat→Prop):O→O→Prop where
 |none (x:O):Ow C m nil x .none
 |box (xs ys:List W) (hl:xs.length=ys.length) (h :∀(j:Nat) x y,xs[j]?=some x→ys[j]?=some y→Ww C m nil x y):Ow C m nil (.box xs) (.box ys)
 |arr (fz:Bool) {a i a' i':Bool} (sz:Nat) (l:List (List P)) (hc:C a i a' i'):Ow C m nil (.arr fz a i sz l) (.arr fz a' i' sz l)
 |aP {a i a' i':Bool} (sz:Nat) (au:List (Nat×Nat)) (l:List (List P)) (hc:C a i a' i'):Ow C m nil (.aP a i sz au l Option.none) (.aP a' i' sz au l Option.none)
 |it (s n:P):Ow C m nil (.it s n) (.it s n)
def O.nilA (o:O):Prop:=(∃a i sz,o=.arr false a i sz [])∨∃a i sz au,o=.aP a i sz au [] Option.none
theorem Ow.dim {C:Bool→Bool→Bool→Bool→Prop} {m:Nat→Option Nat} {nil:Nat→Prop} {x y:O} (h:Ow C m nil x y) {d:Nat×Nat} (hd:y.dim=some d):x.dim=some d:=by
 cases h with
 |none=>cases hd
 |box=>cases hd
 |arr=>exact hd
 |aP=>exact hd
 |it=>cases hd
theorem Ow.bU {C:Bool→Bool→Bool→Bool→Prop} {m:Nat→Option Nat} {nil:Nat→Prop} {x y:O} (h:Ow C m nil x y) (hy:y.bU=true):x.bU=true∧x.nV=y.nV:=by
 cases h with
 |none=>cases hy
 |box=>exact ⟨rfl,rfl⟩
 |arr=>exact ⟨hy,rfl⟩
 |aP=>exact ⟨rfl,rfl⟩
 |it=>exact ⟨rfl,rfl⟩
theorem Ow.inner {C:Bool→Bool→Bool→Bool→Prop} {m:Nat→Option Nat} {nil:Nat→Prop} {x y:O} (h:Ow C m nil x y) {i:Bool} (hy:y.inner=some i) :∃a' a i',C a' i' a i∧x.inner=some i':=by
 cases h with
 |none=>cases hy
 |box=>cases hy
 |arr fz sz l hc=>
  cases fz with
  |false=>cases hy;exact ⟨_,_,_,hc,rfl⟩
  |true=>cases hy
 |aP sz au l hc=>cases hy;exact ⟨_,_,_,hc,rfl⟩
 |it=>cases hy
structure Cast (C:Bool→Bool→Bool→Bool→Prop) (m:Nat→Option Nat) (nil:Nat→Prop) (E E':Env) (st st':St) (gh bP:Nat→Gh) (w:World):Prop where
 ok :∀a i a' i' b,C a i a' i'→E.ok st gh w a i b→E'.ok st' bP w a' i' b
 arr :∀g g',m g'=some g→∀sz len,(st'.o g').dim=some (sz,len)→((bP g').ad=(gh g).ad∧(bP g').cap=(gh g).cap)∧(st.o g).dim=some (sz,len)
 box :∀g g',m g'=some g→∀ws,st'.o g'=.box ws→(bP g').ad=(gh g).ad∧∃ws',st.o g=.box ws'
 it :∀g g',m g'=some g→∀s n,st'.o g'=.it s n→(bP g').ad=(gh g).ad∧∃s' n',st.o g=.it s' n'
 nil :∀g',nil g'→m g'=none→∀sz len,(st'.o g').dim=some (sz,len)→len=0∧(bP g').ad=none∧(bP g').cap=0
section
variable {C:Bool→Bool→Bool→Bool→Prop} {E E':Env} {st st':St} {gh bP:Nat→Gh} {w:World} {val:Nat→Value} {m:Nat→Option Nat} {nil:Nat→Prop}
theorem Cast.kC (r:Cast C m nil E E' st st' gh bP w) {a i a' i':Bool} (hc:C a i a' i') {x:P} {v:Value} (h:cu w (E.ok st gh w a i) x v):cu w (E'.ok st' bP w a' i') x v:=
 h.mono fun b hb=>⟨r.ok _ _ _ _ b hc hb,rfl⟩
theorem Cast.Af (r:Cast C m nil E E' st st' gh bP w) {x y:W} (hxy:Ww C m nil x y) {v:Value} (h:eU E st gh w x v):eU E' st' bP w y v:=by
 induction hxy generalizing v with
 |no x=>exact .no v
 |p x hc=>cases h with | p _ _ _ _ h=>exact .p _ _ _ _ (r.kC hc h)
 |flat x hx=>cases h with | p _ _ _ _ h=>exact .p _ _ _ _ (h.flat hx)
 |cO=>cases h;exact .cO
 |ahE a i sz=>cases h;exact .p _ _ _ _ (.nil _ _ _)
 |ajZ hm hn=>
  cases h
  refine .own _ _ rfl fun sz len ho => ?_
  obtain ⟨h1,h2,h3⟩:=r.nil _ hn hm _ _ ho
  rw [h1,h2,h3]
 |own hm=>
  cases h with | own _ _ hv hx=>
  refine .own _ _ hv fun sz len ho => ?_
  obtain ⟨hg,e⟩:=r.arr _ _ hm _ _ ho
  rw [hg.1,hg.2];exact hx _ _ e
 |vw lo hi hm=>
  cases h with | vw _ _ _ _ hv hx=>
  refine .vw _ _ _ _ hv fun sz len ho => ?_
  obtain ⟨hg,e⟩:=r.arr _ _ hm _ _ ho
  rw [hg.1,hg.2];exact hx _ _ e
 |box hm=>
  cases h with | box _ _ _ hv hx=>
  refine .box _ _ _ hv fun ws ho => ?_
  obtain ⟨hg,ws',e⟩:=r.box _ _ hm _ ho
  rw [hg];exact hx _ e
 |ep n off hm=>
  cases h with | ep _ _ _ _ hv hx=>
  refine .ep _ _ _ _ hv fun sz len ho => ?_
  obtain ⟨hg,e⟩:=r.arr _ _ hm _ _ ho
  rw [hg.1];exact hx _ _ e
 |m_ hm=>
  cases h with | m_ _ _ hv hx=>
  refine .m_ _ _ hv fun s n ho => ?_
  obtain ⟨hg,s',n',e⟩:=r.it _ _ hm _ _ ho
  rw [hg];exact hx _ _ e
 |sp row off hc=>
  cases h with | sp _ _ _ _ b o hb hr=>exact .sp _ _ _ _ b o (fun h0=>r.ok _ _ _ _ b hc (hb h0)) fun j y hj=>let ⟨u,hu,Qu⟩:=hr j y hj;⟨u,hu,r.kC hc Qu⟩
 |gd b hxy ih=>cases h with | gd _ _ _ h=>exact .gd _ _ _ fun hb=>ih (h hb)
 |clo f xs ys hl hxy ih=>
  cases h with | clo _ _ vs hl' h=>
  exact .clo f ys vs (by omega) fun j y v hy hv=>by
   have hlt:j<xs.length:=by have:=(Q3.1 hy).1;omega
   exact ih j _ y (Q2 hlt) hy (h j _ v (Q2 hlt) hv)
theorem Cast.Yp (r:Cast C m nil E E' st st' gh bP w) {x y:V} (hxy:Vw C m nil x y) {v:Value} (h:rH E st gh w x v):rH E' st' bP w y v:=by
 cases hxy with
 |one hxy=>cases h with | one _ _ h=>exact .one _ _ (r.Af hxy h)
 |agg xs ys hl hxy=>
  cases h with | agg _ cs hl' hv h=>
  exact .agg ys cs (by omega) hv fun j y v hy hv=>by
   have hlt:j<xs.length:=by have:=(Q3.1 hy).1;omega
   exact r.Af (hxy j _ y (Q2 hlt) hy) (h j _ v (Q2 hlt) hv)
theorem Cast.adZ (r:Cast C m nil E E' st st' gh bP w) {x y:S} (hxy:Sw C m nil x y) {v:Value} (h:dG E st gh w x v):dG E' st' bP w y v:=by
 cases hxy with
 |no x=>exact .no v
 |v hxy=>cases h with | v _ _ h=>exact .v _ _ (r.Yp hxy h)
 |lG xs ys hl hxy=>
  cases h with | lG _ vs hl' h=>
  exact .lG ys vs (by omega) fun j y v hy hv=>by
   have hlt:j<xs.length:=by have:=(Q3.1 hy).1;omega
   exact r.Yp (hxy j _ y (Q2 hlt) hy) (h j _ v (Q2 hlt) hv)
theorem Cast.BM (r:Cast C m nil E E' st st' gh bP w) {x y:O} (hxy:Ow C m nil x y) {G:Gh} (h:lM E st gh w x G):lM E' st' bP w y G:=by
 cases hxy with
 |none x=>trivial
 |box xs ys hl hxy=>
  obtain ⟨ad,c,e,h1,h2,h3,h4,h5⟩:=h
  refine ⟨ad,c,e,h1,h2,h3,by omega,fun j y hy => ?_⟩
  have hlt:j<xs.length:=by have:=(Q3.1 hy).1;omega
  obtain ⟨v,hv,ho,hr⟩:=h5 j _ (Q2 hlt)
  exact ⟨v,hv,ho,r.Af (hxy j _ y (Q2 hlt) hy) hr⟩
 |arr fz sz l hc=>
  cases fz with
  |false=>
   rcases h with hO | ⟨ad,c,e,h1,h2,h3,h4,h5,h6,h7⟩
   ·exact .inl hO
   ·exact .inr ⟨ad,c,e,h1,h2,h3,h4,h5,h6,fun n x hx j y hy=>let ⟨v,hv,hr⟩:=h7 n x hx j y hy;⟨v,hv,r.kC hc hr⟩⟩
  |true=>exact r.kC hc h
 |aP sz au l hc=>
  rcases h with hO | ⟨ad,c,e,h1,h2,h3,h4,h5,h6,h7,h8⟩
  ·exact .inl hO
  ·refine .inr ⟨ad,c,e,h1,h2,h3,h4,h5,h6,h7,fun n x hx j y hy => ?_⟩
   obtain ⟨v,hv,hr⟩:=h8 n x hx j y hy
   refine ⟨v,hv,?_⟩
   unfold iE at *
   cases hcl:au.lookup j with
   |none=>rw [hcl] at hr;exact r.kC hc hr
   |some sz'=>
    rw [hcl] at hr
    simp only [gW] at *
    obtain ⟨l',ao,k,k1,k2,k3,k4⟩:=hr
    refine ⟨l',ao,k,k1,k2,?_,k4⟩
    rcases k3 with k3 | ⟨ad,c,e,h1,h2,h3,h4,h5,h6,h7⟩
    ·exact .inl k3
    ·exact .inr ⟨ad,c,e,h1,h2,h3,h4,h5,h6,fun n x hx j y hy=>let ⟨v,hv,hr⟩:=h7 n x hx j y hy;⟨v,hv,r.kC hc hr⟩⟩
 |it s n=>exact h
end
def Z4 (a i a' i':Bool):Prop:=(a=true→a'=true)∧(i=true→i'=true)
structure tu (C:Bool→Bool→Bool→Bool→Prop) (m:Nat→Option Nat) (st st':St):Prop where
 slots :∀t,Sw C m (fun g=>(st'.o g).nilA) (st.s t) (st'.s t)
 bf :∀g' g,m g'=some g→Ow C m (fun g=>(st'.o g).nilA) (st.o g) (st'.o g')
 aX :∀g',m g'=none→st'.o g'=.none∨(st'.o g').nilA
 inj :∀g1 g2 g,(st'.o g1).bU=true→(st'.o g2).bU=true→m g1=some g→m g2=some g→g1=g2
 us :∀t,∀g∈(st'.s t).names,st'.used g=true
 uo :∀g,∀g'∈(st'.o g).names,st'.used g'=true
 ul :∀g,st'.o g≠.none→st'.used g=true
section
variable {C:Bool→Bool→Bool→Bool→Prop} {E E':Env} {st st':St} {gh:Nat→Gh} {w:World} {val:Nat→Value} {m:Nat→Option Nat}
def jr (gh:Nat→Gh) (m:Nat→Option Nat):Nat→Gh:=fun g'=>match m g' with
 |some g=>gh g
 |none=>Gh.nil
theorem tu.bU (r:tu C m st st') {g':Nat} (h:(st'.o g').bU=true) {b:Nat} (had:(jr gh m g').has b) :∃g,m g'=some g∧(st.o g).bU=true∧(gh g).has b:=by
 unfold jr at had
 cases hm:m g' with
 |none=>rw [hm] at had;exact (Gh.not_nil had).elim
 |some g=>
  rw [hm] at had
  exact ⟨g,rfl,((r.bf g' g hm).bU h).1,had⟩
theorem tu.cast (r:tu C m st st') (hok :∀a i a' i' b,C a i a' i'→E.ok st gh w a i b→E'.ok st' (jr gh m) w a' i' b) :
  Cast C m (fun g=>(st'.o g).nilA) E E' st st' gh (jr gh m) w:=by
 refine ⟨hok,fun g g' hm sz len ho=>⟨by simp [jr,hm],(r.bf g' g hm).dim ho⟩,fun g g' hm ws ho=>⟨by simp [jr,hm],?_⟩,fun g g' hm s n ho=>⟨by simp [jr,hm],?_⟩,fun g' hn hm sz len ho=>⟨?_,by simp [jr,hm,Gh.nil],by simp [jr,hm,Gh.nil]⟩⟩
 ·have:=r.bf g' g hm
  rw [ho] at this
  generalize st.o g=x at this
  cases this;exact ⟨_,rfl⟩
 ·have:=r.bf g' g hm
  rw [ho] at this
  generalize st.o g=x at this
  cases this;exact ⟨_,_,rfl⟩
 ·rcases hn with ⟨a',i',sz',hn⟩ | ⟨a',i',sz',au,hn⟩
  ·rw [hn] at ho;cases ho;rfl
  ·rw [hn] at ho;cases ho;rfl
theorem tu.ok (r:tu Z4 m st st') :∀a i a' i' b,Z4 a i a' i'→E.ok st gh w a i b→E.ok st' (jr gh m) w a' i' b:=by
 intro a i a' i' b hc h
 have:=Env.oW hc.1 hc.2 h
 refine ⟨this.1,this.2.1,fun g' ho had => ?_⟩
 obtain ⟨g,_,h1,h2⟩:=r.bU ho had
 exact h.2.2 g h1 h2
theorem tu.BM (r:tu C m st st') (c:Cast C m (fun g=>(st'.o g).nilA) E E' st st' gh (jr gh m) w) (h :∀g,lM E st gh w (st.o g) (gh g)) (g':Nat):lM E' st' (jr gh m) w (st'.o g') (jr gh m g'):=by
 cases hm:m g' with
 |none=>
  rcases r.aX g' hm with e | ⟨a,i,sz,e⟩ | ⟨a,i,sz,au,e⟩
  ·rw [e];trivial
  ·rw [e];exact .inl ⟨by simp [jr,hm,Gh.nil],by simp [jr,hm,Gh.nil],rfl⟩
  ·rw [e];exact .inl ⟨by simp [jr,hm,Gh.nil],by simp [jr,hm,Gh.nil],rfl,fun b=>by simp [jr,hm,Gh.nil]⟩
 |some g=>
  have hg:jr gh m g'=gh g:=by simp [jr,hm]
  rw [hg]
  exact c.BM (r.bf g' g hm) (h g)
theorem Rel.Ur (h:Rel E st gh val w) (r:tu Z4 m st st'):Rel E st' (jr gh m) val w:=by
 have c:=r.cast (E:=E) (E':=E) (gh:=gh) (w:=w) r.ok
 refine ⟨fun t=>c.adZ (r.slots t) (h.slots t),r.BM c h.bf,fun g1 g2 b h1 h2 k1 k2 => ?_,fun g' b ho had => ?_,fun g' i b ho had hw => ?_,fun g' ho hd b => ?_,h.wb,h.frame,h.size,h.os,h.tape,h.output,r.us,r.uo,r.ul⟩
 ·obtain ⟨q1,m1,o1,d1⟩:=r.bU h1 k1
  obtain ⟨q2,m2,o2,d2⟩:=r.bU h2 k2
  have:=h.inj q1 q2 b o1 o2 d1 d2
  subst this
  exact r.inj g1 g2 q1 h1 h2 m1 m2
 ·obtain ⟨g,_,h1,h2⟩:=r.bU ho had
  exact h.wr g b h1 h2
 ·obtain ⟨g,hm,h1,h2⟩:=r.bU (gh:=gh) (g':=g') (O.kK ho) had
  obtain ⟨a',a,i',hc,q⟩:=(r.bf g' g hm).inner ho
  exact hc.2 (h.wi g i' b q h2 hw)
 ·cases hm:m g' with
  |none=>simp [jr,hm,Gh.nil]
  |some g=>
   have hg:jr gh m g'=gh g:=by simp [jr,hm]
   rw [hg]
   obtain ⟨q1,q2⟩:=(r.bf g' g hm).bU ho
   exact h.ns g q1 (by rw [q2];exact hd) b
end
end Go.Fw

namespace Go.Fw
variable [d_]
inductive WS where
 |p (a i:Bool)
 |cO
 |own (g:Nat)
 |box (g off:Nat)
 |fn (f:FuncId) (gs:List Nat)
 |m_ (g:Nat)
 |no
 |vw (g:Nat)
 |ep (g off:Nat)
inductive SS where
 |one (x:WS)
 |agg (xs:List WS)
inductive OS where
 |box (ws:List WS)
 |arr (fz a i:Bool) (sz:Nat)
 |it
 |aP (a i:Bool) (sz:Nat) (au:List (Nat×Nat))
structure Shape where
 slots:List (Nat×SS)
 bf:List (Nat×OS)
abbrev Ren:=List (Nat×Option Nat)
def imp (a b:Bool):Bool:=!a||b
def nodupB:List Nat→Bool
 | []=>true
 |x::xs=>!xs.contains x&&nodupB xs
def tC (m:Ren):List Nat→List W→Bool
 | [],[]=>true
 |g'::gs,.box g off::cs=>decide (m.lookup g'=some (some g))&&(Nat.beq off 0&&tC m gs cs)
 |_,_=>false
def f_:List Nat→List W
 | []=>[]
 |g::gs=>.box g 0::f_ gs
def KG (m:Ren):WS→W→Option (List P)
 |.p a i,.p a' i' x=>if ((imp a' a&&imp i' i)||x.flat)=true then some [x] else none
 |.p _ _,.cO=>some [.sl 0 []]
 |.cO,.cO=>some []
 |.own g',.own g=>if m.lookup g'=some (some g) then some [] else none
 |.own g',.cO=>if m.lookup g'=some none then some [] else none
 |.box g' off,.box g off'=>if m.lookup g'=some (some g)∧off=off' then some [] else none
 |.fn f gs,.clo f' caps=>if f=f'∧tC m gs caps=true then some [] else none
 |.m_ g',.m_ g=>if m.lookup g'=some (some g) then some [] else none
 |.no,_=>some []
 |.vw g',.vw g lo hi=>if m.lookup g'=some (some g) then some [lo,hi] else none
 |.ep g' off,.ep g n off'=>if m.lookup g'=some (some g)∧off=off' then some [n] else none
 |_,_=>none
def KR (m:Ren):List WS→List W→Option (List P)
 | [],[]=>some []
 |k::ks,x::xs=>match KG m k x,KR m ks xs with
  |some u,some v=>some (u++v)
  |_,_=>none
 |_,_=>none
def coS (m:Ren):SS→S→Option (List P)
 |.one k,.v (.one x)=>KG m k x
 |.agg ks,.v (.agg xs)=>KR m ks xs
 |_,_=>none
def Z5 (m:Ren):OS→O→Option (List P)
 |.box ks,.box xs=>KR m ks xs
 |.arr fz a i sz,.arr fz' a' i' sz' l=>if fz=fz'∧sz=sz'∧(imp a' a&&imp i' i)=true then some [P.fF sz l] else none
 |.it,.it s n=>some [s,n]
 |.aP a i sz au,.aP a' i' sz' jX l Option.none=>if sz=sz'∧au=jX∧(imp a' a&&imp i' i)=true then some [P.fF sz l] else none
 |_,_=>none
def rY (m:Ren) (s:Nat→S):List (Nat×SS)→Option (List P)
 | []=>some []
 |(t,k)::rest=>match coS m k (s t),rY m s rest with
  |some u,some v=>some (u++v)
  |_,_=>none
def vO (m:Ren) (o:Nat→O):List (Nat×OS)→Option (List P)
 | []=>some []
 |(g',k)::rest=>match (match m.lookup g' with
   |some (some g)=>Z5 m k (o g)
   |some none=>(match k with
    |.arr false _ _ _=>some [.sl 0 []]
    |.aP _ _ _ _=>some [.sl 0 []]
    |_=>none)
   |none=>none),vO m o rest with
  |some u,some v=>some (u++v)
  |_,_=>none
def WS.names:WS→List Nat
 |.own g | .box g _ | .m_ g | .vw g | .ep g _=>[g]
 |.fn _ gs=>gs
 |_=>[]
def SS.names:SS→List Nat
 |.one x=>x.names
 |.agg xs=>xs.flatMap WS.names
def OS.names:OS→List Nat
 |.box ws=>ws.flatMap WS.names
 |_=>[]
def Shape.nms (j:Shape):List Nat:=j.bf.map (·.1)
def Shape.ok (j:Shape):Bool:=nodupB j.nms&&j.slots.all (fun p=>p.2.names.all fun g=>j.nms.contains g)&&j.bf.all (fun p=>p.2.names.all fun g=>j.nms.contains g)
def agR (j:Shape) (m:Ren):Bool:=nodupB (j.nms.filterMap fun g=>(m.lookup g).join)
def coerce (j:Shape) (m:Ren) (st:St):Option (List P):=
 if (j.ok&&agR j m)=true then match rY m st.s j.slots,vO m st.o j.bf with
  |some u,some v=>some (u++v)
  |_,_=>none
 else none
def qo (vs:List P) (n:Nat):WS→W×Nat
 |.p a i=>(.p a i (vs.getD n default),n+1)
 |.cO=>(.cO,n)
 |.own g=>(.own g,n)
 |.box g off=>(.box g off,n)
 |.fn f gs=>(.clo f (f_ gs),n)
 |.m_ g=>(.m_ g,n)
 |.no=>(.no,n)
 |.vw g=>(.vw g (vs.getD n default) (vs.getD (n+1) default),n+2)
 |.ep g off=>(.ep g (vs.getD n default) off,n+1)
def kN (vs:List P):Nat→List WS→List W×Nat
 |n,[]=>([],n)
 |n,k::ks=>((qo vs n k).1::(kN vs (qo vs n k).2 ks).1,(kN vs (qo vs n k).2 ks).2)
def mkS (vs:List P) (n:Nat):SS→S×Nat
 |.one k=>(.v (.one (qo vs n k).1),(qo vs n k).2)
 |.agg ks=>(.v (.agg (kN vs n ks).1),(kN vs n ks).2)
def uq (vs:List P) (n:Nat):OS→O×Nat
 |.box ks=>(.box (kN vs n ks).1,(kN vs n ks).2)
 |.arr fz a i sz=>(.arr fz a i sz (vs.getD n default).list,n+1)
 |.it=>(.it (vs.getD n default) (vs.getD (n+1) default),n+2)
 |.aP a i sz au=>(.aP a i sz au (vs.getD n default).list Option.none,n+1)
def dB (vs:List P):Nat→List (Nat×SS)→List (Nat×S)×Nat
 |n,[]=>([],n)
 |n,(t,k)::rest=>((t,(mkS vs n k).1)::(dB vs (mkS vs n k).2 rest).1,(dB vs (mkS vs n k).2 rest).2)
def gq (vs:List P):Nat→List (Nat×OS)→List (Nat×O)×Nat
 |n,[]=>([],n)
 |n,(g,k)::rest=>((g,(uq vs n k).1)::(gq vs (uq vs n k).2 rest).1,(gq vs (uq vs n k).2 rest).2)
def mk (j:Shape) (vs:List P):St:=
 { s:=fun t=>match (dB vs 0 j.slots).1.lookup t with | some x=>x | none=>.no,o:=fun g=>match (gq vs (dB vs 0 j.slots).2 j.bf).1.lookup g with | some x=>x | none=>.none,used:=fun g=>j.nms.contains g }
def Ce (j:Shape) (m:Ren) (g':Nat):Option Nat:=if j.nms.contains g' then (m.lookup g').join else none
def At (vs:List P) (n:Nat) (us:List P):Prop :=∀k y,us[k]?=some y→vs[n+k]?=some y
theorem At.left {vs us1 us2:List P} {n:Nat} (h:At vs n (us1++us2)):At vs n us1:=fun k y hk=>h k y (by rw [Zs (Q3.1 hk).1];exact hk)
theorem At.right {vs us1 us2:List P} {n:Nat} (h:At vs n (us1++us2)):At vs (n+us1.length) us2:=fun k y hk=>by
 have:=h (us1.length+k) y (by rw [Z2 (by omega),Kl];exact hk)
 rw [←this];congr 1;omega
theorem At.head {vs:List P} {n:Nat} {x:P} (h:At vs n [x]):vs.getD n default=x:=by
 have:=h 0 x rfl
 rw [List.getD_eq_getElem?_getD]
 rw [WK] at this
 rw [this];rfl
theorem uw {a b:Bool} (h:imp a b=true):a=true→b=true:=by
 cases a<;>cases b<;>simp_all [imp]
section
variable {vs:List P} {m:Ren} {F:Nat→Option Nat} {nil:Nat→Prop}
theorem vP :∀(gs:List Nat),(f_ gs).flatMap W.names=gs
 | []=>rfl
 |g::gs=>by simp [f_,W.names,vP gs]
theorem uy (f:FuncId) (caps:List W):(W.clo f caps).names=caps.flatMap W.names:=by
 have :∀(l:List W) (q :∀x∈l,x∈caps),(l.attach.flatMap fun (x:{x // x∈l})=>x.1.names)=l.flatMap W.names:=fun l _=>by
  rw [List.flatMap_def,List.flatMap_def,List.map_attach_eq_pmap,List.pmap_eq_map]
 rw [W.names]
 exact this caps fun x hx=>hx
theorem LH :∀{gs:List Nat} {caps:List W},(∀g∈gs,F g=(m.lookup g).join)→tC m gs caps=true→caps.length=(f_ gs).length∧∀(j:Nat) x y,caps[j]?=some x→(f_ gs)[j]?=some y→Ww Z4 F nil x y
 | [],[],_,_=>⟨rfl,fun j x y hx=>by simp at hx⟩
 | [],_::_,_,h=>by simp [tC] at h
 |_::_,[],_,h=>by simp [tC] at h
 |g'::gs,c::cs,hF,h=>by
  cases c with
  |box g off=>
   simp only [tC,Q6,decide_eq_true_eq] at h
   obtain ⟨h1,h2,h3⟩:=h
   have h2:=Q4 h2
   subst h2
   obtain ⟨e1,e2⟩:=LH (fun g hg=>hF g (by simp [hg])) h3
   refine ⟨by simp [f_,e1],fun j x y hx hy => ?_⟩
   cases j with
   |zero=>
    simp [f_] at hx hy;subst hx hy
    exact .box (by rw [hF g' (by simp),h1];rfl)
   |succ j=>simp [f_] at hx hy;exact e2 j x y hx hy
  |_=>simp [tC] at h
theorem aaz {k:WS} {x:W} {us:List P} {n:Nat} (hF :∀g∈k.names,F g=(m.lookup g).join) (hnil :∀g∈k.names,m.lookup g=some none→nil g) (h:KG m k x=some us) (ha:At vs n us) :
  Ww Z4 F nil x (qo vs n k).1∧(qo vs n k).2=n+us.length∧(qo vs n k).1.names=k.names:=by
 cases k with
 |p a i=>
  cases x with
  |p a' i' y=>
   simp only [KG] at h
   split at h
   ·rename_i hc
    simp only [Q0] at h;subst h
    simp only [UX,Q6] at hc
    refine ⟨?_,rfl,by simp [qo,W.names,WS.names]⟩
    simp only [qo,ha.head]
    rcases hc with hc | hc
    ·exact .p y ⟨uw hc.1,uw hc.2⟩
    ·exact .flat y hc
   ·cases h
  |cO=>
   simp only [KG,Q0] at h;subst h
   refine ⟨?_,rfl,by simp [qo,W.names,WS.names]⟩
   simp only [qo,ha.head]
   exact .ahE _ _ _
  |_=>simp [KG] at h
 |cO=>cases x<;>simp [KG] at h;subst h;exact ⟨.cO,rfl,by simp [qo,W.names,WS.names]⟩
 |own g'=>
  cases x with
  |own g=>
   simp only [KG] at h
   split at h
   ·rename_i hc
    simp only [Q0] at h;subst h
    exact ⟨.own (by rw [hF g' (by simp [WS.names]),hc];rfl),rfl,by simp [qo,W.names,WS.names]⟩
   ·cases h
  |cO=>
   simp only [KG] at h
   split at h
   ·rename_i hc
    simp only [Q0] at h;subst h
    exact ⟨.ajZ (by rw [hF g' (by simp [WS.names]),hc];rfl) (hnil g' (by simp [WS.names]) hc),rfl,by simp [qo,W.names,WS.names]⟩
   ·cases h
  |_=>simp [KG] at h
 |box g' off=>
  cases x with
  |box g off'=>
   simp only [KG] at h
   split at h
   ·rename_i hc
    simp only [Q0] at h;subst h
    obtain ⟨hc,rfl⟩:=hc
    exact ⟨.box (by rw [hF g' (by simp [WS.names]),hc];rfl),rfl,by simp [qo,W.names,WS.names]⟩
   ·cases h
  |_=>simp [KG] at h
 |fn f gs=>
  cases x with
  |clo f' caps=>
   simp only [KG] at h
   split at h
   ·rename_i hc
    simp only [Q0] at h;subst h
    obtain ⟨rfl,hc⟩:=hc
    obtain ⟨e1,e2⟩:=LH (nil:=nil) hF hc
    exact ⟨.clo f caps (f_ gs) e1 e2,rfl,by simp only [qo,uy,vP,WS.names]⟩
   ·cases h
  |_=>simp [KG] at h
 |m_ g'=>
  cases x with
  |m_ g=>
   simp only [KG] at h
   split at h
   ·rename_i hc
    simp only [Q0] at h;subst h
    exact ⟨.m_ (by rw [hF g' (by simp [WS.names]),hc];rfl),rfl,by simp [qo,W.names,WS.names]⟩
   ·cases h
  |_=>simp [KG] at h
 |no=>simp [KG] at h;subst h;exact ⟨.no _,rfl,by simp [qo,W.names,WS.names]⟩
 |vw g'=>
  cases x with
  |vw g lo hi=>
   simp only [KG] at h
   split at h
   ·rename_i hc
    simp only [Q0] at h;subst h
    have h0:vs.getD n default=lo:=At.head (At.left (us1:=[lo]) (us2:=[hi]) ha)
    have h1:vs.getD (n+1) default=hi:=At.head (At.right (us1:=[lo]) (us2:=[hi]) ha)
    refine ⟨?_,rfl,by simp [qo,W.names,WS.names]⟩
    simp only [qo,h0,h1]
    exact .vw lo hi (by rw [hF g' (by simp [WS.names]),hc];rfl)
   ·cases h
  |_=>simp [KG] at h
 |ep g' off=>
  cases x with
  |ep g q off'=>
   simp only [KG] at h
   split at h
   ·rename_i hc
    simp only [Q0] at h;subst h
    obtain ⟨hc,rfl⟩:=hc
    refine ⟨?_,rfl,by simp [qo,W.names,WS.names]⟩
    simp only [qo,ha.head]
    exact .ep q off (by rw [hF g' (by simp [WS.names]),hc];rfl)
   ·cases h
  |_=>simp [KG] at h
theorem Oc :∀{ks:List WS} {xs:List W} {us:List P} {n:Nat},(∀k∈ks,∀g∈k.names,F g=(m.lookup g).join)→(∀k∈ks,∀g∈k.names,m.lookup g=some none→nil g)→KR m ks xs=some us→At vs n us→
  xs.length=(kN vs n ks).1.length∧(∀(j:Nat) x y,xs[j]?=some x→(kN vs n ks).1[j]?=some y→Ww Z4 F nil x y)∧(kN vs n ks).2=n+us.length∧(kN vs n ks).1.flatMap W.names=ks.flatMap WS.names
 | [],xs,us,n,hF,hn,h,ha=>by
  cases xs with
  |nil=>simp [KR] at h;subst h;exact ⟨rfl,fun j x y hx=>by simp at hx,rfl,rfl⟩
  |cons x xs=>simp [KR] at h
 |k::ks,xs,us,n,hF,hn,h,ha=>by
  cases xs with
  |nil=>simp [KR] at h
  |cons x xs=>
   simp only [KR] at h
   split at h
   ·rename_i u v hu hv
    simp only [Q0] at h;subst h
    obtain ⟨a1,a2,a3⟩:=aaz (hF k (by simp)) (hn k (by simp)) hu ha.left
    have ih:=Oc (n:=n+u.length) (fun k hk=>hF k (by simp [hk])) (fun k hk=>hn k (by simp [hk])) hv ha.right
    simp only [kN,a2]
    refine ⟨by simp [ih.1],fun j x' y' hx hy => ?_,by rw [ih.2.2.1];simp;omega,by simp [a3,ih.2.2.2]⟩
    cases j with
    |zero=>simp at hx hy;subst hx hy;exact a1
    |succ j=>simp at hx hy;exact ih.2.1 j x' y' hx hy
   ·cases h
theorem ahF {k:SS} {x:S} {us:List P} {n:Nat} (hF :∀g∈k.names,F g=(m.lookup g).join) (hnil :∀g∈k.names,m.lookup g=some none→nil g) (h:coS m k x=some us) (ha:At vs n us) :
  Sw Z4 F nil x (mkS vs n k).1∧(mkS vs n k).2=n+us.length∧(mkS vs n k).1.names=k.names:=by
 cases k with
 |one k=>
  cases x with
  |v x=>
   cases x with
   |one x=>
    obtain ⟨a1,a2,a3⟩:=aaz hF hnil h ha
    exact ⟨.v (.one a1),a2,by simpa [mkS,S.names,V.names,SS.names] using a3⟩
   |agg xs=>simp [coS] at h
  |_=>simp [coS] at h
 |agg ks=>
  cases x with
  |v x=>
   cases x with
   |one x=>simp [coS] at h
   |agg xs=>
    obtain ⟨a0,a1,a2,a3⟩:=Oc (fun k hk g hg=>hF g (by simp only [SS.names,Ys];exact ⟨k,hk,hg⟩)) (fun k hk g hg=>hnil g (by simp only [SS.names,Ys];exact ⟨k,hk,hg⟩)) h ha
    exact ⟨.v (.agg _ _ a0 a1),a2,by simpa [mkS,S.names,V.names,SS.names] using a3⟩
  |_=>simp [coS] at h
theorem Io {s:Nat→S} :∀{L:List (Nat×SS)} {us:List P} {n:Nat},(∀p∈L,∀g∈p.2.names,F g=(m.lookup g).join)→(∀p∈L,∀g∈p.2.names,m.lookup g=some none→nil g)→rY m s L=some us→At vs n us→
  (∀t x,(dB vs n L).1.lookup t=some x→Sw Z4 F nil (s t) x∧∀g∈x.names,∃p∈L,g∈p.2.names)∧(dB vs n L).2=n+us.length
 | [],us,n,hF,hn,h,ha=>by simp [rY] at h;subst h;exact ⟨fun t x hx=>by simp [dB] at hx,rfl⟩
 |(t0,k)::L,us,n,hF,hn,h,ha=>by
  simp only [rY] at h
  split at h
  ·rename_i u v hu hv
   simp only [Q0] at h;subst h
   obtain ⟨a1,a2,a3⟩:=ahF (hF (t0,k) (by simp)) (hn (t0,k) (by simp)) hu ha.left
   have ih:=Io (n:=n+u.length) (fun p hp=>hF p (by simp [hp])) (fun p hp=>hn p (by simp [hp])) hv ha.right
   simp only [dB,a2]
   refine ⟨fun t x hx => ?_,by rw [ih.2];simp;omega⟩
   simp only [List.lookup] at hx
   split at hx
   ·rename_i he
    have he:t=t0:=by simpa using he
    subst he
    simp only [Q0] at hx;subst hx
    exact ⟨a1,fun g hg=>⟨(t,k),by simp,by rw [a3] at hg;exact hg⟩⟩
   ·obtain ⟨b1,b2⟩:=ih.1 t x hx
    exact ⟨b1,fun g hg=>let ⟨p,hp,hg⟩:=b2 g hg;⟨p,by simp [hp],hg⟩⟩
  ·cases h
theorem ahG {k:OS} {x:O} {us:List P} {n:Nat} (hF :∀g∈k.names,F g=(m.lookup g).join) (hnil :∀g∈k.names,m.lookup g=some none→nil g) (h:Z5 m k x=some us) (ha:At vs n us) :
  Ow Z4 F nil x (uq vs n k).1∧(uq vs n k).2=n+us.length∧(uq vs n k).1.names=k.names:=by
 cases k with
 |box ks=>
  cases x with
  |box xs=>
   obtain ⟨a0,a1,a2,a3⟩:=Oc (fun k hk g hg=>hF g (by simp only [OS.names,Ys];exact ⟨k,hk,hg⟩)) (fun k hk g hg=>hnil g (by simp only [OS.names,Ys];exact ⟨k,hk,hg⟩)) h ha
   exact ⟨.box _ _ a0 a1,a2,by simpa [uq,O.names,OS.names] using a3⟩
  |_=>simp [Z5] at h
 |arr fz a i sz=>
  cases x with
  |arr fz' a' i' sz' l=>
   simp only [Z5] at h
   split at h
   ·rename_i hc
    simp only [Q0] at h;subst h
    obtain ⟨rfl,rfl,hc⟩:=hc
    simp only [Q6] at hc
    refine ⟨?_,rfl,rfl⟩
    simp only [uq,ha.head,P.nX]
    exact .arr fz sz l ⟨uw hc.1,uw hc.2⟩
   ·cases h
  |_=>simp [Z5] at h
 |it=>
  cases x with
  |it s p=>
   simp only [Z5,Q0] at h
   subst h
   refine ⟨?_,rfl,rfl⟩
   have h0:vs.getD n default=s:=At.head (At.left (us1:=[s]) (us2:=[p]) ha)
   have h1:vs.getD (n+1) default=p:=At.head (At.right (us1:=[s]) (us2:=[p]) ha)
   simp only [uq,h0,h1]
   exact .it s p
  |_=>simp [Z5] at h
 |aP a i sz au=>
  cases x with
  |aP a' i' sz' jX l hole=>
   cases hole with
   |some q=>simp [Z5] at h
   |none=>
    simp only [Z5] at h
    split at h
    ·rename_i hc
     simp only [Q0] at h;subst h
     obtain ⟨rfl,rfl,hc⟩:=hc
     simp only [Q6] at hc
     refine ⟨?_,rfl,rfl⟩
     simp only [uq,ha.head,P.nX]
     exact .aP sz au l ⟨uw hc.1,uw hc.2⟩
    ·cases h
  |_=>simp [Z5] at h
end
theorem jg :∀{l:List Nat},nodupB l=true→l.Nodup
 | [],_=>List.nodup_nil
 |x::l,h=>by
  simp only [nodupB,Q6,Wz,Wl,decide_eq_false_iff_not] at h
  exact VM.2 ⟨h.1,jg h.2⟩
theorem LJ {vs:List P} {m:Ren} {F:Nat→Option Nat} {nil:Nat→Prop} {o:Nat→O} :∀{L:List (Nat×OS)} {us:List P} {n:Nat},(∀p∈L,∀g∈p.2.names,F g=(m.lookup g).join)→(∀p∈L,∀g∈p.2.names,m.lookup g=some none→nil g)→
  (L.map (·.1)).Nodup→vO m o L=some us→At vs n us→
  (∀g' x,(gq vs n L).1.lookup g'=some x→(g'∈L.map (·.1))∧(∀g∈x.names,∃p∈L,g∈p.2.names)∧((∃g,m.lookup g'=some (some g)∧Ow Z4 F nil (o g) x)∨(m.lookup g'=some none∧x.nilA)))∧
  (∀g'∈L.map (·.1),∃x,(gq vs n L).1.lookup g'=some x)
 | [],us,n,hF,hn,hd,h,ha=>⟨fun g x hx=>by simp [gq] at hx,fun g hg=>by simp at hg⟩
 |(g0,k)::L,us,n,hF,hn,hd,h,ha=>by
  simp only [vO] at h
  split at h
  ·rename_i u v hu hv
   simp only [Q0] at h;subst h
   simp only [Qf,VM] at hd
   have key:(uq vs n k).2=n+u.length∧(uq vs n k).1.names=k.names∧((∃g,m.lookup g0=some (some g)∧Ow Z4 F nil (o g) (uq vs n k).1)∨(m.lookup g0=some none∧(uq vs n k).1.nilA)):=by
    split at hu
    ·rename_i g hg
     obtain ⟨a1,a2,a3⟩:=ahG (hF (g0,k) (by simp)) (hn (g0,k) (by simp)) hu ha.left
     exact ⟨a2,a3,.inl ⟨g,hg,a1⟩⟩
    ·rename_i hg
     split at hu
     ·rename_i a i sz
      simp only [Q0] at hu;subst hu
      refine ⟨rfl,rfl,.inr ⟨hg,.inl ⟨a,i,sz,?_⟩⟩⟩
      simp only [uq,ha.left.head];rfl
     ·rename_i a i sz au
      simp only [Q0] at hu;subst hu
      refine ⟨rfl,rfl,.inr ⟨hg,.inr ⟨a,i,sz,au,?_⟩⟩⟩
      simp only [uq,ha.left.head];rfl
     ·cases hu
    ·cases hu
   obtain ⟨a2,a3,a1⟩:=key
   have ih:=LJ (n:=n+u.length) (fun p hp=>hF p (by simp [hp])) (fun p hp=>hn p (by simp [hp])) hd.2 hv ha.right
   simp only [gq,a2]
   refine ⟨fun g' x hx => ?_,fun g' hg' => ?_⟩
   ·simp only [List.lookup] at hx
    split at hx
    ·rename_i he
     have he:g'=g0:=by simpa using he
     subst he
     simp only [Q0] at hx;subst hx
     exact ⟨by simp,fun g hg=>⟨(g',k),by simp,by rw [a3] at hg;exact hg⟩,a1⟩
    ·obtain ⟨b0,b1,b2⟩:=ih.1 g' x hx
     exact ⟨by simp [b0],fun g hg=>let ⟨p,hp,hg⟩:=b1 g hg;⟨p,by simp [hp],hg⟩,b2⟩
   ·simp only [List.lookup]
    by_cases he:g'=g0
    ·subst he;simp
    ·have:(g'==g0)=false:=by simpa using he
     rw [this]
     exact ih.2 g' (by simpa [he] using hg')
  ·cases h
theorem zS {f:Nat→Option Nat} {g1 g2 g:Nat} :∀{L:List Nat},L.Nodup→(L.filterMap f).Nodup→g1∈L→g2∈L→f g1=some g→f g2=some g→g1=g2
 | [],_,_,n1,_,_,_=>by cases n1
 |y::L,hnd,iy,n1,n2,m1,m2=>by
  simp only [VM] at hnd
  simp only [List.filterMap_cons] at iy
  have hsub :∀{z},z∈L→f z=some g→g∈L.filterMap f:=fun hz he=>Ks.2 ⟨_,hz,he⟩
  rcases QR.1 n1 with e1 | e1<;>rcases QR.1 n2 with e2 | e2
  ·rw [e1,e2]
  ·subst e1;rw [m1] at iy;simp only [VM] at iy;exact absurd (hsub e2 m2) iy.1
  ·subst e2;rw [m2] at iy;simp only [VM] at iy;exact absurd (hsub e1 m1) iy.1
  ·refine zS hnd.2 ?_ e1 e2 m1 m2
   split at iy
   ·exact iy
   ·exact (VM.1 iy).2
theorem tH {j:Shape} {m:Ren} {st:St} {vs:List P} (h:coerce j m st=some vs):tu Z4 (Ce j m) st (mk j vs):=by
 unfold coerce at h
 split at h
 ·rename_i hok
  split at h
  ·rename_i u v hu hv
   simp only [Q0] at h;subst h
   simp only [Q6,Shape.ok,X2,Wl,decide_eq_true_eq] at hok
   obtain ⟨⟨⟨hnd,hsl⟩,hob⟩,iy⟩:=hok
   have hnd':=jg hnd
   have hAt:At (u++v) 0 (u++v):=fun k y hk=>by rw [We];exact hk
   have hF :∀g∈j.nms,Ce j m g=(m.lookup g).join:=fun g hg=>by simp [Ce,hg]
   have DI:=fun nil (hnil :∀p∈j.bf,∀g∈p.2.names,m.lookup g=some none→nil g)=>LJ (vs:=u++v) (F:=Ce j m) (nil:=nil) (n:=u.length) (fun p hp g hg=>hF g (hob p hp g hg)) hnil hnd' hv (by
    have:=hAt.right;rwa [We] at this)
   have tJ:=fun nil (hnil :∀p∈j.slots,∀g∈p.2.names,m.lookup g=some none→nil g)=>Io (vs:=u++v) (F:=Ce j m) (nil:=nil) (n:=0) (fun p hp g hg=>hF g (hsl p hp g hg)) hnil hu hAt.left
   have hlen:(dB (u++v) 0 j.slots).2=u.length:=by have:=(tJ (fun _=>True) (fun _ _ _ _ _=>trivial)).2;omega
   have hnil :∀g∈j.nms,m.lookup g=some none→((mk j (u++v)).o g).nilA:=by
    intro g hg hm
    have hO:=DI (fun _=>True) (fun _ _ _ _ _=>trivial)
    obtain ⟨x,hx⟩:=hO.2 g hg
    rcases (hO.1 g x hx).2.2 with ⟨g2,h2,_⟩ | ⟨_,e⟩
    ·rw [hm] at h2;cases h2
    ·show O.nilA (match (gq (u++v) (dB (u++v) 0 j.slots).2 j.bf).1.lookup g with | some x=>x | none=>.none)
     rw [hlen,hx];exact e
   have hO:=DI (fun g=>((mk j (u++v)).o g).nilA) (fun p hp g hg hm=>hnil g (hob p hp g hg) hm)
   have hS:=tJ (fun g=>((mk j (u++v)).o g).nilA) (fun p hp g hg hm=>hnil g (hsl p hp g hg) hm)
   have Ag :∀g x,(mk j (u++v)).o g=x→x≠.none→(gq (u++v) u.length j.bf).1.lookup g=some x:=by
    intro g x hx hne
    have hx:(match (gq (u++v) (dB (u++v) 0 j.slots).2 j.bf).1.lookup g with | some x=>x | none=>.none)=x:=hx
    rw [hlen] at hx
    cases hz:(gq (u++v) u.length j.bf).1.lookup g with
    |none=>rw [hz] at hx;exact absurd hx.symm hne
    |some y=>rw [hz] at hx;rw [←hx]
   refine ⟨fun t => ?_,fun g' g hm => ?_,fun g' hm => ?_,fun g1 g2 g h1 h2 m1 m2 => ?_,fun t g hg => ?_,fun g0 g hg => ?_,fun g hg => ?_⟩
   ·show Sw _ _ _ (st.s t) (match (dB (u++v) 0 j.slots).1.lookup t with | some x=>x | none=>.no)
    cases hx:(dB (u++v) 0 j.slots).1.lookup t with
    |none=>exact .no _
    |some x=>exact (hS.1 t x hx).1
   ·by_cases hne:(mk j (u++v)).o g'=.none
    ·rw [hne];exact .none _
    ·have hx:=Ag g' _ rfl hne
     obtain ⟨b0,b1,b2⟩:=hO.1 g' _ hx
     rw [hF g' b0] at hm
     rcases b2 with ⟨g3,h3,h4⟩ | ⟨h3,_⟩
     ·rw [h3] at hm;cases hm;exact h4
     ·rw [h3] at hm;cases hm
   ·by_cases hne:(mk j (u++v)).o g'=.none
    ·exact .inl hne
    ·have hx:=Ag g' _ rfl hne
     obtain ⟨b0,b1,b2⟩:=hO.1 g' _ hx
     rw [hF g' b0] at hm
     rcases b2 with ⟨g3,h3,h4⟩ | ⟨h3,e⟩
     ·rw [h3] at hm;cases hm
     ·exact .inr e
   ·have n1:g1∈j.nms:=by have:=hO.1 g1 _ (Ag g1 _ rfl (by intro e;rw [e] at h1;cases h1));exact this.1
    have n2:g2∈j.nms:=by have:=hO.1 g2 _ (Ag g2 _ rfl (by intro e;rw [e] at h2;cases h2));exact this.1
    rw [hF g1 n1] at m1;rw [hF g2 n2] at m2
    exact zS hnd' (jg iy) n1 n2 m1 m2
   ·have hg:g∈(match (dB (u++v) 0 j.slots).1.lookup t with | some x=>x | none=>S.no).names:=hg
    cases hx:(dB (u++v) 0 j.slots).1.lookup t with
    |none=>rw [hx] at hg;simp [S.names] at hg
    |some x=>
     rw [hx] at hg
     obtain ⟨p,hp,hg⟩:=(hS.1 t x hx).2 g hg
     simpa [mk] using hsl p hp g hg
   ·by_cases hne:(mk j (u++v)).o g0=.none
    ·rw [hne] at hg;simp [O.names] at hg
    ·obtain ⟨b0,b1,b2⟩:=hO.1 g0 _ (Ag g0 _ rfl hne)
     obtain ⟨p,hp,hg⟩:=b1 g hg
     simpa [mk] using hob p hp g hg
   ·have:=(hO.1 g _ (Ag g _ rfl hg)).1
    simpa [mk,Shape.nms] using this
  ·cases h
 ·cases h
end Go.Fw

namespace Go.Fw
variable [d_]
structure zf where
 bH:Nat
 pin:Shape
 aS:Shape
 dA:Nat
 bg:List Nat
 aX:List Nat
structure Spec where
 sig:zf
 R:List P→List P→Prop
abbrev Tab:=FuncId→Option Spec
def w_ (x y:Bool×Bool):Bool×Bool:=(x.1||y.1,x.2||y.2)
def Oe (xs ys:List Nat):Bool:=xs.all fun x=>!ys.contains x
def WS.flags (a i:Bool):WS→Bool
 |.p a' i'=>(a==a')&&(i==i')
 |.own _=>true
 |.box _ off=>off==0
 |.cO=>false
 |.fn _ _=>true
 |.m_ _=>false
 |.no=>false
 |.vw _=>false
 |.ep _ _=>false
def SS.flags (a i:Bool):SS→Bool
 |.one x=>x.flags a i
 |.agg xs=>xs.all (WS.flags a i)
def WS.bZ (aX:List Nat):WS→Bool
 |.p _ _=>true
 |.own g=>aX.contains g
 |.box g _=>aX.contains g
 |.cO=>true
 |.fn _ gs=>gs.all fun g=>aX.contains g
 |_=>false
def SS.bZ (aX:List Nat):SS→Bool
 |.one x=>x.bZ aX
 |.agg xs=>xs.all (WS.bZ aX)
def WS.isA:WS→Bool
 |.p a _=>a
 |_=>false
def SS.isA:SS→Bool
 |.one x=>x.isA
 |.agg xs=>xs.any WS.isA
def OS.isA:OS→Bool
 |.box ws=>ws.any WS.isA
 |.arr _ a _ _=>a
 |.it=>false
 |.aP a _ _ _=>a
def zf.lV (s:zf):Bool:=s.aS.slots.any (·.2.isA)||s.aS.bf.any (·.2.isA)
def OS.kin:Option OS→Option OS→Bool
 |some (.box _),some (.box _)=>true
 |some (.arr _ _ _ sz),some (.arr _ _ _ sz')=>Nat.beq sz sz'
 |some (.aP _ _ sz _),some (.aP _ _ sz' _)=>Nat.beq sz sz'
 |_,_=>false
def OS.aaA:Option OS→Bool
 |some (.box _)=>true
 |_=>false
def zf.ok (s:zf):Bool:=
 s.pin.ok&&s.aS.ok&&s.pin.slots.all (fun p=>p.2.flags true false&&decide (p.1<s.bH)) &&
 s.pin.bf.all (fun p=>match p.2 with
  |.box ws=>ws.all (fun k=>k.flags false true)&&s.bg.contains p.1
  |.arr fz a i _=>!fz&&!a&&i
  |.aP a i _ _=>!a&&i
  |.it=>false) &&
 s.aS.slots.all (fun p=>p.2.bZ (s.aX++s.bg)) &&
 s.aS.bf.all (fun p=>match p.2 with
  |.box ws=>ws.all (WS.bZ (s.aX++s.bg))&&((s.bg.contains p.1&&s.pin.nms.contains p.1)||s.aX.contains p.1)
  |.arr fz _ _ _=>!fz&&(s.aX.contains p.1||s.bg.contains p.1)
  |.aP _ _ _ _=>s.aX.contains p.1||s.bg.contains p.1
  |.it=>false) &&
 Oe s.bg s.aX&&nodupB s.aX&&s.bg.all (fun g=>OS.kin (s.pin.bf.lookup g) (s.aS.bf.lookup g))
def zf.aaB (s:zf):Bool:=s.bg.all fun g=>OS.aaA (s.pin.bf.lookup g)&&OS.aaA (s.aS.bf.lookup g)
structure KT where
 ins:List P
 A:Bool×Bool
 I:Bool×Bool
 vg:List Nat
 ren:List (Nat×Nat)
def nH:List Nat→List W→Option (List (Nat×Nat))
 | [],[]=>some []
 |g'::gs,.box g 0::cs=>match nH gs cs with
  |some r=>some ((g',g)::r)
  |none=>none
 |_,_=>none
def fG (o:Nat→O):WS→W→Option (List P×(Bool×Bool)×List Nat×List (Nat×Nat))
 |.p _ _,x=>match x.toP o with
  |some (y,a,i,gs)=>some ([y],(a,i),gs,[])
  |none=>none
 |.own g',.own g=>some ([],(false,false),[],[(g',g)])
 |.box g' 0,.box g 0=>some ([],(false,false),[],[(g',g)])
 |.fn f gs,.clo f' caps=>if f=f' then match nH gs caps with
  |some r=>some ([],(false,false),[],r)
  |none=>none
  else none
 |_,_=>none
def jB (o:Nat→O):List WS→List W→Option (List P×(Bool×Bool)×List Nat×List (Nat×Nat))
 | [],[]=>some ([],(false,false),[],[])
 |k::ks,x::xs=>match fG o k x,jB o ks xs with
  |some (u,c,g,r),some (u',c',g',r')=>some (u++u',w_ c c',g++g',r++r')
  |_,_=>none
 |_,_=>none
def n_ (o:Nat→O):SS→S→Option (List P×(Bool×Bool)×List Nat×List (Nat×Nat))
 |.one k,.v (.one x)=>fG o k x
 |.agg ks,.v (.agg xs)=>jB o ks xs
 |_,_=>none
def eH (o:Nat→O) (args:List S):List (Nat×SS)→Option (List P×(Bool×Bool)×List Nat×List (Nat×Nat))
 | []=>some ([],(false,false),[],[])
 |(t,k)::rest=>match n_ o k (args.getD t .no),eH o args rest with
  |some (u,c,g,r),some (u',c',g',r')=>some (u++u',w_ c c',g++g',r++r')
  |_,_=>none
def T_:WS→W→Option (List P×(Bool×Bool)×List (Nat×Nat))
 |.p _ _,.p a i x=>some ([x],(a,i),[])
 |.p _ _,.cO=>some ([.sl 0 []],(false,false),[])
 |.own g',.own g=>some ([],(false,false),[(g',g)])
 |.box g' 0,.box g 0=>some ([],(false,false),[(g',g)])
 |.fn f gs,.clo f' caps=>if f=f' then match nH gs caps with
  |some r=>some ([],(false,false),r)
  |none=>none
  else none
 |_,_=>none
def Og:List WS→List W→Option (List P×(Bool×Bool)×List (Nat×Nat))
 | [],[]=>some ([],(false,false),[])
 |k::ks,x::xs=>match T_ k x,Og ks xs with
  |some (u,c,r),some (u',c',r')=>some (u++u',w_ c c',r++r')
  |_,_=>none
 |_,_=>none
def jv (o:Nat→O):List (Nat×Nat)→List (Nat×OS)→Option (List P×(Bool×Bool)×List (Nat×Nat))
 |ren,[]=>some ([],(false,false),ren)
 |ren,(g',k)::rest=>match ren.lookup g' with
  |some g=>match k,o g with
   |.box ks,.box ws=>match Og ks ws with
    |some (u,c,r)=>match jv o (ren++r) rest with
     |some (u',c',r')=>some (u++u',w_ c c',r')
     |none=>none
    |none=>none
   |.arr _ _ _ sz,.arr false a i sz' l=>if sz=sz' then match jv o ren rest with
    |some (u',c',r')=>some (P.fF sz l::u',w_ (a,i) c',r')
    |none=>none
    else none
   |.aP _ _ sz au,.aP a i sz' jX l Option.none=>if sz=sz'∧au=jX then match jv o ren rest with
    |some (u',c',r')=>some (P.fF sz l::u',w_ (a,i) c',r')
    |none=>none
    else none
   |_,_=>none
  |none=>none
def jH:List (Nat×Nat)→List (Nat×Nat)
 | []=>[]
 |p::r=>match r.any fun q=>Nat.beq q.1 p.1&&Nat.beq q.2 p.2 with
  |true=>jH r
  |false=>p::jH r
def gX (s:zf) (o:Nat→O) (args:List S):Option KT:=
 match eH o args s.pin.slots with
 |some (u,A,gs,r)=>match jv o r s.pin.bf with
  |some (u',I,r')=>some { ins:=u++u',A,I,vg:=gs,ren:=jH r' }
  |none=>none
 |none=>none
def KT.fine (c:KT) (s:zf):Bool:=nodupB (c.ren.map (·.2))&&nodupB (c.ren.map (·.1))&&Oe (c.ren.map (·.2)) c.vg&&(c.ren.map (·.1)).all (fun g=>s.pin.nms.contains g)
def qJ (A I:Bool×Bool) (a i:Bool):Bool×Bool:=((a&&A.1)||(i&&I.1),(a&&A.2)||(i&&I.2))
def kF (f:Nat→Nat):List W→List W
 | []=>[]
 |.box g off::r=>.box (f g) off::kF f r
 |_::r=>.no::kF f r
def Ua (A I:Bool×Bool) (f:Nat→Nat):W→W
 |.p a i x=>.p (qJ A I a i).1 (qJ A I a i).2 x
 |.cO=>.cO
 |.own g=>.own (f g)
 |.box g off=>.box (f g) off
 |.clo fn caps=>.clo fn (kF f caps)
 |_=>.no
def reV (A I:Bool×Bool) (f:Nat→Nat):V→V
 |.one x=>.one (Ua A I f x)
 |.agg xs=>.agg (xs.map (Ua A I f))
def Wp (A I:Bool×Bool) (f:Nat→Nat):S→V
 |.v x=>reV A I f x
 |_=>.one .no
def xg (A I:Bool×Bool) (f:Nat→Nat):O→O
 |.none=>.none
 |.box ws=>.box (ws.map (Ua A I f))
 |.arr fz a i sz l=>.arr fz (qJ A I a i).1 (qJ A I a i).2 sz l
 |.it s n=>.it s n
 |.aP a i sz au l _=>.aP (qJ A I a i).1 (qJ A I a i).2 sz au l Option.none
def newName (d:Nat) (aX:List Nat) (g:Nat):Nat:=d+1000*aX.idxOf g
def callName (d:Nat) (s:zf) (ren:List (Nat×Nat)) (g:Nat):Nat:=match s.bg.contains g with
 |true=>match ren.lookup g with
  |some g'=>g'
  |none=>g
 |false=>newName d s.aX g
structure Eff where
 x:S
 aK:List (Nat×O)
 new:List Nat
def YB (vs:List V):S:=match vs with
 | [x]=>.v x
 |xs=>.lG xs
def iC (s:zf) (d:Nat) (o:Nat→O) (c:KT) (bZ:List P):Eff:=
 let x:=mk s.aS bZ
 let f:=callName d s c.ren
 { x:=YB ((List.range s.dA).map fun k=>Wp c.A c.I f (x.s k)),aK:=(if s.lV then c.vg.map (aV o) else [])++c.ren.map (fun p=>(p.2,if s.bg.contains p.1 then xg c.A c.I f (x.o p.1) else .none))++s.aX.map (fun g=>(f g,xg c.A c.I f (x.o g))),new:=s.aX.map f }
def Ci (same:List Nat) (e:Eff):Eff:={ e with aK:=e.aK.filter fun p=>!same.contains p.1 }
theorem tK {α:Type} {same:List Nat} {g:Nat} (hg:g∉same) :∀(l:List (Nat×α)),(l.filter fun p=>!same.contains p.1).lookup g=l.lookup g
 | []=>rfl
 |(k,x)::l=>by
  simp only [qT]
  cases hk:same.contains k with
  |true=>
   have:(g==k)=false:=by
    cases hb:g==k with
    |false=>rfl
    |true=>
     have:g=k:=by simpa using hb
     subst this
     simp only [Wl,decide_eq_true_eq] at hk
     exact absurd hk hg
   simp only [Bool.not_true,W7,if_false,List.lookup,this]
   exact tK hg l
  |false=>
   simp only [qz,if_true,List.lookup]
   rw [tK hg l]
theorem mJ {α:Type} {same:List Nat} {g:Nat} (hg:g∈same) :∀(l:List (Nat×α)),(l.filter fun p=>!same.contains p.1).lookup g=none
 | []=>rfl
 |(k,x)::l=>by
  simp only [qT]
  cases hk:same.contains k with
  |true=>
   simp only [Bool.not_true,W7,if_false]
   exact mJ hg l
  |false=>
   have:(g==k)=false:=by
    cases hb:g==k with
    |false=>rfl
    |true=>
     have:g=k:=by simpa using hb
     subst this
     simp only [Wl,decide_eq_false_iff_not] at hk
     exact absurd hg hk
   simp only [qz,if_true,List.lookup,this]
   exact mJ hg l
theorem YC {st:St} {same:List Nat} {e:Eff} (h :∀g∈same,e.aK.lookup g=some (st.o g)):st.aK (Ci same e).aK (Ci same e).new=st.aK e.aK e.new:=by
 unfold St.aK Ci
 congr 1
 funext g
 by_cases hg:g∈same
 ·simp only [mJ hg,h g hg]
 ·simp only [tK hg]
inductive P9 (x:P) (K:P→Prop):Prop where
 |mk (h :∀z,z=x→K z)
theorem P9.iff {x:P} {K:P→Prop}:P9 x K↔K x:=⟨fun ⟨h⟩=>h x rfl,fun h=>⟨fun z e=>e▸h⟩⟩
def E8:Op→Bool
 |.pick .. | .binOp .. | .unOp .. | .convert .. | .index .. | .call .. | .makeSlice .. | .store .. | .buildSlice .. | .slice .. => true
 |_=>false
def guardOf (ops:Array Oper) (st:St) (j:Nat) (want:Bool):Option Bool:=
 match (ops[j]?).bind (·.dst) with
 |some t=>match st.s t with
  |.v (.one (.p _ _ (.bool b)))=>some (bif want then b else !b)
  |.lG []=>some false
  |_=>none
 |none=>none
def Eff.skip:Eff:={ x:=.lG [],aK:=[],new:=[] }
def aj1:S→Option Nat
 |.v (.one (.clo g _))=>some g
 |_=>none
def Wq:List S→Option Nat
 | []=>none
 |x::l=>match aj1 x with
  |some g=>some g
  |none=>Wq l
def QA (fn:Nat) (l:List S):Nat:=match Wq l with
 |some g=>fn+1000000*(g+1)
 |none=>fn
def pick (T:Tab) (fn:Nat) (l:List S):Option Spec:=match Nat.blt fn 1000000 with
 |true=>match T (QA fn l) with
  |some sp=>some sp
  |none=>T fn
 |false=>none
theorem aea {T:Tab} {fn:Nat} {l:List S} {sp:Spec} {p:Nat→Spec→Prop} (hT :∀f sp,T f=some sp→p (f % 1000000) sp) (h:pick T fn l=some sp):p fn sp:=by
 unfold pick at h
 split at h
 ·rename_i hb
  have hlt:fn<1000000:=W6 hb
  split at h
  ·rename_i sp' h'
   cases h
   have:=hT _ _ h'
   have e:QA fn l % 1000000=fn:=by unfold QA;split<;>omega
   rwa [e] at this
  ·have:=hT _ _ h
   rwa [K9 hlt] at this
 ·cases h
def iZ (T:Tab) (tt:TT) (d:Nat) (st:St) (o:Oper) (K:Eff→Prop):Prop:=
 match o.op with
 |.call { callee:=.value f,args,.. }=>match st.dH f with
  |.v (.one (.clo fn caps))=>match pick T fn (args.toList.map st.dH) with
   |some sp=>match gX sp.sig st.o ((args.toList.map st.dH)++caps.map fun x=>S.v (.one x)) with
    |some c=>(c.fine sp.sig&&decide (args.size+caps.length=sp.sig.bH))=true∧∃(bZ:List P) (same:List Nat),sp.R c.ins bZ∧(∀g∈same,g∈c.ren.map (·.2)∧(iC sp.sig d st.o c bZ).aK.lookup g=some (st.o g))∧K (Ci same (iC sp.sig d st.o c bZ))
    |none=>False
   |none=>False
  |_=>False
 |op=>(∃dc r,dU tt dc d st.o st.dH op o.type=some r∧r.pre∧P9 r.val fun z=>K { x:=r.dst z,aK:=r.aK z,new:=r.new })∨match kernel tt d st.o st.dH op o.type with
  |some r=>r.pre∧bif E8 op then P9 r.val fun z=>K { x:=r.dst z,aK:=r.aK z,new:=r.new } else K { x:=r.dst r.val,aK:=r.aK r.val,new:=r.new }
  |none=>False
def St.eff (st:St) (dst:Option Tmp) (e:Eff):St:=(st.aK e.aK e.new).put dst e.x
def stepW (T:Tab) (tt:TT) (N:Nat) (ops:Array Oper) (o:Oper) (st:St) (K:Eff→Prop):Prop:=
 (match o.dst with
  |some d=>decide (d<N)
  |none=>true)=true∧
 match o.guard with
 |none=>iZ T tt (o.dst.getD 0) st o fun e=>e.new.all (fun g=>!st.used g)=true∧K e
 |some (j,want)=>match guardOf ops st j want with
  |some b=>bif b then iZ T tt (o.dst.getD 0) st o fun e=>e.new.all (fun g=>!st.used g)=true∧K e else K Eff.skip
  |none=>False
end Go.Fw

namespace Go.Fw
variable [d_]
theorem lW {α:Type} :∀{l:List (Nat×α)},(l.map (·.1)).Nodup→∀{k:Nat} {v:α},(k,v)∈l→l.lookup k=some v
 | [],_,k,v,h=>by cases h
 |(k0,v0)::l,hn,k,v,h=>by
  simp only [Qf,VM] at hn
  simp only [List.lookup]
  rcases QR.1 h with e | e
  ·cases e;simp
  ·have hne:(k==k0)=false:=by
    have:k∈l.map (·.1):=QQ.2 ⟨(k,v),e,rfl⟩
    have:k≠k0:=fun e=>hn.1 (by rw [←e];exact this)
    simpa using this
   rw [hne]
   exact lW hn.2 e
theorem ku {α:Type} :∀{l:List (Nat×α)} {k:Nat} {v:α},l.lookup k=some v→(k,v)∈l
 | [],k,v,h=>by simp at h
 |(k0,v0)::l,k,v,h=>by
  simp only [List.lookup] at h
  split at h
  ·rename_i he
   have he:k=k0:=by simpa using he
   simp only [Q0] at h
   subst he h;simp
  ·exact US _ (ku h)
def cin (c d:Bool×Bool):Prop:=(c.1=true→d.1=true)∧(c.2=true→d.2=true)
theorem Ip (c:Bool×Bool):cin c c:=⟨id,id⟩
theorem uz {c c' d:Bool×Bool} (h:cin (w_ c c') d):cin c d:=⟨fun e=>h.1 (by simp [w_,e]),fun e=>h.2 (by simp [w_,e])⟩
theorem qp {c c' d:Bool×Bool} (h:cin (w_ c c') d):cin c' d:=⟨fun e=>h.1 (by simp [w_,e]),fun e=>h.2 (by simp [w_,e])⟩
def Cio (I:Bool×Bool) (a i a' i':Bool):Prop:=a'=false∧i'=true∧cin (a,i) I
section
variable {o:Nat→O} {ins:List P} {m:Nat→Option Nat} {nil:Nat→Prop} {I:Bool×Bool}
theorem Ws {a i:Bool} {a' i':Bool} (h:(WS.p a' i').flags a i=true):a'=a∧i'=i:=by
 simp only [WS.flags,Q6,beq_iff_eq] at h
 exact ⟨h.1.symm,h.2.symm⟩
theorem Au {C:Bool→Bool→Bool→Bool→Prop} :∀{gs:List Nat} {caps:List W} {r:List (Nat×Nat)},nH gs caps=some r→(∀p∈r,m p.1=some p.2)→caps.length=(f_ gs).length∧∀(j:Nat) x y,caps[j]?=some x→(f_ gs)[j]?=some y→Ww C m nil x y
 | [],[],r,_,_=>⟨rfl,fun j x y hx=>by simp at hx⟩
 | [],_::_,r,h,_=>by simp [nH] at h
 |_::_,[],r,h,_=>by simp [nH] at h
 |g'::gs,c::cs,r,h,hm=>by
  cases c with
  |box g off=>
   cases off with
   |succ off=>simp [nH] at h
   |zero=>
    simp only [nH] at h
    split at h
    ·rename_i r' hr'
     simp only [Q0] at h;subst h
     obtain ⟨e1,e2⟩:=Au (C:=C) hr' (fun p hp=>hm p (by simp [hp]))
     refine ⟨by simp [f_,e1],fun j x y hx hy => ?_⟩
     cases j with
     |zero=>
      simp [f_] at hx hy;subst hx hy
      exact .box (hm (g',g) (by simp))
     |succ j=>simp [f_] at hx hy;exact e2 j x y hx hy
    ·cases h
  |_=>simp [nH] at h
theorem ahI {k:WS} {x:W} {us:List P} {c:Bool×Bool} {r:List (Nat×Nat)} {n:Nat} (h:T_ k x=some (us,c,r)) (hk:k.flags false true=true) (hc:cin c I) (hm :∀p∈r,m p.1=some p.2) (ha:At ins n us) :
  Ww (Cio I) m nil x (qo ins n k).1∧(qo ins n k).2=n+us.length:=by
 cases k with
 |p a' i'=>
  obtain ⟨rfl,rfl⟩:=Ws hk
  cases x with
  |p a i y=>
   simp only [T_,Q0,Q1] at h
   obtain ⟨rfl,rfl,rfl⟩:=h
   exact ⟨by simp only [qo,ha.head];exact .p y ⟨rfl,rfl,hc⟩,rfl⟩
  |cO=>
   simp only [T_,Q0,Q1] at h
   obtain ⟨rfl,rfl,rfl⟩:=h
   exact ⟨by simp only [qo,ha.head];exact .ahE _ _ _,rfl⟩
  |_=>simp [T_] at h
 |own g'=>
  cases x with
  |own g=>
   simp only [T_,Q0,Q1] at h
   obtain ⟨rfl,rfl,rfl⟩:=h
   exact ⟨.own (hm (g',g) (by simp)),rfl⟩
  |_=>simp [T_] at h
 |box g' off'=>
  cases x with
  |box g off=>
   cases off' with
   |succ n=>simp [T_] at h
   |zero=>
    cases off with
    |succ n=>simp [T_] at h
    |zero=>
     simp only [T_,Q0,Q1] at h
     obtain ⟨rfl,rfl,rfl⟩:=h
     exact ⟨.box (hm (g',g) (by simp)),rfl⟩
  |_=>simp [T_] at h
 |fn f gs=>
  cases x with
  |clo f' caps=>
   simp only [T_] at h
   split at h
   ·rename_i hf
    subst hf
    split at h
    ·rename_i r' hr'
     simp only [Q0,Q1] at h
     obtain ⟨rfl,rfl,rfl⟩:=h
     obtain ⟨e1,e2⟩:=Au (C:=Cio I) (nil:=nil) hr' hm
     exact ⟨.clo f caps (f_ gs) e1 e2,rfl⟩
    ·cases h
   ·cases h
  |_=>simp [T_] at h
 |_=>simp [T_] at h
theorem Wu :∀{ks:List WS} {xs:List W} {us:List P} {c:Bool×Bool} {r:List (Nat×Nat)} {n:Nat},Og ks xs=some (us,c,r)→(∀k∈ks,k.flags false true=true)→cin c I→(∀p∈r,m p.1=some p.2)→At ins n us→
  xs.length=(kN ins n ks).1.length∧(∀(j:Nat) x y,xs[j]?=some x→(kN ins n ks).1[j]?=some y→Ww (Cio I) m nil x y)∧(kN ins n ks).2=n+us.length
 | [],xs,us,c,r,n,h,hk,hc,hm,ha=>by
  cases xs with
  |nil=>simp [Og] at h;obtain ⟨rfl,_⟩:=h;exact ⟨rfl,fun j x y hx=>by simp at hx,rfl⟩
  |cons x xs=>simp [Og] at h
 |k::ks,xs,us,c,r,n,h,hk,hc,hm,ha=>by
  cases xs with
  |nil=>simp [Og] at h
  |cons x xs=>
   simp only [Og] at h
   split at h
   ·rename_i u c1 r1 u' c2 r2 h1 h2
    simp only [Q0,Q1] at h
    obtain ⟨rfl,rfl,rfl⟩:=h
    obtain ⟨a1,a2⟩:=ahI (nil:=nil) h1 (hk k (by simp)) (uz hc) (fun p hp=>hm p (by simp [hp])) ha.left
    have ih:=Wu (n:=n+u.length) h2 (fun k hk'=>hk k (by simp [hk'])) (qp hc) (fun p hp=>hm p (by simp [hp])) ha.right
    simp only [kN,a2]
    refine ⟨by simp [ih.1],fun j x' y' hx hy => ?_,by rw [ih.2.2];simp;omega⟩
    cases j with
    |zero=>simp at hx hy;subst hx hy;exact a1
    |succ j=>simp at hx hy;exact ih.2.1 j x' y' hx hy
   ·cases h
theorem uD :∀{L:List (Nat×OS)} {ren ren':List (Nat×Nat)} {us:List P} {c:Bool×Bool} {n:Nat},jv o ren L=some (us,c,ren')→
  (∀p∈L,match p.2 with | .box ws =>∀k∈ws,k.flags false true=true | .arr fz a i _=>fz=false∧a=false∧i=true | .aP a i _ _=>a=false∧i=true | .it=>False)→cin c I→(∀p∈ren',m p.1=some p.2)→At ins n us→
  (∃r,ren'=ren++r)∧∀g' x,(gq ins n L).1.lookup g'=some x→∃g,m g'=some g∧Ow (Cio I) m nil (o g) x∧(g',g)∈ren'∧(o g).bU=true∧((∃ws,x=.box ws)∨(∃l sz,x=.arr false false true sz l)∨∃l sz au,x=.aP false true sz au l Option.none)
 | [],ren,ren',us,c,n,h,hk,hc,hm,ha=>by
  simp only [jv,Q0,Q1] at h
  obtain ⟨rfl,rfl,rfl⟩:=h
  exact ⟨⟨[],by simp⟩,fun g' x hx=>by simp [gq] at hx⟩
 |(g0,k)::L,ren,ren',us,c,n,h,hk,hc,hm,ha=>by
  simp only [jv] at h
  split at h
  ·rename_i g hg
   split at h
   ·rename_i ks ws hog
    split at h
    ·rename_i u c1 r1 h1
     split at h
     ·rename_i u' c2 r2 h2
      simp only [Q0,Q1] at h
      obtain ⟨rfl,rfl,rfl⟩:=h
      have hk0:=hk (g0,.box ks) (by simp)
      have ih:=fun hm'=>uD (n:=n+u.length) h2 (fun p hp=>hk p (by simp [hp])) (qp hc) hm' ha.right
      obtain ⟨⟨r,hr⟩,ih⟩:=ih hm
      obtain ⟨b0,b1,b2⟩:=Wu (nil:=nil) h1 hk0 (uz hc) (fun p hp=>hm p (by rw [hr];simp [hp])) ha.left
      simp only [gq,uq,b2]
      refine ⟨⟨r1++r,by rw [hr,Wa]⟩,fun g' x hx => ?_⟩
      simp only [List.lookup] at hx
      split at hx
      ·rename_i he
       have he:g'=g0:=by simpa using he
       subst he
       simp only [Q0] at hx;subst hx
       have hmem:(g',g)∈r2:=by rw [hr,Wa];exact W3 _ (ku hg)
       exact ⟨g,hm _ hmem,by rw [hog];exact .box _ _ b0 b1,hmem,by rw [hog];rfl,.inl ⟨_,rfl⟩⟩
      ·exact ih g' x hx
     ·cases h
    ·cases h
   ·rename_i fz0 a0 i0 sz a i sz' l hog
    split at h
    ·rename_i hsz
     split at h
     ·rename_i u' c2 r2 h2
      simp only [Q0,Q1] at h
      obtain ⟨rfl,rfl,rfl⟩:=h
      subst hsz
      have hk0:=hk (g0,.arr fz0 a0 i0 sz) (by simp)
      obtain ⟨rfl,rfl,rfl⟩:=hk0
      have hhead:At ins n [P.fF sz l]:=fun k y hk=>ha k y (by cases k with | zero=>simpa using hk | succ k=>simp at hk)
      have htail:At ins (n+1) u':=fun k y hk=>by
       have:=ha (k+1) y (by simpa using hk)
       rw [←this];congr 1;omega
      obtain ⟨⟨r,hr⟩,ih⟩:=uD (n:=n+1) h2 (fun p hp=>hk p (by simp [hp])) (qp hc) hm htail
      simp only [gq,uq,hhead.head,P.nX]
      refine ⟨⟨r,hr⟩,fun g' x hx => ?_⟩
      simp only [List.lookup] at hx
      split at hx
      ·rename_i he
       have he:g'=g0:=by simpa using he
       subst he
       simp only [Q0] at hx;subst hx
       have hmem:(g',g)∈r2:=by rw [hr];exact W3 _ (ku hg)
       exact ⟨g,hm _ hmem,by rw [hog];exact .arr false sz l ⟨rfl,rfl,uz hc⟩,hmem,by rw [hog];rfl,.inr (.inl ⟨_,_,rfl⟩)⟩
      ·exact ih g' x hx
     ·cases h
    ·cases h
   ·rename_i a0 i0 sz au a i sz' jX l hog
    split at h
    ·rename_i hsz
     obtain ⟨rfl,rfl⟩:=hsz
     split at h
     ·rename_i u' c2 r2 h2
      simp only [Q0,Q1] at h
      obtain ⟨rfl,rfl,rfl⟩:=h
      have hk0:=hk (g0,.aP a0 i0 sz au) (by simp)
      obtain ⟨rfl,rfl⟩:=hk0
      have hhead:At ins n [P.fF sz l]:=fun k y hk=>ha k y (by cases k with | zero=>simpa using hk | succ k=>simp at hk)
      have htail:At ins (n+1) u':=fun k y hk=>by
       have:=ha (k+1) y (by simpa using hk)
       rw [←this];congr 1;omega
      obtain ⟨⟨r,hr⟩,ih⟩:=uD (n:=n+1) h2 (fun p hp=>hk p (by simp [hp])) (qp hc) hm htail
      simp only [gq,uq,hhead.head,P.nX]
      refine ⟨⟨r,hr⟩,fun g' x hx => ?_⟩
      simp only [List.lookup] at hx
      split at hx
      ·rename_i he
       have he:g'=g0:=by simpa using he
       subst he
       simp only [Q0] at hx;subst hx
       have hmem:(g',g)∈r2:=by rw [hr];exact W3 _ (ku hg)
       exact ⟨g,hm _ hmem,by rw [hog];exact .aP sz au l ⟨rfl,rfl,uz hc⟩,hmem,by rw [hog];rfl,.inr (.inr ⟨_,_,_,rfl⟩)⟩
      ·exact ih g' x hx
     ·cases h
    ·cases h
   ·cases h
  ·cases h
end
section
variable {E E':Env} {st est:St} {gh kY:Nat→Gh} {w:World} {ins:List P} {A:Bool×Bool} {vg:List Nat} {m:Nat→Option Nat} {nil:Nat→Prop} {C:Bool→Bool→Bool→Bool→Prop}
theorem QB (hP :∀x v y a i gs,eU E st gh w x v→x.toP st.o=some (y,a,i,gs)→cin (a,i) A→(∀g∈gs,g∈vg)→cu w (E'.ok est kY w true false) y v) (hC:Cast C m nil E E' st est gh kY w)
  {k:WS} {x:W} {v:Value} {us:List P} {c:Bool×Bool} {gs:List Nat} {r:List (Nat×Nat)} {n:Nat} (h:fG st.o k x=some (us,c,gs,r)) (hk:k.flags true false=true) (hc:cin c A) (hgs :∀g∈gs,g∈vg)
  (hm :∀p∈r,m p.1=some p.2) (ha:At ins n us) (hr:eU E st gh w x v):eU E' est kY w (qo ins n k).1 v∧(qo ins n k).2=n+us.length:=by
 cases k with
 |p a' i'=>
  obtain ⟨rfl,rfl⟩:=Ws hk
  simp only [fG] at h
  split at h
  ·rename_i y a i gs' ht
   simp only [Q0,Q1] at h
   obtain ⟨rfl,rfl,rfl,rfl⟩:=h
   exact ⟨by simp only [qo,ha.head];exact .p _ _ _ _ (hP _ _ _ _ _ _ hr ht hc hgs),rfl⟩
  ·cases h
 |own g'=>
  cases x with
  |own g=>
   simp only [fG,Q0,Q1] at h
   obtain ⟨rfl,rfl,rfl,rfl⟩:=h
   exact ⟨hC.Af (.own (hm (g',g) (by simp))) hr,rfl⟩
  |_=>simp [fG] at h
 |box g' off=>
  cases x with
  |box g off'=>
   cases off with
   |succ off=>simp [fG] at h
   |zero=>
    cases off' with
    |succ off'=>simp [fG] at h
    |zero=>
     simp only [fG,Q0,Q1] at h
     obtain ⟨rfl,rfl,rfl,rfl⟩:=h
     exact ⟨hC.Af (.box (hm (g',g) (by simp))) hr,rfl⟩
  |_=>cases off<;>simp [fG] at h
 |fn f gs0=>
  cases x with
  |clo f' caps=>
   simp only [fG] at h
   split at h
   ·rename_i hf
    subst hf
    split at h
    ·rename_i r' hr'
     simp only [Q0,Q1] at h
     obtain ⟨rfl,rfl,rfl,rfl⟩:=h
     obtain ⟨e1,e2⟩:=Au (C:=C) (nil:=nil) hr' hm
     exact ⟨hC.Af (.clo f caps (f_ gs0) e1 e2) hr,rfl⟩
    ·cases h
   ·cases h
  |_=>simp [fG] at h
 |_=>simp [fG] at h
theorem LK (hP :∀x v y a i gs,eU E st gh w x v→x.toP st.o=some (y,a,i,gs)→cin (a,i) A→(∀g∈gs,g∈vg)→cu w (E'.ok est kY w true false) y v) (hC:Cast C m nil E E' st est gh kY w) :
  ∀{ks:List WS} {xs:List W} {cs:List Value} {us:List P} {c:Bool×Bool} {gs:List Nat} {r:List (Nat×Nat)} {n:Nat},jB st.o ks xs=some (us,c,gs,r)→(∀k∈ks,k.flags true false=true)→cin c A→(∀g∈gs,g∈vg)→
   (∀p∈r,m p.1=some p.2)→At ins n us→xs.length=cs.length→(∀(j:Nat) x v,xs[j]?=some x→cs[j]?=some v→eU E st gh w x v)→
   (kN ins n ks).1.length=cs.length∧(∀(j:Nat) x v,(kN ins n ks).1[j]?=some x→cs[j]?=some v→eU E' est kY w x v)∧(kN ins n ks).2=n+us.length
 | [],xs,cs,us,c,gs,r,n,h,hk,hc,hgs,hm,ha,hl,hr=>by
  cases xs with
  |nil=>simp [jB] at h;obtain ⟨rfl,_⟩:=h;exact ⟨hl,fun j x v hx=>by simp [kN] at hx,rfl⟩
  |cons x xs=>simp [jB] at h
 |k::ks,xs,cs,us,c,gs,r,n,h,hk,hc,hgs,hm,ha,hl,hr=>by
  cases xs with
  |nil=>simp [jB] at h
  |cons x xs=>
   cases cs with
   |nil=>simp at hl
   |cons v cs=>
    simp only [jB] at h
    split at h
    ·rename_i u c1 g1 r1 u' c2 g2 r2 h1 h2
     simp only [Q0,Q1] at h
     obtain ⟨rfl,rfl,rfl,rfl⟩:=h
     obtain ⟨a1,a2⟩:=QB hP hC h1 (hk k (by simp)) (uz hc) (fun g hg=>hgs g (by simp [hg])) (fun p hp=>hm p (by simp [hp])) ha.left (hr 0 x v rfl rfl)
     have ih:=LK hP hC (n:=n+u.length) h2 (fun k hk'=>hk k (by simp [hk'])) (qp hc) (fun g hg=>hgs g (by simp [hg])) (fun p hp=>hm p (by simp [hp])) ha.right (by simpa using hl)
      (fun j a b ha hb=>hr (j+1) a b (by simpa using ha) (by simpa using hb))
     simp only [kN,a2]
     refine ⟨by simp [ih.1],fun j x' v' hx hv => ?_,by rw [ih.2.2];simp;omega⟩
     cases j with
     |zero=>simp at hx hv;subst hx hv;exact a1
     |succ j=>simp at hx hv;exact ih.2.1 j x' v' hx hv
    ·cases h
theorem aaC (hP :∀x v y a i gs,eU E st gh w x v→x.toP st.o=some (y,a,i,gs)→cin (a,i) A→(∀g∈gs,g∈vg)→cu w (E'.ok est kY w true false) y v) (hC:Cast C m nil E E' st est gh kY w)
  {k:SS} {x:S} {v:Value} {us:List P} {c:Bool×Bool} {gs:List Nat} {r:List (Nat×Nat)} {n:Nat} (h:n_ st.o k x=some (us,c,gs,r)) (hk:k.flags true false=true) (hc:cin c A) (hgs :∀g∈gs,g∈vg)
  (hm :∀p∈r,m p.1=some p.2) (ha:At ins n us) (hr:dG E st gh w x v):dG E' est kY w (mkS ins n k).1 v∧(mkS ins n k).2=n+us.length:=by
 cases k with
 |one k=>
  cases x with
  |v x=>
   cases x with
   |one x=>
    obtain ⟨a1,a2⟩:=QB hP hC h hk hc hgs hm ha hr.dJ
    exact ⟨dG.H7 a1,a2⟩
   |agg xs=>simp [n_] at h
  |_=>simp [n_] at h
 |agg ks=>
  cases x with
  |v x=>
   cases x with
   |one x=>simp [n_] at h
   |agg xs=>
    obtain ⟨cs,hv,hl,hone,hrr⟩:=hr.GX
    simp only [SS.flags,X2] at hk
    obtain ⟨a0,a1,a2⟩:=LK hP hC h hk hc hgs hm ha hl hrr
    subst hv
    exact ⟨.v _ _ (.agg _ cs a0 hone a1),a2⟩
  |_=>simp [n_] at h
theorem Cj (hP :∀x v y a i gs,eU E st gh w x v→x.toP st.o=some (y,a,i,gs)→cin (a,i) A→(∀g∈gs,g∈vg)→cu w (E'.ok est kY w true false) y v) (hC:Cast C m nil E E' st est gh kY w) {args:List S} {vals:Nat→Value}
  (hr :∀t,dG E st gh w (args.getD t .no) (vals t)) :
  ∀{L:List (Nat×SS)} {us:List P} {c:Bool×Bool} {gs:List Nat} {r:List (Nat×Nat)} {n:Nat},eH st.o args L=some (us,c,gs,r)→(∀p∈L,p.2.flags true false=true)→cin c A→(∀g∈gs,g∈vg)→
   (∀p∈r,m p.1=some p.2)→At ins n us→(∀t x,(dB ins n L).1.lookup t=some x→dG E' est kY w x (vals t))∧(dB ins n L).2=n+us.length
 | [],us,c,gs,r,n,h,hk,hc,hgs,hm,ha=>by
  simp [eH] at h;obtain ⟨rfl,_⟩:=h;exact ⟨fun t x hx=>by simp [dB] at hx,rfl⟩
 |(t0,k)::L,us,c,gs,r,n,h,hk,hc,hgs,hm,ha=>by
  simp only [eH] at h
  split at h
  ·rename_i u c1 g1 r1 u' c2 g2 r2 h1 h2
   simp only [Q0,Q1] at h
   obtain ⟨rfl,rfl,rfl,rfl⟩:=h
   obtain ⟨a1,a2⟩:=aaC hP hC h1 (hk (t0,k) (by simp)) (uz hc) (fun g hg=>hgs g (by simp [hg])) (fun p hp=>hm p (by simp [hp])) ha.left (hr t0)
   have ih:=Cj hP hC hr (n:=n+u.length) h2 (fun p hp=>hk p (by simp [hp])) (qp hc) (fun g hg=>hgs g (by simp [hg])) (fun p hp=>hm p (by simp [hp])) ha.right
   simp only [dB,a2]
   refine ⟨fun t x hx => ?_,by rw [ih.2];simp;omega⟩
   simp only [List.lookup] at hx
   split at hx
   ·rename_i he
    have he:t=t0:=by simpa using he
    subst he
    simp only [Q0] at hx;subst hx
    exact a1
   ·exact ih.1 t x hx
  ·cases h
end
end Go.Fw

namespace Go.Fw
variable [d_]
def Enters (Pg:Program) (f:FuncId):Prop :=∀(args:Array Value) (w:World),(callFunc f args).run Pg w=.ok (.enter f args) w
def YD (rs:List Value):Value:=match rs with
 | [v]=>v
 |vs=>.tuple vs.toArray
def Sound (Pg:Program) (f:FuncId) (sp:Spec):Prop:=sp.sig.ok=true∧Enters Pg f∧
 ∀(E:Env) (w:World) (vals:List Value) (gh:Nat→Gh) (ins bZ:List P),sp.R ins bZ→E.B0=w.heap.size→E.w0=w→Rel E (mk sp.sig.pin ins) gh (fun k=>vals.getD k undef) w→vals.length=sp.sig.bH→
  Calls Pg f vals.toArray w fun e w' =>∃(rs:List Value) (bP:Nat→Gh),rs.length=sp.sig.dA∧e=.returned (YD rs)∧Rel E (mk sp.sig.aS bZ) bP (fun k=>rs.getD k undef) w'∧∀g∈sp.sig.bg,((bP g).ad=(gh g).ad∧(bP g).cap=(gh g).cap)∧((mk sp.sig.pin ins).o g).like ((mk sp.sig.aS bZ).o g)
theorem aeb {o:Nat→O} {x:W} {y:P} {a i:Bool} {gs:List Nat} (h:x.toP o=some (y,a,i,gs)):xw o gs:=by
 cases x<;>simp only [W.toP] at h
 case p=>simp only [Q0,Q1] at h;obtain ⟨_,_,_,rfl⟩:=h;exact xw.nil
 case cO=>simp only [Q0,Q1] at h;obtain ⟨_,_,_,rfl⟩:=h;exact xw.nil
 case own g=>
  split at h
  ·rename_i ho
   simp only [Q0,Q1] at h;obtain ⟨_,_,_,rfl⟩:=h
   exact vJ ho
  ·cases h
 case vw g lo hi=>
  split at h
  ·rename_i ho
   simp only [Q0,Q1] at h;obtain ⟨_,_,_,rfl⟩:=h
   exact vJ ho
  ·cases h
 all_goals cases h
theorem QC {o:Nat→O} {k:WS} {x:W} {us:List P} {c:Bool×Bool} {gs:List Nat} {r:List (Nat×Nat)} (h:fG o k x=some (us,c,gs,r)):xw o gs:=by
 cases k with
 |p a i=>
  simp only [fG] at h
  split at h
  ·rename_i ht
   simp only [Q0,Q1] at h
   obtain ⟨_,_,rfl,_⟩:=h
   exact aeb ht
  ·cases h
 |own g'=>cases x<;>simp [fG] at h;obtain ⟨_,_,rfl,_⟩:=h;exact xw.nil
 |box g' off=>
  cases off with
  |succ off=>cases x<;>simp [fG] at h
  |zero=>
   cases x with
   |box g off=>cases off<;>simp [fG] at h;obtain ⟨_,_,rfl,_⟩:=h;exact xw.nil
   |_=>simp [fG] at h
 |cO=>simp [fG] at h
 |fn f gs0=>
  cases x with
  |clo f' caps=>
   simp only [fG] at h
   split at h
   ·split at h
    ·simp only [Q0,Q1] at h;obtain ⟨_,_,rfl,_⟩:=h;exact xw.nil
    ·cases h
   ·cases h
  |_=>simp [fG] at h
 |m_ g'=>simp [fG] at h
 |no=>simp [fG] at h
 |vw g'=>simp [fG] at h
 |ep g' off=>simp [fG] at h
theorem LM {o:Nat→O} :∀{ks:List WS} {xs:List W} {us:List P} {c:Bool×Bool} {gs:List Nat} {r:List (Nat×Nat)},jB o ks xs=some (us,c,gs,r)→xw o gs
 | [],xs,us,c,gs,r,h=>by
  cases xs<;>simp [jB] at h
  obtain ⟨_,_,rfl,_⟩:=h;exact xw.nil
 |k::ks,xs,us,c,gs,r,h=>by
  cases xs with
  |nil=>simp [jB] at h
  |cons x xs=>
   simp only [jB] at h
   split at h
   ·rename_i h1 h2
    simp only [Q0,Q1] at h
    obtain ⟨_,_,rfl,_⟩:=h
    exact (QC h1).append (LM h2)
   ·cases h
theorem vS {o:Nat→O} {args:List S} :∀{L:List (Nat×SS)} {us:List P} {c:Bool×Bool} {gs:List Nat} {r:List (Nat×Nat)},eH o args L=some (us,c,gs,r)→xw o gs
 | [],us,c,gs,r,h=>by simp [eH] at h;obtain ⟨_,_,rfl,_⟩:=h;exact xw.nil
 |(t,k)::L,us,c,gs,r,h=>by
  simp only [eH] at h
  split at h
  ·rename_i h1 h2
   simp only [Q0,Q1] at h
   obtain ⟨_,_,rfl,_⟩:=h
   refine xw.append ?_ (vS h2)
   ·cases k with
    |one k=>
     generalize args.getD t S.no=z at h1
     cases z with
     |v z=>
      cases z with
      |one z=>exact QC h1
      |agg z=>simp [n_] at h1
     |_=>simp [n_] at h1
    |agg ks=>
     generalize args.getD t S.no=z at h1
     cases z with
     |v z=>
      cases z with
      |one z=>simp [n_] at h1
      |agg z=>exact LM h1
     |_=>simp [n_] at h1
  ·cases h
theorem vT {vs:List P} :∀{L:List (Nat×OS)} {n g:Nat},g∈L.map (·.1)→∃x,(gq vs n L).1.lookup g=some x
 | [],n,g,h=>by simp at h
 |(g0,k)::L,n,g,h=>by
  simp only [gq,List.lookup]
  by_cases e:g=g0
  ·subst e;simp
  ·have:(g==g0)=false:=by simpa using e
   rw [this]
   exact vT (by simpa [e] using h)
theorem kP {vs:List P} :∀{L:List (Nat×OS)} {n g:Nat} {x:O},(gq vs n L).1.lookup g=some x→∃k n',(g,k)∈L∧x=(uq vs n' k).1
 | [],n,g,x,h=>by simp [gq] at h
 |(g0,k)::L,n,g,x,h=>by
  simp only [gq,List.lookup] at h
  split at h
  ·rename_i e
   have e:g=g0:=by simpa using e
   subst e
   simp only [Q0] at h
   exact ⟨k,n,by simp,h.symm⟩
  ·obtain ⟨k',n',h1,h2⟩:=kP h
   exact ⟨k',n',by simp [h1],h2⟩
theorem xM {vs:List P} :∀{L:List (Nat×SS)} {n t:Nat} {x:S},(dB vs n L).1.lookup t=some x→∃k n',(t,k)∈L∧x=(mkS vs n' k).1
 | [],n,t,x,h=>by simp [dB] at h
 |(t0,k)::L,n,t,x,h=>by
  simp only [dB,List.lookup] at h
  split at h
  ·rename_i e
   have e:t=t0:=by simpa using e
   subst e
   simp only [Q0] at h
   exact ⟨k,n,by simp,h.symm⟩
  ·obtain ⟨k',n',h1,h2⟩:=xM h
   exact ⟨k',n',by simp [h1],h2⟩
theorem LP (vs:List P) (n:Nat) (k:WS):(qo vs n k).1.names=k.names:=by
 cases k with
 |fn f gs=>simp only [qo,uy,vP,WS.names]
 |_=>simp [qo,W.names,WS.names]
theorem Aw (vs:List P) :∀(n:Nat) (ks:List WS),(kN vs n ks).1.flatMap W.names=ks.flatMap WS.names
 |n,[]=>rfl
 |n,k::ks=>by simp [kN,LP,Aw vs _ ks]
theorem YE (vs:List P) (n:Nat) (k:SS):(mkS vs n k).1.names=k.names:=by
 cases k with
 |one k=>simpa [mkS,S.names,V.names,SS.names] using LP vs n k
 |agg ks=>simpa [mkS,S.names,V.names,SS.names] using Aw vs n ks
theorem YF (vs:List P) (n:Nat) (k:OS):(uq vs n k).1.names=k.names:=by
 cases k with
 |box ks=>simpa [uq,O.names,OS.names] using Aw vs n ks
 |arr=>simp [uq,O.names,OS.names]
 |it=>simp [uq,O.names,OS.names]
 |aP=>simp [uq,O.names,OS.names,dI]
theorem Us {j:Shape} {vs:List P} {g:Nat} (h:(mk j vs).o g≠.none):(gq vs (dB vs 0 j.slots).2 j.bf).1.lookup g=some ((mk j vs).o g):=by
 unfold mk at h ⊢
 simp only at h ⊢
 split at h
 ·rename_i x hx;rw [hx]
 ·exact absurd rfl h
theorem LQ {j:Shape} {vs:List P} {g:Nat} (h:g∉j.nms):(mk j vs).o g=.none:=by
 by_cases hn:(mk j vs).o g=.none
 ·exact hn
 ·obtain ⟨k,n',h1,h2⟩:=kP (Us hn)
  exact absurd (QQ.2 ⟨_,h1,rfl⟩) h
theorem agT {j:Shape} (hj:j.ok=true) (vs:List P):(∀t,∀g∈((mk j vs).s t).names,(mk j vs).used g=true)∧(∀g,∀g'∈((mk j vs).o g).names,(mk j vs).used g'=true)∧∀g,(mk j vs).o g≠.none→(mk j vs).used g=true:=by
 simp only [Q6,Shape.ok,X2,Wl,decide_eq_true_eq] at hj
 refine ⟨fun t g hg => ?_,fun g g' hg' => ?_,fun g hg => ?_⟩
 ·have hg:g∈(match (dB vs 0 j.slots).1.lookup t with | some x=>x | none=>S.no).names:=hg
  cases hx:(dB vs 0 j.slots).1.lookup t with
  |none=>rw [hx] at hg;simp [S.names] at hg
  |some x=>
   rw [hx] at hg
   obtain ⟨k,n',h1,h2⟩:=xM hx
   subst h2
   simp only at hg
   rw [YE] at hg
   simpa [mk] using hj.1.2 _ h1 g hg
 ·by_cases hn:(mk j vs).o g=.none
  ·rw [hn] at hg';simp [O.names] at hg'
  ·obtain ⟨k,n',h1,h2⟩:=kP (Us hn)
   rw [h2,YF] at hg'
   simpa [mk] using hj.2 _ h1 g' hg'
 ·obtain ⟨k,n',h1,h2⟩:=kP (Us hg)
  simp only [mk,Wl,decide_eq_true_eq,Shape.nms]
  exact QQ.2 ⟨_,h1,rfl⟩
section
variable {E:Env} {st:St} {gh:Nat→Gh} {w:World} {val:Nat→Value}
def Wv (h:Rel E st gh val w) (st1:St) (c:KT):Env where
 FA:=fun b=>E.ok st1 gh w c.A.1 c.A.2 b
 FI:=fun b=>E.ok st gh w c.I.1 c.I.2 b
 B0:=w.heap.size
 w0:=w
 Wr:=fun b =>∃p∈c.ren,(st.o p.2).bU=true∧(gh p.2).has b
 hg:=fun g sz rows hg=>by
  obtain ⟨g1,g2,g3⟩:=E.hg g sz rows hg
  refine ⟨Wo g1 h.size,?_,fun n x hx=>⟨(g3 n x hx).1,fun j y hy => ?_⟩⟩
  ·rintro ⟨p,hp,ho,h1⟩
   rcases (h.wr p.2 g ho h1).1 with q | q
   ·omega
   ·exact g2 q
  ·obtain ⟨u,hu1,hu2⟩:=(g3 n x hx).2 j y hy
   exact ⟨u,(World.cell?_of_block (w:=E.w0) (h.frame g g1 g2)).trans hu1,hu2.mono fun _ f=>f.elim⟩
theorem E_ {vs:List P} :∀{L:List (Nat×OS)} {n:Nat} {g:Nat} {k:OS},L.lookup g=some k→∃n',(gq vs n L).1.lookup g=some (uq vs n' k).1
 | [],n,g,k,h=>by cases h
 |(g0,k0)::L,n,g,k,h=>by
  simp only [gq,List.lookup] at h ⊢
  split at h
  ·cases h;exact ⟨_,rfl⟩
  ·exact E_ h
theorem Oh {j:Shape} {vs:List P} {g:Nat} {k:OS} (h:j.bf.lookup g=some k) :∃n',(mk j vs).o g=(uq vs n' k).1:=by
 obtain ⟨n',h1⟩:=E_ (vs:=vs) (n:=(dB vs 0 j.slots).2) h
 refine ⟨n',?_⟩
 show (match (gq vs (dB vs 0 j.slots).2 j.bf).1.lookup g with | some x=>x | none=>O.none)=_
 rw [h1]
theorem QD {j:Shape} {vs:List P} {g:Nat} (h:OS.aaA (j.bf.lookup g)=true) :∃ws,(mk j vs).o g=.box ws:=by
 cases hl:j.bf.lookup g with
 |none=>rw [hl] at h;cases h
 |some k=>
  rw [hl] at h
  cases k with
  |box ks=>obtain ⟨n',h1⟩:=Oh (vs:=vs) hl;exact ⟨_,h1⟩
  |arr=>cases h
  |it=>cases h
  |aP=>cases h
theorem zf.LU {s:zf} (h:s.aaB=true) {ins bZ:List P} :∀g∈s.bg,((Fw.mk s.pin ins).o g).like ((Fw.mk s.aS bZ).o g):=fun g hg=>by
 have:=(X2.1 h) g hg
 simp only [Q6] at this
 obtain ⟨ws,e1⟩:=QD (vs:=ins) this.1
 obtain ⟨ws',e2⟩:=QD (vs:=bZ) this.2
 rw [e1,e2];trivial
theorem mQ {p:Nat×Nat} :∀{r:List (Nat×Nat)},p∈jH r↔p∈r
 | []=>Iff.rfl
 |q::r=>by
  simp only [jH]
  cases h:(r.any fun x=>Nat.beq x.1 q.1&&Nat.beq x.2 q.2) with
  |true=>
   simp only [mQ (r:=r),QR]
   refine ⟨.inr,fun hp => ?_⟩
   rcases hp with rfl | hp
   ·obtain ⟨x,hx,e⟩:=Kj.1 h
    simp only [Q6] at e
    have e1:=Q4 e.1
    have e2:=Q4 e.2
    have:x=p:=Prod.ext e1 e2
    rw [←this];exact hx
   ·exact hp
  |false=>simp only [QR,mQ (r:=r)]
def rZ:O→O
 |.arr fz _ _ sz l=>.arr fz false false sz l
 |.aP _ _ sz au l hole=>.aP false false sz au l hole
 |x=>x
def tN:O→Bool×Bool
 |.arr _ a i _ _=>(a,i)
 |.aP a i _ _ _ _=>(a,i)
 |_=>(false,false)
def Ut:O→Bool
 |.arr _ _ _ _ _=>true
 |.aP _ _ _ _ _ _=>true
 |_=>false
theorem Uu {x y:O} (h:rZ x=rZ y) (hf:tN x=tN y) (ha:Ut x=true):x=y:=by
 cases x<;>simp only [Ut,W7] at ha<;>cases y<;>simp only [rZ,tN,O.arr.injEq,O.aP.injEq,Q1,reduceCtorEq] at h hf
 ·obtain ⟨rfl,_,_,rfl,rfl⟩:=h;obtain ⟨rfl,rfl⟩:=hf;rfl
 ·obtain ⟨_,_,rfl,rfl,rfl,rfl⟩:=h;obtain ⟨rfl,rfl⟩:=hf;rfl
theorem YG {s:zf} (hok:s.ok=true) {o:Nat→O} {args:List S} {c:KT} (hc:gX s o args=some c) (hf:c.fine s=true) :∀p∈c.ren,Ut (o p.2)=true→rZ ((mk s.pin c.ins).o p.1)=rZ (o p.2):=by
 unfold gX at hc
 split at hc
 ·rename_i u A gs r hsl
  split at hc
  ·rename_i u' I r' hob
   simp only [Q0] at hc;subst hc
   simp only [KT.fine,Q6,X2,Oe,Wl,decide_eq_true_eq,Wz,decide_eq_false_iff_not,QQ,forall_exists_index,and_imp,forall_apply_eq_imp_iff₂] at hf
   obtain ⟨⟨⟨hn2,hn1⟩,hdisj⟩,hkeys⟩:=hf
   have hn1:=jg hn1
   have hok':=hok
   simp only [zf.ok,Q6] at hok'
   obtain ⟨⟨⟨⟨⟨⟨⟨⟨aaD,Wx⟩,hps⟩,hpo⟩,_⟩,_⟩,_⟩,_⟩,_⟩:=hok'
   have hm :∀p∈r',(fun g'=>(jH r').lookup g') p.1=some p.2:=fun p hp=>lW hn1 (mQ.2 hp)
   have hAt:At (u++u') 0 (u++u'):=fun k y hk=>by rw [We];exact hk
   have ahJ :∀p∈s.pin.bf,match p.2 with | .box ws =>∀k∈ws,k.flags false true=true | .arr fz a i _=>fz=false∧a=false∧i=true | .aP a i _ _=>a=false∧i=true | .it=>False:=by
    intro p hp
    have:=(X2.1 hpo) p hp
    obtain ⟨g,k⟩:=p
    cases k with
    |box ws=>
     simp only [Q6,X2] at this
     exact fun k hk=>this.1 k hk
    |arr fz a i sz=>
     simp only [Q6,Wz] at this
     exact ⟨this.1.1,this.1.2,this.2⟩
    |aP a i sz au=>
     simp only [Q6,Wz] at this
     exact this
    |it=>simp at this
   have QE:(dB (u++u') 0 s.pin.slots).2=u.length:=by
    have :∀{L:List (Nat×SS)} {us:List P} {c:Bool×Bool} {gs:List Nat} {r:List (Nat×Nat)} {n:Nat} (vs:List P),eH o args L=some (us,c,gs,r)→(∀p∈L,p.2.flags true false=true)→(dB vs n L).2=n+us.length:=by
     intro L
     induction L with
     |nil=>intro us c gs r n vs h _;simp [eH] at h;obtain ⟨rfl,_⟩:=h;rfl
     |cons p L ih=>
      intro us c gs r n vs h hk
      obtain ⟨t0,k⟩:=p
      simp only [eH] at h
      split at h
      ·rename_i u c1 g1 r1 u' c2 g2 r2 h1 h2
       simp only [Q0,Q1] at h
       obtain ⟨rfl,rfl,rfl,rfl⟩:=h
       have e1:(mkS vs n k).2=n+u.length:=by
        have hkk:=hk (t0,k) (by simp)
        have one :∀(k:WS) (x:W) (us:List P) (c:Bool×Bool) (gs:List Nat) (r:List (Nat×Nat)) (n:Nat),fG o k x=some (us,c,gs,r)→(qo vs n k).2=n+us.length:=by
         intro k x us c gs r n h
         cases k with
         |p a i=>
          simp only [fG] at h
          split at h
          ·simp only [Q0,Q1] at h;obtain ⟨rfl,_⟩:=h;rfl
          ·cases h
         |own g'=>cases x<;>simp [fG] at h;obtain ⟨rfl,_⟩:=h;rfl
         |box g' off=>
          cases off with
          |succ off=>cases x<;>simp [fG] at h
          |zero=>
           cases x with
           |box g off=>cases off<;>simp [fG] at h;obtain ⟨rfl,_⟩:=h;rfl
           |_=>simp [fG] at h
         |cO=>simp [fG] at h
         |fn f gs0=>
          cases x with
          |clo f' caps=>
           simp only [fG] at h
           split at h
           ·split at h
            ·simp only [Q0,Q1] at h;obtain ⟨rfl,_⟩:=h;rfl
            ·cases h
           ·cases h
          |_=>simp [fG] at h
         |m_ g'=>simp [fG] at h
         |no=>simp [fG] at h
         |vw g'=>simp [fG] at h
         |ep g' off=>simp [fG] at h
        cases k with
        |one k=>
         generalize args.getD t0 S.no=z at h1
         cases z with
         |v z=>
          cases z with
          |one z=>exact one k z _ _ _ _ n h1
          |agg z=>simp [n_] at h1
         |_=>simp [n_] at h1
        |agg ks=>
         generalize args.getD t0 S.no=z at h1
         cases z with
         |v z=>
          cases z with
          |one z=>simp [n_] at h1
          |agg z=>
           have :∀(ks:List WS) (z:List W) (us:List P) (c:Bool×Bool) (gs:List Nat) (r:List (Nat×Nat)) (n:Nat),jB o ks z=some (us,c,gs,r)→(kN vs n ks).2=n+us.length:=by
            intro ks
            induction ks with
            |nil=>intro z us c gs r n h;cases z<;>simp [jB] at h;obtain ⟨rfl,_⟩:=h;rfl
            |cons k ks ih=>
             intro z us c gs r n h
             cases z with
             |nil=>simp [jB] at h
             |cons x xs=>
              simp only [jB] at h
              split at h
              ·rename_i u c1 g1 r1 u' c2 g2 r2 h1 h2
               simp only [Q0,Q1] at h
               obtain ⟨rfl,rfl,rfl,rfl⟩:=h
               simp only [kN]
               rw [one k x _ _ _ _ n h1,ih _ _ _ _ _ _ h2];simp;omega
              ·cases h
           exact this ks z _ _ _ _ n h1
         |_=>simp [n_] at h1
       simp only [dB]
       rw [e1,ih vs h2 (fun p hp=>hk p (by simp [hp]))];simp;omega
      ·cases h
    have:=this (n:=0) (u++u') hsl (fun p hp=>by have:=(X2.1 hps) p hp;simp only [Q6] at this;exact this.1)
    omega
   obtain ⟨⟨r0,hr0⟩,QF⟩:=uD (m:=fun g'=>(jH r').lookup g') (nil:=fun _=>False) (I:=I) (ins:=u++u') (n:=u.length) hob ahJ (Ip I) hm (by have:=hAt.right;rwa [We] at this)
   have DI :∀g' x,(mk s.pin (u++u')).o g'=x→x≠.none→∃g,(jH r').lookup g'=some g∧Ow (Cio I) (fun g'=>(jH r').lookup g') (fun _=>False) (o g) x∧(g',g)∈jH r'∧(o g).bU=true∧((∃ws,x=.box ws)∨(∃l sz,x=.arr false false true sz l)∨∃l sz au,x=.aP false true sz au l none):=by
    intro g' x hx hne
    have:=Us (j:=s.pin) (vs:=u++u') (g:=g') (by rw [hx];exact hne)
    rw [QE,hx] at this
    obtain ⟨g,k1,k2,k3,k4⟩:=QF g' x this
    exact ⟨g,k1,k2,mQ.2 k3,k4⟩
   intro p hp ha
   have hkey:p.1∈s.pin.bf.map (·.1):=hkeys p hp
   obtain ⟨x,hx⟩:=vT (vs:=u++u') (n:=u.length) hkey
   obtain ⟨g,hg,how,hmem,hown,hsh⟩:=QF p.1 x hx
   have hl:=lW hn1 hp
   have:g=p.2:=by have hg':(jH r').lookup p.1=some g:=hg;rw [hl] at hg';exact (Wf hg').symm
   subst this
   have hmk:(mk s.pin (u++u')).o p.1=x:=by
    show (match (gq (u++u') (dB (u++u') 0 s.pin.slots).2 s.pin.bf).1.lookup p.1 with | some x=>x | none=>O.none)=x
    rw [QE,hx]
   rw [hmk]
   generalize hz:o p.2=z at how ha
   rcases hsh with ⟨ws,rfl⟩ | ⟨l,sz,rfl⟩ | ⟨l,sz,au,rfl⟩
   ·cases how;cases ha
   ·cases how;rfl
   ·cases how;rfl
  ·cases hc
 ·cases hc
theorem Uw (h:Rel E st gh val w) {s:zf} (hok:s.ok=true) {args:List S} {vals:Nat→Value} (hr :∀t,dG E st gh w (args.getD t .no) (vals t)) {c:KT} (hc:gX s st.o args=some c) (hf:c.fine s=true)
  (st1:St) (hst1:st1=st.aK (c.vg.map (Fw.aV st.o)) []) (E':Env) (hE':E'=Wv h st1 c) :
  Rel E st1 gh val w∧Lets E st st1 gh gh w w∧Rel E' (mk s.pin c.ins) (jr gh fun g'=>c.ren.lookup g') vals w∧
  (∀p∈c.ren,(st.o p.2).bU=true∧p.2∉c.vg∧c.ren.lookup p.1=some p.2∧((s.bg.contains p.1=true∧∃ws ws',st.o p.2=.box ws∧(mk s.pin c.ins).o p.1=.box ws')∨(∃a i sz l,st.o p.2=.arr false a i sz l∧cin (a,i) c.I∧(mk s.pin c.ins).o p.1=.arr false false true sz l)∨(∃a i sz au l,st.o p.2=.aP a i sz au l none∧cin (a,i) c.I∧(mk s.pin c.ins).o p.1=.aP false true sz au l none))):=by
 unfold gX at hc
 split at hc
 ·rename_i u A gs r hsl
  split at hc
  ·rename_i u' I r' hob
   simp only [Q0] at hc;subst hc
   simp only [KT.fine,Q6,X2,Oe,Wl,decide_eq_true_eq,Wz,decide_eq_false_iff_not,QQ,forall_exists_index,and_imp,forall_apply_eq_imp_iff₂] at hf
   obtain ⟨⟨⟨hn2,hn1⟩,hdisj⟩,hkeys⟩:=hf
   have hn1:=jg hn1
   have hok':=hok
   simp only [zf.ok,Q6] at hok'
   obtain ⟨⟨⟨⟨⟨⟨⟨⟨aaD,Wx⟩,hps⟩,hpo⟩,_⟩,_⟩,_⟩,_⟩,_⟩:=hok'
   have ahK:=vS hsl
   obtain ⟨f1,f2⟩:=Rel.freezes gs h ahK
   subst hst1
   have hm :∀p∈r',(fun g'=>(jH r').lookup g') p.1=some p.2:=fun p hp=>lW hn1 (mQ.2 hp)
   have hAt:At (u++u') 0 (u++u'):=fun k y hk=>by rw [We];exact hk
   have ahJ :∀p∈s.pin.bf,match p.2 with | .box ws =>∀k∈ws,k.flags false true=true | .arr fz a i _=>fz=false∧a=false∧i=true | .aP a i _ _=>a=false∧i=true | .it=>False:=by
    intro p hp
    have:=(X2.1 hpo) p hp
    obtain ⟨g,k⟩:=p
    cases k with
    |box ws=>
     simp only [Q6,X2] at this
     exact fun k hk=>this.1 k hk
    |arr fz a i sz=>
     simp only [Q6,Wz] at this
     exact ⟨this.1.1,this.1.2,this.2⟩
    |aP a i sz au=>
     simp only [Q6,Wz] at this
     exact this
    |it=>simp at this
   have QE:(dB (u++u') 0 s.pin.slots).2=u.length:=by
    have :∀{L:List (Nat×SS)} {us:List P} {c:Bool×Bool} {gs:List Nat} {r:List (Nat×Nat)} {n:Nat} (vs:List P),eH st.o args L=some (us,c,gs,r)→(∀p∈L,p.2.flags true false=true)→(dB vs n L).2=n+us.length:=by
     intro L
     induction L with
     |nil=>intro us c gs r n vs h _;simp [eH] at h;obtain ⟨rfl,_⟩:=h;rfl
     |cons p L ih=>
      intro us c gs r n vs h hk
      obtain ⟨t0,k⟩:=p
      simp only [eH] at h
      split at h
      ·rename_i u c1 g1 r1 u' c2 g2 r2 h1 h2
       simp only [Q0,Q1] at h
       obtain ⟨rfl,rfl,rfl,rfl⟩:=h
       have e1:(mkS vs n k).2=n+u.length:=by
        have hkk:=hk (t0,k) (by simp)
        have one :∀(k:WS) (x:W) (us:List P) (c:Bool×Bool) (gs:List Nat) (r:List (Nat×Nat)) (n:Nat),fG st.o k x=some (us,c,gs,r)→(qo vs n k).2=n+us.length:=by
         intro k x us c gs r n h
         cases k with
         |p a i=>
          simp only [fG] at h
          split at h
          ·simp only [Q0,Q1] at h;obtain ⟨rfl,_⟩:=h;rfl
          ·cases h
         |own g'=>cases x<;>simp [fG] at h;obtain ⟨rfl,_⟩:=h;rfl
         |box g' off=>
          cases off with
          |succ off=>cases x<;>simp [fG] at h
          |zero=>
           cases x with
           |box g off=>cases off<;>simp [fG] at h;obtain ⟨rfl,_⟩:=h;rfl
           |_=>simp [fG] at h
         |cO=>simp [fG] at h
         |fn f gs0=>
          cases x with
          |clo f' caps=>
           simp only [fG] at h
           split at h
           ·split at h
            ·simp only [Q0,Q1] at h;obtain ⟨rfl,_⟩:=h;rfl
            ·cases h
           ·cases h
          |_=>simp [fG] at h
         |m_ g'=>simp [fG] at h
         |no=>simp [fG] at h
         |vw g'=>simp [fG] at h
         |ep g' off=>simp [fG] at h
        cases k with
        |one k=>
         generalize args.getD t0 S.no=z at h1
         cases z with
         |v z=>
          cases z with
          |one z=>exact one k z _ _ _ _ n h1
          |agg z=>simp [n_] at h1
         |_=>simp [n_] at h1
        |agg ks=>
         generalize args.getD t0 S.no=z at h1
         cases z with
         |v z=>
          cases z with
          |one z=>simp [n_] at h1
          |agg z=>
           have :∀(ks:List WS) (z:List W) (us:List P) (c:Bool×Bool) (gs:List Nat) (r:List (Nat×Nat)) (n:Nat),jB st.o ks z=some (us,c,gs,r)→(kN vs n ks).2=n+us.length:=by
            intro ks
            induction ks with
            |nil=>intro z us c gs r n h;cases z<;>simp [jB] at h;obtain ⟨rfl,_⟩:=h;rfl
            |cons k ks ih=>
             intro z us c gs r n h
             cases z with
             |nil=>simp [jB] at h
             |cons x xs=>
              simp only [jB] at h
              split at h
              ·rename_i u c1 g1 r1 u' c2 g2 r2 h1 h2
               simp only [Q0,Q1] at h
               obtain ⟨rfl,rfl,rfl,rfl⟩:=h
               simp only [kN]
               rw [one k x _ _ _ _ n h1,ih _ _ _ _ _ _ h2];simp;omega
              ·cases h
           exact this ks z _ _ _ _ n h1
         |_=>simp [n_] at h1
       simp only [dB]
       rw [e1,ih vs h2 (fun p hp=>hk p (by simp [hp]))];simp;omega
      ·cases h
    have:=this (n:=0) (u++u') hsl (fun p hp=>by have:=(X2.1 hps) p hp;simp only [Q6] at this;exact this.1)
    omega
   obtain ⟨⟨r0,hr0⟩,QF⟩:=uD (m:=fun g'=>(jH r').lookup g') (nil:=fun _=>False) (I:=I) (ins:=u++u') (n:=u.length) hob ahJ (Ip I) hm (by have:=hAt.right;rwa [We] at this)
   have DI :∀g' x,(mk s.pin (u++u')).o g'=x→x≠.none→∃g,(jH r').lookup g'=some g∧Ow (Cio I) (fun g'=>(jH r').lookup g') (fun _=>False) (st.o g) x∧(g',g)∈jH r'∧(st.o g).bU=true∧((∃ws,x=.box ws)∨(∃l sz,x=.arr false false true sz l)∨∃l sz au,x=.aP false true sz au l none):=by
    intro g' x hx hne
    have:=Us (j:=s.pin) (vs:=u++u') (g:=g') (by rw [hx];exact hne)
    rw [QE,hx] at this
    obtain ⟨g,k1,k2,k3,k4⟩:=QF g' x this
    exact ⟨g,k1,k2,mQ.2 k3,k4⟩
   have iy :∀p∈jH r',(st.o p.2).bU=true∧p.2∉gs∧(jH r').lookup p.1=some p.2∧((s.bg.contains p.1=true∧∃ws ws',st.o p.2=.box ws∧(mk s.pin (u++u')).o p.1=.box ws')∨(∃a i sz l,st.o p.2=.arr false a i sz l∧cin (a,i) I∧(mk s.pin (u++u')).o p.1=.arr false false true sz l)∨(∃a i sz au l,st.o p.2=.aP a i sz au l none∧cin (a,i) I∧(mk s.pin (u++u')).o p.1=.aP false true sz au l none)):=by
    intro p hp
    have hkey:p.1∈s.pin.bf.map (·.1):=hkeys p hp
    obtain ⟨x,hx⟩:=vT (vs:=u++u') (n:=u.length) hkey
    obtain ⟨g,hg,how,hmem,hown,_⟩:=QF p.1 x hx
    have hl:=lW hn1 hp
    have:g=p.2:=by have hg':(jH r').lookup p.1=some g:=hg;rw [hl] at hg';exact (Wf hg').symm
    subst this
    refine ⟨hown,hdisj p hp,hl,?_⟩
    have hmk:(mk s.pin (u++u')).o p.1=x:=by
     show (match (gq (u++u') (dB (u++u') 0 s.pin.slots).2 s.pin.bf).1.lookup p.1 with | some x=>x | none=>O.none)=x
     rw [QE,hx]
    obtain ⟨k,n',h1,h2⟩:=kP hx
    have hk:=(X2.1 hpo) _ h1
    rw [hmk]
    subst h2
    cases k with
    |box ws=>
     simp only [Q6] at hk
     generalize hz:st.o p.2=z at how
     cases how
     exact .inl ⟨hk.2,_,_,rfl,rfl⟩
    |arr fz a i sz=>
     simp only [Q6,Wz] at hk
     obtain ⟨⟨rfl,rfl⟩,rfl⟩:=hk
     generalize hz:st.o p.2=z at how
     refine .inr (.inl ?_)
     cases how with | arr _ _ _ hc=>exact ⟨_,_,_,_,rfl,hc.2.2,rfl⟩
    |aP a i sz au=>
     simp only [Q6,Wz] at hk
     obtain ⟨rfl,rfl⟩:=hk
     generalize hz:st.o p.2=z at how
     refine .inr (.inr ?_)
     cases how with | aP _ _ _ hc=>exact ⟨_,_,_,_,_,rfl,hc.2.2,rfl⟩
    |it=>simp at hk
   have pI :∀g' b,((mk s.pin (u++u')).o g').bU=true→(jr gh (fun g'=>(jH r').lookup g') g').has b→∃g,(g',g)∈jH r'∧(st.o g).bU=true∧(gh g).has b∧g∉gs:=by
    intro g' b ho had
    obtain ⟨g,hg,_,hmem,hown,_⟩:=DI g' _ rfl (by intro e;rw [e] at ho;cases ho)
    refine ⟨g,hmem,hown,?_,(iy _ hmem).2.1⟩
    simpa [jr,hg] using had
   have aj2 :∀g,g∉gs→(st.aK (gs.map (Fw.aV st.o)) []).o g=st.o g:=by
    intro g hg
    rw [fU,if_neg hg]
   have hcast:Cast (Cio I) (fun g'=>(jH r').lookup g') (fun _=>False) E E' st (mk s.pin (u++u')) gh (jr gh fun g'=>(jH r').lookup g') w:=by
    refine ⟨fun a i a' i' b hC hb => ?_,fun g g' hg sz len ho=>⟨by simp only [jr,hg];exact ⟨trivial,trivial⟩,?_⟩,fun g g' hg ws ho=>⟨by simp only [jr,hg],?_⟩,fun g g' hg s n ho=>⟨by simp only [jr,hg],?_⟩,fun g' hf=>hf.elim⟩
    ·obtain ⟨rfl,rfl,hci⟩:=hC
     subst hE'
     refine ⟨.inr (.inl ⟨rfl,.inl (Env.oW hci.1 hci.2 hb)⟩),hb.2.1,fun g' ho had => ?_⟩
     obtain ⟨g,_,h1,h2,_⟩:=pI g' b ho had
     exact hb.2.2 g h1 h2
    ·obtain ⟨g2,hg2,how,_⟩:=DI g' _ rfl (by intro e;rw [e] at ho;cases ho)
     rw [hg] at hg2;cases hg2
     exact how.dim ho
    ·obtain ⟨g2,hg2,how,_⟩:=DI g' _ ho (by simp)
     rw [hg] at hg2;cases hg2
     generalize st.o g=z at how
     cases how;exact ⟨_,rfl⟩
    ·obtain ⟨g2,hg2,how,_⟩:=DI g' _ ho (by simp)
     rw [hg] at hg2;cases hg2
     generalize st.o g=z at how
     cases how;exact ⟨_,_,rfl⟩
   have hP :∀x v y a i gs',eU E st gh w x v→x.toP st.o=some (y,a,i,gs')→cin (a,i) A→(∀g∈gs',g∈gs)→cu w (E'.ok (mk s.pin (u++u')) (jr gh fun g'=>(jH r').lookup g') w true false) y v:=by
    intro x v y a i gs' hrx ht hci hsub
    have:=(NW h hrx ht).2 _ (fun g hg=>by rw [fU,if_pos (hsub g hg)]) f1 f2
    refine this.mono fun b hb=>⟨?_,rfl⟩
    subst hE'
    refine ⟨.inl ⟨rfl,Env.oW hci.1 hci.2 hb⟩,hb.2.1,fun g' ho had => ?_⟩
    obtain ⟨g,_,h1,h2,h3⟩:=pI g' b ho had
    exact hb.2.2 g (by rw [aj2 g h3];exact h1) h2
   have ani :∀p∈s.pin.slots,p.2.flags true false=true:=fun p hp=>by have:=(X2.1 hps) p hp;simp only [Q6] at this;exact this.1
   have tJ:=(Cj hP hcast hr (n:=0) hsl ani (Ip A) (fun g hg=>hg) (fun p hp=>hm p (by rw [hr0];exact W3 _ hp)) hAt.left).1
   have hus:=agT aaD (u++u')
   refine ⟨f1,f2,⟨fun t => ?_,fun g' => ?_,fun g1 g2 b h1 h2 k1 k2 => ?_,fun g' b ho had => ?_,fun g' i b ho had hw => ?_,fun g' ho hd b => ?_,fun b hb => ?_,fun b _ _ => ?_,?_,?_,?_,?_,hus.1,hus.2.1,hus.2.2⟩,iy⟩
   ·show dG _ _ _ _ (match (dB (u++u') 0 s.pin.slots).1.lookup t with | some x=>x | none=>.no) _
    cases hx:(dB (u++u') 0 s.pin.slots).1.lookup t with
    |none=>exact .no _
    |some x=>exact tJ t x hx
   ·by_cases hne:(mk s.pin (u++u')).o g'=.none
    ·rw [hne];trivial
    ·obtain ⟨g,hg,how,_⟩:=DI g' _ rfl hne
     have:jr gh (fun g'=>(jH r').lookup g') g'=gh g:=by simp only [jr,hg]
     rw [this]
     exact hcast.BM how (h.bf g)
   ·obtain ⟨q1,m1,o1,d1,_⟩:=pI g1 b h1 k1
    obtain ⟨q2,m2,o2,d2,_⟩:=pI g2 b h2 k2
    have:=h.inj q1 q2 b o1 o2 d1 d2
    subst this
    have hn2:=jg hn2
    have key :∀{l:List (Nat×Nat)},(l.map (·.2)).Nodup→(g1,q1)∈l→(g2,q1)∈l→g1=g2:=by
     intro l
     induction l with
     |nil=>intro _ h;cases h
     |cons p l ih=>
      intro hn e1 e2
      simp only [Qf,VM] at hn
      rcases QR.1 e1 with f1 | f1<;>rcases QR.1 e2 with f2 | f2
      ·rw [←f1] at f2;cases f2;rfl
      ·have:q1∈l.map (·.2):=QQ.2 ⟨(g2,q1),f2,rfl⟩
       rw [←f1] at hn;exact absurd this hn.1
      ·have:q1∈l.map (·.2):=QQ.2 ⟨(g1,q1),f1,rfl⟩
       rw [←f2] at hn;exact absurd this hn.1
      ·exact ih hn.2 f1 f2
    exact key hn2 m1 m2
   ·obtain ⟨g,hmem,h1,h2,_⟩:=pI g' b ho had
    subst hE'
    exact ⟨.inr ⟨(g',g),hmem,h1,h2⟩,(h.wr g b h1 h2).2⟩
   ·obtain ⟨g,hg,how,hmem,hown,hsh⟩:=DI g' _ rfl (by intro e;rw [e] at ho;cases ho)
    rcases hsh with ⟨ws,e⟩ | ⟨l',sz',e⟩ | ⟨l',sz',au,e⟩
    ·rw [e] at ho;cases ho
    ·rw [e] at ho;cases ho;rfl
    ·rw [e] at ho;cases ho;rfl
   ·obtain ⟨g,hg,how,hmem,hown,hsh⟩:=DI g' _ rfl (by intro e;rw [e] at ho;cases ho)
    have e:jr gh (fun g'=>(jH r').lookup g') g'=gh g:=by simp only [jr,hg]
    rw [e]
    exact h.ns g hown (by rw [(how.bU ho).2];exact hd) b
   ·subst hE'
    obtain ⟨p,hp,_,h1⟩:=hb
    exact (h.wr p.2 b (iy p hp).1 h1).2
   ·subst hE';rfl
   ·subst hE';exact YY _
   ·subst hE';rfl
   ·subst hE';rfl
   ·subst hE';rfl
  ·cases hc
 ·cases hc
end
end Go.Fw

namespace Go.Fw
variable [d_]
def Fa (A I:Bool×Bool) (lk:Bool) (a i a' i':Bool):Prop:=(a',i')=qJ A I a i∧(a=true→lk=true)
section
variable {A I:Bool×Bool} {lk:Bool} {m:Nat→Option Nat} {f:Nat→Nat} {aX:List Nat} {vs:List P}
theorem agU (hm :∀g∈aX,m (f g)=some g) {k:WS} (hk:k.bZ aX=true) (hl:k.isA=true→lk=true) (n:Nat) :
  Ww (Fa A I lk) m (fun _=>False) (qo vs n k).1 (Ua A I f (qo vs n k).1)∧∀g∈(Ua A I f (qo vs n k).1).names,∃g0∈aX,g=f g0:=by
 cases k with
 |p a i=>exact ⟨.p _ ⟨rfl,hl⟩,by simp [qo,Ua,W.names]⟩
 |own g=>
  simp only [WS.bZ,Wl,decide_eq_true_eq] at hk
  exact ⟨.own (hm g hk),fun g' hg'=>⟨g,hk,by simpa [qo,Ua,W.names] using hg'⟩⟩
 |cO=>exact ⟨.cO,by simp [qo,Ua,W.names]⟩
 |box g off=>
  simp only [WS.bZ,Wl,decide_eq_true_eq] at hk
  exact ⟨.box (hm g hk),fun g' hg'=>⟨g,hk,by simpa [qo,Ua,W.names] using hg'⟩⟩
 |fn fn gs=>
  have hk :∀g∈gs,g∈aX:=by simpa [WS.bZ,X2] using hk
  have key :∀(gs:List Nat),(∀g∈gs,g∈aX)→(f_ gs).length=(kF f (f_ gs)).length∧(∀(j:Nat) x y,(f_ gs)[j]?=some x→(kF f (f_ gs))[j]?=some y→Ww (Fa A I lk) m (fun _=>False) x y)∧∀g∈(kF f (f_ gs)).flatMap W.names,∃g0∈aX,g=f g0:=by
   intro gs
   induction gs with
   |nil=>intro _;exact ⟨rfl,fun j x y hx=>(by simp [f_] at hx),by simp [f_,kF]⟩
   |cons g gs ih=>
    intro h
    obtain ⟨e1,e2,e3⟩:=ih fun g hg=>h g (by simp [hg])
    refine ⟨by simp [f_,kF,e1],fun j x y hx hy => ?_,fun g' hg' => ?_⟩
    ·cases j with
     |zero=>
      simp [f_,kF] at hx hy;subst hx hy
      exact .box (hm g (h g (by simp)))
     |succ j=>simp [f_,kF] at hx hy;exact e2 j x y hx hy
    ·simp only [f_,kF,ZS,X1] at hg'
     rcases hg' with hg' | hg'
     ·exact ⟨g,h g (by simp),by simpa [W.names] using hg'⟩
     ·exact e3 g' hg'
  obtain ⟨e1,e2,e3⟩:=key gs hk
  exact ⟨.clo fn _ _ e1 e2,fun g hg=>by
   have hg:g∈(W.clo fn (kF f (f_ gs))).names:=hg
   rw [uy] at hg
   exact e3 g hg⟩
 |m_ g=>cases hk
 |no=>cases hk
 |vw g=>cases hk
 |ep g off=>cases hk
theorem QG :∀{ks:List WS} {n:Nat} {x:W},x∈(kN vs n ks).1→∃k∈ks,∃n',x=(qo vs n' k).1
 | [],n,x,h=>by simp [kN] at h
 |k::ks,n,x,h=>by
  simp only [kN,QR] at h
  rcases h with h | h
  ·exact ⟨k,by simp,n,h⟩
  ·obtain ⟨k',h1,h2⟩:=QG h
   exact ⟨k',by simp [h1],h2⟩
theorem aaE (hm :∀g∈aX,m (f g)=some g) {ks:List WS} (hk:ks.all (WS.bZ aX)=true) (hl:ks.any WS.isA=true→lk=true) (n:Nat) :
  (∀(j:Nat) x y,(kN vs n ks).1[j]?=some x→((kN vs n ks).1.map (Ua A I f))[j]?=some y→Ww (Fa A I lk) m (fun _=>False) x y)∧
  ∀g∈((kN vs n ks).1.map (Ua A I f)).flatMap W.names,∃g0∈aX,g=f g0:=by
 have key :∀x∈(kN vs n ks).1,Ww (Fa A I lk) m (fun _=>False) x (Ua A I f x)∧∀g∈(Ua A I f x).names,∃g0∈aX,g=f g0:=by
  intro x hx
  obtain ⟨k,h1,n',rfl⟩:=QG hx
  exact agU hm ((X2.1 hk) k h1) (fun h=>hl (Kj.2 ⟨k,h1,h⟩)) n'
 refine ⟨fun j x y hx hy => ?_,fun g hg => ?_⟩
 ·rw [XS,hx] at hy
  simp only [ZZ,Q0] at hy
  subst hy
  exact (key x (Xs hx)).1
 ·simp only [Ys,QQ] at hg
  obtain ⟨_,⟨x,hx,rfl⟩,hg⟩:=hg
  exact (key x hx).2 g hg
theorem aj3 (hm :∀g∈aX,m (f g)=some g) {k:SS} (hk:k.bZ aX=true) (hl:k.isA=true→lk=true) (n:Nat) :
  ∃x,(mkS vs n k).1=.v x∧Vw (Fa A I lk) m (fun _=>False) x (reV A I f x)∧∀g∈(reV A I f x).names,∃g0∈aX,g=f g0:=by
 cases k with
 |one k=>
  obtain ⟨h1,h2⟩:=agU (vs:=vs) (A:=A) (I:=I) hm hk hl n
  exact ⟨_,rfl,.one h1,h2⟩
 |agg ks=>
  obtain ⟨h1,h2⟩:=aaE (vs:=vs) (A:=A) (I:=I) hm hk hl n
  exact ⟨_,rfl,.agg _ _ (by simp) h1,h2⟩
theorem aj6 (hm :∀g∈aX,m (f g)=some g) {k:OS} (hk :∀ws,k=.box ws→ws.all (WS.bZ aX)=true) (hl:k.isA=true→lk=true) (n:Nat) :
  Ow (Fa A I lk) m (fun _=>False) (uq vs n k).1 (xg A I f (uq vs n k).1)∧∀g∈(xg A I f (uq vs n k).1).names,∃g0∈aX,g=f g0:=by
 cases k with
 |box ks=>
  obtain ⟨h1,h2⟩:=aaE (vs:=vs) (A:=A) (I:=I) hm (hk ks rfl) hl n
  exact ⟨.box _ _ (by simp) h1,h2⟩
 |arr fz a i sz=>exact ⟨.arr _ _ _ ⟨rfl,hl⟩,by simp [uq,xg,O.names]⟩
 |it=>exact ⟨.it _ _,by simp [uq,xg,O.names]⟩
 |aP a i sz au=>exact ⟨.aP _ _ _ ⟨rfl,hl⟩,by simp [uq,xg,O.names,dI]⟩
end
theorem LV {A I:Bool×Bool} {f:Nat→Nat} (x:O):(xg A I f x).bU=x.bU:=by cases x<;>rfl
theorem Ux {A I:Bool×Bool} {f:Nat→Nat} (x:O):(xg A I f x).nV=x.nV:=by cases x<;>rfl
theorem aec {A I:Bool×Bool} {f:Nat→Nat} (x:O):(xg A I f x).dim=x.dim:=by cases x<;>rfl
theorem YH {A I:Bool×Bool} {f:Nat→Nat} {x:O} {i:Bool} (h:(xg A I f x).inner=some i) :∃a i0,x.inner=some i0∧i=(qJ A I a i0).2:=by
 cases x with
 |arr fz a i0 sz l=>
  cases fz with
  |false=>cases h;exact ⟨a,i0,rfl,rfl⟩
  |true=>cases h
 |aP a i0 sz au l hole=>cases h;exact ⟨a,i0,rfl,rfl⟩
 |_=>cases h
theorem aed {A I:Bool×Bool} {f:Nat→Nat} {x:O} {ws:List W} (h:xg A I f x=.box ws) :∃ws',x=.box ws':=by cases x<;>first | exact ⟨_,rfl⟩ | cases h
theorem ahL {A I:Bool×Bool} {f:Nat→Nat} {x:O} {s n:P} (h:xg A I f x=.it s n) :∃s' n',x=.it s' n':=by cases x<;>first | exact ⟨_,_,rfl⟩ | cases h
theorem Fb {d:Nat} {aX:List Nat} {g g':Nat} (hg:g∈aX) (h:newName d aX g=newName d aX g'):g=g':=by
 unfold newName at h
 have e:aX.idxOf g=aX.idxOf g':=by omega
 have h1:aX.idxOf g<aX.length:=List.idxOf_lt_length_of_mem hg
 have h2:aX.idxOf g'<aX.length:=by omega
 have a1:=List.getElem_idxOf h1
 have a2:=List.getElem_idxOf h2
 rw [←a1,←a2];congr 1
def xO (d:Nat) (aX:List Nat) (g:Nat):Option Nat:=aX.find? fun g0=>newName d aX g0==g
theorem Oi {d:Nat} {aX:List Nat} {g:Nat} (hg:g∈aX):xO d aX (newName d aX g)=some g:=by
 unfold xO
 cases h:aX.find? fun g0=>newName d aX g0==newName d aX g with
 |none=>have:=List.find?_eq_none.1 h g hg;simp at this
 |some g'=>
  have h1:=qf h
  simp only [beq_iff_eq] at h1
  rw [Fb (K2 h) h1]
theorem KU {d:Nat} {aX:List Nat} {g g0:Nat} (h:xO d aX g=some g0):g0∈aX∧newName d aX g0=g:=by
 unfold xO at h
 exact ⟨K2 h,by simpa using qf h⟩
theorem kZ {α:Type} {g:Nat} :∀{l r:List (Nat×α)},(l++r).lookup g=(l.lookup g).or (r.lookup g)
 | [],r=>by simp
 |(k,v)::l,r=>by
  simp only [JS,List.lookup]
  split
  ·rfl
  ·exact kZ
theorem xP {α:Type} {k:Nat→Nat} {v:Nat→α} {g:Nat} :∀{l:List Nat},(∀g'∈l,k g'≠g)→(l.map fun x=>(k x,v x)).lookup g=none
 | [],_=>rfl
 |x::l,h=>by
  have:(g==k x)=false:=by have:=h x (by simp);simp;exact fun e=>this e.symm
  simp only [Qf,List.lookup,this]
  exact xP fun g' hg'=>h g' (by simp [hg'])
theorem wQ {α:Type} {k:Nat→Nat} {v:Nat→α} {g0:Nat} :∀{l:List Nat},g0∈l→(∀g'∈l,k g'=k g0→g'=g0)→(l.map fun x=>(k x,v x)).lookup (k g0)=some (v g0)
 | [],h,_=>by cases h
 |x::l,h,hi=>by
  simp only [Qf,List.lookup]
  by_cases e:k x=k g0
  ·have:=hi x (by simp) e
   subst this;simp
  ·have:(k g0==k x)=false:=by simp;exact fun h=>e h.symm
   rw [this]
   rcases QR.1 h with h | h
   ·subst h;exact absurd rfl e
   ·exact wQ h fun g' hg'=>hi g' (by simp [hg'])
theorem kQ {α:Type} {v:Nat×Nat→α} {p:Nat×Nat} :∀{l:List (Nat×Nat)},(l.map (·.2)).Nodup→p∈l→(l.map fun p=>(p.2,v p)).lookup p.2=some (v p)
 | [],_,h=>by cases h
 |x::l,hn,h=>by
  simp only [Qf,VM] at hn
  simp only [Qf,List.lookup]
  rcases QR.1 h with h | h
  ·subst h;simp
  ·have:(p.2==x.2)=false:=by
    simp only [beq_eq_false_iff_ne]
    intro e
    exact hn.1 (e▸QQ.2 ⟨p,h,rfl⟩)
   rw [this]
   exact kQ hn.2 h
theorem lJ {α:Type} {v:Nat×Nat→α} {g:Nat} :∀{l:List (Nat×Nat)},g∉l.map (·.2)→(l.map fun p=>(p.2,v p)).lookup g=none
 | [],_=>rfl
 |x::l,h=>by
  simp only [Qf,QR,not_or] at h
  have:(g==x.2)=false:=by simpa using h.1
  simp only [Qf,List.lookup,this]
  exact lJ h.2
theorem O.DX {z:O} (h:O.none.like z):z=.none:=by cases z<;>first | rfl | exact h.elim
theorem O.Iq {x y z:O} (h1:x.like y) (h2:y.like z):z=.none∨x.like z:=.inr (O.like.trans h1 h2)
theorem Uy {s:zf} {o:Nat→O} {args:List S} {c:KT} (hc:gX s o args=some c):xw o c.vg:=by
 unfold gX at hc
 split at hc
 ·rename_i hsl
  split at hc
  ·simp only [Q0] at hc;subst hc
   exact vS hsl
  ·cases hc
 ·cases hc
theorem Az {α:Type} {g:Nat} {v:α} :∀{l:List (Nat×α)},l.lookup g=some v→(g,v)∈l
 | [],h=>by cases h
 |(k,x)::l,h=>by
  simp only [List.lookup] at h
  split at h
  ·rename_i e
   simp only [beq_iff_eq] at e
   cases h;subst e;simp
  ·exact US _ (Az h)
theorem r_ {o:Nat→O} :∀{L:List (Nat×OS)} {r r':List (Nat×Nat)} {u:List P} {c:Bool×Bool},jv o r L=some (u,c,r')→(∀p∈r,p∈r')∧∀p∈L,∃q∈r',q.1=p.1
 | [],r,r',u,c,h=>by simp only [jv,Q0,Q1] at h;obtain ⟨_,_,rfl⟩:=h;exact ⟨fun p hp=>hp,fun p hp=>by cases hp⟩
 |(g',k)::rest,r,r',u,c,h=>by
  simp only [jv] at h
  split at h
  ·rename_i g hg
   have hmem:=Az hg
   have fin :∀{r1:List (Nat×Nat)},(∀p∈r,p∈r1)→((∀p∈r1,p∈r')∧∀p∈rest,∃q∈r',q.1=p.1)→(∀p∈r,p∈r')∧∀p∈(g',k)::rest,∃q∈r',q.1=p.1:=by
    intro r1 h1 ⟨h2,h3⟩
    refine ⟨fun p hp=>h2 p (h1 p hp),fun p hp => ?_⟩
    rcases QR.1 hp with rfl | hp
    ·exact ⟨_,h2 _ (h1 _ hmem),rfl⟩
    ·exact h3 p hp
   split at h
   ·split at h
    ·split at h
     ·rename_i h2
      simp only [Q0,Q1] at h
      obtain ⟨_,_,rfl⟩:=h
      exact fin (fun p hp=>W3 _ hp) (r_ h2)
     ·cases h
    ·cases h
   ·split at h
    ·split at h
     ·rename_i h2
      simp only [Q0,Q1] at h
      obtain ⟨_,_,rfl⟩:=h
      exact fin (fun p hp=>hp) (r_ h2)
     ·cases h
    ·cases h
   ·split at h
    ·split at h
     ·rename_i h2
      simp only [Q0,Q1] at h
      obtain ⟨_,_,rfl⟩:=h
      exact fin (fun p hp=>hp) (r_ h2)
     ·cases h
    ·cases h
   ·cases h
  ·cases h
theorem aee {j:Shape} {vs:List P} {g:Nat} {a i:Bool} {sz:Nat} {au:List (Nat×Nat)} {l:List (List P)} {hole:Option (Nat×Nat×Nat)} (h:(mk j vs).o g=.aP a i sz au l hole):hole=none:=by
 have h1:=Us (j:=j) (vs:=vs) (g:=g) (by rw [h];simp)
 obtain ⟨k,n',_,h2⟩:=kP h1
 rw [h] at h2
 cases k<;>simp [uq] at h2
 exact h2.2.2.2.2.2
theorem Ir {s:zf} {d:Nat} {o:Nat→O} {c:KT} {bZ:List P} (hf:c.fine s=true) {p:Nat×Nat} (hp:p∈c.ren) (Fe:s.bg.contains p.1=true) :
  (iC s d o c bZ).aK.lookup p.2=some (xg c.A c.I (callName d s c.ren) ((mk s.aS bZ).o p.1)):=by
 simp only [KT.fine,Q6] at hf
 obtain ⟨⟨⟨hn2,hn1⟩,hdisj⟩,hkeys⟩:=hf
 have hnb:p.2∉c.vg:=by
  have:=(X2.1 hdisj) p.2 (QQ.2 ⟨p,hp,rfl⟩)
  simpa using this
 have h1:(if s.lV=true then c.vg.map (aV o) else []).lookup p.2=none:=by
  split
  ·have :∀(l:List Nat),p.2∉l→(l.map (aV o)).lookup p.2=none:=by
    intro l
    induction l with
    |nil=>intro _;rfl
    |cons g l ih=>
     intro hl
     simp only [QR,not_or] at hl
     have e:(p.2==(aV o g).1)=false:=by
      have:(aV o g).1=g:=rfl
      rw [this];simpa using hl.1
     simp only [Qf,List.lookup,e]
     exact ih hl.2
   exact this _ hnb
  ·rfl
 have h2:=kQ (v:=fun p=>if s.bg.contains p.1=true then xg c.A c.I (callName d s c.ren) ((mk s.aS bZ).o p.1) else .none) (jg hn2) hp
 rw [if_pos Fe] at h2
 show (((if s.lV=true then c.vg.map (aV o) else [])++c.ren.map _)++s.aX.map _).lookup p.2=_
 rw [kZ,kZ,h1,h2];rfl
theorem YI {s:zf} (hok:s.ok=true) {d:Nat} {o:Nat→O} {args:List S} {c:KT} (hc:gX s o args=some c) (hf:c.fine s=true) {bZ:List P} {p:Nat×Nat} (hp:p∈c.ren) (Fe:s.bg.contains p.1=true)
  (hk:rZ ((mk s.aS bZ).o p.1)=rZ ((mk s.pin c.ins).o p.1)) (ha:Ut (o p.2)=true) (hfl:tN (xg c.A c.I (callName d s c.ren) ((mk s.aS bZ).o p.1))=tN (o p.2)) :
  (iC s d o c bZ).aK.lookup p.2=some (o p.2):=by
 rw [Ir hf hp Fe]
 have hcore:=hk.trans (YG hok hc hf p hp ha)
 have hm:=fun {a i:Bool} {sz:Nat} {au:List (Nat×Nat)} {l:List (List P)} {hole:Option (Nat×Nat×Nat)}=>aee (j:=s.aS) (vs:=bZ) (g:=p.1) (a:=a) (i:=i) (sz:=sz) (au:=au) (l:=l) (hole:=hole)
 congr 1
 generalize (mk s.aS bZ).o p.1=x at hcore hfl hm
 have e:rZ (xg c.A c.I (callName d s c.ren) x)=rZ (o p.2):=by
  rw [←hcore]
  cases x with
  |aP a i sz au l hole=>have:=hm rfl;subst this;rfl
  |arr fz a i sz l=>rfl
  |_=>
   generalize o p.2=z at hcore ha
   cases z<;>first | (cases ha;done) | (simp [rZ] at hcore;done)
 exact (Uu e.symm hfl.symm ha).symm
theorem QH {s:zf} {o:Nat→O} {args:List S} {c:KT} (hc:gX s o args=some c) :∀p∈s.pin.bf,∃q∈c.ren,q.1=p.1:=by
 unfold gX at hc
 split at hc
 ·split at hc
  ·rename_i Fe
   simp only [Q0] at hc;subst hc
   exact fun p hp=>let ⟨q,h1,h2⟩:=(r_ Fe).2 p hp;⟨q,mQ.2 h1,h2⟩
  ·cases hc
 ·cases hc
section
variable {E:Env} {st:St} {gh:Nat→Gh} {w:World} {val:Nat→Value}
theorem LW {sp:Spec} (hok:sp.sig.ok=true) (h:Rel E st gh val w) {args:List S} {vals:List Value} (hr :∀t,dG E st gh w (args.getD t .no) (vals.getD t undef))
  {c:KT} (hc:gX sp.sig st.o args=some c) (hf:c.fine sp.sig=true) :
  ∃(E':Env) (kY:Nat→Gh),E'.B0=w.heap.size∧E'.w0=w∧Rel E' (mk sp.sig.pin c.ins) kY (fun k=>vals.getD k undef) w∧(∀b,E'.Wr b→∃c e f,w.heap[b]?=some (.cells c e f))∧
  ∀(d:Nat) (bZ:List P) (ef:Eff),ef=iC sp.sig d st.o c bZ→(∀g∈ef.new,st.used g=false)→∀(w':World) (rs:List Value) (xG:Nat→Gh),rs.length=sp.sig.dA→Rel E' (mk sp.sig.aS bZ) xG (fun k=>rs.getD k undef) w'→(∀g∈sp.sig.bg,((xG g).ad=(kY g).ad∧(xG g).cap=(kY g).cap)∧((mk sp.sig.pin c.ins).o g).like ((mk sp.sig.aS bZ).o g))→
   ∃bP,Rel E (st.aK ef.aK ef.new) bP val w'∧Lets E st (st.aK ef.aK ef.new) gh bP w w'∧dG E (st.aK ef.aK ef.new) bP w' ef.x (YD rs)∧∀g∈ef.x.names,(st.aK ef.aK ef.new).used g=true:=by
 have hrr :∀t,dG E st gh w (args.getD t .no) ((fun k=>vals.getD k undef) t):=hr
 obtain ⟨h1,hL1,hE,iy⟩:=Uw h hok hrr hc hf _ rfl _ rfl
 refine ⟨_,_,rfl,rfl,hE,fun b hb => ?_,fun d bZ ef hef hnew w' rs xG hrl hx aef => ?_⟩
 ·obtain ⟨p,hp,ow,e1⟩:=hb
  have hO:=h.bf p.2
  rcases (iy p hp).2.2.2 with ⟨_,ws,_,e,_⟩ | ⟨a,i,sz,l,e,_⟩ | ⟨a,i,sz,au,l,e,_⟩
  ·rw [e] at hO
   obtain ⟨ad',c,e',q1,_,q3,_⟩:=hO
   rcases e1 with ⟨ad,k1,k2⟩ | k1
   ·rw [k1] at q1;cases q1;rw [←k2];exact ⟨_,_,_,q3⟩
   ·rw [h.ns p.2 ow (by rw [e];rfl) b] at k1;cases k1
  ·rw [e] at hO
   rcases e1 with ⟨ad,k1,k2⟩ | k1
   ·rcases hO with ⟨q1,_⟩ | ⟨ad',c,e',q1,_,q3,_⟩
    ·rw [k1] at q1;cases q1
    ·rw [k1] at q1;cases q1;rw [←k2];exact ⟨_,_,_,q3⟩
   ·rw [h.ns p.2 ow (by rw [e];rfl) b] at k1;cases k1
  ·rw [e] at hO
   rcases hO with ⟨q1,_,_,q2⟩ | ⟨ad',c,e',q1,_,q3,_,_,_,⟨_,q4⟩,_⟩
   ·rcases e1 with ⟨ad,k1,k2⟩ | k1
    ·rw [k1] at q1;cases q1
    ·rw [q2 b] at k1;cases k1
   ·rcases e1 with ⟨ad,k1,k2⟩ | k1
    ·rw [k1] at q1;cases q1;rw [←k2];exact ⟨_,_,_,q3⟩
    ·exact q4 b k1
 generalize hst1:st.aK (c.vg.map (Fw.aV st.o)) []=st1 at h1 hL1 hE hx
 generalize hE':Wv h st1 c=E' at hE hx
 generalize YJ:mk sp.sig.aS bZ=xu at hx
 have hok':=hok
 simp only [zf.ok,Q6] at hok'
 obtain ⟨⟨⟨⟨⟨⟨⟨⟨aaD,Wx⟩,hps⟩,hpo⟩,hos⟩,Ag⟩,hdisj⟩,hnn⟩,agV⟩:=hok'
 have hnn:=jg hnn
 simp only [KT.fine,Q6] at hf
 have hn2:=jg hf.1.1.1
 have ahM :∀g∈sp.sig.aX,sp.sig.bg.contains g=false:=by
  intro g hg
  cases hi:sp.sig.bg.contains g with
  |false=>rfl
  |true=>
   have:=(X2.1 hdisj) g (by simpa using hi)
   simp [hg] at this
 generalize hfn:callName d sp.sig c.ren=f
 have QI :∀g∈sp.sig.aX,f g=newName d sp.sig.aX g:=fun g hg=>by subst hfn;unfold callName;rw [ahM g hg]
 have aqv:sp.sig.aX.map f=sp.sig.aX.map (newName d sp.sig.aX):=W8 QI
 have ahN :∀g,sp.sig.bg.contains g=true→∃g',(g,g')∈c.ren∧f g=g':=by
  intro g hi
  have aj7:=(X2.1 agV) g (by simpa using hi)
  cases h1:sp.sig.pin.bf.lookup g with
  |none=>rw [h1] at aj7;cases aj7
  |some k1=>
   obtain ⟨q,hq,e⟩:=QH hc _ (Az h1)
   obtain ⟨q1,q2⟩:=q
   simp only at e;subst e
   refine ⟨q2,hq,?_⟩
   subst hfn
   unfold callName
   rw [hi,(iy _ hq).2.2.1]
 generalize hbk:xO d sp.sig.aX=bk
 have hbn :∀g∈sp.sig.aX,bk (f g)=some g:=fun g hg=>by rw [QI g hg];subst hbk;exact Oi hg
 have hbs :∀g g0,bk g=some g0→g0∈sp.sig.aX∧f g0=g:=fun g g0 hb=>by subst hbk;obtain ⟨b1,b2⟩:=KU hb;exact ⟨b1,by rw [QI g0 b1];exact b2⟩
 have hfi :∀g∈sp.sig.aX,∀g'∈sp.sig.aX,f g=f g'→g=g':=fun g hg g' hg' e=>by rw [QI g hg,QI g' hg'] at e;exact Fb hg e
 have aeg:ef.new=sp.sig.aX.map f:=by subst hef;subst hfn;rfl
 have ahO:ef.aK=(if sp.sig.lV then c.vg.map (Fw.aV st.o) else [])++c.ren.map (fun p=>(p.2,if sp.sig.bg.contains p.1 then xg c.A c.I f (xu.o p.1) else .none))++sp.sig.aX.map (fun g=>(f g,xg c.A c.I f (xu.o g))):=by
  subst hef;subst hfn;subst YJ;rfl
 have aj8:ef.x=YB ((List.range sp.sig.dA).map fun k=>Wp c.A c.I f (xu.s k)):=by subst hef;subst hfn;subst YJ;rfl
 have aro :∀g,bk g=none→g∉ef.new:=fun g hb hm=>by
  rw [aeg] at hm;obtain ⟨g0,h1,rfl⟩:=QQ.1 hm
  rw [hbn g0 h1] at hb;cases hb
 have hbu :∀g,st.used g=true→bk g=none:=fun g hu=>by
  cases hb:bk g with
  |none=>rfl
  |some g0=>
   obtain ⟨h1,h2⟩:=hbs g g0 hb
   have:=hnew g (by rw [aeg];exact QQ.2 ⟨g0,h1,h2⟩)
   rw [hu] at this;cases this
 let stB:St:=if sp.sig.lV then st1 else st
 have hB:Rel E stB gh val w∧Lets E st stB gh gh w w:=by
  by_cases hlk:sp.sig.lV=true
  ·have:stB=st1:=by simp [stB,hlk]
   rw [this];exact ⟨h1,hL1⟩
  ·have:stB=st:=by simp [stB,hlk]
   rw [this];exact ⟨h,⟨fun a i b hb=>⟨hb,rfl⟩,fun g _=>.inr ⟨⟨rfl,rfl⟩,O.fA _⟩⟩⟩
 obtain ⟨YK,hLB⟩:=hB
 have hBs:stB.s=st.s:=by
  by_cases hlk:sp.sig.lV=true
  ·have:stB=st1:=by simp [stB,hlk]
   rw [this,←hst1];rfl
  ·have:stB=st:=by simp [stB,hlk]
   rw [this]
 have hBu:stB.used=st.used:=by
  by_cases hlk:sp.sig.lV=true
  ·have:stB=st1:=by simp [stB,hlk]
   rw [this,←hst1];rfl
  ·have:stB=st:=by simp [stB,hlk]
   rw [this]
 have hBo :∀g,stB.o g=(if g∈c.vg∧sp.sig.lV=true then (Fw.aV st.o g).2 else st.o g):=by
  intro g
  by_cases hlk:sp.sig.lV=true
  ·have:stB=st1:=by simp [stB,hlk]
   rw [this,←hst1,fU]
   by_cases hg:g∈c.vg<;>simp [hg,hlk]
  ·have:stB=st:=by simp [stB,hlk]
   rw [this];simp [hlk]
 have Wy :∀g,(stB.o g).bU=true→(st.o g).bU=true:=by
  intro g hg
  rw [hBo] at hg
  split at hg
  ·cases hp:plainO st.o g with
   |none=>simpa [Fw.aV,hp] using hg
   |some x=>
    obtain ⟨a,i,sz,l⟩:=x
    rw [mO hp] at hg;cases hg
  ·exact hg
 have hBr :∀p∈c.ren,stB.o p.2=st.o p.2:=by
  intro p hp
  rw [hBo,if_neg fun h=>(iy p hp).2.1 h.1]
 generalize aeh:st.aK ef.aK ef.new=Iu
 have hFs:Iu.s=st.s:=by subst aeh;rfl
 have hFu :∀g,st.used g=true→Iu.used g=true:=fun g hg=>by subst aeh;simp [St.aK,hg]
 have hFn :∀g∈sp.sig.aX,Iu.used (f g)=true:=fun g hg=>by
  subst aeh
  have:f g∈ef.new:=by rw [aeg];exact QQ.2 ⟨g,hg,rfl⟩
  simp [St.aK,this]
 have WA :∀p∈c.ren,st.used p.2=true:=fun p hp=>h.ul p.2 (by intro e;have:=(iy p hp).1;rw [e] at this;cases this)
 have aqx :∀g∈c.vg,st.used g=true∨st.o g=.none:=fun g hg=>by
  by_cases hn:st.o g=.none
  ·exact .inr hn
  ·exact .inl (h.ul g hn)
 have hFo :∀g,Iu.o g=match ef.aK.lookup g with | some x=>x | none=>st.o g:=fun g=>by subst aeh;rfl
 have WB :∀g∈sp.sig.aX,Iu.o (f g)=xg c.A c.I f (xu.o g):=by
  intro g hg
  have hfu:st.used (f g)=false:=hnew _ (by rw [aeg];exact QQ.2 ⟨g,hg,rfl⟩)
  have e2:(c.ren.map (fun p=>(p.2,if sp.sig.bg.contains p.1 then xg c.A c.I f (xu.o p.1) else .none))).lookup (f g)=none:=lJ fun hm=>by
   obtain ⟨p,hp,e⟩:=QQ.1 hm
   rw [←e,WA p hp] at hfu;cases hfu
  have e3:=wQ (k:=f) (v:=fun g=>xg c.A c.I f (xu.o g)) hg fun g' hg' e=>hfi g' hg' g hg e
  have e1:(if sp.sig.lV then c.vg.map (Fw.aV st.o) else []).lookup (f g)=none:=by
   split
   ·rw [lU,if_neg]
    intro hm
    have:=xw.used h (Uy hc) hm
    rw [this] at hfu;cases hfu
   ·rfl
  rw [hFo,ahO,kZ,kZ,e1,e2,e3];rfl
 have LX :∀p∈c.ren,Iu.o p.2=if sp.sig.bg.contains p.1 then xg c.A c.I f (xu.o p.1) else .none:=by
  intro p hp
  have e1:(if sp.sig.lV then c.vg.map (Fw.aV st.o) else []).lookup p.2=none:=by
   split
   ·rw [lU,if_neg (iy p hp).2.1]
   ·rfl
  have e2:=kQ (v:=fun p=>if sp.sig.bg.contains p.1 then xg c.A c.I f (xu.o p.1) else O.none) hn2 hp
  rw [hFo,ahO,kZ,kZ,e1,e2];rfl
 have QJ :∀g,bk g=none→g∉c.ren.map (·.2)→Iu.o g=stB.o g:=by
  intro g hb hg
  have e2:=lJ (v:=fun p=>if sp.sig.bg.contains p.1 then xg c.A c.I f (xu.o p.1) else O.none) hg
  have e3:(sp.sig.aX.map (fun g=>(f g,xg c.A c.I f (xu.o g)))).lookup g=none:=xP fun g' hg' e=>by
   have:=hbn g' hg'
   rw [e,hb] at this;cases this
  rw [hFo,ahO,kZ,kZ,e2,e3,hBo]
  by_cases hlk:sp.sig.lV=true
  ·rw [if_pos hlk,lU]
   by_cases hg:g∈c.vg<;>simp [hg,hlk]
  ·simp [hlk]
 have agW :∀p∈c.ren,sp.sig.bg.contains p.1=true→(xG p.1).ad=(gh p.2).ad∧(xG p.1).cap=(gh p.2).cap:=by
  intro p hp hi
  have:=(aef p.1 (by simpa using hi)).1
  have e:=(iy p hp).2.2.1
  simp only [jr,e] at this
  exact this
 generalize hbk2:(fun g=>match bk g with | some g0=>some g0 | none=>(c.ren.find? (fun (p:Nat×Nat)=>p.2==g&&sp.sig.bg.contains p.1)).map (fun (p:Nat×Nat)=>p.1))=bk2
 have aj_ :∀g g0,bk2 g=some g0→(g0∈sp.sig.aX∧f g0=g)∨(bk g=none∧sp.sig.bg.contains g0=true∧(g0,g)∈c.ren):=by
  intro g g0 hb
  subst hbk2
  simp only at hb
  cases h1:bk g with
  |some g1=>rw [h1] at hb;simp only [Q0] at hb;subst hb;exact .inl (hbs g _ h1)
  |none=>
   rw [h1] at hb
   simp only [W0] at hb
   obtain ⟨p,hp,rfl⟩:=hb
   have q1:=K2 hp
   have q2:=qf hp
   simp only [Q6,beq_iff_eq] at q2
   obtain ⟨rfl,q3⟩:=q2
   exact .inr ⟨rfl,q3,q1⟩
 have hb2 :∀g∈sp.sig.aX++sp.sig.bg,bk2 (f g)=some g:=by
  intro g hg
  subst hbk2
  simp only
  rcases X1.1 hg with hg | hg
  ·rw [hbn g hg]
  ·have hi:sp.sig.bg.contains g=true:=by simpa using hg
   obtain ⟨g',hm,e⟩:=ahN g hi
   rw [e,hbu g' (WA _ hm)]
   cases h1:c.ren.find? fun p=>p.2==g'&&sp.sig.bg.contains p.1 with
   |none=>
    have:=List.find?_eq_none.1 h1 _ hm
    simp at this
    exact absurd hg this
   |some p=>
    have q1:=K2 h1
    have q2:=qf h1
    simp only [Q6,beq_iff_eq] at q2
    obtain ⟨e2,q3⟩:=q2
    have l1:=(iy _ hm).2.2.1
    have e3:p=(g,g'):=by
     have:=kQ (v:=fun p=>p) hn2 q1
     have h2:=kQ (v:=fun p=>p) hn2 hm
     rw [e2] at this
     simp only at h2
     rw [this] at h2;exact Wf h2
    rw [e3];rfl
 let bP:Nat→Gh:=fun g=>match bk2 g with | some g0=>xG g0 | none=>gh g
 have hfp :∀p∈c.ren,sp.sig.bg.contains p.1=true→f p.1=p.2:=by
  intro p hp hi
  obtain ⟨g',hm,e⟩:=ahN p.1 hi
  have l1:=(iy _ hm).2.2.1
  have l2:=(iy _ hp).2.2.1
  simp only at l1
  rw [l2] at l1;rw [e,←Wf l1]
 have hgb :∀g g0,bk2 g=some g0→bP g=xG g0:=fun g g0 hb=>by simp only [bP,hb]
 have hgn :∀g∈sp.sig.aX,bP (f g)=xG g:=fun g hg=>hgb _ _ (hb2 g (W3 _ hg))
 have hgi :∀p∈c.ren,sp.sig.bg.contains p.1=true→bP p.2=xG p.1:=by
  intro p hp hi
  have:=hb2 p.1 (V2 _ (by simpa using hi))
  rw [hfp p hp hi] at this
  exact hgb _ _ this
 have hgo :∀g,bk g=none→g∉c.ren.map (·.2)→bP g=gh g:=fun g hb hm=>by
  cases h2:bk2 g with
  |none=>simp only [bP,h2]
  |some g0=>
   rcases aj_ g g0 h2 with ⟨b1,b2⟩ | ⟨_,_,b3⟩
   ·rw [←b2,hbn g0 b1] at hb;cases hb
   ·exact absurd (QQ.2 ⟨_,b3,rfl⟩) hm
 have hFb :∀g g0,bk2 g=some g0→Iu.o g=xg c.A c.I f (xu.o g0):=fun g g0 hb=>by
  rcases aj_ g g0 hb with ⟨b1,b2⟩ | ⟨_,b2,b3⟩
  ·rw [←b2];exact WB g0 b1
  ·have e:=LX _ b3
   simp only [b2,if_true] at e
   exact e
 have aaF :∀g∈sp.sig.aX++sp.sig.bg,Iu.used (f g)=true:=by
  intro g hg
  rcases X1.1 hg with hg | hg
  ·exact hFn g hg
  ·obtain ⟨g',hm,e⟩:=ahN g (by simpa using hg)
   rw [e];exact hFu _ (WA _ hm)
 have hxo :∀g0,xu.o g0≠.none→∃k n',(g0,k)∈sp.sig.aS.bf∧xu.o g0=(uq bZ n' k).1:=fun g0 hn=>by
  subst YJ
  exact kP (Us hn)
 have akb :∀g0,sp.sig.bg.contains g0=true→(∃ws,(mk sp.sig.pin c.ins).o g0=.box ws)→∃ws,xu.o g0=.box ws:=by
  rintro g0 hi ⟨ws,hb⟩
  have hk:=(X2.1 agV) g0 (by simpa using hi)
  cases h1:sp.sig.pin.bf.lookup g0 with
  |none=>rw [h1] at hk;cases hk
  |some k1=>
   cases h2:sp.sig.aS.bf.lookup g0 with
   |none=>rw [h1,h2] at hk;cases k1<;>cases hk
   |some k2=>
    rw [h1,h2] at hk
    obtain ⟨n1,e1⟩:=Oh (vs:=c.ins) h1
    obtain ⟨n2,e2⟩:=Oh (vs:=bZ) h2
    rw [hb] at e1
    cases k1 with
    |box ks=>
     cases k2 with
     |box ks'=>subst YJ;exact ⟨_,e2⟩
     |arr=>cases hk
     |it=>cases hk
     |aP=>cases hk
    |arr=>cases e1
    |it=>cases e1
    |aP=>cases e1
 have anm :∀g0 k,(g0,k)∈sp.sig.aS.bf→k.isA=true→sp.sig.lV=true:=fun g0 k hm ha=>by
  simp only [zf.lV,UX,Kj]
  exact .inr ⟨_,hm,ha⟩
 have ano :∀t k,(t,k)∈sp.sig.aS.slots→k.isA=true→sp.sig.lV=true:=fun t k hm ha=>by
  simp only [zf.lV,UX,Kj]
  exact .inl ⟨_,hm,ha⟩
 have hOut :∀g0,Ow (Fa c.A c.I sp.sig.lV) bk2 (fun _=>False) (xu.o g0) (xg c.A c.I f (xu.o g0))∧∀g∈(xg c.A c.I f (xu.o g0)).names,∃g1∈sp.sig.aX++sp.sig.bg,g=f g1:=by
  intro g0
  by_cases hn:xu.o g0=.none
  ·rw [hn];exact ⟨.none _,by simp [xg,O.names]⟩
  ·obtain ⟨k,n',h1,h2⟩:=hxo g0 hn
   rw [h2]
   refine aj6 hb2 (fun ws e => ?_) (anm g0 k h1) n'
   subst e
   have hk:=(X2.1 Ag) _ h1
   simp only [Q6] at hk
   exact hk.1
 have WC :∀g,(Iu.o g).bU=true→
   (∃g0,(xu.o g0).bU=true∧bP g=xG g0∧Iu.o g=xg c.A c.I f (xu.o g0)∧((g0∈sp.sig.aX∧g=f g0)∨(sp.sig.bg.contains g0=true∧(g0,g)∈c.ren)))∨
   ((stB.o g).bU=true∧bP g=gh g∧g∉c.ren.map (·.2)∧bk g=none∧Iu.o g=stB.o g):=by
  intro g ho
  cases hb:bk g with
  |some g0=>
   obtain ⟨b1,b2⟩:=hbs g g0 hb
   subst b2
   have e:=WB g0 b1
   exact .inl ⟨g0,by rw [e,LV] at ho;exact ho,hgn g0 b1,e,.inl ⟨b1,rfl⟩⟩
  |none=>
   by_cases hm:g∈c.ren.map (·.2)
   ·obtain ⟨p,hp,e⟩:=QQ.1 hm
    subst e
    have e:=LX p hp
    cases hi:sp.sig.bg.contains p.1 with
    |false=>rw [e,hi] at ho;cases ho
    |true=>
     rw [hi,if_pos rfl] at e
     exact .inl ⟨p.1,by rw [e,LV] at ho;exact ho,hgi p hp hi,e,.inr ⟨hi,hp⟩⟩
   ·have e:=QJ g hb hm
    exact .inr ⟨by rw [e] at ho;exact ho,hgo g hb hm,hm,by first | exact hb | rfl,e⟩
 have hsplit :∀g b,(Iu.o g).bU=true→(bP g).has b→
   (∃g0,(xu.o g0).bU=true∧(xG g0).has b∧Iu.o g=xg c.A c.I f (xu.o g0)∧((g0∈sp.sig.aX∧g=f g0)∨(sp.sig.bg.contains g0=true∧(g0,g)∈c.ren)))∨
   ((stB.o g).bU=true∧(gh g).has b∧g∉c.ren.map (·.2)∧bk g=none∧Iu.o g=stB.o g):=by
  intro g b ho had
  rcases WC g ho with ⟨g0,q1,q2,q3⟩ | ⟨q1,q2,q3⟩
  ·exact .inl ⟨g0,q1,by rw [←q2];exact had,q3⟩
  ·exact .inr ⟨q1,by rw [←q2];exact had,q3⟩
 have aaG :∀b,E'.Wr b→∃p∈c.ren,(gh p.2).has b:=fun b hb=>by subst hE';obtain ⟨p,hp,_,h1⟩:=hb;exact ⟨p,hp,h1⟩
 have hEB:E'.B0=w.heap.size:=by subst hE';rfl
 have hEw:E'.w0=w:=by subst hE';rfl
 have hframe :∀b,b<w.heap.size→¬ E'.Wr b→w'.heap[b]?=w.heap[b]?:=fun b hb hw=>by
  rw [hx.frame b (by rw [hEB];exact hb) hw,hEw]
 have ahP :∀b,(∀p∈c.ren,¬ (gh p.2).has b)→¬ E'.Wr b:=fun b hb hw=>by
  obtain ⟨p,hp,e1⟩:=aaG b hw
  exact hb p hp e1
 have hsize:w.heap.size≤w'.heap.size:=by rw [←hEB];exact hx.size
 have Lu :∀g,st.used g=true→Iu.o g=.none∨(((bP g).ad=(gh g).ad∧(bP g).cap=(gh g).cap)∧(stB.o g).like (Iu.o g)):=by
  intro g hu
  have hb:=hbu g hu
  by_cases hm:g∈c.ren.map (·.2)
  ·obtain ⟨p,hp,e⟩:=QQ.1 hm
   subst e
   cases hi:sp.sig.bg.contains p.1 with
   |false=>exact .inl (by rw [LX p hp,hi];rfl)
   |true=>
    refine .inr ⟨by rw [hgi p hp hi];exact agW p hp hi,?_⟩
    rw [hBr p hp,LX p hp,hi,if_pos rfl]
    have hlk:=(aef p.1 (by simpa using hi)).2
    rw [YJ] at hlk
    rcases (iy p hp).2.2.2 with ⟨_,ws,LY,e,eb⟩ | ⟨a,i,sz,l,e,_,ea⟩ | ⟨a,i,sz,au,l,e,_,ea⟩
    ·obtain ⟨ws',e'⟩:=akb p.1 hi ⟨_,eb⟩
     rw [e,e'];trivial
    ·rw [ea] at hlk
     rw [e]
     generalize xu.o p.1=z at hlk
     cases z with
     |none=>trivial
     |arr=>exact hlk
     |aP=>exact hlk.elim
     |box=>exact hlk.elim
     |it=>exact hlk.elim
    ·rw [ea] at hlk
     rw [e]
     generalize xu.o p.1=z at hlk
     cases z with
     |none=>trivial
     |arr=>exact hlk
     |aP=>exact hlk
     |box=>exact hlk.elim
     |it=>exact hlk.elim
  ·rw [QJ g hb hm];exact .inr ⟨by rw [hgo g hb hm];exact ⟨rfl,rfl⟩,O.fA _⟩
 have aaH:Lets E stB Iu gh bP w w':=by
  refine ⟨fun a i b hb=>⟨⟨hb.1,by have:=hb.2.1;omega,fun g ho had => ?_⟩,?_⟩,fun g hu=>Lu g (by rw [←hBu];exact hu)⟩
  ·rcases hsplit g b ho had with ⟨g0,o0,d0,_,_⟩ | ⟨o0,d0,_⟩
   ·have hw0:=(hx.wr g0 b o0 d0).1
    rw [hEB] at hw0
    rcases hw0 with hw0 | hw0
    ·have:=hb.2.1;omega
    ·obtain ⟨p,hp,e1⟩:=aaG b hw0
     exact hb.2.2 p.2 (by rw [hBr p hp];exact (iy p hp).1) e1
   ·exact hb.2.2 g o0 d0
  ·exact hframe b hb.2.1 (ahP b fun p hp e1=>hb.2.2 p.2 (by rw [hBr p hp];exact (iy p hp).1) e1)
 have akc :∀b,E'.Wr b→E.Wr b→(∀g ws,xu.o g=.box ws→(xG g).has b→sp.sig.bg.contains g=false)→c.I.2=true:=by
  intro b hb hEb hno
  obtain ⟨p,hp,e1⟩:=aaG b hb
  rcases (iy p hp).2.2.2 with ⟨hi,ws,LY,e,eb⟩ | ⟨a,i,sz,l,e,hci,_⟩ | ⟨a,i,sz,au,l,e,hci,_⟩
  ·obtain ⟨ws',e'⟩:=akb p.1 hi ⟨_,eb⟩
   have:=hno p.1 ws' e' (by
    rcases e1 with ⟨ad,k1,k2⟩ | k1
    ·exact .inl ⟨ad,by rw [(agW p hp hi).1];exact k1,k2⟩
    ·rw [h.ns p.2 (iy p hp).1 (by rw [e];rfl) b] at k1;cases k1)
   rw [hi] at this;cases this
  ·exact hci.2 (h.wi p.2 i b (by rw [e];rfl) e1 hEb)
  ·exact hci.2 (h.wi p.2 i b (by rw [e];rfl) e1 hEb)
 have hcls :∀{a i a' i':Bool} {A:Bool×Bool},(A.1=true→a'=true)→(A.2=true→i'=true)→∀{b:Nat},((A.1=true∧E.FA b)∨(A.2=true∧(E.FI b∨E.Wr b))∨E.B0≤b∨d_.has b)→((a'=true∧E.FA b)∨(i'=true∧(E.FI b∨E.Wr b))∨E.B0≤b∨d_.has b):=by
  intro a i a' i' A h1 h2 b hb
  rcases hb with ⟨q1,q2⟩ | ⟨q1,q2⟩ | q
  ·exact .inl ⟨h1 q1,q2⟩
  ·exact .inr (.inl ⟨h2 q1,q2⟩)
  ·exact .inr (.inr q)
 have hcast:Cast (Fa c.A c.I sp.sig.lV) bk2 (fun _=>False) E' E xu Iu xG bP w':=by
  refine ⟨fun a i a' i' b hC hb => ?_,fun g g' hm sz len ho=>⟨by rw [hgb g' g hm];exact ⟨rfl,rfl⟩,by rw [hFb g' g hm,aec] at ho;exact ho⟩,
   fun g g' hm ws ho=>⟨by rw [hgb g' g hm],by rw [hFb g' g hm] at ho;exact aed ho⟩,fun g g' hm s n ho=>⟨by rw [hgb g' g hm],by rw [hFb g' g hm] at ho;exact ahL ho⟩,fun g' hf=>hf.elim⟩
  obtain ⟨hC,hA⟩:=hC
  have ha':a'=((a&&c.A.1)||(i&&c.I.1)):=congrArg Prod.fst hC
  have hi':i'=((a&&c.A.2)||(i&&c.I.2)):=congrArg Prod.snd hC
  have agX :∀g,(xu.o g).bU=true→¬ (xG g).has b:=hb.2.2
  have hcase:((a'=true∧E.FA b)∨(i'=true∧(E.FI b∨E.Wr b))∨E.B0≤b∨d_.has b)∧(∀g,(stB.o g).bU=true→g∉c.ren.map (·.2)→¬ (gh g).has b):=by
   have hb1:=hb.1
   subst hE'
   rcases hb1 with ⟨ha,hFA⟩ | ⟨hi,hFI | hWr⟩ | hge | hgl
   ·have hlk:=hA ha
    have hst:stB=st1:=by simp [stB,hlk]
    refine ⟨hcls (a:=a) (i:=i) (A:=c.A) (by intro h;simp [ha',ha,h]) (by intro h;simp [hi',ha,h]) hFA.1,fun g ho _ => ?_⟩
    rw [hst] at ho
    exact hFA.2.2 g ho
   ·refine ⟨hcls (a:=a) (i:=i) (A:=c.I) (by intro h;simp [ha',hi,h]) (by intro h;simp [hi',hi,h]) hFI.1,fun g ho _ => ?_⟩
    exact hFI.2.2 g (Wy g ho)
   ·obtain ⟨p,hp,ow,e1⟩:=hWr
    refine ⟨?_,fun g ho hng had => ?_⟩
    ·rcases (h.wr p.2 b (iy p hp).1 e1).1 with q | q
     ·exact .inr (.inr (.inl q))
     ·have:=akc b ⟨p,hp,ow,e1⟩ q fun g LY o1 d1=>absurd d1 (agX g (by rw [o1];rfl))
      exact .inr (.inl ⟨by simp [hi',hi,this],.inr q⟩)
    ·have:=h.inj g p.2 b (Wy g ho) (iy p hp).1 had e1
     exact hng (this▸QQ.2 ⟨p,hp,rfl⟩)
   ·refine ⟨.inr (.inr (.inl (Vn h.size hge))),fun g ho _ had => ?_⟩
    have:=(YK.wr g b ho had).2
    have hge:w.heap.size≤b:=hge
    omega
   ·refine ⟨.inr (.inr (.inr hgl)),fun g ho _ had => ?_⟩
    obtain ⟨g1,g2⟩:=E.aah hgl
    rcases (YK.wr g b ho had).1 with q | q
    ·omega
    ·exact g2 q
  refine ⟨hcase.1,hb.2.1,fun g ho had => ?_⟩
  rcases hsplit g b ho had with ⟨g0,o0,d0,_,_⟩ | ⟨o0,d0,n0,_⟩
  ·exact agX g0 o0 d0
  ·exact hcase.2 g o0 n0 d0
 have agY :∀g0,lM E Iu bP w' (xg c.A c.I f (xu.o g0)) (xG g0):=fun g0=>hcast.BM (hOut g0).1 (hx.bf g0)
 have ahQ:Rel E Iu bP val w':=by
  refine YK.step aaH (hFs.trans hBs.symm) (fun g hg=>hFu g (by rw [←hBu];exact hg)) (fun g => ?_) (fun g1 g2 b h1 h2 k1 k2 => ?_) (fun g b ho had => ?_) (fun g i b ho had hw => ?_) (fun g ho hd b => ?_) (fun b hb hw => ?_) hsize (by rw [hx.os,hEw]) (by rw [hx.tape,hEw]) (by rw [hx.output,hEw]) (fun g g' hg' => ?_) (fun g hg => ?_)
  ·cases hb:bk g with
   |some g0=>
    obtain ⟨b1,b2⟩:=hbs g g0 hb
    subst b2
    rw [WB g0 b1,hgn g0 b1];exact agY g0
   |none=>
    by_cases hm:g∈c.ren.map (·.2)
    ·obtain ⟨p,hp,e⟩:=QQ.1 hm
     subst e
     rw [LX p hp]
     cases hi:sp.sig.bg.contains p.1 with
     |false=>trivial
     |true=>rw [if_pos rfl,hgi p hp hi];exact agY p.1
    ·rw [QJ g hb hm,hgo g hb hm]
     refine aaH.BM (fun ho b had=>hframe _ (YK.wr g b ho had).2 (ahP _ fun p hp e1 => ?_)) (fun g' hg'=>YK.uo g g' hg') (YK.bf g)
     have:=h.inj p.2 g b (iy p hp).1 (Wy g ho) e1 had
     exact hm (this▸QQ.2 ⟨p,hp,rfl⟩)
  ·have mixed :∀g1 g2 b g0,(xu.o g0).bU=true→(xG g0).has b→(stB.o g2).bU=true→(gh g2).has b→g2∉c.ren.map (·.2)→g1=g2:=by
    intro g1 g2 b g0 o1 d1 o2 d2 n2
    exfalso
    rcases (hx.wr g0 b o1 d1).1 with q | q
    ·rw [hEB] at q
     have:=(YK.wr g2 b o2 d2).2
     omega
    ·obtain ⟨p,hp,e1⟩:=aaG _ q
     have:=h.inj p.2 g2 b (iy p hp).1 (Wy g2 o2) e1 d2
     exact n2 (this▸QQ.2 ⟨p,hp,rfl⟩)
   rcases hsplit g1 b h1 k1 with ⟨q1,o1,d1,_,l1⟩ | ⟨o1,d1,n1,_⟩<;>rcases hsplit g2 b h2 k2 with ⟨q2,o2,d2,_,l2⟩ | ⟨o2,d2,n2,_⟩
   ·have:=hx.inj q1 q2 b o1 o2 d1 d2
    subst this
    rcases l1 with ⟨m1,e1⟩ | ⟨i1,m1⟩<;>rcases l2 with ⟨m2,e2⟩ | ⟨i2,m2⟩
    ·rw [e1,e2]
    ·rw [ahM q1 m1] at i2;cases i2
    ·rw [ahM q1 m2] at i1;cases i1
    ·have l1:=(iy _ m1).2.2.1
     have l2:=(iy _ m2).2.2.1
     rw [l1] at l2;exact Wf l2
   ·exact mixed g1 g2 b q1 o1 d1 o2 d2 n2
   ·exact (mixed g2 g1 b q2 o2 d2 o1 d1 n1).symm
   ·exact YK.inj g1 g2 b o1 o2 d1 d2
  ·rcases hsplit g b ho had with ⟨g0,o0,d0,_,_⟩ | ⟨o0,d0,_⟩
   ·have:=hx.wr g0 b o0 d0
    refine ⟨?_,this.2⟩
    rcases this.1 with q | q
    ·rw [hEB] at q;exact .inl (Vn h.size q)
    ·obtain ⟨p,hp,e1⟩:=aaG _ q
     exact (h.wr p.2 b (iy p hp).1 e1).1
   ·have:=YK.wr g b o0 d0
    exact ⟨this.1,by omega⟩
  ·rcases hsplit g b (O.kK ho) had with ⟨g0,o0,d0,e0,l0⟩ | ⟨o0,d0,_,_,e0⟩
   ·rw [e0] at ho
    obtain ⟨a1,i1,h1,e2⟩:=YH ho
    have hlt:b<w.heap.size:=by have:=h.wb _ hw;have:=h.size;omega
    rcases (hx.wr g0 b o0 d0).1 with q | q
    ·rw [hEB] at q;omega
    ·have hi1:=hx.wi g0 i1 b h1 d0 q
     have:=akc b q hw fun g3 ws3 o3 d3=>by
      have:=hx.inj g3 g0 b (by rw [o3];rfl) o0 d3 d0
      subst this
      rw [o3] at h1;cases h1
     rw [e2];simp [qJ,hi1,this]
   ·rw [e0] at ho
    exact YK.wi g i b ho d0 hw
  ·rcases WC g ho with ⟨g0,o0,e,e0,_⟩ | ⟨o0,e,_,_,e0⟩
   ·rw [e];exact hx.ns g0 o0 (by rw [e0,Ux] at hd;exact hd) b
   ·rw [e];exact YK.ns g o0 (by rw [e0] at hd;exact hd) b
  ·refine hframe b (Wo hb h.size) (ahP b fun p hp e1 => ?_)
   rcases (h.wr p.2 b (iy p hp).1 e1).1 with q | q
   ·omega
   ·exact hw q
  ·cases hb:bk g with
   |some g0=>
    obtain ⟨b1,b2⟩:=hbs g g0 hb
    subst b2
    rw [WB g0 b1] at hg'
    obtain ⟨g1,m1,rfl⟩:=(hOut g0).2 g' hg'
    exact aaF g1 m1
   |none=>
    by_cases hm:g∈c.ren.map (·.2)
    ·obtain ⟨p,hp,e⟩:=QQ.1 hm
     subst e
     rw [LX p hp] at hg'
     cases hi:sp.sig.bg.contains p.1 with
     |false=>rw [hi] at hg';simp [O.names] at hg'
     |true=>
      rw [hi,if_pos rfl] at hg'
      obtain ⟨g1,m1,rfl⟩:=(hOut p.1).2 g' hg'
      exact aaF g1 m1
    ·rw [QJ g hb hm] at hg'
     exact hFu g' (by rw [←hBu];exact YK.uo g g' hg')
  ·cases hb:bk g with
   |some g0=>
    obtain ⟨b1,b2⟩:=hbs g g0 hb
    subst b2;exact hFn g0 b1
   |none=>
    by_cases hm:g∈c.ren.map (·.2)
    ·obtain ⟨p,hp,e⟩:=QQ.1 hm
     subst e
     exact hFu _ (WA p hp)
    ·rw [QJ g hb hm] at hg
     exact hFu g (by rw [←hBu];exact YK.ul g hg)
 have akd :∀k,rH E Iu bP w' (Wp c.A c.I f (xu.s k)) (rs.getD k undef)∧∀g∈(Wp c.A c.I f (xu.s k)).names,∃g1∈sp.sig.aX++sp.sig.bg,g=f g1:=by
  intro k
  have hk:=hx.slots k
  subst YJ
  have e0:(mk sp.sig.aS bZ).s k=match (dB bZ 0 sp.sig.aS.slots).1.lookup k with | some x=>x | none=>.no:=rfl
  cases hxk:(dB bZ 0 sp.sig.aS.slots).1.lookup k with
  |none=>
   rw [e0,hxk]
   exact ⟨.one _ _ (.no _),by simp [Wp,V.names,W.names]⟩
  |some x=>
   rw [hxk] at e0
   rw [e0] at hk ⊢
   obtain ⟨kk,n',h1,h2⟩:=xM hxk
   obtain ⟨y,e,h3,h4⟩:=aj3 (vs:=bZ) (A:=c.A) (I:=c.I) hb2 ((X2.1 hos) _ h1) (ano k kk h1) n'
   simp only [h2,e] at hk ⊢
   cases hk with | v _ _ hk=>exact ⟨hcast.Yp h3 hk,h4⟩
 refine ⟨bP,ahQ,⟨fun a i b hb => ?_,fun g hu => ?_⟩,?_,?_⟩
 ·obtain ⟨q1,q2⟩:=hLB.ok a i b hb
  exact aaH.ok a i b q1
 ·rcases Lu g hu with q | ⟨q1,q2⟩
  ·exact .inl q
  ·rcases hLB.names g hu with q | ⟨_,q⟩
   ·rw [q] at q2
    rcases O.Iq (x:=.none) (O.fA _) q2 with q | q
    ·exact .inl q
    ·exact .inl (O.DX q)
   ·rcases O.Iq q q2 with q | q
    ·exact .inl q
    ·exact .inr ⟨q1,q⟩
 ·rw [aj8]
  have hl:((List.range sp.sig.dA).map fun k=>Wp c.A c.I f (xu.s k)).length=rs.length:=by simp [hrl]
  have hj :∀(j:Nat) x v,((List.range sp.sig.dA).map fun k=>Wp c.A c.I f (xu.s k))[j]?=some x→rs[j]?=some v→rH E Iu bP w' x v:=by
   intro j x v hx' hv
   rw [XS] at hx'
   obtain ⟨k,hk,rfl⟩:=W0.1 hx'
   obtain ⟨hlt,hk⟩:=Q3.1 hk
   simp at hk;subst hk
   have:=(akd j).1
   rwa [List.getD_eq_getElem?_getD,hv] at this
  generalize (List.range sp.sig.dA).map (fun k=>Wp c.A c.I f (xu.s k))=xs at hl hj
  unfold YB YD
  match xs,rs,hl,hj with
  | [],[],_,hj=>exact .lG _ _ rfl hj
  | [x],[v],_,hj=>exact .v _ _ (hj 0 x v rfl rfl)
  |x::y::xs,v::u::vs,hl,hj=>exact .lG _ _ hl hj
 ·intro g hg
  have :∃k,g∈(Wp c.A c.I f (xu.s k)).names:=by
   rw [aj8] at hg
   generalize hxs:(List.range sp.sig.dA).map (fun k=>Wp c.A c.I f (xu.s k))=xs at hg
   have hin :∃x∈xs,g∈x.names:=by
    unfold YB at hg
    split at hg
    ·exact ⟨_,by simp,hg⟩
    ·simpa [S.names,Ys] using hg
   obtain ⟨x,hx1,hx2⟩:=hin
   rw [←hxs] at hx1
   obtain ⟨k,_,rfl⟩:=QQ.1 hx1
   exact ⟨k,hx2⟩
  obtain ⟨k,hk⟩:=this
  obtain ⟨g1,m1,rfl⟩:=(akd k).2 g hk
  exact aaF g1 m1
theorem Uz {Pg:Program} {fn:FuncId} {sp:Spec} (hs:Sound Pg fn sp) (h:Rel E st gh val w) {args:List S} {vals:List Value} (hr :∀t,dG E st gh w (args.getD t .no) (vals.getD t undef)) (hlen:vals.length=sp.sig.bH)
  {c:KT} (hc:gX sp.sig st.o args=some c) (hf:c.fine sp.sig=true) {bZ:List P} (hR:sp.R c.ins bZ) (d:Nat)
  {ef:Eff} (hef:ef=iC sp.sig d st.o c bZ) (hnew :∀g∈ef.new,st.used g=false) :
  Calls Pg fn vals.toArray w fun e w' =>∃v bP,e=.returned v∧Rel E (st.aK ef.aK ef.new) bP val w'∧Lets E st (st.aK ef.aK ef.new) gh bP w w'∧dG E (st.aK ef.aK ef.new) bP w' ef.x v∧∀g∈ef.x.names,(st.aK ef.aK ef.new).used g=true:=by
 obtain ⟨E',kY,q1,q2,q3,_,q4⟩:=LW hs.1 h hr hc hf
 refine Calls.mono (hs.2.2 E' w vals kY c.ins bZ hR q1 q2 q3 hlen) fun e w' he => ?_
 obtain ⟨rs,xG,hrl,rfl,hx,aef⟩:=he
 obtain ⟨bP,r1,r2,r3,r4⟩:=q4 d bZ ef hef hnew w' rs xG hrl hx aef
 exact ⟨_,bP,rfl,r1,r2,r3,r4⟩
end
end Go.Fw

namespace Go.Fw
variable [d_]
section
variable {o o':Nat→O}
theorem DY {g:Nat} {x:Bool×Bool×Nat×List (List P)} (h:plainO o g=some x):(o g).names=(o g).hn∧∀d∈(o g).hn,(o d).hn=[]:=by
 obtain ⟨a,i,sz,l⟩:=x
 rcases vI h with ⟨fz,h⟩ | ⟨au,h⟩ | ⟨a0,i0,au,l0,n,c,d,fz',a',i',sz',l',h,hd,_⟩
 ·rw [h];exact ⟨rfl,fun d hd=>by cases hd⟩
 ·rw [h];exact ⟨rfl,fun d hd=>by cases hd⟩
 ·rw [h]
  refine ⟨rfl,fun d' hd' => ?_⟩
  simp only [O.hn,dI,Qt] at hd'
  subst hd';rw [hd];rfl
theorem Oj {g:Nat} (h:Agree o o' g):aV o g=aV o' g:=by simp only [aV,BN h,h.1]
theorem QK {g d:Nat} (h:Agree o o' g) {x:Bool×Bool×Nat×List (List P)} (hp:plainO o g=some x) (hd:d∈(o g).hn):Agree o o' d:=by
 refine ⟨h.2 d hd,fun d' hd' => ?_⟩
 rw [(DY hp).2 d hd] at hd';cases hd'
theorem DZ {x:W} (h :∀g∈x.names,Agree o o' g):x.toP o=x.toP o':=by
 cases x<;>simp only [W.toP]<;>(try rw [BN (h _ (by simp [W.names])),(h _ (by simp [W.names])).1])
theorem AA {x:W} {y:P} {a i:Bool} {gs:List Nat} (h:x.toP o=some (y,a,i,gs)) (hx :∀g∈x.names,Agree o o' g) :∀g∈gs,Agree o o' g:=by
 cases x<;>simp only [W.toP] at h
 case p=>simp only [Q0,Q1] at h;obtain ⟨_,_,_,rfl⟩:=h;simp
 case cO=>simp only [Q0,Q1] at h;obtain ⟨_,_,_,rfl⟩:=h;simp
 case own g=>
  split at h
  ·rename_i hp
   simp only [Q0,Q1] at h;obtain ⟨_,_,_,rfl⟩:=h
   have hg:=hx g (by simp [W.names])
   rw [(DY hp).1]
   intro d hd
   rcases X1.1 hd with hd | hd
   ·exact QK hg hp hd
   ·rw [Qt] at hd;subst hd;exact hg
  ·cases h
 case vw g lo hi=>
  split at h
  ·rename_i hp
   simp only [Q0,Q1] at h;obtain ⟨_,_,_,rfl⟩:=h
   have hg:=hx g (by simp [W.names])
   rw [(DY hp).1]
   intro d hd
   rcases X1.1 hd with hd | hd
   ·exact QK hg hp hd
   ·rw [Qt] at hd;subst hd;exact hg
  ·cases h
 all_goals cases h
theorem qK :∀{xs:List W},(∀x∈xs,∀g∈x.names,Agree o o' g)→sS o xs=sS o' xs
 | [],_=>rfl
 |x::xs,h=>by simp only [sS];rw [DZ (h x (by simp)),qK fun y hy=>h y (by simp [hy])]
theorem xQ :∀{xs:List W} {ys:List P} {a i:Bool} {gs:List Nat},sS o xs=some (ys,a,i,gs)→(∀x∈xs,∀g∈x.names,Agree o o' g)→∀g∈gs,Agree o o' g
 | [],ys,a,i,gs,h,_=>by simp [sS] at h;obtain ⟨_,_,_,rfl⟩:=h;simp
 |x::xs,ys,a,i,gs,h,hx=>by
  simp only [sS] at h
  split at h
  ·rename_i h1 h2
   simp only [Q0,Q1] at h
   obtain ⟨_,_,_,rfl⟩:=h
   intro g hg
   rcases X1.1 hg with hg | hg
   ·exact AA h1 (hx x (by simp)) g hg
   ·exact xQ h2 (fun y hy=>hx y (by simp [hy])) g hg
  ·cases h
theorem nI {gs:List Nat} (h :∀g∈gs,Agree o o' g):gs.map (aV o)=gs.map (aV o'):=
 W8 fun g hg=>Oj (h g hg)
theorem Iw {sz:Nat} {x:W} (h :∀g∈x.names,o g=o' g):x.rows o sz=x.rows o' sz:=by
 cases x<;>simp only [W.rows]<;>(try rw [h _ (by simp [W.names])])
theorem Fh {x:W} (h :∀g∈x.names,o g=o' g):lenOf o x=lenOf o' x:=by
 cases x<;>simp only [lenOf]<;>(try rw [h _ (by simp [W.names])])
theorem AB {x:W} (h :∀g∈x.names,o g=o' g):x.live o=x.live o':=by
 cases x<;>simp only [W.live]<;>(try rw [h _ (by simp [W.names])])
theorem Ol {tt:TT} {d:Nat} {sT:TypeId} {s x:W} (hs :∀g∈s.names,o g=o' g) (h :∀g∈x.names,o g=o' g):vC tt d o sT s x=vC tt d o' sT s x:=by
 unfold vC
 split
 ·split
  ·split
   ·rfl
   ·rw [Iw h]
    split
    ·rfl
    ·cases s<;>simp only<;>(try rw [hs _ (by simp [W.names])])
  ·rfl
 ·rfl
theorem AL {place:Nat→Option (Nat×Nat)} :∀{ps:List (Nat×S)} {GI ws:List W},lQ place GI ps=some ws→∀x∈ws,x∈GI∨∃p∈ps,∀g∈x.names,g∈p.2.names
 | [],GI,ws,h=>by simp only [lQ,Q0] at h;subst h;intro x hx;exact .inl hx
 |(n,s)::ps,GI,ws,h=>by
  cases s with
  |v y=>
   simp only [lQ] at h
   split at h
   ·split at h
    ·intro x hx
     rcases AL h x hx with hx | ⟨p,hp,hg⟩
     ·unfold aQ at hx
      rcases X1.1 hx with hx | hx
      ·rcases X1.1 hx with hx | hx
       ·exact .inl (Wb hx)
       ·refine .inr ⟨(n,.v y),by simp,fun g hg => ?_⟩
        cases y with
        |one y=>simp only [V.words,Qt] at hx;subst hx;simpa [S.names,V.names] using hg
        |agg ys=>simp only [V.words] at hx;simp only [S.names,V.names,Ys];exact ⟨x,hx,hg⟩
      ·exact .inl (WN hx)
     ·exact .inr ⟨p,by simp [hp],hg⟩
    ·cases h
   ·cases h
  |lG=>simp [lQ] at h
  |no=>simp [lQ] at h
theorem Fj {y:V} {x:W} (h:x∈y.words) {g:Nat} (hg:g∈x.names):g∈(S.v y).names:=by
 cases y with
 |one y=>simp only [V.words,Qt] at h;subst h;simpa [S.names,V.names] using hg
 |agg ys=>simp only [V.words] at h;simp only [S.names,V.names,Ys];exact ⟨x,h,hg⟩
theorem Cm {tt:TT} {d:Nat} {F F':Operand→S} {op:Op} {ty:TypeId} (hF :∀x∈op.operands.toList,F x=F' x) (hO :∀x∈op.operands.toList,∀g∈(F x).names,Agree o o' g) :
  kernel tt d o F op ty=kernel tt d o' F' op ty:=by
 have ho :∀x∈op.operands.toList,∀g∈(F x).names,o g=o' g:=fun x hx g hg=>(hO x hx g hg).1
 cases op with
 |move x=>simp only [kernel,←hF x (by simp [Op.operands])]
 |assign x=>simp only [kernel,←hF x (by simp [Op.operands])]
 |pick c x y=>simp only [kernel,←hF c (by simp [Op.operands]),←hF x (by simp [Op.operands]),←hF y (by simp [Op.operands])]
 |alloc t=>rfl
 |box t x=>simp only [kernel,←hF x (by simp [Op.operands])]
 |build t ps=>
  have e:ps.toList.map (fun p=>(p.1,F p.2))=ps.toList.map (fun p=>(p.1,F' p.2)):=W8 fun p hp=>by
   rw [hF p.2 (by simp only [Op.operands];exact QQ.2 ⟨p,hp,rfl⟩)]
  simp only [kernel,←e]
 |buildSlice t n ps=>
  have e:ps.toList.map (fun p=>(p.1,F p.2))=ps.toList.map (fun p=>(p.1,F' p.2)):=W8 fun p hp=>by
   rw [hF p.2 (by simp only [Op.operands];exact QQ.2 ⟨p,hp,rfl⟩)]
  simp only [kernel,←e]
  split
  ·split
   ·rename_i ie _
    split
    ·rename_i ws hws
     have hn :∀x∈ws,∀g∈x.names,Agree o o' g:=by
      intro x hx g hg
      rcases AL hws x hx with h | ⟨p,hp,h⟩
      ·have:=rW h
       obtain ⟨v,_,rfl⟩:=QQ.1 this
       rw [nC] at hg;cases hg
      ·obtain ⟨q,hq,rfl⟩:=QQ.1 hp
       exact hO q.2 (by simp only [Op.operands];exact QQ.2 ⟨q,hq,rfl⟩) g (h g hg)
     rw [←qK hn]
     split
     ·rename_i h
      rw [nI (xQ h hn)]
     ·rfl
    ·rfl
   ·rfl
  ·rfl
 |load t x=>
  have hx:=hF x (by simp [Op.operands])
  have hn:=ho x (by simp [Op.operands])
  simp only [kernel,←hx]
  generalize F x=sx at hn
  split<;>simp_all [S.names,V.names,W.names]
 |store t x y=>
  have hx:=hF x (by simp [Op.operands])
  have hy:=hF y (by simp [Op.operands])
  have hn:=ho x (by simp [Op.operands])
  have hm:=hO y (by simp [Op.operands])
  simp only [kernel,←hx,←hy]
  generalize F x=sx at hn
  generalize F y=sy at hm
  split
  ·rename_i g off y _
   rw [hn g (by simp [S.names,V.names,W.names])]
  ·rename_i g n off y _
   rw [hn g (by simp [S.names,V.names,W.names])]
   have hw :∀x∈y.words,∀g∈x.names,Agree o o' g:=fun x hx g hg=>hm g (Fj hx hg)
   rw [←qK hw]
   cases hz:sS o y.words with
   |none=>cases o' g with | arr fz _ _ _ _=>cases fz<;>rfl | _=>rfl
   |some z=>
    obtain ⟨ps,a',i'',gs⟩:=z
    have e:=nI (xQ hz hw)
    cases o' g with
    |arr fz _ _ _ _=>cases fz<;>simp only [e]
    |_=>rfl
  ·rfl
 |nilCheck x=>
  have hx:=hF x (by simp [Op.operands])
  have hn:=ho x (by simp [Op.operands])
  simp only [kernel,←hx]
  generalize F x=sx at hn
  split
  ·rw [AB fun g hg=>hn g (by simpa [S.names,V.names] using hg)]
  ·rfl
 |binOp op t x y u=>simp only [kernel,←hF x (by simp [Op.operands]),←hF y (by simp [Op.operands])]
 |unOp op t x=>simp only [kernel,←hF x (by simp [Op.operands])]
 |convert s t x=>
  have hx:=hF x (by simp [Op.operands])
  have hn:=ho x (by simp [Op.operands])
  simp only [kernel,←hx]
  generalize F x=sx at hn
  split
  ·rfl
  ·rw [Iw fun g hg=>hn g (by simpa [S.names,V.names] using hg)]
  ·rfl
  ·rfl
 |makeSlice t n c=>
  simp only [kernel,←hF n (by simp [Op.operands]),←hF c (by simp [Op.operands])]
  split
  ·split
   ·rename_i ie _
    have:sS o (ie.zero.map cv)=sS o' (ie.zero.map cv):=qK fun x hx g hg=>by
     obtain ⟨v,_,rfl⟩:=QQ.1 hx
     rw [nC] at hg;cases hg
    rw [this]
   ·rfl
  ·rfl
 |slice t x lo hi mx=>
  cases mx with
  |some m=>cases lo with
   |some l=>simp only [kernel]
   |none=>cases hi with
    |none=>simp only [kernel]
    |some h=>
     have hx:=hF x (by simp [Op.operands])
     have hn:=ho x (by simp [Op.operands])
     simp only [kernel,←hx,←hF h (by simp [Op.operands]),←hF m (by simp [Op.operands])]
     generalize F x=sx at hn
     unfold BO
     split
     ·rename_i g _ _ h' _ _ m' _ _ _
      rw [hn g (by simp [S.names,V.names,W.names])]
     ·rfl
     ·rfl
  |none=>
   have hx:=hF x (by simp [Op.operands])
   have hn:=ho x (by simp [Op.operands])
   have hlo:lo.map F=lo.map F':=by
    cases lo with
    |none=>rfl
    |some l=>simp [hF l (by simp [Op.operands])]
   have hhi:hi.map F=hi.map F':=by
    cases hi with
    |none=>rfl
    |some l=>simp [hF l (by simp [Op.operands])]
   simp only [kernel,←hx,←hlo,←hhi]
   generalize F x=sx at hn
   split
   ·rename_i x _
    have hn :∀g∈x.names,o g=o' g:=fun g hg=>hn g (by simpa [S.names,V.names] using hg)
    rw [←Fh hn]
    split
    ·split
     ·split
      ·rw [hn _ (by simp [W.names])]
      all_goals rfl
     ·rfl
    ·rfl
   ·rfl
   ·rfl
 |fieldAddr t x n=>
  have hx:=hF x (by simp [Op.operands])
  have hn:=ho x (by simp [Op.operands])
  simp only [kernel,←hx]
  generalize F x=sx at hn
  split
  ·rw [AB fun g hg=>hn g (by simpa [S.names,V.names] using hg)]
  ·rfl
 |field t x n=>simp only [kernel,←hF x (by simp [Op.operands])]
 |indexAddr t x ix=>
  have hx:=hF x (by simp [Op.operands])
  have hn:=ho x (by simp [Op.operands])
  simp only [kernel,←hx,←hF ix (by simp [Op.operands])]
  generalize F x=sx at hn
  split
  ·rename_i x a i n _ _
   have hn :∀g∈x.names,o g=o' g:=fun g hg=>hn g (by simpa [S.names,V.names] using hg)
   split
   ·rw [hn _ (by simp [W.names])]
   ·rw [hn _ (by simp [W.names])]
   all_goals rfl
  ·rfl
  ·rw [AB fun g hg=>hn g (by simpa [S.names,V.names] using hg)]
  ·rfl
 |index t x ix=>simp only [kernel,←hF x (by simp [Op.operands]),←hF ix (by simp [Op.operands])]
 |extract t n=>simp only [kernel,←hF t (by simp [Op.operands])]
 |range t x=>simp only [kernel,←hF x (by simp [Op.operands])]
 |makeFunc fn first caps=>
  cases fn with
  |func g=>
   simp only [kernel]
   have hc :∀x∈caps.toList,F x=F' x:=fun x hx=>hF x (by simp [Op.operands];exact .inr (by simpa using hx))
   have :∀l:List Operand,(∀x∈l,F x=F' x)→∀(G:Option (List W)→Option Gx),G (l.mapM (fun x=>match F x with | .v (.one w)=>some w | _=>none))=G (l.mapM (fun x=>match F' x with | .v (.one w)=>some w | _=>none)):=by
    intro l hl G
    congr 1
    induction l with
    |nil=>rfl
    |cons x l ih=>
     simp only [qv]
     rw [hl x (by simp),ih fun y hy=>hl y (by simp [hy])]
   split
   ·exact this _ hc fun z=>match z with | some ws=>some (.pure (.v (.one (.clo g ws)))) | none=>none
   ·rfl
  |_=>rfl
 |call c=>
  obtain ⟨callee,args,ts⟩:=c
  have ha :∀x∈args.toList,F x=F' x:=fun x hx=>hF x (by simp [Op.operands,Call.operands];exact .inr (by simpa using hx))
  have hb :∀x∈args.toList,∀g∈(F x).names,o g=o' g:=fun x hx=>ho x (by simp [Op.operands,Call.operands];exact .inr (by simpa using hx))
  cases callee with
  |builtin b=>
   cases b with
   |append=>
    simp only [kernel]
    split
    ·rename_i s x sT xT _ hl _
     have hs:=ha s (by rw [hl];simp)
     have hx:=ha x (by rw [hl];simp)
     have ns:=hb s (by rw [hl];simp)
     have nx:=hb x (by rw [hl];simp)
     rw [←hs,←hx]
     generalize F s=ss at ns
     generalize F x=sx at nx
     split
     ·exact Ol (fun g hg=>ns g (by simpa [S.names,V.names] using hg)) (fun g hg=>nx g (by simpa [S.names,V.names] using hg))
     ·rfl
    ·rfl
   |clear=>
    simp only [kernel]
    split
    ·rename_i x t tl hl _
     have hx:=ha x (by rw [hl];simp)
     have nx:=hb x (by rw [hl];simp)
     rw [←hx]
     generalize F x=sx at nx
     unfold NM
     split
     ·rename_i e _ _ _ g lo hi _
      rw [nx g (by simp [S.names,V.names,W.names])]
      split
      ·rename_i ie _ _ _ _ _ _
       have:sS o (ie.zero.map cv)=sS o' (ie.zero.map cv):=qK fun x hx g hg=>by
        obtain ⟨v,_,rfl⟩:=QQ.1 hx
        rw [nC] at hg;cases hg
       rw [this]
      ·rfl
     ·rfl
    ·rfl
   |len=>
    simp only [kernel]
    split
    ·rename_i x t hl _
     have hx:=ha x (by rw [hl];simp)
     have nx:=hb x (by rw [hl];simp)
     rw [←hx]
     generalize F x=sx at nx
     split
     ·rw [Fh fun g hg=>nx g (by simpa [S.names,V.names] using hg)]
     ·rfl
     ·rfl
    ·rfl
   |min=>
    simp only [kernel]
    split
    ·rename_i x y hl
     rw [ha x (by rw [hl];simp),ha y (by rw [hl];simp)]
    ·rename_i x y z hl
     rw [ha x (by rw [hl];simp),ha y (by rw [hl];simp),ha z (by rw [hl];simp)]
    ·rfl
   |max=>
    simp only [kernel]
    split
    ·rename_i x y hl
     rw [ha x (by rw [hl];simp),ha y (by rw [hl];simp)]
    ·rename_i x y z hl
     rw [ha x (by rw [hl];simp),ha y (by rw [hl];simp),ha z (by rw [hl];simp)]
    ·rfl
   |_=>rfl
  |_=>rfl
 |_=>rfl
theorem zh {col:Nat→Option Nat} :∀{xs:List W} {j:Nat},(∀x∈xs,∀g∈x.names,Agree o o' g)→P8 o col j xs=P8 o' col j xs
 | [],_,_=>rfl
 |x::xs,j,h=>by
  have hx:=h x (by simp)
  simp only [P8]
  rw [zh fun y hy=>h y (by simp [hy]),DZ hx]
  cases x with
  |own e=>simp only [(hx e (by simp [W.names])).1]
  |_=>rfl
theorem AO {col:Nat→Option Nat} :∀{xs:List W} {j:Nat} {ys:List P} {a i:Bool} {gs:List Nat} {es:List (Nat×Nat)},P8 o col j xs=some (ys,a,i,gs,es)→(∀x∈xs,∀g∈x.names,Agree o o' g)→∀g∈gs,Agree o o' g
 | [],j,ys,a,i,gs,es,h,_=>by simp [P8] at h;obtain ⟨_,_,_,rfl,_⟩:=h;simp
 |x::xs,j,ys,a,i,gs,es,h,hx=>by
  simp only [P8] at h
  split at h
  ·cases h
  ·rename_i ys' a' i' gs' es' h2
   have ih:=AO h2 (fun y hy=>hx y (by simp [hy]))
   split at h
   ·split at h
    ·rename_i h1
     simp only [Q0,Q1] at h
     obtain ⟨_,_,_,rfl,_⟩:=h
     intro g hg
     rcases X1.1 hg with hg | hg
     ·exact AA h1 (hx x (by simp)) g hg
     ·exact ih g hg
    ·cases h
   ·split at h
    ·simp only [Q0,Q1] at h
     obtain ⟨_,_,_,rfl,_⟩:=h
     exact ih
    ·split at h
     ·split at h
      ·simp only [Q0,Q1] at h
       obtain ⟨_,_,_,rfl,_⟩:=h
       exact ih
      ·cases h
     ·cases h
    ·cases h
theorem QL {x:W} (h :∀g∈x.names,Agree o o' g):baseD o x=baseD o' x:=by
 cases x<;>simp only [baseD]<;>(try rw [mP (h _ (by simp [W.names])),(h _ (by simp [W.names])).1])
theorem KW {tt:TT} {dc:List (Nat×Nat)} {d:Nat} {F F':Operand→S} {op:Op} {ty:TypeId} (hF :∀x∈op.operands.toList,F x=F' x) (hO :∀x∈op.operands.toList,∀g∈(F x).names,Agree o o' g) :
  dU tt dc d o F op ty=dU tt dc d o' F' op ty:=by
 cases op with
 |load t x=>
  have hx:=hF x (by simp [Op.operands])
  have hn:=hO x (by simp [Op.operands])
  simp only [dU,Ap,←hx]
  generalize F x=sx at hn
  congr 1
  ·split
   ·have hg:=hn _ (by simp [S.names,V.names,W.names];rfl)
    rw [←mP hg]
   ·rfl
  ·split
   ·have hg:=hn _ (by simp [S.names,V.names,W.names];rfl)
    rw [←mP hg,←hg.1]
   ·rfl
 |slice t x lo hi mx=>
  cases lo with
  |some _=>rfl
  |none=>
  cases mx with
  |some _=>rfl
  |none=>
  have hx:=hF x (by simp [Op.operands])
  have hn:=hO x (by simp [Op.operands])
  have hh:hi.map F=hi.map F':=by
   cases hi with
   |none=>rfl
   |some y=>simp only [ZZ,Q0];exact hF y (by simp [Op.operands])
  simp only [dU,←hx,←hh]
  generalize F x=sx at hn
  split
  ·have hg:=hn _ (by simp [S.names,V.names,W.names];rfl)
   rw [←hg.1]
  ·rfl
 |store t x y=>
  have hx:=hF x (by simp [Op.operands])
  have hy:=hF y (by simp [Op.operands])
  have hn:=hO x (by simp [Op.operands])
  have hm:=hO y (by simp [Op.operands])
  simp only [dU,←hx,←hy]
  generalize F x=sx at hn
  generalize F y=sy at hm
  split
  ·rename_i g off y _
   have hg:=hn _ (by simp [S.names,V.names,W.names];rfl)
   have hw :∀x∈y.words,∀g∈x.names,Agree o o' g:=fun x hx g hg=>hm g (Fj hx hg)
   rw [←mP hg,←hg.1]
   split
   ·rename_i a0 i0 sz au l0 hole _
    rw [←zh hw]
    split
    ·rename_i ps a' i' gs es hz
     rw [nI (AO hz hw)]
    ·rfl
   ·rfl
  ·rfl
 |buildSlice t n ps=>
  have e:ps.toList.map (fun p=>(p.1,F p.2))=ps.toList.map (fun p=>(p.1,F' p.2)):=W8 fun p hp=>by
   rw [hF p.2 (by simp only [Op.operands];exact QQ.2 ⟨p,hp,rfl⟩)]
  simp only [dU,←e]
  split
  ·split
   ·rename_i ie _
    split
    ·rename_i ws hws
     have hn :∀x∈ws,∀g∈x.names,Agree o o' g:=by
      intro x hx g hg
      rcases AL hws x hx with h | ⟨p,hp,h⟩
      ·have:=rW h
       obtain ⟨v,_,rfl⟩:=QQ.1 this
       rw [nC] at hg;cases hg
      ·obtain ⟨q,hq,rfl⟩:=QQ.1 hp
       exact hO q.2 (by simp only [Op.operands];exact QQ.2 ⟨q,hq,rfl⟩) g (h g hg)
     rw [←zh hn]
     split
     ·rename_i h
      rw [nI (AO h hn)]
     ·rfl
    ·rfl
   ·rfl
  ·rfl
 |makeSlice t n c=>
  simp only [dU,←hF n (by simp [Op.operands]),←hF c (by simp [Op.operands])]
  split
  ·split
   ·rename_i ie _
    have :∀col,P8 o col 0 (ie.zero.map cv)=P8 o' col 0 (ie.zero.map cv):=fun col=>zh fun x hx g hg=>by
     obtain ⟨v,_,rfl⟩:=QQ.1 hx
     rw [nC] at hg;cases hg
    rw [this]
   ·rfl
  ·rfl
 |call c=>
  obtain ⟨callee,args,ts⟩:=c
  have ha :∀x∈args.toList,F x=F' x:=fun x hx=>hF x (by simp [Op.operands,Call.operands];exact .inr (by simpa using hx))
  have hb :∀x∈args.toList,∀g∈(F x).names,Agree o o' g:=fun x hx=>hO x (by simp [Op.operands,Call.operands];exact .inr (by simpa using hx))
  cases callee with
  |builtin b=>
   cases b with
   |append=>
    simp only [dU]
    split
    ·rename_i s x sT xT _ hl _
     have hs:=ha s (by rw [hl];simp)
     have hx:=ha x (by rw [hl];simp)
     have ns:=hb s (by rw [hl];simp)
     have nx:=hb x (by rw [hl];simp)
     rw [←hs,←hx]
     generalize F s=ss at ns
     generalize F x=sx at nx
     split
     ·rename_i s' g2 _ _
      have hg:=nx g2 (by simp [S.names,V.names,W.names])
      rw [←QL (fun g hg=>ns g (by simpa [S.names,V.names] using hg)),←mP hg,←hg.1]
     ·rfl
    ·rfl
   |_=>rfl
  |_=>rfl
 |_=>rfl
end
end Go.Fw

namespace Go.Fw
open Go.RowKit
variable [d_]
def quiet:Obj→Bool
 |.loop _=>true
 |.deferred _=>true
 |_=>false
theorem jh {o:Obj} (h:quiet o=true) :∀c e f,o≠.cells c e f:=by intro c e f e';subst e';cases h
theorem Iy {o:Obj} (h:quiet o=true) :∀s k,o≠.stringIter s k:=by intro s k e';subst e';cases h
section
variable {w w':World} {b:Nat} {o:Obj}
theorem Iz {a:Addr} {v:Value} (h:w.cell? a=some v) :∃c e f,w.heap[a.block]?=some (.cells c e f):=by
 obtain ⟨o,ho,hc⟩:=cells_of_cell h
 cases o<;>first | exact ⟨_,_,_,ho⟩ | cases hc
theorem cu.turn (hb:w.heap[b]?=some o) (hq:quiet o=true) (hs :∀k,k≠b→w'.heap[k]?=w.heap[k]?) {ok:Nat→Prop} {x:P} {v:Value} (r:cu w ok x v):cu w' ok x v:=by
 have ne :∀{k c e f},w.heap[k]?=some (.cells c e f)→k≠b:=fun hk e'=>by subst e';rw [hb] at hk;exact jh hq _ _ _ (Wf hk)
 induction r with
 |int k n=>exact .int k n
 |bool b=>exact .bool b
 |str s=>exact .str s
 |opq v h=>exact .opq v h
 |nil sz ao cap=>exact .nil sz ao cap
 |sl sz l a cap f hs' hok hcap hlen hc hr ih=>
  refine .sl sz l a cap f hs' hok hcap hlen (fun i x hx j y hy => ?_) (fun i x hx j y hy=>ih i x hx j y hy)
  have h0:=hc i x hx j y hy
  obtain ⟨c,e,f,hk⟩:=Iz h0
  rw [←h0]
  exact World.cell?_of_block (w:=w) (hs _ (ne hk))
 |seq l v S hv hS hq'=>
  exact .seq l v S hv (fun b' hb'=>⟨(hS b' hb').1,by obtain ⟨c,e,f,hk⟩:=(hS b' hb').2;exact ⟨c,e,f,(hs _ (ne hk)).trans hk⟩⟩)
   (d_.Wh (fun b' hb'=>by obtain ⟨c,e,f,hk⟩:=(hS b' hb').2;exact hs _ (ne hk)) hq')
variable {E:Env} {st:St} {gh:Nat→Gh}
theorem vU (hz:w'.heap.size=w.heap.size) {a i:Bool}:E.ok st gh w a i=E.ok st gh w' a i:=by
 funext b;unfold Env.ok;rw [hz]
theorem eU.turn (hb:w.heap[b]?=some o) (hq:quiet o=true) (hs :∀k,k≠b→w'.heap[k]?=w.heap[k]?) (hz:w'.heap.size=w.heap.size) {x:W} {v:Value} (r:eU E st gh w x v):eU E st gh w' x v:=by
 induction r with
 |p a i x v h=>exact .p a i x v (by rw [←vU hz];exact h.turn hb hq hs)
 |cO=>exact .cO
 |own g v hv h=>exact .own g v hv h
 |vw g lo hi v hv h=>exact .vw g lo hi v hv h
 |box g off v hv h=>exact .box g off v hv h
 |ep g n off v hv h=>exact .ep g n off v hv h
 |sp a i row off b' o' hb' h=>
  refine .sp a i row off b' o' (by rw [←vU hz];exact hb') fun j y hj => ?_
  obtain ⟨u,hu,hr⟩:=h j y hj
  obtain ⟨c,e,f,hk⟩:=Iz hu
  refine ⟨u,?_,by rw [←vU hz];exact hr.turn hb hq hs⟩
  rw [←hu]
  refine World.cell?_of_block (w:=w) (hs _ fun e' => ?_)
  have hk:w.heap[b']?=some (.cells c e f):=hk
  have e':b'=b:=e'
  rw [e',hb] at hk;exact jh hq _ _ _ (Wf hk)
 |gl g=>exact .gl g
 |m_ g v hv h=>exact .m_ g v hv h
 |gd b x v h ih=>exact .gd b x v ih
 |clo f caps vs hl h ih=>exact .clo f caps vs hl ih
 |no v=>exact .no v
theorem rH.turn (hb:w.heap[b]?=some o) (hq:quiet o=true) (hs :∀k,k≠b→w'.heap[k]?=w.heap[k]?) (hz:w'.heap.size=w.heap.size) {x:V} {v:Value} (r:rH E st gh w x v):rH E st gh w' x v:=by
 cases r with
 |one x v h=>exact .one x v (h.turn hb hq hs hz)
 |agg xs cs hl hv h=>exact .agg xs cs hl hv fun j x v hx hv'=>(h j x v hx hv').turn hb hq hs hz
theorem dG.turn (hb:w.heap[b]?=some o) (hq:quiet o=true) (hs :∀k,k≠b→w'.heap[k]?=w.heap[k]?) (hz:w'.heap.size=w.heap.size) {x:S} {v:Value} (r:dG E st gh w x v):dG E st gh w' x v:=by
 cases r with
 |v x v h=>exact .v x v (h.turn hb hq hs hz)
 |lG xs vs hl h=>exact .lG xs vs hl fun j x v hx hv=>(h j x v hx hv).turn hb hq hs hz
 |no v=>exact .no v
theorem iL.turn (hb:w.heap[b]?=some o) (hq:quiet o=true) (hs :∀k,k≠b→w'.heap[k]?=w.heap[k]?) (hz:w'.heap.size=w.heap.size) {a i:Bool} {sz:Nat} {l:List (List P)} {G:Gh} (r:iL E st gh w a i sz l G):iL E st gh w' a i sz l G:=by
 rcases r with r | ⟨ad,c,e,h1,h2,h3,h4,h5,h6,h7⟩
 ·exact .inl r
 ·exact .inr ⟨ad,c,e,h1,h2,(hs _ fun e'=>by rw [e',hb] at h3;exact jh hq _ _ _ (Wf h3)).trans h3,h4,h5,h6,fun n x hx j y hy=>let ⟨v,q1,q2⟩:=h7 n x hx j y hy;⟨v,q1,by rw [←vU hz];exact q2.turn hb hq hs⟩⟩
theorem lM.turn (hb:w.heap[b]?=some o) (hq:quiet o=true) (hs :∀k,k≠b→w'.heap[k]?=w.heap[k]?) (hz:w'.heap.size=w.heap.size) {x:O} {G:Gh} (r:lM E st gh w x G):lM E st gh w' x G:=by
 have ne :∀{k c e f},w.heap[k]?=some (.cells c e f)→k≠b:=fun hk e'=>by subst e';rw [hb] at hk;exact jh hq _ _ _ (Wf hk)
 cases x with
 |none=>trivial
 |box ws=>
  obtain ⟨ad,c,e,h1,h2,h3,h4,h5⟩:=r
  exact ⟨ad,c,e,h1,h2,(hs _ (ne h3)).trans h3,h4,fun j x hx=>let ⟨v,q1,q2,q3⟩:=h5 j x hx;⟨v,q1,q2,q3.turn hb hq hs hz⟩⟩
 |arr fz a i sz l=>
  cases fz with
  |true=>exact (by rw [←vU hz];exact cu.turn hb hq hs r:cu w' (E.ok st gh w' a i) (.sl sz l) (.slice G.ad l.length G.cap))
  |false=>exact iL.turn hb hq hs hz r
 |aP a i sz au l hole=>
  rcases r with r | ⟨ad,c,e,h1,h2,h3,h4,h5,h6,⟨h7,h7'⟩,h8⟩
  ·exact .inl r
  ·refine .inr ⟨ad,c,e,h1,h2,(hs _ (ne h3)).trans h3,h4,h5,h6,⟨h7,fun k hk=>let ⟨c,e,f,q⟩:=h7' k hk;⟨c,e,f,(hs _ (ne q)).trans q⟩⟩,fun n x hx j y hy => ?_⟩
   obtain ⟨v,hv,hr⟩:=h8 n x hx j y hy
   refine ⟨v,hv,?_⟩
   unfold iE at *
   cases hc:au.lookup j with
   |none=>rw [hc] at hr;exact (by rw [←vU hz];exact cu.turn hb hq hs hr:cu w' (E.ok st gh w' a i) y v)
   |some sz'=>
    rw [hc] at hr
    simp only at *
    cases hh:gW hole n j with
    |some d=>rw [hh] at hr;exact ⟨hr.1,hr.2.turn hb hq hs hz⟩
    |none=>
     rw [hh] at hr
     obtain ⟨l',ao,k,q1,q2,q3,q4⟩:=hr
     exact ⟨l',ao,k,q1,q2,q3.turn hb hq hs hz,q4⟩
 |it s n=>
  obtain ⟨ad,bs,k,h1,h2,h3,h4⟩:=r
  refine ⟨ad,bs,k,h1,h2,h3,(hs _ fun e' => ?_).trans h4⟩
  rw [e',hb] at h4;exact Iy hq _ _ (Wf h4)
theorem Rel.turn {val:Nat→Value} (h:Rel E st gh val w) (hb:w.heap[b]?=some o) (hq:quiet o=true) (hB:E.B0≤b) (o':Obj):Rel E st gh val (w.putObj b o'):=by
 have hs :∀k,k≠b→(w.putObj b o').heap[k]?=w.heap[k]?:=fun k hk=>World.putObj_heap_other hk
 have hz:(w.putObj b o').heap.size=w.heap.size:=World.putObj_size
 exact ⟨fun t=>(h.slots t).turn hb hq hs hz,fun g=>(h.bf g).turn hb hq hs hz,h.inj,fun g a h1 h2=>by rw [hz];exact h.wr g a h1 h2,h.wi,h.ns,h.wb,fun k hk hw=>(hs k (by omega)).trans (h.frame k hk hw),by rw [hz];exact h.size,h.os,h.tape,h.output,h.us,h.uo,h.ul⟩
omit [d_] in
structure qL (w w':World):Prop where
 size:w.heap.size≤w'.heap.size
 same :∀b,b<w.heap.size→w'.heap[b]?=w.heap[b]?
 os:w'.os=w.os
 tape:w'.tape=w.tape
 output:w'.output=w.output
theorem qL.refl (w:World):qL w w:=⟨YY _,fun _ _=>rfl,rfl,rfl,rfl⟩
theorem qL.trans {w w1 w2:World} (h:qL w w1) (k:qL w1 w2):qL w w2:=
 ⟨Vn h.size k.size,fun b hb=>(k.same b (Wo hb h.size)).trans (h.same b hb),k.os.trans h.os,k.tape.trans h.tape,k.output.trans h.output⟩
theorem qL.alloc (w:World) (o:Obj):qL w (w.alloc o):=
 ⟨by simp,fun b hb=>Below.heap_alloc w o b hb,rfl,rfl,rfl⟩
theorem qL.lets (h:qL w w'):Lets E st st gh gh w w':=
 ⟨fun a i b hb=>⟨⟨hb.1,Wo hb.2.1 h.size,hb.2.2⟩,h.same b hb.2.1⟩,fun g _=>.inr ⟨⟨rfl,rfl⟩,O.fA _⟩⟩
theorem Rel.grows {val:Nat→Value} (h:Rel E st gh val w) (hg:qL w w'):Rel E st gh val w':=by
 have hl:Lets E st st gh gh w w':=hg.lets
 refine ⟨fun t=>hl.adZ (h.us t) (h.slots t),fun g=>hl.BM (fun ho ad had=>hg.same _ (h.wr g ad ho had).2) (h.uo g) (h.bf g),h.inj,fun g a h1 h2=>⟨(h.wr g a h1 h2).1,Wo (h.wr g a h1 h2).2 hg.size⟩,h.wi,h.ns,h.wb,fun k hk hw=>(hg.same k (Wo hk h.size)).trans (h.frame k hk hw),Vn h.size hg.size,hg.os.trans h.os,hg.tape.trans h.tape,hg.output.trans h.output,h.us,h.uo,h.ul⟩
theorem Rel.aaI {val:Nat→Value} (h:Rel E st gh val w) (hb:w.heap[b]?=some o) (hq:quiet o=true) (hB:E.B0≤b) (a i:Bool):E.ok st gh w a i b:=by
 refine ⟨.inr (.inr (.inl hB)),(Wc.1 hb).1,fun g ho had => ?_⟩
 have hO:=h.bf g
 rcases had with ⟨ad,had,e⟩ | hsub
 case inr=>
  cases hd:(st.o g).nV with
  |false=>rw [h.ns g ho hd b] at hsub;cases hsub
  |true=>
   cases hog:st.o g with
   |aP a i sz au l hole=>
    rw [hog] at hO
    rcases hO with ⟨_,_,_,q⟩ | ⟨ad,c,e,_,_,_,_,_,_,⟨_,q⟩,_⟩
    ·rw [q b] at hsub;cases hsub
    ·obtain ⟨c,e,f,q⟩:=q b hsub
     rw [hb] at q;exact jh hq _ _ _ (Wf q)
   |_=>rw [hog] at hd;cases hd
 cases hog:st.o g with
 |none=>rw [hog] at ho;cases ho
 |box ws=>
  rw [hog] at hO
  obtain ⟨ad',c,e',q1,_,q3,_⟩:=hO
  rw [had] at q1;cases q1
  rw [e,hb] at q3;exact jh hq _ _ _ (Wf q3)
 |aP a i sz au l hole=>
  rw [hog] at hO
  rcases hO with ⟨q1,_⟩ | ⟨ad',c,e',q1,_,q3,_⟩
  ·rw [had] at q1;cases q1
  ·rw [had] at q1;cases q1
   rw [e,hb] at q3;exact jh hq _ _ _ (Wf q3)
 |arr fz a i sz l=>
  cases fz with
  |true=>rw [hog] at ho;cases ho
  |false=>
   rw [hog] at hO
   rcases hO with ⟨q1,_⟩ | ⟨ad',c,e',q1,_,q3,_⟩
   ·rw [had] at q1;cases q1
   ·rw [had] at q1;cases q1
    rw [e,hb] at q3;exact jh hq _ _ _ (Wf q3)
 |it s n=>
  rw [hog] at hO
  obtain ⟨ad',bs,k,q1,_,_,q4⟩:=hO
  rw [had] at q1;cases q1
  rw [e,hb] at q4;exact Iy hq _ _ (Wf q4)
end
end Go.Fw

namespace Go.Fw
variable [d_]
section
variable {E:Env} {st st':St} {gh bP:Nat→Gh} {w w':World} {a:Act}
theorem UA (v:Value):dG E st gh w (vk v) v:=by
 unfold vk
 split
 ·rename_i cs
  split
  ·rename_i h
   have h:=X2.1 h
   refine .v _ _ (.agg _ cs.toList (by simp) h fun j x u hx hu => ?_)
   rw [XS,hu] at hx
   simp only [ZZ,Q0] at hx
   subst hx
   exact Uj (h u (Xs hu))
  ·exact .no _
 ·exact .no _
 ·exact .v _ _ (.one _ _ (.clo _ [] [] rfl fun j x v hx=>by simp at hx))
 ·split
  ·rename_i h;exact .v _ _ (.one _ _ (Uj h))
  ·exact .no _
theorem Om (v:Value):(vk v).names=[]:=by
 unfold vk
 split
 ·split
  ·simp [S.names,V.names,nC]
  ·rfl
 ·rfl
 ·simp [S.names,V.names,W.names]
 ·split
  ·simp [S.names,V.names,nC]
  ·rfl
theorem nJ (h:Rel E st gh (fun t=>a.tmps.getD t undef) w) (x:Operand):dG E st gh w (st.dH x) (a.eval x):=by
 cases x with
 |tmp t=>exact h.slots t
 |const v=>exact UA v
 |global g=>
  simp only [St.dH]
  split
  ·exact .v _ _ (.one _ _ (.gl g))
  ·exact .no _
 |func f=>exact .v _ _ (.one _ _ (.clo _ [] [] rfl fun j x v hx=>by simp at hx))
theorem IB (h:Rel E st gh (fun t=>a.tmps.getD t undef) w) (x:Operand) :∀g∈(st.dH x).names,st.used g=true:=by
 cases x with
 |tmp t=>exact h.us t
 |const v=>intro g hg;simp [St.dH,Om] at hg
 |global g=>
  intro g' hg
  simp only [St.dH] at hg
  split at hg
  ·simp [S.names,V.names,W.names] at hg
  ·simp [S.names] at hg
 |func f=>intro g hg;simp [St.dH,S.names,V.names,W.names] at hg
theorem xR (dst:Option Tmp) (v:Value) (h :∀d,dst=some d→d<a.tmps.size):(fun t=>(a.put dst v).tmps.getD t undef)=xA (fun t=>a.tmps.getD t undef) dst v:=by
 cases dst with
 |none=>rfl
 |some d=>
  funext t
  have hd:=h d rfl
  simp only [Act.put,xA,W2]
  by_cases e:t=d
  ·subst e;simp [hd]
  ·rw [Kk (Ne.symm e),if_neg e]
variable {Pg:Program} {T:Tab} {tt:TT}
theorem YL (hT :∀f sp,T f=some sp→Sound Pg (f % 1000000) sp) (htt:ig Pg tt) (h:Rel E st gh (fun t=>a.tmps.getD t undef) w) {o:Oper} {d:Nat} {e:Eff} (hc:iZ T tt d st o fun e'=>e'=e) (hnew :∀g∈e.new,st.used g=false)
  {K:Act→World→Prop} {Q:Exit→Act→World→Prop}
  (hK :∀v w' bP,Rel E (st.aK e.aK e.new) bP (fun t=>a.tmps.getD t undef) w'→Lets E st (st.aK e.aK e.new) gh bP w w'→dG E (st.aK e.aK e.new) bP w' e.x v→(∀g∈e.x.names,(st.aK e.aK e.new).used g=true)→K (a.put o.dst v) w') :
  o.wp Pg a w K Q:=by
 unfold iZ at hc
 split at hc
 ·rename_i f args ts ho
  split at hc
  ·rename_i fn caps hf
   split at hc
   ·rename_i sp hsp
    split at hc
    ·rename_i c hci
     obtain ⟨WG,bZ,same,hR,hsame,he⟩:=hc
     simp only [Q6,decide_eq_true_eq] at WG
     have hrf:=nJ h f
     rw [hf] at hrf
     generalize hvf:a.eval f=vf at hrf
     cases hrf.dJ with
     |clo _ _ vs hl hvs=>
     have hS:=aea (p:=Sound Pg) hT hsp
     have hrun:(execOp a.eval o).run Pg w=.ok (.enter fn (args.toList.map a.eval++vs).toArray) w:=by
      have:(#[]++args.map a.eval)++vs.toArray=(args.toList.map a.eval++vs).toArray:=by
       apply Array.ext';simp
      rw [←hS.2.1 (args.toList.map a.eval++vs).toArray w,←this]
      simp only [execOp,ho,resolve,hvf,Deferred.ofValue]
      rfl
     show o.upon Pg a K Q ((execOp a.eval o).run Pg w)
     rw [hrun,Oper.upon_enter]
     have hr :∀t,dG E st gh w (((args.toList.map st.dH)++caps.map fun x=>S.v (.one x)).getD t .no) ((args.toList.map a.eval++vs).getD t undef):=by
      intro t
      simp only [List.getD_eq_getElem?_getD]
      by_cases ht:t<args.toList.length
      ·rw [Zs (by simpa using ht),Zs (by simpa using ht),XS,XS,Q2 ht]
       exact nJ h _
      ·rw [Z2 (by simpa using ht),Z2 (by simpa using ht)]
       simp only [Z3]
       rw [XS]
       cases hx:caps[t-args.toList.length]? with
       |none=>exact .no _
       |some x=>
        have hlt:t-args.toList.length<vs.length:=by rw [←hl];exact (Q3.1 hx).1
        rw [Q2 hlt]
        exact .v _ _ (.one _ _ (hvs _ x _ hx (Q2 hlt)))
     have hu:=YC (st:=st) (e:=iC sp.sig d st.o c bZ) fun g hg=>(hsame g hg).2
     have hnew :∀g∈(iC sp.sig d st.o c bZ).new,st.used g=false:=fun g hg=>hnew g (by rw [←he];exact hg)
     refine Calls.mono (Uz hS h hr (by simp;omega) hci WG.1 hR d rfl hnew) fun e' w' he' => ?_
     obtain ⟨v,bP,rfl,q1,q2,q3,q4⟩:=he'
     rw [←hu] at q1 q2 q3 q4
     rw [he] at q1 q2 q3 q4
     have q3:dG E (st.aK e.aK e.new) bP w' e.x v:=by rw [←he];rw [←he] at q3;exact q3
     have q4 :∀g∈e.x.names,(st.aK e.aK e.new).used g=true:=by rw [←he];rw [←he] at q4;exact q4
     exact hK v w' bP q1 q2 q3 q4
    ·cases hc
   ·cases hc
  ·cases hc
 ·rcases hc with ⟨dc,r,hk,hp,hc⟩ | hc
  ·have he:=P9.iff.1 hc
   subst he
   obtain ⟨v,w',bP,hd,q1,q2,q3,q4⟩:=KQ htt o.op E st gh _ w a.eval st.dH o d r rfl h (nJ h) (IB h) hk hp hnew
   show o.upon Pg a K Q ((execOp a.eval o).run Pg w)
   rcases hd with hd | ⟨hd,rfl⟩
   ·rw [hd];exact hK v w' bP q1 q2 q3 q4
   ·rw [hd];exact hK _ w' bP q1 q2 q3 q4
  split at hc
  ·rename_i r hk
   obtain ⟨hp,hc⟩:=hc
   have he:({ x:=r.dst r.val,aK:=r.aK r.val,new:=r.new }:Eff)=e:=by
    cases hb:E8 o.op with
    |true=>rw [hb] at hc;exact P9.iff.1 hc
    |false=>rw [hb] at hc;exact hc
   subst he
   obtain ⟨v,w',bP,hd,q1,q2,q3,q4⟩:=N8 htt o.op E st gh _ w a.eval st.dH o d r rfl h (nJ h) (IB h) hk hp hnew
   show o.upon Pg a K Q ((execOp a.eval o).run Pg w)
   rcases hd with hd | ⟨hd,rfl⟩
   ·rw [hd];exact hK v w' bP q1 q2 q3 q4
   ·rw [hd];exact hK _ w' bP q1 q2 q3 q4
  ·cases hc
def mark (D:Nat):Deferred:={ target:=.collected D,args:=#[] }
def Marks (E:Env) (a:Act) (w:World):Prop :=∃Ds:List Nat,a.defers=Ds.map mark∧Ds.Nodup∧∀D∈Ds,E.B0≤D∧w.heap[D]?=some (.deferred (some []))
theorem Marks.nil {E:Env} {a:Act} {w:World} (h:a.defers=[]):Marks E a w:=⟨[],h,List.nodup_nil,fun D hD=>by cases hD⟩
structure Good (E:Env) (N:Nat) (bg:List Nat) (pO:Nat→Gh) (st:St) (a:Act) (w:World):Prop where
 ex :∃gh,Rel E st gh (fun t=>a.tmps.getD t undef) w∧∀g∈bg,st.used g=true∧(st.o g=.none∨((gh g).ad=(pO g).ad∧(gh g).cap=(pO g).cap))
 size:a.tmps.size=N
 defers:Marks E a w
theorem xU (dst:Option Tmp) (v:Value):(a.put dst v).tmps.size=a.tmps.size:=by cases dst<;>simp [Act.put]
theorem put_defers (dst:Option Tmp) (v:Value):(a.put dst v).defers=a.defers:=by cases dst<;>rfl
theorem Marks.same {E:Env} {a:Act} {w w':World} (hm:Marks E a w) (h :∀D,E.B0≤D→w.heap[D]?=some (.deferred (some []))→w'.heap[D]?=w.heap[D]?) (dst:Option Tmp) (v:Value):Marks E (a.put dst v) w':=by
 obtain ⟨Ds,h1,h2,h3⟩:=hm
 exact ⟨Ds,(put_defers dst v).trans h1,h2,fun D hD=>⟨(h3 D hD).1,(h D (h3 D hD).1 (h3 D hD).2).trans (h3 D hD).2⟩⟩
theorem Marks.step {val:Nat→Value} (hm:Marks E a w) (hR:Rel E st gh val w) (hL:Lets E st st' gh bP w w') (dst:Option Tmp) (v:Value):Marks E (a.put dst v) w':=
 hm.same (fun D h2 h3=>(hL.ok false false D (hR.aaI h3 rfl h2 _ _)).2) dst v
theorem Marks.put (hm:Marks E a w) (dst:Option Tmp) (v:Value):Marks E (a.put dst v) w:=hm.same (fun _ _ _=>rfl) dst v
def Can (T:Tab) (tt:TT) (N:Nat) (ops:Array Oper) (st:St) (o:Oper) (e:Eff):Prop:=stepW T tt N ops o st fun e'=>e'=e
theorem oh {d:Nat} {o:Oper} {K K':Eff→Prop} (hK :∀e,K e→K' e) (h:iZ T tt d st o K):iZ T tt d st o K':=by
 unfold iZ at *
 split at h
 ·split at h
  ·split at h
   ·split at h
    ·obtain ⟨h1,bZ,same,h2,h4,h3⟩:=h;exact ⟨h1,bZ,same,h2,h4,hK _ h3⟩
    ·exact h
   ·exact h
  ·exact h
 ·rcases h with ⟨dc,r,h1,h2,h3⟩ | h
  ·exact .inl ⟨dc,r,h1,h2,P9.iff.2 (hK _ (P9.iff.1 h3))⟩
  refine .inr ?_
  split at h
  ·refine ⟨h.1,?_⟩
   obtain ⟨_,h⟩:=h
   cases hb:E8 o.op with
   |true=>rw [hb] at h;exact P9.iff.2 (hK _ (P9.iff.1 h))
   |false=>rw [hb] at h;exact hK _ h
  ·exact h
theorem D5 {d:Nat} {o:Oper} {K:Eff→Prop} (h:iZ T tt d st o K) :∃e,iZ T tt d st o (fun e'=>e'=e)∧K e:=by
 unfold iZ at *
 split at h
 ·split at h
  ·split at h
   ·split at h
    ·obtain ⟨h1,bZ,same,h2,h4,h3⟩:=h;exact ⟨_,⟨h1,bZ,same,h2,h4,rfl⟩,h3⟩
    ·cases h
   ·cases h
  ·cases h
 ·rcases h with ⟨dc,r,h1,h2,h3⟩ | h
  ·exact ⟨_,.inl ⟨dc,r,h1,h2,P9.iff.2 rfl⟩,P9.iff.1 h3⟩
  split at h
  ·obtain ⟨hp,h⟩:=h
   cases hb:E8 o.op with
   |true=>rw [hb] at h;exact ⟨_,.inr ⟨hp,P9.iff.2 rfl⟩,P9.iff.1 h⟩
   |false=>rw [hb] at h;exact ⟨_,.inr ⟨hp,rfl⟩,h⟩
  ·cases h
theorem QM {N:Nat} {ops:Array Oper} {o:Oper} {K:Eff→Prop} (h:stepW T tt N ops o st K) :∃e,Can T tt N ops st o e∧K e:=by
 unfold Can
 unfold stepW at *
 obtain ⟨hd,h⟩:=h
 split at h
 ·obtain ⟨e,h1,h2,h3⟩:=D5 h
  exact ⟨e,⟨hd,oh (fun e' he=>⟨by rw [he];exact h2,he⟩) h1⟩,h3⟩
 ·split at h
  ·rename_i b hb
   cases b with
   |true=>
    simp only [cond_true] at h
    obtain ⟨e,h1,h2,h3⟩:=D5 h
    refine ⟨e,⟨hd,?_⟩,h3⟩
    simp only [cond_true]
    exact oh (fun e' he=>⟨by rw [he];exact h2,he⟩) h1
   |false=>exact ⟨Eff.skip,⟨hd,rfl⟩,h⟩
  ·cases h
theorem IC {N:Nat} {bg:List Nat} {pO:Nat→Gh} (hT :∀f sp,T f=some sp→Sound Pg (f % 1000000) sp) (htt:ig Pg tt) {ops:Array Oper} {i:Nat} {o:Oper} (hi:ops[i]?=some o) (h:Good E N bg pO st a w) {e:Eff} (hc:Can T tt N ops st o e)
  {K:Act→World→Prop} {Q:Exit→Act→World→Prop} (hK :∀a' w',Good E N bg pO (st.eff o.dst e) a' w'→K a' w'):wpOp Pg ops Q i K a w:=by
 obtain ⟨⟨gh,hR,Fe⟩,hsz,hdf⟩:=h
 unfold Can stepW at hc
 obtain ⟨hd,hc⟩:=hc
 have hd :∀d,o.dst=some d→d<a.tmps.size:=by
  intro d e
  rw [e] at hd
  rw [hsz];simpa using hd
 have run:(iZ T tt (o.dst.getD 0) st o fun e'=>e'.new.all (fun g=>!st.used g)=true∧e'=e)→o.wp Pg a w K Q:=by
  intro hc
  obtain ⟨e',h1,h2,rfl⟩:=D5 hc
  have hnew :∀g∈e'.new,st.used g=false:=fun g hg=>by have:=(X2.1 h2) g hg;simpa using this
  refine YL hT htt hR h1 hnew fun v w' bP q1 q2 q3 q4=>hK _ _ ⟨⟨bP,?_,fun g hg => ?_⟩,by rw [xU];exact hsz,hdf.step hR q2 _ _⟩
  ·rw [xR _ _ hd]
   exact q1.put o.dst q3 q4
  ·obtain ⟨p1,p2⟩:=Fe g hg
   have ho:(st.eff o.dst e').o g=(st.aK e'.aK e'.new).o g:=by unfold St.eff St.put;cases o.dst<;>rfl
   have hu:(st.eff o.dst e').used g=(st.aK e'.aK e'.new).used g:=by unfold St.eff St.put;cases o.dst<;>rfl
   refine ⟨by rw [hu];simp [St.aK,p1],?_⟩
   rw [ho]
   rcases q2.names g p1 with q | ⟨q,qk⟩
   ·exact .inl q
   ·rcases p2 with p2 | p2
    ·rw [p2] at qk;exact .inl (O.DX qk)
    ·exact .inr ⟨q.1.trans p2.1,q.2.trans p2.2⟩
 unfold wpOp
 rw [hi]
 simp only
 cases hg:o.guard with
 |none=>
  rw [hg] at hc
  have:Region.wanted o (yielded ops a.tmps)=true:=by simp [Region.wanted,hg]
  rw [if_pos this]
  exact .inl (run hc)
 |some p=>
  obtain ⟨j,want⟩:=p
  rw [hg] at hc
  simp only at hc
  split at hc
  ·rename_i b hb
   have hw:Region.wanted o (yielded ops a.tmps)=b:=by
    simp only [Region.wanted,hg,yielded]
    unfold guardOf at hb
    split at hb
    ·rename_i t ht
     have QN:=hR.slots t
     rw [ht]
     simp only [Option.bind_some]
     split at hb
     ·rename_i a' i' b' hs
      rw [hs] at QN
      have hv:=QN.fC.lT
      have:a.tmps[t]?=some (.bool b'):=by
       simp only [W2] at hv
       cases hx:a.tmps[t]? with
       |none=>rw [hx] at hv;cases hv
       |some x=>rw [hx] at hv;simp at hv;rw [hv]
      rw [this]
      simp only [Q0] at hb
      subst hb
      cases want<;>cases b'<;>rfl
     ·rename_i hs
      rw [hs] at QN
      simp only [Q0] at hb
      subst hb
      have hv:a.tmps.getD t undef=.tuple #[]:=by
       generalize a.tmps.getD t undef=v at QN
       cases QN with | lG _ vs hl _=>
       have:vs=[]:=by cases vs<;>simp_all
       subst this;rfl
      have:a.tmps[t]?=none∨a.tmps[t]?=some (.tuple #[]):=by
       simp only [W2] at hv
       cases hx:a.tmps[t]? with
       |none=>exact .inl rfl
       |some x=>rw [hx] at hv;simp at hv;rw [hv];exact .inr rfl
      rcases this with h | h<;>rw [h]<;>cases want<;>rfl
     ·cases hb
    ·cases hb
   rw [hw]
   cases b with
   |true=>exact .inl (run hc)
   |false=>
    simp only [cond_false] at hc
    subst hc
    refine hK _ _ ⟨⟨gh,?_,fun g hg => ?_⟩,by rw [xU];exact hsz,hdf.put _ _⟩
    ·rw [xR _ _ hd]
     unfold St.eff Eff.skip
     simp only [GY]
     exact hR.put o.dst (.lG [] [] rfl fun j x v hx=>by simp at hx) (by simp [S.names])
    ·have ho:(st.eff o.dst Eff.skip).o g=st.o g:=by unfold St.eff St.put Eff.skip;cases o.dst<;>simp [St.aK]
     have hu:(st.eff o.dst Eff.skip).used g=st.used g:=by unfold St.eff St.put Eff.skip;cases o.dst<;>simp [St.aK]
     rw [ho,hu];exact Fe g hg
  ·cases hc
end
end Go.Fw

namespace Go.Fw
variable [d_]
section
variable {o o':Nat→O}
theorem IE {k:WS} {x:W} (h :∀g∈x.names,Agree o o' g):fG o k x=fG o' k x:=by
 cases k with
 |p a i=>simp only [fG];rw [DZ h]
 |own g'=>cases x<;>rfl
 |box g' off=>
  cases off with
  |zero=>cases x<;>first | rfl | (rename_i off;cases off<;>rfl)
  |succ off=>cases x<;>rfl
 |cO=>cases x<;>rfl
 |fn f=>cases x<;>first | rfl | (rename_i caps;cases caps<;>rfl)
 |m_ g=>cases x<;>rfl
 |no=>cases x<;>rfl
 |vw g=>cases x<;>rfl
 |ep g off=>cases x<;>rfl
theorem Fp :∀{ks:List WS} {xs:List W},(∀x∈xs,∀g∈x.names,Agree o o' g)→jB o ks xs=jB o' ks xs
 | [],[],_=>rfl
 | [],_::_,_=>rfl
 |_::_,[],_=>rfl
 |k::ks,x::xs,h=>by simp only [jB];rw [IE (h x (by simp)),Fp fun y hy=>h y (by simp [hy])]
theorem UC {k:SS} {x:S} (h :∀g∈x.names,Agree o o' g):n_ o k x=n_ o' k x:=by
 cases k with
 |one k=>
  cases x with
  |v x=>cases x with
   |one x=>exact IE fun g hg=>h g (by simpa [S.names,V.names] using hg)
   |agg xs=>rfl
  |lG=>rfl
  |no=>rfl
 |agg ks=>
  cases x with
  |v x=>cases x with
   |one x=>rfl
   |agg xs=>exact Fp fun x hx g hg=>h g (by simp only [S.names,V.names,Ys];exact ⟨x,hx,hg⟩)
  |lG=>rfl
  |no=>rfl
theorem WH {args:List S} {t:Nat}:args.getD t .no=.no∨args.getD t .no∈args:=by
 rw [List.getD_eq_getElem?_getD]
 cases h:args[t]? with
 |none=>exact .inl rfl
 |some x=>exact .inr (Xs h)
theorem xW {args:List S} (h :∀x∈args,∀g∈x.names,Agree o o' g) :∀{L:List (Nat×SS)},eH o args L=eH o' args L
 | []=>rfl
 |(t,k)::L=>by
  simp only [eH]
  rw [UC (o:=o) (o':=o') (k:=k) (x:=args.getD t .no) (fun g hg=>by
   rcases WH (args:=args) (t:=t) with e | e
   ·rw [e] at hg;simp [S.names] at hg
   ·exact h _ e g hg),xW h]
theorem CB {k:WS} {x:W} {us:List P} {c:Bool×Bool} {gs:List Nat} {r:List (Nat×Nat)} (h:fG o k x=some (us,c,gs,r)) (hx :∀g∈x.names,Agree o o' g) :∀g∈gs,Agree o o' g:=by
 cases k with
 |p a i=>
  simp only [fG] at h
  split at h
  ·rename_i ht
   simp only [Q0,Q1] at h
   obtain ⟨_,_,rfl,_⟩:=h
   exact AA ht hx
  ·cases h
 |own g'=>cases x<;>simp [fG] at h;obtain ⟨_,_,rfl,_⟩:=h;simp
 |box g' off=>
  cases off with
  |succ off=>cases x<;>simp [fG] at h
  |zero=>
   cases x with
   |box g off=>cases off<;>simp [fG] at h;obtain ⟨_,_,rfl,_⟩:=h;simp
   |_=>simp [fG] at h
 |cO=>simp [fG] at h
 |fn f gs0=>
  cases x with
  |clo f' caps=>
   simp only [fG] at h
   split at h
   ·split at h
    ·simp only [Q0,Q1] at h;obtain ⟨_,_,rfl,_⟩:=h;simp
    ·cases h
   ·cases h
  |_=>simp [fG] at h
 |m_ g=>simp [fG] at h
 |no=>simp [fG] at h
 |vw g=>simp [fG] at h
 |ep g off=>simp [fG] at h
theorem zT :∀{ks:List WS} {xs:List W} {us:List P} {c:Bool×Bool} {gs:List Nat} {r:List (Nat×Nat)},jB o ks xs=some (us,c,gs,r)→(∀x∈xs,∀g∈x.names,Agree o o' g)→∀g∈gs,Agree o o' g
 | [],xs,us,c,gs,r,h,_=>by
  cases xs<;>simp [jB] at h
  obtain ⟨_,_,rfl,_⟩:=h;simp
 |k::ks,xs,us,c,gs,r,h,hx=>by
  cases xs with
  |nil=>simp [jB] at h
  |cons x xs=>
   simp only [jB] at h
   split at h
   ·rename_i h1 h2
    simp only [Q0,Q1] at h
    obtain ⟨_,_,rfl,_⟩:=h
    intro g hg
    rcases X1.1 hg with hg | hg
    ·exact CB h1 (hx _ (by simp)) g hg
    ·exact zT h2 (fun y hy=>hx y (by simp [hy])) g hg
   ·cases h
theorem uF {args:List S} :∀{L:List (Nat×SS)} {us:List P} {c:Bool×Bool} {gs:List Nat} {r:List (Nat×Nat)},eH o args L=some (us,c,gs,r)→(∀x∈args,∀g∈x.names,Agree o o' g)→∀g∈gs,Agree o o' g
 | [],us,c,gs,r,h,_=>by simp [eH] at h;obtain ⟨_,_,rfl,_⟩:=h;simp
 |(t,k)::L,us,c,gs,r,h,hx=>by
  simp only [eH] at h
  split at h
  ·rename_i h1 h2
   simp only [Q0,Q1] at h
   obtain ⟨_,_,rfl,_⟩:=h
   intro g hg
   rcases X1.1 hg with hg | hg
   ·have hx0 :∀g∈(args.getD t .no).names,Agree o o' g:=by
     rcases WH (args:=args) (t:=t) with e | e
     ·rw [e];simp [S.names]
     ·exact hx _ e
    ·generalize args.getD t S.no=z at h1 hx0
     cases k with
     |one k=>
      cases z with
      |v z=>
       cases z with
       |one z=>exact CB h1 (fun g hg=>hx0 g (by simpa [S.names,V.names] using hg)) g hg
       |agg z=>simp [n_] at h1
      |_=>simp [n_] at h1
     |agg ks=>
      cases z with
      |v z=>
       cases z with
       |one z=>simp [n_] at h1
       |agg z=>exact zT h1 (fun x hx g hg=>hx0 g (by simp only [S.names,V.names,Ys];exact ⟨x,hx,hg⟩)) g hg
      |_=>simp [n_] at h1
   ·exact uF h2 hx g hg
  ·cases h
theorem oq :∀{L:List (Nat×OS)} {r r':List (Nat×Nat)} {u:List P} {c:Bool×Bool},jv o r L=some (u,c,r')→∀p∈r,p∈r'
 | [],r,r',u,c,h=>by simp only [jv,Q0,Q1] at h;obtain ⟨_,_,rfl⟩:=h;exact fun p hp=>hp
 |(g',k)::L,r,r',u,c,h=>by
  simp only [jv] at h
  split at h
  ·split at h
   ·split at h
    ·split at h
     ·rename_i h2
      simp only [Q0,Q1] at h
      obtain ⟨_,_,rfl⟩:=h
      exact fun p hp=>oq h2 p (W3 _ hp)
     ·cases h
    ·cases h
   ·split at h
    ·split at h
     ·rename_i h2
      simp only [Q0,Q1] at h
      obtain ⟨_,_,rfl⟩:=h
      exact oq h2
     ·cases h
    ·cases h
   ·split at h
    ·split at h
     ·rename_i h2
      simp only [Q0,Q1] at h
      obtain ⟨_,_,rfl⟩:=h
      exact oq h2
     ·cases h
    ·cases h
   ·cases h
  ·cases h
theorem pX :∀{L:List (Nat×OS)} {r r':List (Nat×Nat)} {u:List P} {c:Bool×Bool},jv o r L=some (u,c,r')→(∀p∈r',o p.2=o' p.2)→jv o' r L=some (u,c,r')
 | [],r,r',u,c,h,_=>h
 |(g',k)::L,r,r',u,c,h,hl=>by
  simp only [jv] at h ⊢
  split at h
  ·rename_i g hg
   have hmem:=ku hg
   have key :∀r2:List (Nat×Nat),(∀p∈r,p∈r2)→(∀p∈r2,p∈r')→o g=o' g:=fun r2 h1 h2=>hl _ (h2 _ (h1 _ hmem))
   split at h
   ·rename_i ks ws hk
    split at h
    ·rename_i r1 h1
     split at h
     ·rename_i h2
      simp only [Q0,Q1] at h
      obtain ⟨rfl,rfl,rfl⟩:=h
      have e:=key _ (fun p hp=>W3 _ hp) (oq h2)
      simp only [←e,hk,h1,pX h2 hl]
     ·cases h
    ·cases h
   ·rename_i a1 b1 c1 sz a i sz' l hk
    split at h
    ·rename_i hsz
     split at h
     ·rename_i h2
      simp only [Q0,Q1] at h
      obtain ⟨rfl,rfl,rfl⟩:=h
      have e:=key _ (fun p hp=>hp) (oq h2)
      simp only [←e,hk,pX h2 hl,if_pos hsz]
     ·cases h
    ·cases h
   ·rename_i a1 b1 sz au a i sz' jX l hk
    split at h
    ·rename_i hsz
     split at h
     ·rename_i h2
      simp only [Q0,Q1] at h
      obtain ⟨rfl,rfl,rfl⟩:=h
      have e:=key _ (fun p hp=>hp) (oq h2)
      simp only [←e,hk,pX h2 hl,if_pos hsz]
     ·cases h
    ·cases h
   ·cases h
  ·cases h
theorem Oo {s:zf} {args:List S} {c:KT} (h:gX s o args=some c) (h1 :∀x∈args,∀g∈x.names,Agree o o' g) (h2 :∀p∈c.ren,o p.2=o' p.2):gX s o' args=some c:=by
 unfold gX at *
 rw [←xW h1]
 split at h
 ·rename_i hs
  split at h
  ·rename_i Fe
   simp only [Q0] at h
   subst h
   simp only [pX Fe fun p hp=>h2 p (mQ.2 hp)]
  ·cases h
 ·cases h
theorem IG {s:zf} {args:List S} {c:KT} (hc:gX s o args=some c) (hx :∀x∈args,∀g∈x.names,Agree o o' g) :∀g∈c.vg,Agree o o' g:=by
 unfold gX at hc
 split at hc
 ·rename_i hsl
  split at hc
  ·simp only [Q0] at hc;subst hc
   exact uF hsl hx
  ·cases hc
 ·cases hc
end
def QO (T:Tab) (st:St) (o:Oper):List Nat:=
 match o.op with
 |.call { callee:=.value f,args,.. }=>match st.dH f with
  |.v (.one (.clo fn caps))=>match pick T fn (args.toList.map st.dH) with
   |some sp=>match gX sp.sig st.o ((args.toList.map st.dH)++caps.map fun x=>S.v (.one x)) with
    |some c=>c.ren.map (·.2)
    |none=>[]
   |none=>[]
  |_=>[]
 |_=>[]
def looks:Op→Bool
 |.move _ | .assign _ | .pick _ _ _ | .build _ _ | .extract _ _ | .field _ _ _ | .makeFunc _ _ _=>false
 |_=>true
theorem Oq {o o':Nat→O} {tt:TT} {d:Nat} {F F':Operand→S} {op:Op} {ty:TypeId} (hl:looks op=false) (hF :∀x∈op.operands.toList,F x=F' x):kernel tt d o F op ty=kernel tt d o' F' op ty:=by
 refine (Cm (o':=o) hF fun _ _ _ _=>⟨rfl,fun _ _=>rfl⟩).trans ?_
 cases op<;>first
  |(cases hl;done)
  |rfl
  |(rename_i fn first caps;cases fn<;>rfl)
theorem KX {o:Nat→O} {tt:TT} {dc:List (Nat×Nat)} {d:Nat} {F:Operand→S} {op:Op} {ty:TypeId} (hl:looks op=false):dU tt dc d o F op ty=none:=by
 cases op<;>first
  |(cases hl;done)
  |rfl
def qM (T:Tab) (st:St) (o:Oper):List Nat:=(bif looks o.op then (o.op.operands.toList.flatMap fun x=>(st.dH x).names.flatMap fun g=>g::(st.o g).hn) else [])++QO T st o
section
variable {T:Tab} {tt:TT} {st st':St}
theorem QS {d:Nat} {o:Oper} {K:Eff→Prop} (h:iZ T tt d st o K) (hx :∀x∈o.op.operands.toList,st.dH x=st'.dH x) (ho :∀g∈qM T st o,st.o g=st'.o g):iZ T tt d st' o K:=by
 have hfo:looks o.op=true→∀x∈o.op.operands.toList,∀g∈(st.dH x).names,Agree st.o st'.o g:=fun hl x hm g hg=>by
  have key :∀d∈g::(st.o g).hn,st.o d=st'.o d:=fun d hd=>ho d (W3 _ (by rw [hl];exact Ys.2 ⟨x,hm,Ys.2 ⟨g,hg,hd⟩⟩))
  exact ⟨key g (by simp),fun d hd=>key d (by simp [hd])⟩
 have iy :∀g∈QO T st o,st.o g=st'.o g:=fun g hg=>ho g (V2 _ hg)
 unfold iZ at *
 unfold QO at iy
 split at h
 ·rename_i f args ts hop
  rw [hop] at hx hfo iy
  have hfo:=hfo rfl
  simp only at iy
  have hxf:=hx f (by simp [Op.operands,Call.operands])
  have hxa :∀x∈args.toList,st.dH x=st'.dH x:=fun x hm=>hx x (by simp [Op.operands,Call.operands];exact .inr (by simpa using hm))
  have hfa :∀x∈args.toList,∀g∈(st.dH x).names,Agree st.o st'.o g:=fun x hm=>hfo x (by simp [Op.operands,Call.operands];exact .inr (by simpa using hm))
  have hff:=hfo f (by simp [Op.operands,Call.operands])
  rw [←hxf]
  split at h
  ·rename_i fn caps hf
   rw [hf] at hff iy
   simp only at iy
   split at h
   ·rename_i sp hsp
    rw [hsp] at iy
    simp only at iy
    have hmap:args.toList.map st'.dH=args.toList.map st.dH:=W8 fun x hm=>(hxa x hm).symm
    rw [hmap]
    split at h
    ·rename_i c hci
     rw [hci] at iy
     have hnm :∀x∈(args.toList.map st.dH)++(caps.map fun x=>S.v (.one x)),∀g∈x.names,Agree st.o st'.o g:=by
      intro x hm g hg
      rcases X1.1 hm with hm | hm
      ·obtain ⟨y,hy,rfl⟩:=QQ.1 hm
       exact hfa y hy g hg
      ·obtain ⟨y,hy,rfl⟩:=QQ.1 hm
       refine hff g ?_
       obtain ⟨j,hj⟩:=V0.1 hy
       simp only [S.names,V.names]
       exact zL hj (by simpa [S.names,V.names] using hg)
     have anp:=Oo hci hnm fun p hp=>iy p.2 (QQ.2 ⟨p,hp,rfl⟩)
     have ahK:c.vg.map (aV st.o)=c.vg.map (aV st'.o):=nI (IG hci hnm)
     simp only [hsp,anp]
     obtain ⟨q1,bZ,same,q2,q4,q3⟩:=h
     have:iC sp.sig d st'.o c bZ=iC sp.sig d st.o c bZ:=by simp only [iC,ahK]
     refine ⟨q1,bZ,same,q2,?_,?_⟩
     ·rw [this]
      intro g hg
      obtain ⟨a1,a2⟩:=q4 g hg
      exact ⟨a1,by rw [a2,iy g a1]⟩
     ·rw [this];exact q3
    ·cases h
   ·cases h
  ·cases h
 ·rcases h with ⟨dc,r,h1,h2,h3⟩ | h
  ·refine .inl ⟨dc,r,?_,h2,h3⟩
   cases hl:looks o.op with
   |true=>rw [←KW hx (hfo hl)];exact h1
   |false=>rw [KX hl] at h1;cases h1
  ·refine .inr ?_
   cases hl:looks o.op with
   |true=>rw [←Cm hx (hfo hl)];exact h
   |false=>rw [←Oq hl hx];exact h
theorem YM {N:Nat} {ops:Array Oper} {o:Oper} {e:Eff} (hc:Can T tt N ops st o e) (hs :∀t∈o.looksAt ops,st.s t=st'.s t) (ho :∀g∈qM T st o,st.o g=st'.o g) (hu :∀g∈e.new,st.used g=st'.used g):Can T tt N ops st' o e:=by
 have hx :∀x∈o.op.operands.toList,st.dH x=st'.dH x:=by
  intro x hm
  cases x with
  |tmp t=>exact hs t (W3 _ (Ks.2 ⟨_,hm,rfl⟩))
  |_=>rfl
 have eff:(iZ T tt (o.dst.getD 0) st o fun e'=>e'.new.all (fun g=>!st.used g)=true∧e'=e)→(iZ T tt (o.dst.getD 0) st' o fun e'=>e'.new.all (fun g=>!st'.used g)=true∧e'=e):=by
  intro h
  refine oh (fun e' he => ?_) (QS h hx ho)
  obtain ⟨h1,rfl⟩:=he
  refine ⟨?_,rfl⟩
  rw [X2] at h1 ⊢
  intro g hg
  rw [←hu g hg];exact h1 g hg
 unfold Can stepW at *
 refine ⟨hc.1,?_⟩
 have hc:=hc.2
 cases hg:o.guard with
 |none=>rw [hg] at hc;exact eff hc
 |some p=>
  obtain ⟨j,want⟩:=p
  rw [hg] at hc
  simp only at hc ⊢
  have:guardOf ops st j want=guardOf ops st' j want:=by
   unfold guardOf
   cases hd:(ops[j]?).bind (·.dst) with
   |none=>rfl
   |some t=>
    simp only
    rw [hs t (V2 _ (by simp [hg,hd]))]
  rw [←this]
  split at hc
  ·rename_i b hb
   cases b with
   |true=>exact eff hc
   |false=>exact hc
  ·cases hc
end
def LZ (o:Nat→O):S→Option (Bool→Prop)
 |.v (.one (.p _ _ (.sl _ l)))=>some fun b=>l≠[]→b=false
 |.v (.one (.own g))=>match (o g).dim with
  |some (_,l)=>some fun b=>l≠0→b=false
  |none=>none
 |.v (.one .cO)=>some fun b=>b=true
 |_=>none
def Fq (o:Nat→O):S→Option (Bool→Prop)
 |.v (.one (.box g _))=>match o g with
  |.box _=>some fun b=>b=false
  |_=>none
 |.v (.one (.p _ _ (.opq (.pointer none))))=>some fun b=>b=true
 |_=>none
def xX (o:Nat→O) (x:S) (k:TK) (c:Value):Option (Bool→Prop):=
 match k,c with
 |.slice _,.slice none 0 0=>LZ o x
 |.ptr,.pointer none=>Fq o x
 |_,_=>none
def Ot (tt:TT) (st:St) (o:Oper):Option (Bool×(Bool→Prop)):=
 match o.guard with
 |some _=>none
 |none=>match o.op with
  |.binOp op t x (.const c) _=>match tt t with
   |some i=>match op,xX st.o (st.dH x) i.k c with
    |.eql,some p=>some (true,p)
    |.neq,some p=>some (false,p)
    |_,_=>none
   |none=>none
  |_=>none
def QT (s n:P):Bool:=decide (n.nat<s.bytes.size)
def aaJ (s n:P):P:=.int .i32 (Utf8.decode s.bytes n.nat).1
def UD (s n:P):P:=lN (n.nat+(Utf8.decode s.bytes n.nat).2)
def Ou (st:St) (o:Oper):Option (Nat×P×P):=
 match o.guard with
 |some _=>none
 |none=>match o.op with
  |.next x true=>match st.dH x with
   |.v (.one (.m_ g))=>match st.o g with
    |.it s n=>some (g,s,n)
    |_=>none
   |_=>none
  |_=>none
def II (g:Nat) (s n:P):Eff:={ x:=.lG [.one (.p false false (.bool true)),.one (.p false false (lN n.nat)),.one (.p false false (aaJ s n))],aK:=[(g,.it s (UD s n))],new:=[] }
def L6:Eff:={ x:=.lG [.one (.p false false (.bool false))],aK:=[],new:=[] }
def CG (T:Tab) (tt:TT) (N:Nat) (ops:Array Oper) (o:Oper) (st:St) (K:Eff→Prop):Prop:=
 match Ot tt st o with
 |some (pos,p)=>(match o.dst with
  |some d=>decide (d<N)
  |none=>true)=true∧∀b:Bool,p b→K { x:=scalar (.bool (bif pos then b else !b)),aK:=[],new:=[] }
 |none=>match Ou st o with
  |some (g,s,n)=>(match o.dst with
   |some d=>decide (d<N)
   |none=>true)=true∧(QT s n=true→K (II g s n))∧(QT s n=false→K L6)
  |none=>stepW T tt N ops o st K
def vV (T:Tab) (tt:TT) (N:Nat) (ops:Array Oper):List Nat→St→(St→Prop)→Prop
 | [],st,K=>K st
 |i::is,st,K=>match ops[i]? with
  |some o=>CG T tt N ops o st fun e=>vV T tt N ops is (st.eff o.dst e) K
  |none=>False
structure tV where
 rd:List Nat
 wr:List Nat
 new:List Nat
 ld:Option (Nat×Nat×Nat)
 kp:List (Nat×Nat)
 pk:Bool
 kd:List Nat
def aaK:W→W→Bool
 |.own g,.own g'=>Nat.beq g g'
 |.box g off,.box g' off'=>Nat.beq g g'&&Nat.beq off off'
 |_,_=>false
def CJ (g:Nat):Nat→List W→List W→Option (List (Nat×Nat))
 |_,[],[]=>some []
 |j,x::xs,y::ys=>match CJ g (j+1) xs ys with
  |some r=>some (match aaK x y with
   |true=>(g,j)::r
   |false=>r)
  |none=>none
 |_,_,_=>none
def QU (g:Nat):O→Option O→List (Nat×Nat)
 |.box ws,some (.box ws')=>match CJ g 0 ws ws' with
  |some r=>r
  |none=>[]
 |_,_=>[]
def UE (st:St) (e:Eff):List (Nat×Nat):=(e.aK.map (·.1)).flatMap fun g=>QU g (st.o g) (e.aK.lookup g)
def tX:Op→Bool
 |.nilCheck _=>true
 |.fieldAddr _ _ _=>true
 |_=>false
def kindOf:O→Nat
 |.box _=>1
 |.arr _ _ _ _ _=>2
 |.aP _ _ _ _ _ _=>2
 |.it _ _=>3
 |.none=>0
def UG (st:St) (e:Eff):List Nat:=(e.aK.map (·.1)).filterMap fun g=>match e.aK.lookup g with
 |some x=>bif Nat.beq (kindOf x) (kindOf (st.o g)) then some g else none
 |none=>none
def IJ (tt:TT) (st:St) (o:Oper):Option (Nat×Nat×Nat):=match o.op with
 |.load t x=>match tt t,st.dH x with
  |some i,.v (.one (.box g off))=>some (g,off,i.size)
  |_,_=>none
 |_=>none
def oO (T:Tab) (tt:TT) (N:Nat) (ops:Array Oper):List Nat→St→List tV→(St→List tV→Prop)→Prop
 | [],st,fs,K=>K st fs
 |i::is,st,fs,K=>match ops[i]? with
  |some o=>stepW T tt N ops o st fun e=>oO T tt N ops is (st.eff o.dst e) (fs++[{ rd:=qM T st o,wr:=e.aK.map (·.1),new:=e.new,ld:=IJ tt st o,kp:=UE st e,pk:=tX o.op,kd:=UG st e }]) K
  |none=>False
def lg (acc:List Nat) (o:Oper):Nat:=o.after.toList.foldl (fun s e=>if Region.binds .any e=true then s ||| (2 ^ e.on) ||| acc.getD e.on 0 else s) 0
def oz:List Oper→List Nat→List Nat
 | [],acc=>acc
 |o::os,acc=>oz os (acc++[lg acc o])
def IK (x:Option Tmp) (ts:List Tmp):Bool:=match x with
 |some t=>!ts.contains t
 |none=>true
def Fv (w r:tV):Bool:=match r.ld with
 |some (g,off,n)=>(List.range n).all fun j=>w.kp.any fun p=>Nat.beq p.1 g&&Nat.beq p.2 (off+j)
 |none=>r.pk&&r.rd.all fun g=>!w.wr.contains g||w.kd.contains g
def aaL (ops:Array Oper) (x y:Oper) (fx fy:tV):Bool:=
 IK x.dst (y.looksAt ops)&&IK y.dst (x.looksAt ops)&&IK x.dst y.dst.toList&&(Oe fx.wr fy.rd||Fv fx fy)&&(Oe fy.wr fx.rd||Fv fy fx)&&Oe fx.wr fy.wr&&Oe fx.new fy.new
def WI (ops:Array Oper) (fs:List tV):Bool:=
 let as:=oz ops.toList []
 (List.range ops.size).all fun j=>decide (as.getD j 0<2 ^ j)&&(List.range j).all fun i=>(as.getD j 0).testBit i||match ops[i]?,ops[j]?,fs[i]?,fs[j]? with
  |some x,some y,some fx,some fy=>aaL ops x y fx fy
  |_,_,_,_=>false
def pY (T:Tab) (tt:TT) (N:Nat) (ops:Array Oper) (draw:Bool) (st:St) (K:St→Prop):Prop:=
 match draw with
 |false=>vV T tt N ops (List.range ops.size) st K
 |true=>oO T tt N ops (List.range ops.size) st [] fun st' fs=>WI ops fs=true∧K st'
end Go.Fw

