/-
  The framework (a machine on plain data that answers as the program does), part 2.
-/
import Derived.RangeFuncOwn
import Derived.Orders
import Derived.Test.YtmgfidfcioiedaaZa
set_option linter.unusedSimpArgs false
set_option linter.unusedVariables false
namespace Go.Fw
set_option linter.unusedSectionVars false
variable [dw]
set_option linter.unusedVariables false
def qQ:List Nat→Bool
 | []=>true
 |x::xs=>!xs.contains x&&qQ xs
def BF (xs ys:List Nat):Bool:=xs.all fun x=>!ys.contains x
def lT (cols:List (Nat×Nat)) (off n:Nat):List (Nat×Nat):=cols.filter fun c=>Nat.ble off c.1&&Nat.blt c.1 (off+n)
def iM (o:Nat→O) (g:Nat):Option (Bool×Bool×Nat×List (Nat×Nat)×List (List P)):=match o g with
 |.deep a i sz cols l hole=>match hole with
  |none=>some (a,i,sz,cols,l)
  |some (n,c,d)=>match o d with
   |.arr false a' i' sz' l'=>if cols.lookup c=some sz'∧c<sz then some (a||a',i||i',sz,cols,gX l n c (P.dY sz' l')) else none
   |_=>none
 |_=>none
def kills (gs:List Nat):List (Nat×O):=gs.map fun g=>(g,.none)
def NH (o:Nat→O) (col:Nat→Option Nat):Nat→List W→Option (List P×Bool×Bool×List Nat×List (Nat×Nat))
 |_,[]=>some ([],false,false,[],[])
 |j,x::xs=>match NH o col (j+1) xs with
  |none=>none
  |some (ys,a',i',gs',es)=>match col j with
   |none=>match x.toP o with
    |some (y,a,i,gs)=>some (y::ys,a||a',i||i',gs++gs',es)
    |none=>none
   |some s=>match x with
    |.bD=>some (.sl 0 []::ys,a',i',gs',es)
    |.own e=>match o e with
     |.arr false a i s' l=>if s'=s then some (P.dY s l::ys,a||a',i||i',gs',(j,e)::es) else none
     |_=>none
    |_=>none
def baseD (o:Nat→O):W→Option (Prop×Bool×Bool×List (List P)×List Nat×Option (Nat×List (Nat×Nat)))
 |.bD=>some (True,false,false,[],[],none)
 |.own g=>match iM o g with
  |some (a,i,sz,cols,l)=>some (True,a,i,l,g::(o g).hn,some (sz,cols))
  |none=>none
 |.vw g lo hi=>match iM o g with
  |some (a,i,sz,cols,l)=>some (lo=kJ 0,a,i,l.take hi.nat,g::(o g).hn,some (sz,cols))
  |none=>none
 |_=>none
def hdr (l:List (List P)):P:=.sl 0 (List.replicate l.length [])
def Yf:List (Nat×Nat)→Bool
 | [(0,0)]=>true
 |_=>false
def yP (tt:TT) (o:Nat→O) (f:Operand→S) (t:TypeId) (x:Operand):Option EK:=match tt t,f x with
 |some i,.v (.one (.ep g n off))=>match iM o g with
  |some (a,i',sz,cols,l)=>match cols.lookup off with
   |some _=>if off<sz∧i.size=1∧i.agg=false then some (.pure (.v (.one (.p false false (hdr ((l.getD n.nat []).getD off default).list))))) else none
   |none=>none
  |none=>none
 |_,_=>none
def bY (tt:TT) (dc:List (Nat×Nat)) (d:Nat) (o:Nat→O) (f:Operand→S) (op:Op) (ty:TypeId):Option EK:=
 match op with
 |.load t x=>bif Yf dc then yP tt o f t x else match tt t,f x with
  |some i,.v (.one (.ep g n off))=>match o g with
   |.deep a0 i0 yQ jE l0 hole=>if off+i.size≤yQ∧0<i.size then match lT jE off i.size with
    | []=>some (.pure (V.d_ i.agg ((List.range i.size).map fun j=>.p a0 i0 ((l0.getD n.nat []).getD (off+j) (QS i.zero j)))))
    | [(c,s)]=>match iM o g with
     |some (a,i',sz,cols,l)=>some (.mk True (.sl sz l) (fun y=>V.d_ i.agg ((List.range i.size).map fun j=>if Nat.beq (off+j) c=true then .own d else .p a i' ((y.list.getD n.nat []).getD (off+j) (QS i.zero j))))
       (fun y=>(g,.deep a i' sz cols y.list (some (n.nat,c,d)))::(d,.arr false a i' s ((y.list.getD n.nat []).getD c default).list)::kills (o g).hn) [d])
     |none=>none
    |_=>none
    else none
   |_=>none
  |_,_=>none
 |.store t x y=>match tt t,f x,f y with
  |some i,.v (.one (.ep g n off)),.v y=>match o g with
   |.deep a0 i0 sz cols l0 hole=>match NH o (fun j=>cols.lookup j) off y.words with
    |some (ps,a',i',gs,es)=>if off+i.size≤sz∧y.words.length=i.size∧y.solid=true∧gs.contains g=false∧qQ (es.map (·.2))=true∧BF (es.map (·.2)) gs=true then
      let res (pre:Prop) (a i:Bool) (l:List (List P)) (gW:Option (Nat×Nat×Nat)) (ks:List Nat):EK:=
       .mk pre (.sl sz (l.set n.nat (aF (l.getD n.nat []) off ps))) (fun _=>.no) (fun z=>(g,.deep (a||a') (i||i') sz cols z.list gW)::kills (es.map (·.2))++kills ks++gs.map (freeze o)) []
      match lT cols off i.size with
      | []=>some (res True a0 i0 l0 hole [])
      |_::_=>match hole with
       |none=>some (res True a0 i0 l0 none [])
       |some (n0,c0,d0)=>match iM o g with
        |some (a,i1,_,_,l)=>if (es.map (·.2)).contains d0=false∧gs.contains d0=false then some (res True a i1 l none [d0])
          else if off≤c0∧c0<off+i.size then some (res (n0=n.nat) a0 i0 l0 none []) else none
        |none=>if off≤c0∧c0<off+i.size then some (res (n0=n.nat) a0 i0 l0 none []) else none
      else none
    |none=>none
   |_=>none
  |_,_,_=>none
 |.buildSlice t n parts=>match tt t,dc with
  |some { k:=.slice e,.. },_::_=>match tt e with
   |some ie=>match kK (fun m=>if m<n then some (m*ie.size,ie.size) else none) (dV (ie.zero.map cv) n) (parts.toList.map fun p=>(p.1,f p.2)) with
    |some ws=>match NH o (fun j=>dc.lookup (j % ie.size)) 0 ws with
     |some (ps,a,i,gs,es)=>if n+n*ie.size≤16777216∧qQ (es.map (·.2))=true∧BF (es.map (·.2)) gs=true then
       some (.mk True (.sl ie.size (chunks ie.size n ps)) (fun _=>.v (.one (.own d)))
        (fun y=>(d,.deep a i ie.size dc y.list none)::kills (es.map (·.2))++gs.map (freeze o)) [d]) else none
     |none=>none
    |none=>none
   |none=>none
  |_,_=>none
 |.makeSlice t n c=>match tt t,f n,f c,dc with
  |some { k:=.slice e,.. },.v (.one (.p _ _ n)),.v (.one (.p _ _ c)),_::_=>match tt e with
   |some ie=>match NH o (fun j=>dc.lookup j) 0 (ie.zero.map cv) with
    |some (ps,false,false,[],[])=>if 0<ie.size then
     some (.mk (∃m k:Nat,n=.int .i64 m∧c=.int .i64 k∧m≤k∧ie.bytes*k≤281474976710656∧k≤9223372036854775807) (.sl ie.size (List.replicate n.nat ps))
      (fun _=>.v (.one (.own d))) (fun y=>[(d,.deep false false ie.size dc y.list none)]) [d]) else none
    |_=>none
   |none=>none
  |_,_,_,_=>none
 |.call { callee:=.builtin .append,args,argTypes }=>match args.toList,argTypes.toList with
  | [s,x],sT::xT::_=>match tt sT,tt xT,f s,f x with
   |some { k:=.slice e,.. },some { k:=.slice _,.. },.v (.one s),.v (.one (.own g2))=>match tt e,baseD o s,iM o g2 with
    |some ie,some (ask,a,i,old,ks,src),some (a2,i2,sz,cols,new)=>
     if ie.bytes≠0∧sz=ie.size∧(src=none∨src=some (sz,cols))∧qQ (ks++g2::(o g2).hn)=true then
      some (.mk (ask∧(old.length+new.length)*ie.bytes≤140737488355328) (.sl sz (old++new)) (fun _=>.v (.one (.own d)))
       (fun y=>(d,.deep (a||a2) (i||i2) sz cols y.list none)::kills (ks++g2::(o g2).hn)) [d]) else none
    |_,_,_=>none
   |_,_,_,_=>none
  |_,_=>none
 |.slice t x none hi none=>match tt t,f x with
  |some { k:=.slice e,.. },.v (.one (.own g))=>match tt e,o g with
   |some ie,.arr false a i sz l=>if sz=ie.size then match lK (kJ l.length) (hi.map f) with
    |some hi=>some (.mk (∃k:Nat,hi=.int .i64 k∧k≤l.length) (.sl sz (l.take hi.nat)) (fun _=>.v (.one (.own d))) (fun y=>[(d,.arr false a i sz y.list),(g,.none)]) [d])
    |none=>none
    else none
   |_,_=>none
  |_,_=>none
 |_=>none
section
variable {E:Env} {st st':St} {gh aT:Nat→Gh} {w w':World} {val:Nat→Value} {Pg:Program} {tt:TT}
theorem qp :∀{l:List Nat},qQ l=true→l.Nodup
 | [],_=>List.nodup_nil
 |x::l,h=>by
  simp only [qQ,Bool.and_eq_true,Bool.not_eq_true',List.contains_eq_mem,decide_eq_false_iff_not] at h
  exact List.nodup_cons.2 ⟨h.1,qp h.2⟩
theorem Dv {xs ys:List Nat} (h:BF xs ys=true) :∀x∈xs,x∉ys:=by
 intro x hx
 have:=(List.all_eq_true.1 h) x hx
 simpa using this
theorem fJ {gs:List Nat} {g:Nat}:(kills gs).lookup g=if g∈gs then some O.none else none:=by
 induction gs with
 |nil=>rfl
 |cons x gs ih=>
  simp only [kills,List.map_cons,List.lookup,List.mem_cons]
  by_cases e:g=x
  ·subst e;simp
  ·have:(g==x)=false:=by simpa using e
   rw [this]
   simp only [e,false_or]
   exact ih
theorem yR {α:Type} {g:Nat} :∀{l r:List (Nat×α)},(l++r).lookup g=(l.lookup g).or (r.lookup g)
 | [],r=>by simp
 |(k,v)::l,r=>by
  simp only [List.cons_append,List.lookup]
  split
  ·rfl
  ·exact yR
theorem lookup_cons {α:Type} {g k:Nat} {v:α} {r:List (Nat×α)}:((k,v)::r).lookup g=if g=k then some v else r.lookup g:=by
 simp only [List.lookup]
 by_cases e:g=k
 ·subst e;simp
 ·have:(g==k)=false:=by simpa using e
  rw [this,if_neg e]
theorem FY {cols:List (Nat×Nat)} {off n j:Nat} (h:lT cols off n=[]) (h1:off≤j) (h2:j<off+n):cols.lookup j=none:=by
 cases hl:cols.lookup j with
 |none=>rfl
 |some s=>
  have hm:(j,s)∈cols:=by
   clear h
   induction cols with
   |nil=>cases hl
   |cons p cols ih=>
    obtain ⟨k,v⟩:=p
    rw [lookup_cons] at hl
    split at hl
    ·rename_i e;cases hl;subst e;simp
    ·exact List.mem_cons_of_mem _ (ih hl)
  have:(j,s)∈lT cols off n:=List.mem_filter.2 ⟨hm,by simp [h1,h2]⟩
  rw [h] at this;cases this
theorem Dw {α:Type} {g:Nat} {v:α} :∀{l:List (Nat×α)},l.lookup g=some v→(g,v)∈l
 | [],h=>by cases h
 |(k,x)::l,h=>by
  rw [lookup_cons] at h
  split at h
  ·rename_i e;cases h;subst e;simp
  ·exact List.mem_cons_of_mem _ (Dw h)
theorem Q9 {cols:List (Nat×Nat)} {off n c s:Nat} (h:lT cols off n=[(c,s)]):cols.lookup c=some s∧off≤c∧c<off+n∧∀j,off≤j→j<off+n→j≠c→cols.lookup j=none:=by
 have hm:(c,s)∈lT cols off n:=by rw [h];simp
 obtain ⟨m1,m2⟩:=List.mem_filter.1 hm
 simp only [Bool.and_eq_true,Nat.ble_eq,Nat.blt_eq] at m2
 have key :∀j s',cols.lookup j=some s'→off≤j→j<off+n→(j,s')=(c,s):=by
  intro j s' hl h1 h2
  have:(j,s')∈lT cols off n:=List.mem_filter.2 ⟨Dw hl,by simp [h1,h2]⟩
  rw [h] at this;simpa using this
 refine ⟨?_,m2.1,m2.2,fun j h1 h2 hne => ?_⟩
 ·cases hl:cols.lookup c with
  |none=>
   exfalso
   clear h hm key
   induction cols with
   |nil=>cases m1
   |cons p cols ih=>
    obtain ⟨k,v⟩:=p
    rw [lookup_cons] at hl
    split at hl
    ·cases hl
    ·rename_i e
     rcases List.mem_cons.1 m1 with e1 | e1
     ·cases e1;exact e rfl
     ·exact ih e1 hl
  |some s'=>have:=key c s' hl m2.1 m2.2;cases this;rfl
 ·cases hl:cols.lookup j with
  |none=>rfl
  |some s'=>have:=key j s' hl h1 h2;cases this;exact absurd rfl hne
theorem Rel.home (h:Rel E st gh val w) {g:Nat} {a i:Bool} {sz:Nat} {cols:List (Nat×Nat)} {l:List (List P)} (hh:iM st.o g=some (a,i,sz,cols,l)) :
  ∃st1 jX,Rel E st1 jX val w∧Lets E st st1 gh jX w w∧(∀x,(jX x).ad=(gh x).ad∧(jX x).cap=(gh x).cap)∧st1.s=st.s∧(∀x,st1.used x=st.used x)∧st1.o g=.deep a i sz cols l none∧
   (∀d∈(st.o g).hn,st1.o d=.none∧d≠g)∧∀g',g'≠g→g'∉(st.o g).hn→st1.o g'=st.o g':=by
 unfold iM at hh
 cases ho:st.o g with
 |deep a0 i0 yQ jE l0 hole=>
  rw [ho] at hh
  simp only at hh
  rcases hole with _ | ⟨n,c,d⟩
  ·simp only [Option.some.injEq,Prod.mk.injEq] at hh
   obtain ⟨rfl,rfl,rfl,rfl,rfl⟩:=hh
   exact ⟨st,gh,h,⟨fun a i b hb=>⟨hb,rfl⟩,fun g _=>.inr ⟨⟨rfl,rfl⟩,O.dJ _⟩⟩,fun _=>⟨rfl,rfl⟩,rfl,fun _=>rfl,ho,(fun d hd=>by cases hd),fun _ _ _=>rfl⟩
  ·simp only at hh
   cases hd:st.o d with
   |arr fz a' i' sz' l'=>
    rw [hd] at hh
    cases fz with
    |true=>cases hh
    |false=>
     simp only at hh
     split at hh
     ·rename_i hc
      simp only [Option.some.injEq,Prod.mk.injEq] at hh
      obtain ⟨rfl,rfl,rfl,rfl,rfl⟩:=hh
      obtain ⟨jX,h1,l1,e1⟩:=h.shut ho hd hc.1 hc.2
      have hne:d≠g:=by intro e;subst e;rw [ho] at hd;cases hd
      refine ⟨_,jX,h1,l1,e1,rfl,fun x=>by simp [St.upd],by simp [St.upd,List.lookup],fun d' hd' => ?_,fun g' h1 h2 => ?_⟩
      ·simp only [O.hn,bJ,List.mem_singleton] at hd'
       subst hd'
       have e1:(d'==g)=false:=by simpa using hne
       exact ⟨by simp [St.upd,List.lookup,e1],hne⟩
      ·have e1:(g'==g)=false:=by simpa using h1
       have e2:(g'==d)=false:=by simp;intro e;exact h2 (by rw [e];simp [O.hn,bJ])
       simp [St.upd,List.lookup,e1,e2]
     ·cases hh
   |_=>rw [hd] at hh;cases hh
 |_=>rw [ho] at hh;cases hh
theorem mV {o:Nat→O} {g:Nat} {a i:Bool} {sz:Nat} {cols:List (Nat×Nat)} {l:List (List P)} (hh:iM o g=some (a,i,sz,cols,l)):(o g).dim=some (sz,l.length):=by
 unfold iM at hh
 cases ho:o g with
 |deep a0 i0 yQ jE l0 hole=>
  rw [ho] at hh
  simp only at hh
  rcases hole with _ | ⟨n,c,d⟩
  ·simp only [Option.some.injEq,Prod.mk.injEq] at hh
   obtain ⟨rfl,rfl,rfl,rfl,rfl⟩:=hh;rfl
  ·simp only at hh
   split at hh
   ·split at hh
    ·simp only [Option.some.injEq,Prod.mk.injEq] at hh
     obtain ⟨rfl,rfl,rfl,rfl,rfl⟩:=hh
     simp [O.dim,gV]
    ·cases hh
   ·cases hh
 |_=>rw [ho] at hh;cases hh
theorem FZ {Q:Nat→Value→Prop} {b o n:Nat} (h :∀j,j<n→∃v,w.cell? ⟨b,o+j,none⟩=some v∧v.oneCell'=true∧Q j v) :
  ∃cs:List Value,cs.length=n∧(∀(j:Nat) u,cs[j]?=some u→w.cell? ⟨b,o+j,none⟩=some u)∧(∀c∈cs,c.oneCell'=true)∧∀(j:Nat) u,cs[j]?=some u→Q j u:=by
 have key :∀j u,((List.range n).map fun j=>(w.cell? ⟨b,o+j,none⟩).getD undef)[j]?=some u→j<n∧w.cell? ⟨b,o+j,none⟩=some u∧u.oneCell'=true∧Q j u:=by
  intro j u hu
  simp only [List.getElem?_map,Option.map_eq_some_iff] at hu
  obtain ⟨k,hk,rfl⟩:=hu
  obtain ⟨hlt,rfl⟩:=List.getElem?_eq_some_iff.1 hk
  simp at hlt ⊢
  obtain ⟨v,hv,h1,h2⟩:=h j hlt
  rw [hv];exact ⟨hlt,rfl,h1,h2⟩
 refine ⟨(List.range n).map fun j=>(w.cell? ⟨b,o+j,none⟩).getD undef,by simp,fun j u hu=>(key j u hu).2.1,fun c hc => ?_,fun j u hu=>(key j u hu).2.2.2⟩
 obtain ⟨j,hj⟩:=List.mem_iff_getElem?.1 hc
 exact (key j c hj).2.2.1
def oQ (Pg:Program) (tt:TT) (dc:List (Nat×Nat)) (op:Op):Prop:=
 ∀(E:Env) (st:St) (gh:Nat→Gh) (val:Nat→Value) (w:World) (ρ:Operand→Value) (F:Operand→S) (o:Oper) (d:Nat) (r:EK),o.op=op→Rel E st gh val w→
  (∀x,bI E st gh w (F x) (ρ x))→(∀x,∀g∈(F x).names,st.used g=true)→bY tt dc d st.o F op o.type=some r→r.pre→(∀g∈r.new,st.used g=false)→
  ∃v w' aT,Does Pg (execOp ρ o) w v w'∧Rel E (st.upd (r.upd r.val) r.new) aT val w'∧Lets E st (st.upd (r.upd r.val) r.new) gh aT w w'∧bI E (st.upd (r.upd r.val) r.new) aT w' (r.dst r.val) v∧
   ∀g∈(r.dst r.val).names,(st.upd (r.upd r.val) r.new).used g=true
theorem St.BG {a b:St} (h1:a.s=b.s) (h2 :∀g,a.o g=b.o g) (h3 :∀g,a.used g=b.used g):a=b:=by
 obtain ⟨s,o,u⟩:=a
 obtain ⟨s',o',u'⟩:=b
 simp only at h1 h2 h3
 rw [h1,funext h2,funext h3]
theorem Ja (htt:fM Pg tt) (t:TypeId) (x:Operand) {E:Env} {st:St} {gh:Nat→Gh} {val:Nat→Value} {w:World} {ρ:Operand→Value} {F:Operand→S} {o:Oper} {r:EK} (ho:o.op=.load t x) (h:Rel E st gh val w)
  (hF :∀x,bI E st gh w (F x) (ρ x)) (hk:yP tt st.o F t x=some r) :
  ∃v w' aT,Does Pg (execOp ρ o) w v w'∧Rel E (st.upd (r.upd r.val) r.new) aT val w'∧Lets E st (st.upd (r.upd r.val) r.new) gh aT w w'∧bI E (st.upd (r.upd r.val) r.new) aT w' (r.dst r.val) v∧
   ∀g∈(r.dst r.val).names,(st.upd (r.upd r.val) r.new).used g=true:=by
 unfold yP at hk
 split at hk
 ·rename_i i g n off ht hx
  have rx:=hF x;rw [hx] at rx
  split at hk
  ·rename_i a i' sz cols l hh
   split at hk
   ·rename_i s abG
    split at hk
    ·rename_i hlt
     simp only [Option.some.injEq] at hk;subst hk
     obtain ⟨st1,jX,h1,l1,e1,es,eu,eo,ek,en1⟩:=h.home hh
     have Og:=mV hh
     obtain ⟨ad,k,had,rfl,hkl,hv⟩:=(by cases rx.bH with | ep _ _ _ _ _ hb=>exact hb _ _ Og :∃(ad:Addr) (k:Nat),(gh g).ad=some ad∧n=.int .i64 k∧k<l.length∧ρ x=.pointer (some ⟨ad.block,ad.off+k*sz+off,none⟩))
     have en:(P.int .i64 (k:Int)).nat=k:=by simp [P.nat,P.num]
     have Jb:(jX g).ad=some ad:=by rw [(e1 g).1];exact had
     have hD:kU E st1 jX w a i' sz cols l none (jX g):=by have:=h1.objs g;rw [eo] at this;exact this
     rcases hD with ⟨k1,_⟩ | ⟨ad0,cs0,ty,k1,k2,k3,k4,k5,k6,_,k8⟩
     ·rw [Jb] at k1;cases k1
     rw [Jb] at k1;cases k1
     have hrow:l[k]?=some l[k]:=List.getElem?_eq_getElem hkl
     have hrl:l[k].length=sz:=k6 _ (List.getElem_mem hkl)
     have hoff:off<l[k].length:=by omega
     obtain ⟨v,hv0,hr⟩:=k8 k _ hrow off _ (List.getElem?_eq_getElem hoff)
     unfold gq at hr
     rw [abG] at hr
     simp only [fE] at hr
     obtain ⟨l',ao,kk,hy,rfl,harr,_⟩:=hr
     have hcell:w.cell? ⟨ad.block,ad.off+k*sz+off,none⟩=some (.slice ao l'.length kk):=by simp [World.cell?,k3,hv0]
     obtain ⟨v,hrun,hval⟩:=ji (Pg:=Pg) (w:=w) (htt _ _ ht) ad.block (ad.off+k*sz+off) [.slice ao l'.length kk] (by simp [hlt.2.1]) (fun j c hj=>by
      cases j with
      |zero=>simp at hj;subst hj;exact hcell
      |succ j=>simp at hj) (fun _=>by omega)
     have hvv:v=.slice ao l'.length kk:=by
      rw [hlt.2.2] at hval
      exact hval _ rfl
     have hdr':hdr ((l.getD (P.int .i64 (k:Int)).nat []).getD off default).list=.sl 0 (List.replicate l'.length []):=by
      rw [en]
      have e2:(l.getD k []).getD off default=l[k][off]:=by
       rw [List.getD_eq_getElem?_getD,List.getD_eq_getElem?_getD,hrow]
       simp [List.getElem?_eq_getElem hoff]
      rw [e2,hy,P.mP];rfl
     rw [hdr']
     refine still h (v:=v) (by unfold execOp;rw [ho];exact eY (by rw [hv];simpa [Instr.loadAt,Instr.sureAddr] using hrun)) (bI.ofP ?_) fun g' hg'=>by simp [EK.pure,S.names,V.names,W.names] at hg'
     rw [hvv]
     rcases harr with ⟨q1,q2,q3⟩ | ⟨zT,c2,e2,q1,q2,q3,q4,q5,_⟩
     ·subst q3;exact .nil _ _ _
     ·have q1:ao=some zT:=q1
      have q5:l'.length≤kk∧kk≤9223372036854775807:=q5
      rw [q1]
      have:=bn.sl (w:=w) (ok:=E.ok st gh w false false) 0 (List.replicate l'.length []) zT kk (fun _ _=>undef) q2 (fun h0=>absurd h0 (Nat.lt_irrefl 0)) (by simpa using q5.1) (fun x hx=>by rw [List.eq_of_mem_replicate hx];rfl)
       (fun n x hx j y hy=>by rw [List.eq_of_mem_replicate (List.mem_of_getElem? hx)] at hy;simp at hy) (fun n x hx j y hy=>by rw [List.eq_of_mem_replicate (List.mem_of_getElem? hx)] at hy;simp at hy)
      simpa using this
    ·cases hk
   ·cases hk
  ·cases hk
 ·cases hk
theorem Oh {dc:List (Nat×Nat)} (htt:fM Pg tt) (t:TypeId) (x:Operand):oQ Pg tt dc (.load t x):=by
 intro E st gh val w ρ F o d r ho h hF hFn hk hp hd
 simp only [bY] at hk
 cases hhd:Yf dc with
 |true=>rw [hhd] at hk;exact Ja htt t x ho h hF hk
 |false=>
 rw [hhd] at hk
 simp only [cond_false] at hk
 split at hk
 ·rename_i i g n off ht hx
  have rx:=hF x;rw [hx] at rx
  split at hk
  ·rename_i a0 i0 yQ jE l0 hole hog
   split at hk
   ·rename_i hlt
    have Og:(st.o g).dim=some (yQ,l0.length):=by rw [hog];rfl
    obtain ⟨ad,k,had,rfl,hkl,hv⟩:=(by cases rx.bH with | ep _ _ _ _ _ hb=>exact hb _ _ Og :∃(ad:Addr) (k:Nat),(gh g).ad=some ad∧n=.int .i64 k∧k<l0.length∧ρ x=.pointer (some ⟨ad.block,ad.off+k*yQ+off,none⟩))
    have en:(P.int .i64 (k:Int)).nat=k:=by simp [P.nat,P.num]
    split at hk
    ·rename_i hci
     simp only [Option.some.injEq] at hk;subst hk
     have hD:kU E st gh w a0 i0 yQ jE l0 hole (gh g):=by have:=h.objs g;rw [hog] at this;exact this
     rcases hD with ⟨k1,_⟩ | ⟨ad0,cs0,ty,k1,k2,k3,k4,k5,k6,_,k8⟩
     ·rw [had] at k1;cases k1
     rw [had] at k1;cases k1
     have hrow:l0[k]?=some l0[k]:=List.getElem?_eq_getElem hkl
     have hrl:l0[k].length=yQ:=k6 _ (List.getElem_mem hkl)
     have hget:l0.getD (P.int .i64 (k:Int)).nat []=l0[k]:=by rw [en,List.getD_eq_getElem?_getD,hrow];rfl
     obtain ⟨cs,hl,hcell,hone,hrep⟩:=FZ (w:=w) (b:=ad.block) (o:=ad.off+k*yQ+off) (n:=i.size) (Q:=fun j v=>bn w (E.ok st gh w a0 i0) (l0[k].getD (off+j) (QS i.zero j)) v) fun j hj=>by
      have hlt':off+j<l0[k].length:=by omega
      obtain ⟨v,hv,hr⟩:=k8 k _ hrow (off+j) _ (List.getElem?_eq_getElem hlt')
      simp only [gq,FY hci (show off≤off+j by omega) (show off+j<off+i.size by omega)] at hr
      have e0:ad.off+k*yQ+off+j=ad.off+k*yQ+(off+j):=by omega
      refine ⟨v,by rw [e0];simp [World.cell?,k3,hv],hr.oneCell,?_⟩
      rw [List.getD_eq_getElem?_getD,List.getElem?_eq_getElem hlt'];exact hr
     obtain ⟨v,hrun,hval⟩:=ji (Pg:=Pg) (w:=w) (htt _ _ ht) ad.block (ad.off+k*yQ+off) cs hl hcell (fun _=>hlt.2)
     rw [hget]
     exact still h (v:=v) (by unfold execOp;rw [ho];exact eY (by rw [hv];simpa [Instr.loadAt,Instr.sureAddr] using hrun)) (jO (by simp [hl]) hone (fun j y u hy hu=>by
       simp only [List.getElem?_map,Option.map_eq_some_iff] at hy
       obtain ⟨q,hq,rfl⟩:=hy
       obtain ⟨hlt2,rfl⟩:=List.getElem?_eq_some_iff.1 hq
       simp at hlt2 ⊢
       exact .p _ _ _ _ (hrep _ u hu)) v hval)
      fun g' hg'=>by obtain ⟨y,hy,hg'⟩:=iG hg';rw [qO hy] at hg';cases hg'
    ·rename_i c s hci
     split at hk
     ·rename_i a i' sz cols l hh
      simp only [Option.some.injEq] at hk;subst hk
      obtain ⟨st1,jX,h1,l1,e1,es,eu,eo,ek,en1⟩:=h.home hh
      have Yg:=mV hh
      rw [Og] at Yg
      simp only [Option.some.injEq,Prod.mk.injEq] at Yg
      obtain ⟨rfl,hll⟩:=Yg
      have hcols:cols=jE:=by
       unfold iM at hh
       rw [hog] at hh
       simp only at hh
       split at hh
       ·cases hh;rfl
       ·split at hh
        ·split at hh
         ·cases hh;rfl
         ·cases hh
        ·cases hh
      subst hcols
      obtain ⟨c1,c2,c3,c4⟩:=Q9 hci
      have EW:st.used d=false:=hd d (by simp)
      have Jb:(jX g).ad=some ad:=by rw [(e1 g).1];exact had
      have hD:kU E st1 jX w a i' yQ cols l none (jX g):=by have:=h1.objs g;rw [eo] at this;exact this
      rcases hD with ⟨k1,_⟩ | ⟨ad0,cs0,ty,k1,k2,k3,k4,k5,k6,_,k8⟩
      ·rw [Jb] at k1;cases k1
      rw [Jb] at k1;cases k1
      have hkl':k<l.length:=by omega
      have hrow:l[k]?=some l[k]:=List.getElem?_eq_getElem hkl'
      have hrl:l[k].length=yQ:=k6 _ (List.getElem_mem hkl')
      have hget:l.getD (P.int .i64 (k:Int)).nat []=l[k]:=by rw [en,List.getD_eq_getElem?_getD,hrow];rfl
      have hyc:l[k][c]?=some l[k][c]:=List.getElem?_eq_getElem (by omega)
      obtain ⟨l',ao,kc,vJ,hy,⟨zT,cs2,ty2,q1,q2,q3⟩,q4,q5,r1,r2⟩:=h1.split (d:=d) (by rw [eu];exact EW) eo c1 hrow hyc
      rw [Jb] at q1;cases q1
      rw [k3] at q2;cases q2
      have hlist:((l.getD (P.int .i64 (k:Int)).nat []).getD c default).list=l':=by
       rw [hget,List.getD_eq_getElem?_getD,hyc]
       show (l[k][c]).list=l'
       rw [hy,P.mP]
      have hgd:g≠d:=fun e=>by rw [←e,h.ul g (by rw [hog];simp)] at EW;cases EW
      have hst:st1.upd [(g,.deep a i' yQ cols l (some (k,c,d))),(d,.arr false a i' s l')] [d]=st.upd ((g,.deep a i' yQ cols l (some ((P.int .i64 (k:Int)).nat,c,d)))::(d,.arr false a i' s ((l.getD (P.int .i64 (k:Int)).nat []).getD c default).list)::kills (st.o g).hn) [d]:=by
       rw [hlist,en]
       refine St.BG es (fun x => ?_) (fun x=>by simp [St.upd,eu])
       simp only [St.upd,lookup_cons,fJ]
       by_cases x1:x=g
       ·simp only [if_pos x1]
       ·by_cases x2:x=d
        ·simp only [if_neg x1,if_pos x2]
        ·simp only [if_neg x1,if_neg x2]
         by_cases x3:x∈(st.o g).hn
         ·simp only [if_pos x3];exact (ek x x3).1
         ·simp only [if_neg x3];exact en1 x x1 x3
      obtain ⟨cs,hl,hcell,hone,hrep⟩:=FZ (w:=w) (b:=ad.block) (o:=ad.off+k*yQ+off) (n:=i.size) (Q:=fun j v=>if Nat.beq (off+j) c=true then v=.slice ao l'.length kc else bn w (E.ok st1 jX w a i') (l[k].getD (off+j) (QS i.zero j)) v) fun j hj=>by
       have hlt':off+j<l[k].length:=by omega
       obtain ⟨v,hv,hr⟩:=k8 k _ hrow (off+j) _ (List.getElem?_eq_getElem hlt')
       have e0:ad.off+k*yQ+off+j=ad.off+k*yQ+(off+j):=by omega
       refine ⟨v,by rw [e0];simp [World.cell?,k3,hv],hr.oneCell,?_⟩
       by_cases hjc:off+j=c
       ·rw [if_pos (by simpa using hjc)]
        rw [hjc] at hv
        rw [hv] at q3;exact Option.some.inj q3
       ·rw [if_neg (by simpa using hjc)]
        simp only [gq,c4 (off+j) (by omega) (by omega) hjc] at hr
        rw [List.getD_eq_getElem?_getD,List.getElem?_eq_getElem hlt'];exact hr
      obtain ⟨v,hrun,hval⟩:=ji (Pg:=Pg) (w:=w) (htt _ _ ht) ad.block (ad.off+k*yQ+off) cs hl hcell (fun _=>hlt.2)
      have hod:(st1.upd [(g,.deep a i' yQ cols l (some (k,c,d))),(d,.arr false a i' s l')] [d]).o d=.arr false a i' s l':=by
       have:(d==g)=false:=by simpa using hgd.symm
       simp [St.upd,List.lookup,this]
      refine ⟨v,w,vJ,.inl (by unfold execOp;rw [ho];exact eY (by rw [hv];simpa [Instr.loadAt,Instr.sureAddr] using hrun)),?_,?_,?_,fun g' hg' => ?_⟩
      ·rw [hst] at r1;exact r1
      ·have:=Lets.trans l1 r2 fun g hg=>by rw [eu];exact hg
       rw [hst] at this;exact this
      ·have hS:bI E (st1.upd [(g,.deep a i' yQ cols l (some (k,c,d))),(d,.arr false a i' s l')] [d]) vJ w (V.d_ i.agg ((List.range i.size).map fun j=>if Nat.beq (off+j) c=true then W.own d else W.p a i' ((l.getD (P.int .i64 (k:Int)).nat []).getD (off+j) (QS i.zero j)))) v:=by
        rw [hget]
        refine jO (by simp [hl]) hone (fun j y u hy hu => ?_) v hval
        simp only [List.getElem?_map,Option.map_eq_some_iff] at hy
        obtain ⟨q,hq,rfl⟩:=hy
        obtain ⟨hlt2,rfl⟩:=List.getElem?_eq_some_iff.1 hq
        simp at hlt2 ⊢
        have hr:=hrep _ u hu
        by_cases hjc:off+j=c
        ·rw [if_pos hjc]
         rw [if_pos (by simpa using hjc)] at hr
         subst hr
         exact .own d _ rfl fun sz3 akE hd3=>by rw [hod] at hd3;obtain ⟨_,e2⟩:=O.jh hd3;rw [q4,q5,e2]
        ·rw [if_neg hjc]
         rw [if_neg (by simpa using hjc)] at hr
         exact .p _ _ _ _ (r2.jB (by simpa using hr))
       rw [hst] at hS;exact hS
      ·have hg':g'∈(V.d_ i.agg ((List.range i.size).map fun j=>if Nat.beq (off+j) c=true then W.own d else W.p a i' ((l.getD (P.int .i64 (k:Int)).nat []).getD (off+j) (QS i.zero j)))).names:=hg'
       obtain ⟨y,hy,hg'⟩:=iG hg'
       obtain ⟨j,_,rfl⟩:=List.mem_map.1 hy
       split at hg'
       ·simp only [W.names,List.mem_singleton] at hg';subst hg';simp [St.upd]
       ·simp [W.names] at hg'
     ·cases hk
    ·cases hk
   ·cases hk
  ·cases hk
 ·cases hk
theorem PartOf.mono {a i a' i':Bool} {es es':List (Nat×Nat)} {s j:Nat} {y:P} {u:Value} (h:PartOf st gh a i es s j y u) (ha:a=true→a'=true) (hi:i=true→i'=true) (he :∀p∈es,p∈es'):PartOf st gh a' i' es' s j y u:=by
 obtain ⟨l',h1,h2⟩:=h
 refine ⟨l',h1,h2.imp id ?_⟩
 rintro ⟨e,a1,i1,q1,q2,q3,q4,q5⟩
 exact ⟨e,a1,i1,he _ q1,q2,fun h=>ha (q3 h),fun h=>hi (q4 h),q5⟩
theorem z_ (h:Rel E st gh val w) {col:Nat→Option Nat} :∀{ws:List W} {cs:List Value} {ps:List P} {a i:Bool} {gs:List Nat} {es:List (Nat×Nat)} {j0:Nat},ws.length=cs.length→(∀(j:Nat) x u,ws[j]?=some x→cs[j]?=some u→dH E st gh w x u)→
  NH st.o col j0 ws=some (ps,a,i,gs,es)→ps.length=ws.length∧vC st.o gs∧(∀p∈es,∃a1 i1 s l',st.o p.2=.arr false a1 i1 s l'∧(i1=true→i=true))∧
   ∀(j:Nat) y u,ps[j]?=some y→cs[j]?=some u→match col (j0+j) with
    |none =>∀st',(∀g∈gs,st'.o g=(Fw.freeze st.o g).2)→Rel E st' gh val w→Lets E st st' gh gh w w→bn w (E.ok st' gh w a i) y u
    |some s=>PartOf st gh a i es s (j0+j) y u
 | [],cs,ps,a,i,gs,es,j0,hl,hr,ht=>by
  simp only [NH,Option.some.injEq,Prod.mk.injEq] at ht
  obtain ⟨rfl,rfl,rfl,rfl,rfl⟩:=ht
  exact ⟨rfl,vC.nil,(fun p hp=>by cases hp),fun j y u hy=>by simp at hy⟩
 |x::ws,cs,ps,a,i,gs,es,j0,hl,hr,ht=>by
  cases cs with
  |nil=>simp at hl
  |cons c cs=>
   simp only [NH] at ht
   split at ht
   ·cases ht
   ·rename_i ys a' i' gs' es' h2
    obtain ⟨q0,q1,qe,q2⟩:=z_ h (j0:=j0+1) (by simpa using hl) (fun j a b ha hb=>hr (j+1) a b (by simpa using ha) (by simpa using hb)) h2
    have rest :∀(a i:Bool) (gs:List Nat) (es:List (Nat×Nat)),(a'=true→a=true)→(i'=true→i=true)→(∀g∈gs',g∈gs)→(∀p∈es',p∈es)→∀(j:Nat) y u,ys[j]?=some y→cs[j]?=some u→match col (j0+(j+1)) with
      |none =>∀st',(∀g∈gs,st'.o g=(Fw.freeze st.o g).2)→Rel E st' gh val w→Lets E st st' gh gh w w→bn w (E.ok st' gh w a i) y u
      |some s=>PartOf st gh a i es s (j0+(j+1)) y u:=by
     intro a i gs es ha hi hg he j y u hy hu
     have:=q2 j y u hy hu
     have e:j0+1+j=j0+(j+1):=by omega
     rw [e] at this
     cases hc:col (j0+(j+1)) with
     |none=>rw [hc] at this;exact fun st' h1 h2 h3=>(this st' (fun g hg'=>h1 g (hg g hg')) h2 h3).cls ha hi
     |some s=>rw [hc] at this;exact this.mono ha hi he
    cases hc0:col j0 with
    |none=>
     rw [hc0] at ht
     simp only at ht
     split at ht
     ·rename_i y1 a1 i1 gs1 h1
      simp only [Option.some.injEq,Prod.mk.injEq] at ht
      obtain ⟨rfl,rfl,rfl,rfl,rfl⟩:=ht
      obtain ⟨k1,k2⟩:=Le h (hr 0 x c rfl rfl) h1
      refine ⟨by simp [q0],k1.append q1,fun p hp=>let ⟨a2,i2,s2,l2,z1,z2⟩:=qe p hp;⟨a2,i2,s2,l2,z1,fun hh=>by simp [z2 hh]⟩,fun j y u hy hu => ?_⟩
      cases j with
      |zero=>
       simp at hy hu;subst hy hu
       rw [Nat.add_zero,hc0]
       exact fun st' hst h' hlet=>(k2 st' (fun g hg=>hst g (by simp [hg])) h' hlet).cls (by simp;exact fun h=>.inl h) (by simp;exact fun h=>.inl h)
      |succ j=>exact rest _ _ _ _ (by simp;exact fun h=>.inr h) (by simp;exact fun h=>.inr h) (fun g hg=>by simp [hg]) (fun p hp=>hp) j y u (by simpa using hy) (by simpa using hu)
     ·cases ht
    |some s=>
     rw [hc0] at ht
     simp only at ht
     split at ht
     ·simp only [Option.some.injEq,Prod.mk.injEq] at ht
      obtain ⟨rfl,rfl,rfl,rfl,rfl⟩:=ht
      refine ⟨by simp [q0],q1,qe,fun j y u hy hu => ?_⟩
      cases j with
      |zero=>
       simp at hy hu;subst hy hu
       rw [Nat.add_zero,hc0]
       have r0:=hr 0 _ _ rfl rfl
       cases r0
       exact ⟨[],rfl,.inl ⟨rfl,rfl⟩⟩
      |succ j=>exact rest _ _ _ _ id id (fun g hg=>hg) (fun p hp=>hp) j y u (by simpa using hy) (by simpa using hu)
     ·rename_i e
      split at ht
      ·rename_i a1 i1 s' l1 hoe
       split at ht
       ·rename_i hs
        subst hs
        simp only [Option.some.injEq,Prod.mk.injEq] at ht
        obtain ⟨rfl,rfl,rfl,rfl,rfl⟩:=ht
        refine ⟨by simp [q0],q1,fun p hp => ?_,fun j y u hy hu => ?_⟩
        ·rcases List.mem_cons.1 hp with rfl | hp
         ·exact ⟨a1,i1,s',l1,hoe,fun hh=>by simp [hh]⟩
         ·obtain ⟨a2,i2,s2,l2,z1,z2⟩:=qe p hp
          exact ⟨a2,i2,s2,l2,z1,fun hh=>by simp [z2 hh]⟩
        cases j with
        |zero=>
         simp at hy hu;subst hy hu
         rw [Nat.add_zero,hc0]
         have r0:=hr 0 _ _ rfl rfl
         refine ⟨l1,rfl,.inr ⟨e,a1,i1,by simp,hoe,by simp;exact fun h=>.inl h,by simp;exact fun h=>.inl h,?_⟩⟩
         cases r0 with | own _ _ _ hb=>exact hb _ _ (O.iT hoe)
        |succ j=>exact rest _ _ _ _ (by simp;exact fun h=>.inr h) (by simp;exact fun h=>.inr h) (fun g hg=>hg) (fun p hp=>by simp [hp]) j y u (by simpa using hy) (by simpa using hu)
       ·cases ht
      ·cases ht
     ·cases ht
theorem F5 {o:Nat→O} {g:Nat} {a0 i0:Bool} {yQ:Nat} {jE:List (Nat×Nat)} {l0:List (List P)} {hole:Option (Nat×Nat×Nat)} {a i:Bool} {sz:Nat} {cols:List (Nat×Nat)} {l:List (List P)} (hog:o g=.deep a0 i0 yQ jE l0 hole)
  (hh:iM o g=some (a,i,sz,cols,l)):sz=yQ∧cols=jE∧l.length=l0.length:=by
 have h1:=mV hh
 rw [hog] at h1
 simp only [O.dim,Option.some.injEq,Prod.mk.injEq] at h1
 refine ⟨h1.1.symm,?_,h1.2.symm⟩
 unfold iM at hh
 rw [hog] at hh
 simp only at hh
 split at hh
 ·cases hh;rfl
 ·split at hh
  ·split at hh
   ·cases hh;rfl
   ·cases hh
  ·cases hh
theorem tJ (htt:fM Pg tt) (h:Rel E st gh val w) {o:Oper} {ρ:Operand→Value} {t:TypeId} {x y:Operand} (ho:o.op=.store t x y) {i:TI} (ht:tt t=some i) {y':V} (ry:pY E st gh w y' (ρ y)) (hys:y'.solid=true) (hyl:y'.words.length=i.size)
  {g:Nat} {a1 i1:Bool} {sz:Nat} {cols:List (Nat×Nat)} {l:List (List P)} {hole gW:Option (Nat×Nat×Nat)} {ad:Addr} {k off:Nat} (hv:ρ x=.pointer (some ⟨ad.block,ad.off+k*sz+off,none⟩)) (hsz:off+i.size≤sz) (hk:k<l.length)
  {ps:List P} {a' i':Bool} {gs:List Nat} {es:List (Nat×Nat)} (hD:NH st.o (fun j=>cols.lookup j) off y'.words=some (ps,a',i',gs,es)) (hnd:(es.map (·.2)).Nodup) (hap :∀e∈es.map (·.2),e∉gs)
  {st1:St} {jX:Nat→Gh} (ks:List Nat) (h1:Rel E st1 jX val w) (l1:Lets E (st.upd (gs.map (Fw.freeze st.o)) []) st1 gh jX w w) (e1 :∀x,(jX x).ad=(gh x).ad∧(jX x).cap=(gh x).cap) (s1:st1.s=st.s) (u1 :∀x,st1.used x=st.used x)
  (o1:st1.o g=.deep a1 i1 sz cols l hole) (had:(gh g).ad=some ad) (ok1 :∀d∈ks,st1.o d=.none∧d≠g∧d∉es.map (·.2)) (oo1 :∀g',g'≠g→g'∉ks→st1.o g'=(st.upd (gs.map (Fw.freeze st.o)) []).o g') (hgg:g∉gs)
  (hh1 :∀m j,¬ (m=k∧off≤j∧j<off+i.size)→∀s,cols.lookup j=some s→fE gW m j=fE hole m j) (hh2 :∀j s,off≤j→j<off+i.size→cols.lookup j=some s→fE gW k j=none) (hh3 :∀d∈bJ gW,d∈bJ hole) :
  ∃v w' aT,Does Pg (execOp ρ o) w v w'∧Rel E (st.upd ((g,.deep (a1||a') (i1||i') sz cols (l.set k (aF (l.getD k []) off ps)) gW)::kills (es.map (·.2))++kills ks++gs.map (Fw.freeze st.o)) []) aT val w'∧
   Lets E st (st.upd ((g,.deep (a1||a') (i1||i') sz cols (l.set k (aF (l.getD k []) off ps)) gW)::kills (es.map (·.2))++kills ks++gs.map (Fw.freeze st.o)) []) gh aT w w'∧
   bI E (st.upd ((g,.deep (a1||a') (i1||i') sz cols (l.set k (aF (l.getD k []) off ps)) gW)::kills (es.map (·.2))++kills ks++gs.map (Fw.freeze st.o)) []) aT w' .no v∧
   ∀g∈S.names .no,(st.upd ((g,.deep (a1||a') (i1||i') sz cols (l.set k (aF (l.getD k []) off ps)) gW)::kills (es.map (·.2))++kills ks++gs.map (Fw.freeze st.o)) []).used g=true:=by
 obtain ⟨us,hus,QX,huo,hur⟩:=ry.cells hys
 have X_:us.length=i.size:=by rw [QX,hyl]
 obtain ⟨q0,q1,qe,q2⟩:=z_ h QX.symm hur hD
 have hpl:ps.length=i.size:=by rw [q0,hyl]
 obtain ⟨f1,f2⟩:=Rel.freezes gs h q1
 have Jb:(jX g).ad=some ad:=by rw [(e1 g).1];exact had
 have hDA:kU E st1 jX w a1 i1 sz cols l hole (jX g):=by have:=h1.objs g;rw [o1] at this;exact this
 rcases hDA with ⟨k1,_⟩ | ⟨ad0,cs0,ty,k1,k2,k3,k4,k5,k6,_,k8⟩
 ·rw [Jb] at k1;cases k1
 rw [Jb] at k1;cases k1
 have hle:(k+1)*sz≤(jX g).cap*sz:=Nat.mul_le_mul_right _ (by have:=k5.1;omega)
 rw [Nat.add_mul,Nat.one_mul] at hle
 obtain ⟨w',c',r1,r2,r3,r4,r5,r6,r7,r8⟩:=qP (Pg:=Pg) (htt _ _ ht) ad.block (ad.off+k*sz+off) hus X_ huo k3 (by omega)
 have hes1 :∀p∈es,st1.o p.2=st.o p.2:=by
  intro p hp
  have hpm:p.2∈es.map (·.2):=List.mem_map.2 ⟨p,hp,rfl⟩
  obtain ⟨a2,i2,s2,l2,z1,_⟩:=qe p hp
  by_cases e:p.2=g
  ·exfalso
   have hog:(st.upd (gs.map (Fw.freeze st.o)) []).o g=st.o g:=by rw [eF,if_neg hgg]
   have hlk:=l1.names g (by simp only [St.upd,List.contains_nil,Bool.false_or];exact h.ul g (by rw [←e,z1];simp))
   rw [o1,hog,←e,z1] at hlk
   rcases hlk with hlk | ⟨_,hlk⟩
   ·cases hlk
   ·exact hlk
  ·rw [oo1 _ e fun hk=>(ok1 _ hk).2.2 hpm,eF,if_neg (hap _ hpm)]
 have hm:=h1.afi o1 Jb hk (off:=off) (ps:=ps) (us:=us) (by omega) (by omega) a' i' es gW hnd (fun p hp=>by
   obtain ⟨a2,i2,s2,l2,z1,z2⟩:=qe p hp
   exact ⟨a2,i2,s2,l2,by rw [hes1 p hp];exact z1,z2⟩) (fun j y u hy hu=>by
   have:=q2 j y u hy hu
   cases hc:cols.lookup (off+j) with
   |none=>rw [hc] at this;exact l1.jB (this _ (fun g hg=>by rw [eF,if_pos hg]) f1 f2)
   |some s=>
    rw [hc] at this
    obtain ⟨l',z1,z2⟩:=this
    refine ⟨l',z1,z2.imp id ?_⟩
    rintro ⟨e,a2,i2,y1,y2,y3,y4,y5⟩
    exact ⟨e,a2,i2,y1,by rw [hes1 _ y1];exact y2,y3,y4,by rw [(e1 e).1,(e1 e).2];exact y5⟩)
  (by rw [hpl];exact hh1) (by rw [hpl];exact hh2) hh3 w' r4 r5 r6 r7 r8 (fun c e hce=>by
   rw [k3] at hce;cases hce
   exact ⟨c',r2,r3⟩)
 obtain ⟨aT,m1,m2⟩:=hm
 have hst:st1.upd ((g,.deep (a1||a') (i1||i') sz cols (l.set k (aF (l.getD k []) off ps)) gW)::es.map fun p=>(p.2,O.none)) [] =
   st.upd ((g,.deep (a1||a') (i1||i') sz cols (l.set k (aF (l.getD k []) off ps)) gW)::kills (es.map (·.2))++kills ks++gs.map (Fw.freeze st.o)) []:=by
  refine St.BG s1 (fun z => ?_) (fun z=>by simp [St.upd,u1])
  have ek:(es.map fun p=>(p.2,O.none))=kills (es.map (·.2)):=by simp [kills]
  rw [ek]
  simp only [St.upd,List.cons_append,lookup_cons,yR,fJ]
  by_cases z1:z=g
  ·simp only [if_pos z1]
  ·simp only [if_neg z1]
   by_cases z2:z∈es.map (·.2)
   ·simp only [if_pos z2,Option.some_or]
   ·simp only [if_neg z2,Option.none_or]
    by_cases z3:z∈ks
    ·simp only [if_pos z3,Option.some_or];exact (ok1 z z3).1
    ·simp only [if_neg z3,Option.none_or]
     rw [oo1 z z1 z3]
     rfl
 rw [hst] at m1 m2
 refine ⟨undef,w',aT,.inr ⟨?_,rfl⟩,m1,?_,.no _,fun g hg=>by simp [S.names] at hg⟩
 ·unfold execOp;rw [ho]
  refine X6 ?_
  rw [hv]
  simpa [Instr.storeAt,Instr.sureAddr] using r1
 ·exact Lets.trans (Lets.trans f2 l1 (fun g hg=>by simpa [St.upd] using hg)) m2 (fun g hg=>by rw [u1];exact hg)
theorem ahy {o:Nat→O} {g:Nat} {a i:Bool} {sz:Nat} {cols:List (Nat×Nat)} {l:List (List P)} {hole:Option (Nat×Nat×Nat)} (h:o g=.deep a i sz cols l hole):(o g).hn=bJ hole:=by rw [h];rfl
theorem Ls {g:Nat} {gs:List Nat} (hg:g∉gs) (hn :∀d∈(st.o g).hn,d∉gs):iM (st.upd (gs.map (Fw.freeze st.o)) []).o g=iM st.o g:=by
 have e1:(st.upd (gs.map (Fw.freeze st.o)) []).o g=st.o g:=by rw [eF,if_neg hg]
 unfold iM
 rw [e1]
 cases ho:st.o g with
 |deep a i sz cols l hole=>
  rcases hole with _ | ⟨n,c,d⟩
  ·rfl
  ·simp only
   rw [eF,if_neg (hn d (by rw [ho];simp [O.hn,bJ]))]
 |_=>rfl
theorem Lu {dc:List (Nat×Nat)} (htt:fM Pg tt) (t:TypeId) (x y:Operand):oQ Pg tt dc (.store t x y):=by
 intro E st gh val w ρ F o d r ho h hF hFn hk hp hd
 simp only [bY] at hk
 split at hk
 ·rename_i i g n off y' ht hx hy
  have rx:=hF x;rw [hx] at rx
  have ry:=hF y;rw [hy] at ry
  split at hk
  ·rename_i a0 i0 sz cols l0 hole hog
   split at hk
   ·rename_i ps a' i' gs es hD
    split at hk
    ·rename_i hc
     obtain ⟨hc1,hc2,hc3,hc4,hc5,hc6⟩:=hc
     have hgg:g∉gs:=fun hm=>by simp [hm] at hc4
     have hnd:=qp hc5
     have hap:=Dv hc6
     have Og:(st.o g).dim=some (sz,l0.length):=by rw [hog];rfl
     obtain ⟨ad,k,had,rfl,hkl,hv⟩:=(by cases rx.bH with | ep _ _ _ _ _ hb=>exact hb _ _ Og :∃(ad:Addr) (k:Nat),(gh g).ad=some ad∧n=.int .i64 k∧k<l0.length∧ρ x=.pointer (some ⟨ad.block,ad.off+k*sz+off,none⟩))
     have en:(P.int .i64 (k:Int)).nat=k:=by simp [P.nat,P.num]
     have ogf:(st.upd (gs.map (Fw.freeze st.o)) []).o g=.deep a0 i0 sz cols l0 hole:=by rw [eF,if_neg hgg];exact hog
     obtain ⟨us,hus,QX,huo,hur⟩:=ry.Lc.cells hc3
     obtain ⟨_,q1,_,_⟩:=z_ h QX.symm hur hD
     obtain ⟨f1,f2⟩:=Rel.freezes gs h q1
     have refl:Lets E (st.upd (gs.map (Fw.freeze st.o)) []) (st.upd (gs.map (Fw.freeze st.o)) []) gh gh w w:=⟨fun a i b hb=>⟨hb,rfl⟩,fun g _=>.inr ⟨⟨rfl,rfl⟩,O.dJ _⟩⟩
     have home :∀(a i1:Bool) (l:List (List P)),iM st.o g=some (a,i1,sz,cols,l)→(∀d∈(st.o g).hn,d∉es.map (·.2)∧d∉gs)→
       ∃v w' aT,Does Pg (execOp ρ o) w v w'∧Rel E (st.upd ((g,.deep (a||a') (i1||i') sz cols (l.set k (aF (l.getD k []) off ps)) none)::kills (es.map (·.2))++kills (st.o g).hn++gs.map (Fw.freeze st.o)) []) aT val w'∧Lets E st (st.upd ((g,.deep (a||a') (i1||i') sz cols (l.set k (aF (l.getD k []) off ps)) none)::kills (es.map (·.2))++kills (st.o g).hn++gs.map (Fw.freeze st.o)) []) gh aT w w'∧bI E (st.upd ((g,.deep (a||a') (i1||i') sz cols (l.set k (aF (l.getD k []) off ps)) none)::kills (es.map (·.2))++kills (st.o g).hn++gs.map (Fw.freeze st.o)) []) aT w' .no v∧∀g'∈S.names .no,(st.upd ((g,.deep (a||a') (i1||i') sz cols (l.set k (aF (l.getD k []) off ps)) none)::kills (es.map (·.2))++kills (st.o g).hn++gs.map (Fw.freeze st.o)) []).used g'=true:=fun a i1 l hh hno=>by
      have hh':iM (st.upd (gs.map (Fw.freeze st.o)) []).o g=some (a,i1,sz,cols,l):=by rw [Ls hgg fun d hd=>(hno d hd).2];exact hh
      have hhn:((st.upd (gs.map (Fw.freeze st.o)) []).o g).hn=(st.o g).hn:=by rw [ogf,hog]
      obtain ⟨st1,jX,h1,l1,e1,es1,eu,eo,ek,en1⟩:=f1.home hh'
      rw [hhn] at ek en1
      have hll:=(F5 hog hh).2.2
      exact tJ htt h ho ht ry.Lc hc3 hc2 hv hc1 (by omega) hD hnd hap (st.o g).hn h1 l1 e1 (by rw [es1];rfl) (fun z=>by rw [eu];simp [St.upd]) eo had
       (fun d hd=>⟨(ek d hd).1,(ek d hd).2,(hno d hd).1⟩) en1 hgg (gW:=none) (fun _ _ _ _ _=>rfl) (fun _ _ _ _ _=>rfl) (fun d hd=>by cases hd)
     have over :∀n0 c0 d0,hole=some (n0,c0,d0)→off≤c0∧c0<off+i.size→n0=k→_:=fun n0 c0 d0 hho hcr hp=>
      tJ htt h ho ht ry.Lc hc3 hc2 hv hc1 hkl hD hnd hap [] f1 refl (fun _=>⟨rfl,rfl⟩) rfl (fun z=>by simp [St.upd]) ogf had (fun d hd=>by cases hd) (fun _ _ _=>rfl) hgg
       (gW:=none) (fun m j hne s hs=>by
        subst hho hp
        simp only [fE]
        rw [if_neg fun e=>hne ⟨e.1.symm,by omega,by omega⟩]) (fun _ _ _ _ _=>rfl) (fun d hd=>by cases hd)
     split at hk
     ·rename_i hci
      simp only [Option.some.injEq] at hk;subst hk
      have:=tJ htt h ho ht ry.Lc hc3 hc2 hv hc1 hkl hD hnd hap [] f1 refl (fun _=>⟨rfl,rfl⟩) rfl (fun z=>by simp [St.upd]) ogf had (fun d hd=>by cases hd) (fun _ _ _=>rfl) hgg
       (gW:=hole) (fun _ _ _ _ _=>rfl) (fun j s h1 h2 h3=>by rw [FY hci h1 h2] at h3;cases h3) (fun d hd=>hd)
      rw [en];exact this
     ·split at hk
      ·simp only [Option.some.injEq] at hk;subst hk
       have:=tJ htt h ho ht ry.Lc hc3 hc2 hv hc1 hkl hD hnd hap [] f1 refl (fun _=>⟨rfl,rfl⟩) rfl (fun z=>by simp [St.upd]) ogf had (fun d hd=>by cases hd) (fun _ _ _=>rfl) hgg
        (gW:=none) (fun _ _ _ _ _=>rfl) (fun _ _ _ _ _=>rfl) (fun d hd=>hd)
       rw [en];exact this
      ·rename_i n0 c0 d0
       split at hk
       ·rename_i a i1 _ _ l hh
        split at hk
        ·rename_i hcc
         simp only [Option.some.injEq] at hk;subst hk
         obtain ⟨e1,e2,e3⟩:=F5 hog hh
         subst e1 e2
         have hhn:(st.o g).hn=[d0]:=by rw [ahy hog];rfl
         have:=home a i1 l hh (fun d hd=>by
          rw [hhn,List.mem_singleton] at hd;subst hd
          exact ⟨fun hm=>by have:=hcc.1;simp only [List.contains_eq_mem,decide_eq_false_iff_not] at this;exact this hm,fun hm=>by have:=hcc.2;simp [hm] at this⟩)
         rw [hhn] at this
         rw [en];exact this
        ·split at hk
         ·rename_i hcr
          simp only [Option.some.injEq] at hk;subst hk
          have hp:n0=(P.int .i64 (k:Int)).nat:=hp
          rw [en] at hp
          rw [en];exact over n0 c0 d0 rfl hcr hp
         ·cases hk
       ·split at hk
        ·rename_i hcr
         simp only [Option.some.injEq] at hk;subst hk
         have hp:n0=(P.int .i64 (k:Int)).nat:=hp
         rw [en] at hp
         rw [en];exact over n0 c0 d0 rfl hcr hp
        ·cases hk
    ·cases hk
   ·cases hk
  ·cases hk
 ·cases hk
theorem Rel.Yh (h:Rel E st gh val w) {d:Nat} (hd:st.used d=false) (a i:Bool) (sz:Nat) (cols:List (Nat×Nat)) (l:List (List P)) (c:Array Value) (t:TypeId) (cap:Nat) (hcap:l.length≤cap∧cap≤9223372036854775807) (hc:cap*sz≤c.size) (hrow :∀x∈l,x.length=sz)
  (es:List (Nat×Nat)) (hnd:(es.map (·.2)).Nodup) (hes :∀p∈es,∃a1 i1 s l',st.o p.2=.arr false a1 i1 s l'∧(i1=true→i=true))
  (hcell :∀(n:Nat) x,l[n]?=some x→∀(j:Nat) y,x[j]?=some y→∃v,c[n*sz+j]?=some v∧match cols.lookup j with
   |none=>bn w (E.ok st gh w a i) y v
   |some s=>PartOf st gh a i es s (n*sz+j) y v) :
  ∃aT,Rel E (st.upd ((d,.deep a i sz cols l none)::kills (es.map (·.2))) [d]) aT val { w with heap:=w.heap.push (.cells c t) }∧Lets E st (st.upd ((d,.deep a i sz cols l none)::kills (es.map (·.2))) [d]) gh aT w { w with heap:=w.heap.push (.cells c t) }∧
   (aT d).ad=some ⟨w.heap.size,0,none⟩ ∧(aT d).cap=cap:=by
 have heo :∀p∈es,(st.o p.2).owned=true:=fun p hp=>by obtain ⟨_,_,_,_,e,_⟩:=hes p hp;rw [e];rfl
 have hde:d∉es.map (·.2):=fun hm=>by
  obtain ⟨p,hp,e⟩:=List.mem_map.1 hm
  have:=h.ul p.2 (O.oM (heo p hp))
  rw [e,hd] at this;cases this
 let G:Gh:=⟨some ⟨w.heap.size,0,none⟩,cap,fun b=>(whose gh es b).map fun p=>(p.1/sz,p.1 % sz)⟩
 have hwb :∀b,(G.sub b).isSome=true→∃p∈es,∃ad,(gh p.2).ad=some ad∧ad.block=b:=fun b hb=>by
  cases hx:whose gh es b with
  |none=>simp [G,hx] at hb
  |some p=>exact ⟨p,tH hx⟩
 have hm:=h.gather (fun g=>g∈es.map (·.2)) hd a i sz cols l G (st.upd ((d,.deep a i sz cols l none)::kills (es.map (·.2))) [d]) { w with heap:=w.heap.push (.cells c t) } rfl (by simp [St.upd,lookup_cons])
  (fun g hg e=>by simp only [St.upd,lookup_cons,if_neg e,fJ,if_pos hg]) (fun g hg e=>by simp only [St.upd,lookup_cons,if_neg e,fJ,if_neg hg]) (fun g hg=>by simp [St.upd,hg]) (by simp [St.upd])
  (ad:=⟨w.heap.size,0,none⟩) (c:=c) (ty:=t) rfl rfl (by simp) (by simpa [G] using hc) hcap hrow (by
   cases hx:G.sub w.heap.size with
   |none=>rfl
   |some p=>
    obtain ⟨p,hp,ad,q1,q2⟩:=hwb w.heap.size (by rw [hx];rfl)
    have:=(h.wr p.2 w.heap.size (heo p hp) (.inl ⟨ad,q1,q2⟩)).2
    omega) (fun b hb=>by
   obtain ⟨p,hp,ad,q1,q2⟩:=hwb b hb
   refine ⟨⟨p.2,List.mem_map.2 ⟨p,hp,rfl⟩,heo p hp,.inl ⟨ad,q1,q2⟩⟩,?_⟩
   obtain ⟨_,_,_,_,e,_⟩:=hes p hp
   have hA:=h.objs p.2
   rw [e] at hA
   rcases hA with ⟨q3,_⟩ | ⟨zT,c2,e2,q3,_,q4,_⟩
   ·rw [q1] at q3;cases q3
   ·rw [q1] at q3;cases q3;rw [←q2];exact ⟨_,_,_,q4⟩)
  (.inr ⟨Nat.le_refl _,by simp⟩) (fun b hb _=>sW w _ b hb) (by simp) rfl rfl rfl (fun g i1 hg e1 hi=>by
   obtain ⟨p,hp,rfl⟩:=List.mem_map.1 hg
   obtain ⟨_,i2,_,_,e,hi2⟩:=hes p hp
   rw [e] at e1;cases e1;exact hi2 hi) (fun g hg _=>by
   obtain ⟨p,hp,rfl⟩:=List.mem_map.1 hg
   obtain ⟨_,i2,_,_,e,hi2⟩:=hes p hp
   exact ⟨i2,by rw [e];rfl⟩) (fun n x hx j y hy=>by
   obtain ⟨v,hv,hr⟩:=hcell n x hx j y hy
   refine ⟨v,by simpa using hv,?_⟩
   cases hcj:cols.lookup j with
   |none=>rw [hcj] at hr;exact hr
   |some s=>
    rw [hcj] at hr
    have hjs:j<sz:=by have:=(List.getElem?_eq_some_iff.1 hy).1;have:=hrow x (List.mem_of_getElem? hx);omega
    refine PartOf.ahw h hr fun p hp e ad had => ?_
    have:=Jw h hnd heo hp had
    simp only [G,this,Option.map_some,e]
    have e1:(n*sz+j)/sz=n:=by rw [Nat.mul_comm,Nat.mul_add_div (by omega),Nat.div_eq_of_lt hjs,Nat.add_zero]
    have e2:(n*sz+j) % sz=j:=by rw [Nat.mul_comm,Nat.mul_add_mod,Nat.mod_eq_of_lt hjs]
    rw [e1,e2])
 exact ⟨_,hm.1,hm.2,by simp [dK,G],by simp [dK,G]⟩
theorem BH {dc:List (Nat×Nat)} (htt:fM Pg tt) (t:TypeId) (n c:Operand):oQ Pg tt dc (.makeSlice t n c):=by
 intro E st gh val w ρ F o d r ho h hF hFn hk hp hd
 simp only [bY] at hk
 split at hk
 ·rename_i e _ _ _ _ _ n' _ _ c' yu BI ht hn hc
  split at hk
  ·rename_i ie he
   split at hk
   ·rename_i ps hps
    split at hk
    ·rename_i hpos
     simp only [Option.some.injEq] at hk;subst hk
     obtain ⟨m,k,rfl,rfl,hmk,hby,hkm⟩:=hp
     have hu:=(htt _ _ ht).kind
     simp only [mQ] at hu
     have rn:=hF n;rw [hn] at rn
     have rc:=hF c;rw [hc] at rc
     obtain ⟨x,z,g1,g2,g3,g4,g5,g6⟩:=(htt _ _ he).info
     obtain ⟨hone,hl,hr⟩:=oN (E:=E) (st:=st) (gh:=gh) (w:=w) (htt _ _ he)
     have hzl:=(htt _ _ he).len
     obtain ⟨q0,q1,_,q2⟩:=z_ h hl hr hps
     have EW:st.used d=false:=hd d (by simp)
     have hpl:ps.length=ie.size:=by rw [q0,hl,hzl]
     have e1:(P.int .i64 (m:Int)).nat=m:=by simp [P.nat,P.num]
     obtain ⟨aT,m1,m2,m3,m4⟩:=h.Yh EW false false ie.size (yu::BI) (List.replicate m ps) (dV ie.zero k).toArray e k ⟨by simpa using hmk,by omega⟩ (by simp [bK,hzl]) (fun x hx=>by
       rw [List.mem_replicate] at hx;rw [hx.2,hpl]) [] List.nodup_nil (fun p hp=>by cases hp) (fun q x hx j y hy=>by
       rw [List.getElem?_replicate] at hx
       split at hx
       ·rename_i hq
        simp only [Option.some.injEq] at hx;subst hx
        have hj:j<ie.size:=by have:=(List.getElem?_eq_some_iff.1 hy).1;omega
        have hlt:q*ie.size+j<k*ie.zero.length:=by
         rw [hzl]
         have:(q+1)*ie.size≤k*ie.size:=Nat.mul_le_mul_right _ (by omega)
         rw [Nat.add_mul] at this;omega
        have hz':ie.zero[j]?=some ie.zero[j]:=List.getElem?_eq_getElem (by omega)
        refine ⟨ie.zero[j],?_,?_⟩
        ·simp only [List.getElem?_toArray]
         have hmod:(q*ie.size+j) % ie.zero.length=j:=by rw [hzl,Nat.mul_comm,Nat.mul_add_mod,Nat.mod_eq_of_lt hj]
         rw [fP _ _ _ hlt,hmod]
         exact hz'
        ·have:=q2 j y _ hy hz'
         rw [Nat.zero_add] at this
         cases hcj:(yu::BI).lookup j with
         |none=>rw [hcj] at this;exact this st (by simp) h ⟨fun a i b hb=>⟨hb,rfl⟩,fun g _=>.inr ⟨⟨rfl,rfl⟩,O.dJ _⟩⟩
         |some s=>
          rw [hcj] at this
          obtain ⟨l',z1,z2⟩:=this
          rcases z2 with z2 | ⟨_,_,_,z3,_⟩
          ·exact ⟨l',z1,.inl z2⟩
          ·cases z3
       ·cases hx)
     refine ⟨.slice (some ⟨w.heap.size,0,none⟩) m k,_,aT,.inl ?_,by simpa [e1,P.list,kills] using m1,by simpa [e1,P.list,kills] using m2,bI.FH (.own d _ rfl fun sz' len' ho' => ?_),fun g hg => ?_⟩
     ·unfold execOp;rw [ho]
      refine eY ?_
      have hrun:=run_make (P:=Pg) w t e x z hu g1 g4 .i64 .i64 (m:Int) (k:Int) (by omega) (by omega) (by rw [g3];omega) (by omega)
      rw [rn.dL.dA,rc.dL.dA,hrun]
      have:=lQ g5 k (by rw [hzl];exact hpos)
      rw [hzl] at this
      simp only [Int.toNat_natCast,g2,madeCells,this]
     ·rw [e1] at ho'
      have Q5:(some (ie.size,m):Option (Nat×Nat))=some (sz',len'):=by
       rw [←ho'];simp [St.upd,List.lookup,O.dim,P.list]
      cases Q5
      rw [m3,m4]
     ·have hg:g∈(S.v (.one (.own d))).names:=hg
      rw [bQ] at hg
      simp only [W.names,List.mem_singleton] at hg
      subst hg;simp [St.upd]
    ·cases hk
   ·cases hk
  ·cases hk
 ·cases hk
theorem Aa {dc:List (Nat×Nat)} (htt:fM Pg tt) (t:TypeId) (n:Nat) (parts:Array (Nat×Operand)):oQ Pg tt dc (.buildSlice t n parts):=by
 intro E st gh val w ρ F o d r ho h hF hFn hk hp hd
 simp only [bY] at hk
 split at hk
 ·rename_i e _ _ _ yu BI ht
  split at hk
  ·rename_i ie he
   split at hk
   ·rename_i ws Jv
    split at hk
    ·rename_i ps a i gs es hps
     split at hk
     ·rename_i hcc
      obtain ⟨hcap0,hnd,hap⟩:=hcc
      have hnd:=qp hnd
      have hap:=Dv hap
      have hcap:n*ie.size≤16777216:=by omega
      simp only [Option.some.injEq] at hk;subst hk
      have hu:=(htt _ _ ht).kind
      simp only [mQ] at hu
      obtain ⟨z,hz,hzc,_⟩:=jM (Pg:=Pg) (w:=w) (htt _ _ he)
      obtain ⟨hone,hl,hr⟩:=oN (E:=E) (st:=st) (gh:=gh) (w:=w) (htt _ _ he)
      have hzl:=(htt _ _ he).len
      have hparts:(parts.map fun (p:Nat×Operand)=>(p.1,ρ p.2)).toList=parts.toList.map fun p=>(p.1,ρ p.2):=by simp
      obtain ⟨cs',h1,h2,h3,h4,h5⟩:=zW (E:=E) (st:=st) (gh:=gh) (w:=w) (place':=fun i=>some (i*ie.size,ie.size)) (fun m p hpm=>by split at hpm;exact hpm;cases hpm) _ (parts.toList.map fun p=>(p.1,ρ p.2)) _ _
       (dV ie.zero n) (by simp) (fun j x v hx hv=>Bz hF _ j x v hx hv) (by rw [bK,bK,hl]) (fun c hc=>by
        obtain ⟨j,hj⟩:=List.mem_iff_getElem?.1 hc
        have hlt:j<n*ie.zero.length:=by have:=(List.getElem?_eq_some_iff.1 hj).1;rwa [bK] at this
        rw [fP _ _ _ hlt] at hj
        exact hone c (List.mem_of_getElem? hj)) (fun j x u hx hu=>by
        have hlt:j<n*ie.zero.length:=by have:=(List.getElem?_eq_some_iff.1 hu).1;rwa [bK] at this
        rw [fP _ _ _ hlt] at hu
        rw [fP _ _ _ (by rw [hl];exact hlt),hl] at hx
        exact hr _ _ _ hx hu) Jv
      obtain ⟨q0,q1,qe,q2⟩:=z_ h h2 h4 hps
      obtain ⟨f1,f2⟩:=Rel.freezes gs h q1
      have EW:st.used d=false:=hd d (by simp)
      have hws:ws.length=n*ie.size:=by rw [h5,bK,hl,hzl]
      have afe:ps.length=n*ie.size:=by rw [q0,hws]
      have hfe :∀p∈es,(st.upd (gs.map (Fw.freeze st.o)) []).o p.2=st.o p.2:=fun p hp=>by rw [eF,if_neg (hap _ (List.mem_map.2 ⟨p,hp,rfl⟩))]
      obtain ⟨aT,m1,m2,m3,m4⟩:=f1.Yh (d:=d) (by simpa [St.upd] using EW) a i ie.size (yu::BI) (chunks ie.size n ps) cs'.toArray e n ⟨by rw [fH];exact Nat.le_refl _,by omega⟩ (by simp;omega) (fun x hx=>by
        obtain ⟨m,hm⟩:=List.mem_iff_getElem?.1 hx
        have hlt:m<n:=by have:=(List.getElem?_eq_some_iff.1 hm).1;rwa [fH] at this
        rw [oO _ _ _ _ hlt] at hm
        simp only [Option.some.injEq] at hm;subst hm
        simp [afe]
        have:(m+1)*ie.size≤n*ie.size:=Nat.mul_le_mul_right _ hlt
        rw [Nat.add_mul] at this;omega) es hnd (fun p hp=>by
        obtain ⟨a2,i2,s2,l2,z1,z2⟩:=qe p hp
        exact ⟨a2,i2,s2,l2,by rw [hfe p hp];exact z1,z2⟩) (fun m x hx j y hy=>by
        have hlt:m<n:=by have:=(List.getElem?_eq_some_iff.1 hx).1;rwa [fH] at this
        rw [oO _ _ _ _ hlt] at hx
        simp only [Option.some.injEq] at hx;subst hx
        rw [List.getElem?_take] at hy
        split at hy
        ·rename_i hj
         rw [List.getElem?_drop] at hy
         have hlt2:m*ie.size+j<cs'.length:=by
          have:=(List.getElem?_eq_some_iff.1 hy).1;omega
         refine ⟨cs'[m*ie.size+j],by simp,?_⟩
         have:=q2 _ y _ hy (List.getElem?_eq_getElem hlt2)
         have em:(0+(m*ie.size+j)) % ie.size=j:=by rw [Nat.zero_add,Nat.mul_comm,Nat.mul_add_mod,Nat.mod_eq_of_lt hj]
         rw [em,Nat.zero_add] at this
         cases hcj:(yu::BI).lookup j with
         |none=>rw [hcj] at this;exact this _ (fun g hg=>by rw [eF,if_pos hg]) f1 f2
         |some s=>
          rw [hcj] at this
          obtain ⟨l',z1,z2⟩:=this
          refine ⟨l',z1,z2.imp id ?_⟩
          rintro ⟨e,a2,i2,y1,y2,y3,y4,y5⟩
          exact ⟨e,a2,i2,y1,by rw [hfe _ y1];exact y2,y3,y4,y5⟩
        ·cases hy)
      have hst:(st.upd (gs.map (Fw.freeze st.o)) []).upd ((d,.deep a i ie.size (yu::BI) (chunks ie.size n ps) none)::kills (es.map (·.2))) [d]=st.upd ((d,.deep a i ie.size (yu::BI) (chunks ie.size n ps) none)::kills (es.map (·.2))++gs.map (Fw.freeze st.o)) [d]:=by
       refine St.BG rfl (fun z => ?_) (fun z=>by simp [St.upd])
       simp only [St.upd,List.cons_append,lookup_cons,yR,fJ]
       by_cases z1:z=d
       ·simp only [if_pos z1]
       ·simp only [if_neg z1]
        by_cases z2:z∈es.map (·.2)
        ·simp only [if_pos z2,Option.some_or]
        ·simp only [if_neg z2,Option.none_or]
      rw [hst] at m1 m2
      refine ⟨.slice (some ⟨w.heap.size,0,none⟩) n n,_,aT,.inl ?_,m1,Lets.trans f2 m2 (fun g hg=>by simpa [St.upd] using hg),bI.FH (.own d _ rfl fun sz' len' ho' => ?_),fun g hg => ?_⟩
      ·unfold execOp;rw [ho]
       refine eY ?_
       have hle:¬ n*ie.size>2 ^ 24:=by omega
       have fin :∀Z:Array Value,(Array.range (n*ie.size)).map (fun i=>Z[i % Z.size]!)=(dV ie.zero n).toArray→
         Instr.fill (fun i=>some (i*ie.size,ie.size)) ((Array.range (n*ie.size)).map fun i=>Z[i % Z.size]!) (parts.map fun (p:Nat×Operand)=>(p.1,ρ p.2)).toList=some cs'.toArray:=by
        intro Z hZ;rw [hZ,hparts,h1]
       by_cases h0:n*ie.size=0
       ·have e0:dV ie.zero n=[]:=List.eq_nil_of_length_eq_zero (by rw [bK,hzl,h0])
        have e1:=fin #[] (by rw [h0,e0];simp)
        simp only [Instr.buildSlice,Sem.run_bind,dh hu,Result.andThen_ok,b_ (htt _ _ he),if_neg hle,if_pos h0,Sem.run_pure]
        simp only [e1]
        simp [newRow]
       ·have hpos:0<ie.zero.length:=by rw [hzl];rcases Nat.eq_zero_or_pos ie.size with h | h;(rw [h] at h0;simp at h0);exact h
        have e1:=fin z.cells (by have:=lQ hzc n hpos;rw [hzl] at this;exact this)
        simp only [Instr.buildSlice,Sem.run_bind,dh hu,Result.andThen_ok,b_ (htt _ _ he),if_neg hle,if_neg h0,hz,Sem.run_pure]
        simp only [e1]
        simp [newRow]
      ·have Q5:(some (ie.size,n):Option (Nat×Nat))=some (sz',len'):=by
        rw [←ho'];simp [St.upd,List.lookup,O.dim,P.list,fH]
       cases Q5
       rw [m3,m4]
      ·have hg:g∈(S.v (.one (.own d))).names:=hg
       rw [bQ] at hg
       simp only [W.names,List.mem_singleton] at hg
       subst hg;simp [St.upd]
     ·cases hk
    ·cases hk
   ·cases hk
  ·cases hk
 ·cases hk
def xG (gh:Nat→Gh):Option Nat→Nat→Option (Nat×Nat)
 |some g,b=>(gh g).sub b
 |none,_=>none
theorem Oi (h:Rel E st gh val w) {d g2:Nat} (hd:st.used d=false) {a i a2 i2:Bool} {sz:Nat} {cols:List (Nat×Nat)} {old new:List (List P)} {base:Option Nat} {bad:Option Addr} {tK m:Nat}
  (hb:(base=none∧bad=none∧tK=0∧m=0∧old=[])∨∃g l,base=some g∧st.o g=.deep a i sz cols l none∧bad=(gh g).ad∧(m≤tK∧tK≤(gh g).cap)∧m≤l.length∧old=l.take m∧g≠g2)
  (ho2:st.o g2=.deep a2 i2 sz cols new none)
  {ts:Array TypeId} {ty sT xT e e':TypeId} {ie:TI} (h0:ts[0]?=some sT) (h1:ts[1]?=some xT) (hs:Pg.underlying sT=some (.slice e)) (hxt:Pg.underlying xT=some (.slice e')) (he:nS Pg e ie) (hsz:sz=ie.size)
  (hbb:(m+new.length)*ie.bytes≤140737488355328) (hb0:ie.bytes≠0) :
  ∃v w' aT,(Builtin.append_ ts ty #[.slice bad m tK,.slice (gh g2).ad new.length (gh g2).cap]).run Pg w=.ok v w'∧Rel E (st.upd ((d,.deep (a||a2) (i||i2) sz cols (old++new) none)::kills (base.toList++[g2])) [d]) aT val w'∧
   Lets E st (st.upd ((d,.deep (a||a2) (i||i2) sz cols (old++new) none)::kills (base.toList++[g2])) [d]) gh aT w w'∧v=.slice (aT d).ad (old++new).length (aT d).cap:=by
 subst hsz
 have ca:a=true→(a||a2)=true:=by simp;exact fun h=>.inl h
 have ci:i=true→(i||i2)=true:=by simp;exact fun h=>.inl h
 have ca2:a2=true→(a||a2)=true:=by simp;exact fun h=>.inr h
 have ci2:i2=true→(i||i2)=true:=by simp;exact fun h=>.inr h
 have hnd :∀g,st.o g≠.none→g≠d:=fun g hg e=>by rw [←e,h.ul g hg] at hd;cases hd
 have akN:g2≠d:=hnd g2 (by rw [ho2];simp)
 have abH:(st.o g2).owned=true:=by rw [ho2];rfl
 have hol:old.length=m:=by
  rcases hb with ⟨_,_,_,rfl,rfl⟩ | ⟨g,l,_,_,_,_,hm,rfl,_⟩
  ·rfl
  ·simp;omega
 have hlen:(old++new).length=m+new.length:=by rw [List.length_append,hol]
 have hbS :∀g,g∈base.toList++[g2]→g≠d∧(st.o g).owned=true∧∃a0 i0 l0,st.o g=.deep a0 i0 ie.size cols l0 none∧(i0=true→(i||i2)=true):=by
  intro g hg
  rcases List.mem_append.1 hg with hg | hg
  ·rcases hb with ⟨rfl,_⟩ | ⟨g',l,rfl,hog,_⟩
   ·simp at hg
   ·simp at hg;subst hg
    exact ⟨hnd g (by rw [hog];simp),by rw [hog];rfl,a,i,l,hog,ci⟩
  ·rw [List.mem_singleton] at hg;subst hg
   exact ⟨akN,abH,a2,i2,new,ho2,ci2⟩
 let sub:Nat→Option (Nat×Nat):=fun b=>match (gh g2).sub b with
  |some (n,j)=>some (n+m,j)
  |none=>xG gh base b
 have ahz :∀b,(xG gh base b).isSome=true→(gh g2).has b→False:=fun b h1 h2=>by
  rcases hb with ⟨rfl,_⟩ | ⟨g,l,rfl,hog,_,_,_,_,hne⟩
  ·cases h1
  ·exact hne (h.inj g g2 b (by rw [hog];rfl) abH (.inr h1) h2)
 have hsub :∀b,(sub b).isSome=true→(∃g,g∈base.toList++[g2]∧(st.o g).owned=true∧((gh g).sub b).isSome=true):=fun b hbs=>by
  cases hx:(gh g2).sub b with
  |some p=>exact ⟨g2,by simp,abH,by rw [hx];rfl⟩
  |none=>
   simp only [sub,hx] at hbs
   rcases hb with ⟨rfl,_⟩ | ⟨g,l,rfl,hog,_⟩
   ·cases hbs
   ·exact ⟨g,by simp,by rw [hog];rfl,hbs⟩
 have Yi :∀g,g∈base.toList++[g2]→∀b,((gh g).sub b).isSome=true→∃c e f,w.heap[b]?=some (.cells c e f):=fun g hg b hbs=>by
  obtain ⟨_,_,a0,i0,l0,hog,_⟩:=hbS g hg
  have hD:=h.objs g
  rw [hog] at hD
  rcases hD with ⟨_,_,_,q⟩ | ⟨_,_,_,_,_,_,_,_,_,⟨_,q⟩,_⟩
  ·rw [q b] at hbs;cases hbs
  ·exact q b hbs
 have ahA :∀(G:Gh),G.sub=sub→∀n j y u,gq E st gh w a2 i2 (gh g2) cols none n j y u→match cols.lookup j with
   |none=>bn w (E.ok st gh w (a||a2) (i||i2)) y u
   |some s=>yc E st gh w (a||a2) (i||i2) G s (n+m) j y u:=by
  intro G hG n j y u hr
  unfold gq at hr
  cases hc:cols.lookup j with
  |none=>rw [hc] at hr;exact hr.cls ca2 ci2
  |some s=>
   rw [hc] at hr
   simp only [fE] at hr
   obtain ⟨l',ao,k,q1,q2,q3,q4⟩:=hr.cls ca2 ci2
   exact ⟨l',ao,k,q1,q2,q3,fun ad had=>by rw [hG];simp only [sub,q4 ad had]⟩
 have ahB :∀(G:Gh),G.sub=sub→∀g,base=some g→∀n j y u,gq E st gh w a i (gh g) cols none n j y u→match cols.lookup j with
   |none=>bn w (E.ok st gh w (a||a2) (i||i2)) y u
   |some s=>yc E st gh w (a||a2) (i||i2) G s n j y u:=by
  intro G hG g hgb n j y u hr
  unfold gq at hr
  cases hc:cols.lookup j with
  |none=>rw [hc] at hr;exact hr.cls ca ci
  |some s=>
   rw [hc] at hr
   simp only [fE] at hr
   obtain ⟨l',ao,k,q1,q2,q3,q4⟩:=hr.cls ca ci
   refine ⟨l',ao,k,q1,q2,q3,fun ad had => ?_⟩
   have hq:=q4 ad had
   have hb1:(xG gh base ad.block).isSome=true:=by rw [hgb];simp only [xG,hq];rfl
   rw [hG]
   cases hx:(gh g2).sub ad.block with
   |some p=>exact (ahz ad.block hb1 (.inr (by rw [hx];rfl))).elim
   |none=>simp only [sub,hx,hgb,xG];exact hq
 have hD2:kU E st gh w a2 i2 ie.size cols new none (gh g2):=by have:=h.objs g2;rw [ho2] at this;exact this
 have ahC :∀X:O,∀g,g∈base.toList++[g2]→g≠d→(st.upd ((d,X)::kills (base.toList++[g2])) [d]).o g=.none:=fun X g hg e=>by simp only [St.upd,lookup_cons,if_neg e,fJ,if_pos hg]
 have ahD :∀X:O,∀g,¬ g∈base.toList++[g2]→g≠d→(st.upd ((d,X)::kills (base.toList++[g2])) [d]).o g=st.o g:=fun X g hg e=>by simp only [St.upd,lookup_cons,if_neg e,fJ,if_neg hg]
 by_cases qm:m+new.length≤tK
 ·obtain ⟨c2,hc2,hl2,ahE,hr2,hcell2⟩:=yO (Pg:=Pg) hD2 new.length (Nat.le_refl _)
  rcases hb with ⟨rfl,rfl,rfl,rfl,rfl⟩ | ⟨g,l,rfl,hog,rfl,hbc,hm,rfl,ahF⟩
  ·have hn0:new=[]:=List.eq_nil_of_length_eq_zero (by omega)
   subst hn0
   have hk:=h.kill g2
   have hmk:=Rel.KX hk.1 d (by simpa [St.upd] using hd) (.deep (a||a2) (i||i2) ie.size cols [] none) (.inl ⟨rfl,rfl,rfl,fun _=>rfl⟩) (fun g hg=>by simp [O.names,bJ] at hg)
   have hst:(st.upd [(g2,.none)] []).upd [(d,.deep (a||a2) (i||i2) ie.size cols [] none)] [d]=st.upd ((d,.deep (a||a2) (i||i2) ie.size cols ([]++[]) none)::kills ((none:Option Nat).toList++[g2])) [d]:=by
    refine St.BG rfl (fun z => ?_) (fun z=>by simp [St.upd])
    simp only [St.upd,lookup_cons,fJ,Option.toList,List.nil_append,List.mem_singleton,List.lookup_nil]
    by_cases z1:z=d
    ·simp only [if_pos z1]
    ·simp only [if_neg z1]
   rw [hst] at hmk
   refine ⟨.slice none (0+0) 0,w,_,jy h0 h1 hs hxt he hc2 (by simp) (fun a ha=>by cases ha) (fun _=>rfl),hmk.1,Lets.trans hk.2 hmk.2 (fun g hg=>by simpa [St.upd] using hg),by simp [dK,Gh.nil]⟩
  ·have hD:kU E st gh w a i ie.size cols l none (gh g):=by have:=h.objs g;rw [hog] at this;exact this
   have hgo:(st.o g).owned=true:=by rw [hog];rfl
   rcases hD with ⟨z1,z2,z3,z4⟩ | ⟨ad,c,e0,z1,z2,z3,z4,z5,z6,⟨z7,z7'⟩,z8⟩
   ·subst z3
    have hm0:m=0:=by simpa using hm
    subst hm0
    have hn0:new=[]:=List.eq_nil_of_length_eq_zero (by omega)
    subst hn0
    have hk:=h.kill g
    have hk2:=hk.1.kill g2
    have hmk:=Rel.KX hk2.1 d (by simpa [St.upd] using hd) (.deep (a||a2) (i||i2) ie.size cols [] none) (.inl ⟨rfl,rfl,rfl,fun _=>rfl⟩) (fun g hg=>by simp [O.names,bJ] at hg)
    have hst:((st.upd [(g,.none)] []).upd [(g2,.none)] []).upd [(d,.deep (a||a2) (i||i2) ie.size cols [] none)] [d]=st.upd ((d,.deep (a||a2) (i||i2) ie.size cols (([]:List (List P)).take 0++[]) none)::kills ((some g:Option Nat).toList++[g2])) [d]:=by
     refine St.BG rfl (fun z => ?_) (fun z=>by simp [St.upd])
     simp only [St.upd,lookup_cons,fJ,Option.toList,List.cons_append,List.nil_append,List.mem_cons,List.not_mem_nil,or_false,List.lookup_nil]
     by_cases z1:z=d
     ·simp only [if_pos z1];rfl
     ·simp only [if_neg z1]
      by_cases z2:z=g2
      ·simp [z2]
      ·simp only [if_neg z2]
       by_cases z3:z=g
       ·simp [z3]
       ·simp [z2,z3]
    rw [hst] at hmk
    have afh:tK=0:=by omega
    subst afh
    refine ⟨.slice none (0+0) 0,w,_,by rw [z1];exact jy h0 h1 hs hxt he hc2 (by simp) (fun a ha=>by cases ha) (fun _=>rfl),hmk.1,Lets.trans (Lets.trans hk.2 hk2.2 (fun g hg=>by simpa [St.upd] using hg)) hmk.2 (fun g hg=>by simpa [St.upd] using hg),by simp [dK,Gh.nil]⟩
   ·have akI:m*ie.size+new.length*ie.size≤(gh g).cap*ie.size:=by rw [←Nat.add_mul];exact Nat.mul_le_mul_right _ (Nat.le_trans qm hbc.2)
    have hbz:tK*ie.size≤(gh g).cap*ie.size:=Nat.mul_le_mul_right _ hbc.2
    obtain ⟨b0,o0,sp0⟩:=ad
    simp only at z2 z3 z4 z7 z8;subst z2
    obtain ⟨w',c',s1,s2,s3,s4,s5,s6,s7,s8⟩:=jq (Pg:=Pg) b0 (o0+m*ie.size) e0 c2 0 w c z3 ahE (by omega)
    have vK:c'.size=c.size:=by
     have:=congrArg List.length s3
     rw [bU (by simp;omega)] at this;simpa using this
    let G:Gh:=⟨some ⟨b0,o0,none⟩,tK,sub⟩
    have hn2:¬ (gh g2).has b0:=fun hb=>ahF (h.inj g g2 b0 hgo abH (Gh.iV z1) hb)
    have hget :∀q:Nat,c'[q]?=(aF c.toList (o0+m*ie.size) c2)[q]?:=fun q=>by rw [←Array.getElem?_toList,s3,Nat.add_zero]
    have hga:=h.gather (fun g'=>g'∈(some g:Option Nat).toList++[g2]) hd (a||a2) (i||i2) ie.size cols (l.take m++new) G (st.upd ((d,.deep (a||a2) (i||i2) ie.size cols (l.take m++new) none)::kills ((some g:Option Nat).toList++[g2])) [d]) w' rfl (by simp [St.upd,lookup_cons])
     (ahC _) (ahD _) (fun g hg=>by simp [St.upd,hg]) (by simp [St.upd]) (ad:=⟨b0,o0,none⟩) (c:=c') (ty:=e0) rfl rfl s2 (by rw [vK];simp only [G];omega) ⟨by rw [hlen];exact qm,by simp only [G];have:=z5.2;omega⟩ (fun x hx=>by
      rcases List.mem_append.1 hx with hx | hx
      ·exact z6 x (List.mem_of_mem_take hx)
      ·exact hr2 x hx) (by
      show sub b0=none
      cases hx:(gh g2).sub b0 with
      |some p=>exact (hn2 (.inr (by rw [hx];rfl))).elim
      |none=>simp only [sub,hx,xG];exact z7) (fun b hb=>by
      obtain ⟨g',q1,q2,q3⟩:=hsub b hb
      exact ⟨⟨g',q1,q2,.inr q3⟩,Yi g' q1 b q3⟩) (.inl ⟨g,by simp,hgo,Gh.iV z1⟩) (fun b _ hne=>s4 b hne) (by omega) s6 s7 s8
     (fun g' i1 hg' e1 hi=>by obtain ⟨_,_,a0,i0,l0,hq,hi0⟩:=hbS g' hg';rw [hq] at e1;cases e1;exact hi0 hi) (fun g' hg' _=>by obtain ⟨_,_,a0,i0,l0,hq,_⟩:=hbS g' hg';exact ⟨i0,by rw [hq];rfl⟩)
     (fun n x hx j y hy=>by
      rw [List.getElem?_append] at hx
      split at hx
      ·rename_i hn
       have hnm:n<m:=by simp at hn;omega
       rw [List.getElem?_take,if_pos hnm] at hx
       obtain ⟨v,hv,Ya⟩:=z8 n x hx j y hy
       have hj:j<ie.size:=by have:=(List.getElem?_eq_some_iff.1 hy).1;have:=z6 x (List.mem_of_getElem? hx);omega
       have:(n+1)*ie.size≤m*ie.size:=Nat.mul_le_mul_right _ hnm
       rw [Nat.add_mul,Nat.one_mul] at this
       exact ⟨v,by rw [hget,cu (by simp;omega),if_neg (by show ¬ (_∧_);simp only;omega)];simpa using hv,ahB G rfl g rfl n j y v Ya⟩
      ·rename_i hn
       have hlm:(l.take m).length=m:=by simp;omega
       rw [hlm] at hx hn
       obtain ⟨u,hu,hur⟩:=hcell2 _ x (by have:=(List.getElem?_eq_some_iff.1 hx).1;omega) hx j y hy
       have QX:=(List.getElem?_eq_some_iff.1 hu).1
       have hnm:n*ie.size=m*ie.size+(n-m)*ie.size:=by rw [←Nat.add_mul];congr 1;omega
       refine ⟨u,?_,?_⟩
       ·have e1:o0+n*ie.size+j-(o0+m*ie.size)=(n-m)*ie.size+j:=by omega
        rw [hget,cu (by simp;omega),if_pos (by simp only;omega),e1];exact hu
       ·have:=ahA G rfl (n-m) j y u hur
        have e2:n-m+m=n:=by omega
        rw [e2] at this;exact this)
    refine ⟨_,w',_,jy h0 h1 hs hxt he hc2 qm (fun a ha => ?_) (fun hn=>by rw [z1] at hn;cases hn),hga.1,hga.2,by rw [hlen];simp [dK,G,z1]⟩
    rw [z1] at ha;cases ha
    rw [Addr.fO]
    simpa using s1
 ·have hd1:=h.drew (w.drawn+1)
  have hl1:Lets E st st gh gh w { w with drawn:=w.drawn+1 }:=Rel.BD _
  have akO:kU E st gh { w with drawn:=w.drawn+1 } a2 i2 ie.size cols new none (gh g2):=by have:=hd1.objs g2;rw [ho2] at this;exact this
  obtain ⟨c2,hc2,hl2,ahE,hr2,hcell2⟩:=yO (Pg:=Pg) akO new.length (Nat.le_refl _)
  have hbase :∃c1:List Value,(Builtin.firstCells ie.size m (.slice bad m tK)).run Pg { w with drawn:=w.drawn+1 }=.ok c1.toArray { w with drawn:=w.drawn+1 }∧c1.length=m*ie.size∧(∀x∈old,x.length=ie.size)∧
    ∀(n:Nat) x,old[n]?=some x→∀(j:Nat) y,x[j]?=some y→∃u,c1[n*ie.size+j]?=some u∧∃g,base=some g∧gq E st gh { w with drawn:=w.drawn+1 } a i (gh g) cols none n j y u:=by
   rcases hb with ⟨rfl,rfl,rfl,rfl,rfl⟩ | ⟨g,l,rfl,hog,rfl,hbc,hm,rfl,ahF⟩
   ·exact ⟨[],by simp [Builtin.firstCells],by simp,by simp,by simp⟩
   ·have hD:kU E st gh { w with drawn:=w.drawn+1 } a i ie.size cols l none (gh g):=by have:=hd1.objs g;rw [hog] at this;exact this
    obtain ⟨c1,k1,k2,k3,k4,k5⟩:=yO (Pg:=Pg) hD m hm
    rw [vM _ _ _ _ _ tK] at k1
    refine ⟨c1,k1,k2,fun x hx=>k4 x (List.mem_of_mem_take hx),fun n x hx j y hy => ?_⟩
    rw [List.getElem?_take] at hx
    split at hx
    ·rename_i hn
     obtain ⟨u,q1,q2⟩:=k5 n x hn hx j y hy
     exact ⟨u,q1,g,rfl,q2⟩
    ·cases hx
  obtain ⟨c1,hc1,Yc,hr1,hcell1⟩:=hbase
  have hback:Lets E st st gh gh { w with drawn:=w.drawn+1 } w:=⟨fun a i b hb=>⟨hb,rfl⟩,fun g _=>.inr ⟨⟨rfl,rfl⟩,O.dJ _⟩⟩
  obtain ⟨rest,newCap,k1,k2,k3⟩:=oP (ty:=ty) h0 h1 hs hxt he hc2 hc1 qm hbb hb0
  let G:Gh:=⟨some ⟨w.heap.size,0,none⟩,newCap,sub⟩
  have hga:=h.gather (fun g'=>g'∈base.toList++[g2]) hd (a||a2) (i||i2) ie.size cols (old++new) G (st.upd ((d,.deep (a||a2) (i||i2) ie.size cols (old++new) none)::kills (base.toList++[g2])) [d])
   { w with drawn:=w.drawn+1,heap:=w.heap.push (.cells (c1.toArray++c2.toArray++rest) e) } rfl (by simp [St.upd,lookup_cons])
   (ahC _) (ahD _) (fun g hg=>by simp [St.upd,hg]) (by simp [St.upd]) (ad:=⟨w.heap.size,0,none⟩) (c:=c1.toArray++c2.toArray++rest) (ty:=e) rfl rfl (by simp) (by
    simp only [Array.size_append,List.size_toArray,Yc,hl2,k2,G]
    rw [←Nat.add_mul,←Nat.add_mul,Nat.zero_add];exact Nat.mul_le_mul_right _ (by omega)) ⟨by rw [hlen];exact k1.1,k1.2⟩ (fun x hx=>by
    rcases List.mem_append.1 hx with hx | hx
    ·exact hr1 x hx
    ·exact hr2 x hx) (by
    show sub w.heap.size=none
    cases hx:sub w.heap.size with
    |none=>rfl
    |some p=>
     obtain ⟨g',q1,q2,q3⟩:=hsub w.heap.size (by rw [hx];rfl)
     have:=(h.wr g' _ q2 (.inr q3)).2
     omega) (fun b hb=>by
    obtain ⟨g',q1,q2,q3⟩:=hsub b hb
    exact ⟨⟨g',q1,q2,.inr q3⟩,Yi g' q1 b q3⟩) (.inr ⟨Nat.le_refl _,by simp⟩) (fun b hb _=>sW w _ b hb) (by simp) rfl rfl rfl
   (fun g' i1 hg' e1 hi=>by obtain ⟨_,_,a0,i0,l0,hq,hi0⟩:=hbS g' hg';rw [hq] at e1;cases e1;exact hi0 hi) (fun g' hg' _=>by obtain ⟨_,_,a0,i0,l0,hq,_⟩:=hbS g' hg';exact ⟨i0,by rw [hq];rfl⟩)
   (fun n x hx j y hy=>by
    rw [List.getElem?_append] at hx
    split at hx
    ·rename_i hn
     obtain ⟨u,q1,g,q2,q3⟩:=hcell1 n x hx j y hy
     have hlt:=(List.getElem?_eq_some_iff.1 q1).1
     refine ⟨u,?_,ahB G rfl g q2 n j y u (hback.X5 (fun _ _=>rfl) (fun g hg=>by cases hg) q3)⟩
     rw [Nat.zero_add,Array.getElem?_append_left (by simp;omega),Array.getElem?_append_left (by simpa using hlt)]
     simpa using q1
    ·rename_i hn
     rw [hol] at hx hn
     obtain ⟨u,hu,hur⟩:=hcell2 _ x (by have:=(List.getElem?_eq_some_iff.1 hx).1;omega) hx j y hy
     have QX:=(List.getElem?_eq_some_iff.1 hu).1
     have hnm:n*ie.size=m*ie.size+(n-m)*ie.size:=by rw [←Nat.add_mul];congr 1;omega
     refine ⟨u,?_,?_⟩
     ·rw [Nat.zero_add,Array.getElem?_append_left (by simp;omega),Array.getElem?_append_right (by simp;omega)]
      simp only [List.size_toArray,List.getElem?_toArray]
      have e1:n*ie.size+j-c1.length=(n-m)*ie.size+j:=by omega
      rw [e1];exact hu
     ·have:=ahA G rfl (n-m) j y u (hback.X5 (fun _ _=>rfl) (fun g hg=>by cases hg) hur)
      have e2:n-m+m=n:=by omega
      rw [e2] at this;exact this)
  exact ⟨_,_,_,k3,hga.1,hga.2,by rw [hlen];simp [dK,G]⟩
theorem lg {o o':Nat→O} {g:Nat} (h:Agree o o' g):iM o g=iM o' g:=by
 obtain ⟨h1,h2⟩:=h
 unfold iM
 rw [←h1]
 cases ho:o g with
 |deep a i sz cols l hole=>
  rcases hole with _ | ⟨n,c,d⟩
  ·rfl
  ·simp only
   rw [h2 d (by rw [ho];simp [O.hn,bJ])]
 |_=>rfl
theorem vO (htt:fM Pg tt) (h:Rel E st gh val w) {o:Oper} {ρ:Operand→Value} {s x:Operand} {ts:Array TypeId} (ho:o.op=.call { callee:=.builtin .append,args:=#[s,x],argTypes:=ts }) {d g2:Nat} (hd:st.used d=false)
  {sT xT e e':TypeId} {ie:TI} (h0:ts[0]?=some sT) (h1:ts[1]?=some xT) (hs:Pg.underlying sT=some (.slice e)) (hxt:Pg.underlying xT=some (.slice e')) (he:nS Pg e ie) (hb0:ie.bytes≠0)
  {a i a2 i2:Bool} {sz:Nat} {cols:List (Nat×Nat)} {old new:List (List P)} {base:Option Nat} {bad:Option Addr} {tK m:Nat} (hsz:sz=ie.size)
  {st1:St} {jX:Nat→Gh} (ks:List Nat) (h1':Rel E st1 jX val w) (l1:Lets E st st1 gh jX w w) (e1 :∀x,(jX x).ad=(gh x).ad∧(jX x).cap=(gh x).cap) (s1:st1.s=st.s) (u1 :∀x,st1.used x=st.used x)
  (hb:(base=none∧bad=none∧tK=0∧m=0∧old=[]∧ks=[])∨∃g l,base=some g∧st1.o g=.deep a i sz cols l none∧bad=(gh g).ad∧(m≤tK∧tK≤(gh g).cap)∧m≤l.length∧old=l.take m∧ks=g::(st.o g).hn)
  (ok1 :∀x∈ks,(∀g,base=some g→x≠g)→st1.o x=.none) (oo1 :∀x,x∉ks→st1.o x=st.o x) (hnd:(ks++g2::(st.o g2).hn).Nodup)
  (h2:iM st.o g2=some (a2,i2,sz,cols,new)) (hvs:ρ s=.slice bad m tK) (Yd:ρ x=.slice (gh g2).ad new.length (gh g2).cap) (hbb:(m+new.length)*ie.bytes≤140737488355328) :
  ∃v w' aT,Does Pg (execOp ρ o) w v w'∧Rel E (st.upd ((d,.deep (a||a2) (i||i2) sz cols (old++new) none)::kills (ks++g2::(st.o g2).hn)) [d]) aT val w'∧
   Lets E st (st.upd ((d,.deep (a||a2) (i||i2) sz cols (old++new) none)::kills (ks++g2::(st.o g2).hn)) [d]) gh aT w w'∧
   bI E (st.upd ((d,.deep (a||a2) (i||i2) sz cols (old++new) none)::kills (ks++g2::(st.o g2).hn)) [d]) aT w' (.v (.one (.own d))) v∧
   ∀g∈(S.v (.one (.own d))).names,(st.upd ((d,.deep (a||a2) (i||i2) sz cols (old++new) none)::kills (ks++g2::(st.o g2).hn)) [d]).used g=true:=by
 have hdis :∀x∈ks,x∉g2::(st.o g2).hn:=fun x hx hx'=>by
  have:=(List.nodup_append.1 hnd).2.2 x hx x hx'
  exact this rfl
 have hag:Agree st.o st1.o g2:=⟨(oo1 g2 fun hm=>hdis g2 hm (by simp)).symm,fun d' hd'=>(oo1 d' fun hm=>hdis d' hm (by simp [hd'])).symm⟩
 have h2':iM st1.o g2=some (a2,i2,sz,cols,new):=by rw [←lg hag];exact h2
 obtain ⟨st2,vJ,r2,l2,e2,s2,u2,o2,ok2,oo2⟩:=h1'.home h2'
 rw [←hag.1] at ok2 oo2
 have hb2:(base=none∧bad=none∧tK=0∧m=0∧old=[])∨∃g l,base=some g∧st2.o g=.deep a i sz cols l none∧bad=(vJ g).ad∧(m≤tK∧tK≤(vJ g).cap)∧m≤l.length∧old=l.take m∧g≠g2:=by
  rcases hb with ⟨q1,q2,q3,q4,q5,_⟩ | ⟨g,l,q1,q2,q3,q4,q5,q6,q7⟩
  ·exact .inl ⟨q1,q2,q3,q4,q5⟩
  ·have hgk:=hdis g (by rw [q7];simp)
   have hg2:g≠g2:=fun e=>hgk (by rw [e];simp)
   refine .inr ⟨g,l,q1,?_,by rw [(e2 g).1,(e1 g).1];exact q3,by rw [(e2 g).2,(e1 g).2];exact q4,q5,q6,hg2⟩
   rw [oo2 g hg2 fun hm=>hgk (by simp [hm])];exact q2
 obtain ⟨v,w',aT,k1,k2,k3,k4⟩:=Oi (d:=d) (ty:=o.type) r2 (by rw [u2,u1];exact hd) hb2 o2 h0 h1 hs hxt he hsz hbb hb0
 have hst:st2.upd ((d,.deep (a||a2) (i||i2) sz cols (old++new) none)::kills (base.toList++[g2])) [d]=st.upd ((d,.deep (a||a2) (i||i2) sz cols (old++new) none)::kills (ks++g2::(st.o g2).hn)) [d]:=by
  refine St.BG (s2.trans s1) (fun z => ?_) (fun z=>by simp [St.upd,u2,u1])
  simp only [St.upd,lookup_cons,fJ]
  by_cases z1:z=d
  ·simp only [if_pos z1]
  ·simp only [if_neg z1]
   by_cases z2:z∈base.toList++[g2]
   ·have:z∈ks++g2::(st.o g2).hn:=by
     rcases List.mem_append.1 z2 with z2 | z2
     ·rcases hb with ⟨q1,_⟩ | ⟨g,l,q1,_,_,_,_,_,q7⟩
      ·rw [q1] at z2;simp at z2
      ·rw [q1] at z2;simp at z2;subst z2;rw [q7];simp
     ·simp at z2;subst z2;simp
    simp only [if_pos z2,if_pos this]
   ·by_cases z3:z∈ks++g2::(st.o g2).hn
    ·simp only [if_neg z2,if_pos z3]
     have hzg:z≠g2:=fun e=>z2 (by simp [e])
     by_cases z4:z∈(st.o g2).hn
     ·exact (ok2 z z4).1
     ·rw [oo2 z hzg z4]
      rcases List.mem_append.1 z3 with z5 | z5
      ·exact ok1 z z5 fun g hg e=>z2 (by rw [hg,e];simp)
      ·rcases List.mem_cons.1 z5 with z5 | z5
       ·exact absurd z5 hzg
       ·exact absurd z5 z4
    ·simp only [if_neg z2,if_neg z3]
     simp only [List.mem_append,List.mem_cons,not_or] at z3
     rw [oo2 z z3.2.1 z3.2.2,oo1 z z3.1]
 rw [hst] at k2 k3
 have hod:(st.upd ((d,.deep (a||a2) (i||i2) sz cols (old++new) none)::kills (ks++g2::(st.o g2).hn)) [d]).o d=.deep (a||a2) (i||i2) sz cols (old++new) none:=by simp [St.upd,lookup_cons]
 refine ⟨v,w',aT,.inl (ig ho ?_),k2,Lets.trans (Lets.trans l1 l2 (fun g hg=>by rw [u1];exact hg)) k3 (fun g hg=>by rw [u2,u1];exact hg),bI.FH (.own d v (by rw [k4];rfl) fun sz1 len1 ho1 => ?_),fun g hg => ?_⟩
 ·rw [(e2 g2).1,(e1 g2).1,(e2 g2).2,(e1 g2).2] at k1
  simp [builtin,hvs,Yd,k1]
 ·rw [hod] at ho1
  simp only [O.dim,Option.some.injEq,Prod.mk.injEq] at ho1
  obtain ⟨_,rfl⟩:=ho1;exact k4
 ·rw [bQ] at hg
  simp only [W.names,List.mem_singleton] at hg
  subst hg;simp [St.upd]
theorem Jc {dc:List (Nat×Nat)} (htt:fM Pg tt) (args:Array Operand) (ts:Array TypeId):oQ Pg tt dc (.call { callee:=.builtin .append,args:=args,argTypes:=ts }):=by
 intro E st gh val w ρ F o d r ho h hF hFn hk hp hd
 simp only [bY] at hk
 split at hk
 ·rename_i s x sT xT tl ha hts
  obtain rfl:=sZ ha
  have h0:ts[0]?=some sT:=by rw [←Array.getElem?_toList,hts];rfl
  have h1:ts[1]?=some xT:=by rw [←Array.getElem?_toList,hts];rfl
  split at hk
  ·rename_i e _ _ _ e' _ _ _ s' g2 hsT hxT hs hx
   have rs:=hF s;rw [hs] at rs
   have rx:=hF x;rw [hx] at rx
   have huS:=(htt _ _ hsT).kind
   have huX:=(htt _ _ hxT).kind
   simp only [mQ] at huS huX
   split at hk
   ·rename_i ie ask a i old ks src a2 i2 sz cols new he hbD hh2
    split at hk
    ·rename_i hc
     obtain ⟨hb0,hsz,hsrc,hnd⟩:=hc
     have hnd:=qp hnd
     simp only [Option.some.injEq] at hk;subst hk
     obtain ⟨hask,hbb⟩:=hp
     have EW:st.used d=false:=hd d (by simp)
     have Yd:ρ x=.slice (gh g2).ad new.length (gh g2).cap:=by cases rx.bH with | own _ _ _ hb=>exact hb _ _ (mV hh2)
     have refl:Lets E st st gh gh w w:=⟨fun a i b hb=>⟨hb,rfl⟩,fun g _=>.inr ⟨⟨rfl,rfl⟩,O.dJ _⟩⟩
     cases s' with
     |bD=>
      simp only [baseD,Option.some.injEq,Prod.mk.injEq] at hbD
      obtain ⟨rfl,rfl,rfl,rfl,rfl,rfl⟩:=hbD
      have hv:ρ s=.slice none 0 0:=by generalize hz:ρ s=z at rs;cases rs.bH;rfl
      exact vO htt h ho EW h0 h1 huS huX (htt _ _ he) hb0 (base:=none) (bad:=none) (tK:=0) (m:=0) hsz [] h refl (fun _=>⟨rfl,rfl⟩) rfl (fun _=>rfl) (.inl ⟨rfl,rfl,rfl,rfl,rfl,rfl⟩) (fun x hx=>by cases hx) (fun _ _=>rfl) hnd hh2 hv Yd (by simpa using hbb)
     |own g=>
      simp only [baseD] at hbD
      split at hbD
      ·rename_i a0 i0 yQ jE l0 hh
       simp only [Option.some.injEq,Prod.mk.injEq] at hbD
       obtain ⟨rfl,rfl,rfl,rfl,rfl,rfl⟩:=hbD
       have hsc:yQ=sz∧jE=cols:=by rcases hsrc with e | e;cases e;simpa using e
       obtain ⟨rfl,rfl⟩:=hsc
       obtain ⟨st1,jX,r1,l1,e1,s1,u1,o1,ok1,oo1⟩:=h.home hh
       have hv:ρ s=.slice (gh g).ad l0.length (gh g).cap:=by cases rs.bH with | own _ _ _ hb=>exact hb _ _ (mV hh)
       exact vO htt h ho EW h0 h1 huS huX (htt _ _ he) hb0 (base:=some g) hsz (g::(st.o g).hn) r1 l1 e1 s1 u1 (.inr ⟨g,l0,rfl,o1,rfl,⟨(tq (h.objs g) (mV hh)).1,Nat.le_refl _⟩,Nat.le_refl _,by rw [List.take_length],rfl⟩)
        (fun x hx hxg=>by
         rcases List.mem_cons.1 hx with e | e
         ·exact absurd e (hxg g rfl)
         ·exact (ok1 x e).1)
        (fun x hx=>by simp only [List.mem_cons,not_or] at hx;exact oo1 x hx.1 hx.2) hnd hh2 hv Yd hbb
      ·cases hbD
     |vw g lo hi=>
      simp only [baseD] at hbD
      split at hbD
      ·rename_i a0 i0 yQ jE l0 hh
       simp only [Option.some.injEq,Prod.mk.injEq] at hbD
       obtain ⟨rfl,rfl,rfl,rfl,rfl,rfl⟩:=hbD
       have hsc:yQ=sz∧jE=cols:=by rcases hsrc with e | e;cases e;simpa using e
       obtain ⟨rfl,rfl⟩:=hsc
       obtain ⟨st1,jX,r1,l1,e1,s1,u1,o1,ok1,oo1⟩:=h.home hh
       obtain ⟨n,m,vc,h4,rfl,h5,h6,hvc,hv⟩:=(by cases rs.bH with | vw _ _ _ _ _ hb=>exact hb _ _ (mV hh) :∃n m c:Nat,lo=.int .i64 n∧hi=.int .i64 m∧n≤m∧m≤l0.length∧(m-n≤c∧n+c≤(gh g).cap)∧
        ρ s=.slice (if (gh g).cap=n then (gh g).ad else (gh g).ad.map (·.add (n*yQ))) (m-n) c)
       have hn0:n=0:=by rw [hask] at h4;simp [kJ] at h4;omega
       subst hn0
       have hadd:(gh g).ad.map (·.add (0*yQ))=(gh g).ad:=by
        cases (gh g).ad with
        |none=>rfl
        |some a=>simp [Addr.add]
       rw [hadd] at hv
       simp only [ite_self,Nat.sub_zero] at hv
       have em:(P.int .i64 (m:Int)).nat=m:=by simp [P.nat,P.num]
       rw [em] at hbb ⊢
       have akP:(m+new.length)*ie.bytes≤140737488355328:=by rw [List.length_take,Nat.min_eq_left h6] at hbb;exact hbb
       exact vO htt h ho EW h0 h1 huS huX (htt _ _ he) hb0 (base:=some g) hsz (g::(st.o g).hn) r1 l1 e1 s1 u1 (.inr ⟨g,l0,rfl,o1,rfl,by omega,h6,rfl,rfl⟩)
        (fun x hx hxg=>by
         rcases List.mem_cons.1 hx with e | e
         ·exact absurd e (hxg g rfl)
         ·exact (ok1 x e).1)
        (fun x hx=>by simp only [List.mem_cons,not_or] at hx;exact oo1 x hx.1 hx.2) hnd hh2 hv Yd akP
      ·cases hbD
     |_=>simp [baseD] at hbD
    ·cases hk
   ·cases hk
  ·cases hk
 ·cases hk
theorem LC {dc:List (Nat×Nat)} (htt:fM Pg tt) (t:TypeId) (x:Operand) (lo hi mx:Option Operand):oQ Pg tt dc (.slice t x lo hi mx):=by
 intro E st gh val w ρ F o d r ho h hF hFn hk hp hd
 cases lo with
 |some _=>simp [bY] at hk
 |none=>
 cases mx with
 |some _=>simp [bY] at hk
 |none=>
 simp only [bY] at hk
 split at hk
 ·rename_i e _ _ _ g ht hx
  have rx:=hF x;rw [hx] at rx
  have hu:=(htt _ _ ht).kind
  simp only [mQ] at hu
  split at hk
  ·rename_i ie a i sz l he hog
   split at hk
   ·rename_i hsz
    split at hk
    ·rename_i hi' hhi
     simp only [Option.some.injEq] at hk;subst hk
     obtain ⟨k,hk,hkl⟩:=hp
     have hd:=hd d (by simp)
     have Og:(st.o g).dim=some (sz,l.length):=by rw [hog];rfl
     have hv:=(by cases rx.bH with | own _ _ _ hb=>exact hb _ _ Og:ρ x=.slice (gh g).ad l.length (gh g).cap)
     have hob:=h.objs g
     rw [hog] at hob
     have hcap:l.length≤(gh g).cap:=K_ hob
     have yN:(hi.map ρ=none∧k=l.length)∨∃kd,hi.map ρ=some (.int kd k):=(gy hF hhi hk).imp (fun ⟨a,b⟩=>⟨a,by simp [kJ] at b;omega⟩) id
     have hrun:(execOp ρ o).run Pg w=.ok (.value (.slice (gh g).ad k (gh g).cap)) w:=by
      have hs:=rM (Pg:=Pg) (w:=w) (len:=l.length) (lo:=(none:Option Value)) (hi:=hi.map ρ) (m:=0) (k:=k) (cap:=(gh g).cap) (.inl ⟨rfl,rfl⟩) yN (Nat.zero_le _) (by omega)
      have key:(execOp ρ o).run Pg w=.ok (.value (.slice (if (gh g).cap=0 then (gh g).ad else (gh g).ad.map (·.add (0*ie.size))) (k-0) ((gh g).cap-0))) w:=by
       unfold execOp
       rw [ho]
       refine eY ?_
       simp only [Option.map_none]
       simp [Instr.sliceAt,dh hu,Instr.slice,hv,hs,b_ (htt _ _ he)]
      rw [key]
      congr 3
      rcases hob with ⟨q1,q2,_⟩ | ⟨ad,c,e',q1,q2,_⟩
      ·rw [q1,q2];rfl
      ·rw [q1]
       obtain ⟨b0,o0,sp0⟩:=ad
       simp only at q2;subst q2
       split
       ·rfl
       ·rw [Option.map_some,Addr.fO];simp
     have hgo:(st.o g).owned=true:=by rw [hog];rfl
     have hgu:st.used g=true:=h.ul g (O.oM hgo)
     have hgd:g≠d:=by intro e;subst e;rw [hd] at hgu;cases hgu
     have e0:(P.list (P.sl sz (l.take hi'.nat)))=l.take k:=by rw [hk];simp [P.list,P.nat,P.num]
     have akQ :∀st',st'=st.upd [(d,.arr false a i sz (l.take k)),(g,.none)] [d]→
       ∃aT,Rel E st' aT val w∧Lets E st st' gh aT w w∧bI E st' aT w (.v (.one (.own d))) (.slice (gh g).ad k (gh g).cap):=by
      intro st' hst
      have hod:st'.o d=.arr false a i sz (l.take k):=by rw [hst];simp [St.upd,List.lookup]
      have hm:=h.merge (fun g'=>g'=g) d (.arr false a i sz (l.take k)) (gh g) st' w (by rw [hst];rfl) hod (fun g' e1 e2=>by
        rw [hst,e1]
        have:(g==d)=false:=by simpa using hgd
        simp [St.upd,List.lookup,this]) (fun g' e1 e2=>by
        rw [hst]
        have q1:(g'==d)=false:=by simpa using e2
        have q2:(g'==g)=false:=by simpa using e1
        simp [St.upd,List.lookup,q1,q2]) (fun g' hg'=>by rw [hst];simp [St.upd,hg']) (by rw [hst];simp [St.upd]) (fun hu=>by rw [hd] at hu;cases hu)
       (fun b hb=>.inl ⟨g,.inl rfl,hgo,hb⟩) (fun b _ _=>rfl) (Nat.le_refl _) rfl rfl rfl
       (fun i1 b e1 hb hwr=>by cases e1;exact h.wi g i b (by rw [hog];rfl) hb hwr) (fun _ _=>h.ns g hgo (by rw [hog];rfl)) (fun hl => ?_) (fun g' hg'=>by simp [O.names] at hg')
      ·refine ⟨_,hm.1,hm.2,bI.FH (.own d _ rfl fun sz' len' hd' => ?_)⟩
       rw [hod] at hd'
       obtain ⟨rfl,rfl⟩:=O.jh hd'
       have e1:dK gh d (gh g) d=gh g:=by simp [dK]
       rw [e1,List.length_take,Nat.min_eq_left hkl]
      ·show fV E st' _ w a i sz (l.take k) (gh g)
       have hold:fV E st gh w a i sz l (gh g):=hob
       rcases hold with ⟨q1,q2,q3⟩ | ⟨ad,c,e',q1,q2,q3,q4,q5,q6,q7⟩
       ·exact .inl ⟨q1,q2,by rw [q3];simp⟩
       ·refine .inr ⟨ad,c,e',q1,q2,q3,q4,⟨by rw [List.length_take];omega,q5.2⟩,fun x hx=>q6 x (List.mem_of_mem_take hx),fun n x hx j y hy => ?_⟩
        rw [List.getElem?_take] at hx
        split at hx
        ·obtain ⟨v,hv,hr⟩:=q7 n x hx j y hy
         exact ⟨v,hv,hl.jB hr⟩
        ·cases hx
     show∃v w' aT,Does Pg (execOp ρ o) w v w'∧Rel E (st.upd [(d,.arr false a i sz (P.list (P.sl sz (l.take hi'.nat)))),(g,.none)] [d]) aT val w'∧_
     rw [e0]
     obtain ⟨aT,m1,m2,m3⟩:=akQ _ rfl
     refine ⟨_,w,aT,.inl hrun,m1,?_,?_,fun g' hg' => ?_⟩
     ·show Lets E st (st.upd [(d,.arr false a i sz (P.list (P.sl sz (l.take hi'.nat)))),(g,.none)] [d]) gh aT w w
      rw [e0];exact m2
     ·show bI E (st.upd [(d,.arr false a i sz (P.list (P.sl sz (l.take hi'.nat)))),(g,.none)] [d]) aT w _ _
      rw [e0];exact m3
     ·have hg':g'∈(S.v (.one (.own d))).names:=hg'
      have:g'=d:=by simpa [S.names,V.names,W.names] using hg'
      subst this
      simp [St.upd]
    ·cases hk
   ·cases hk
  ·cases hk
 ·cases hk
theorem Jd {dc:List (Nat×Nat)} (htt:fM Pg tt) (op:Op):oQ Pg tt dc op:=by
 cases op with
 |load t x=>exact Oh htt t x
 |store t x y=>exact Lu htt t x y
 |buildSlice t n ps=>exact Aa htt t n ps
 |makeSlice t n c=>exact BH htt t n c
 |slice t x lo hi mx=>exact LC htt t x lo hi mx
 |call c=>
  obtain ⟨callee,args,ts⟩:=c
  cases callee with
  |builtin b=>
   cases b with
   |append=>exact Jc htt args ts
   |_=>intro E st gh val w ρ F o d r ho h hF hFn hk;simp [bY] at hk
  |_=>intro E st gh val w ρ F o d r ho h hF hFn hk;simp [bY] at hk
 |_=>intro E st gh val w ρ F o d r ho h hF hFn hk;simp [bY] at hk
end
end Go.Fw

namespace Go.Fw
set_option linter.unusedSectionVars false
variable [dw]
set_option linter.unusedVariables false
def P.flat:P→Bool
 |.sl _ _=>false
 |.seq _=>false
 |_=>true
theorem bn.flat {w:World} {ok ok':Nat→Prop} {x:P} {v:Value} (hx:x.flat=true) (r:bn w ok x v):bn w ok' x v:=by
 cases r with
 |int k n=>exact .int k n
 |bool b=>exact .bool b
 |str s=>exact .str s
 |opq v h=>exact .opq v h
 |_=>cases hx
inductive Ww (C:Bool→Bool→Bool→Bool→Prop) (m:Nat→Option Nat) (nil:Nat→Prop):W→W→Prop where
 |no (x:W):Ww C m nil x .no
 |p {a i a' i':Bool} (x:P) (hc:C a i a' i'):Ww C m nil (.p a i x) (.p a' i' x)
 |flat {a i a' i':Bool} (x:P) (hx:x.flat=true):Ww C m nil (.p a i x) (.p a' i' x)
 |bD:Ww C m nil .bD .bD
 |afj (a i:Bool) (sz:Nat):Ww C m nil .bD (.p a i (.sl sz []))
 |ahG {g':Nat} (h:m g'=none) (hn:nil g'):Ww C m nil .bD (.own g')
 |own {g g':Nat} (h:m g'=some g):Ww C m nil (.own g) (.own g')
 |vw {g g':Nat} (lo hi:P) (h:m g'=some g):Ww C m nil (.vw g lo hi) (.vw g' lo hi)
 |box {g g' off:Nat} (h:m g'=some g):Ww C m nil (.box g off) (.box g' off)
 |ep {g g':Nat} (n:P) (off:Nat) (h:m g'=some g):Ww C m nil (.ep g n off) (.ep g' n off)
 |lH {g g':Nat} (h:m g'=some g):Ww C m nil (.lH g) (.lH g')
 |sp {a i a' i':Bool} (row:List P) (off:Nat) (hc:C a i a' i'):Ww C m nil (.sp a i row off) (.sp a' i' row off)
 |gd (b:Bool) {x y:W} (h:Ww C m nil x y):Ww C m nil (.gd b x) (.gd b y)
 |clo (f:FuncId) (xs ys:List W) (hl:xs.length=ys.length) (h :∀(j:Nat) x y,xs[j]?=some x→ys[j]?=some y→Ww C m nil x y):Ww C m nil (.clo f xs) (.clo f ys)
inductive Vw (C:Bool→Bool→Bool→Bool→Prop) (m:Nat→Option Nat) (nil:Nat→Prop):V→V→Prop where
 |one {x y:W} (h:Ww C m nil x y):Vw C m nil (.one x) (.one y)
 |agg (xs ys:List W) (hl:xs.length=ys.length) (h :∀(j:Nat) x y,xs[j]?=some x→ys[j]?=some y→Ww C m nil x y):Vw C m nil (.agg xs) (.agg ys)
inductive Sw (C:Bool→Bool→Bool→Bool→Prop) (m:Nat→Option Nat) (nil:Nat→Prop):S→S→Prop where
 |no (x:S):Sw C m nil x .no
 |v {x y:V} (h:Vw C m nil x y):Sw C m nil (.v x) (.v y)
 |kC (xs ys:List V) (hl:xs.length=ys.length) (h :∀(j:Nat) x y,xs[j]?=some x→ys[j]?=some y→Vw C m nil x y):Sw C m nil (.kC xs) (.kC ys)
inductive Ow (C:Bool→Bool→Bool→Bool→Prop) (m:Nat→Option Nat) (nil:Nat→Prop):O→O→Prop where
 |none (x:O):Ow C m nil x .none
 |box (xs ys:List W) (hl:xs.length=ys.length) (h :∀(j:Nat) x y,xs[j]?=some x→ys[j]?=some y→Ww C m nil x y):Ow C m nil (.box xs) (.box ys)
 |arr (fz:Bool) {a i a' i':Bool} (sz:Nat) (l:List (List P)) (hc:C a i a' i'):Ow C m nil (.arr fz a i sz l) (.arr fz a' i' sz l)
 |deep {a i a' i':Bool} (sz:Nat) (cols:List (Nat×Nat)) (l:List (List P)) (hc:C a i a' i'):Ow C m nil (.deep a i sz cols l Option.none) (.deep a' i' sz cols l Option.none)
 |it (s n:P):Ow C m nil (.it s n) (.it s n)
def O.nilA (o:O):Prop:=(∃a i sz,o=.arr false a i sz [])∨∃a i sz cols,o=.deep a i sz cols [] Option.none
theorem Ow.dim {C:Bool→Bool→Bool→Bool→Prop} {m:Nat→Option Nat} {nil:Nat→Prop} {x y:O} (h:Ow C m nil x y) {d:Nat×Nat} (hd:y.dim=some d):x.dim=some d:=by
 cases h with
 |none=>cases hd
 |box=>cases hd
 |arr=>exact hd
 |deep=>exact hd
 |it=>cases hd
theorem Ow.owned {C:Bool→Bool→Bool→Bool→Prop} {m:Nat→Option Nat} {nil:Nat→Prop} {x y:O} (h:Ow C m nil x y) (hy:y.owned=true):x.owned=true∧x.mO=y.mO:=by
 cases h with
 |none=>cases hy
 |box=>exact ⟨rfl,rfl⟩
 |arr=>exact ⟨hy,rfl⟩
 |deep=>exact ⟨rfl,rfl⟩
 |it=>exact ⟨rfl,rfl⟩
theorem Ow.inner {C:Bool→Bool→Bool→Bool→Prop} {m:Nat→Option Nat} {nil:Nat→Prop} {x y:O} (h:Ow C m nil x y) {i:Bool} (hy:y.inner=some i) :∃a' a i',C a' i' a i∧x.inner=some i':=by
 cases h with
 |none=>cases hy
 |box=>cases hy
 |arr fz sz l hc=>
  cases fz with
  |false=>cases hy;exact ⟨_,_,_,hc,rfl⟩
  |true=>cases hy
 |deep sz cols l hc=>cases hy;exact ⟨_,_,_,hc,rfl⟩
 |it=>cases hy
structure Cast (C:Bool→Bool→Bool→Bool→Prop) (m:Nat→Option Nat) (nil:Nat→Prop) (E E':Env) (st st':St) (gh aT:Nat→Gh) (w:World):Prop where
 ok :∀a i a' i' b,C a i a' i'→E.ok st gh w a i b→E'.ok st' aT w a' i' b
 arr :∀g g',m g'=some g→∀sz len,(st'.o g').dim=some (sz,len)→((aT g').ad=(gh g).ad∧(aT g').cap=(gh g).cap)∧(st.o g).dim=some (sz,len)
 box :∀g g',m g'=some g→∀ws,st'.o g'=.box ws→(aT g').ad=(gh g).ad∧∃ws',st.o g=.box ws'
 it :∀g g',m g'=some g→∀s n,st'.o g'=.it s n→(aT g').ad=(gh g).ad∧∃s' n',st.o g=.it s' n'
 nil :∀g',nil g'→m g'=none→∀sz len,(st'.o g').dim=some (sz,len)→len=0∧(aT g').ad=none∧(aT g').cap=0
section
variable {C:Bool→Bool→Bool→Bool→Prop} {E E':Env} {st st':St} {gh aT:Nat→Gh} {w:World} {val:Nat→Value} {m:Nat→Option Nat} {nil:Nat→Prop}
theorem Cast.jB (r:Cast C m nil E E' st st' gh aT w) {a i a' i':Bool} (hc:C a i a' i') {x:P} {v:Value} (h:bn w (E.ok st gh w a i) x v):bn w (E'.ok st' aT w a' i') x v:=
 h.mono fun b hb=>⟨r.ok _ _ _ _ b hc hb,rfl⟩
theorem Cast.yI (r:Cast C m nil E E' st st' gh aT w) {x y:W} (hxy:Ww C m nil x y) {v:Value} (h:dH E st gh w x v):dH E' st' aT w y v:=by
 induction hxy generalizing v with
 |no x=>exact .no v
 |p x hc=>cases h with | p _ _ _ _ h=>exact .p _ _ _ _ (r.jB hc h)
 |flat x hx=>cases h with | p _ _ _ _ h=>exact .p _ _ _ _ (h.flat hx)
 |bD=>cases h;exact .bD
 |afj a i sz=>cases h;exact .p _ _ _ _ (.nil _ _ _)
 |ahG hm hn=>
  cases h
  refine .own _ _ rfl fun sz len ho => ?_
  obtain ⟨h1,h2,h3⟩:=r.nil _ hn hm _ _ ho
  rw [h1,h2,h3]
 |own hm=>
  cases h with | own _ _ hv hx=>
  refine .own _ _ hv fun sz len ho => ?_
  obtain ⟨hg,e⟩:=r.arr _ _ hm _ _ ho
  rw [hg.1,hg.2];exact hx _ _ e
 |vw lo hi hm=>
  cases h with | vw _ _ _ _ hv hx=>
  refine .vw _ _ _ _ hv fun sz len ho => ?_
  obtain ⟨hg,e⟩:=r.arr _ _ hm _ _ ho
  rw [hg.1,hg.2];exact hx _ _ e
 |box hm=>
  cases h with | box _ _ _ hv hx=>
  refine .box _ _ _ hv fun ws ho => ?_
  obtain ⟨hg,ws',e⟩:=r.box _ _ hm _ ho
  rw [hg];exact hx _ e
 |ep n off hm=>
  cases h with | ep _ _ _ _ hv hx=>
  refine .ep _ _ _ _ hv fun sz len ho => ?_
  obtain ⟨hg,e⟩:=r.arr _ _ hm _ _ ho
  rw [hg.1];exact hx _ _ e
 |lH hm=>
  cases h with | lH _ _ hv hx=>
  refine .lH _ _ hv fun s n ho => ?_
  obtain ⟨hg,s',n',e⟩:=r.it _ _ hm _ _ ho
  rw [hg];exact hx _ _ e
 |sp row off hc=>
  cases h with | sp _ _ _ _ b o hb hr=>exact .sp _ _ _ _ b o (fun h0=>r.ok _ _ _ _ b hc (hb h0)) fun j y hj=>let ⟨u,hu,Ob⟩:=hr j y hj;⟨u,hu,r.jB hc Ob⟩
 |gd b hxy ih=>cases h with | gd _ _ _ h=>exact .gd _ _ _ fun hb=>ih (h hb)
 |clo f xs ys hl hxy ih=>
  cases h with | clo _ _ vs hl' h=>
  exact .clo f ys vs (by omega) fun j y v hy hv=>by
   have hlt:j<xs.length:=by have:=(List.getElem?_eq_some_iff.1 hy).1;omega
   exact ih j _ y (List.getElem?_eq_getElem hlt) hy (h j _ v (List.getElem?_eq_getElem hlt) hv)
theorem Cast.VU (r:Cast C m nil E E' st st' gh aT w) {x y:V} (hxy:Vw C m nil x y) {v:Value} (h:pY E st gh w x v):pY E' st' aT w y v:=by
 cases hxy with
 |one hxy=>cases h with | one _ _ h=>exact .one _ _ (r.yI hxy h)
 |agg xs ys hl hxy=>
  cases h with | agg _ cs hl' hv h=>
  exact .agg ys cs (by omega) hv fun j y v hy hv=>by
   have hlt:j<xs.length:=by have:=(List.getElem?_eq_some_iff.1 hy).1;omega
   exact r.yI (hxy j _ y (List.getElem?_eq_getElem hlt) hy) (h j _ v (List.getElem?_eq_getElem hlt) hv)
theorem Cast.abz (r:Cast C m nil E E' st st' gh aT w) {x y:S} (hxy:Sw C m nil x y) {v:Value} (h:bI E st gh w x v):bI E' st' aT w y v:=by
 cases hxy with
 |no x=>exact .no v
 |v hxy=>cases h with | v _ _ h=>exact .v _ _ (r.VU hxy h)
 |kC xs ys hl hxy=>
  cases h with | kC _ vs hl' h=>
  exact .kC ys vs (by omega) fun j y v hy hv=>by
   have hlt:j<xs.length:=by have:=(List.getElem?_eq_some_iff.1 hy).1;omega
   exact r.VU (hxy j _ y (List.getElem?_eq_getElem hlt) hy) (h j _ v (List.getElem?_eq_getElem hlt) hv)
theorem Cast.zO (r:Cast C m nil E E' st st' gh aT w) {x y:O} (hxy:Ow C m nil x y) {G:Gh} (h:kD E st gh w x G):kD E' st' aT w y G:=by
 cases hxy with
 |none x=>trivial
 |box xs ys hl hxy=>
  obtain ⟨ad,c,e,h1,h2,h3,h4,h5⟩:=h
  refine ⟨ad,c,e,h1,h2,h3,by omega,fun j y hy => ?_⟩
  have hlt:j<xs.length:=by have:=(List.getElem?_eq_some_iff.1 hy).1;omega
  obtain ⟨v,hv,ho,hr⟩:=h5 j _ (List.getElem?_eq_getElem hlt)
  exact ⟨v,hv,ho,r.yI (hxy j _ y (List.getElem?_eq_getElem hlt) hy) hr⟩
 |arr fz sz l hc=>
  cases fz with
  |false=>
   rcases h with hO | ⟨ad,c,e,h1,h2,h3,h4,h5,h6,h7⟩
   ·exact .inl hO
   ·exact .inr ⟨ad,c,e,h1,h2,h3,h4,h5,h6,fun n x hx j y hy=>let ⟨v,hv,hr⟩:=h7 n x hx j y hy;⟨v,hv,r.jB hc hr⟩⟩
  |true=>exact r.jB hc h
 |deep sz cols l hc=>
  rcases h with hO | ⟨ad,c,e,h1,h2,h3,h4,h5,h6,h7,h8⟩
  ·exact .inl hO
  ·refine .inr ⟨ad,c,e,h1,h2,h3,h4,h5,h6,h7,fun n x hx j y hy => ?_⟩
   obtain ⟨v,hv,hr⟩:=h8 n x hx j y hy
   refine ⟨v,hv,?_⟩
   unfold gq at *
   cases hcl:cols.lookup j with
   |none=>rw [hcl] at hr;exact r.jB hc hr
   |some sz'=>
    rw [hcl] at hr
    simp only [fE] at *
    obtain ⟨l',ao,k,k1,k2,k3,k4⟩:=hr
    refine ⟨l',ao,k,k1,k2,?_,k4⟩
    rcases k3 with k3 | ⟨ad,c,e,h1,h2,h3,h4,h5,h6,h7⟩
    ·exact .inl k3
    ·exact .inr ⟨ad,c,e,h1,h2,h3,h4,h5,h6,fun n x hx j y hy=>let ⟨v,hv,hr⟩:=h7 n x hx j y hy;⟨v,hv,r.jB hc hr⟩⟩
 |it s n=>exact h
end
def XR (a i a' i':Bool):Prop:=(a=true→a'=true)∧(i=true→i'=true)
structure qR (C:Bool→Bool→Bool→Bool→Prop) (m:Nat→Option Nat) (st st':St):Prop where
 slots :∀t,Sw C m (fun g=>(st'.o g).nilA) (st.s t) (st'.s t)
 objs :∀g' g,m g'=some g→Ow C m (fun g=>(st'.o g).nilA) (st.o g) (st'.o g')
 news :∀g',m g'=none→st'.o g'=.none∨(st'.o g').nilA
 inj :∀g1 g2 g,(st'.o g1).owned=true→(st'.o g2).owned=true→m g1=some g→m g2=some g→g1=g2
 us :∀t,∀g∈(st'.s t).names,st'.used g=true
 uo :∀g,∀g'∈(st'.o g).names,st'.used g'=true
 ul :∀g,st'.o g≠.none→st'.used g=true
section
variable {C:Bool→Bool→Bool→Bool→Prop} {E E':Env} {st st':St} {gh:Nat→Gh} {w:World} {val:Nat→Value} {m:Nat→Option Nat}
def iH (gh:Nat→Gh) (m:Nat→Option Nat):Nat→Gh:=fun g'=>match m g' with
 |some g=>gh g
 |none=>Gh.nil
theorem qR.owned (r:qR C m st st') {g':Nat} (h:(st'.o g').owned=true) {b:Nat} (had:(iH gh m g').has b) :∃g,m g'=some g∧(st.o g).owned=true∧(gh g).has b:=by
 unfold iH at had
 cases hm:m g' with
 |none=>rw [hm] at had;exact (Gh.not_nil had).elim
 |some g=>
  rw [hm] at had
  exact ⟨g,rfl,((r.objs g' g hm).owned h).1,had⟩
theorem qR.cast (r:qR C m st st') (hok :∀a i a' i' b,C a i a' i'→E.ok st gh w a i b→E'.ok st' (iH gh m) w a' i' b) :
  Cast C m (fun g=>(st'.o g).nilA) E E' st st' gh (iH gh m) w:=by
 refine ⟨hok,fun g g' hm sz len ho=>⟨by simp [iH,hm],(r.objs g' g hm).dim ho⟩,fun g g' hm ws ho=>⟨by simp [iH,hm],?_⟩,fun g g' hm s n ho=>⟨by simp [iH,hm],?_⟩,fun g' hn hm sz len ho=>⟨?_,by simp [iH,hm,Gh.nil],by simp [iH,hm,Gh.nil]⟩⟩
 ·have:=r.objs g' g hm
  rw [ho] at this
  generalize st.o g=x at this
  cases this;exact ⟨_,rfl⟩
 ·have:=r.objs g' g hm
  rw [ho] at this
  generalize st.o g=x at this
  cases this;exact ⟨_,_,rfl⟩
 ·rcases hn with ⟨a',i',sz',hn⟩ | ⟨a',i',sz',cols,hn⟩
  ·rw [hn] at ho;cases ho;rfl
  ·rw [hn] at ho;cases ho;rfl
theorem qR.ok (r:qR XR m st st') :∀a i a' i' b,XR a i a' i'→E.ok st gh w a i b→E.ok st' (iH gh m) w a' i' b:=by
 intro a i a' i' b hc h
 have:=Env.nI hc.1 hc.2 h
 refine ⟨this.1,this.2.1,fun g' ho had => ?_⟩
 obtain ⟨g,_,h1,h2⟩:=r.owned ho had
 exact h.2.2 g h1 h2
theorem qR.zO (r:qR C m st st') (c:Cast C m (fun g=>(st'.o g).nilA) E E' st st' gh (iH gh m) w) (h :∀g,kD E st gh w (st.o g) (gh g)) (g':Nat):kD E' st' (iH gh m) w (st'.o g') (iH gh m g'):=by
 cases hm:m g' with
 |none=>
  rcases r.news g' hm with e | ⟨a,i,sz,e⟩ | ⟨a,i,sz,cols,e⟩
  ·rw [e];trivial
  ·rw [e];exact .inl ⟨by simp [iH,hm,Gh.nil],by simp [iH,hm,Gh.nil],rfl⟩
  ·rw [e];exact .inl ⟨by simp [iH,hm,Gh.nil],by simp [iH,hm,Gh.nil],rfl,fun b=>by simp [iH,hm,Gh.nil]⟩
 |some g=>
  have hg:iH gh m g'=gh g:=by simp [iH,hm]
  rw [hg]
  exact c.zO (r.objs g' g hm) (h g)
theorem Rel.Q_ (h:Rel E st gh val w) (r:qR XR m st st'):Rel E st' (iH gh m) val w:=by
 have c:=r.cast (E:=E) (E':=E) (gh:=gh) (w:=w) r.ok
 refine ⟨fun t=>c.abz (r.slots t) (h.slots t),r.zO c h.objs,fun g1 g2 b h1 h2 k1 k2 => ?_,fun g' b ho had => ?_,fun g' i b ho had hw => ?_,fun g' ho hd b => ?_,h.wb,h.frame,h.size,h.os,h.tape,h.output,r.us,r.uo,r.ul⟩
 ·obtain ⟨q1,m1,o1,d1⟩:=r.owned h1 k1
  obtain ⟨q2,m2,o2,d2⟩:=r.owned h2 k2
  have:=h.inj q1 q2 b o1 o2 d1 d2
  subst this
  exact r.inj g1 g2 q1 h1 h2 m1 m2
 ·obtain ⟨g,_,h1,h2⟩:=r.owned ho had
  exact h.wr g b h1 h2
 ·obtain ⟨g,hm,h1,h2⟩:=r.owned (gh:=gh) (g':=g') (O.jL ho) had
  obtain ⟨a',a,i',hc,q⟩:=(r.objs g' g hm).inner ho
  exact hc.2 (h.wi g i' b q h2 hw)
 ·cases hm:m g' with
  |none=>simp [iH,hm,Gh.nil]
  |some g=>
   have hg:iH gh m g'=gh g:=by simp [iH,hm]
   rw [hg]
   obtain ⟨q1,q2⟩:=(r.objs g' g hm).owned ho
   exact h.ns g q1 (by rw [q2];exact hd) b
end
end Go.Fw

namespace Go.Fw
set_option linter.unusedSectionVars false
variable [dw]
set_option linter.unusedVariables false
inductive WS where
 |p (a i:Bool)
 |bD
 |own (g:Nat)
 |box (g off:Nat)
 |fn (f:FuncId) (gs:List Nat)
 |lH (g:Nat)
 |no
 |vw (g:Nat)
 |ep (g off:Nat)
inductive SS where
 |one (x:WS)
 |agg (xs:List WS)
inductive OS where
 |box (ws:List WS)
 |arr (fz a i:Bool) (sz:Nat)
 |it
 |deep (a i:Bool) (sz:Nat) (cols:List (Nat×Nat))
structure Shape where
 slots:List (Nat×SS)
 objs:List (Nat×OS)
abbrev Ren:=List (Nat×Option Nat)
def imp (a b:Bool):Bool:=!a||b
def nodupB:List Nat→Bool
 | []=>true
 |x::xs=>!xs.contains x&&nodupB xs
def qU (m:Ren):List Nat→List W→Bool
 | [],[]=>true
 |g'::gs,.box g off::cs=>decide (m.lookup g'=some (some g))&&(Nat.beq off 0&&qU m gs cs)
 |_,_=>false
def eP:List Nat→List W
 | []=>[]
 |g::gs=>.box g 0::eP gs
def I5 (m:Ren):WS→W→Option (List P)
 |.p a i,.p a' i' x=>if ((imp a' a&&imp i' i)||x.flat)=true then some [x] else none
 |.p _ _,.bD=>some [.sl 0 []]
 |.bD,.bD=>some []
 |.own g',.own g=>if m.lookup g'=some (some g) then some [] else none
 |.own g',.bD=>if m.lookup g'=some none then some [] else none
 |.box g' off,.box g off'=>if m.lookup g'=some (some g)∧off=off' then some [] else none
 |.fn f gs,.clo f' caps=>if f=f'∧qU m gs caps=true then some [] else none
 |.lH g',.lH g=>if m.lookup g'=some (some g) then some [] else none
 |.no,_=>some []
 |.vw g',.vw g lo hi=>if m.lookup g'=some (some g) then some [lo,hi] else none
 |.ep g' off,.ep g n off'=>if m.lookup g'=some (some g)∧off=off' then some [n] else none
 |_,_=>none
def Je (m:Ren):List WS→List W→Option (List P)
 | [],[]=>some []
 |k::ks,x::xs=>match I5 m k x,Je m ks xs with
  |some u,some v=>some (u++v)
  |_,_=>none
 |_,_=>none
def coS (m:Ren):SS→S→Option (List P)
 |.one k,.v (.one x)=>I5 m k x
 |.agg ks,.v (.agg xs)=>Je m ks xs
 |_,_=>none
def XT (m:Ren):OS→O→Option (List P)
 |.box ks,.box xs=>Je m ks xs
 |.arr fz a i sz,.arr fz' a' i' sz' l=>if fz=fz'∧sz=sz'∧(imp a' a&&imp i' i)=true then some [P.dY sz l] else none
 |.it,.it s n=>some [s,n]
 |.deep a i sz cols,.deep a' i' sz' jr l Option.none=>if sz=sz'∧cols=jr∧(imp a' a&&imp i' i)=true then some [P.dY sz l] else none
 |_,_=>none
def qw (m:Ren) (s:Nat→S):List (Nat×SS)→Option (List P)
 | []=>some []
 |(t,k)::rest=>match coS m k (s t),qw m s rest with
  |some u,some v=>some (u++v)
  |_,_=>none
def tN (m:Ren) (o:Nat→O):List (Nat×OS)→Option (List P)
 | []=>some []
 |(g',k)::rest=>match (match m.lookup g' with
   |some (some g)=>XT m k (o g)
   |some none=>(match k with
    |.arr false _ _ _=>some [.sl 0 []]
    |.deep _ _ _ _=>some [.sl 0 []]
    |_=>none)
   |none=>none),tN m o rest with
  |some u,some v=>some (u++v)
  |_,_=>none
def WS.names:WS→List Nat
 |.own g | .box g _ | .lH g | .vw g | .ep g _=>[g]
 |.fn _ gs=>gs
 |_=>[]
def SS.names:SS→List Nat
 |.one x=>x.names
 |.agg xs=>xs.flatMap WS.names
def OS.names:OS→List Nat
 |.box ws=>ws.flatMap WS.names
 |_=>[]
def Shape.nms (j:Shape):List Nat:=j.objs.map (·.1)
def Shape.ok (j:Shape):Bool:=nodupB j.nms&&j.slots.all (fun p=>p.2.names.all fun g=>j.nms.contains g)&&j.objs.all (fun p=>p.2.names.all fun g=>j.nms.contains g)
def aev (j:Shape) (m:Ren):Bool:=nodupB (j.nms.filterMap fun g=>(m.lookup g).join)
def coerce (j:Shape) (m:Ren) (st:St):Option (List P):=
 if (j.ok&&aev j m)=true then match qw m st.s j.slots,tN m st.o j.objs with
  |some u,some v=>some (u++v)
  |_,_=>none
 else none
def oD (vs:List P) (n:Nat):WS→W×Nat
 |.p a i=>(.p a i (vs.getD n default),n+1)
 |.bD=>(.bD,n)
 |.own g=>(.own g,n)
 |.box g off=>(.box g off,n)
 |.fn f gs=>(.clo f (eP gs),n)
 |.lH g=>(.lH g,n)
 |.no=>(.no,n)
 |.vw g=>(.vw g (vs.getD n default) (vs.getD (n+1) default),n+2)
 |.ep g off=>(.ep g (vs.getD n default) off,n+1)
def jP (vs:List P):Nat→List WS→List W×Nat
 |n,[]=>([],n)
 |n,k::ks=>((oD vs n k).1::(jP vs (oD vs n k).2 ks).1,(jP vs (oD vs n k).2 ks).2)
def mkS (vs:List P) (n:Nat):SS→S×Nat
 |.one k=>(.v (.one (oD vs n k).1),(oD vs n k).2)
 |.agg ks=>(.v (.agg (jP vs n ks).1),(jP vs n ks).2)
def rO (vs:List P) (n:Nat):OS→O×Nat
 |.box ks=>(.box (jP vs n ks).1,(jP vs n ks).2)
 |.arr fz a i sz=>(.arr fz a i sz (vs.getD n default).list,n+1)
 |.it=>(.it (vs.getD n default) (vs.getD (n+1) default),n+2)
 |.deep a i sz cols=>(.deep a i sz cols (vs.getD n default).list Option.none,n+1)
def bF (vs:List P):Nat→List (Nat×SS)→List (Nat×S)×Nat
 |n,[]=>([],n)
 |n,(t,k)::rest=>((t,(mkS vs n k).1)::(bF vs (mkS vs n k).2 rest).1,(bF vs (mkS vs n k).2 rest).2)
def eU (vs:List P):Nat→List (Nat×OS)→List (Nat×O)×Nat
 |n,[]=>([],n)
 |n,(g,k)::rest=>((g,(rO vs n k).1)::(eU vs (rO vs n k).2 rest).1,(eU vs (rO vs n k).2 rest).2)
def mk (j:Shape) (vs:List P):St:=
 { s:=fun t=>match (bF vs 0 j.slots).1.lookup t with | some x=>x | none=>.no,o:=fun g=>match (eU vs (bF vs 0 j.slots).2 j.objs).1.lookup g with | some x=>x | none=>.none,used:=fun g=>j.nms.contains g }
def Ac (j:Shape) (m:Ren) (g':Nat):Option Nat:=if j.nms.contains g' then (m.lookup g').join else none
def At (vs:List P) (n:Nat) (us:List P):Prop :=∀k y,us[k]?=some y→vs[n+k]?=some y
theorem At.left {vs Yj us2:List P} {n:Nat} (h:At vs n (Yj++us2)):At vs n Yj:=fun k y hk=>h k y (by rw [List.getElem?_append_left (List.getElem?_eq_some_iff.1 hk).1];exact hk)
theorem At.right {vs Yj us2:List P} {n:Nat} (h:At vs n (Yj++us2)):At vs (n+Yj.length) us2:=fun k y hk=>by
 have:=h (Yj.length+k) y (by rw [List.getElem?_append_right (by omega),Nat.add_sub_cancel_left];exact hk)
 rw [←this];congr 1;omega
theorem At.head {vs:List P} {n:Nat} {x:P} (h:At vs n [x]):vs.getD n default=x:=by
 have:=h 0 x rfl
 rw [List.getD_eq_getElem?_getD]
 rw [Nat.add_zero] at this
 rw [this];rfl
theorem rP {a b:Bool} (h:imp a b=true):a=true→b=true:=by
 cases a<;>cases b<;>simp_all [imp]
section
variable {vs:List P} {m:Ren} {F:Nat→Option Nat} {nil:Nat→Prop}
theorem tV :∀(gs:List Nat),(eP gs).flatMap W.names=gs
 | []=>rfl
 |g::gs=>by simp [eP,W.names,tV gs]
theorem rQ (f:FuncId) (caps:List W):(W.clo f caps).names=caps.flatMap W.names:=by
 have :∀(l:List W) (q :∀x∈l,x∈caps),(l.attach.flatMap fun (x:{x // x∈l})=>x.1.names)=l.flatMap W.names:=fun l _=>by
  rw [List.flatMap_def,List.flatMap_def,List.map_attach_eq_pmap,List.pmap_eq_map]
 rw [W.names]
 exact this caps fun x hx=>hx
theorem Jy :∀{gs:List Nat} {caps:List W},(∀g∈gs,F g=(m.lookup g).join)→qU m gs caps=true→caps.length=(eP gs).length∧∀(j:Nat) x y,caps[j]?=some x→(eP gs)[j]?=some y→Ww XR F nil x y
 | [],[],_,_=>⟨rfl,fun j x y hx=>by simp at hx⟩
 | [],_::_,_,h=>by simp [qU] at h
 |_::_,[],_,h=>by simp [qU] at h
 |g'::gs,c::cs,hF,h=>by
  cases c with
  |box g off=>
   simp only [qU,Bool.and_eq_true,decide_eq_true_eq] at h
   obtain ⟨h1,h2,h3⟩:=h
   have h2:=Nat.eq_of_beq_eq_true h2
   subst h2
   obtain ⟨e1,e2⟩:=Jy (fun g hg=>hF g (by simp [hg])) h3
   refine ⟨by simp [eP,e1],fun j x y hx hy => ?_⟩
   cases j with
   |zero=>
    simp [eP] at hx hy;subst hx hy
    exact .box (by rw [hF g' (by simp),h1];rfl)
   |succ j=>simp [eP] at hx hy;exact e2 j x y hx hy
  |_=>simp [qU] at h
theorem Yk {k:WS} {x:W} {us:List P} {n:Nat} (hF :∀g∈k.names,F g=(m.lookup g).join) (hnil :∀g∈k.names,m.lookup g=some none→nil g) (h:I5 m k x=some us) (ha:At vs n us) :
  Ww XR F nil x (oD vs n k).1∧(oD vs n k).2=n+us.length∧(oD vs n k).1.names=k.names:=by
 cases k with
 |p a i=>
  cases x with
  |p a' i' y=>
   simp only [I5] at h
   split at h
   ·rename_i hc
    simp only [Option.some.injEq] at h;subst h
    simp only [Bool.or_eq_true,Bool.and_eq_true] at hc
    refine ⟨?_,rfl,by simp [oD,W.names,WS.names]⟩
    simp only [oD,ha.head]
    rcases hc with hc | hc
    ·exact .p y ⟨rP hc.1,rP hc.2⟩
    ·exact .flat y hc
   ·cases h
  |bD=>
   simp only [I5,Option.some.injEq] at h;subst h
   refine ⟨?_,rfl,by simp [oD,W.names,WS.names]⟩
   simp only [oD,ha.head]
   exact .afj _ _ _
  |_=>simp [I5] at h
 |bD=>cases x<;>simp [I5] at h;subst h;exact ⟨.bD,rfl,by simp [oD,W.names,WS.names]⟩
 |own g'=>
  cases x with
  |own g=>
   simp only [I5] at h
   split at h
   ·rename_i hc
    simp only [Option.some.injEq] at h;subst h
    exact ⟨.own (by rw [hF g' (by simp [WS.names]),hc];rfl),rfl,by simp [oD,W.names,WS.names]⟩
   ·cases h
  |bD=>
   simp only [I5] at h
   split at h
   ·rename_i hc
    simp only [Option.some.injEq] at h;subst h
    exact ⟨.ahG (by rw [hF g' (by simp [WS.names]),hc];rfl) (hnil g' (by simp [WS.names]) hc),rfl,by simp [oD,W.names,WS.names]⟩
   ·cases h
  |_=>simp [I5] at h
 |box g' off=>
  cases x with
  |box g off'=>
   simp only [I5] at h
   split at h
   ·rename_i hc
    simp only [Option.some.injEq] at h;subst h
    obtain ⟨hc,rfl⟩:=hc
    exact ⟨.box (by rw [hF g' (by simp [WS.names]),hc];rfl),rfl,by simp [oD,W.names,WS.names]⟩
   ·cases h
  |_=>simp [I5] at h
 |fn f gs=>
  cases x with
  |clo f' caps=>
   simp only [I5] at h
   split at h
   ·rename_i hc
    simp only [Option.some.injEq] at h;subst h
    obtain ⟨rfl,hc⟩:=hc
    obtain ⟨e1,e2⟩:=Jy (nil:=nil) hF hc
    exact ⟨.clo f caps (eP gs) e1 e2,rfl,by simp only [oD,rQ,tV,WS.names]⟩
   ·cases h
  |_=>simp [I5] at h
 |lH g'=>
  cases x with
  |lH g=>
   simp only [I5] at h
   split at h
   ·rename_i hc
    simp only [Option.some.injEq] at h;subst h
    exact ⟨.lH (by rw [hF g' (by simp [WS.names]),hc];rfl),rfl,by simp [oD,W.names,WS.names]⟩
   ·cases h
  |_=>simp [I5] at h
 |no=>simp [I5] at h;subst h;exact ⟨.no _,rfl,by simp [oD,W.names,WS.names]⟩
 |vw g'=>
  cases x with
  |vw g lo hi=>
   simp only [I5] at h
   split at h
   ·rename_i hc
    simp only [Option.some.injEq] at h;subst h
    have h0:vs.getD n default=lo:=At.head (At.left (Yj:=[lo]) (us2:=[hi]) ha)
    have h1:vs.getD (n+1) default=hi:=At.head (At.right (Yj:=[lo]) (us2:=[hi]) ha)
    refine ⟨?_,rfl,by simp [oD,W.names,WS.names]⟩
    simp only [oD,h0,h1]
    exact .vw lo hi (by rw [hF g' (by simp [WS.names]),hc];rfl)
   ·cases h
  |_=>simp [I5] at h
 |ep g' off=>
  cases x with
  |ep g q off'=>
   simp only [I5] at h
   split at h
   ·rename_i hc
    simp only [Option.some.injEq] at h;subst h
    obtain ⟨hc,rfl⟩:=hc
    refine ⟨?_,rfl,by simp [oD,W.names,WS.names]⟩
    simp only [oD,ha.head]
    exact .ep q off (by rw [hF g' (by simp [WS.names]),hc];rfl)
   ·cases h
  |_=>simp [I5] at h
theorem LD :∀{ks:List WS} {xs:List W} {us:List P} {n:Nat},(∀k∈ks,∀g∈k.names,F g=(m.lookup g).join)→(∀k∈ks,∀g∈k.names,m.lookup g=some none→nil g)→Je m ks xs=some us→At vs n us→
  xs.length=(jP vs n ks).1.length∧(∀(j:Nat) x y,xs[j]?=some x→(jP vs n ks).1[j]?=some y→Ww XR F nil x y)∧(jP vs n ks).2=n+us.length∧(jP vs n ks).1.flatMap W.names=ks.flatMap WS.names
 | [],xs,us,n,hF,hn,h,ha=>by
  cases xs with
  |nil=>simp [Je] at h;subst h;exact ⟨rfl,fun j x y hx=>by simp at hx,rfl,rfl⟩
  |cons x xs=>simp [Je] at h
 |k::ks,xs,us,n,hF,hn,h,ha=>by
  cases xs with
  |nil=>simp [Je] at h
  |cons x xs=>
   simp only [Je] at h
   split at h
   ·rename_i u v hu hv
    simp only [Option.some.injEq] at h;subst h
    obtain ⟨a1,a2,a3⟩:=Yk (hF k (by simp)) (hn k (by simp)) hu ha.left
    have ih:=LD (n:=n+u.length) (fun k hk=>hF k (by simp [hk])) (fun k hk=>hn k (by simp [hk])) hv ha.right
    simp only [jP,a2]
    refine ⟨by simp [ih.1],fun j x' y' hx hy => ?_,by rw [ih.2.2.1];simp;omega,by simp [a3,ih.2.2.2]⟩
    cases j with
    |zero=>simp at hx hy;subst hx hy;exact a1
    |succ j=>simp at hx hy;exact ih.2.1 j x' y' hx hy
   ·cases h
theorem afk {k:SS} {x:S} {us:List P} {n:Nat} (hF :∀g∈k.names,F g=(m.lookup g).join) (hnil :∀g∈k.names,m.lookup g=some none→nil g) (h:coS m k x=some us) (ha:At vs n us) :
  Sw XR F nil x (mkS vs n k).1∧(mkS vs n k).2=n+us.length∧(mkS vs n k).1.names=k.names:=by
 cases k with
 |one k=>
  cases x with
  |v x=>
   cases x with
   |one x=>
    obtain ⟨a1,a2,a3⟩:=Yk hF hnil h ha
    exact ⟨.v (.one a1),a2,by simpa [mkS,S.names,V.names,SS.names] using a3⟩
   |agg xs=>simp [coS] at h
  |_=>simp [coS] at h
 |agg ks=>
  cases x with
  |v x=>
   cases x with
   |one x=>simp [coS] at h
   |agg xs=>
    obtain ⟨a0,a1,a2,a3⟩:=LD (fun k hk g hg=>hF g (by simp only [SS.names,List.mem_flatMap];exact ⟨k,hk,hg⟩)) (fun k hk g hg=>hnil g (by simp only [SS.names,List.mem_flatMap];exact ⟨k,hk,hg⟩)) h ha
    exact ⟨.v (.agg _ _ a0 a1),a2,by simpa [mkS,S.names,V.names,SS.names] using a3⟩
  |_=>simp [coS] at h
theorem F6 {s:Nat→S} :∀{L:List (Nat×SS)} {us:List P} {n:Nat},(∀p∈L,∀g∈p.2.names,F g=(m.lookup g).join)→(∀p∈L,∀g∈p.2.names,m.lookup g=some none→nil g)→qw m s L=some us→At vs n us→
  (∀t x,(bF vs n L).1.lookup t=some x→Sw XR F nil (s t) x∧∀g∈x.names,∃p∈L,g∈p.2.names)∧(bF vs n L).2=n+us.length
 | [],us,n,hF,hn,h,ha=>by simp [qw] at h;subst h;exact ⟨fun t x hx=>by simp [bF] at hx,rfl⟩
 |(t0,k)::L,us,n,hF,hn,h,ha=>by
  simp only [qw] at h
  split at h
  ·rename_i u v hu hv
   simp only [Option.some.injEq] at h;subst h
   obtain ⟨a1,a2,a3⟩:=afk (hF (t0,k) (by simp)) (hn (t0,k) (by simp)) hu ha.left
   have ih:=F6 (n:=n+u.length) (fun p hp=>hF p (by simp [hp])) (fun p hp=>hn p (by simp [hp])) hv ha.right
   simp only [bF,a2]
   refine ⟨fun t x hx => ?_,by rw [ih.2];simp;omega⟩
   simp only [List.lookup] at hx
   split at hx
   ·rename_i he
    have he:t=t0:=by simpa using he
    subst he
    simp only [Option.some.injEq] at hx;subst hx
    exact ⟨a1,fun g hg=>⟨(t,k),by simp,by rw [a3] at hg;exact hg⟩⟩
   ·obtain ⟨b1,b2⟩:=ih.1 t x hx
    exact ⟨b1,fun g hg=>let ⟨p,hp,hg⟩:=b2 g hg;⟨p,by simp [hp],hg⟩⟩
  ·cases h
theorem afl {k:OS} {x:O} {us:List P} {n:Nat} (hF :∀g∈k.names,F g=(m.lookup g).join) (hnil :∀g∈k.names,m.lookup g=some none→nil g) (h:XT m k x=some us) (ha:At vs n us) :
  Ow XR F nil x (rO vs n k).1∧(rO vs n k).2=n+us.length∧(rO vs n k).1.names=k.names:=by
 cases k with
 |box ks=>
  cases x with
  |box xs=>
   obtain ⟨a0,a1,a2,a3⟩:=LD (fun k hk g hg=>hF g (by simp only [OS.names,List.mem_flatMap];exact ⟨k,hk,hg⟩)) (fun k hk g hg=>hnil g (by simp only [OS.names,List.mem_flatMap];exact ⟨k,hk,hg⟩)) h ha
   exact ⟨.box _ _ a0 a1,a2,by simpa [rO,O.names,OS.names] using a3⟩
  |_=>simp [XT] at h
 |arr fz a i sz=>
  cases x with
  |arr fz' a' i' sz' l=>
   simp only [XT] at h
   split at h
   ·rename_i hc
    simp only [Option.some.injEq] at h;subst h
    obtain ⟨rfl,rfl,hc⟩:=hc
    simp only [Bool.and_eq_true] at hc
    refine ⟨?_,rfl,rfl⟩
    simp only [rO,ha.head,P.mP]
    exact .arr fz sz l ⟨rP hc.1,rP hc.2⟩
   ·cases h
  |_=>simp [XT] at h
 |it=>
  cases x with
  |it s p=>
   simp only [XT,Option.some.injEq] at h
   subst h
   refine ⟨?_,rfl,rfl⟩
   have h0:vs.getD n default=s:=At.head (At.left (Yj:=[s]) (us2:=[p]) ha)
   have h1:vs.getD (n+1) default=p:=At.head (At.right (Yj:=[s]) (us2:=[p]) ha)
   simp only [rO,h0,h1]
   exact .it s p
  |_=>simp [XT] at h
 |deep a i sz cols=>
  cases x with
  |deep a' i' sz' jr l hole=>
   cases hole with
   |some q=>simp [XT] at h
   |none=>
    simp only [XT] at h
    split at h
    ·rename_i hc
     simp only [Option.some.injEq] at h;subst h
     obtain ⟨rfl,rfl,hc⟩:=hc
     simp only [Bool.and_eq_true] at hc
     refine ⟨?_,rfl,rfl⟩
     simp only [rO,ha.head,P.mP]
     exact .deep sz cols l ⟨rP hc.1,rP hc.2⟩
    ·cases h
  |_=>simp [XT] at h
end
theorem iq :∀{l:List Nat},nodupB l=true→l.Nodup
 | [],_=>List.nodup_nil
 |x::l,h=>by
  simp only [nodupB,Bool.and_eq_true,Bool.not_eq_true',List.contains_eq_mem,decide_eq_false_iff_not] at h
  exact List.nodup_cons.2 ⟨h.1,iq h.2⟩
theorem Jz {vs:List P} {m:Ren} {F:Nat→Option Nat} {nil:Nat→Prop} {o:Nat→O} :∀{L:List (Nat×OS)} {us:List P} {n:Nat},(∀p∈L,∀g∈p.2.names,F g=(m.lookup g).join)→(∀p∈L,∀g∈p.2.names,m.lookup g=some none→nil g)→
  (L.map (·.1)).Nodup→tN m o L=some us→At vs n us→
  (∀g' x,(eU vs n L).1.lookup g'=some x→(g'∈L.map (·.1))∧(∀g∈x.names,∃p∈L,g∈p.2.names)∧((∃g,m.lookup g'=some (some g)∧Ow XR F nil (o g) x)∨(m.lookup g'=some none∧x.nilA)))∧
  (∀g'∈L.map (·.1),∃x,(eU vs n L).1.lookup g'=some x)
 | [],us,n,hF,hn,hd,h,ha=>⟨fun g x hx=>by simp [eU] at hx,fun g hg=>by simp at hg⟩
 |(g0,k)::L,us,n,hF,hn,hd,h,ha=>by
  simp only [tN] at h
  split at h
  ·rename_i u v hu hv
   simp only [Option.some.injEq] at h;subst h
   simp only [List.map_cons,List.nodup_cons] at hd
   have key:(rO vs n k).2=n+u.length∧(rO vs n k).1.names=k.names∧((∃g,m.lookup g0=some (some g)∧Ow XR F nil (o g) (rO vs n k).1)∨(m.lookup g0=some none∧(rO vs n k).1.nilA)):=by
    split at hu
    ·rename_i g hg
     obtain ⟨a1,a2,a3⟩:=afl (hF (g0,k) (by simp)) (hn (g0,k) (by simp)) hu ha.left
     exact ⟨a2,a3,.inl ⟨g,hg,a1⟩⟩
    ·rename_i hg
     split at hu
     ·rename_i a i sz
      simp only [Option.some.injEq] at hu;subst hu
      refine ⟨rfl,rfl,.inr ⟨hg,.inl ⟨a,i,sz,?_⟩⟩⟩
      simp only [rO,ha.left.head];rfl
     ·rename_i a i sz cols
      simp only [Option.some.injEq] at hu;subst hu
      refine ⟨rfl,rfl,.inr ⟨hg,.inr ⟨a,i,sz,cols,?_⟩⟩⟩
      simp only [rO,ha.left.head];rfl
     ·cases hu
    ·cases hu
   obtain ⟨a2,a3,a1⟩:=key
   have ih:=Jz (n:=n+u.length) (fun p hp=>hF p (by simp [hp])) (fun p hp=>hn p (by simp [hp])) hd.2 hv ha.right
   simp only [eU,a2]
   refine ⟨fun g' x hx => ?_,fun g' hg' => ?_⟩
   ·simp only [List.lookup] at hx
    split at hx
    ·rename_i he
     have he:g'=g0:=by simpa using he
     subst he
     simp only [Option.some.injEq] at hx;subst hx
     exact ⟨by simp,fun g hg=>⟨(g',k),by simp,by rw [a3] at hg;exact hg⟩,a1⟩
    ·obtain ⟨b0,b1,b2⟩:=ih.1 g' x hx
     exact ⟨by simp [b0],fun g hg=>let ⟨p,hp,hg⟩:=b1 g hg;⟨p,by simp [hp],hg⟩,b2⟩
   ·simp only [List.lookup]
    by_cases he:g'=g0
    ·subst he;simp
    ·have:(g'==g0)=false:=by simpa using he
     rw [this]
     exact ih.2 g' (by simpa [he] using hg')
  ·cases h
theorem yw {f:Nat→Option Nat} {g1 g2 g:Nat} :∀{L:List Nat},L.Nodup→(L.filterMap f).Nodup→g1∈L→g2∈L→f g1=some g→f g2=some g→g1=g2
 | [],_,_,n1,_,_,_=>by cases n1
 |y::L,hnd,fU,n1,n2,m1,m2=>by
  simp only [List.nodup_cons] at hnd
  simp only [List.filterMap_cons] at fU
  have hsub :∀{z},z∈L→f z=some g→g∈L.filterMap f:=fun hz he=>List.mem_filterMap.2 ⟨_,hz,he⟩
  rcases List.mem_cons.1 n1 with e1 | e1<;>rcases List.mem_cons.1 n2 with e2 | e2
  ·rw [e1,e2]
  ·subst e1;rw [m1] at fU;simp only [List.nodup_cons] at fU;exact absurd (hsub e2 m2) fU.1
  ·subst e2;rw [m2] at fU;simp only [List.nodup_cons] at fU;exact absurd (hsub e1 m1) fU.1
  ·refine yw hnd.2 ?_ e1 e2 m1 m2
   split at fU
   ·exact fU
   ·exact (List.nodup_cons.1 fU).2
theorem qV {j:Shape} {m:Ren} {st:St} {vs:List P} (h:coerce j m st=some vs):qR XR (Ac j m) st (mk j vs):=by
 unfold coerce at h
 split at h
 ·rename_i hok
  split at h
  ·rename_i u v hu hv
   simp only [Option.some.injEq] at h;subst h
   simp only [Bool.and_eq_true,Shape.ok,List.all_eq_true,List.contains_eq_mem,decide_eq_true_eq] at hok
   obtain ⟨⟨⟨hnd,hsl⟩,hob⟩,fU⟩:=hok
   have hnd':=iq hnd
   have hAt:At (u++v) 0 (u++v):=fun k y hk=>by rw [Nat.zero_add];exact hk
   have hF :∀g∈j.nms,Ac j m g=(m.lookup g).join:=fun g hg=>by simp [Ac,hg]
   have Bo:=fun nil (hnil :∀p∈j.objs,∀g∈p.2.names,m.lookup g=some none→nil g)=>Jz (vs:=u++v) (F:=Ac j m) (nil:=nil) (n:=u.length) (fun p hp g hg=>hF g (hob p hp g hg)) hnil hnd' hv (by
    have:=hAt.right;rwa [Nat.zero_add] at this)
   have qW:=fun nil (hnil :∀p∈j.slots,∀g∈p.2.names,m.lookup g=some none→nil g)=>F6 (vs:=u++v) (F:=Ac j m) (nil:=nil) (n:=0) (fun p hp g hg=>hF g (hsl p hp g hg)) hnil hu hAt.left
   have hlen:(bF (u++v) 0 j.slots).2=u.length:=by have:=(qW (fun _=>True) (fun _ _ _ _ _=>trivial)).2;omega
   have hnil :∀g∈j.nms,m.lookup g=some none→((mk j (u++v)).o g).nilA:=by
    intro g hg hm
    have hO:=Bo (fun _=>True) (fun _ _ _ _ _=>trivial)
    obtain ⟨x,hx⟩:=hO.2 g hg
    rcases (hO.1 g x hx).2.2 with ⟨g2,h2,_⟩ | ⟨_,e⟩
    ·rw [hm] at h2;cases h2
    ·show O.nilA (match (eU (u++v) (bF (u++v) 0 j.slots).2 j.objs).1.lookup g with | some x=>x | none=>.none)
     rw [hlen,hx];exact e
   have hO:=Bo (fun g=>((mk j (u++v)).o g).nilA) (fun p hp g hg hm=>hnil g (hob p hp g hg) hm)
   have hS:=qW (fun g=>((mk j (u++v)).o g).nilA) (fun p hp g hg hm=>hnil g (hsl p hp g hg) hm)
   have yJ :∀g x,(mk j (u++v)).o g=x→x≠.none→(eU (u++v) u.length j.objs).1.lookup g=some x:=by
    intro g x hx hne
    have hx:(match (eU (u++v) (bF (u++v) 0 j.slots).2 j.objs).1.lookup g with | some x=>x | none=>.none)=x:=hx
    rw [hlen] at hx
    cases hz:(eU (u++v) u.length j.objs).1.lookup g with
    |none=>rw [hz] at hx;exact absurd hx.symm hne
    |some y=>rw [hz] at hx;rw [←hx]
   refine ⟨fun t => ?_,fun g' g hm => ?_,fun g' hm => ?_,fun g1 g2 g h1 h2 m1 m2 => ?_,fun t g hg => ?_,fun g0 g hg => ?_,fun g hg => ?_⟩
   ·show Sw _ _ _ (st.s t) (match (bF (u++v) 0 j.slots).1.lookup t with | some x=>x | none=>.no)
    cases hx:(bF (u++v) 0 j.slots).1.lookup t with
    |none=>exact .no _
    |some x=>exact (hS.1 t x hx).1
   ·by_cases hne:(mk j (u++v)).o g'=.none
    ·rw [hne];exact .none _
    ·have hx:=yJ g' _ rfl hne
     obtain ⟨b0,b1,b2⟩:=hO.1 g' _ hx
     rw [hF g' b0] at hm
     rcases b2 with ⟨g3,h3,h4⟩ | ⟨h3,_⟩
     ·rw [h3] at hm;cases hm;exact h4
     ·rw [h3] at hm;cases hm
   ·by_cases hne:(mk j (u++v)).o g'=.none
    ·exact .inl hne
    ·have hx:=yJ g' _ rfl hne
     obtain ⟨b0,b1,b2⟩:=hO.1 g' _ hx
     rw [hF g' b0] at hm
     rcases b2 with ⟨g3,h3,h4⟩ | ⟨h3,e⟩
     ·rw [h3] at hm;cases hm
     ·exact .inr e
   ·have n1:g1∈j.nms:=by have:=hO.1 g1 _ (yJ g1 _ rfl (by intro e;rw [e] at h1;cases h1));exact this.1
    have n2:g2∈j.nms:=by have:=hO.1 g2 _ (yJ g2 _ rfl (by intro e;rw [e] at h2;cases h2));exact this.1
    rw [hF g1 n1] at m1;rw [hF g2 n2] at m2
    exact yw hnd' (iq fU) n1 n2 m1 m2
   ·have hg:g∈(match (bF (u++v) 0 j.slots).1.lookup t with | some x=>x | none=>S.no).names:=hg
    cases hx:(bF (u++v) 0 j.slots).1.lookup t with
    |none=>rw [hx] at hg;simp [S.names] at hg
    |some x=>
     rw [hx] at hg
     obtain ⟨p,hp,hg⟩:=(hS.1 t x hx).2 g hg
     simpa [mk] using hsl p hp g hg
   ·by_cases hne:(mk j (u++v)).o g0=.none
    ·rw [hne] at hg;simp [O.names] at hg
    ·obtain ⟨b0,b1,b2⟩:=hO.1 g0 _ (yJ g0 _ rfl hne)
     obtain ⟨p,hp,hg⟩:=b1 g hg
     simpa [mk] using hob p hp g hg
   ·have:=(hO.1 g _ (yJ g _ rfl hg)).1
    simpa [mk,Shape.nms] using this
  ·cases h
 ·cases h
end Go.Fw

namespace Go.Fw
set_option linter.unusedSectionVars false
variable [dw]
set_option linter.unusedVariables false
structure xH where
 nargs:Nat
 pin:Shape
 aG:Shape
 bM:Nat
 aN:List Nat
 news:List Nat
structure Spec where
 sig:xH
 R:List P→List P→Prop
abbrev Tab:=FuncId→Option Spec
def uV (x y:Bool×Bool):Bool×Bool:=(x.1||y.1,x.2||y.2)
def LG (xs ys:List Nat):Bool:=xs.all fun x=>!ys.contains x
def WS.flags (a i:Bool):WS→Bool
 |.p a' i'=>(a==a')&&(i==i')
 |.own _=>true
 |.box _ off=>off==0
 |.bD=>false
 |.fn _ _=>true
 |.lH _=>false
 |.no=>false
 |.vw _=>false
 |.ep _ _=>false
def SS.flags (a i:Bool):SS→Bool
 |.one x=>x.flags a i
 |.agg xs=>xs.all (WS.flags a i)
def WS.outs (news:List Nat):WS→Bool
 |.p _ _=>true
 |.own g=>news.contains g
 |.box g _=>news.contains g
 |.bD=>true
 |.fn _ gs=>gs.all fun g=>news.contains g
 |_=>false
def SS.outs (news:List Nat):SS→Bool
 |.one x=>x.outs news
 |.agg xs=>xs.all (WS.outs news)
def WS.isA:WS→Bool
 |.p a _=>a
 |_=>false
def SS.isA:SS→Bool
 |.one x=>x.isA
 |.agg xs=>xs.any WS.isA
def OS.isA:OS→Bool
 |.box ws=>ws.any WS.isA
 |.arr _ a _ _=>a
 |.it=>false
 |.deep a _ _ _=>a
def xH.kN (s:xH):Bool:=s.aG.slots.any (·.2.isA)||s.aG.objs.any (·.2.isA)
def OS.kin:Option OS→Option OS→Bool
 |some (.box _),some (.box _)=>true
 |some (.arr _ _ _ sz),some (.arr _ _ _ sz')=>Nat.beq sz sz'
 |some (.deep _ _ sz _),some (.deep _ _ sz' _)=>Nat.beq sz sz'
 |_,_=>false
def OS.Yl:Option OS→Bool
 |some (.box _)=>true
 |_=>false
def xH.ok (s:xH):Bool:=
 s.pin.ok&&s.aG.ok&&s.pin.slots.all (fun p=>p.2.flags true false&&decide (p.1<s.nargs)) &&
 s.pin.objs.all (fun p=>match p.2 with
  |.box ws=>ws.all (fun k=>k.flags false true)&&s.aN.contains p.1
  |.arr fz a i _=>!fz&&!a&&i
  |.deep a i _ _=>!a&&i
  |.it=>false) &&
 s.aG.slots.all (fun p=>p.2.outs (s.news++s.aN)) &&
 s.aG.objs.all (fun p=>match p.2 with
  |.box ws=>ws.all (WS.outs (s.news++s.aN))&&((s.aN.contains p.1&&s.pin.nms.contains p.1)||s.news.contains p.1)
  |.arr fz _ _ _=>!fz&&(s.news.contains p.1||s.aN.contains p.1)
  |.deep _ _ _ _=>s.news.contains p.1||s.aN.contains p.1
  |.it=>false) &&
 LG s.aN s.news&&nodupB s.news&&s.aN.all (fun g=>OS.kin (s.pin.objs.lookup g) (s.aG.objs.lookup g))
def xH.Ym (s:xH):Bool:=s.aN.all fun g=>OS.Yl (s.pin.objs.lookup g)&&OS.Yl (s.aG.objs.lookup g)
structure Jf where
 ins:List P
 A:Bool×Bool
 I:Bool×Bool
 sS:List Nat
 ren:List (Nat×Nat)
def lU:List Nat→List W→Option (List (Nat×Nat))
 | [],[]=>some []
 |g'::gs,.box g 0::cs=>match lU gs cs with
  |some r=>some ((g',g)::r)
  |none=>none
 |_,_=>none
def dR (o:Nat→O):WS→W→Option (List P×(Bool×Bool)×List Nat×List (Nat×Nat))
 |.p _ _,x=>match x.toP o with
  |some (y,a,i,gs)=>some ([y],(a,i),gs,[])
  |none=>none
 |.own g',.own g=>some ([],(false,false),[],[(g',g)])
 |.box g' 0,.box g 0=>some ([],(false,false),[],[(g',g)])
 |.fn f gs,.clo f' caps=>if f=f' then match lU gs caps with
  |some r=>some ([],(false,false),[],r)
  |none=>none
  else none
 |_,_=>none
def iO (o:Nat→O):List WS→List W→Option (List P×(Bool×Bool)×List Nat×List (Nat×Nat))
 | [],[]=>some ([],(false,false),[],[])
 |k::ks,x::xs=>match dR o k x,iO o ks xs with
  |some (u,c,g,r),some (u',c',g',r')=>some (u++u',uV c c',g++g',r++r')
  |_,_=>none
 |_,_=>none
def mW (o:Nat→O):SS→S→Option (List P×(Bool×Bool)×List Nat×List (Nat×Nat))
 |.one k,.v (.one x)=>dR o k x
 |.agg ks,.v (.agg xs)=>iO o ks xs
 |_,_=>none
def dD (o:Nat→O) (args:List S):List (Nat×SS)→Option (List P×(Bool×Bool)×List Nat×List (Nat×Nat))
 | []=>some ([],(false,false),[],[])
 |(t,k)::rest=>match mW o k (args.getD t .no),dD o args rest with
  |some (u,c,g,r),some (u',c',g',r')=>some (u++u',uV c c',g++g',r++r')
  |_,_=>none
def QI:WS→W→Option (List P×(Bool×Bool)×List (Nat×Nat))
 |.p _ _,.p a i x=>some ([x],(a,i),[])
 |.p _ _,.bD=>some ([.sl 0 []],(false,false),[])
 |.own g',.own g=>some ([],(false,false),[(g',g)])
 |.box g' 0,.box g 0=>some ([],(false,false),[(g',g)])
 |.fn f gs,.clo f' caps=>if f=f' then match lU gs caps with
  |some r=>some ([],(false,false),r)
  |none=>none
  else none
 |_,_=>none
def LH:List WS→List W→Option (List P×(Bool×Bool)×List (Nat×Nat))
 | [],[]=>some ([],(false,false),[])
 |k::ks,x::xs=>match QI k x,LH ks xs with
  |some (u,c,r),some (u',c',r')=>some (u++u',uV c c',r++r')
  |_,_=>none
 |_,_=>none
def iI (o:Nat→O):List (Nat×Nat)→List (Nat×OS)→Option (List P×(Bool×Bool)×List (Nat×Nat))
 |ren,[]=>some ([],(false,false),ren)
 |ren,(g',k)::rest=>match ren.lookup g' with
  |some g=>match k,o g with
   |.box ks,.box ws=>match LH ks ws with
    |some (u,c,r)=>match iI o (ren++r) rest with
     |some (u',c',r')=>some (u++u',uV c c',r')
     |none=>none
    |none=>none
   |.arr _ _ _ sz,.arr false a i sz' l=>if sz=sz' then match iI o ren rest with
    |some (u',c',r')=>some (P.dY sz l::u',uV (a,i) c',r')
    |none=>none
    else none
   |.deep _ _ sz cols,.deep a i sz' jr l Option.none=>if sz=sz'∧cols=jr then match iI o ren rest with
    |some (u',c',r')=>some (P.dY sz l::u',uV (a,i) c',r')
    |none=>none
    else none
   |_,_=>none
  |none=>none
def iW:List (Nat×Nat)→List (Nat×Nat)
 | []=>[]
 |p::r=>match r.any fun q=>Nat.beq q.1 p.1&&Nat.beq q.2 p.2 with
  |true=>iW r
  |false=>p::iW r
def fF (s:xH) (o:Nat→O) (args:List S):Option Jf:=
 match dD o args s.pin.slots with
 |some (u,A,gs,r)=>match iI o r s.pin.objs with
  |some (u',I,r')=>some { ins:=u++u',A,I,sS:=gs,ren:=iW r' }
  |none=>none
 |none=>none
def Jf.fine (c:Jf) (s:xH):Bool:=nodupB (c.ren.map (·.2))&&nodupB (c.ren.map (·.1))&&LG (c.ren.map (·.2)) c.sS&&(c.ren.map (·.1)).all (fun g=>s.pin.nms.contains g)
def oU (A I:Bool×Bool) (a i:Bool):Bool×Bool:=((a&&A.1)||(i&&I.1),(a&&A.2)||(i&&I.2))
def jF (f:Nat→Nat):List W→List W
 | []=>[]
 |.box g off::r=>.box (f g) off::jF f r
 |_::r=>.no::jF f r
def QJ (A I:Bool×Bool) (f:Nat→Nat):W→W
 |.p a i x=>.p (oU A I a i).1 (oU A I a i).2 x
 |.bD=>.bD
 |.own g=>.own (f g)
 |.box g off=>.box (f g) off
 |.clo fn caps=>.clo fn (jF f caps)
 |_=>.no
def reV (A I:Bool×Bool) (f:Nat→Nat):V→V
 |.one x=>.one (QJ A I f x)
 |.agg xs=>.agg (xs.map (QJ A I f))
def Ug (A I:Bool×Bool) (f:Nat→Nat):S→V
 |.v x=>reV A I f x
 |_=>.one .no
def uX (A I:Bool×Bool) (f:Nat→Nat):O→O
 |.none=>.none
 |.box ws=>.box (ws.map (QJ A I f))
 |.arr fz a i sz l=>.arr fz (oU A I a i).1 (oU A I a i).2 sz l
 |.it s n=>.it s n
 |.deep a i sz cols l _=>.deep (oU A I a i).1 (oU A I a i).2 sz cols l Option.none
def newName (d:Nat) (news:List Nat) (g:Nat):Nat:=d+1000*news.idxOf g
def callName (d:Nat) (s:xH) (ren:List (Nat×Nat)) (g:Nat):Nat:=match s.aN.contains g with
 |true=>match ren.lookup g with
  |some g'=>g'
  |none=>g
 |false=>newName d s.news g
structure Eff where
 x:S
 upd:List (Nat×O)
 new:List Nat
def V9 (vs:List V):S:=match vs with
 | [x]=>.v x
 |xs=>.kC xs
def fZ (s:xH) (d:Nat) (o:Nat→O) (c:Jf) (outs:List P):Eff:=
 let x:=mk s.aG outs
 let f:=callName d s c.ren
 { x:=V9 ((List.range s.bM).map fun k=>Ug c.A c.I f (x.s k)),upd:=(if s.kN then c.sS.map (freeze o) else [])++c.ren.map (fun p=>(p.2,if s.aN.contains p.1 then uX c.A c.I f (x.o p.1) else .none))++s.news.map (fun g=>(f g,uX c.A c.I f (x.o g))),new:=s.news.map f }
def Ad (same:List Nat) (e:Eff):Eff:={ e with upd:=e.upd.filter fun p=>!same.contains p.1 }
theorem qX {α:Type} {same:List Nat} {g:Nat} (hg:g∉same) :∀(l:List (Nat×α)),(l.filter fun p=>!same.contains p.1).lookup g=l.lookup g
 | []=>rfl
 |(k,x)::l=>by
  simp only [List.filter_cons]
  cases hk:same.contains k with
  |true=>
   have:(g==k)=false:=by
    cases hb:g==k with
    |false=>rfl
    |true=>
     have:g=k:=by simpa using hb
     subst this
     simp only [List.contains_eq_mem,decide_eq_true_eq] at hk
     exact absurd hk hg
   simp only [Bool.not_true,Bool.false_eq_true,if_false,List.lookup,this]
   exact qX hg l
  |false=>
   simp only [Bool.not_false,if_true,List.lookup]
   rw [qX hg l]
theorem kW {α:Type} {same:List Nat} {g:Nat} (hg:g∈same) :∀(l:List (Nat×α)),(l.filter fun p=>!same.contains p.1).lookup g=none
 | []=>rfl
 |(k,x)::l=>by
  simp only [List.filter_cons]
  cases hk:same.contains k with
  |true=>
   simp only [Bool.not_true,Bool.false_eq_true,if_false]
   exact kW hg l
  |false=>
   have:(g==k)=false:=by
    cases hb:g==k with
    |false=>rfl
    |true=>
     have:g=k:=by simpa using hb
     subst this
     simp only [List.contains_eq_mem,decide_eq_false_iff_not] at hk
     exact absurd hg hk
   simp only [Bool.not_false,if_true,List.lookup,this]
   exact kW hg l
theorem V_ {st:St} {same:List Nat} {e:Eff} (h :∀g∈same,e.upd.lookup g=some (st.o g)):st.upd (Ad same e).upd (Ad same e).new=st.upd e.upd e.new:=by
 unfold St.upd Ad
 congr 1
 funext g
 by_cases hg:g∈same
 ·simp only [kW hg,h g hg]
 ·simp only [qX hg]
inductive NI (x:P) (K:P→Prop):Prop where
 |mk (h :∀z,z=x→K z)
theorem NI.iff {x:P} {K:P→Prop}:NI x K↔K x:=⟨fun ⟨h⟩=>h x rfl,fun h=>⟨fun z e=>e▸h⟩⟩
def Dx:Op→Bool
 |.pick .. | .binOp .. | .unOp .. | .convert .. | .index .. | .call .. | .makeSlice .. | .store .. | .buildSlice .. | .slice .. => true
 |_=>false
def guardOf (ops:Array Oper) (st:St) (j:Nat) (want:Bool):Option Bool:=
 match (ops[j]?).bind (·.dst) with
 |some t=>match st.s t with
  |.v (.one (.p _ _ (.bool b)))=>some (bif want then b else !b)
  |.kC []=>some false
  |_=>none
 |none=>none
def Eff.skip:Eff:={ x:=.kC [],upd:=[],new:=[] }
def gZ (T:Tab) (tt:TT) (d:Nat) (st:St) (o:Oper) (K:Eff→Prop):Prop:=
 match o.op with
 |.call { callee:=.value f,args,.. }=>match st.bZ f with
  |.v (.one (.clo fn caps))=>match T fn with
   |some sp=>match fF sp.sig st.o ((args.toList.map st.bZ)++caps.map fun x=>S.v (.one x)) with
    |some c=>(c.fine sp.sig&&decide (args.size+caps.length=sp.sig.nargs))=true∧∃(outs:List P) (same:List Nat),sp.R c.ins outs∧(∀g∈same,g∈c.ren.map (·.2)∧(fZ sp.sig d st.o c outs).upd.lookup g=some (st.o g))∧K (Ad same (fZ sp.sig d st.o c outs))
    |none=>False
   |none=>False
  |_=>False
 |op=>(∃dc r,bY tt dc d st.o st.bZ op o.type=some r∧r.pre∧NI r.val fun z=>K { x:=r.dst z,upd:=r.upd z,new:=r.new })∨match kernel tt d st.o st.bZ op o.type with
  |some r=>r.pre∧bif Dx op then NI r.val fun z=>K { x:=r.dst z,upd:=r.upd z,new:=r.new } else K { x:=r.dst r.val,upd:=r.upd r.val,new:=r.new }
  |none=>False
def St.eff (st:St) (dst:Option Tmp) (e:Eff):St:=(st.upd e.upd e.new).put dst e.x
def stepW (T:Tab) (tt:TT) (N:Nat) (ops:Array Oper) (o:Oper) (st:St) (K:Eff→Prop):Prop:=
 (match o.dst with
  |some d=>decide (d<N)
  |none=>true)=true∧
 match o.guard with
 |none=>gZ T tt (o.dst.getD 0) st o fun e=>e.new.all (fun g=>!st.used g)=true∧K e
 |some (j,want)=>match guardOf ops st j want with
  |some b=>bif b then gZ T tt (o.dst.getD 0) st o fun e=>e.new.all (fun g=>!st.used g)=true∧K e else K Eff.skip
  |none=>False
end Go.Fw

namespace Go.Fw
set_option linter.unusedSectionVars false
variable [dw]
set_option linter.unusedVariables false
theorem kP {α:Type} :∀{l:List (Nat×α)},(l.map (·.1)).Nodup→∀{k:Nat} {v:α},(k,v)∈l→l.lookup k=some v
 | [],_,k,v,h=>by cases h
 |(k0,v0)::l,hn,k,v,h=>by
  simp only [List.map_cons,List.nodup_cons] at hn
  simp only [List.lookup]
  rcases List.mem_cons.1 h with e | e
  ·cases e;simp
  ·have hne:(k==k0)=false:=by
    have:k∈l.map (·.1):=List.mem_map.2 ⟨(k,v),e,rfl⟩
    have:k≠k0:=fun e=>hn.1 (by rw [←e];exact this)
    simpa using this
   rw [hne]
   exact kP hn.2 e
theorem jA {α:Type} :∀{l:List (Nat×α)} {k:Nat} {v:α},l.lookup k=some v→(k,v)∈l
 | [],k,v,h=>by simp at h
 |(k0,v0)::l,k,v,h=>by
  simp only [List.lookup] at h
  split at h
  ·rename_i he
   have he:k=k0:=by simpa using he
   simp only [Option.some.injEq] at h
   subst he h;simp
  ·exact List.mem_cons_of_mem _ (jA h)
def cin (c d:Bool×Bool):Prop:=(c.1=true→d.1=true)∧(c.2=true→d.2=true)
theorem F7 (c:Bool×Bool):cin c c:=⟨id,id⟩
theorem rU {c c' d:Bool×Bool} (h:cin (uV c c') d):cin c d:=⟨fun e=>h.1 (by simp [uV,e]),fun e=>h.2 (by simp [uV,e])⟩
theorem oG {c c' d:Bool×Bool} (h:cin (uV c c') d):cin c' d:=⟨fun e=>h.1 (by simp [uV,e]),fun e=>h.2 (by simp [uV,e])⟩
def Cio (I:Bool×Bool) (a i a' i':Bool):Prop:=a'=false∧i'=true∧cin (a,i) I
section
variable {o:Nat→O} {ins:List P} {m:Nat→Option Nat} {nil:Nat→Prop} {I:Bool×Bool}
theorem Uh {a i:Bool} {a' i':Bool} (h:(WS.p a' i').flags a i=true):a'=a∧i'=i:=by
 simp only [WS.flags,Bool.and_eq_true,beq_iff_eq] at h
 exact ⟨h.1.symm,h.2.symm⟩
theorem yS {C:Bool→Bool→Bool→Bool→Prop} :∀{gs:List Nat} {caps:List W} {r:List (Nat×Nat)},lU gs caps=some r→(∀p∈r,m p.1=some p.2)→caps.length=(eP gs).length∧∀(j:Nat) x y,caps[j]?=some x→(eP gs)[j]?=some y→Ww C m nil x y
 | [],[],r,_,_=>⟨rfl,fun j x y hx=>by simp at hx⟩
 | [],_::_,r,h,_=>by simp [lU] at h
 |_::_,[],r,h,_=>by simp [lU] at h
 |g'::gs,c::cs,r,h,hm=>by
  cases c with
  |box g off=>
   cases off with
   |succ off=>simp [lU] at h
   |zero=>
    simp only [lU] at h
    split at h
    ·rename_i r' hr'
     simp only [Option.some.injEq] at h;subst h
     obtain ⟨e1,e2⟩:=yS (C:=C) hr' (fun p hp=>hm p (by simp [hp]))
     refine ⟨by simp [eP,e1],fun j x y hx hy => ?_⟩
     cases j with
     |zero=>
      simp [eP] at hx hy;subst hx hy
      exact .box (hm (g',g) (by simp))
     |succ j=>simp [eP] at hx hy;exact e2 j x y hx hy
    ·cases h
  |_=>simp [lU] at h
theorem afn {k:WS} {x:W} {us:List P} {c:Bool×Bool} {r:List (Nat×Nat)} {n:Nat} (h:QI k x=some (us,c,r)) (hk:k.flags false true=true) (hc:cin c I) (hm :∀p∈r,m p.1=some p.2) (ha:At ins n us) :
  Ww (Cio I) m nil x (oD ins n k).1∧(oD ins n k).2=n+us.length:=by
 cases k with
 |p a' i'=>
  obtain ⟨rfl,rfl⟩:=Uh hk
  cases x with
  |p a i y=>
   simp only [QI,Option.some.injEq,Prod.mk.injEq] at h
   obtain ⟨rfl,rfl,rfl⟩:=h
   exact ⟨by simp only [oD,ha.head];exact .p y ⟨rfl,rfl,hc⟩,rfl⟩
  |bD=>
   simp only [QI,Option.some.injEq,Prod.mk.injEq] at h
   obtain ⟨rfl,rfl,rfl⟩:=h
   exact ⟨by simp only [oD,ha.head];exact .afj _ _ _,rfl⟩
  |_=>simp [QI] at h
 |own g'=>
  cases x with
  |own g=>
   simp only [QI,Option.some.injEq,Prod.mk.injEq] at h
   obtain ⟨rfl,rfl,rfl⟩:=h
   exact ⟨.own (hm (g',g) (by simp)),rfl⟩
  |_=>simp [QI] at h
 |box g' off'=>
  cases x with
  |box g off=>
   cases off' with
   |succ n=>simp [QI] at h
   |zero=>
    cases off with
    |succ n=>simp [QI] at h
    |zero=>
     simp only [QI,Option.some.injEq,Prod.mk.injEq] at h
     obtain ⟨rfl,rfl,rfl⟩:=h
     exact ⟨.box (hm (g',g) (by simp)),rfl⟩
  |_=>simp [QI] at h
 |fn f gs=>
  cases x with
  |clo f' caps=>
   simp only [QI] at h
   split at h
   ·rename_i hf
    subst hf
    split at h
    ·rename_i r' hr'
     simp only [Option.some.injEq,Prod.mk.injEq] at h
     obtain ⟨rfl,rfl,rfl⟩:=h
     obtain ⟨e1,e2⟩:=yS (C:=Cio I) (nil:=nil) hr' hm
     exact ⟨.clo f caps (eP gs) e1 e2,rfl⟩
    ·cases h
   ·cases h
  |_=>simp [QI] at h
 |_=>simp [QI] at h
theorem Ui :∀{ks:List WS} {xs:List W} {us:List P} {c:Bool×Bool} {r:List (Nat×Nat)} {n:Nat},LH ks xs=some (us,c,r)→(∀k∈ks,k.flags false true=true)→cin c I→(∀p∈r,m p.1=some p.2)→At ins n us→
  xs.length=(jP ins n ks).1.length∧(∀(j:Nat) x y,xs[j]?=some x→(jP ins n ks).1[j]?=some y→Ww (Cio I) m nil x y)∧(jP ins n ks).2=n+us.length
 | [],xs,us,c,r,n,h,hk,hc,hm,ha=>by
  cases xs with
  |nil=>simp [LH] at h;obtain ⟨rfl,_⟩:=h;exact ⟨rfl,fun j x y hx=>by simp at hx,rfl⟩
  |cons x xs=>simp [LH] at h
 |k::ks,xs,us,c,r,n,h,hk,hc,hm,ha=>by
  cases xs with
  |nil=>simp [LH] at h
  |cons x xs=>
   simp only [LH] at h
   split at h
   ·rename_i u c1 r1 u' c2 r2 h1 h2
    simp only [Option.some.injEq,Prod.mk.injEq] at h
    obtain ⟨rfl,rfl,rfl⟩:=h
    obtain ⟨a1,a2⟩:=afn (nil:=nil) h1 (hk k (by simp)) (rU hc) (fun p hp=>hm p (by simp [hp])) ha.left
    have ih:=Ui (n:=n+u.length) h2 (fun k hk'=>hk k (by simp [hk'])) (oG hc) (fun p hp=>hm p (by simp [hp])) ha.right
    simp only [jP,a2]
    refine ⟨by simp [ih.1],fun j x' y' hx hy => ?_,by rw [ih.2.2];simp;omega⟩
    cases j with
    |zero=>simp at hx hy;subst hx hy;exact a1
    |succ j=>simp at hx hy;exact ih.2.1 j x' y' hx hy
   ·cases h
theorem rV :∀{L:List (Nat×OS)} {ren ren':List (Nat×Nat)} {us:List P} {c:Bool×Bool} {n:Nat},iI o ren L=some (us,c,ren')→
  (∀p∈L,match p.2 with | .box ws =>∀k∈ws,k.flags false true=true | .arr fz a i _=>fz=false∧a=false∧i=true | .deep a i _ _=>a=false∧i=true | .it=>False)→cin c I→(∀p∈ren',m p.1=some p.2)→At ins n us→
  (∃r,ren'=ren++r)∧∀g' x,(eU ins n L).1.lookup g'=some x→∃g,m g'=some g∧Ow (Cio I) m nil (o g) x∧(g',g)∈ren'∧(o g).owned=true∧((∃ws,x=.box ws)∨(∃l sz,x=.arr false false true sz l)∨∃l sz cols,x=.deep false true sz cols l Option.none)
 | [],ren,ren',us,c,n,h,hk,hc,hm,ha=>by
  simp only [iI,Option.some.injEq,Prod.mk.injEq] at h
  obtain ⟨rfl,rfl,rfl⟩:=h
  exact ⟨⟨[],by simp⟩,fun g' x hx=>by simp [eU] at hx⟩
 |(g0,k)::L,ren,ren',us,c,n,h,hk,hc,hm,ha=>by
  simp only [iI] at h
  split at h
  ·rename_i g hg
   split at h
   ·rename_i ks ws hog
    split at h
    ·rename_i u c1 r1 h1
     split at h
     ·rename_i u' c2 r2 h2
      simp only [Option.some.injEq,Prod.mk.injEq] at h
      obtain ⟨rfl,rfl,rfl⟩:=h
      have hk0:=hk (g0,.box ks) (by simp)
      have ih:=fun hm'=>rV (n:=n+u.length) h2 (fun p hp=>hk p (by simp [hp])) (oG hc) hm' ha.right
      obtain ⟨⟨r,hr⟩,ih⟩:=ih hm
      obtain ⟨b0,b1,b2⟩:=Ui (nil:=nil) h1 hk0 (rU hc) (fun p hp=>hm p (by rw [hr];simp [hp])) ha.left
      simp only [eU,rO,b2]
      refine ⟨⟨r1++r,by rw [hr,List.append_assoc]⟩,fun g' x hx => ?_⟩
      simp only [List.lookup] at hx
      split at hx
      ·rename_i he
       have he:g'=g0:=by simpa using he
       subst he
       simp only [Option.some.injEq] at hx;subst hx
       have hmem:(g',g)∈r2:=by rw [hr,List.append_assoc];exact List.mem_append_left _ (jA hg)
       exact ⟨g,hm _ hmem,by rw [hog];exact .box _ _ b0 b1,hmem,by rw [hog];rfl,.inl ⟨_,rfl⟩⟩
      ·exact ih g' x hx
     ·cases h
    ·cases h
   ·rename_i fz0 a0 i0 sz a i sz' l hog
    split at h
    ·rename_i hsz
     split at h
     ·rename_i u' c2 r2 h2
      simp only [Option.some.injEq,Prod.mk.injEq] at h
      obtain ⟨rfl,rfl,rfl⟩:=h
      subst hsz
      have hk0:=hk (g0,.arr fz0 a0 i0 sz) (by simp)
      obtain ⟨rfl,rfl,rfl⟩:=hk0
      have hhead:At ins n [P.dY sz l]:=fun k y hk=>ha k y (by cases k with | zero=>simpa using hk | succ k=>simp at hk)
      have htail:At ins (n+1) u':=fun k y hk=>by
       have:=ha (k+1) y (by simpa using hk)
       rw [←this];congr 1;omega
      obtain ⟨⟨r,hr⟩,ih⟩:=rV (n:=n+1) h2 (fun p hp=>hk p (by simp [hp])) (oG hc) hm htail
      simp only [eU,rO,hhead.head,P.mP]
      refine ⟨⟨r,hr⟩,fun g' x hx => ?_⟩
      simp only [List.lookup] at hx
      split at hx
      ·rename_i he
       have he:g'=g0:=by simpa using he
       subst he
       simp only [Option.some.injEq] at hx;subst hx
       have hmem:(g',g)∈r2:=by rw [hr];exact List.mem_append_left _ (jA hg)
       exact ⟨g,hm _ hmem,by rw [hog];exact .arr false sz l ⟨rfl,rfl,rU hc⟩,hmem,by rw [hog];rfl,.inr (.inl ⟨_,_,rfl⟩)⟩
      ·exact ih g' x hx
     ·cases h
    ·cases h
   ·rename_i a0 i0 sz cols a i sz' jr l hog
    split at h
    ·rename_i hsz
     obtain ⟨rfl,rfl⟩:=hsz
     split at h
     ·rename_i u' c2 r2 h2
      simp only [Option.some.injEq,Prod.mk.injEq] at h
      obtain ⟨rfl,rfl,rfl⟩:=h
      have hk0:=hk (g0,.deep a0 i0 sz cols) (by simp)
      obtain ⟨rfl,rfl⟩:=hk0
      have hhead:At ins n [P.dY sz l]:=fun k y hk=>ha k y (by cases k with | zero=>simpa using hk | succ k=>simp at hk)
      have htail:At ins (n+1) u':=fun k y hk=>by
       have:=ha (k+1) y (by simpa using hk)
       rw [←this];congr 1;omega
      obtain ⟨⟨r,hr⟩,ih⟩:=rV (n:=n+1) h2 (fun p hp=>hk p (by simp [hp])) (oG hc) hm htail
      simp only [eU,rO,hhead.head,P.mP]
      refine ⟨⟨r,hr⟩,fun g' x hx => ?_⟩
      simp only [List.lookup] at hx
      split at hx
      ·rename_i he
       have he:g'=g0:=by simpa using he
       subst he
       simp only [Option.some.injEq] at hx;subst hx
       have hmem:(g',g)∈r2:=by rw [hr];exact List.mem_append_left _ (jA hg)
       exact ⟨g,hm _ hmem,by rw [hog];exact .deep sz cols l ⟨rfl,rfl,rU hc⟩,hmem,by rw [hog];rfl,.inr (.inr ⟨_,_,_,rfl⟩)⟩
      ·exact ih g' x hx
     ·cases h
    ·cases h
   ·cases h
  ·cases h
end
section
variable {E E':Env} {st est:St} {gh jX:Nat→Gh} {w:World} {ins:List P} {A:Bool×Bool} {sS:List Nat} {m:Nat→Option Nat} {nil:Nat→Prop} {C:Bool→Bool→Bool→Bool→Prop}
theorem Oj (hP :∀x v y a i gs,dH E st gh w x v→x.toP st.o=some (y,a,i,gs)→cin (a,i) A→(∀g∈gs,g∈sS)→bn w (E'.ok est jX w true false) y v) (hC:Cast C m nil E E' st est gh jX w)
  {k:WS} {x:W} {v:Value} {us:List P} {c:Bool×Bool} {gs:List Nat} {r:List (Nat×Nat)} {n:Nat} (h:dR st.o k x=some (us,c,gs,r)) (hk:k.flags true false=true) (hc:cin c A) (hgs :∀g∈gs,g∈sS)
  (hm :∀p∈r,m p.1=some p.2) (ha:At ins n us) (hr:dH E st gh w x v):dH E' est jX w (oD ins n k).1 v∧(oD ins n k).2=n+us.length:=by
 cases k with
 |p a' i'=>
  obtain ⟨rfl,rfl⟩:=Uh hk
  simp only [dR] at h
  split at h
  ·rename_i y a i gs' ht
   simp only [Option.some.injEq,Prod.mk.injEq] at h
   obtain ⟨rfl,rfl,rfl,rfl⟩:=h
   exact ⟨by simp only [oD,ha.head];exact .p _ _ _ _ (hP _ _ _ _ _ _ hr ht hc hgs),rfl⟩
  ·cases h
 |own g'=>
  cases x with
  |own g=>
   simp only [dR,Option.some.injEq,Prod.mk.injEq] at h
   obtain ⟨rfl,rfl,rfl,rfl⟩:=h
   exact ⟨hC.yI (.own (hm (g',g) (by simp))) hr,rfl⟩
  |_=>simp [dR] at h
 |box g' off=>
  cases x with
  |box g off'=>
   cases off with
   |succ off=>simp [dR] at h
   |zero=>
    cases off' with
    |succ off'=>simp [dR] at h
    |zero=>
     simp only [dR,Option.some.injEq,Prod.mk.injEq] at h
     obtain ⟨rfl,rfl,rfl,rfl⟩:=h
     exact ⟨hC.yI (.box (hm (g',g) (by simp))) hr,rfl⟩
  |_=>cases off<;>simp [dR] at h
 |fn f gs0=>
  cases x with
  |clo f' caps=>
   simp only [dR] at h
   split at h
   ·rename_i hf
    subst hf
    split at h
    ·rename_i r' hr'
     simp only [Option.some.injEq,Prod.mk.injEq] at h
     obtain ⟨rfl,rfl,rfl,rfl⟩:=h
     obtain ⟨e1,e2⟩:=yS (C:=C) (nil:=nil) hr' hm
     exact ⟨hC.yI (.clo f caps (eP gs0) e1 e2) hr,rfl⟩
    ·cases h
   ·cases h
  |_=>simp [dR] at h
 |_=>simp [dR] at h
theorem JA (hP :∀x v y a i gs,dH E st gh w x v→x.toP st.o=some (y,a,i,gs)→cin (a,i) A→(∀g∈gs,g∈sS)→bn w (E'.ok est jX w true false) y v) (hC:Cast C m nil E E' st est gh jX w) :
  ∀{ks:List WS} {xs:List W} {cs:List Value} {us:List P} {c:Bool×Bool} {gs:List Nat} {r:List (Nat×Nat)} {n:Nat},iO st.o ks xs=some (us,c,gs,r)→(∀k∈ks,k.flags true false=true)→cin c A→(∀g∈gs,g∈sS)→
   (∀p∈r,m p.1=some p.2)→At ins n us→xs.length=cs.length→(∀(j:Nat) x v,xs[j]?=some x→cs[j]?=some v→dH E st gh w x v)→
   (jP ins n ks).1.length=cs.length∧(∀(j:Nat) x v,(jP ins n ks).1[j]?=some x→cs[j]?=some v→dH E' est jX w x v)∧(jP ins n ks).2=n+us.length
 | [],xs,cs,us,c,gs,r,n,h,hk,hc,hgs,hm,ha,hl,hr=>by
  cases xs with
  |nil=>simp [iO] at h;obtain ⟨rfl,_⟩:=h;exact ⟨hl,fun j x v hx=>by simp [jP] at hx,rfl⟩
  |cons x xs=>simp [iO] at h
 |k::ks,xs,cs,us,c,gs,r,n,h,hk,hc,hgs,hm,ha,hl,hr=>by
  cases xs with
  |nil=>simp [iO] at h
  |cons x xs=>
   cases cs with
   |nil=>simp at hl
   |cons v cs=>
    simp only [iO] at h
    split at h
    ·rename_i u c1 g1 r1 u' c2 g2 r2 h1 h2
     simp only [Option.some.injEq,Prod.mk.injEq] at h
     obtain ⟨rfl,rfl,rfl,rfl⟩:=h
     obtain ⟨a1,a2⟩:=Oj hP hC h1 (hk k (by simp)) (rU hc) (fun g hg=>hgs g (by simp [hg])) (fun p hp=>hm p (by simp [hp])) ha.left (hr 0 x v rfl rfl)
     have ih:=JA hP hC (n:=n+u.length) h2 (fun k hk'=>hk k (by simp [hk'])) (oG hc) (fun g hg=>hgs g (by simp [hg])) (fun p hp=>hm p (by simp [hp])) ha.right (by simpa using hl)
      (fun j a b ha hb=>hr (j+1) a b (by simpa using ha) (by simpa using hb))
     simp only [jP,a2]
     refine ⟨by simp [ih.1],fun j x' v' hx hv => ?_,by rw [ih.2.2];simp;omega⟩
     cases j with
     |zero=>simp at hx hv;subst hx hv;exact a1
     |succ j=>simp at hx hv;exact ih.2.1 j x' v' hx hv
    ·cases h
theorem Yn (hP :∀x v y a i gs,dH E st gh w x v→x.toP st.o=some (y,a,i,gs)→cin (a,i) A→(∀g∈gs,g∈sS)→bn w (E'.ok est jX w true false) y v) (hC:Cast C m nil E E' st est gh jX w)
  {k:SS} {x:S} {v:Value} {us:List P} {c:Bool×Bool} {gs:List Nat} {r:List (Nat×Nat)} {n:Nat} (h:mW st.o k x=some (us,c,gs,r)) (hk:k.flags true false=true) (hc:cin c A) (hgs :∀g∈gs,g∈sS)
  (hm :∀p∈r,m p.1=some p.2) (ha:At ins n us) (hr:bI E st gh w x v):bI E' est jX w (mkS ins n k).1 v∧(mkS ins n k).2=n+us.length:=by
 cases k with
 |one k=>
  cases x with
  |v x=>
   cases x with
   |one x=>
    obtain ⟨a1,a2⟩:=Oj hP hC h hk hc hgs hm ha hr.bH
    exact ⟨bI.FH a1,a2⟩
   |agg xs=>simp [mW] at h
  |_=>simp [mW] at h
 |agg ks=>
  cases x with
  |v x=>
   cases x with
   |one x=>simp [mW] at h
   |agg xs=>
    obtain ⟨cs,hv,hl,hone,hrr⟩:=hr.ET
    simp only [SS.flags,List.all_eq_true] at hk
    obtain ⟨a0,a1,a2⟩:=JA hP hC h hk hc hgs hm ha hl hrr
    subst hv
    exact ⟨.v _ _ (.agg _ cs a0 hone a1),a2⟩
  |_=>simp [mW] at h
theorem Ae (hP :∀x v y a i gs,dH E st gh w x v→x.toP st.o=some (y,a,i,gs)→cin (a,i) A→(∀g∈gs,g∈sS)→bn w (E'.ok est jX w true false) y v) (hC:Cast C m nil E E' st est gh jX w) {args:List S} {vals:Nat→Value}
  (hr :∀t,bI E st gh w (args.getD t .no) (vals t)) :
  ∀{L:List (Nat×SS)} {us:List P} {c:Bool×Bool} {gs:List Nat} {r:List (Nat×Nat)} {n:Nat},dD st.o args L=some (us,c,gs,r)→(∀p∈L,p.2.flags true false=true)→cin c A→(∀g∈gs,g∈sS)→
   (∀p∈r,m p.1=some p.2)→At ins n us→(∀t x,(bF ins n L).1.lookup t=some x→bI E' est jX w x (vals t))∧(bF ins n L).2=n+us.length
 | [],us,c,gs,r,n,h,hk,hc,hgs,hm,ha=>by
  simp [dD] at h;obtain ⟨rfl,_⟩:=h;exact ⟨fun t x hx=>by simp [bF] at hx,rfl⟩
 |(t0,k)::L,us,c,gs,r,n,h,hk,hc,hgs,hm,ha=>by
  simp only [dD] at h
  split at h
  ·rename_i u c1 g1 r1 u' c2 g2 r2 h1 h2
   simp only [Option.some.injEq,Prod.mk.injEq] at h
   obtain ⟨rfl,rfl,rfl,rfl⟩:=h
   obtain ⟨a1,a2⟩:=Yn hP hC h1 (hk (t0,k) (by simp)) (rU hc) (fun g hg=>hgs g (by simp [hg])) (fun p hp=>hm p (by simp [hp])) ha.left (hr t0)
   have ih:=Ae hP hC hr (n:=n+u.length) h2 (fun p hp=>hk p (by simp [hp])) (oG hc) (fun g hg=>hgs g (by simp [hg])) (fun p hp=>hm p (by simp [hp])) ha.right
   simp only [bF,a2]
   refine ⟨fun t x hx => ?_,by rw [ih.2];simp;omega⟩
   simp only [List.lookup] at hx
   split at hx
   ·rename_i he
    have he:t=t0:=by simpa using he
    subst he
    simp only [Option.some.injEq] at hx;subst hx
    exact a1
   ·exact ih.1 t x hx
  ·cases h
end
end Go.Fw

namespace Go.Fw
set_option linter.unusedSectionVars false
variable [dw]
set_option linter.unusedVariables false
def Enters (Pg:Program) (f:FuncId):Prop :=∀(args:Array Value) (w:World),(callFunc f args).run Pg w=.ok (.enter f args) w
def Wh (rs:List Value):Value:=match rs with
 | [v]=>v
 |vs=>.tuple vs.toArray
def Sound (Pg:Program) (f:FuncId) (sp:Spec):Prop:=sp.sig.ok=true∧Enters Pg f∧
 ∀(E:Env) (w:World) (vals:List Value) (gh:Nat→Gh) (ins outs:List P),sp.R ins outs→E.B0=w.heap.size→E.w0=w→Rel E (mk sp.sig.pin ins) gh (fun k=>vals.getD k undef) w→vals.length=sp.sig.nargs→
  Calls Pg f vals.toArray w fun e w' =>∃(rs:List Value) (aT:Nat→Gh),rs.length=sp.sig.bM∧e=.returned (Wh rs)∧Rel E (mk sp.sig.aG outs) aT (fun k=>rs.getD k undef) w'∧∀g∈sp.sig.aN,((aT g).ad=(gh g).ad∧(aT g).cap=(gh g).cap)∧((mk sp.sig.pin ins).o g).like ((mk sp.sig.aG outs).o g)
theorem abI {o:Nat→O} {x:W} {y:P} {a i:Bool} {gs:List Nat} (h:x.toP o=some (y,a,i,gs)):vC o gs:=by
 cases x<;>simp only [W.toP] at h
 case p=>simp only [Option.some.injEq,Prod.mk.injEq] at h;obtain ⟨_,_,_,rfl⟩:=h;exact vC.nil
 case bD=>simp only [Option.some.injEq,Prod.mk.injEq] at h;obtain ⟨_,_,_,rfl⟩:=h;exact vC.nil
 case own g=>
  split at h
  ·rename_i ho
   simp only [Option.some.injEq,Prod.mk.injEq] at h;obtain ⟨_,_,_,rfl⟩:=h
   exact tC ho
  ·cases h
 case vw g lo hi=>
  split at h
  ·rename_i ho
   simp only [Option.some.injEq,Prod.mk.injEq] at h;obtain ⟨_,_,_,rfl⟩:=h
   exact tC ho
  ·cases h
 all_goals cases h
theorem Ol {o:Nat→O} {k:WS} {x:W} {us:List P} {c:Bool×Bool} {gs:List Nat} {r:List (Nat×Nat)} (h:dR o k x=some (us,c,gs,r)):vC o gs:=by
 cases k with
 |p a i=>
  simp only [dR] at h
  split at h
  ·rename_i ht
   simp only [Option.some.injEq,Prod.mk.injEq] at h
   obtain ⟨_,_,rfl,_⟩:=h
   exact abI ht
  ·cases h
 |own g'=>cases x<;>simp [dR] at h;obtain ⟨_,_,rfl,_⟩:=h;exact vC.nil
 |box g' off=>
  cases off with
  |succ off=>cases x<;>simp [dR] at h
  |zero=>
   cases x with
   |box g off=>cases off<;>simp [dR] at h;obtain ⟨_,_,rfl,_⟩:=h;exact vC.nil
   |_=>simp [dR] at h
 |bD=>simp [dR] at h
 |fn f gs0=>
  cases x with
  |clo f' caps=>
   simp only [dR] at h
   split at h
   ·split at h
    ·simp only [Option.some.injEq,Prod.mk.injEq] at h;obtain ⟨_,_,rfl,_⟩:=h;exact vC.nil
    ·cases h
   ·cases h
  |_=>simp [dR] at h
 |lH g'=>simp [dR] at h
 |no=>simp [dR] at h
 |vw g'=>simp [dR] at h
 |ep g' off=>simp [dR] at h
theorem JB {o:Nat→O} :∀{ks:List WS} {xs:List W} {us:List P} {c:Bool×Bool} {gs:List Nat} {r:List (Nat×Nat)},iO o ks xs=some (us,c,gs,r)→vC o gs
 | [],xs,us,c,gs,r,h=>by
  cases xs<;>simp [iO] at h
  obtain ⟨_,_,rfl,_⟩:=h;exact vC.nil
 |k::ks,xs,us,c,gs,r,h=>by
  cases xs with
  |nil=>simp [iO] at h
  |cons x xs=>
   simp only [iO] at h
   split at h
   ·rename_i h1 h2
    simp only [Option.some.injEq,Prod.mk.injEq] at h
    obtain ⟨_,_,rfl,_⟩:=h
    exact (Ol h1).append (JB h2)
   ·cases h
theorem tX {o:Nat→O} {args:List S} :∀{L:List (Nat×SS)} {us:List P} {c:Bool×Bool} {gs:List Nat} {r:List (Nat×Nat)},dD o args L=some (us,c,gs,r)→vC o gs
 | [],us,c,gs,r,h=>by simp [dD] at h;obtain ⟨_,_,rfl,_⟩:=h;exact vC.nil
 |(t,k)::L,us,c,gs,r,h=>by
  simp only [dD] at h
  split at h
  ·rename_i h1 h2
   simp only [Option.some.injEq,Prod.mk.injEq] at h
   obtain ⟨_,_,rfl,_⟩:=h
   refine vC.append ?_ (tX h2)
   ·cases k with
    |one k=>
     generalize args.getD t S.no=z at h1
     cases z with
     |v z=>
      cases z with
      |one z=>exact Ol h1
      |agg z=>simp [mW] at h1
     |_=>simp [mW] at h1
    |agg ks=>
     generalize args.getD t S.no=z at h1
     cases z with
     |v z=>
      cases z with
      |one z=>simp [mW] at h1
      |agg z=>exact JB h1
     |_=>simp [mW] at h1
  ·cases h
theorem tY {vs:List P} :∀{L:List (Nat×OS)} {n g:Nat},g∈L.map (·.1)→∃x,(eU vs n L).1.lookup g=some x
 | [],n,g,h=>by simp at h
 |(g0,k)::L,n,g,h=>by
  simp only [eU,List.lookup]
  by_cases e:g=g0
  ·subst e;simp
  ·have:(g==g0)=false:=by simpa using e
   rw [this]
   exact tY (by simpa [e] using h)
theorem jQ {vs:List P} :∀{L:List (Nat×OS)} {n g:Nat} {x:O},(eU vs n L).1.lookup g=some x→∃k n',(g,k)∈L∧x=(rO vs n' k).1
 | [],n,g,x,h=>by simp [eU] at h
 |(g0,k)::L,n,g,x,h=>by
  simp only [eU,List.lookup] at h
  split at h
  ·rename_i e
   have e:g=g0:=by simpa using e
   subst e
   simp only [Option.some.injEq] at h
   exact ⟨k,n,by simp,h.symm⟩
  ·obtain ⟨k',n',h1,h2⟩:=jQ h
   exact ⟨k',n',by simp [h1],h2⟩
theorem vP {vs:List P} :∀{L:List (Nat×SS)} {n t:Nat} {x:S},(bF vs n L).1.lookup t=some x→∃k n',(t,k)∈L∧x=(mkS vs n' k).1
 | [],n,t,x,h=>by simp [bF] at h
 |(t0,k)::L,n,t,x,h=>by
  simp only [bF,List.lookup] at h
  split at h
  ·rename_i e
   have e:t=t0:=by simpa using e
   subst e
   simp only [Option.some.injEq] at h
   exact ⟨k,n,by simp,h.symm⟩
  ·obtain ⟨k',n',h1,h2⟩:=vP h
   exact ⟨k',n',by simp [h1],h2⟩
theorem JC (vs:List P) (n:Nat) (k:WS):(oD vs n k).1.names=k.names:=by
 cases k with
 |fn f gs=>simp only [oD,rQ,tV,WS.names]
 |_=>simp [oD,W.names,WS.names]
theorem yT (vs:List P) :∀(n:Nat) (ks:List WS),(jP vs n ks).1.flatMap W.names=ks.flatMap WS.names
 |n,[]=>rfl
 |n,k::ks=>by simp [jP,JC,yT vs _ ks]
theorem Wi (vs:List P) (n:Nat) (k:SS):(mkS vs n k).1.names=k.names:=by
 cases k with
 |one k=>simpa [mkS,S.names,V.names,SS.names] using JC vs n k
 |agg ks=>simpa [mkS,S.names,V.names,SS.names] using yT vs n ks
theorem Wj (vs:List P) (n:Nat) (k:OS):(rO vs n k).1.names=k.names:=by
 cases k with
 |box ks=>simpa [rO,O.names,OS.names] using yT vs n ks
 |arr=>simp [rO,O.names,OS.names]
 |it=>simp [rO,O.names,OS.names]
 |deep=>simp [rO,O.names,OS.names,bJ]
theorem Rf {j:Shape} {vs:List P} {g:Nat} (h:(mk j vs).o g≠.none):(eU vs (bF vs 0 j.slots).2 j.objs).1.lookup g=some ((mk j vs).o g):=by
 unfold mk at h ⊢
 simp only at h ⊢
 split at h
 ·rename_i x hx;rw [hx]
 ·exact absurd rfl h
theorem JD {j:Shape} {vs:List P} {g:Nat} (h:g∉j.nms):(mk j vs).o g=.none:=by
 by_cases hn:(mk j vs).o g=.none
 ·exact hn
 ·obtain ⟨k,n',h1,h2⟩:=jQ (Rf hn)
  exact absurd (List.mem_map.2 ⟨_,h1,rfl⟩) h
theorem aex {j:Shape} (hj:j.ok=true) (vs:List P):(∀t,∀g∈((mk j vs).s t).names,(mk j vs).used g=true)∧(∀g,∀g'∈((mk j vs).o g).names,(mk j vs).used g'=true)∧∀g,(mk j vs).o g≠.none→(mk j vs).used g=true:=by
 simp only [Bool.and_eq_true,Shape.ok,List.all_eq_true,List.contains_eq_mem,decide_eq_true_eq] at hj
 refine ⟨fun t g hg => ?_,fun g g' hg' => ?_,fun g hg => ?_⟩
 ·have hg:g∈(match (bF vs 0 j.slots).1.lookup t with | some x=>x | none=>S.no).names:=hg
  cases hx:(bF vs 0 j.slots).1.lookup t with
  |none=>rw [hx] at hg;simp [S.names] at hg
  |some x=>
   rw [hx] at hg
   obtain ⟨k,n',h1,h2⟩:=vP hx
   subst h2
   simp only at hg
   rw [Wi] at hg
   simpa [mk] using hj.1.2 _ h1 g hg
 ·by_cases hn:(mk j vs).o g=.none
  ·rw [hn] at hg';simp [O.names] at hg'
  ·obtain ⟨k,n',h1,h2⟩:=jQ (Rf hn)
   rw [h2,Wj] at hg'
   simpa [mk] using hj.2 _ h1 g' hg'
 ·obtain ⟨k,n',h1,h2⟩:=jQ (Rf hg)
  simp only [mk,List.contains_eq_mem,decide_eq_true_eq,Shape.nms]
  exact List.mem_map.2 ⟨_,h1,rfl⟩
section
variable {E:Env} {st:St} {gh:Nat→Gh} {w:World} {val:Nat→Value}
def Uj (h:Rel E st gh val w) (st1:St) (c:Jf):Env where
 FA:=fun b=>E.ok st1 gh w c.A.1 c.A.2 b
 FI:=fun b=>E.ok st gh w c.I.1 c.I.2 b
 B0:=w.heap.size
 w0:=w
 Wr:=fun b =>∃p∈c.ren,(st.o p.2).owned=true∧(gh p.2).has b
 hg:=fun g sz rows hg=>by
  obtain ⟨g1,g2,g3⟩:=E.hg g sz rows hg
  refine ⟨Nat.lt_of_lt_of_le g1 h.size,?_,fun n x hx=>⟨(g3 n x hx).1,fun j y hy => ?_⟩⟩
  ·rintro ⟨p,hp,ho,h1⟩
   rcases (h.wr p.2 g ho h1).1 with q | q
   ·omega
   ·exact g2 q
  ·obtain ⟨u,hu1,hu2⟩:=(g3 n x hx).2 j y hy
   exact ⟨u,(World.cell?_of_block (w:=E.w0) (h.frame g g1 g2)).trans hu1,hu2.mono fun _ f=>f.elim⟩
theorem Dy {vs:List P} :∀{L:List (Nat×OS)} {n:Nat} {g:Nat} {k:OS},L.lookup g=some k→∃n',(eU vs n L).1.lookup g=some (rO vs n' k).1
 | [],n,g,k,h=>by cases h
 |(g0,k0)::L,n,g,k,h=>by
  simp only [eU,List.lookup] at h ⊢
  split at h
  ·cases h;exact ⟨_,rfl⟩
  ·exact Dy h
theorem LJ {j:Shape} {vs:List P} {g:Nat} {k:OS} (h:j.objs.lookup g=some k) :∃n',(mk j vs).o g=(rO vs n' k).1:=by
 obtain ⟨n',h1⟩:=Dy (vs:=vs) (n:=(bF vs 0 j.slots).2) h
 refine ⟨n',?_⟩
 show (match (eU vs (bF vs 0 j.slots).2 j.objs).1.lookup g with | some x=>x | none=>O.none)=_
 rw [h1]
theorem Om {j:Shape} {vs:List P} {g:Nat} (h:OS.Yl (j.objs.lookup g)=true) :∃ws,(mk j vs).o g=.box ws:=by
 cases hl:j.objs.lookup g with
 |none=>rw [hl] at h;cases h
 |some k=>
  rw [hl] at h
  cases k with
  |box ks=>obtain ⟨n',h1⟩:=LJ (vs:=vs) hl;exact ⟨_,h1⟩
  |arr=>cases h
  |it=>cases h
  |deep=>cases h
theorem xH.JE {s:xH} (h:s.Ym=true) {ins outs:List P} :∀g∈s.aN,((Fw.mk s.pin ins).o g).like ((Fw.mk s.aG outs).o g):=fun g hg=>by
 have:=(List.all_eq_true.1 h) g hg
 simp only [Bool.and_eq_true] at this
 obtain ⟨ws,e1⟩:=Om (vs:=ins) this.1
 obtain ⟨ws',e2⟩:=Om (vs:=outs) this.2
 rw [e1,e2];trivial
theorem lq {p:Nat×Nat} :∀{r:List (Nat×Nat)},p∈iW r↔p∈r
 | []=>Iff.rfl
 |q::r=>by
  simp only [iW]
  cases h:(r.any fun x=>Nat.beq x.1 q.1&&Nat.beq x.2 q.2) with
  |true=>
   simp only [lq (r:=r),List.mem_cons]
   refine ⟨.inr,fun hp => ?_⟩
   rcases hp with rfl | hp
   ·obtain ⟨x,hx,e⟩:=List.any_eq_true.1 h
    simp only [Bool.and_eq_true] at e
    have e1:=Nat.eq_of_beq_eq_true e.1
    have e2:=Nat.eq_of_beq_eq_true e.2
    have:x=p:=Prod.ext e1 e2
    rw [←this];exact hx
   ·exact hp
  |false=>simp only [List.mem_cons,lq (r:=r)]
def qx:O→O
 |.arr fz _ _ sz l=>.arr fz false false sz l
 |.deep _ _ sz cols l hole=>.deep false false sz cols l hole
 |x=>x
def qY:O→Bool×Bool
 |.arr _ a i _ _=>(a,i)
 |.deep a i _ _ _ _=>(a,i)
 |_=>(false,false)
def Rh:O→Bool
 |.arr _ _ _ _ _=>true
 |.deep _ _ _ _ _ _=>true
 |_=>false
theorem Ri {x y:O} (h:qx x=qx y) (hf:qY x=qY y) (ha:Rh x=true):x=y:=by
 cases x<;>simp only [Rh,Bool.false_eq_true] at ha<;>cases y<;>simp only [qx,qY,O.arr.injEq,O.deep.injEq,Prod.mk.injEq,reduceCtorEq] at h hf
 ·obtain ⟨rfl,_,_,rfl,rfl⟩:=h;obtain ⟨rfl,rfl⟩:=hf;rfl
 ·obtain ⟨_,_,rfl,rfl,rfl,rfl⟩:=h;obtain ⟨rfl,rfl⟩:=hf;rfl
theorem Wn {s:xH} (hok:s.ok=true) {o:Nat→O} {args:List S} {c:Jf} (hc:fF s o args=some c) (hf:c.fine s=true) :∀p∈c.ren,Rh (o p.2)=true→qx ((mk s.pin c.ins).o p.1)=qx (o p.2):=by
 unfold fF at hc
 split at hc
 ·rename_i u A gs r hsl
  split at hc
  ·rename_i u' I r' hob
   simp only [Option.some.injEq] at hc;subst hc
   simp only [Jf.fine,Bool.and_eq_true,List.all_eq_true,LG,List.contains_eq_mem,decide_eq_true_eq,Bool.not_eq_true',decide_eq_false_iff_not,List.mem_map,forall_exists_index,and_imp,forall_apply_eq_imp_iff₂] at hf
   obtain ⟨⟨⟨hn2,hn1⟩,hdisj⟩,hkeys⟩:=hf
   have hn1:=iq hn1
   have hok':=hok
   simp only [xH.ok,Bool.and_eq_true] at hok'
   obtain ⟨⟨⟨⟨⟨⟨⟨⟨Yo,Uk⟩,hps⟩,hpo⟩,_⟩,_⟩,_⟩,_⟩,_⟩:=hok'
   have hm :∀p∈r',(fun g'=>(iW r').lookup g') p.1=some p.2:=fun p hp=>kP hn1 (lq.2 hp)
   have hAt:At (u++u') 0 (u++u'):=fun k y hk=>by rw [Nat.zero_add];exact hk
   have afo :∀p∈s.pin.objs,match p.2 with | .box ws =>∀k∈ws,k.flags false true=true | .arr fz a i _=>fz=false∧a=false∧i=true | .deep a i _ _=>a=false∧i=true | .it=>False:=by
    intro p hp
    have:=(List.all_eq_true.1 hpo) p hp
    obtain ⟨g,k⟩:=p
    cases k with
    |box ws=>
     simp only [Bool.and_eq_true,List.all_eq_true] at this
     exact fun k hk=>this.1 k hk
    |arr fz a i sz=>
     simp only [Bool.and_eq_true,Bool.not_eq_true'] at this
     exact ⟨this.1.1,this.1.2,this.2⟩
    |deep a i sz cols=>
     simp only [Bool.and_eq_true,Bool.not_eq_true'] at this
     exact this
    |it=>simp at this
   have Oo:(bF (u++u') 0 s.pin.slots).2=u.length:=by
    have :∀{L:List (Nat×SS)} {us:List P} {c:Bool×Bool} {gs:List Nat} {r:List (Nat×Nat)} {n:Nat} (vs:List P),dD o args L=some (us,c,gs,r)→(∀p∈L,p.2.flags true false=true)→(bF vs n L).2=n+us.length:=by
     intro L
     induction L with
     |nil=>intro us c gs r n vs h _;simp [dD] at h;obtain ⟨rfl,_⟩:=h;rfl
     |cons p L ih=>
      intro us c gs r n vs h hk
      obtain ⟨t0,k⟩:=p
      simp only [dD] at h
      split at h
      ·rename_i u c1 g1 r1 u' c2 g2 r2 h1 h2
       simp only [Option.some.injEq,Prod.mk.injEq] at h
       obtain ⟨rfl,rfl,rfl,rfl⟩:=h
       have e1:(mkS vs n k).2=n+u.length:=by
        have hkk:=hk (t0,k) (by simp)
        have one :∀(k:WS) (x:W) (us:List P) (c:Bool×Bool) (gs:List Nat) (r:List (Nat×Nat)) (n:Nat),dR o k x=some (us,c,gs,r)→(oD vs n k).2=n+us.length:=by
         intro k x us c gs r n h
         cases k with
         |p a i=>
          simp only [dR] at h
          split at h
          ·simp only [Option.some.injEq,Prod.mk.injEq] at h;obtain ⟨rfl,_⟩:=h;rfl
          ·cases h
         |own g'=>cases x<;>simp [dR] at h;obtain ⟨rfl,_⟩:=h;rfl
         |box g' off=>
          cases off with
          |succ off=>cases x<;>simp [dR] at h
          |zero=>
           cases x with
           |box g off=>cases off<;>simp [dR] at h;obtain ⟨rfl,_⟩:=h;rfl
           |_=>simp [dR] at h
         |bD=>simp [dR] at h
         |fn f gs0=>
          cases x with
          |clo f' caps=>
           simp only [dR] at h
           split at h
           ·split at h
            ·simp only [Option.some.injEq,Prod.mk.injEq] at h;obtain ⟨rfl,_⟩:=h;rfl
            ·cases h
           ·cases h
          |_=>simp [dR] at h
         |lH g'=>simp [dR] at h
         |no=>simp [dR] at h
         |vw g'=>simp [dR] at h
         |ep g' off=>simp [dR] at h
        cases k with
        |one k=>
         generalize args.getD t0 S.no=z at h1
         cases z with
         |v z=>
          cases z with
          |one z=>exact one k z _ _ _ _ n h1
          |agg z=>simp [mW] at h1
         |_=>simp [mW] at h1
        |agg ks=>
         generalize args.getD t0 S.no=z at h1
         cases z with
         |v z=>
          cases z with
          |one z=>simp [mW] at h1
          |agg z=>
           have :∀(ks:List WS) (z:List W) (us:List P) (c:Bool×Bool) (gs:List Nat) (r:List (Nat×Nat)) (n:Nat),iO o ks z=some (us,c,gs,r)→(jP vs n ks).2=n+us.length:=by
            intro ks
            induction ks with
            |nil=>intro z us c gs r n h;cases z<;>simp [iO] at h;obtain ⟨rfl,_⟩:=h;rfl
            |cons k ks ih=>
             intro z us c gs r n h
             cases z with
             |nil=>simp [iO] at h
             |cons x xs=>
              simp only [iO] at h
              split at h
              ·rename_i u c1 g1 r1 u' c2 g2 r2 h1 h2
               simp only [Option.some.injEq,Prod.mk.injEq] at h
               obtain ⟨rfl,rfl,rfl,rfl⟩:=h
               simp only [jP]
               rw [one k x _ _ _ _ n h1,ih _ _ _ _ _ _ h2];simp;omega
              ·cases h
           exact this ks z _ _ _ _ n h1
         |_=>simp [mW] at h1
       simp only [bF]
       rw [e1,ih vs h2 (fun p hp=>hk p (by simp [hp]))];simp;omega
      ·cases h
    have:=this (n:=0) (u++u') hsl (fun p hp=>by have:=(List.all_eq_true.1 hps) p hp;simp only [Bool.and_eq_true] at this;exact this.1)
    omega
   obtain ⟨⟨r0,hr0⟩,Oq⟩:=rV (m:=fun g'=>(iW r').lookup g') (nil:=fun _=>False) (I:=I) (ins:=u++u') (n:=u.length) hob afo (F7 I) hm (by have:=hAt.right;rwa [Nat.zero_add] at this)
   have Bo :∀g' x,(mk s.pin (u++u')).o g'=x→x≠.none→∃g,(iW r').lookup g'=some g∧Ow (Cio I) (fun g'=>(iW r').lookup g') (fun _=>False) (o g) x∧(g',g)∈iW r'∧(o g).owned=true∧((∃ws,x=.box ws)∨(∃l sz,x=.arr false false true sz l)∨∃l sz cols,x=.deep false true sz cols l none):=by
    intro g' x hx hne
    have:=Rf (j:=s.pin) (vs:=u++u') (g:=g') (by rw [hx];exact hne)
    rw [Oo,hx] at this
    obtain ⟨g,k1,k2,k3,k4⟩:=Oq g' x this
    exact ⟨g,k1,k2,lq.2 k3,k4⟩
   intro p hp ha
   have hkey:p.1∈s.pin.objs.map (·.1):=hkeys p hp
   obtain ⟨x,hx⟩:=tY (vs:=u++u') (n:=u.length) hkey
   obtain ⟨g,hg,how,hmem,hown,hsh⟩:=Oq p.1 x hx
   have hl:=kP hn1 hp
   have:g=p.2:=by have hg':(iW r').lookup p.1=some g:=hg;rw [hl] at hg';exact (Option.some.inj hg').symm
   subst this
   have hmk:(mk s.pin (u++u')).o p.1=x:=by
    show (match (eU (u++u') (bF (u++u') 0 s.pin.slots).2 s.pin.objs).1.lookup p.1 with | some x=>x | none=>O.none)=x
    rw [Oo,hx]
   rw [hmk]
   generalize hz:o p.2=z at how ha
   rcases hsh with ⟨ws,rfl⟩ | ⟨l,sz,rfl⟩ | ⟨l,sz,cols,rfl⟩
   ·cases how;cases ha
   ·cases how;rfl
   ·cases how;rfl
  ·cases hc
 ·cases hc
theorem Rj (h:Rel E st gh val w) {s:xH} (hok:s.ok=true) {args:List S} {vals:Nat→Value} (hr :∀t,bI E st gh w (args.getD t .no) (vals t)) {c:Jf} (hc:fF s st.o args=some c) (hf:c.fine s=true)
  (st1:St) (hst1:st1=st.upd (c.sS.map (Fw.freeze st.o)) []) (E':Env) (hE':E'=Uj h st1 c) :
  Rel E st1 gh val w∧Lets E st st1 gh gh w w∧Rel E' (mk s.pin c.ins) (iH gh fun g'=>c.ren.lookup g') vals w∧
  (∀p∈c.ren,(st.o p.2).owned=true∧p.2∉c.sS∧c.ren.lookup p.1=some p.2∧((s.aN.contains p.1=true∧∃ws ws',st.o p.2=.box ws∧(mk s.pin c.ins).o p.1=.box ws')∨(∃a i sz l,st.o p.2=.arr false a i sz l∧cin (a,i) c.I∧(mk s.pin c.ins).o p.1=.arr false false true sz l)∨(∃a i sz cols l,st.o p.2=.deep a i sz cols l none∧cin (a,i) c.I∧(mk s.pin c.ins).o p.1=.deep false true sz cols l none))):=by
 unfold fF at hc
 split at hc
 ·rename_i u A gs r hsl
  split at hc
  ·rename_i u' I r' hob
   simp only [Option.some.injEq] at hc;subst hc
   simp only [Jf.fine,Bool.and_eq_true,List.all_eq_true,LG,List.contains_eq_mem,decide_eq_true_eq,Bool.not_eq_true',decide_eq_false_iff_not,List.mem_map,forall_exists_index,and_imp,forall_apply_eq_imp_iff₂] at hf
   obtain ⟨⟨⟨hn2,hn1⟩,hdisj⟩,hkeys⟩:=hf
   have hn1:=iq hn1
   have hok':=hok
   simp only [xH.ok,Bool.and_eq_true] at hok'
   obtain ⟨⟨⟨⟨⟨⟨⟨⟨Yo,Uk⟩,hps⟩,hpo⟩,_⟩,_⟩,_⟩,_⟩,_⟩:=hok'
   have afp:=tX hsl
   obtain ⟨f1,f2⟩:=Rel.freezes gs h afp
   subst hst1
   have hm :∀p∈r',(fun g'=>(iW r').lookup g') p.1=some p.2:=fun p hp=>kP hn1 (lq.2 hp)
   have hAt:At (u++u') 0 (u++u'):=fun k y hk=>by rw [Nat.zero_add];exact hk
   have afo :∀p∈s.pin.objs,match p.2 with | .box ws =>∀k∈ws,k.flags false true=true | .arr fz a i _=>fz=false∧a=false∧i=true | .deep a i _ _=>a=false∧i=true | .it=>False:=by
    intro p hp
    have:=(List.all_eq_true.1 hpo) p hp
    obtain ⟨g,k⟩:=p
    cases k with
    |box ws=>
     simp only [Bool.and_eq_true,List.all_eq_true] at this
     exact fun k hk=>this.1 k hk
    |arr fz a i sz=>
     simp only [Bool.and_eq_true,Bool.not_eq_true'] at this
     exact ⟨this.1.1,this.1.2,this.2⟩
    |deep a i sz cols=>
     simp only [Bool.and_eq_true,Bool.not_eq_true'] at this
     exact this
    |it=>simp at this
   have Oo:(bF (u++u') 0 s.pin.slots).2=u.length:=by
    have :∀{L:List (Nat×SS)} {us:List P} {c:Bool×Bool} {gs:List Nat} {r:List (Nat×Nat)} {n:Nat} (vs:List P),dD st.o args L=some (us,c,gs,r)→(∀p∈L,p.2.flags true false=true)→(bF vs n L).2=n+us.length:=by
     intro L
     induction L with
     |nil=>intro us c gs r n vs h _;simp [dD] at h;obtain ⟨rfl,_⟩:=h;rfl
     |cons p L ih=>
      intro us c gs r n vs h hk
      obtain ⟨t0,k⟩:=p
      simp only [dD] at h
      split at h
      ·rename_i u c1 g1 r1 u' c2 g2 r2 h1 h2
       simp only [Option.some.injEq,Prod.mk.injEq] at h
       obtain ⟨rfl,rfl,rfl,rfl⟩:=h
       have e1:(mkS vs n k).2=n+u.length:=by
        have hkk:=hk (t0,k) (by simp)
        have one :∀(k:WS) (x:W) (us:List P) (c:Bool×Bool) (gs:List Nat) (r:List (Nat×Nat)) (n:Nat),dR st.o k x=some (us,c,gs,r)→(oD vs n k).2=n+us.length:=by
         intro k x us c gs r n h
         cases k with
         |p a i=>
          simp only [dR] at h
          split at h
          ·simp only [Option.some.injEq,Prod.mk.injEq] at h;obtain ⟨rfl,_⟩:=h;rfl
          ·cases h
         |own g'=>cases x<;>simp [dR] at h;obtain ⟨rfl,_⟩:=h;rfl
         |box g' off=>
          cases off with
          |succ off=>cases x<;>simp [dR] at h
          |zero=>
           cases x with
           |box g off=>cases off<;>simp [dR] at h;obtain ⟨rfl,_⟩:=h;rfl
           |_=>simp [dR] at h
         |bD=>simp [dR] at h
         |fn f gs0=>
          cases x with
          |clo f' caps=>
           simp only [dR] at h
           split at h
           ·split at h
            ·simp only [Option.some.injEq,Prod.mk.injEq] at h;obtain ⟨rfl,_⟩:=h;rfl
            ·cases h
           ·cases h
          |_=>simp [dR] at h
         |lH g'=>simp [dR] at h
         |no=>simp [dR] at h
         |vw g'=>simp [dR] at h
         |ep g' off=>simp [dR] at h
        cases k with
        |one k=>
         generalize args.getD t0 S.no=z at h1
         cases z with
         |v z=>
          cases z with
          |one z=>exact one k z _ _ _ _ n h1
          |agg z=>simp [mW] at h1
         |_=>simp [mW] at h1
        |agg ks=>
         generalize args.getD t0 S.no=z at h1
         cases z with
         |v z=>
          cases z with
          |one z=>simp [mW] at h1
          |agg z=>
           have :∀(ks:List WS) (z:List W) (us:List P) (c:Bool×Bool) (gs:List Nat) (r:List (Nat×Nat)) (n:Nat),iO st.o ks z=some (us,c,gs,r)→(jP vs n ks).2=n+us.length:=by
            intro ks
            induction ks with
            |nil=>intro z us c gs r n h;cases z<;>simp [iO] at h;obtain ⟨rfl,_⟩:=h;rfl
            |cons k ks ih=>
             intro z us c gs r n h
             cases z with
             |nil=>simp [iO] at h
             |cons x xs=>
              simp only [iO] at h
              split at h
              ·rename_i u c1 g1 r1 u' c2 g2 r2 h1 h2
               simp only [Option.some.injEq,Prod.mk.injEq] at h
               obtain ⟨rfl,rfl,rfl,rfl⟩:=h
               simp only [jP]
               rw [one k x _ _ _ _ n h1,ih _ _ _ _ _ _ h2];simp;omega
              ·cases h
           exact this ks z _ _ _ _ n h1
         |_=>simp [mW] at h1
       simp only [bF]
       rw [e1,ih vs h2 (fun p hp=>hk p (by simp [hp]))];simp;omega
      ·cases h
    have:=this (n:=0) (u++u') hsl (fun p hp=>by have:=(List.all_eq_true.1 hps) p hp;simp only [Bool.and_eq_true] at this;exact this.1)
    omega
   obtain ⟨⟨r0,hr0⟩,Oq⟩:=rV (m:=fun g'=>(iW r').lookup g') (nil:=fun _=>False) (I:=I) (ins:=u++u') (n:=u.length) hob afo (F7 I) hm (by have:=hAt.right;rwa [Nat.zero_add] at this)
   have Bo :∀g' x,(mk s.pin (u++u')).o g'=x→x≠.none→∃g,(iW r').lookup g'=some g∧Ow (Cio I) (fun g'=>(iW r').lookup g') (fun _=>False) (st.o g) x∧(g',g)∈iW r'∧(st.o g).owned=true∧((∃ws,x=.box ws)∨(∃l sz,x=.arr false false true sz l)∨∃l sz cols,x=.deep false true sz cols l none):=by
    intro g' x hx hne
    have:=Rf (j:=s.pin) (vs:=u++u') (g:=g') (by rw [hx];exact hne)
    rw [Oo,hx] at this
    obtain ⟨g,k1,k2,k3,k4⟩:=Oq g' x this
    exact ⟨g,k1,k2,lq.2 k3,k4⟩
   have fU :∀p∈iW r',(st.o p.2).owned=true∧p.2∉gs∧(iW r').lookup p.1=some p.2∧((s.aN.contains p.1=true∧∃ws ws',st.o p.2=.box ws∧(mk s.pin (u++u')).o p.1=.box ws')∨(∃a i sz l,st.o p.2=.arr false a i sz l∧cin (a,i) I∧(mk s.pin (u++u')).o p.1=.arr false false true sz l)∨(∃a i sz cols l,st.o p.2=.deep a i sz cols l none∧cin (a,i) I∧(mk s.pin (u++u')).o p.1=.deep false true sz cols l none)):=by
    intro p hp
    have hkey:p.1∈s.pin.objs.map (·.1):=hkeys p hp
    obtain ⟨x,hx⟩:=tY (vs:=u++u') (n:=u.length) hkey
    obtain ⟨g,hg,how,hmem,hown,_⟩:=Oq p.1 x hx
    have hl:=kP hn1 hp
    have:g=p.2:=by have hg':(iW r').lookup p.1=some g:=hg;rw [hl] at hg';exact (Option.some.inj hg').symm
    subst this
    refine ⟨hown,hdisj p hp,hl,?_⟩
    have hmk:(mk s.pin (u++u')).o p.1=x:=by
     show (match (eU (u++u') (bF (u++u') 0 s.pin.slots).2 s.pin.objs).1.lookup p.1 with | some x=>x | none=>O.none)=x
     rw [Oo,hx]
    obtain ⟨k,n',h1,h2⟩:=jQ hx
    have hk:=(List.all_eq_true.1 hpo) _ h1
    rw [hmk]
    subst h2
    cases k with
    |box ws=>
     simp only [Bool.and_eq_true] at hk
     generalize hz:st.o p.2=z at how
     cases how
     exact .inl ⟨hk.2,_,_,rfl,rfl⟩
    |arr fz a i sz=>
     simp only [Bool.and_eq_true,Bool.not_eq_true'] at hk
     obtain ⟨⟨rfl,rfl⟩,rfl⟩:=hk
     generalize hz:st.o p.2=z at how
     refine .inr (.inl ?_)
     cases how with | arr _ _ _ hc=>exact ⟨_,_,_,_,rfl,hc.2.2,rfl⟩
    |deep a i sz cols=>
     simp only [Bool.and_eq_true,Bool.not_eq_true'] at hk
     obtain ⟨rfl,rfl⟩:=hk
     generalize hz:st.o p.2=z at how
     refine .inr (.inr ?_)
     cases how with | deep _ _ _ hc=>exact ⟨_,_,_,_,_,rfl,hc.2.2,rfl⟩
    |it=>simp at hk
   have nR :∀g' b,((mk s.pin (u++u')).o g').owned=true→(iH gh (fun g'=>(iW r').lookup g') g').has b→∃g,(g',g)∈iW r'∧(st.o g).owned=true∧(gh g).has b∧g∉gs:=by
    intro g' b ho had
    obtain ⟨g,hg,_,hmem,hown,_⟩:=Bo g' _ rfl (by intro e;rw [e] at ho;cases ho)
    refine ⟨g,hmem,hown,?_,(fU _ hmem).2.1⟩
    simpa [iH,hg] using had
   have ahI :∀g,g∉gs→(st.upd (gs.map (Fw.freeze st.o)) []).o g=st.o g:=by
    intro g hg
    rw [eF,if_neg hg]
   have hcast:Cast (Cio I) (fun g'=>(iW r').lookup g') (fun _=>False) E E' st (mk s.pin (u++u')) gh (iH gh fun g'=>(iW r').lookup g') w:=by
    refine ⟨fun a i a' i' b hC hb => ?_,fun g g' hg sz len ho=>⟨by simp only [iH,hg];exact ⟨trivial,trivial⟩,?_⟩,fun g g' hg ws ho=>⟨by simp only [iH,hg],?_⟩,fun g g' hg s n ho=>⟨by simp only [iH,hg],?_⟩,fun g' hf=>hf.elim⟩
    ·obtain ⟨rfl,rfl,hci⟩:=hC
     subst hE'
     refine ⟨.inr (.inl ⟨rfl,.inl (Env.nI hci.1 hci.2 hb)⟩),hb.2.1,fun g' ho had => ?_⟩
     obtain ⟨g,_,h1,h2,_⟩:=nR g' b ho had
     exact hb.2.2 g h1 h2
    ·obtain ⟨g2,hg2,how,_⟩:=Bo g' _ rfl (by intro e;rw [e] at ho;cases ho)
     rw [hg] at hg2;cases hg2
     exact how.dim ho
    ·obtain ⟨g2,hg2,how,_⟩:=Bo g' _ ho (by simp)
     rw [hg] at hg2;cases hg2
     generalize st.o g=z at how
     cases how;exact ⟨_,rfl⟩
    ·obtain ⟨g2,hg2,how,_⟩:=Bo g' _ ho (by simp)
     rw [hg] at hg2;cases hg2
     generalize st.o g=z at how
     cases how;exact ⟨_,_,rfl⟩
   have hP :∀x v y a i gs',dH E st gh w x v→x.toP st.o=some (y,a,i,gs')→cin (a,i) A→(∀g∈gs',g∈gs)→bn w (E'.ok (mk s.pin (u++u')) (iH gh fun g'=>(iW r').lookup g') w true false) y v:=by
    intro x v y a i gs' hrx ht hci hsub
    have:=(Le h hrx ht).2 _ (fun g hg=>by rw [eF,if_pos (hsub g hg)]) f1 f2
    refine this.mono fun b hb=>⟨?_,rfl⟩
    subst hE'
    refine ⟨.inl ⟨rfl,Env.nI hci.1 hci.2 hb⟩,hb.2.1,fun g' ho had => ?_⟩
    obtain ⟨g,_,h1,h2,h3⟩:=nR g' b ho had
    exact hb.2.2 g (by rw [ahI g h3];exact h1) h2
   have akR :∀p∈s.pin.slots,p.2.flags true false=true:=fun p hp=>by have:=(List.all_eq_true.1 hps) p hp;simp only [Bool.and_eq_true] at this;exact this.1
   have qW:=(Ae hP hcast hr (n:=0) hsl akR (F7 A) (fun g hg=>hg) (fun p hp=>hm p (by rw [hr0];exact List.mem_append_left _ hp)) hAt.left).1
   have hus:=aex Yo (u++u')
   refine ⟨f1,f2,⟨fun t => ?_,fun g' => ?_,fun g1 g2 b h1 h2 k1 k2 => ?_,fun g' b ho had => ?_,fun g' i b ho had hw => ?_,fun g' ho hd b => ?_,fun b hb => ?_,fun b _ _ => ?_,?_,?_,?_,?_,hus.1,hus.2.1,hus.2.2⟩,fU⟩
   ·show bI _ _ _ _ (match (bF (u++u') 0 s.pin.slots).1.lookup t with | some x=>x | none=>.no) _
    cases hx:(bF (u++u') 0 s.pin.slots).1.lookup t with
    |none=>exact .no _
    |some x=>exact qW t x hx
   ·by_cases hne:(mk s.pin (u++u')).o g'=.none
    ·rw [hne];trivial
    ·obtain ⟨g,hg,how,_⟩:=Bo g' _ rfl hne
     have:iH gh (fun g'=>(iW r').lookup g') g'=gh g:=by simp only [iH,hg]
     rw [this]
     exact hcast.zO how (h.objs g)
   ·obtain ⟨q1,m1,o1,d1,_⟩:=nR g1 b h1 k1
    obtain ⟨q2,m2,o2,d2,_⟩:=nR g2 b h2 k2
    have:=h.inj q1 q2 b o1 o2 d1 d2
    subst this
    have hn2:=iq hn2
    have key :∀{l:List (Nat×Nat)},(l.map (·.2)).Nodup→(g1,q1)∈l→(g2,q1)∈l→g1=g2:=by
     intro l
     induction l with
     |nil=>intro _ h;cases h
     |cons p l ih=>
      intro hn e1 e2
      simp only [List.map_cons,List.nodup_cons] at hn
      rcases List.mem_cons.1 e1 with f1 | f1<;>rcases List.mem_cons.1 e2 with f2 | f2
      ·rw [←f1] at f2;cases f2;rfl
      ·have:q1∈l.map (·.2):=List.mem_map.2 ⟨(g2,q1),f2,rfl⟩
       rw [←f1] at hn;exact absurd this hn.1
      ·have:q1∈l.map (·.2):=List.mem_map.2 ⟨(g1,q1),f1,rfl⟩
       rw [←f2] at hn;exact absurd this hn.1
      ·exact ih hn.2 f1 f2
    exact key hn2 m1 m2
   ·obtain ⟨g,hmem,h1,h2,_⟩:=nR g' b ho had
    subst hE'
    exact ⟨.inr ⟨(g',g),hmem,h1,h2⟩,(h.wr g b h1 h2).2⟩
   ·obtain ⟨g,hg,how,hmem,hown,hsh⟩:=Bo g' _ rfl (by intro e;rw [e] at ho;cases ho)
    rcases hsh with ⟨ws,e⟩ | ⟨l',sz',e⟩ | ⟨l',sz',cols,e⟩
    ·rw [e] at ho;cases ho
    ·rw [e] at ho;cases ho;rfl
    ·rw [e] at ho;cases ho;rfl
   ·obtain ⟨g,hg,how,hmem,hown,hsh⟩:=Bo g' _ rfl (by intro e;rw [e] at ho;cases ho)
    have e:iH gh (fun g'=>(iW r').lookup g') g'=gh g:=by simp only [iH,hg]
    rw [e]
    exact h.ns g hown (by rw [(how.owned ho).2];exact hd) b
   ·subst hE'
    obtain ⟨p,hp,_,h1⟩:=hb
    exact (h.wr p.2 b (fU p hp).1 h1).2
   ·subst hE';rfl
   ·subst hE';exact Nat.le_refl _
   ·subst hE';rfl
   ·subst hE';rfl
   ·subst hE';rfl
  ·cases hc
 ·cases hc
end
end Go.Fw

namespace Go.Fw
set_option linter.unusedSectionVars false
variable [dw]
set_option linter.unusedVariables false
def Dz (A I:Bool×Bool) (lk:Bool) (a i a' i':Bool):Prop:=(a',i')=oU A I a i∧(a=true→lk=true)
section
variable {A I:Bool×Bool} {lk:Bool} {m:Nat→Option Nat} {f:Nat→Nat} {news:List Nat} {vs:List P}
theorem aey (hm :∀g∈news,m (f g)=some g) {k:WS} (hk:k.outs news=true) (hl:k.isA=true→lk=true) (n:Nat) :
  Ww (Dz A I lk) m (fun _=>False) (oD vs n k).1 (QJ A I f (oD vs n k).1)∧∀g∈(QJ A I f (oD vs n k).1).names,∃g0∈news,g=f g0:=by
 cases k with
 |p a i=>exact ⟨.p _ ⟨rfl,hl⟩,by simp [oD,QJ,W.names]⟩
 |own g=>
  simp only [WS.outs,List.contains_eq_mem,decide_eq_true_eq] at hk
  exact ⟨.own (hm g hk),fun g' hg'=>⟨g,hk,by simpa [oD,QJ,W.names] using hg'⟩⟩
 |bD=>exact ⟨.bD,by simp [oD,QJ,W.names]⟩
 |box g off=>
  simp only [WS.outs,List.contains_eq_mem,decide_eq_true_eq] at hk
  exact ⟨.box (hm g hk),fun g' hg'=>⟨g,hk,by simpa [oD,QJ,W.names] using hg'⟩⟩
 |fn fn gs=>
  have hk :∀g∈gs,g∈news:=by simpa [WS.outs,List.all_eq_true] using hk
  have key :∀(gs:List Nat),(∀g∈gs,g∈news)→(eP gs).length=(jF f (eP gs)).length∧(∀(j:Nat) x y,(eP gs)[j]?=some x→(jF f (eP gs))[j]?=some y→Ww (Dz A I lk) m (fun _=>False) x y)∧∀g∈(jF f (eP gs)).flatMap W.names,∃g0∈news,g=f g0:=by
   intro gs
   induction gs with
   |nil=>intro _;exact ⟨rfl,fun j x y hx=>(by simp [eP] at hx),by simp [eP,jF]⟩
   |cons g gs ih=>
    intro h
    obtain ⟨e1,e2,e3⟩:=ih fun g hg=>h g (by simp [hg])
    refine ⟨by simp [eP,jF,e1],fun j x y hx hy => ?_,fun g' hg' => ?_⟩
    ·cases j with
     |zero=>
      simp [eP,jF] at hx hy;subst hx hy
      exact .box (hm g (h g (by simp)))
     |succ j=>simp [eP,jF] at hx hy;exact e2 j x y hx hy
    ·simp only [eP,jF,List.flatMap_cons,List.mem_append] at hg'
     rcases hg' with hg' | hg'
     ·exact ⟨g,h g (by simp),by simpa [W.names] using hg'⟩
     ·exact e3 g' hg'
  obtain ⟨e1,e2,e3⟩:=key gs hk
  exact ⟨.clo fn _ _ e1 e2,fun g hg=>by
   have hg:g∈(W.clo fn (jF f (eP gs))).names:=hg
   rw [rQ] at hg
   exact e3 g hg⟩
 |lH g=>cases hk
 |no=>cases hk
 |vw g=>cases hk
 |ep g off=>cases hk
theorem Ot :∀{ks:List WS} {n:Nat} {x:W},x∈(jP vs n ks).1→∃k∈ks,∃n',x=(oD vs n' k).1
 | [],n,x,h=>by simp [jP] at h
 |k::ks,n,x,h=>by
  simp only [jP,List.mem_cons] at h
  rcases h with h | h
  ·exact ⟨k,by simp,n,h⟩
  ·obtain ⟨k',h1,h2⟩:=Ot h
   exact ⟨k',by simp [h1],h2⟩
theorem Yp (hm :∀g∈news,m (f g)=some g) {ks:List WS} (hk:ks.all (WS.outs news)=true) (hl:ks.any WS.isA=true→lk=true) (n:Nat) :
  (∀(j:Nat) x y,(jP vs n ks).1[j]?=some x→((jP vs n ks).1.map (QJ A I f))[j]?=some y→Ww (Dz A I lk) m (fun _=>False) x y)∧
  ∀g∈((jP vs n ks).1.map (QJ A I f)).flatMap W.names,∃g0∈news,g=f g0:=by
 have key :∀x∈(jP vs n ks).1,Ww (Dz A I lk) m (fun _=>False) x (QJ A I f x)∧∀g∈(QJ A I f x).names,∃g0∈news,g=f g0:=by
  intro x hx
  obtain ⟨k,h1,n',rfl⟩:=Ot hx
  exact aey hm ((List.all_eq_true.1 hk) k h1) (fun h=>hl (List.any_eq_true.2 ⟨k,h1,h⟩)) n'
 refine ⟨fun j x y hx hy => ?_,fun g hg => ?_⟩
 ·rw [List.getElem?_map,hx] at hy
  simp only [Option.map_some,Option.some.injEq] at hy
  subst hy
  exact (key x (List.mem_of_getElem? hx)).1
 ·simp only [List.mem_flatMap,List.mem_map] at hg
  obtain ⟨_,⟨x,hx,rfl⟩,hg⟩:=hg
  exact (key x hx).2 g hg
theorem ahJ (hm :∀g∈news,m (f g)=some g) {k:SS} (hk:k.outs news=true) (hl:k.isA=true→lk=true) (n:Nat) :
  ∃x,(mkS vs n k).1=.v x∧Vw (Dz A I lk) m (fun _=>False) x (reV A I f x)∧∀g∈(reV A I f x).names,∃g0∈news,g=f g0:=by
 cases k with
 |one k=>
  obtain ⟨h1,h2⟩:=aey (vs:=vs) (A:=A) (I:=I) hm hk hl n
  exact ⟨_,rfl,.one h1,h2⟩
 |agg ks=>
  obtain ⟨h1,h2⟩:=Yp (vs:=vs) (A:=A) (I:=I) hm hk hl n
  exact ⟨_,rfl,.agg _ _ (by simp) h1,h2⟩
theorem ahK (hm :∀g∈news,m (f g)=some g) {k:OS} (hk :∀ws,k=.box ws→ws.all (WS.outs news)=true) (hl:k.isA=true→lk=true) (n:Nat) :
  Ow (Dz A I lk) m (fun _=>False) (rO vs n k).1 (uX A I f (rO vs n k).1)∧∀g∈(uX A I f (rO vs n k).1).names,∃g0∈news,g=f g0:=by
 cases k with
 |box ks=>
  obtain ⟨h1,h2⟩:=Yp (vs:=vs) (A:=A) (I:=I) hm (hk ks rfl) hl n
  exact ⟨.box _ _ (by simp) h1,h2⟩
 |arr fz a i sz=>exact ⟨.arr _ _ _ ⟨rfl,hl⟩,by simp [rO,uX,O.names]⟩
 |it=>exact ⟨.it _ _,by simp [rO,uX,O.names]⟩
 |deep a i sz cols=>exact ⟨.deep _ _ _ ⟨rfl,hl⟩,by simp [rO,uX,O.names,bJ]⟩
end
theorem JG {A I:Bool×Bool} {f:Nat→Nat} (x:O):(uX A I f x).owned=x.owned:=by cases x<;>rfl
theorem Rl {A I:Bool×Bool} {f:Nat→Nat} (x:O):(uX A I f x).mO=x.mO:=by cases x<;>rfl
theorem abJ {A I:Bool×Bool} {f:Nat→Nat} (x:O):(uX A I f x).dim=x.dim:=by cases x<;>rfl
theorem Wp {A I:Bool×Bool} {f:Nat→Nat} {x:O} {i:Bool} (h:(uX A I f x).inner=some i) :∃a i0,x.inner=some i0∧i=(oU A I a i0).2:=by
 cases x with
 |arr fz a i0 sz l=>
  cases fz with
  |false=>cases h;exact ⟨a,i0,rfl,rfl⟩
  |true=>cases h
 |deep a i0 sz cols l hole=>cases h;exact ⟨a,i0,rfl,rfl⟩
 |_=>cases h
theorem abK {A I:Bool×Bool} {f:Nat→Nat} {x:O} {ws:List W} (h:uX A I f x=.box ws) :∃ws',x=.box ws':=by cases x<;>first | exact ⟨_,rfl⟩ | cases h
theorem afq {A I:Bool×Bool} {f:Nat→Nat} {x:O} {s n:P} (h:uX A I f x=.it s n) :∃s' n',x=.it s' n':=by cases x<;>first | exact ⟨_,_,rfl⟩ | cases h
theorem DC {d:Nat} {news:List Nat} {g g':Nat} (hg:g∈news) (h:newName d news g=newName d news g'):g=g':=by
 unfold newName at h
 have e:news.idxOf g=news.idxOf g':=by omega
 have h1:news.idxOf g<news.length:=List.idxOf_lt_length_of_mem hg
 have h2:news.idxOf g'<news.length:=by omega
 have a1:=List.getElem_idxOf h1
 have a2:=List.getElem_idxOf h2
 rw [←a1,←a2];congr 1
def vS (d:Nat) (news:List Nat) (g:Nat):Option Nat:=news.find? fun g0=>newName d news g0==g
theorem LK {d:Nat} {news:List Nat} {g:Nat} (hg:g∈news):vS d news (newName d news g)=some g:=by
 unfold vS
 cases h:news.find? fun g0=>newName d news g0==newName d news g with
 |none=>have:=List.find?_eq_none.1 h g hg;simp at this
 |some g'=>
  have h1:=List.find?_some h
  simp only [beq_iff_eq] at h1
  rw [DC (List.mem_of_find?_eq_some h) h1]
theorem Jg {d:Nat} {news:List Nat} {g g0:Nat} (h:vS d news g=some g0):g0∈news∧newName d news g0=g:=by
 unfold vS at h
 exact ⟨List.mem_of_find?_eq_some h,by simpa using List.find?_some h⟩
theorem jY {α:Type} {g:Nat} :∀{l r:List (Nat×α)},(l++r).lookup g=(l.lookup g).or (r.lookup g)
 | [],r=>by simp
 |(k,v)::l,r=>by
  simp only [List.cons_append,List.lookup]
  split
  ·rfl
  ·exact jY
theorem vT {α:Type} {k:Nat→Nat} {v:Nat→α} {g:Nat} :∀{l:List Nat},(∀g'∈l,k g'≠g)→(l.map fun x=>(k x,v x)).lookup g=none
 | [],_=>rfl
 |x::l,h=>by
  have:(g==k x)=false:=by have:=h x (by simp);simp;exact fun e=>this e.symm
  simp only [List.map_cons,List.lookup,this]
  exact vT fun g' hg'=>h g' (by simp [hg'])
theorem uM {α:Type} {k:Nat→Nat} {v:Nat→α} {g0:Nat} :∀{l:List Nat},g0∈l→(∀g'∈l,k g'=k g0→g'=g0)→(l.map fun x=>(k x,v x)).lookup (k g0)=some (v g0)
 | [],h,_=>by cases h
 |x::l,h,hi=>by
  simp only [List.map_cons,List.lookup]
  by_cases e:k x=k g0
  ·have:=hi x (by simp) e
   subst this;simp
  ·have:(k g0==k x)=false:=by simp;exact fun h=>e h.symm
   rw [this]
   rcases List.mem_cons.1 h with h | h
   ·subst h;exact absurd rfl e
   ·exact uM h fun g' hg'=>hi g' (by simp [hg'])
theorem jR {α:Type} {v:Nat×Nat→α} {p:Nat×Nat} :∀{l:List (Nat×Nat)},(l.map (·.2)).Nodup→p∈l→(l.map fun p=>(p.2,v p)).lookup p.2=some (v p)
 | [],_,h=>by cases h
 |x::l,hn,h=>by
  simp only [List.map_cons,List.nodup_cons] at hn
  simp only [List.map_cons,List.lookup]
  rcases List.mem_cons.1 h with h | h
  ·subst h;simp
  ·have:(p.2==x.2)=false:=by
    simp only [beq_eq_false_iff_ne]
    intro e
    exact hn.1 (e▸List.mem_map.2 ⟨p,h,rfl⟩)
   rw [this]
   exact jR hn.2 h
theorem kE {α:Type} {v:Nat×Nat→α} {g:Nat} :∀{l:List (Nat×Nat)},g∉l.map (·.2)→(l.map fun p=>(p.2,v p)).lookup g=none
 | [],_=>rfl
 |x::l,h=>by
  simp only [List.map_cons,List.mem_cons,not_or] at h
  have:(g==x.2)=false:=by simpa using h.1
  simp only [List.map_cons,List.lookup,this]
  exact kE h.2
theorem O.BJ {z:O} (h:O.none.like z):z=.none:=by cases z<;>first | rfl | exact h.elim
theorem O.F8 {x y z:O} (h1:x.like y) (h2:y.like z):z=.none∨x.like z:=.inr (O.like.trans h1 h2)
theorem Rn {s:xH} {o:Nat→O} {args:List S} {c:Jf} (hc:fF s o args=some c):vC o c.sS:=by
 unfold fF at hc
 split at hc
 ·rename_i hsl
  split at hc
  ·simp only [Option.some.injEq] at hc;subst hc
   exact tX hsl
  ·cases hc
 ·cases hc
theorem yU {α:Type} {g:Nat} {v:α} :∀{l:List (Nat×α)},l.lookup g=some v→(g,v)∈l
 | [],h=>by cases h
 |(k,x)::l,h=>by
  simp only [List.lookup] at h
  split at h
  ·rename_i e
   simp only [beq_iff_eq] at e
   cases h;subst e;simp
  ·exact List.mem_cons_of_mem _ (yU h)
theorem qy {o:Nat→O} :∀{L:List (Nat×OS)} {r r':List (Nat×Nat)} {u:List P} {c:Bool×Bool},iI o r L=some (u,c,r')→(∀p∈r,p∈r')∧∀p∈L,∃q∈r',q.1=p.1
 | [],r,r',u,c,h=>by simp only [iI,Option.some.injEq,Prod.mk.injEq] at h;obtain ⟨_,_,rfl⟩:=h;exact ⟨fun p hp=>hp,fun p hp=>by cases hp⟩
 |(g',k)::rest,r,r',u,c,h=>by
  simp only [iI] at h
  split at h
  ·rename_i g hg
   have hmem:=yU hg
   have fin :∀{r1:List (Nat×Nat)},(∀p∈r,p∈r1)→((∀p∈r1,p∈r')∧∀p∈rest,∃q∈r',q.1=p.1)→(∀p∈r,p∈r')∧∀p∈(g',k)::rest,∃q∈r',q.1=p.1:=by
    intro r1 h1 ⟨h2,h3⟩
    refine ⟨fun p hp=>h2 p (h1 p hp),fun p hp => ?_⟩
    rcases List.mem_cons.1 hp with rfl | hp
    ·exact ⟨_,h2 _ (h1 _ hmem),rfl⟩
    ·exact h3 p hp
   split at h
   ·split at h
    ·split at h
     ·rename_i h2
      simp only [Option.some.injEq,Prod.mk.injEq] at h
      obtain ⟨_,_,rfl⟩:=h
      exact fin (fun p hp=>List.mem_append_left _ hp) (qy h2)
     ·cases h
    ·cases h
   ·split at h
    ·split at h
     ·rename_i h2
      simp only [Option.some.injEq,Prod.mk.injEq] at h
      obtain ⟨_,_,rfl⟩:=h
      exact fin (fun p hp=>hp) (qy h2)
     ·cases h
    ·cases h
   ·split at h
    ·split at h
     ·rename_i h2
      simp only [Option.some.injEq,Prod.mk.injEq] at h
      obtain ⟨_,_,rfl⟩:=h
      exact fin (fun p hp=>hp) (qy h2)
     ·cases h
    ·cases h
   ·cases h
  ·cases h
theorem abL {j:Shape} {vs:List P} {g:Nat} {a i:Bool} {sz:Nat} {cols:List (Nat×Nat)} {l:List (List P)} {hole:Option (Nat×Nat×Nat)} (h:(mk j vs).o g=.deep a i sz cols l hole):hole=none:=by
 have h1:=Rf (j:=j) (vs:=vs) (g:=g) (by rw [h];simp)
 obtain ⟨k,n',_,h2⟩:=jQ h1
 rw [h] at h2
 cases k<;>simp [rO] at h2
 exact h2.2.2.2.2.2
theorem F9 {s:xH} {d:Nat} {o:Nat→O} {c:Jf} {outs:List P} (hf:c.fine s=true) {p:Nat×Nat} (hp:p∈c.ren) (DF:s.aN.contains p.1=true) :
  (fZ s d o c outs).upd.lookup p.2=some (uX c.A c.I (callName d s c.ren) ((mk s.aG outs).o p.1)):=by
 simp only [Jf.fine,Bool.and_eq_true] at hf
 obtain ⟨⟨⟨hn2,hn1⟩,hdisj⟩,hkeys⟩:=hf
 have hnb:p.2∉c.sS:=by
  have:=(List.all_eq_true.1 hdisj) p.2 (List.mem_map.2 ⟨p,hp,rfl⟩)
  simpa using this
 have h1:(if s.kN=true then c.sS.map (freeze o) else []).lookup p.2=none:=by
  split
  ·have :∀(l:List Nat),p.2∉l→(l.map (freeze o)).lookup p.2=none:=by
    intro l
    induction l with
    |nil=>intro _;rfl
    |cons g l ih=>
     intro hl
     simp only [List.mem_cons,not_or] at hl
     have e:(p.2==(freeze o g).1)=false:=by
      have:(freeze o g).1=g:=rfl
      rw [this];simpa using hl.1
     simp only [List.map_cons,List.lookup,e]
     exact ih hl.2
   exact this _ hnb
  ·rfl
 have h2:=jR (v:=fun p=>if s.aN.contains p.1=true then uX c.A c.I (callName d s c.ren) ((mk s.aG outs).o p.1) else .none) (iq hn2) hp
 rw [if_pos DF] at h2
 show (((if s.kN=true then c.sS.map (freeze o) else [])++c.ren.map _)++s.news.map _).lookup p.2=_
 rw [jY,jY,h1,h2];rfl
theorem Wq {s:xH} (hok:s.ok=true) {d:Nat} {o:Nat→O} {args:List S} {c:Jf} (hc:fF s o args=some c) (hf:c.fine s=true) {outs:List P} {p:Nat×Nat} (hp:p∈c.ren) (DF:s.aN.contains p.1=true)
  (hk:qx ((mk s.aG outs).o p.1)=qx ((mk s.pin c.ins).o p.1)) (ha:Rh (o p.2)=true) (hfl:qY (uX c.A c.I (callName d s c.ren) ((mk s.aG outs).o p.1))=qY (o p.2)) :
  (fZ s d o c outs).upd.lookup p.2=some (o p.2):=by
 rw [F9 hf hp DF]
 have hcore:=hk.trans (Wn hok hc hf p hp ha)
 have hm:=fun {a i:Bool} {sz:Nat} {cols:List (Nat×Nat)} {l:List (List P)} {hole:Option (Nat×Nat×Nat)}=>abL (j:=s.aG) (vs:=outs) (g:=p.1) (a:=a) (i:=i) (sz:=sz) (cols:=cols) (l:=l) (hole:=hole)
 congr 1
 generalize (mk s.aG outs).o p.1=x at hcore hfl hm
 have e:qx (uX c.A c.I (callName d s c.ren) x)=qx (o p.2):=by
  rw [←hcore]
  cases x with
  |deep a i sz cols l hole=>have:=hm rfl;subst this;rfl
  |arr fz a i sz l=>rfl
  |_=>
   generalize o p.2=z at hcore ha
   cases z<;>first | (cases ha;done) | (simp [qx] at hcore;done)
 exact (Ri e.symm hfl.symm ha).symm
theorem Ou {s:xH} {o:Nat→O} {args:List S} {c:Jf} (hc:fF s o args=some c) :∀p∈s.pin.objs,∃q∈c.ren,q.1=p.1:=by
 unfold fF at hc
 split at hc
 ·split at hc
  ·rename_i DF
   simp only [Option.some.injEq] at hc;subst hc
   exact fun p hp=>let ⟨q,h1,h2⟩:=(qy DF).2 p hp;⟨q,lq.2 h1,h2⟩
  ·cases hc
 ·cases hc
section
variable {E:Env} {st:St} {gh:Nat→Gh} {w:World} {val:Nat→Value}
theorem JH {sp:Spec} (hok:sp.sig.ok=true) (h:Rel E st gh val w) {args:List S} {vals:List Value} (hr :∀t,bI E st gh w (args.getD t .no) (vals.getD t undef))
  {c:Jf} (hc:fF sp.sig st.o args=some c) (hf:c.fine sp.sig=true) :
  ∃(E':Env) (jX:Nat→Gh),E'.B0=w.heap.size∧E'.w0=w∧Rel E' (mk sp.sig.pin c.ins) jX (fun k=>vals.getD k undef) w∧(∀b,E'.Wr b→∃c e f,w.heap[b]?=some (.cells c e f))∧
  ∀(d:Nat) (outs:List P) (ef:Eff),ef=fZ sp.sig d st.o c outs→(∀g∈ef.new,st.used g=false)→∀(w':World) (rs:List Value) (vJ:Nat→Gh),rs.length=sp.sig.bM→Rel E' (mk sp.sig.aG outs) vJ (fun k=>rs.getD k undef) w'→(∀g∈sp.sig.aN,((vJ g).ad=(jX g).ad∧(vJ g).cap=(jX g).cap)∧((mk sp.sig.pin c.ins).o g).like ((mk sp.sig.aG outs).o g))→
   ∃aT,Rel E (st.upd ef.upd ef.new) aT val w'∧Lets E st (st.upd ef.upd ef.new) gh aT w w'∧bI E (st.upd ef.upd ef.new) aT w' ef.x (Wh rs)∧∀g∈ef.x.names,(st.upd ef.upd ef.new).used g=true:=by
 have hrr :∀t,bI E st gh w (args.getD t .no) ((fun k=>vals.getD k undef) t):=hr
 obtain ⟨h1,hL1,hE,fU⟩:=Rj h hok hrr hc hf _ rfl _ rfl
 refine ⟨_,_,rfl,rfl,hE,fun b hb => ?_,fun d outs ef hef hnew w' rs vJ hrl hx Ro => ?_⟩
 ·obtain ⟨p,hp,ow,e1⟩:=hb
  have hO:=h.objs p.2
  rcases (fU p hp).2.2.2 with ⟨_,ws,_,e,_⟩ | ⟨a,i,sz,l,e,_⟩ | ⟨a,i,sz,cols,l,e,_⟩
  ·rw [e] at hO
   obtain ⟨ad',c,e',q1,_,q3,_⟩:=hO
   rcases e1 with ⟨ad,k1,k2⟩ | k1
   ·rw [k1] at q1;cases q1;rw [←k2];exact ⟨_,_,_,q3⟩
   ·rw [h.ns p.2 ow (by rw [e];rfl) b] at k1;cases k1
  ·rw [e] at hO
   rcases e1 with ⟨ad,k1,k2⟩ | k1
   ·rcases hO with ⟨q1,_⟩ | ⟨ad',c,e',q1,_,q3,_⟩
    ·rw [k1] at q1;cases q1
    ·rw [k1] at q1;cases q1;rw [←k2];exact ⟨_,_,_,q3⟩
   ·rw [h.ns p.2 ow (by rw [e];rfl) b] at k1;cases k1
  ·rw [e] at hO
   rcases hO with ⟨q1,_,_,q2⟩ | ⟨ad',c,e',q1,_,q3,_,_,_,⟨_,q4⟩,_⟩
   ·rcases e1 with ⟨ad,k1,k2⟩ | k1
    ·rw [k1] at q1;cases q1
    ·rw [q2 b] at k1;cases k1
   ·rcases e1 with ⟨ad,k1,k2⟩ | k1
    ·rw [k1] at q1;cases q1;rw [←k2];exact ⟨_,_,_,q3⟩
    ·exact q4 b k1
 generalize hst1:st.upd (c.sS.map (Fw.freeze st.o)) []=st1 at h1 hL1 hE hx
 generalize hE':Uj h st1 c=E' at hE hx
 generalize Ws:mk sp.sig.aG outs=vg at hx
 have hok':=hok
 simp only [xH.ok,Bool.and_eq_true] at hok'
 obtain ⟨⟨⟨⟨⟨⟨⟨⟨Yo,Uk⟩,hps⟩,hpo⟩,hos⟩,yJ⟩,hdisj⟩,hnn⟩,aez⟩:=hok'
 have hnn:=iq hnn
 simp only [Jf.fine,Bool.and_eq_true] at hf
 have hn2:=iq hf.1.1.1
 have afr :∀g∈sp.sig.news,sp.sig.aN.contains g=false:=by
  intro g hg
  cases hi:sp.sig.aN.contains g with
  |false=>rfl
  |true=>
   have:=(List.all_eq_true.1 hdisj) g (by simpa using hi)
   simp [hg] at this
 generalize hfn:callName d sp.sig c.ren=f
 have Ov :∀g∈sp.sig.news,f g=newName d sp.sig.news g:=fun g hg=>by subst hfn;unfold callName;rw [afr g hg]
 have anE:sp.sig.news.map f=sp.sig.news.map (newName d sp.sig.news):=List.map_congr_left Ov
 have afs :∀g,sp.sig.aN.contains g=true→∃g',(g,g')∈c.ren∧f g=g':=by
  intro g hi
  have ahL:=(List.all_eq_true.1 aez) g (by simpa using hi)
  cases h1:sp.sig.pin.objs.lookup g with
  |none=>rw [h1] at ahL;cases ahL
  |some k1=>
   obtain ⟨q,hq,e⟩:=Ou hc _ (yU h1)
   obtain ⟨q1,q2⟩:=q
   simp only at e;subst e
   refine ⟨q2,hq,?_⟩
   subst hfn
   unfold callName
   rw [hi,(fU _ hq).2.2.1]
 generalize hbk:vS d sp.sig.news=bk
 have hbn :∀g∈sp.sig.news,bk (f g)=some g:=fun g hg=>by rw [Ov g hg];subst hbk;exact LK hg
 have hbs :∀g g0,bk g=some g0→g0∈sp.sig.news∧f g0=g:=fun g g0 hb=>by subst hbk;obtain ⟨b1,b2⟩:=Jg hb;exact ⟨b1,by rw [Ov g0 b1];exact b2⟩
 have hfi :∀g∈sp.sig.news,∀g'∈sp.sig.news,f g=f g'→g=g':=fun g hg g' hg' e=>by rw [Ov g hg,Ov g' hg'] at e;exact DC hg e
 have abM:ef.new=sp.sig.news.map f:=by subst hef;subst hfn;rfl
 have aft:ef.upd=(if sp.sig.kN then c.sS.map (Fw.freeze st.o) else [])++c.ren.map (fun p=>(p.2,if sp.sig.aN.contains p.1 then uX c.A c.I f (vg.o p.1) else .none))++sp.sig.news.map (fun g=>(f g,uX c.A c.I f (vg.o g))):=by
  subst hef;subst hfn;subst Ws;rfl
 have ahM:ef.x=V9 ((List.range sp.sig.bM).map fun k=>Ug c.A c.I f (vg.s k)):=by subst hef;subst hfn;subst Ws;rfl
 have aoy :∀g,bk g=none→g∉ef.new:=fun g hb hm=>by
  rw [abM] at hm;obtain ⟨g0,h1,rfl⟩:=List.mem_map.1 hm
  rw [hbn g0 h1] at hb;cases hb
 have hbu :∀g,st.used g=true→bk g=none:=fun g hu=>by
  cases hb:bk g with
  |none=>rfl
  |some g0=>
   obtain ⟨h1,h2⟩:=hbs g g0 hb
   have:=hnew g (by rw [abM];exact List.mem_map.2 ⟨g0,h1,h2⟩)
   rw [hu] at this;cases this
 let stB:St:=if sp.sig.kN then st1 else st
 have hB:Rel E stB gh val w∧Lets E st stB gh gh w w:=by
  by_cases hlk:sp.sig.kN=true
  ·have:stB=st1:=by simp [stB,hlk]
   rw [this];exact ⟨h1,hL1⟩
  ·have:stB=st:=by simp [stB,hlk]
   rw [this];exact ⟨h,⟨fun a i b hb=>⟨hb,rfl⟩,fun g _=>.inr ⟨⟨rfl,rfl⟩,O.dJ _⟩⟩⟩
 obtain ⟨Wu,hLB⟩:=hB
 have hBs:stB.s=st.s:=by
  by_cases hlk:sp.sig.kN=true
  ·have:stB=st1:=by simp [stB,hlk]
   rw [this,←hst1];rfl
  ·have:stB=st:=by simp [stB,hlk]
   rw [this]
 have hBu:stB.used=st.used:=by
  by_cases hlk:sp.sig.kN=true
  ·have:stB=st1:=by simp [stB,hlk]
   rw [this,←hst1];rfl
  ·have:stB=st:=by simp [stB,hlk]
   rw [this]
 have hBo :∀g,stB.o g=(if g∈c.sS∧sp.sig.kN=true then (Fw.freeze st.o g).2 else st.o g):=by
  intro g
  by_cases hlk:sp.sig.kN=true
  ·have:stB=st1:=by simp [stB,hlk]
   rw [this,←hst1,eF]
   by_cases hg:g∈c.sS<;>simp [hg,hlk]
  ·have:stB=st:=by simp [stB,hlk]
   rw [this];simp [hlk]
 have Ul :∀g,(stB.o g).owned=true→(st.o g).owned=true:=by
  intro g hg
  rw [hBo] at hg
  split at hg
  ·cases hp:plainO st.o g with
   |none=>simpa [Fw.freeze,hp] using hg
   |some x=>
    obtain ⟨a,i,sz,l⟩:=x
    rw [kZ hp] at hg;cases hg
  ·exact hg
 have hBr :∀p∈c.ren,stB.o p.2=st.o p.2:=by
  intro p hp
  rw [hBo,if_neg fun h=>(fU p hp).2.1 h.1]
 generalize abN:st.upd ef.upd ef.new=Gf
 have hFs:Gf.s=st.s:=by subst abN;rfl
 have hFu :∀g,st.used g=true→Gf.used g=true:=fun g hg=>by subst abN;simp [St.upd,hg]
 have hFn :∀g∈sp.sig.news,Gf.used (f g)=true:=fun g hg=>by
  subst abN
  have:f g∈ef.new:=by rw [abM];exact List.mem_map.2 ⟨g,hg,rfl⟩
  simp [St.upd,this]
 have Um :∀p∈c.ren,st.used p.2=true:=fun p hp=>h.ul p.2 (by intro e;have:=(fU p hp).1;rw [e] at this;cases this)
 have anG :∀g∈c.sS,st.used g=true∨st.o g=.none:=fun g hg=>by
  by_cases hn:st.o g=.none
  ·exact .inr hn
  ·exact .inl (h.ul g hn)
 have hFo :∀g,Gf.o g=match ef.upd.lookup g with | some x=>x | none=>st.o g:=fun g=>by subst abN;rfl
 have Un :∀g∈sp.sig.news,Gf.o (f g)=uX c.A c.I f (vg.o g):=by
  intro g hg
  have hfu:st.used (f g)=false:=hnew _ (by rw [abM];exact List.mem_map.2 ⟨g,hg,rfl⟩)
  have e2:(c.ren.map (fun p=>(p.2,if sp.sig.aN.contains p.1 then uX c.A c.I f (vg.o p.1) else .none))).lookup (f g)=none:=kE fun hm=>by
   obtain ⟨p,hp,e⟩:=List.mem_map.1 hm
   rw [←e,Um p hp] at hfu;cases hfu
  have e3:=uM (k:=f) (v:=fun g=>uX c.A c.I f (vg.o g)) hg fun g' hg' e=>hfi g' hg' g hg e
  have e1:(if sp.sig.kN then c.sS.map (Fw.freeze st.o) else []).lookup (f g)=none:=by
   split
   ·rw [kM,if_neg]
    intro hm
    have:=vC.used h (Rn hc) hm
    rw [this] at hfu;cases hfu
   ·rfl
  rw [hFo,aft,jY,jY,e1,e2,e3];rfl
 have JI :∀p∈c.ren,Gf.o p.2=if sp.sig.aN.contains p.1 then uX c.A c.I f (vg.o p.1) else .none:=by
  intro p hp
  have e1:(if sp.sig.kN then c.sS.map (Fw.freeze st.o) else []).lookup p.2=none:=by
   split
   ·rw [kM,if_neg (fU p hp).2.1]
   ·rfl
  have e2:=jR (v:=fun p=>if sp.sig.aN.contains p.1 then uX c.A c.I f (vg.o p.1) else O.none) hn2 hp
  rw [hFo,aft,jY,jY,e1,e2];rfl
 have Ox :∀g,bk g=none→g∉c.ren.map (·.2)→Gf.o g=stB.o g:=by
  intro g hb hg
  have e2:=kE (v:=fun p=>if sp.sig.aN.contains p.1 then uX c.A c.I f (vg.o p.1) else O.none) hg
  have e3:(sp.sig.news.map (fun g=>(f g,uX c.A c.I f (vg.o g)))).lookup g=none:=vT fun g' hg' e=>by
   have:=hbn g' hg'
   rw [e,hb] at this;cases this
  rw [hFo,aft,jY,jY,e2,e3,hBo]
  by_cases hlk:sp.sig.kN=true
  ·rw [if_pos hlk,kM]
   by_cases hg:g∈c.sS<;>simp [hg,hlk]
  ·simp [hlk]
 have aeA :∀p∈c.ren,sp.sig.aN.contains p.1=true→(vJ p.1).ad=(gh p.2).ad∧(vJ p.1).cap=(gh p.2).cap:=by
  intro p hp hi
  have:=(Ro p.1 (by simpa using hi)).1
  have e:=(fU p hp).2.2.1
  simp only [iH,e] at this
  exact this
 generalize hbk2:(fun g=>match bk g with | some g0=>some g0 | none=>(c.ren.find? (fun (p:Nat×Nat)=>p.2==g&&sp.sig.aN.contains p.1)).map (fun (p:Nat×Nat)=>p.1))=bk2
 have ahO :∀g g0,bk2 g=some g0→(g0∈sp.sig.news∧f g0=g)∨(bk g=none∧sp.sig.aN.contains g0=true∧(g0,g)∈c.ren):=by
  intro g g0 hb
  subst hbk2
  simp only at hb
  cases h1:bk g with
  |some g1=>rw [h1] at hb;simp only [Option.some.injEq] at hb;subst hb;exact .inl (hbs g _ h1)
  |none=>
   rw [h1] at hb
   simp only [Option.map_eq_some_iff] at hb
   obtain ⟨p,hp,rfl⟩:=hb
   have q1:=List.mem_of_find?_eq_some hp
   have q2:=List.find?_some hp
   simp only [Bool.and_eq_true,beq_iff_eq] at q2
   obtain ⟨rfl,q3⟩:=q2
   exact .inr ⟨rfl,q3,q1⟩
 have hb2 :∀g∈sp.sig.news++sp.sig.aN,bk2 (f g)=some g:=by
  intro g hg
  subst hbk2
  simp only
  rcases List.mem_append.1 hg with hg | hg
  ·rw [hbn g hg]
  ·have hi:sp.sig.aN.contains g=true:=by simpa using hg
   obtain ⟨g',hm,e⟩:=afs g hi
   rw [e,hbu g' (Um _ hm)]
   cases h1:c.ren.find? fun p=>p.2==g'&&sp.sig.aN.contains p.1 with
   |none=>
    have:=List.find?_eq_none.1 h1 _ hm
    simp at this
    exact absurd hg this
   |some p=>
    have q1:=List.mem_of_find?_eq_some h1
    have q2:=List.find?_some h1
    simp only [Bool.and_eq_true,beq_iff_eq] at q2
    obtain ⟨e2,q3⟩:=q2
    have l1:=(fU _ hm).2.2.1
    have e3:p=(g,g'):=by
     have:=jR (v:=fun p=>p) hn2 q1
     have h2:=jR (v:=fun p=>p) hn2 hm
     rw [e2] at this
     simp only at h2
     rw [this] at h2;exact Option.some.inj h2
    rw [e3];rfl
 let aT:Nat→Gh:=fun g=>match bk2 g with | some g0=>vJ g0 | none=>gh g
 have hfp :∀p∈c.ren,sp.sig.aN.contains p.1=true→f p.1=p.2:=by
  intro p hp hi
  obtain ⟨g',hm,e⟩:=afs p.1 hi
  have l1:=(fU _ hm).2.2.1
  have l2:=(fU _ hp).2.2.1
  simp only at l1
  rw [l2] at l1;rw [e,←Option.some.inj l1]
 have hgb :∀g g0,bk2 g=some g0→aT g=vJ g0:=fun g g0 hb=>by simp only [aT,hb]
 have hgn :∀g∈sp.sig.news,aT (f g)=vJ g:=fun g hg=>hgb _ _ (hb2 g (List.mem_append_left _ hg))
 have hgi :∀p∈c.ren,sp.sig.aN.contains p.1=true→aT p.2=vJ p.1:=by
  intro p hp hi
  have:=hb2 p.1 (List.mem_append_right _ (by simpa using hi))
  rw [hfp p hp hi] at this
  exact hgb _ _ this
 have hgo :∀g,bk g=none→g∉c.ren.map (·.2)→aT g=gh g:=fun g hb hm=>by
  cases h2:bk2 g with
  |none=>simp only [aT,h2]
  |some g0=>
   rcases ahO g g0 h2 with ⟨b1,b2⟩ | ⟨_,_,b3⟩
   ·rw [←b2,hbn g0 b1] at hb;cases hb
   ·exact absurd (List.mem_map.2 ⟨_,b3,rfl⟩) hm
 have hFb :∀g g0,bk2 g=some g0→Gf.o g=uX c.A c.I f (vg.o g0):=fun g g0 hb=>by
  rcases ahO g g0 hb with ⟨b1,b2⟩ | ⟨_,b2,b3⟩
  ·rw [←b2];exact Un g0 b1
  ·have e:=JI _ b3
   simp only [b2,if_true] at e
   exact e
 have Yq :∀g∈sp.sig.news++sp.sig.aN,Gf.used (f g)=true:=by
  intro g hg
  rcases List.mem_append.1 hg with hg | hg
  ·exact hFn g hg
  ·obtain ⟨g',hm,e⟩:=afs g (by simpa using hg)
   rw [e];exact hFu _ (Um _ hm)
 have hxo :∀g0,vg.o g0≠.none→∃k n',(g0,k)∈sp.sig.aG.objs∧vg.o g0=(rO outs n' k).1:=fun g0 hn=>by
  subst Ws
  exact jQ (Rf hn)
 have ahP :∀g0,sp.sig.aN.contains g0=true→(∃ws,(mk sp.sig.pin c.ins).o g0=.box ws)→∃ws,vg.o g0=.box ws:=by
  rintro g0 hi ⟨ws,hb⟩
  have hk:=(List.all_eq_true.1 aez) g0 (by simpa using hi)
  cases h1:sp.sig.pin.objs.lookup g0 with
  |none=>rw [h1] at hk;cases hk
  |some k1=>
   cases h2:sp.sig.aG.objs.lookup g0 with
   |none=>rw [h1,h2] at hk;cases k1<;>cases hk
   |some k2=>
    rw [h1,h2] at hk
    obtain ⟨n1,e1⟩:=LJ (vs:=c.ins) h1
    obtain ⟨n2,e2⟩:=LJ (vs:=outs) h2
    rw [hb] at e1
    cases k1 with
    |box ks=>
     cases k2 with
     |box ks'=>subst Ws;exact ⟨_,e2⟩
     |arr=>cases hk
     |it=>cases hk
     |deep=>cases hk
    |arr=>cases e1
    |it=>cases e1
    |deep=>cases e1
 have akV :∀g0 k,(g0,k)∈sp.sig.aG.objs→k.isA=true→sp.sig.kN=true:=fun g0 k hm ha=>by
  simp only [xH.kN,Bool.or_eq_true,List.any_eq_true]
  exact .inr ⟨_,hm,ha⟩
 have akW :∀t k,(t,k)∈sp.sig.aG.slots→k.isA=true→sp.sig.kN=true:=fun t k hm ha=>by
  simp only [xH.kN,Bool.or_eq_true,List.any_eq_true]
  exact .inl ⟨_,hm,ha⟩
 have hOut :∀g0,Ow (Dz c.A c.I sp.sig.kN) bk2 (fun _=>False) (vg.o g0) (uX c.A c.I f (vg.o g0))∧∀g∈(uX c.A c.I f (vg.o g0)).names,∃g1∈sp.sig.news++sp.sig.aN,g=f g1:=by
  intro g0
  by_cases hn:vg.o g0=.none
  ·rw [hn];exact ⟨.none _,by simp [uX,O.names]⟩
  ·obtain ⟨k,n',h1,h2⟩:=hxo g0 hn
   rw [h2]
   refine ahK hb2 (fun ws e => ?_) (akV g0 k h1) n'
   subst e
   have hk:=(List.all_eq_true.1 yJ) _ h1
   simp only [Bool.and_eq_true] at hk
   exact hk.1
 have Uo :∀g,(Gf.o g).owned=true→
   (∃g0,(vg.o g0).owned=true∧aT g=vJ g0∧Gf.o g=uX c.A c.I f (vg.o g0)∧((g0∈sp.sig.news∧g=f g0)∨(sp.sig.aN.contains g0=true∧(g0,g)∈c.ren)))∨
   ((stB.o g).owned=true∧aT g=gh g∧g∉c.ren.map (·.2)∧bk g=none∧Gf.o g=stB.o g):=by
  intro g ho
  cases hb:bk g with
  |some g0=>
   obtain ⟨b1,b2⟩:=hbs g g0 hb
   subst b2
   have e:=Un g0 b1
   exact .inl ⟨g0,by rw [e,JG] at ho;exact ho,hgn g0 b1,e,.inl ⟨b1,rfl⟩⟩
  |none=>
   by_cases hm:g∈c.ren.map (·.2)
   ·obtain ⟨p,hp,e⟩:=List.mem_map.1 hm
    subst e
    have e:=JI p hp
    cases hi:sp.sig.aN.contains p.1 with
    |false=>rw [e,hi] at ho;cases ho
    |true=>
     rw [hi,if_pos rfl] at e
     exact .inl ⟨p.1,by rw [e,JG] at ho;exact ho,hgi p hp hi,e,.inr ⟨hi,hp⟩⟩
   ·have e:=Ox g hb hm
    exact .inr ⟨by rw [e] at ho;exact ho,hgo g hb hm,hm,by first | exact hb | rfl,e⟩
 have hsplit :∀g b,(Gf.o g).owned=true→(aT g).has b→
   (∃g0,(vg.o g0).owned=true∧(vJ g0).has b∧Gf.o g=uX c.A c.I f (vg.o g0)∧((g0∈sp.sig.news∧g=f g0)∨(sp.sig.aN.contains g0=true∧(g0,g)∈c.ren)))∨
   ((stB.o g).owned=true∧(gh g).has b∧g∉c.ren.map (·.2)∧bk g=none∧Gf.o g=stB.o g):=by
  intro g b ho had
  rcases Uo g ho with ⟨g0,q1,q2,q3⟩ | ⟨q1,q2,q3⟩
  ·exact .inl ⟨g0,q1,by rw [←q2];exact had,q3⟩
  ·exact .inr ⟨q1,by rw [←q2];exact had,q3⟩
 have Yr :∀b,E'.Wr b→∃p∈c.ren,(gh p.2).has b:=fun b hb=>by subst hE';obtain ⟨p,hp,_,h1⟩:=hb;exact ⟨p,hp,h1⟩
 have hEB:E'.B0=w.heap.size:=by subst hE';rfl
 have hEw:E'.w0=w:=by subst hE';rfl
 have hframe :∀b,b<w.heap.size→¬ E'.Wr b→w'.heap[b]?=w.heap[b]?:=fun b hb hw=>by
  rw [hx.frame b (by rw [hEB];exact hb) hw,hEw]
 have afu :∀b,(∀p∈c.ren,¬ (gh p.2).has b)→¬ E'.Wr b:=fun b hb hw=>by
  obtain ⟨p,hp,e1⟩:=Yr b hw
  exact hb p hp e1
 have hsize:w.heap.size≤w'.heap.size:=by rw [←hEB];exact hx.size
 have Dk :∀g,st.used g=true→Gf.o g=.none∨(((aT g).ad=(gh g).ad∧(aT g).cap=(gh g).cap)∧(stB.o g).like (Gf.o g)):=by
  intro g hu
  have hb:=hbu g hu
  by_cases hm:g∈c.ren.map (·.2)
  ·obtain ⟨p,hp,e⟩:=List.mem_map.1 hm
   subst e
   cases hi:sp.sig.aN.contains p.1 with
   |false=>exact .inl (by rw [JI p hp,hi];rfl)
   |true=>
    refine .inr ⟨by rw [hgi p hp hi];exact aeA p hp hi,?_⟩
    rw [hBr p hp,JI p hp,hi,if_pos rfl]
    have hlk:=(Ro p.1 (by simpa using hi)).2
    rw [Ws] at hlk
    rcases (fU p hp).2.2.2 with ⟨_,ws,Rq,e,eb⟩ | ⟨a,i,sz,l,e,_,ea⟩ | ⟨a,i,sz,cols,l,e,_,ea⟩
    ·obtain ⟨ws',e'⟩:=ahP p.1 hi ⟨_,eb⟩
     rw [e,e'];trivial
    ·rw [ea] at hlk
     rw [e]
     generalize vg.o p.1=z at hlk
     cases z with
     |none=>trivial
     |arr=>exact hlk
     |deep=>exact hlk.elim
     |box=>exact hlk.elim
     |it=>exact hlk.elim
    ·rw [ea] at hlk
     rw [e]
     generalize vg.o p.1=z at hlk
     cases z with
     |none=>trivial
     |arr=>exact hlk
     |deep=>exact hlk
     |box=>exact hlk.elim
     |it=>exact hlk.elim
  ·rw [Ox g hb hm];exact .inr ⟨by rw [hgo g hb hm];exact ⟨rfl,rfl⟩,O.dJ _⟩
 have Yt:Lets E stB Gf gh aT w w':=by
  refine ⟨fun a i b hb=>⟨⟨hb.1,by have:=hb.2.1;omega,fun g ho had => ?_⟩,?_⟩,fun g hu=>Dk g (by rw [←hBu];exact hu)⟩
  ·rcases hsplit g b ho had with ⟨g0,o0,d0,_,_⟩ | ⟨o0,d0,_⟩
   ·have hw0:=(hx.wr g0 b o0 d0).1
    rw [hEB] at hw0
    rcases hw0 with hw0 | hw0
    ·have:=hb.2.1;omega
    ·obtain ⟨p,hp,e1⟩:=Yr b hw0
     exact hb.2.2 p.2 (by rw [hBr p hp];exact (fU p hp).1) e1
   ·exact hb.2.2 g o0 d0
  ·exact hframe b hb.2.1 (afu b fun p hp e1=>hb.2.2 p.2 (by rw [hBr p hp];exact (fU p hp).1) e1)
 have ahQ :∀b,E'.Wr b→E.Wr b→(∀g ws,vg.o g=.box ws→(vJ g).has b→sp.sig.aN.contains g=false)→c.I.2=true:=by
  intro b hb hEb hno
  obtain ⟨p,hp,e1⟩:=Yr b hb
  rcases (fU p hp).2.2.2 with ⟨hi,ws,Rq,e,eb⟩ | ⟨a,i,sz,l,e,hci,_⟩ | ⟨a,i,sz,cols,l,e,hci,_⟩
  ·obtain ⟨ws',e'⟩:=ahP p.1 hi ⟨_,eb⟩
   have:=hno p.1 ws' e' (by
    rcases e1 with ⟨ad,k1,k2⟩ | k1
    ·exact .inl ⟨ad,by rw [(aeA p hp hi).1];exact k1,k2⟩
    ·rw [h.ns p.2 (fU p hp).1 (by rw [e];rfl) b] at k1;cases k1)
   rw [hi] at this;cases this
  ·exact hci.2 (h.wi p.2 i b (by rw [e];rfl) e1 hEb)
  ·exact hci.2 (h.wi p.2 i b (by rw [e];rfl) e1 hEb)
 have hcls :∀{a i a' i':Bool} {A:Bool×Bool},(A.1=true→a'=true)→(A.2=true→i'=true)→∀{b:Nat},((A.1=true∧E.FA b)∨(A.2=true∧(E.FI b∨E.Wr b))∨E.B0≤b∨dw.has b)→((a'=true∧E.FA b)∨(i'=true∧(E.FI b∨E.Wr b))∨E.B0≤b∨dw.has b):=by
  intro a i a' i' A h1 h2 b hb
  rcases hb with ⟨q1,q2⟩ | ⟨q1,q2⟩ | q
  ·exact .inl ⟨h1 q1,q2⟩
  ·exact .inr (.inl ⟨h2 q1,q2⟩)
  ·exact .inr (.inr q)
 have hcast:Cast (Dz c.A c.I sp.sig.kN) bk2 (fun _=>False) E' E vg Gf vJ aT w':=by
  refine ⟨fun a i a' i' b hC hb => ?_,fun g g' hm sz len ho=>⟨by rw [hgb g' g hm];exact ⟨rfl,rfl⟩,by rw [hFb g' g hm,abJ] at ho;exact ho⟩,
   fun g g' hm ws ho=>⟨by rw [hgb g' g hm],by rw [hFb g' g hm] at ho;exact abK ho⟩,fun g g' hm s n ho=>⟨by rw [hgb g' g hm],by rw [hFb g' g hm] at ho;exact afq ho⟩,fun g' hf=>hf.elim⟩
  obtain ⟨hC,hA⟩:=hC
  have ha':a'=((a&&c.A.1)||(i&&c.I.1)):=congrArg Prod.fst hC
  have hi':i'=((a&&c.A.2)||(i&&c.I.2)):=congrArg Prod.snd hC
  have aeB :∀g,(vg.o g).owned=true→¬ (vJ g).has b:=hb.2.2
  have hcase:((a'=true∧E.FA b)∨(i'=true∧(E.FI b∨E.Wr b))∨E.B0≤b∨dw.has b)∧(∀g,(stB.o g).owned=true→g∉c.ren.map (·.2)→¬ (gh g).has b):=by
   have hb1:=hb.1
   subst hE'
   rcases hb1 with ⟨ha,hFA⟩ | ⟨hi,hFI | hWr⟩ | hge | hgl
   ·have hlk:=hA ha
    have hst:stB=st1:=by simp [stB,hlk]
    refine ⟨hcls (a:=a) (i:=i) (A:=c.A) (by intro h;simp [ha',ha,h]) (by intro h;simp [hi',ha,h]) hFA.1,fun g ho _ => ?_⟩
    rw [hst] at ho
    exact hFA.2.2 g ho
   ·refine ⟨hcls (a:=a) (i:=i) (A:=c.I) (by intro h;simp [ha',hi,h]) (by intro h;simp [hi',hi,h]) hFI.1,fun g ho _ => ?_⟩
    exact hFI.2.2 g (Ul g ho)
   ·obtain ⟨p,hp,ow,e1⟩:=hWr
    refine ⟨?_,fun g ho hng had => ?_⟩
    ·rcases (h.wr p.2 b (fU p hp).1 e1).1 with q | q
     ·exact .inr (.inr (.inl q))
     ·have:=ahQ b ⟨p,hp,ow,e1⟩ q fun g Rq o1 d1=>absurd d1 (aeB g (by rw [o1];rfl))
      exact .inr (.inl ⟨by simp [hi',hi,this],.inr q⟩)
    ·have:=h.inj g p.2 b (Ul g ho) (fU p hp).1 had e1
     exact hng (this▸List.mem_map.2 ⟨p,hp,rfl⟩)
   ·refine ⟨.inr (.inr (.inl (Nat.le_trans h.size hge))),fun g ho _ had => ?_⟩
    have:=(Wu.wr g b ho had).2
    have hge:w.heap.size≤b:=hge
    omega
   ·refine ⟨.inr (.inr (.inr hgl)),fun g ho _ had => ?_⟩
    obtain ⟨g1,g2⟩:=E.X3 hgl
    rcases (Wu.wr g b ho had).1 with q | q
    ·omega
    ·exact g2 q
  refine ⟨hcase.1,hb.2.1,fun g ho had => ?_⟩
  rcases hsplit g b ho had with ⟨g0,o0,d0,_,_⟩ | ⟨o0,d0,n0,_⟩
  ·exact aeB g0 o0 d0
  ·exact hcase.2 g o0 n0 d0
 have aeC :∀g0,kD E Gf aT w' (uX c.A c.I f (vg.o g0)) (vJ g0):=fun g0=>hcast.zO (hOut g0).1 (hx.objs g0)
 have Jh:Rel E Gf aT val w':=by
  refine Wu.step Yt (hFs.trans hBs.symm) (fun g hg=>hFu g (by rw [←hBu];exact hg)) (fun g => ?_) (fun g1 g2 b h1 h2 k1 k2 => ?_) (fun g b ho had => ?_) (fun g i b ho had hw => ?_) (fun g ho hd b => ?_) (fun b hb hw => ?_) hsize (by rw [hx.os,hEw]) (by rw [hx.tape,hEw]) (by rw [hx.output,hEw]) (fun g g' hg' => ?_) (fun g hg => ?_)
  ·cases hb:bk g with
   |some g0=>
    obtain ⟨b1,b2⟩:=hbs g g0 hb
    subst b2
    rw [Un g0 b1,hgn g0 b1];exact aeC g0
   |none=>
    by_cases hm:g∈c.ren.map (·.2)
    ·obtain ⟨p,hp,e⟩:=List.mem_map.1 hm
     subst e
     rw [JI p hp]
     cases hi:sp.sig.aN.contains p.1 with
     |false=>trivial
     |true=>rw [if_pos rfl,hgi p hp hi];exact aeC p.1
    ·rw [Ox g hb hm,hgo g hb hm]
     refine Yt.zO (fun ho b had=>hframe _ (Wu.wr g b ho had).2 (afu _ fun p hp e1 => ?_)) (fun g' hg'=>Wu.uo g g' hg') (Wu.objs g)
     have:=h.inj p.2 g b (fU p hp).1 (Ul g ho) e1 had
     exact hm (this▸List.mem_map.2 ⟨p,hp,rfl⟩)
  ·have mixed :∀g1 g2 b g0,(vg.o g0).owned=true→(vJ g0).has b→(stB.o g2).owned=true→(gh g2).has b→g2∉c.ren.map (·.2)→g1=g2:=by
    intro g1 g2 b g0 o1 d1 o2 d2 n2
    exfalso
    rcases (hx.wr g0 b o1 d1).1 with q | q
    ·rw [hEB] at q
     have:=(Wu.wr g2 b o2 d2).2
     omega
    ·obtain ⟨p,hp,e1⟩:=Yr _ q
     have:=h.inj p.2 g2 b (fU p hp).1 (Ul g2 o2) e1 d2
     exact n2 (this▸List.mem_map.2 ⟨p,hp,rfl⟩)
   rcases hsplit g1 b h1 k1 with ⟨q1,o1,d1,_,l1⟩ | ⟨o1,d1,n1,_⟩<;>rcases hsplit g2 b h2 k2 with ⟨q2,o2,d2,_,l2⟩ | ⟨o2,d2,n2,_⟩
   ·have:=hx.inj q1 q2 b o1 o2 d1 d2
    subst this
    rcases l1 with ⟨m1,e1⟩ | ⟨i1,m1⟩<;>rcases l2 with ⟨m2,e2⟩ | ⟨i2,m2⟩
    ·rw [e1,e2]
    ·rw [afr q1 m1] at i2;cases i2
    ·rw [afr q1 m2] at i1;cases i1
    ·have l1:=(fU _ m1).2.2.1
     have l2:=(fU _ m2).2.2.1
     rw [l1] at l2;exact Option.some.inj l2
   ·exact mixed g1 g2 b q1 o1 d1 o2 d2 n2
   ·exact (mixed g2 g1 b q2 o2 d2 o1 d1 n1).symm
   ·exact Wu.inj g1 g2 b o1 o2 d1 d2
  ·rcases hsplit g b ho had with ⟨g0,o0,d0,_,_⟩ | ⟨o0,d0,_⟩
   ·have:=hx.wr g0 b o0 d0
    refine ⟨?_,this.2⟩
    rcases this.1 with q | q
    ·rw [hEB] at q;exact .inl (Nat.le_trans h.size q)
    ·obtain ⟨p,hp,e1⟩:=Yr _ q
     exact (h.wr p.2 b (fU p hp).1 e1).1
   ·have:=Wu.wr g b o0 d0
    exact ⟨this.1,by omega⟩
  ·rcases hsplit g b (O.jL ho) had with ⟨g0,o0,d0,e0,l0⟩ | ⟨o0,d0,_,_,e0⟩
   ·rw [e0] at ho
    obtain ⟨a1,i1,h1,e2⟩:=Wp ho
    have hlt:b<w.heap.size:=by have:=h.wb _ hw;have:=h.size;omega
    rcases (hx.wr g0 b o0 d0).1 with q | q
    ·rw [hEB] at q;omega
    ·have hi1:=hx.wi g0 i1 b h1 d0 q
     have:=ahQ b q hw fun g3 ws3 o3 d3=>by
      have:=hx.inj g3 g0 b (by rw [o3];rfl) o0 d3 d0
      subst this
      rw [o3] at h1;cases h1
     rw [e2];simp [oU,hi1,this]
   ·rw [e0] at ho
    exact Wu.wi g i b ho d0 hw
  ·rcases Uo g ho with ⟨g0,o0,e,e0,_⟩ | ⟨o0,e,_,_,e0⟩
   ·rw [e];exact hx.ns g0 o0 (by rw [e0,Rl] at hd;exact hd) b
   ·rw [e];exact Wu.ns g o0 (by rw [e0] at hd;exact hd) b
  ·refine hframe b (Nat.lt_of_lt_of_le hb h.size) (afu b fun p hp e1 => ?_)
   rcases (h.wr p.2 b (fU p hp).1 e1).1 with q | q
   ·omega
   ·exact hw q
  ·cases hb:bk g with
   |some g0=>
    obtain ⟨b1,b2⟩:=hbs g g0 hb
    subst b2
    rw [Un g0 b1] at hg'
    obtain ⟨g1,m1,rfl⟩:=(hOut g0).2 g' hg'
    exact Yq g1 m1
   |none=>
    by_cases hm:g∈c.ren.map (·.2)
    ·obtain ⟨p,hp,e⟩:=List.mem_map.1 hm
     subst e
     rw [JI p hp] at hg'
     cases hi:sp.sig.aN.contains p.1 with
     |false=>rw [hi] at hg';simp [O.names] at hg'
     |true=>
      rw [hi,if_pos rfl] at hg'
      obtain ⟨g1,m1,rfl⟩:=(hOut p.1).2 g' hg'
      exact Yq g1 m1
    ·rw [Ox g hb hm] at hg'
     exact hFu g' (by rw [←hBu];exact Wu.uo g g' hg')
  ·cases hb:bk g with
   |some g0=>
    obtain ⟨b1,b2⟩:=hbs g g0 hb
    subst b2;exact hFn g0 b1
   |none=>
    by_cases hm:g∈c.ren.map (·.2)
    ·obtain ⟨p,hp,e⟩:=List.mem_map.1 hm
     subst e
     exact hFu _ (Um p hp)
    ·rw [Ox g hb hm] at hg
     exact hFu g (by rw [←hBu];exact Wu.ul g hg)
 have ahR :∀k,pY E Gf aT w' (Ug c.A c.I f (vg.s k)) (rs.getD k undef)∧∀g∈(Ug c.A c.I f (vg.s k)).names,∃g1∈sp.sig.news++sp.sig.aN,g=f g1:=by
  intro k
  have hk:=hx.slots k
  subst Ws
  have e0:(mk sp.sig.aG outs).s k=match (bF outs 0 sp.sig.aG.slots).1.lookup k with | some x=>x | none=>.no:=rfl
  cases hxk:(bF outs 0 sp.sig.aG.slots).1.lookup k with
  |none=>
   rw [e0,hxk]
   exact ⟨.one _ _ (.no _),by simp [Ug,V.names,W.names]⟩
  |some x=>
   rw [hxk] at e0
   rw [e0] at hk ⊢
   obtain ⟨kk,n',h1,h2⟩:=vP hxk
   obtain ⟨y,e,h3,h4⟩:=ahJ (vs:=outs) (A:=c.A) (I:=c.I) hb2 ((List.all_eq_true.1 hos) _ h1) (akW k kk h1) n'
   simp only [h2,e] at hk ⊢
   cases hk with | v _ _ hk=>exact ⟨hcast.VU h3 hk,h4⟩
 refine ⟨aT,Jh,⟨fun a i b hb => ?_,fun g hu => ?_⟩,?_,?_⟩
 ·obtain ⟨q1,q2⟩:=hLB.ok a i b hb
  exact Yt.ok a i b q1
 ·rcases Dk g hu with q | ⟨q1,q2⟩
  ·exact .inl q
  ·rcases hLB.names g hu with q | ⟨_,q⟩
   ·rw [q] at q2
    rcases O.F8 (x:=.none) (O.dJ _) q2 with q | q
    ·exact .inl q
    ·exact .inl (O.BJ q)
   ·rcases O.F8 q q2 with q | q
    ·exact .inl q
    ·exact .inr ⟨q1,q⟩
 ·rw [ahM]
  have hl:((List.range sp.sig.bM).map fun k=>Ug c.A c.I f (vg.s k)).length=rs.length:=by simp [hrl]
  have hj :∀(j:Nat) x v,((List.range sp.sig.bM).map fun k=>Ug c.A c.I f (vg.s k))[j]?=some x→rs[j]?=some v→pY E Gf aT w' x v:=by
   intro j x v hx' hv
   rw [List.getElem?_map] at hx'
   obtain ⟨k,hk,rfl⟩:=Option.map_eq_some_iff.1 hx'
   obtain ⟨hlt,hk⟩:=List.getElem?_eq_some_iff.1 hk
   simp at hk;subst hk
   have:=(ahR j).1
   rwa [List.getD_eq_getElem?_getD,hv] at this
  generalize (List.range sp.sig.bM).map (fun k=>Ug c.A c.I f (vg.s k))=xs at hl hj
  unfold V9 Wh
  match xs,rs,hl,hj with
  | [],[],_,hj=>exact .kC _ _ rfl hj
  | [x],[v],_,hj=>exact .v _ _ (hj 0 x v rfl rfl)
  |x::y::xs,v::u::vs,hl,hj=>exact .kC _ _ hl hj
 ·intro g hg
  have :∃k,g∈(Ug c.A c.I f (vg.s k)).names:=by
   rw [ahM] at hg
   generalize hxs:(List.range sp.sig.bM).map (fun k=>Ug c.A c.I f (vg.s k))=xs at hg
   have hin :∃x∈xs,g∈x.names:=by
    unfold V9 at hg
    split at hg
    ·exact ⟨_,by simp,hg⟩
    ·simpa [S.names,List.mem_flatMap] using hg
   obtain ⟨x,hx1,hx2⟩:=hin
   rw [←hxs] at hx1
   obtain ⟨k,_,rfl⟩:=List.mem_map.1 hx1
   exact ⟨k,hx2⟩
  obtain ⟨k,hk⟩:=this
  obtain ⟨g1,m1,rfl⟩:=(ahR k).2 g hk
  exact Yq g1 m1
theorem Rt {Pg:Program} {fn:FuncId} {sp:Spec} (hs:Sound Pg fn sp) (h:Rel E st gh val w) {args:List S} {vals:List Value} (hr :∀t,bI E st gh w (args.getD t .no) (vals.getD t undef)) (hlen:vals.length=sp.sig.nargs)
  {c:Jf} (hc:fF sp.sig st.o args=some c) (hf:c.fine sp.sig=true) {outs:List P} (hR:sp.R c.ins outs) (d:Nat)
  {ef:Eff} (hef:ef=fZ sp.sig d st.o c outs) (hnew :∀g∈ef.new,st.used g=false) :
  Calls Pg fn vals.toArray w fun e w' =>∃v aT,e=.returned v∧Rel E (st.upd ef.upd ef.new) aT val w'∧Lets E st (st.upd ef.upd ef.new) gh aT w w'∧bI E (st.upd ef.upd ef.new) aT w' ef.x v∧∀g∈ef.x.names,(st.upd ef.upd ef.new).used g=true:=by
 obtain ⟨E',jX,q1,q2,q3,_,q4⟩:=JH hs.1 h hr hc hf
 refine Calls.mono (hs.2.2 E' w vals jX c.ins outs hR q1 q2 q3 hlen) fun e w' he => ?_
 obtain ⟨rs,vJ,hrl,rfl,hx,Ro⟩:=he
 obtain ⟨aT,r1,r2,r3,r4⟩:=q4 d outs ef hef hnew w' rs vJ hrl hx Ro
 exact ⟨_,aT,rfl,r1,r2,r3,r4⟩
end
end Go.Fw

namespace Go.Fw
set_option linter.unusedSectionVars false
variable [dw]
set_option linter.unusedVariables false
section
variable {o o':Nat→O}
theorem BK {g:Nat} {x:Bool×Bool×Nat×List (List P)} (h:plainO o g=some x):(o g).names=(o g).hn∧∀d∈(o g).hn,(o d).hn=[]:=by
 obtain ⟨a,i,sz,l⟩:=x
 rcases tu h with ⟨fz,h⟩ | ⟨cols,h⟩ | ⟨a0,i0,cols,l0,n,c,d,fz',a',i',sz',l',h,hd,_⟩
 ·rw [h];exact ⟨rfl,fun d hd=>by cases hd⟩
 ·rw [h];exact ⟨rfl,fun d hd=>by cases hd⟩
 ·rw [h]
  refine ⟨rfl,fun d' hd' => ?_⟩
  simp only [O.hn,bJ,List.mem_singleton] at hd'
  subst hd';rw [hd];rfl
theorem LM {g:Nat} (h:Agree o o' g):freeze o g=freeze o' g:=by simp only [freeze,zQ h,h.1]
theorem Oy {g d:Nat} (h:Agree o o' g) {x:Bool×Bool×Nat×List (List P)} (hp:plainO o g=some x) (hd:d∈(o g).hn):Agree o o' d:=by
 refine ⟨h.2 d hd,fun d' hd' => ?_⟩
 rw [(BK hp).2 d hd] at hd';cases hd'
theorem BL {x:W} (h :∀g∈x.names,Agree o o' g):x.toP o=x.toP o':=by
 cases x<;>simp only [W.toP]<;>(try rw [zQ (h _ (by simp [W.names])),(h _ (by simp [W.names])).1])
theorem yV {x:W} {y:P} {a i:Bool} {gs:List Nat} (h:x.toP o=some (y,a,i,gs)) (hx :∀g∈x.names,Agree o o' g) :∀g∈gs,Agree o o' g:=by
 cases x<;>simp only [W.toP] at h
 case p=>simp only [Option.some.injEq,Prod.mk.injEq] at h;obtain ⟨_,_,_,rfl⟩:=h;simp
 case bD=>simp only [Option.some.injEq,Prod.mk.injEq] at h;obtain ⟨_,_,_,rfl⟩:=h;simp
 case own g=>
  split at h
  ·rename_i hp
   simp only [Option.some.injEq,Prod.mk.injEq] at h;obtain ⟨_,_,_,rfl⟩:=h
   have hg:=hx g (by simp [W.names])
   rw [(BK hp).1]
   intro d hd
   rcases List.mem_append.1 hd with hd | hd
   ·exact Oy hg hp hd
   ·rw [List.mem_singleton] at hd;subst hd;exact hg
  ·cases h
 case vw g lo hi=>
  split at h
  ·rename_i hp
   simp only [Option.some.injEq,Prod.mk.injEq] at h;obtain ⟨_,_,_,rfl⟩:=h
   have hg:=hx g (by simp [W.names])
   rw [(BK hp).1]
   intro d hd
   rcases List.mem_append.1 hd with hd | hd
   ·exact Oy hg hp hd
   ·rw [List.mem_singleton] at hd;subst hd;exact hg
  ·cases h
 all_goals cases h
theorem oV :∀{xs:List W},(∀x∈xs,∀g∈x.names,Agree o o' g)→qL o xs=qL o' xs
 | [],_=>rfl
 |x::xs,h=>by simp only [qL];rw [BL (h x (by simp)),oV fun y hy=>h y (by simp [hy])]
theorem vU :∀{xs:List W} {ys:List P} {a i:Bool} {gs:List Nat},qL o xs=some (ys,a,i,gs)→(∀x∈xs,∀g∈x.names,Agree o o' g)→∀g∈gs,Agree o o' g
 | [],ys,a,i,gs,h,_=>by simp [qL] at h;obtain ⟨_,_,_,rfl⟩:=h;simp
 |x::xs,ys,a,i,gs,h,hx=>by
  simp only [qL] at h
  split at h
  ·rename_i h1 h2
   simp only [Option.some.injEq,Prod.mk.injEq] at h
   obtain ⟨_,_,_,rfl⟩:=h
   intro g hg
   rcases List.mem_append.1 hg with hg | hg
   ·exact yV h1 (hx x (by simp)) g hg
   ·exact vU h2 (fun y hy=>hx y (by simp [hy])) g hg
  ·cases h
theorem lV {gs:List Nat} (h :∀g∈gs,Agree o o' g):gs.map (freeze o)=gs.map (freeze o'):=
 List.map_congr_left fun g hg=>LM (h g hg)
theorem Gg {sz:Nat} {x:W} (h :∀g∈x.names,o g=o' g):x.rows o sz=x.rows o' sz:=by
 cases x<;>simp only [W.rows]<;>(try rw [h _ (by simp [W.names])])
theorem DI {x:W} (h :∀g∈x.names,o g=o' g):lenOf o x=lenOf o' x:=by
 cases x<;>simp only [lenOf]<;>(try rw [h _ (by simp [W.names])])
theorem yX {x:W} (h :∀g∈x.names,o g=o' g):x.live o=x.live o':=by
 cases x<;>simp only [W.live]<;>(try rw [h _ (by simp [W.names])])
theorem LP {tt:TT} {d:Nat} {sT:TypeId} {s x:W} (hs :∀g∈s.names,o g=o' g) (h :∀g∈x.names,o g=o' g):sV tt d o sT s x=sV tt d o' sT s x:=by
 unfold sV
 split
 ·split
  ·split
   ·rfl
   ·rw [Gg h]
    split
    ·rfl
    ·cases s<;>simp only<;>(try rw [hs _ (by simp [W.names])])
  ·rfl
 ·rfl
theorem yY {place:Nat→Option (Nat×Nat)} :∀{ps:List (Nat×S)} {JJ ws:List W},kK place JJ ps=some ws→∀x∈ws,x∈JJ∨∃p∈ps,∀g∈x.names,g∈p.2.names
 | [],JJ,ws,h=>by simp only [kK,Option.some.injEq] at h;subst h;intro x hx;exact .inl hx
 |(n,s)::ps,JJ,ws,h=>by
  cases s with
  |v y=>
   simp only [kK] at h
   split at h
   ·split at h
    ·intro x hx
     rcases yY h x hx with hx | ⟨p,hp,hg⟩
     ·unfold aF at hx
      rcases List.mem_append.1 hx with hx | hx
      ·rcases List.mem_append.1 hx with hx | hx
       ·exact .inl (List.mem_of_mem_take hx)
       ·refine .inr ⟨(n,.v y),by simp,fun g hg => ?_⟩
        cases y with
        |one y=>simp only [V.words,List.mem_singleton] at hx;subst hx;simpa [S.names,V.names] using hg
        |agg ys=>simp only [V.words] at hx;simp only [S.names,V.names,List.mem_flatMap];exact ⟨x,hx,hg⟩
      ·exact .inl (List.mem_of_mem_drop hx)
     ·exact .inr ⟨p,by simp [hp],hg⟩
    ·cases h
   ·cases h
  |kC=>simp [kK] at h
  |no=>simp [kK] at h
theorem DJ {y:V} {x:W} (h:x∈y.words) {g:Nat} (hg:g∈x.names):g∈(S.v y).names:=by
 cases y with
 |one y=>simp only [V.words,List.mem_singleton] at h;subst h;simpa [S.names,V.names] using hg
 |agg ys=>simp only [V.words] at h;simp only [S.names,V.names,List.mem_flatMap];exact ⟨x,h,hg⟩
theorem Af {tt:TT} {d:Nat} {F F':Operand→S} {op:Op} {ty:TypeId} (hF :∀x∈op.operands.toList,F x=F' x) (hO :∀x∈op.operands.toList,∀g∈(F x).names,Agree o o' g) :
  kernel tt d o F op ty=kernel tt d o' F' op ty:=by
 have ho :∀x∈op.operands.toList,∀g∈(F x).names,o g=o' g:=fun x hx g hg=>(hO x hx g hg).1
 cases op with
 |move x=>simp only [kernel,←hF x (by simp [Op.operands])]
 |assign x=>simp only [kernel,←hF x (by simp [Op.operands])]
 |pick c x y=>simp only [kernel,←hF c (by simp [Op.operands]),←hF x (by simp [Op.operands]),←hF y (by simp [Op.operands])]
 |alloc t=>rfl
 |box t x=>simp only [kernel,←hF x (by simp [Op.operands])]
 |build t ps=>
  have e:ps.toList.map (fun p=>(p.1,F p.2))=ps.toList.map (fun p=>(p.1,F' p.2)):=List.map_congr_left fun p hp=>by
   rw [hF p.2 (by simp only [Op.operands];exact List.mem_map.2 ⟨p,hp,rfl⟩)]
  simp only [kernel,←e]
 |buildSlice t n ps=>
  have e:ps.toList.map (fun p=>(p.1,F p.2))=ps.toList.map (fun p=>(p.1,F' p.2)):=List.map_congr_left fun p hp=>by
   rw [hF p.2 (by simp only [Op.operands];exact List.mem_map.2 ⟨p,hp,rfl⟩)]
  simp only [kernel,←e]
  split
  ·split
   ·rename_i ie _
    split
    ·rename_i ws hws
     have hn :∀x∈ws,∀g∈x.names,Agree o o' g:=by
      intro x hx g hg
      rcases yY hws x hx with h | ⟨p,hp,h⟩
      ·have:=qo h
       obtain ⟨v,_,rfl⟩:=List.mem_map.1 this
       rw [lN] at hg;cases hg
      ·obtain ⟨q,hq,rfl⟩:=List.mem_map.1 hp
       exact hO q.2 (by simp only [Op.operands];exact List.mem_map.2 ⟨q,hq,rfl⟩) g (h g hg)
     rw [←oV hn]
     split
     ·rename_i h
      rw [lV (vU h hn)]
     ·rfl
    ·rfl
   ·rfl
  ·rfl
 |load t x=>
  have hx:=hF x (by simp [Op.operands])
  have hn:=ho x (by simp [Op.operands])
  simp only [kernel,←hx]
  generalize F x=sx at hn
  split<;>simp_all [S.names,V.names,W.names]
 |store t x y=>
  have hx:=hF x (by simp [Op.operands])
  have hy:=hF y (by simp [Op.operands])
  have hn:=ho x (by simp [Op.operands])
  have hm:=hO y (by simp [Op.operands])
  simp only [kernel,←hx,←hy]
  generalize F x=sx at hn
  generalize F y=sy at hm
  split
  ·rename_i g off y _
   rw [hn g (by simp [S.names,V.names,W.names])]
  ·rename_i g n off y _
   rw [hn g (by simp [S.names,V.names,W.names])]
   have hw :∀x∈y.words,∀g∈x.names,Agree o o' g:=fun x hx g hg=>hm g (DJ hx hg)
   rw [←oV hw]
   cases hz:qL o y.words with
   |none=>cases o' g with | arr fz _ _ _ _=>cases fz<;>rfl | _=>rfl
   |some z=>
    obtain ⟨ps,a',i'',gs⟩:=z
    have e:=lV (vU hz hw)
    cases o' g with
    |arr fz _ _ _ _=>cases fz<;>simp only [e]
    |_=>rfl
  ·rfl
 |nilCheck x=>
  have hx:=hF x (by simp [Op.operands])
  have hn:=ho x (by simp [Op.operands])
  simp only [kernel,←hx]
  generalize F x=sx at hn
  split
  ·rw [yX fun g hg=>hn g (by simpa [S.names,V.names] using hg)]
  ·rfl
 |binOp op t x y u=>simp only [kernel,←hF x (by simp [Op.operands]),←hF y (by simp [Op.operands])]
 |unOp op t x=>simp only [kernel,←hF x (by simp [Op.operands])]
 |convert s t x=>
  have hx:=hF x (by simp [Op.operands])
  have hn:=ho x (by simp [Op.operands])
  simp only [kernel,←hx]
  generalize F x=sx at hn
  split
  ·rfl
  ·rw [Gg fun g hg=>hn g (by simpa [S.names,V.names] using hg)]
  ·rfl
  ·rfl
 |makeSlice t n c=>
  simp only [kernel,←hF n (by simp [Op.operands]),←hF c (by simp [Op.operands])]
  split
  ·split
   ·rename_i ie _
    have:qL o (ie.zero.map cv)=qL o' (ie.zero.map cv):=oV fun x hx g hg=>by
     obtain ⟨v,_,rfl⟩:=List.mem_map.1 hx
     rw [lN] at hg;cases hg
    rw [this]
   ·rfl
  ·rfl
 |slice t x lo hi mx=>
  cases mx with
  |some m=>cases lo with
   |some l=>simp only [kernel]
   |none=>cases hi with
    |none=>simp only [kernel]
    |some h=>
     have hx:=hF x (by simp [Op.operands])
     have hn:=ho x (by simp [Op.operands])
     simp only [kernel,←hx,←hF h (by simp [Op.operands]),←hF m (by simp [Op.operands])]
     generalize F x=sx at hn
     unfold zS
     split
     ·rename_i g _ _ h' _ _ m' _ _ _
      rw [hn g (by simp [S.names,V.names,W.names])]
     ·rfl
     ·rfl
  |none=>
   have hx:=hF x (by simp [Op.operands])
   have hn:=ho x (by simp [Op.operands])
   have hlo:lo.map F=lo.map F':=by
    cases lo with
    |none=>rfl
    |some l=>simp [hF l (by simp [Op.operands])]
   have hhi:hi.map F=hi.map F':=by
    cases hi with
    |none=>rfl
    |some l=>simp [hF l (by simp [Op.operands])]
   simp only [kernel,←hx,←hlo,←hhi]
   generalize F x=sx at hn
   split
   ·rename_i x _
    have hn :∀g∈x.names,o g=o' g:=fun g hg=>hn g (by simpa [S.names,V.names] using hg)
    rw [←DI hn]
    split
    ·split
     ·split
      ·rw [hn _ (by simp [W.names])]
      all_goals rfl
     ·rfl
    ·rfl
   ·rfl
   ·rfl
 |fieldAddr t x n=>
  have hx:=hF x (by simp [Op.operands])
  have hn:=ho x (by simp [Op.operands])
  simp only [kernel,←hx]
  generalize F x=sx at hn
  split
  ·rw [yX fun g hg=>hn g (by simpa [S.names,V.names] using hg)]
  ·rfl
 |field t x n=>simp only [kernel,←hF x (by simp [Op.operands])]
 |indexAddr t x ix=>
  have hx:=hF x (by simp [Op.operands])
  have hn:=ho x (by simp [Op.operands])
  simp only [kernel,←hx,←hF ix (by simp [Op.operands])]
  generalize F x=sx at hn
  split
  ·rename_i x a i n _ _
   have hn :∀g∈x.names,o g=o' g:=fun g hg=>hn g (by simpa [S.names,V.names] using hg)
   split
   ·rw [hn _ (by simp [W.names])]
   ·rw [hn _ (by simp [W.names])]
   all_goals rfl
  ·rfl
  ·rw [yX fun g hg=>hn g (by simpa [S.names,V.names] using hg)]
  ·rfl
 |index t x ix=>simp only [kernel,←hF x (by simp [Op.operands]),←hF ix (by simp [Op.operands])]
 |extract t n=>simp only [kernel,←hF t (by simp [Op.operands])]
 |range t x=>simp only [kernel,←hF x (by simp [Op.operands])]
 |makeFunc fn first caps=>
  cases fn with
  |func g=>
   simp only [kernel]
   have hc :∀x∈caps.toList,F x=F' x:=fun x hx=>hF x (by simp [Op.operands];exact .inr (by simpa using hx))
   have :∀l:List Operand,(∀x∈l,F x=F' x)→∀(G:Option (List W)→Option EK),G (l.mapM (fun x=>match F x with | .v (.one w)=>some w | _=>none))=G (l.mapM (fun x=>match F' x with | .v (.one w)=>some w | _=>none)):=by
    intro l hl G
    congr 1
    induction l with
    |nil=>rfl
    |cons x l ih=>
     simp only [List.mapM_cons]
     rw [hl x (by simp),ih fun y hy=>hl y (by simp [hy])]
   split
   ·exact this _ hc fun z=>match z with | some ws=>some (.pure (.v (.one (.clo g ws)))) | none=>none
   ·rfl
  |_=>rfl
 |call c=>
  obtain ⟨callee,args,ts⟩:=c
  have ha :∀x∈args.toList,F x=F' x:=fun x hx=>hF x (by simp [Op.operands,Call.operands];exact .inr (by simpa using hx))
  have hb :∀x∈args.toList,∀g∈(F x).names,o g=o' g:=fun x hx=>ho x (by simp [Op.operands,Call.operands];exact .inr (by simpa using hx))
  cases callee with
  |builtin b=>
   cases b with
   |append=>
    simp only [kernel]
    split
    ·rename_i s x sT xT _ hl _
     have hs:=ha s (by rw [hl];simp)
     have hx:=ha x (by rw [hl];simp)
     have ns:=hb s (by rw [hl];simp)
     have nx:=hb x (by rw [hl];simp)
     rw [←hs,←hx]
     generalize F s=ss at ns
     generalize F x=sx at nx
     split
     ·exact LP (fun g hg=>ns g (by simpa [S.names,V.names] using hg)) (fun g hg=>nx g (by simpa [S.names,V.names] using hg))
     ·rfl
    ·rfl
   |clear=>
    simp only [kernel]
    split
    ·rename_i x t tl hl _
     have hx:=ha x (by rw [hl];simp)
     have nx:=hb x (by rw [hl];simp)
     rw [←hx]
     generalize F x=sx at nx
     unfold KW
     split
     ·rename_i e _ _ _ g lo hi _
      rw [nx g (by simp [S.names,V.names,W.names])]
      split
      ·rename_i ie _ _ _ _ _ _
       have:qL o (ie.zero.map cv)=qL o' (ie.zero.map cv):=oV fun x hx g hg=>by
        obtain ⟨v,_,rfl⟩:=List.mem_map.1 hx
        rw [lN] at hg;cases hg
       rw [this]
      ·rfl
     ·rfl
    ·rfl
   |len=>
    simp only [kernel]
    split
    ·rename_i x t hl _
     have hx:=ha x (by rw [hl];simp)
     have nx:=hb x (by rw [hl];simp)
     rw [←hx]
     generalize F x=sx at nx
     split
     ·rw [DI fun g hg=>nx g (by simpa [S.names,V.names] using hg)]
     ·rfl
     ·rfl
    ·rfl
   |min=>
    simp only [kernel]
    split
    ·rename_i x y hl
     rw [ha x (by rw [hl];simp),ha y (by rw [hl];simp)]
    ·rename_i x y z hl
     rw [ha x (by rw [hl];simp),ha y (by rw [hl];simp),ha z (by rw [hl];simp)]
    ·rfl
   |max=>
    simp only [kernel]
    split
    ·rename_i x y hl
     rw [ha x (by rw [hl];simp),ha y (by rw [hl];simp)]
    ·rename_i x y z hl
     rw [ha x (by rw [hl];simp),ha y (by rw [hl];simp),ha z (by rw [hl];simp)]
    ·rfl
   |_=>rfl
  |_=>rfl
 |_=>rfl
theorem xI {col:Nat→Option Nat} :∀{xs:List W} {j:Nat},(∀x∈xs,∀g∈x.names,Agree o o' g)→NH o col j xs=NH o' col j xs
 | [],_,_=>rfl
 |x::xs,j,h=>by
  have hx:=h x (by simp)
  simp only [NH]
  rw [xI fun y hy=>h y (by simp [hy]),BL hx]
  cases x with
  |own e=>simp only [(hx e (by simp [W.names])).1]
  |_=>rfl
theorem yZ {col:Nat→Option Nat} :∀{xs:List W} {j:Nat} {ys:List P} {a i:Bool} {gs:List Nat} {es:List (Nat×Nat)},NH o col j xs=some (ys,a,i,gs,es)→(∀x∈xs,∀g∈x.names,Agree o o' g)→∀g∈gs,Agree o o' g
 | [],j,ys,a,i,gs,es,h,_=>by simp [NH] at h;obtain ⟨_,_,_,rfl,_⟩:=h;simp
 |x::xs,j,ys,a,i,gs,es,h,hx=>by
  simp only [NH] at h
  split at h
  ·cases h
  ·rename_i ys' a' i' gs' es' h2
   have ih:=yZ h2 (fun y hy=>hx y (by simp [hy]))
   split at h
   ·split at h
    ·rename_i h1
     simp only [Option.some.injEq,Prod.mk.injEq] at h
     obtain ⟨_,_,_,rfl,_⟩:=h
     intro g hg
     rcases List.mem_append.1 hg with hg | hg
     ·exact yV h1 (hx x (by simp)) g hg
     ·exact ih g hg
    ·cases h
   ·split at h
    ·simp only [Option.some.injEq,Prod.mk.injEq] at h
     obtain ⟨_,_,_,rfl,_⟩:=h
     exact ih
    ·split at h
     ·split at h
      ·simp only [Option.some.injEq,Prod.mk.injEq] at h
       obtain ⟨_,_,_,rfl,_⟩:=h
       exact ih
      ·cases h
     ·cases h
    ·cases h
theorem Oz {x:W} (h :∀g∈x.names,Agree o o' g):baseD o x=baseD o' x:=by
 cases x<;>simp only [baseD]<;>(try rw [lg (h _ (by simp [W.names])),(h _ (by simp [W.names])).1])
theorem Ji {tt:TT} {dc:List (Nat×Nat)} {d:Nat} {F F':Operand→S} {op:Op} {ty:TypeId} (hF :∀x∈op.operands.toList,F x=F' x) (hO :∀x∈op.operands.toList,∀g∈(F x).names,Agree o o' g) :
  bY tt dc d o F op ty=bY tt dc d o' F' op ty:=by
 cases op with
 |load t x=>
  have hx:=hF x (by simp [Op.operands])
  have hn:=hO x (by simp [Op.operands])
  simp only [bY,yP,←hx]
  generalize F x=sx at hn
  congr 1
  ·split
   ·have hg:=hn _ (by simp [S.names,V.names,W.names];rfl)
    rw [←lg hg]
   ·rfl
  ·split
   ·have hg:=hn _ (by simp [S.names,V.names,W.names];rfl)
    rw [←lg hg,←hg.1]
   ·rfl
 |slice t x lo hi mx=>
  cases lo with
  |some _=>rfl
  |none=>
  cases mx with
  |some _=>rfl
  |none=>
  have hx:=hF x (by simp [Op.operands])
  have hn:=hO x (by simp [Op.operands])
  have hh:hi.map F=hi.map F':=by
   cases hi with
   |none=>rfl
   |some y=>simp only [Option.map_some,Option.some.injEq];exact hF y (by simp [Op.operands])
  simp only [bY,←hx,←hh]
  generalize F x=sx at hn
  split
  ·have hg:=hn _ (by simp [S.names,V.names,W.names];rfl)
   rw [←hg.1]
  ·rfl
 |store t x y=>
  have hx:=hF x (by simp [Op.operands])
  have hy:=hF y (by simp [Op.operands])
  have hn:=hO x (by simp [Op.operands])
  have hm:=hO y (by simp [Op.operands])
  simp only [bY,←hx,←hy]
  generalize F x=sx at hn
  generalize F y=sy at hm
  split
  ·rename_i g off y _
   have hg:=hn _ (by simp [S.names,V.names,W.names];rfl)
   have hw :∀x∈y.words,∀g∈x.names,Agree o o' g:=fun x hx g hg=>hm g (DJ hx hg)
   rw [←lg hg,←hg.1]
   split
   ·rename_i a0 i0 sz cols l0 hole _
    rw [←xI hw]
    split
    ·rename_i ps a' i' gs es hz
     rw [lV (yZ hz hw)]
    ·rfl
   ·rfl
  ·rfl
 |buildSlice t n ps=>
  have e:ps.toList.map (fun p=>(p.1,F p.2))=ps.toList.map (fun p=>(p.1,F' p.2)):=List.map_congr_left fun p hp=>by
   rw [hF p.2 (by simp only [Op.operands];exact List.mem_map.2 ⟨p,hp,rfl⟩)]
  simp only [bY,←e]
  split
  ·split
   ·rename_i ie _
    split
    ·rename_i ws hws
     have hn :∀x∈ws,∀g∈x.names,Agree o o' g:=by
      intro x hx g hg
      rcases yY hws x hx with h | ⟨p,hp,h⟩
      ·have:=qo h
       obtain ⟨v,_,rfl⟩:=List.mem_map.1 this
       rw [lN] at hg;cases hg
      ·obtain ⟨q,hq,rfl⟩:=List.mem_map.1 hp
       exact hO q.2 (by simp only [Op.operands];exact List.mem_map.2 ⟨q,hq,rfl⟩) g (h g hg)
     rw [←xI hn]
     split
     ·rename_i h
      rw [lV (yZ h hn)]
     ·rfl
    ·rfl
   ·rfl
  ·rfl
 |makeSlice t n c=>
  simp only [bY,←hF n (by simp [Op.operands]),←hF c (by simp [Op.operands])]
  split
  ·split
   ·rename_i ie _
    have :∀col,NH o col 0 (ie.zero.map cv)=NH o' col 0 (ie.zero.map cv):=fun col=>xI fun x hx g hg=>by
     obtain ⟨v,_,rfl⟩:=List.mem_map.1 hx
     rw [lN] at hg;cases hg
    rw [this]
   ·rfl
  ·rfl
 |call c=>
  obtain ⟨callee,args,ts⟩:=c
  have ha :∀x∈args.toList,F x=F' x:=fun x hx=>hF x (by simp [Op.operands,Call.operands];exact .inr (by simpa using hx))
  have hb :∀x∈args.toList,∀g∈(F x).names,Agree o o' g:=fun x hx=>hO x (by simp [Op.operands,Call.operands];exact .inr (by simpa using hx))
  cases callee with
  |builtin b=>
   cases b with
   |append=>
    simp only [bY]
    split
    ·rename_i s x sT xT _ hl _
     have hs:=ha s (by rw [hl];simp)
     have hx:=ha x (by rw [hl];simp)
     have ns:=hb s (by rw [hl];simp)
     have nx:=hb x (by rw [hl];simp)
     rw [←hs,←hx]
     generalize F s=ss at ns
     generalize F x=sx at nx
     split
     ·rename_i s' g2 _ _
      have hg:=nx g2 (by simp [S.names,V.names,W.names])
      rw [←Oz (fun g hg=>ns g (by simpa [S.names,V.names] using hg)),←lg hg,←hg.1]
     ·rfl
    ·rfl
   |_=>rfl
  |_=>rfl
 |_=>rfl
end
end Go.Fw

namespace Go.Fw
open Go.RowKit
set_option linter.unusedSectionVars false
set_option linter.unusedVariables false
set_option linter.unusedSimpArgs false
variable [dw]
def quiet:Obj→Bool
 |.loop _=>true
 |.deferred _=>true
 |_=>false
theorem iw {o:Obj} (h:quiet o=true) :∀c e f,o≠.cells c e f:=by intro c e f e';subst e';cases h
theorem Gi {o:Obj} (h:quiet o=true) :∀s k,o≠.stringIter s k:=by intro s k e';subst e';cases h
section
variable {w w':World} {b:Nat} {o:Obj}
theorem Gj {a:Addr} {v:Value} (h:w.cell? a=some v) :∃c e f,w.heap[a.block]?=some (.cells c e f):=by
 obtain ⟨o,ho,hc⟩:=cells_of_cell h
 cases o<;>first | exact ⟨_,_,_,ho⟩ | cases hc
theorem bn.turn (hb:w.heap[b]?=some o) (hq:quiet o=true) (hs :∀k,k≠b→w'.heap[k]?=w.heap[k]?) {ok:Nat→Prop} {x:P} {v:Value} (r:bn w ok x v):bn w' ok x v:=by
 have ne :∀{k c e f},w.heap[k]?=some (.cells c e f)→k≠b:=fun hk e'=>by subst e';rw [hb] at hk;exact iw hq _ _ _ (Option.some.inj hk)
 induction r with
 |int k n=>exact .int k n
 |bool b=>exact .bool b
 |str s=>exact .str s
 |opq v h=>exact .opq v h
 |nil sz ao cap=>exact .nil sz ao cap
 |sl sz l a cap f hs' hok hcap hlen hc hr ih=>
  refine .sl sz l a cap f hs' hok hcap hlen (fun i x hx j y hy => ?_) (fun i x hx j y hy=>ih i x hx j y hy)
  have h0:=hc i x hx j y hy
  obtain ⟨c,e,f,hk⟩:=Gj h0
  rw [←h0]
  exact World.cell?_of_block (w:=w) (hs _ (ne hk))
 |seq l v S hv hS hq'=>
  exact .seq l v S hv (fun b' hb'=>⟨(hS b' hb').1,by obtain ⟨c,e,f,hk⟩:=(hS b' hb').2;exact ⟨c,e,f,(hs _ (ne hk)).trans hk⟩⟩)
   (dw.Uc (fun b' hb'=>by obtain ⟨c,e,f,hk⟩:=(hS b' hb').2;exact hs _ (ne hk)) hq')
variable {E:Env} {st:St} {gh:Nat→Gh}
theorem tZ (hz:w'.heap.size=w.heap.size) {a i:Bool}:E.ok st gh w a i=E.ok st gh w' a i:=by
 funext b;unfold Env.ok;rw [hz]
theorem dH.turn (hb:w.heap[b]?=some o) (hq:quiet o=true) (hs :∀k,k≠b→w'.heap[k]?=w.heap[k]?) (hz:w'.heap.size=w.heap.size) {x:W} {v:Value} (r:dH E st gh w x v):dH E st gh w' x v:=by
 induction r with
 |p a i x v h=>exact .p a i x v (by rw [←tZ hz];exact h.turn hb hq hs)
 |bD=>exact .bD
 |own g v hv h=>exact .own g v hv h
 |vw g lo hi v hv h=>exact .vw g lo hi v hv h
 |box g off v hv h=>exact .box g off v hv h
 |ep g n off v hv h=>exact .ep g n off v hv h
 |sp a i row off b' o' hb' h=>
  refine .sp a i row off b' o' (by rw [←tZ hz];exact hb') fun j y hj => ?_
  obtain ⟨u,hu,hr⟩:=h j y hj
  obtain ⟨c,e,f,hk⟩:=Gj hu
  refine ⟨u,?_,by rw [←tZ hz];exact hr.turn hb hq hs⟩
  rw [←hu]
  refine World.cell?_of_block (w:=w) (hs _ fun e' => ?_)
  have hk:w.heap[b']?=some (.cells c e f):=hk
  have e':b'=b:=e'
  rw [e',hb] at hk;exact iw hq _ _ _ (Option.some.inj hk)
 |gl g=>exact .gl g
 |lH g v hv h=>exact .lH g v hv h
 |gd b x v h ih=>exact .gd b x v ih
 |clo f caps vs hl h ih=>exact .clo f caps vs hl ih
 |no v=>exact .no v
theorem pY.turn (hb:w.heap[b]?=some o) (hq:quiet o=true) (hs :∀k,k≠b→w'.heap[k]?=w.heap[k]?) (hz:w'.heap.size=w.heap.size) {x:V} {v:Value} (r:pY E st gh w x v):pY E st gh w' x v:=by
 cases r with
 |one x v h=>exact .one x v (h.turn hb hq hs hz)
 |agg xs cs hl hv h=>exact .agg xs cs hl hv fun j x v hx hv'=>(h j x v hx hv').turn hb hq hs hz
theorem bI.turn (hb:w.heap[b]?=some o) (hq:quiet o=true) (hs :∀k,k≠b→w'.heap[k]?=w.heap[k]?) (hz:w'.heap.size=w.heap.size) {x:S} {v:Value} (r:bI E st gh w x v):bI E st gh w' x v:=by
 cases r with
 |v x v h=>exact .v x v (h.turn hb hq hs hz)
 |kC xs vs hl h=>exact .kC xs vs hl fun j x v hx hv=>(h j x v hx hv).turn hb hq hs hz
 |no v=>exact .no v
theorem fV.turn (hb:w.heap[b]?=some o) (hq:quiet o=true) (hs :∀k,k≠b→w'.heap[k]?=w.heap[k]?) (hz:w'.heap.size=w.heap.size) {a i:Bool} {sz:Nat} {l:List (List P)} {G:Gh} (r:fV E st gh w a i sz l G):fV E st gh w' a i sz l G:=by
 rcases r with r | ⟨ad,c,e,h1,h2,h3,h4,h5,h6,h7⟩
 ·exact .inl r
 ·exact .inr ⟨ad,c,e,h1,h2,(hs _ fun e'=>by rw [e',hb] at h3;exact iw hq _ _ _ (Option.some.inj h3)).trans h3,h4,h5,h6,fun n x hx j y hy=>let ⟨v,q1,q2⟩:=h7 n x hx j y hy;⟨v,q1,by rw [←tZ hz];exact q2.turn hb hq hs⟩⟩
theorem kD.turn (hb:w.heap[b]?=some o) (hq:quiet o=true) (hs :∀k,k≠b→w'.heap[k]?=w.heap[k]?) (hz:w'.heap.size=w.heap.size) {x:O} {G:Gh} (r:kD E st gh w x G):kD E st gh w' x G:=by
 have ne :∀{k c e f},w.heap[k]?=some (.cells c e f)→k≠b:=fun hk e'=>by subst e';rw [hb] at hk;exact iw hq _ _ _ (Option.some.inj hk)
 cases x with
 |none=>trivial
 |box ws=>
  obtain ⟨ad,c,e,h1,h2,h3,h4,h5⟩:=r
  exact ⟨ad,c,e,h1,h2,(hs _ (ne h3)).trans h3,h4,fun j x hx=>let ⟨v,q1,q2,q3⟩:=h5 j x hx;⟨v,q1,q2,q3.turn hb hq hs hz⟩⟩
 |arr fz a i sz l=>
  cases fz with
  |true=>exact (by rw [←tZ hz];exact bn.turn hb hq hs r:bn w' (E.ok st gh w' a i) (.sl sz l) (.slice G.ad l.length G.cap))
  |false=>exact fV.turn hb hq hs hz r
 |deep a i sz cols l hole=>
  rcases r with r | ⟨ad,c,e,h1,h2,h3,h4,h5,h6,⟨h7,h7'⟩,h8⟩
  ·exact .inl r
  ·refine .inr ⟨ad,c,e,h1,h2,(hs _ (ne h3)).trans h3,h4,h5,h6,⟨h7,fun k hk=>let ⟨c,e,f,q⟩:=h7' k hk;⟨c,e,f,(hs _ (ne q)).trans q⟩⟩,fun n x hx j y hy => ?_⟩
   obtain ⟨v,hv,hr⟩:=h8 n x hx j y hy
   refine ⟨v,hv,?_⟩
   unfold gq at *
   cases hc:cols.lookup j with
   |none=>rw [hc] at hr;exact (by rw [←tZ hz];exact bn.turn hb hq hs hr:bn w' (E.ok st gh w' a i) y v)
   |some sz'=>
    rw [hc] at hr
    simp only at *
    cases hh:fE hole n j with
    |some d=>rw [hh] at hr;exact ⟨hr.1,hr.2.turn hb hq hs hz⟩
    |none=>
     rw [hh] at hr
     obtain ⟨l',ao,k,q1,q2,q3,q4⟩:=hr
     exact ⟨l',ao,k,q1,q2,q3.turn hb hq hs hz,q4⟩
 |it s n=>
  obtain ⟨ad,bs,k,h1,h2,h3,h4⟩:=r
  refine ⟨ad,bs,k,h1,h2,h3,(hs _ fun e' => ?_).trans h4⟩
  rw [e',hb] at h4;exact Gi hq _ _ (Option.some.inj h4)
theorem Rel.turn {val:Nat→Value} (h:Rel E st gh val w) (hb:w.heap[b]?=some o) (hq:quiet o=true) (hB:E.B0≤b) (o':Obj):Rel E st gh val (w.putObj b o'):=by
 have hs :∀k,k≠b→(w.putObj b o').heap[k]?=w.heap[k]?:=fun k hk=>World.putObj_heap_other hk
 have hz:(w.putObj b o').heap.size=w.heap.size:=World.putObj_size
 exact ⟨fun t=>(h.slots t).turn hb hq hs hz,fun g=>(h.objs g).turn hb hq hs hz,h.inj,fun g a h1 h2=>by rw [hz];exact h.wr g a h1 h2,h.wi,h.ns,h.wb,fun k hk hw=>(hs k (by omega)).trans (h.frame k hk hw),by rw [hz];exact h.size,h.os,h.tape,h.output,h.us,h.uo,h.ul⟩
omit [dw] in
structure oW (w w':World):Prop where
 size:w.heap.size≤w'.heap.size
 same :∀b,b<w.heap.size→w'.heap[b]?=w.heap[b]?
 os:w'.os=w.os
 tape:w'.tape=w.tape
 output:w'.output=w.output
theorem oW.refl (w:World):oW w w:=⟨Nat.le_refl _,fun _ _=>rfl,rfl,rfl,rfl⟩
theorem oW.trans {w w1 w2:World} (h:oW w w1) (k:oW w1 w2):oW w w2:=
 ⟨Nat.le_trans h.size k.size,fun b hb=>(k.same b (Nat.lt_of_lt_of_le hb h.size)).trans (h.same b hb),k.os.trans h.os,k.tape.trans h.tape,k.output.trans h.output⟩
theorem oW.alloc (w:World) (o:Obj):oW w (w.alloc o):=
 ⟨by simp,fun b hb=>Below.heap_alloc w o b hb,rfl,rfl,rfl⟩
theorem oW.lets (h:oW w w'):Lets E st st gh gh w w':=
 ⟨fun a i b hb=>⟨⟨hb.1,Nat.lt_of_lt_of_le hb.2.1 h.size,hb.2.2⟩,h.same b hb.2.1⟩,fun g _=>.inr ⟨⟨rfl,rfl⟩,O.dJ _⟩⟩
theorem Rel.grows {val:Nat→Value} (h:Rel E st gh val w) (hg:oW w w'):Rel E st gh val w':=by
 have hl:Lets E st st gh gh w w':=hg.lets
 refine ⟨fun t=>hl.abz (h.us t) (h.slots t),fun g=>hl.zO (fun ho ad had=>hg.same _ (h.wr g ad ho had).2) (h.uo g) (h.objs g),h.inj,fun g a h1 h2=>⟨(h.wr g a h1 h2).1,Nat.lt_of_lt_of_le (h.wr g a h1 h2).2 hg.size⟩,h.wi,h.ns,h.wb,fun k hk hw=>(hg.same k (Nat.lt_of_lt_of_le hk h.size)).trans (h.frame k hk hw),Nat.le_trans h.size hg.size,hg.os.trans h.os,hg.tape.trans h.tape,hg.output.trans h.output,h.us,h.uo,h.ul⟩
theorem Rel.Yu {val:Nat→Value} (h:Rel E st gh val w) (hb:w.heap[b]?=some o) (hq:quiet o=true) (hB:E.B0≤b) (a i:Bool):E.ok st gh w a i b:=by
 refine ⟨.inr (.inr (.inl hB)),(Array.getElem?_eq_some_iff.1 hb).1,fun g ho had => ?_⟩
 have hO:=h.objs g
 rcases had with ⟨ad,had,e⟩ | hsub
 case inr=>
  cases hd:(st.o g).mO with
  |false=>rw [h.ns g ho hd b] at hsub;cases hsub
  |true=>
   cases hog:st.o g with
   |deep a i sz cols l hole=>
    rw [hog] at hO
    rcases hO with ⟨_,_,_,q⟩ | ⟨ad,c,e,_,_,_,_,_,_,⟨_,q⟩,_⟩
    ·rw [q b] at hsub;cases hsub
    ·obtain ⟨c,e,f,q⟩:=q b hsub
     rw [hb] at q;exact iw hq _ _ _ (Option.some.inj q)
   |_=>rw [hog] at hd;cases hd
 cases hog:st.o g with
 |none=>rw [hog] at ho;cases ho
 |box ws=>
  rw [hog] at hO
  obtain ⟨ad',c,e',q1,_,q3,_⟩:=hO
  rw [had] at q1;cases q1
  rw [e,hb] at q3;exact iw hq _ _ _ (Option.some.inj q3)
 |deep a i sz cols l hole=>
  rw [hog] at hO
  rcases hO with ⟨q1,_⟩ | ⟨ad',c,e',q1,_,q3,_⟩
  ·rw [had] at q1;cases q1
  ·rw [had] at q1;cases q1
   rw [e,hb] at q3;exact iw hq _ _ _ (Option.some.inj q3)
 |arr fz a i sz l=>
  cases fz with
  |true=>rw [hog] at ho;cases ho
  |false=>
   rw [hog] at hO
   rcases hO with ⟨q1,_⟩ | ⟨ad',c,e',q1,_,q3,_⟩
   ·rw [had] at q1;cases q1
   ·rw [had] at q1;cases q1
    rw [e,hb] at q3;exact iw hq _ _ _ (Option.some.inj q3)
 |it s n=>
  rw [hog] at hO
  obtain ⟨ad',bs,k,q1,_,_,q4⟩:=hO
  rw [had] at q1;cases q1
  rw [e,hb] at q4;exact Gi hq _ _ (Option.some.inj q4)
end
end Go.Fw

namespace Go.Fw
set_option linter.unusedSectionVars false
variable [dw]
set_option linter.unusedVariables false
section
variable {E:Env} {st st':St} {gh aT:Nat→Gh} {w w':World} {a:Act}
theorem Ru (v:Value):bI E st gh w (sU v) v:=by
 unfold sU
 split
 ·rename_i cs
  split
  ·rename_i h
   have h:=List.all_eq_true.1 h
   refine .v _ _ (.agg _ cs.toList (by simp) h fun j x u hx hu => ?_)
   rw [List.getElem?_map,hu] at hx
   simp only [Option.map_some,Option.some.injEq] at hx
   subst hx
   exact QY (h u (List.mem_of_getElem? hu))
  ·exact .no _
 ·exact .no _
 ·exact .v _ _ (.one _ _ (.clo _ [] [] rfl fun j x v hx=>by simp at hx))
 ·split
  ·rename_i h;exact .v _ _ (.one _ _ (QY h))
  ·exact .no _
theorem LQ (v:Value):(sU v).names=[]:=by
 unfold sU
 split
 ·split
  ·simp [S.names,V.names,lN]
  ·rfl
 ·rfl
 ·simp [S.names,V.names,W.names]
 ·split
  ·simp [S.names,V.names,lN]
  ·rfl
theorem lW (h:Rel E st gh (fun t=>a.tmps.getD t undef) w) (x:Operand):bI E st gh w (st.bZ x) (a.eval x):=by
 cases x with
 |tmp t=>exact h.slots t
 |const v=>exact Ru v
 |global g=>
  simp only [St.bZ]
  split
  ·exact .v _ _ (.one _ _ (.gl g))
  ·exact .no _
 |func f=>exact .v _ _ (.one _ _ (.clo _ [] [] rfl fun j x v hx=>by simp at hx))
theorem Gl (h:Rel E st gh (fun t=>a.tmps.getD t undef) w) (x:Operand) :∀g∈(st.bZ x).names,st.used g=true:=by
 cases x with
 |tmp t=>exact h.us t
 |const v=>intro g hg;simp [St.bZ,LQ] at hg
 |global g=>
  intro g' hg
  simp only [St.bZ] at hg
  split at hg
  ·simp [S.names,V.names,W.names] at hg
  ·simp [S.names] at hg
 |func f=>intro g hg;simp [St.bZ,S.names,V.names,W.names] at hg
theorem vV (dst:Option Tmp) (v:Value) (h :∀d,dst=some d→d<a.tmps.size):(fun t=>(a.put dst v).tmps.getD t undef)=vF (fun t=>a.tmps.getD t undef) dst v:=by
 cases dst with
 |none=>rfl
 |some d=>
  funext t
  have hd:=h d rfl
  simp only [Act.put,vF,Array.getD_eq_getD_getElem?]
  by_cases e:t=d
  ·subst e;simp [hd]
  ·rw [Array.getElem?_setIfInBounds_ne (Ne.symm e),if_neg e]
variable {Pg:Program} {T:Tab} {tt:TT}
theorem Wv (hT :∀f sp,T f=some sp→Sound Pg f sp) (htt:fM Pg tt) (h:Rel E st gh (fun t=>a.tmps.getD t undef) w) {o:Oper} {d:Nat} {e:Eff} (hc:gZ T tt d st o fun e'=>e'=e) (hnew :∀g∈e.new,st.used g=false)
  {K:Act→World→Prop} {Q:Exit→Act→World→Prop}
  (hK :∀v w' aT,Rel E (st.upd e.upd e.new) aT (fun t=>a.tmps.getD t undef) w'→Lets E st (st.upd e.upd e.new) gh aT w w'→bI E (st.upd e.upd e.new) aT w' e.x v→(∀g∈e.x.names,(st.upd e.upd e.new).used g=true)→K (a.put o.dst v) w') :
  o.wp Pg a w K Q:=by
 unfold gZ at hc
 split at hc
 ·rename_i f args ts ho
  split at hc
  ·rename_i fn caps hf
   split at hc
   ·rename_i sp hsp
    split at hc
    ·rename_i c hci
     obtain ⟨Ur,outs,same,hR,hsame,he⟩:=hc
     simp only [Bool.and_eq_true,decide_eq_true_eq] at Ur
     have hrf:=lW h f
     rw [hf] at hrf
     generalize hvf:a.eval f=vf at hrf
     cases hrf.bH with
     |clo _ _ vs hl hvs=>
     have hS:=hT fn sp hsp
     have hrun:(execOp a.eval o).run Pg w=.ok (.enter fn (args.toList.map a.eval++vs).toArray) w:=by
      have:(#[]++args.map a.eval)++vs.toArray=(args.toList.map a.eval++vs).toArray:=by
       apply Array.ext';simp
      rw [←hS.2.1 (args.toList.map a.eval++vs).toArray w,←this]
      simp only [execOp,ho,resolve,hvf,Deferred.ofValue]
      rfl
     show o.upon Pg a K Q ((execOp a.eval o).run Pg w)
     rw [hrun,Oper.upon_enter]
     have hr :∀t,bI E st gh w (((args.toList.map st.bZ)++caps.map fun x=>S.v (.one x)).getD t .no) ((args.toList.map a.eval++vs).getD t undef):=by
      intro t
      simp only [List.getD_eq_getElem?_getD]
      by_cases ht:t<args.toList.length
      ·rw [List.getElem?_append_left (by simpa using ht),List.getElem?_append_left (by simpa using ht),List.getElem?_map,List.getElem?_map,List.getElem?_eq_getElem ht]
       exact lW h _
      ·rw [List.getElem?_append_right (by simpa using ht),List.getElem?_append_right (by simpa using ht)]
       simp only [List.length_map]
       rw [List.getElem?_map]
       cases hx:caps[t-args.toList.length]? with
       |none=>exact .no _
       |some x=>
        have hlt:t-args.toList.length<vs.length:=by rw [←hl];exact (List.getElem?_eq_some_iff.1 hx).1
        rw [List.getElem?_eq_getElem hlt]
        exact .v _ _ (.one _ _ (hvs _ x _ hx (List.getElem?_eq_getElem hlt)))
     have hu:=V_ (st:=st) (e:=fZ sp.sig d st.o c outs) fun g hg=>(hsame g hg).2
     have hnew :∀g∈(fZ sp.sig d st.o c outs).new,st.used g=false:=fun g hg=>hnew g (by rw [←he];exact hg)
     refine Calls.mono (Rt hS h hr (by simp;omega) hci Ur.1 hR d rfl hnew) fun e' w' he' => ?_
     obtain ⟨v,aT,rfl,q1,q2,q3,q4⟩:=he'
     rw [←hu] at q1 q2 q3 q4
     rw [he] at q1 q2 q3 q4
     have q3:bI E (st.upd e.upd e.new) aT w' e.x v:=by rw [←he];rw [←he] at q3;exact q3
     have q4 :∀g∈e.x.names,(st.upd e.upd e.new).used g=true:=by rw [←he];rw [←he] at q4;exact q4
     exact hK v w' aT q1 q2 q3 q4
    ·cases hc
   ·cases hc
  ·cases hc
 ·rcases hc with ⟨dc,r,hk,hp,hc⟩ | hc
  ·have he:=NI.iff.1 hc
   subst he
   obtain ⟨v,w',aT,hd,q1,q2,q3,q4⟩:=Jd htt o.op E st gh _ w a.eval st.bZ o d r rfl h (lW h) (Gl h) hk hp hnew
   show o.upon Pg a K Q ((execOp a.eval o).run Pg w)
   rcases hd with hd | ⟨hd,rfl⟩
   ·rw [hd];exact hK v w' aT q1 q2 q3 q4
   ·rw [hd];exact hK _ w' aT q1 q2 q3 q4
  split at hc
  ·rename_i r hk
   obtain ⟨hp,hc⟩:=hc
   have he:({ x:=r.dst r.val,upd:=r.upd r.val,new:=r.new }:Eff)=e:=by
    cases hb:Dx o.op with
    |true=>rw [hb] at hc;exact NI.iff.1 hc
    |false=>rw [hb] at hc;exact hc
   subst he
   obtain ⟨v,w',aT,hd,q1,q2,q3,q4⟩:=Lm htt o.op E st gh _ w a.eval st.bZ o d r rfl h (lW h) (Gl h) hk hp hnew
   show o.upon Pg a K Q ((execOp a.eval o).run Pg w)
   rcases hd with hd | ⟨hd,rfl⟩
   ·rw [hd];exact hK v w' aT q1 q2 q3 q4
   ·rw [hd];exact hK _ w' aT q1 q2 q3 q4
  ·cases hc
def mark (D:Nat):Deferred:={ target:=.collected D,args:=#[] }
def Marks (E:Env) (a:Act) (w:World):Prop :=∃Ds:List Nat,a.defers=Ds.map mark∧Ds.Nodup∧∀D∈Ds,E.B0≤D∧w.heap[D]?=some (.deferred (some []))
theorem Marks.nil {E:Env} {a:Act} {w:World} (h:a.defers=[]):Marks E a w:=⟨[],h,List.nodup_nil,fun D hD=>by cases hD⟩
structure Good (E:Env) (N:Nat) (aN:List Nat) (nU:Nat→Gh) (st:St) (a:Act) (w:World):Prop where
 ex :∃gh,Rel E st gh (fun t=>a.tmps.getD t undef) w∧∀g∈aN,st.used g=true∧(st.o g=.none∨((gh g).ad=(nU g).ad∧(gh g).cap=(nU g).cap))
 size:a.tmps.size=N
 defers:Marks E a w
theorem vW (dst:Option Tmp) (v:Value):(a.put dst v).tmps.size=a.tmps.size:=by cases dst<;>simp [Act.put]
theorem put_defers (dst:Option Tmp) (v:Value):(a.put dst v).defers=a.defers:=by cases dst<;>rfl
theorem Marks.same {E:Env} {a:Act} {w w':World} (hm:Marks E a w) (h :∀D,E.B0≤D→w.heap[D]?=some (.deferred (some []))→w'.heap[D]?=w.heap[D]?) (dst:Option Tmp) (v:Value):Marks E (a.put dst v) w':=by
 obtain ⟨Ds,h1,h2,h3⟩:=hm
 exact ⟨Ds,(put_defers dst v).trans h1,h2,fun D hD=>⟨(h3 D hD).1,(h D (h3 D hD).1 (h3 D hD).2).trans (h3 D hD).2⟩⟩
theorem Marks.step {val:Nat→Value} (hm:Marks E a w) (hR:Rel E st gh val w) (hL:Lets E st st' gh aT w w') (dst:Option Tmp) (v:Value):Marks E (a.put dst v) w':=
 hm.same (fun D h2 h3=>(hL.ok false false D (hR.Yu h3 rfl h2 _ _)).2) dst v
theorem Marks.put (hm:Marks E a w) (dst:Option Tmp) (v:Value):Marks E (a.put dst v) w:=hm.same (fun _ _ _=>rfl) dst v
def Can (T:Tab) (tt:TT) (N:Nat) (ops:Array Oper) (st:St) (o:Oper) (e:Eff):Prop:=stepW T tt N ops o st fun e'=>e'=e
theorem mX {d:Nat} {o:Oper} {K K':Eff→Prop} (hK :∀e,K e→K' e) (h:gZ T tt d st o K):gZ T tt d st o K':=by
 unfold gZ at *
 split at h
 ·split at h
  ·split at h
   ·split at h
    ·obtain ⟨h1,outs,same,h2,h4,h3⟩:=h;exact ⟨h1,outs,same,h2,h4,hK _ h3⟩
    ·exact h
   ·exact h
  ·exact h
 ·rcases h with ⟨dc,r,h1,h2,h3⟩ | h
  ·exact .inl ⟨dc,r,h1,h2,NI.iff.2 (hK _ (NI.iff.1 h3))⟩
  refine .inr ?_
  split at h
  ·refine ⟨h.1,?_⟩
   obtain ⟨_,h⟩:=h
   cases hb:Dx o.op with
   |true=>rw [hb] at h;exact NI.iff.2 (hK _ (NI.iff.1 h))
   |false=>rw [hb] at h;exact hK _ h
  ·exact h
theorem BM {d:Nat} {o:Oper} {K:Eff→Prop} (h:gZ T tt d st o K) :∃e,gZ T tt d st o (fun e'=>e'=e)∧K e:=by
 unfold gZ at *
 split at h
 ·split at h
  ·split at h
   ·split at h
    ·obtain ⟨h1,outs,same,h2,h4,h3⟩:=h;exact ⟨_,⟨h1,outs,same,h2,h4,rfl⟩,h3⟩
    ·cases h
   ·cases h
  ·cases h
 ·rcases h with ⟨dc,r,h1,h2,h3⟩ | h
  ·exact ⟨_,.inl ⟨dc,r,h1,h2,NI.iff.2 rfl⟩,NI.iff.1 h3⟩
  split at h
  ·obtain ⟨hp,h⟩:=h
   cases hb:Dx o.op with
   |true=>rw [hb] at h;exact ⟨_,.inr ⟨hp,NI.iff.2 rfl⟩,NI.iff.1 h⟩
   |false=>rw [hb] at h;exact ⟨_,.inr ⟨hp,rfl⟩,h⟩
  ·cases h
theorem OA {N:Nat} {ops:Array Oper} {o:Oper} {K:Eff→Prop} (h:stepW T tt N ops o st K) :∃e,Can T tt N ops st o e∧K e:=by
 unfold Can
 unfold stepW at *
 obtain ⟨hd,h⟩:=h
 split at h
 ·obtain ⟨e,h1,h2,h3⟩:=BM h
  exact ⟨e,⟨hd,mX (fun e' he=>⟨by rw [he];exact h2,he⟩) h1⟩,h3⟩
 ·split at h
  ·rename_i b hb
   cases b with
   |true=>
    simp only [cond_true] at h
    obtain ⟨e,h1,h2,h3⟩:=BM h
    refine ⟨e,⟨hd,?_⟩,h3⟩
    simp only [cond_true]
    exact mX (fun e' he=>⟨by rw [he];exact h2,he⟩) h1
   |false=>exact ⟨Eff.skip,⟨hd,rfl⟩,h⟩
  ·cases h
theorem Gm {N:Nat} {aN:List Nat} {nU:Nat→Gh} (hT :∀f sp,T f=some sp→Sound Pg f sp) (htt:fM Pg tt) {ops:Array Oper} {i:Nat} {o:Oper} (hi:ops[i]?=some o) (h:Good E N aN nU st a w) {e:Eff} (hc:Can T tt N ops st o e)
  {K:Act→World→Prop} {Q:Exit→Act→World→Prop} (hK :∀a' w',Good E N aN nU (st.eff o.dst e) a' w'→K a' w'):wpOp Pg ops Q i K a w:=by
 obtain ⟨⟨gh,hR,DF⟩,hsz,hdf⟩:=h
 unfold Can stepW at hc
 obtain ⟨hd,hc⟩:=hc
 have hd :∀d,o.dst=some d→d<a.tmps.size:=by
  intro d e
  rw [e] at hd
  rw [hsz];simpa using hd
 have run:(gZ T tt (o.dst.getD 0) st o fun e'=>e'.new.all (fun g=>!st.used g)=true∧e'=e)→o.wp Pg a w K Q:=by
  intro hc
  obtain ⟨e',h1,h2,rfl⟩:=BM hc
  have hnew :∀g∈e'.new,st.used g=false:=fun g hg=>by have:=(List.all_eq_true.1 h2) g hg;simpa using this
  refine Wv hT htt hR h1 hnew fun v w' aT q1 q2 q3 q4=>hK _ _ ⟨⟨aT,?_,fun g hg => ?_⟩,by rw [vW];exact hsz,hdf.step hR q2 _ _⟩
  ·rw [vV _ _ hd]
   exact q1.put o.dst q3 q4
  ·obtain ⟨p1,p2⟩:=DF g hg
   have ho:(st.eff o.dst e').o g=(st.upd e'.upd e'.new).o g:=by unfold St.eff St.put;cases o.dst<;>rfl
   have hu:(st.eff o.dst e').used g=(st.upd e'.upd e'.new).used g:=by unfold St.eff St.put;cases o.dst<;>rfl
   refine ⟨by rw [hu];simp [St.upd,p1],?_⟩
   rw [ho]
   rcases q2.names g p1 with q | ⟨q,qk⟩
   ·exact .inl q
   ·rcases p2 with p2 | p2
    ·rw [p2] at qk;exact .inl (O.BJ qk)
    ·exact .inr ⟨q.1.trans p2.1,q.2.trans p2.2⟩
 unfold wpOp
 rw [hi]
 simp only
 cases hg:o.guard with
 |none=>
  rw [hg] at hc
  have:Region.wanted o (yielded ops a.tmps)=true:=by simp [Region.wanted,hg]
  rw [if_pos this]
  exact .inl (run hc)
 |some p=>
  obtain ⟨j,want⟩:=p
  rw [hg] at hc
  simp only at hc
  split at hc
  ·rename_i b hb
   have hw:Region.wanted o (yielded ops a.tmps)=b:=by
    simp only [Region.wanted,hg,yielded]
    unfold guardOf at hb
    split at hb
    ·rename_i t ht
     have OC:=hR.slots t
     rw [ht]
     simp only [Option.bind_some]
     split at hb
     ·rename_i a' i' b' hs
      rw [hs] at OC
      have hv:=OC.dL.kL
      have:a.tmps[t]?=some (.bool b'):=by
       simp only [Array.getD_eq_getD_getElem?] at hv
       cases hx:a.tmps[t]? with
       |none=>rw [hx] at hv;cases hv
       |some x=>rw [hx] at hv;simp at hv;rw [hv]
      rw [this]
      simp only [Option.some.injEq] at hb
      subst hb
      cases want<;>cases b'<;>rfl
     ·rename_i hs
      rw [hs] at OC
      simp only [Option.some.injEq] at hb
      subst hb
      have hv:a.tmps.getD t undef=.tuple #[]:=by
       generalize a.tmps.getD t undef=v at OC
       cases OC with | kC _ vs hl _=>
       have:vs=[]:=by cases vs<;>simp_all
       subst this;rfl
      have:a.tmps[t]?=none∨a.tmps[t]?=some (.tuple #[]):=by
       simp only [Array.getD_eq_getD_getElem?] at hv
       cases hx:a.tmps[t]? with
       |none=>exact .inl rfl
       |some x=>rw [hx] at hv;simp at hv;rw [hv];exact .inr rfl
      rcases this with h | h<;>rw [h]<;>cases want<;>rfl
     ·cases hb
    ·cases hb
   rw [hw]
   cases b with
   |true=>exact .inl (run hc)
   |false=>
    simp only [cond_false] at hc
    subst hc
    refine hK _ _ ⟨⟨gh,?_,fun g hg => ?_⟩,by rw [vW];exact hsz,hdf.put _ _⟩
    ·rw [vV _ _ hd]
     unfold St.eff Eff.skip
     simp only [EU]
     exact hR.put o.dst (.kC [] [] rfl fun j x v hx=>by simp at hx) (by simp [S.names])
    ·have ho:(st.eff o.dst Eff.skip).o g=st.o g:=by unfold St.eff St.put Eff.skip;cases o.dst<;>simp [St.upd]
     have hu:(st.eff o.dst Eff.skip).used g=st.used g:=by unfold St.eff St.put Eff.skip;cases o.dst<;>simp [St.upd]
     rw [ho,hu];exact DF g hg
  ·cases hc
end
end Go.Fw

namespace Go.Fw
set_option linter.unusedSectionVars false
variable [dw]
set_option linter.unusedVariables false
section
variable {o o':Nat→O}
theorem Gn {k:WS} {x:W} (h :∀g∈x.names,Agree o o' g):dR o k x=dR o' k x:=by
 cases k with
 |p a i=>simp only [dR];rw [BL h]
 |own g'=>cases x<;>rfl
 |box g' off=>
  cases off with
  |zero=>cases x<;>first | rfl | (rename_i off;cases off<;>rfl)
  |succ off=>cases x<;>rfl
 |bD=>cases x<;>rfl
 |fn f=>cases x<;>first | rfl | (rename_i caps;cases caps<;>rfl)
 |lH g=>cases x<;>rfl
 |no=>cases x<;>rfl
 |vw g=>cases x<;>rfl
 |ep g off=>cases x<;>rfl
theorem DK :∀{ks:List WS} {xs:List W},(∀x∈xs,∀g∈x.names,Agree o o' g)→iO o ks xs=iO o' ks xs
 | [],[],_=>rfl
 | [],_::_,_=>rfl
 |_::_,[],_=>rfl
 |k::ks,x::xs,h=>by simp only [iO];rw [Gn (h x (by simp)),DK fun y hy=>h y (by simp [hy])]
theorem Rw {k:SS} {x:S} (h :∀g∈x.names,Agree o o' g):mW o k x=mW o' k x:=by
 cases k with
 |one k=>
  cases x with
  |v x=>cases x with
   |one x=>exact Gn fun g hg=>h g (by simpa [S.names,V.names] using hg)
   |agg xs=>rfl
  |kC=>rfl
  |no=>rfl
 |agg ks=>
  cases x with
  |v x=>cases x with
   |one x=>rfl
   |agg xs=>exact DK fun x hx g hg=>h g (by simp only [S.names,V.names,List.mem_flatMap];exact ⟨x,hx,hg⟩)
  |kC=>rfl
  |no=>rfl
theorem Us {args:List S} {t:Nat}:args.getD t .no=.no∨args.getD t .no∈args:=by
 rw [List.getD_eq_getElem?_getD]
 cases h:args[t]? with
 |none=>exact .inl rfl
 |some x=>exact .inr (List.mem_of_getElem? h)
theorem vX {args:List S} (h :∀x∈args,∀g∈x.names,Agree o o' g) :∀{L:List (Nat×SS)},dD o args L=dD o' args L
 | []=>rfl
 |(t,k)::L=>by
  simp only [dD]
  rw [Rw (o:=o) (o':=o') (k:=k) (x:=args.getD t .no) (fun g hg=>by
   rcases Us (args:=args) (t:=t) with e | e
   ·rw [e] at hg;simp [S.names] at hg
   ·exact h _ e g hg),vX h]
theorem Ag {k:WS} {x:W} {us:List P} {c:Bool×Bool} {gs:List Nat} {r:List (Nat×Nat)} (h:dR o k x=some (us,c,gs,r)) (hx :∀g∈x.names,Agree o o' g) :∀g∈gs,Agree o o' g:=by
 cases k with
 |p a i=>
  simp only [dR] at h
  split at h
  ·rename_i ht
   simp only [Option.some.injEq,Prod.mk.injEq] at h
   obtain ⟨_,_,rfl,_⟩:=h
   exact yV ht hx
  ·cases h
 |own g'=>cases x<;>simp [dR] at h;obtain ⟨_,_,rfl,_⟩:=h;simp
 |box g' off=>
  cases off with
  |succ off=>cases x<;>simp [dR] at h
  |zero=>
   cases x with
   |box g off=>cases off<;>simp [dR] at h;obtain ⟨_,_,rfl,_⟩:=h;simp
   |_=>simp [dR] at h
 |bD=>simp [dR] at h
 |fn f gs0=>
  cases x with
  |clo f' caps=>
   simp only [dR] at h
   split at h
   ·split at h
    ·simp only [Option.some.injEq,Prod.mk.injEq] at h;obtain ⟨_,_,rfl,_⟩:=h;simp
    ·cases h
   ·cases h
  |_=>simp [dR] at h
 |lH g=>simp [dR] at h
 |no=>simp [dR] at h
 |vw g=>simp [dR] at h
 |ep g off=>simp [dR] at h
theorem yx :∀{ks:List WS} {xs:List W} {us:List P} {c:Bool×Bool} {gs:List Nat} {r:List (Nat×Nat)},iO o ks xs=some (us,c,gs,r)→(∀x∈xs,∀g∈x.names,Agree o o' g)→∀g∈gs,Agree o o' g
 | [],xs,us,c,gs,r,h,_=>by
  cases xs<;>simp [iO] at h
  obtain ⟨_,_,rfl,_⟩:=h;simp
 |k::ks,xs,us,c,gs,r,h,hx=>by
  cases xs with
  |nil=>simp [iO] at h
  |cons x xs=>
   simp only [iO] at h
   split at h
   ·rename_i h1 h2
    simp only [Option.some.injEq,Prod.mk.injEq] at h
    obtain ⟨_,_,rfl,_⟩:=h
    intro g hg
    rcases List.mem_append.1 hg with hg | hg
    ·exact Ag h1 (hx _ (by simp)) g hg
    ·exact yx h2 (fun y hy=>hx y (by simp [hy])) g hg
   ·cases h
theorem rW {args:List S} :∀{L:List (Nat×SS)} {us:List P} {c:Bool×Bool} {gs:List Nat} {r:List (Nat×Nat)},dD o args L=some (us,c,gs,r)→(∀x∈args,∀g∈x.names,Agree o o' g)→∀g∈gs,Agree o o' g
 | [],us,c,gs,r,h,_=>by simp [dD] at h;obtain ⟨_,_,rfl,_⟩:=h;simp
 |(t,k)::L,us,c,gs,r,h,hx=>by
  simp only [dD] at h
  split at h
  ·rename_i h1 h2
   simp only [Option.some.injEq,Prod.mk.injEq] at h
   obtain ⟨_,_,rfl,_⟩:=h
   intro g hg
   rcases List.mem_append.1 hg with hg | hg
   ·have hx0 :∀g∈(args.getD t .no).names,Agree o o' g:=by
     rcases Us (args:=args) (t:=t) with e | e
     ·rw [e];simp [S.names]
     ·exact hx _ e
    ·generalize args.getD t S.no=z at h1 hx0
     cases k with
     |one k=>
      cases z with
      |v z=>
       cases z with
       |one z=>exact Ag h1 (fun g hg=>hx0 g (by simpa [S.names,V.names] using hg)) g hg
       |agg z=>simp [mW] at h1
      |_=>simp [mW] at h1
     |agg ks=>
      cases z with
      |v z=>
       cases z with
       |one z=>simp [mW] at h1
       |agg z=>exact yx h1 (fun x hx g hg=>hx0 g (by simp only [S.names,V.names,List.mem_flatMap];exact ⟨x,hx,hg⟩)) g hg
      |_=>simp [mW] at h1
   ·exact rW h2 hx g hg
  ·cases h
theorem mY :∀{L:List (Nat×OS)} {r r':List (Nat×Nat)} {u:List P} {c:Bool×Bool},iI o r L=some (u,c,r')→∀p∈r,p∈r'
 | [],r,r',u,c,h=>by simp only [iI,Option.some.injEq,Prod.mk.injEq] at h;obtain ⟨_,_,rfl⟩:=h;exact fun p hp=>hp
 |(g',k)::L,r,r',u,c,h=>by
  simp only [iI] at h
  split at h
  ·split at h
   ·split at h
    ·split at h
     ·rename_i h2
      simp only [Option.some.injEq,Prod.mk.injEq] at h
      obtain ⟨_,_,rfl⟩:=h
      exact fun p hp=>mY h2 p (List.mem_append_left _ hp)
     ·cases h
    ·cases h
   ·split at h
    ·split at h
     ·rename_i h2
      simp only [Option.some.injEq,Prod.mk.injEq] at h
      obtain ⟨_,_,rfl⟩:=h
      exact mY h2
     ·cases h
    ·cases h
   ·split at h
    ·split at h
     ·rename_i h2
      simp only [Option.some.injEq,Prod.mk.injEq] at h
      obtain ⟨_,_,rfl⟩:=h
      exact mY h2
     ·cases h
    ·cases h
   ·cases h
  ·cases h
theorem n_ :∀{L:List (Nat×OS)} {r r':List (Nat×Nat)} {u:List P} {c:Bool×Bool},iI o r L=some (u,c,r')→(∀p∈r',o p.2=o' p.2)→iI o' r L=some (u,c,r')
 | [],r,r',u,c,h,_=>h
 |(g',k)::L,r,r',u,c,h,hl=>by
  simp only [iI] at h ⊢
  split at h
  ·rename_i g hg
   have hmem:=jA hg
   have key :∀r2:List (Nat×Nat),(∀p∈r,p∈r2)→(∀p∈r2,p∈r')→o g=o' g:=fun r2 h1 h2=>hl _ (h2 _ (h1 _ hmem))
   split at h
   ·rename_i ks ws hk
    split at h
    ·rename_i r1 h1
     split at h
     ·rename_i h2
      simp only [Option.some.injEq,Prod.mk.injEq] at h
      obtain ⟨rfl,rfl,rfl⟩:=h
      have e:=key _ (fun p hp=>List.mem_append_left _ hp) (mY h2)
      simp only [←e,hk,h1,n_ h2 hl]
     ·cases h
    ·cases h
   ·rename_i a1 b1 c1 sz a i sz' l hk
    split at h
    ·rename_i hsz
     split at h
     ·rename_i h2
      simp only [Option.some.injEq,Prod.mk.injEq] at h
      obtain ⟨rfl,rfl,rfl⟩:=h
      have e:=key _ (fun p hp=>hp) (mY h2)
      simp only [←e,hk,n_ h2 hl,if_pos hsz]
     ·cases h
    ·cases h
   ·rename_i a1 b1 sz cols a i sz' jr l hk
    split at h
    ·rename_i hsz
     split at h
     ·rename_i h2
      simp only [Option.some.injEq,Prod.mk.injEq] at h
      obtain ⟨rfl,rfl,rfl⟩:=h
      have e:=key _ (fun p hp=>hp) (mY h2)
      simp only [←e,hk,n_ h2 hl,if_pos hsz]
     ·cases h
    ·cases h
   ·cases h
  ·cases h
theorem LU {s:xH} {args:List S} {c:Jf} (h:fF s o args=some c) (h1 :∀x∈args,∀g∈x.names,Agree o o' g) (h2 :∀p∈c.ren,o p.2=o' p.2):fF s o' args=some c:=by
 unfold fF at *
 rw [←vX h1]
 split at h
 ·rename_i hs
  split at h
  ·rename_i DF
   simp only [Option.some.injEq] at h
   subst h
   simp only [n_ DF fun p hp=>h2 p (lq.2 hp)]
  ·cases h
 ·cases h
theorem Gp {s:xH} {args:List S} {c:Jf} (hc:fF s o args=some c) (hx :∀x∈args,∀g∈x.names,Agree o o' g) :∀g∈c.sS,Agree o o' g:=by
 unfold fF at hc
 split at hc
 ·rename_i hsl
  split at hc
  ·simp only [Option.some.injEq] at hc;subst hc
   exact rW hsl hx
  ·cases hc
 ·cases hc
end
def OD (T:Tab) (st:St) (o:Oper):List Nat:=
 match o.op with
 |.call { callee:=.value f,args,.. }=>match st.bZ f with
  |.v (.one (.clo fn caps))=>match T fn with
   |some sp=>match fF sp.sig st.o ((args.toList.map st.bZ)++caps.map fun x=>S.v (.one x)) with
    |some c=>c.ren.map (·.2)
    |none=>[]
   |none=>[]
  |_=>[]
 |_=>[]
def looks:Op→Bool
 |.move _ | .assign _ | .pick _ _ _ | .build _ _ | .extract _ _ | .field _ _ _ | .makeFunc _ _ _=>false
 |_=>true
theorem LV {o o':Nat→O} {tt:TT} {d:Nat} {F F':Operand→S} {op:Op} {ty:TypeId} (hl:looks op=false) (hF :∀x∈op.operands.toList,F x=F' x):kernel tt d o F op ty=kernel tt d o' F' op ty:=by
 refine (Af (o':=o) hF fun _ _ _ _=>⟨rfl,fun _ _=>rfl⟩).trans ?_
 cases op<;>first
  |(cases hl;done)
  |rfl
  |(rename_i fn first caps;cases fn<;>rfl)
theorem Jj {o:Nat→O} {tt:TT} {dc:List (Nat×Nat)} {d:Nat} {F:Operand→S} {op:Op} {ty:TypeId} (hl:looks op=false):bY tt dc d o F op ty=none:=by
 cases op<;>first
  |(cases hl;done)
  |rfl
def oZ (T:Tab) (st:St) (o:Oper):List Nat:=(bif looks o.op then (o.op.operands.toList.flatMap fun x=>(st.bZ x).names.flatMap fun g=>g::(st.o g).hn) else [])++OD T st o
section
variable {T:Tab} {tt:TT} {st st':St}
theorem OE {d:Nat} {o:Oper} {K:Eff→Prop} (h:gZ T tt d st o K) (hx :∀x∈o.op.operands.toList,st.bZ x=st'.bZ x) (ho :∀g∈oZ T st o,st.o g=st'.o g):gZ T tt d st' o K:=by
 have hfo:looks o.op=true→∀x∈o.op.operands.toList,∀g∈(st.bZ x).names,Agree st.o st'.o g:=fun hl x hm g hg=>by
  have key :∀d∈g::(st.o g).hn,st.o d=st'.o d:=fun d hd=>ho d (List.mem_append_left _ (by rw [hl];exact List.mem_flatMap.2 ⟨x,hm,List.mem_flatMap.2 ⟨g,hg,hd⟩⟩))
  exact ⟨key g (by simp),fun d hd=>key d (by simp [hd])⟩
 have fU :∀g∈OD T st o,st.o g=st'.o g:=fun g hg=>ho g (List.mem_append_right _ hg)
 unfold gZ at *
 unfold OD at fU
 split at h
 ·rename_i f args ts hop
  rw [hop] at hx hfo fU
  have hfo:=hfo rfl
  simp only at fU
  have hxf:=hx f (by simp [Op.operands,Call.operands])
  have hxa :∀x∈args.toList,st.bZ x=st'.bZ x:=fun x hm=>hx x (by simp [Op.operands,Call.operands];exact .inr (by simpa using hm))
  have hfa :∀x∈args.toList,∀g∈(st.bZ x).names,Agree st.o st'.o g:=fun x hm=>hfo x (by simp [Op.operands,Call.operands];exact .inr (by simpa using hm))
  have hff:=hfo f (by simp [Op.operands,Call.operands])
  rw [←hxf]
  split at h
  ·rename_i fn caps hf
   rw [hf] at hff fU
   simp only at fU
   split at h
   ·rename_i sp hsp
    rw [hsp] at fU
    simp only at fU
    have hmap:args.toList.map st'.bZ=args.toList.map st.bZ:=List.map_congr_left fun x hm=>(hxa x hm).symm
    rw [hmap]
    split at h
    ·rename_i c hci
     rw [hci] at fU
     have hnm :∀x∈(args.toList.map st.bZ)++(caps.map fun x=>S.v (.one x)),∀g∈x.names,Agree st.o st'.o g:=by
      intro x hm g hg
      rcases List.mem_append.1 hm with hm | hm
      ·obtain ⟨y,hy,rfl⟩:=List.mem_map.1 hm
       exact hfa y hy g hg
      ·obtain ⟨y,hy,rfl⟩:=List.mem_map.1 hm
       refine hff g ?_
       obtain ⟨j,hj⟩:=List.mem_iff_getElem?.1 hy
       simp only [S.names,V.names]
       exact yg hj (by simpa [S.names,V.names] using hg)
     have akX:=LU hci hnm fun p hp=>fU p.2 (List.mem_map.2 ⟨p,hp,rfl⟩)
     have afp:c.sS.map (freeze st.o)=c.sS.map (freeze st'.o):=lV (Gp hci hnm)
     simp only [akX]
     obtain ⟨q1,outs,same,q2,q4,q3⟩:=h
     have:fZ sp.sig d st'.o c outs=fZ sp.sig d st.o c outs:=by simp only [fZ,afp]
     refine ⟨q1,outs,same,q2,?_,?_⟩
     ·rw [this]
      intro g hg
      obtain ⟨a1,a2⟩:=q4 g hg
      exact ⟨a1,by rw [a2,fU g a1]⟩
     ·rw [this];exact q3
    ·cases h
   ·cases h
  ·cases h
 ·rcases h with ⟨dc,r,h1,h2,h3⟩ | h
  ·refine .inl ⟨dc,r,?_,h2,h3⟩
   cases hl:looks o.op with
   |true=>rw [←Ji hx (hfo hl)];exact h1
   |false=>rw [Jj hl] at h1;cases h1
  ·refine .inr ?_
   cases hl:looks o.op with
   |true=>rw [←Af hx (hfo hl)];exact h
   |false=>rw [←LV hl hx];exact h
theorem Wx {N:Nat} {ops:Array Oper} {o:Oper} {e:Eff} (hc:Can T tt N ops st o e) (hs :∀t∈o.looksAt ops,st.s t=st'.s t) (ho :∀g∈oZ T st o,st.o g=st'.o g) (hu :∀g∈e.new,st.used g=st'.used g):Can T tt N ops st' o e:=by
 have hx :∀x∈o.op.operands.toList,st.bZ x=st'.bZ x:=by
  intro x hm
  cases x with
  |tmp t=>exact hs t (List.mem_append_left _ (List.mem_filterMap.2 ⟨_,hm,rfl⟩))
  |_=>rfl
 have eff:(gZ T tt (o.dst.getD 0) st o fun e'=>e'.new.all (fun g=>!st.used g)=true∧e'=e)→(gZ T tt (o.dst.getD 0) st' o fun e'=>e'.new.all (fun g=>!st'.used g)=true∧e'=e):=by
  intro h
  refine mX (fun e' he => ?_) (OE h hx ho)
  obtain ⟨h1,rfl⟩:=he
  refine ⟨?_,rfl⟩
  rw [List.all_eq_true] at h1 ⊢
  intro g hg
  rw [←hu g hg];exact h1 g hg
 unfold Can stepW at *
 refine ⟨hc.1,?_⟩
 have hc:=hc.2
 cases hg:o.guard with
 |none=>rw [hg] at hc;exact eff hc
 |some p=>
  obtain ⟨j,want⟩:=p
  rw [hg] at hc
  simp only at hc ⊢
  have:guardOf ops st j want=guardOf ops st' j want:=by
   unfold guardOf
   cases hd:(ops[j]?).bind (·.dst) with
   |none=>rfl
   |some t=>
    simp only
    rw [hs t (List.mem_append_right _ (by simp [hg,hd]))]
  rw [←this]
  split at hc
  ·rename_i b hb
   cases b with
   |true=>exact eff hc
   |false=>exact hc
  ·cases hc
end
def JK (o:Nat→O):S→Option (Bool→Prop)
 |.v (.one (.p _ _ (.sl _ l)))=>some fun b=>l≠[]→b=false
 |.v (.one (.own g))=>match (o g).dim with
  |some (_,l)=>some fun b=>l≠0→b=false
  |none=>none
 |.v (.one .bD)=>some fun b=>b=true
 |_=>none
def DL (o:Nat→O):S→Option (Bool→Prop)
 |.v (.one (.box g _))=>match o g with
  |.box _=>some fun b=>b=false
  |_=>none
 |.v (.one (.p _ _ (.opq (.pointer none))))=>some fun b=>b=true
 |_=>none
def vY (o:Nat→O) (x:S) (k:TK) (c:Value):Option (Bool→Prop):=
 match k,c with
 |.slice _,.slice none 0 0=>JK o x
 |.ptr,.pointer none=>DL o x
 |_,_=>none
def LW (tt:TT) (st:St) (o:Oper):Option (Bool×(Bool→Prop)):=
 match o.guard with
 |some _=>none
 |none=>match o.op with
  |.binOp op t x (.const c) _=>match tt t with
   |some i=>match op,vY st.o (st.bZ x) i.k c with
    |.eql,some p=>some (true,p)
    |.neq,some p=>some (false,p)
    |_,_=>none
   |none=>none
  |_=>none
def OG (s n:P):Bool:=decide (n.nat<s.bytes.size)
def Yv (s n:P):P:=.int .i32 (Utf8.decode s.bytes n.nat).1
def Rx (s n:P):P:=kJ (n.nat+(Utf8.decode s.bytes n.nat).2)
def LX (st:St) (o:Oper):Option (Nat×P×P):=
 match o.guard with
 |some _=>none
 |none=>match o.op with
  |.next x true=>match st.bZ x with
   |.v (.one (.lH g))=>match st.o g with
    |.it s n=>some (g,s,n)
    |_=>none
   |_=>none
  |_=>none
def Gq (g:Nat) (s n:P):Eff:={ x:=.kC [.one (.p false false (.bool true)),.one (.p false false (kJ n.nat)),.one (.p false false (Yv s n))],upd:=[(g,.it s (Rx s n))],new:=[] }
def JL:Eff:={ x:=.kC [.one (.p false false (.bool false))],upd:=[],new:=[] }
def Ah (T:Tab) (tt:TT) (N:Nat) (ops:Array Oper) (o:Oper) (st:St) (K:Eff→Prop):Prop:=
 match LW tt st o with
 |some (pos,p)=>(match o.dst with
  |some d=>decide (d<N)
  |none=>true)=true∧∀b:Bool,p b→K { x:=scalar (.bool (bif pos then b else !b)),upd:=[],new:=[] }
 |none=>match LX st o with
  |some (g,s,n)=>(match o.dst with
   |some d=>decide (d<N)
   |none=>true)=true∧(OG s n=true→K (Gq g s n))∧(OG s n=false→K JL)
  |none=>stepW T tt N ops o st K
def t_ (T:Tab) (tt:TT) (N:Nat) (ops:Array Oper):List Nat→St→(St→Prop)→Prop
 | [],st,K=>K st
 |i::is,st,K=>match ops[i]? with
  |some o=>Ah T tt N ops o st fun e=>t_ T tt N ops is (st.eff o.dst e) K
  |none=>False
structure qZ where
 rd:List Nat
 wr:List Nat
 new:List Nat
 ld:Option (Nat×Nat×Nat)
 kp:List (Nat×Nat)
 pk:Bool
 kd:List Nat
def Yw:W→W→Bool
 |.own g,.own g'=>Nat.beq g g'
 |.box g off,.box g' off'=>Nat.beq g g'&&Nat.beq off off'
 |_,_=>false
def Ai (g:Nat):Nat→List W→List W→Option (List (Nat×Nat))
 |_,[],[]=>some []
 |j,x::xs,y::ys=>match Ai g (j+1) xs ys with
  |some r=>some (match Yw x y with
   |true=>(g,j)::r
   |false=>r)
  |none=>none
 |_,_,_=>none
def OH (g:Nat):O→Option O→List (Nat×Nat)
 |.box ws,some (.box ws')=>match Ai g 0 ws ws' with
  |some r=>r
  |none=>[]
 |_,_=>[]
def Ry (st:St) (e:Eff):List (Nat×Nat):=(e.upd.map (·.1)).flatMap fun g=>OH g (st.o g) (e.upd.lookup g)
def rC:Op→Bool
 |.nilCheck _=>true
 |.fieldAddr _ _ _=>true
 |_=>false
def kindOf:O→Nat
 |.box _=>1
 |.arr _ _ _ _ _=>2
 |.deep _ _ _ _ _ _=>2
 |.it _ _=>3
 |.none=>0
def Rz (st:St) (e:Eff):List Nat:=(e.upd.map (·.1)).filterMap fun g=>match e.upd.lookup g with
 |some x=>bif Nat.beq (kindOf x) (kindOf (st.o g)) then some g else none
 |none=>none
def Gs (tt:TT) (st:St) (o:Oper):Option (Nat×Nat×Nat):=match o.op with
 |.load t x=>match tt t,st.bZ x with
  |some i,.v (.one (.box g off))=>some (g,off,i.size)
  |_,_=>none
 |_=>none
def nG (T:Tab) (tt:TT) (N:Nat) (ops:Array Oper):List Nat→St→List qZ→(St→List qZ→Prop)→Prop
 | [],st,fs,K=>K st fs
 |i::is,st,fs,K=>match ops[i]? with
  |some o=>stepW T tt N ops o st fun e=>nG T tt N ops is (st.eff o.dst e) (fs++[{ rd:=oZ T st o,wr:=e.upd.map (·.1),new:=e.new,ld:=Gs tt st o,kp:=Ry st e,pk:=rC o.op,kd:=Rz st e }]) K
  |none=>False
def jZ (acc:List Nat) (o:Oper):Nat:=o.after.toList.foldl (fun s e=>if Region.binds .any e=true then s ||| (2 ^ e.on) ||| acc.getD e.on 0 else s) 0
def mZ:List Oper→List Nat→List Nat
 | [],acc=>acc
 |o::os,acc=>mZ os (acc++[jZ acc o])
def Gt (x:Option Tmp) (ts:List Tmp):Bool:=match x with
 |some t=>!ts.contains t
 |none=>true
def DN (w r:qZ):Bool:=match r.ld with
 |some (g,off,n)=>(List.range n).all fun j=>w.kp.any fun p=>Nat.beq p.1 g&&Nat.beq p.2 (off+j)
 |none=>r.pk&&r.rd.all fun g=>!w.wr.contains g||w.kd.contains g
def Yx (ops:Array Oper) (x y:Oper) (fx fy:qZ):Bool:=
 Gt x.dst (y.looksAt ops)&&Gt y.dst (x.looksAt ops)&&Gt x.dst y.dst.toList&&(LG fx.wr fy.rd||DN fx fy)&&(LG fy.wr fx.rd||DN fy fx)&&LG fx.wr fy.wr&&LG fx.new fy.new
def Ut (ops:Array Oper) (fs:List qZ):Bool:=
 let as:=mZ ops.toList []
 (List.range ops.size).all fun j=>decide (as.getD j 0<2 ^ j)&&(List.range j).all fun i=>(as.getD j 0).testBit i||match ops[i]?,ops[j]?,fs[i]?,fs[j]? with
  |some x,some y,some fx,some fy=>Yx ops x y fx fy
  |_,_,_,_=>false
def oh (T:Tab) (tt:TT) (N:Nat) (ops:Array Oper) (draw:Bool) (st:St) (K:St→Prop):Prop:=
 match draw with
 |false=>t_ T tt N ops (List.range ops.size) st K
 |true=>nG T tt N ops (List.range ops.size) st [] fun st' fs=>Ut ops fs=true∧K st'
end Go.Fw

