/-
  The framework (a machine on plain data that answers as the program does), part 2.
-/
import Derived.RangeFuncOwn
import Derived.Orders
import Derived.Test.YtncdiffmecbcmaaZa
set_option linter.unusedSimpArgs false
set_option linter.unusedVariables false
set_option linter.unusedSectionVars false
namespace Go.Fw
variable [dB]
def o9:List Nat→Bool
 | []=>true
 |x::xs=>!xs.contains x&&o9 xs
def zS (xs ys:List Nat):Bool:=xs.all fun x=>!ys.contains x
def gI (ak:List (Nat×Nat)) (off n:Nat):List (Nat×Nat):=ak.filter fun c=>Nat.ble off c.1&&Nat.blt c.1 (off+n)
def gJ (o:Nat→O) (g:Nat):Option (Bool×Bool×Nat×List (Nat×Nat)×List (List P)):=match o g with
 |.ay a i sz ak l hole=>match hole with
  |none=>some (a,i,sz,ak,l)
  |some (n,c,d)=>match o d with
   |.arr false a' i' sz' l'=>if ak.lookup c=some sz'∧c<sz then some (a||a',i||i',sz,ak,gV l n c (P.eG sz' l')) else none
   |_=>none
 |_=>none
def kills (gs:List Nat):List (Nat×O):=gs.map fun g=>(g,.none)
def JZ (o:Nat→O) (col:Nat→Option Nat):Nat→List W→Option (List P×Bool×Bool×List Nat×List (Nat×Nat))
 |_,[]=>some ([],false,false,[],[])
 |j,x::xs=>match JZ o col (j+1) xs with
  |none=>none
  |some (ys,a',i',gs',es)=>match col j with
   |none=>match x.toP o with
    |some (y,a,i,gs)=>some (y::ys,a||a',i||i',gs++gs',es)
    |none=>none
   |some s=>match x with
    |.bM=>some (.sl 0 []::ys,a',i',gs',es)
    |.own e=>match o e with
     |.arr false a i s' l=>if s'=s then some (P.eG s l::ys,a||a',i||i',gs',(j,e)::es) else none
     |_=>none
    |_=>none
def baseD (o:Nat→O):W→Option (Prop×Bool×Bool×List (List P)×List Nat×Option (Nat×List (Nat×Nat)))
 |.bM=>some (True,false,false,[],[],none)
 |.own g=>match gJ o g with
  |some (a,i,sz,ak,l)=>some (True,a,i,l,g::(o g).hn,some (sz,ak))
  |none=>none
 |.vw g lo hi=>match gJ o g with
  |some (a,i,sz,ak,l)=>some (lo=jh 0,a,i,l.take hi.nat,g::(o g).hn,some (sz,ak))
  |none=>none
 |_=>none
def hdr (l:List (List P)):P:=.sl 0 (List.replicate l.length [])
def KA:List (Nat×Nat)→Bool
 | [(0,0)]=>true
 |_=>false
def o_ (tt:TT) (o:Nat→O) (f:Operand→S) (t:TypeId) (x:Operand):Option zJ:=match tt t,f x with
 |some i,.v (.one (.ep g n off))=>match gJ o g with
  |some (a,i',sz,ak,l)=>match ak.lookup off with
   |some _=>if off<sz∧i.size=1∧i.agg=false then some (.pure (.v (.one (.p false false (hdr ((l.getD n.nat []).getD off default).list))))) else none
   |none=>none
  |none=>none
 |_,_=>none
def bV (tt:TT) (dc:List (Nat×Nat)) (d:Nat) (o:Nat→O) (f:Operand→S) (op:Op) (ty:TypeId):Option zJ:=
 match op with
 |.load t x=>bif KA dc then o_ tt o f t x else match tt t,f x with
  |some i,.v (.one (.ep g n off))=>match o g with
   |.ay a0 i0 wZ jd l0 hole=>if off+i.size≤wZ∧0<i.size then match gI jd off i.size with
    | []=>some (.pure (V.dN i.agg ((List.range i.size).map fun j=>.p a0 i0 ((l0.getD n.nat []).getD (off+j) (J4 i.zero j)))))
    | [(c,s)]=>match gJ o g with
     |some (a,i',sz,ak,l)=>some (.mk True (.sl sz l) (fun y=>V.dN i.agg ((List.range i.size).map fun j=>if Nat.beq (off+j) c=true then .own d else .p a i' ((y.list.getD n.nat []).getD (off+j) (J4 i.zero j))))
       (fun y=>(g,.ay a i' sz ak y.list (some (n.nat,c,d)))::(d,.arr false a i' s ((y.list.getD n.nat []).getD c default).list)::kills (o g).hn) [d])
     |none=>none
    |_=>none
    else none
   |_=>none
  |_,_=>none
 |.store t x y=>match tt t,f x,f y with
  |some i,.v (.one (.ep g n off)),.v y=>match o g with
   |.ay a0 i0 sz ak l0 hole=>match JZ o (fun j=>ak.lookup j) off y.words with
    |some (ps,a',i',gs,es)=>if off+i.size≤sz∧y.words.length=i.size∧y.solid=true∧gs.contains g=false∧o9 (es.map (·.2))=true∧zS (es.map (·.2)) gs=true then
      let res (pre:Prop) (a i:Bool) (l:List (List P)) (eP:Option (Nat×Nat×Nat)) (ks:List Nat):zJ:=
       .mk pre (.sl sz (l.set n.nat (aF (l.getD n.nat []) off ps))) (fun _=>.no) (fun z=>(g,.ay (a||a') (i||i') sz ak z.list eP)::kills (es.map (·.2))++kills ks++gs.map (aH o)) []
      match gI ak off i.size with
      | []=>some (res True a0 i0 l0 hole [])
      |_::_=>match hole with
       |none=>some (res True a0 i0 l0 none [])
       |some (n0,c0,d0)=>match gJ o g with
        |some (a,i1,_,_,l)=>if (es.map (·.2)).contains d0=false∧gs.contains d0=false then some (res True a i1 l none [d0])
          else if off≤c0∧c0<off+i.size then some (res (n0=n.nat) a0 i0 l0 none []) else none
        |none=>if off≤c0∧c0<off+i.size then some (res (n0=n.nat) a0 i0 l0 none []) else none
      else none
    |none=>none
   |_=>none
  |_,_,_=>none
 |.buildSlice t n parts=>match tt t,dc with
  |some { k:=.slice e,.. },_::_=>match tt e with
   |some ie=>match jO (fun m=>if m<n then some (m*ie.size,ie.size) else none) (dV (ie.zero.map cv) n) (parts.toList.map fun p=>(p.1,f p.2)) with
    |some ws=>match JZ o (fun j=>dc.lookup (j % ie.size)) 0 ws with
     |some (ps,a,i,gs,es)=>if n+n*ie.size≤16777216∧o9 (es.map (·.2))=true∧zS (es.map (·.2)) gs=true then
       some (.mk True (.sl ie.size (chunks ie.size n ps)) (fun _=>.v (.one (.own d)))
        (fun y=>(d,.ay a i ie.size dc y.list none)::kills (es.map (·.2))++gs.map (aH o)) [d]) else none
     |none=>none
    |none=>none
   |none=>none
  |_,_=>none
 |.makeSlice t n c=>match tt t,f n,f c,dc with
  |some { k:=.slice e,.. },.v (.one (.p _ _ n)),.v (.one (.p _ _ c)),_::_=>match tt e with
   |some ie=>match JZ o (fun j=>dc.lookup j) 0 (ie.zero.map cv) with
    |some (ps,false,false,[],[])=>if 0<ie.size then
     some (.mk (∃m k:Nat,n=.int .i64 m∧c=.int .i64 k∧m≤k∧ie.bytes*k≤281474976710656∧k≤9223372036854775807) (.sl ie.size (List.replicate n.nat ps))
      (fun _=>.v (.one (.own d))) (fun y=>[(d,.ay false false ie.size dc y.list none)]) [d]) else none
    |_=>none
   |none=>none
  |_,_,_,_=>none
 |.call { callee:=.builtin .append,args,argTypes }=>match args.toList,argTypes.toList with
  | [s,x],sT::xT::_=>match tt sT,tt xT,f s,f x with
   |some { k:=.slice e,.. },some { k:=.slice _,.. },.v (.one s),.v (.one (.own g2))=>match tt e,baseD o s,gJ o g2 with
    |some ie,some (ask,a,i,old,ks,src),some (a2,i2,sz,ak,new)=>
     if ie.bytes≠0∧sz=ie.size∧(src=none∨src=some (sz,ak))∧o9 (ks++g2::(o g2).hn)=true then
      some (.mk (ask∧(old.length+new.length)*ie.bytes≤140737488355328) (.sl sz (old++new)) (fun _=>.v (.one (.own d)))
       (fun y=>(d,.ay (a||a2) (i||i2) sz ak y.list none)::kills (ks++g2::(o g2).hn)) [d]) else none
    |_,_,_=>none
   |_,_,_,_=>none
  |_,_=>none
 |.slice t x none hi none=>match tt t,f x with
  |some { k:=.slice e,.. },.v (.one (.own g))=>match tt e,o g with
   |some ie,.arr false a i sz l=>if sz=ie.size then match jP (jh l.length) (hi.map f) with
    |some hi=>some (.mk (∃k:Nat,hi=.int .i64 k∧k≤l.length) (.sl sz (l.take hi.nat)) (fun _=>.v (.one (.own d))) (fun y=>[(d,.arr false a i sz y.list),(g,.none)]) [d])
    |none=>none
    else none
   |some ie,.ay a i sz ak l Option.none=>if sz=ie.size then match jP (jh l.length) (hi.map f) with
    |some hi=>some (.mk (∃k:Nat,hi=.int .i64 k∧k≤l.length) (.sl sz (l.take hi.nat)) (fun _=>.v (.one (.own d))) (fun y=>[(d,.ay a i sz ak y.list Option.none),(g,.none)]) [d])
    |none=>none
    else none
   |_,_=>none
  |_,_=>none
 |_=>none
section
variable {E:Env} {st st':St} {gh aT:Nat→Gh} {w w':World} {val:Nat→Value} {Pg:Program} {tt:TT}
theorem oC :∀{l:List Nat},o9 l=true→l.Nodup
 | [],_=>List.nodup_nil
 |x::l,h=>by
  simp only [o9,Qf,Wc,W7,decide_eq_false_iff_not] at h
  exact Vn.2 ⟨h.1,oC h.2⟩
theorem Bd {xs ys:List Nat} (h:zS xs ys=true) :∀x∈xs,x∉ys:=by
 intro x hx
 have:=(X2.1 h) x hx
 simpa using this
theorem fG {gs:List Nat} {g:Nat}:(kills gs).lookup g=if g∈gs then some O.none else none:=by
 induction gs with
 |nil=>rfl
 |cons x gs ih=>
  simp only [kills,Qt,List.lookup,QQ]
  by_cases e:g=x
  ·subst e;simp
  ·have:(g==x)=false:=by simpa using e
   rw [this]
   simp only [e,false_or]
   exact ih
theorem qX {α:Type} {g:Nat} :∀{l r:List (Nat×α)},(l++r).lookup g=(l.lookup g).or (r.lookup g)
 | [],r=>by simp
 |(k,v)::l,r=>by
  simp only [J0,List.lookup]
  split
  ·rfl
  ·exact qX
theorem lookup_cons {α:Type} {g k:Nat} {v:α} {r:List (Nat×α)}:((k,v)::r).lookup g=if g=k then some v else r.lookup g:=by
 simp only [List.lookup]
 by_cases e:g=k
 ·subst e;simp
 ·have:(g==k)=false:=by simpa using e
  rw [this,if_neg e]
theorem DI {ak:List (Nat×Nat)} {off n j:Nat} (h:gI ak off n=[]) (h1:off≤j) (h2:j<off+n):ak.lookup j=none:=by
 cases hl:ak.lookup j with
 |none=>rfl
 |some s=>
  have hm:(j,s)∈ak:=by
   clear h
   induction ak with
   |nil=>cases hl
   |cons p ak ih=>
    obtain ⟨k,v⟩:=p
    rw [lookup_cons] at hl
    split at hl
    ·rename_i e;cases hl;subst e;simp
    ·exact WF _ (ih hl)
  have:(j,s)∈gI ak off n:=K9.2 ⟨hm,by simp [h1,h2]⟩
  rw [h] at this;cases this
theorem Bf {α:Type} {g:Nat} {v:α} :∀{l:List (Nat×α)},l.lookup g=some v→(g,v)∈l
 | [],h=>by cases h
 |(k,x)::l,h=>by
  rw [lookup_cons] at h
  split at h
  ·rename_i e;cases h;subst e;simp
  ·exact WF _ (Bf h)
theorem NJ {ak:List (Nat×Nat)} {off n c s:Nat} (h:gI ak off n=[(c,s)]):ak.lookup c=some s∧off≤c∧c<off+n∧∀j,off≤j→j<off+n→j≠c→ak.lookup j=none:=by
 have hm:(c,s)∈gI ak off n:=by rw [h];simp
 obtain ⟨m1,m2⟩:=K9.1 hm
 simp only [Qf,Nat.ble_eq,Nat.blt_eq] at m2
 have key :∀j s',ak.lookup j=some s'→off≤j→j<off+n→(j,s')=(c,s):=by
  intro j s' hl h1 h2
  have:(j,s')∈gI ak off n:=K9.2 ⟨Bf hl,by simp [h1,h2]⟩
  rw [h] at this;simpa using this
 refine ⟨?_,m2.1,m2.2,fun j h1 h2 hne => ?_⟩
 ·cases hl:ak.lookup c with
  |none=>
   exfalso
   clear h hm key
   induction ak with
   |nil=>cases m1
   |cons p ak ih=>
    obtain ⟨k,v⟩:=p
    rw [lookup_cons] at hl
    split at hl
    ·cases hl
    ·rename_i e
     rcases QQ.1 m1 with e1 | e1
     ·cases e1;exact e rfl
     ·exact ih e1 hl
  |some s'=>have:=key c s' hl m2.1 m2.2;cases this;rfl
 ·cases hl:ak.lookup j with
  |none=>rfl
  |some s'=>have:=key j s' hl h1 h2;cases this;exact absurd rfl hne
theorem Rel.home (h:Rel E st gh val w) {g:Nat} {a i:Bool} {sz:Nat} {ak:List (Nat×Nat)} {l:List (List P)} (hh:gJ st.o g=some (a,i,sz,ak,l)) :
  ∃st1 kC,Rel E st1 kC val w∧Lets E st st1 gh kC w w∧(∀x,(kC x).ad=(gh x).ad∧(kC x).cap=(gh x).cap)∧st1.s=st.s∧(∀x,st1.used x=st.used x)∧st1.o g=.ay a i sz ak l none∧
   (∀d∈(st.o g).hn,st1.o d=.none∧d≠g)∧∀g',g'≠g→g'∉(st.o g).hn→st1.o g'=st.o g':=by
 unfold gJ at hh
 cases ho:st.o g with
 |ay a0 i0 wZ jd l0 hole=>
  rw [ho] at hh
  simp only at hh
  rcases hole with _ | ⟨n,c,d⟩
  ·simp only [Q0,Q1] at hh
   obtain ⟨rfl,rfl,rfl,rfl,rfl⟩:=hh
   exact ⟨st,gh,h,⟨fun a i b hb=>⟨hb,rfl⟩,fun g _=>.inr ⟨⟨rfl,rfl⟩,O.dI _⟩⟩,fun _=>⟨rfl,rfl⟩,rfl,fun _=>rfl,ho,(fun d hd=>by cases hd),fun _ _ _=>rfl⟩
  ·simp only at hh
   cases hd:st.o d with
   |arr fz a' i' sz' l'=>
    rw [hd] at hh
    cases fz with
    |true=>cases hh
    |false=>
     simp only at hh
     split at hh
     ·rename_i hc
      simp only [Q0,Q1] at hh
      obtain ⟨rfl,rfl,rfl,rfl,rfl⟩:=hh
      obtain ⟨kC,h1,l1,e1⟩:=h.shut ho hd hc.1 hc.2
      have hne:d≠g:=by intro e;subst e;rw [ho] at hd;cases hd
      refine ⟨_,kC,h1,l1,e1,rfl,fun x=>by simp [St.aA],by simp [St.aA,List.lookup],fun d' hd' => ?_,fun g' h1 h2 => ?_⟩
      ·simp only [O.hn,bF,ZZ] at hd'
       subst hd'
       have e1:(d'==g)=false:=by simpa using hne
       exact ⟨by simp [St.aA,List.lookup,e1],hne⟩
      ·have e1:(g'==g)=false:=by simpa using h1
       have e2:(g'==d)=false:=by simp;intro e;exact h2 (by rw [e];simp [O.hn,bF])
       simp [St.aA,List.lookup,e1,e2]
     ·cases hh
   |_=>rw [hd] at hh;cases hh
 |_=>rw [ho] at hh;cases hh
theorem lD {o:Nat→O} {g:Nat} {a i:Bool} {sz:Nat} {ak:List (Nat×Nat)} {l:List (List P)} (hh:gJ o g=some (a,i,sz,ak,l)):(o g).dim=some (sz,l.length):=by
 unfold gJ at hh
 cases ho:o g with
 |ay a0 i0 wZ jd l0 hole=>
  rw [ho] at hh
  simp only at hh
  rcases hole with _ | ⟨n,c,d⟩
  ·simp only [Q0,Q1] at hh
   obtain ⟨rfl,rfl,rfl,rfl,rfl⟩:=hh;rfl
  ·simp only at hh
   split at hh
   ·split at hh
    ·simp only [Q0,Q1] at hh
     obtain ⟨rfl,rfl,rfl,rfl,rfl⟩:=hh
     simp [O.dim,gG]
    ·cases hh
   ·cases hh
 |_=>rw [ho] at hh;cases hh
theorem DJ {Q:Nat→Value→Prop} {b o n:Nat} (h :∀j,j<n→∃v,w.cell? ⟨b,o+j,none⟩=some v∧v.oneCell'=true∧Q j v) :
  ∃cs:List Value,cs.length=n∧(∀(j:Nat) u,cs[j]?=some u→w.cell? ⟨b,o+j,none⟩=some u)∧(∀c∈cs,c.oneCell'=true)∧∀(j:Nat) u,cs[j]?=some u→Q j u:=by
 have key :∀j u,((List.range n).map fun j=>(w.cell? ⟨b,o+j,none⟩).getD undef)[j]?=some u→j<n∧w.cell? ⟨b,o+j,none⟩=some u∧u.oneCell'=true∧Q j u:=by
  intro j u hu
  simp only [Xs,ZD] at hu
  obtain ⟨k,hk,rfl⟩:=hu
  obtain ⟨hlt,rfl⟩:=Q3.1 hk
  simp at hlt ⊢
  obtain ⟨v,hv,h1,h2⟩:=h j hlt
  rw [hv];exact ⟨hlt,rfl,h1,h2⟩
 refine ⟨(List.range n).map fun j=>(w.cell? ⟨b,o+j,none⟩).getD undef,by simp,fun j u hu=>(key j u hu).2.1,fun c hc => ?_,fun j u hu=>(key j u hu).2.2.2⟩
 obtain ⟨j,hj⟩:=WD.1 hc
 exact (key j c hj).2.2.1
def nN (Pg:Program) (tt:TT) (dc:List (Nat×Nat)) (op:Op):Prop:=
 ∀(E:Env) (st:St) (gh:Nat→Gh) (val:Nat→Value) (w:World) (ρ:Operand→Value) (F:Operand→S) (o:Oper) (d:Nat) (r:zJ),o.op=op→Rel E st gh val w→
  (∀x,bP E st gh w (F x) (ρ x))→(∀x,∀g∈(F x).names,st.used g=true)→bV tt dc d st.o F op o.type=some r→r.pre→(∀g∈r.new,st.used g=false)→
  ∃v w' aT,Does Pg (execOp ρ o) w v w'∧Rel E (st.aA (r.aA r.val) r.new) aT val w'∧Lets E st (st.aA (r.aA r.val) r.new) gh aT w w'∧bP E (st.aA (r.aA r.val) r.new) aT w' (r.dst r.val) v∧
   ∀g∈(r.dst r.val).names,(st.aA (r.aA r.val) r.new).used g=true
theorem St.zT {a b:St} (h1:a.s=b.s) (h2 :∀g,a.o g=b.o g) (h3 :∀g,a.used g=b.used g):a=b:=by
 obtain ⟨s,o,u⟩:=a
 obtain ⟨s',o',u'⟩:=b
 simp only at h1 h2 h3
 rw [h1,funext h2,funext h3]
theorem FX (htt:fP Pg tt) (t:TypeId) (x:Operand) {E:Env} {st:St} {gh:Nat→Gh} {val:Nat→Value} {w:World} {ρ:Operand→Value} {F:Operand→S} {o:Oper} {r:zJ} (ho:o.op=.load t x) (h:Rel E st gh val w)
  (hF :∀x,bP E st gh w (F x) (ρ x)) (hk:o_ tt st.o F t x=some r) :
  ∃v w' aT,Does Pg (execOp ρ o) w v w'∧Rel E (st.aA (r.aA r.val) r.new) aT val w'∧Lets E st (st.aA (r.aA r.val) r.new) gh aT w w'∧bP E (st.aA (r.aA r.val) r.new) aT w' (r.dst r.val) v∧
   ∀g∈(r.dst r.val).names,(st.aA (r.aA r.val) r.new).used g=true:=by
 unfold o_ at hk
 split at hk
 ·rename_i i g n off ht hx
  have rx:=hF x;rw [hx] at rx
  split at hk
  ·rename_i a i' sz ak l hh
   split at hk
   ·rename_i s WM
    split at hk
    ·rename_i hlt
     simp only [Q0] at hk;subst hk
     obtain ⟨st1,kC,h1,l1,e1,es,eu,eo,ek,en1⟩:=h.home hh
     have FY:=lD hh
     obtain ⟨ad,k,had,rfl,hkl,hv⟩:=(by cases rx.bU with | ep _ _ _ _ _ hb=>exact hb _ _ FY :∃(ad:Addr) (k:Nat),(gh g).ad=some ad∧n=.int .i64 k∧k<l.length∧ρ x=.pointer (some ⟨ad.block,ad.off+k*sz+off,none⟩))
     have en:(P.int .i64 (k:Int)).nat=k:=by simp [P.nat,P.num]
     have FZ:(kC g).ad=some ad:=by rw [(e1 g).1];exact had
     have hD:jg E st1 kC w a i' sz ak l none (kC g):=by have:=h1.aN g;rw [eo] at this;exact this
     rcases hD with ⟨k1,_⟩ | ⟨ad0,cs0,ty,k1,k2,k3,k4,k5,k6,_,k8⟩
     ·rw [FZ] at k1;cases k1
     rw [FZ] at k1;cases k1
     have hrow:l[k]?=some l[k]:=Q2 hkl
     have hrl:l[k].length=sz:=k6 _ (UI hkl)
     have hoff:off<l[k].length:=by omega
     obtain ⟨v,hv0,hr⟩:=k8 k _ hrow off _ (Q2 hoff)
     unfold fZ at hr
     rw [WM] at hr
     simp only [eY] at hr
     obtain ⟨l',ao,kk,hy,rfl,harr,_⟩:=hr
     have hcell:w.cell? ⟨ad.block,ad.off+k*sz+off,none⟩=some (.slice ao l'.length kk):=by simp [World.cell?,k3,hv0]
     obtain ⟨v,hrun,hval⟩:=iR (Pg:=Pg) (w:=w) (htt _ _ ht) ad.block (ad.off+k*sz+off) [.slice ao l'.length kk] (by simp [hlt.2.1]) (fun j c hj=>by
      cases j with
      |zero=>simp at hj;subst hj;exact hcell
      |succ j=>simp at hj) (fun _=>by omega)
     have hvv:v=.slice ao l'.length kk:=by
      rw [hlt.2.2] at hval
      exact hval _ rfl
     have hdr':hdr ((l.getD (P.int .i64 (k:Int)).nat []).getD off default).list=.sl 0 (List.replicate l'.length []):=by
      rw [en]
      have e2:(l.getD k []).getD off default=l[k][off]:=by
       rw [Q6,Q6,hrow]
       simp [Q2 hoff]
      rw [e2,hy,P.lq];rfl
     rw [hdr']
     refine still h (v:=v) (by unfold execOp;rw [ho];exact eH (by rw [hv];simpa [Instr.loadAt,Instr.sureAddr] using hrun)) (bP.Yw ?_) fun g' hg'=>by simp [zJ.pure,S.names,V.names,W.names] at hg'
     rw [hvv]
     rcases harr with ⟨q1,q2,q3⟩ | ⟨yC,c2,e2,q1,q2,q3,q4,q5,_⟩
     ·subst q3;exact .nil _ _ _
     ·have q1:ao=some yC:=q1
      have q5:l'.length≤kk∧kk≤9223372036854775807:=q5
      rw [q1]
      have:=bD.sl (w:=w) (ok:=E.ok st gh w false false) 0 (List.replicate l'.length []) yC kk (fun _ _=>undef) q2 (fun h0=>absurd h0 (KM 0)) (by simpa using q5.1) (fun x hx=>by rw [Km hx];rfl)
       (fun n x hx j y hy=>by rw [Km (QR hx)] at hy;simp at hy) (fun n x hx j y hy=>by rw [Km (QR hx)] at hy;simp at hy)
      simpa using this
    ·cases hk
   ·cases hk
  ·cases hk
 ·cases hk
theorem KC {dc:List (Nat×Nat)} (htt:fP Pg tt) (t:TypeId) (x:Operand):nN Pg tt dc (.load t x):=by
 intro E st gh val w ρ F o d r ho h hF hFn hk hp hd
 simp only [bV] at hk
 cases hhd:KA dc with
 |true=>rw [hhd] at hk;exact FX htt t x ho h hF hk
 |false=>
 rw [hhd] at hk
 simp only [cond_false] at hk
 split at hk
 ·rename_i i g n off ht hx
  have rx:=hF x;rw [hx] at rx
  split at hk
  ·rename_i a0 i0 wZ jd l0 hole hog
   split at hk
   ·rename_i hlt
    have FY:(st.o g).dim=some (wZ,l0.length):=by rw [hog];rfl
    obtain ⟨ad,k,had,rfl,hkl,hv⟩:=(by cases rx.bU with | ep _ _ _ _ _ hb=>exact hb _ _ FY :∃(ad:Addr) (k:Nat),(gh g).ad=some ad∧n=.int .i64 k∧k<l0.length∧ρ x=.pointer (some ⟨ad.block,ad.off+k*wZ+off,none⟩))
    have en:(P.int .i64 (k:Int)).nat=k:=by simp [P.nat,P.num]
    split at hk
    ·rename_i hci
     simp only [Q0] at hk;subst hk
     have hD:jg E st gh w a0 i0 wZ jd l0 hole (gh g):=by have:=h.aN g;rw [hog] at this;exact this
     rcases hD with ⟨k1,_⟩ | ⟨ad0,cs0,ty,k1,k2,k3,k4,k5,k6,_,k8⟩
     ·rw [had] at k1;cases k1
     rw [had] at k1;cases k1
     have hrow:l0[k]?=some l0[k]:=Q2 hkl
     have hrl:l0[k].length=wZ:=k6 _ (UI hkl)
     have hget:l0.getD (P.int .i64 (k:Int)).nat []=l0[k]:=by rw [en,Q6,hrow];rfl
     obtain ⟨cs,hl,hcell,hone,hrep⟩:=DJ (w:=w) (b:=ad.block) (o:=ad.off+k*wZ+off) (n:=i.size) (Q:=fun j v=>bD w (E.ok st gh w a0 i0) (l0[k].getD (off+j) (J4 i.zero j)) v) fun j hj=>by
      have hlt':off+j<l0[k].length:=by omega
      obtain ⟨v,hv,hr⟩:=k8 k _ hrow (off+j) _ (Q2 hlt')
      simp only [fZ,DI hci (show off≤off+j by omega) (show off+j<off+i.size by omega)] at hr
      have e0:ad.off+k*wZ+off+j=ad.off+k*wZ+(off+j):=by omega
      refine ⟨v,by rw [e0];simp [World.cell?,k3,hv],hr.oneCell,?_⟩
      rw [Q6,Q2 hlt'];exact hr
     obtain ⟨v,hrun,hval⟩:=iR (Pg:=Pg) (w:=w) (htt _ _ ht) ad.block (ad.off+k*wZ+off) cs hl hcell (fun _=>hlt.2)
     rw [hget]
     exact still h (v:=v) (by unfold execOp;rw [ho];exact eH (by rw [hv];simpa [Instr.loadAt,Instr.sureAddr] using hrun)) (jl (by simp [hl]) hone (fun j y u hy hu=>by
       simp only [Xs,ZD] at hy
       obtain ⟨q,hq,rfl⟩:=hy
       obtain ⟨hlt2,rfl⟩:=Q3.1 hq
       simp at hlt2 ⊢
       exact .p _ _ _ _ (hrep _ u hu)) v hval)
      fun g' hg'=>by obtain ⟨y,hy,hg'⟩:=iq hg';rw [o7 hy] at hg';cases hg'
    ·rename_i c s hci
     split at hk
     ·rename_i a i' sz ak l hh
      simp only [Q0] at hk;subst hk
      obtain ⟨st1,kC,h1,l1,e1,es,eu,eo,ek,en1⟩:=h.home hh
      have Ua:=lD hh
      rw [FY] at Ua
      simp only [Q0,Q1] at Ua
      obtain ⟨rfl,hll⟩:=Ua
      have hcols:ak=jd:=by
       unfold gJ at hh
       rw [hog] at hh
       simp only at hh
       split at hh
       ·cases hh;rfl
       ·split at hh
        ·split at hh
         ·cases hh;rfl
         ·cases hh
        ·cases hh
      subst hcols
      obtain ⟨c1,c2,c3,c4⟩:=NJ hci
      have CV:st.used d=false:=hd d (by simp)
      have FZ:(kC g).ad=some ad:=by rw [(e1 g).1];exact had
      have hD:jg E st1 kC w a i' wZ ak l none (kC g):=by have:=h1.aN g;rw [eo] at this;exact this
      rcases hD with ⟨k1,_⟩ | ⟨ad0,cs0,ty,k1,k2,k3,k4,k5,k6,_,k8⟩
      ·rw [FZ] at k1;cases k1
      rw [FZ] at k1;cases k1
      have hkl':k<l.length:=by omega
      have hrow:l[k]?=some l[k]:=Q2 hkl'
      have hrl:l[k].length=wZ:=k6 _ (UI hkl')
      have hget:l.getD (P.int .i64 (k:Int)).nat []=l[k]:=by rw [en,Q6,hrow];rfl
      have hyc:l[k][c]?=some l[k][c]:=Q2 (by omega)
      obtain ⟨l',ao,kc,wB,hy,⟨yC,cs2,ty2,q1,q2,q3⟩,q4,q5,r1,r2⟩:=h1.split (d:=d) (by rw [eu];exact CV) eo c1 hrow hyc
      rw [FZ] at q1;cases q1
      rw [k3] at q2;cases q2
      have hlist:((l.getD (P.int .i64 (k:Int)).nat []).getD c default).list=l':=by
       rw [hget,Q6,hyc]
       show (l[k][c]).list=l'
       rw [hy,P.lq]
      have hgd:g≠d:=fun e=>by rw [←e,h.ul g (by rw [hog];simp)] at CV;cases CV
      have hst:st1.aA [(g,.ay a i' wZ ak l (some (k,c,d))),(d,.arr false a i' s l')] [d]=st.aA ((g,.ay a i' wZ ak l (some ((P.int .i64 (k:Int)).nat,c,d)))::(d,.arr false a i' s ((l.getD (P.int .i64 (k:Int)).nat []).getD c default).list)::kills (st.o g).hn) [d]:=by
       rw [hlist,en]
       refine St.zT es (fun x => ?_) (fun x=>by simp [St.aA,eu])
       simp only [St.aA,lookup_cons,fG]
       by_cases x1:x=g
       ·simp only [if_pos x1]
       ·by_cases x2:x=d
        ·simp only [if_neg x1,if_pos x2]
        ·simp only [if_neg x1,if_neg x2]
         by_cases x3:x∈(st.o g).hn
         ·simp only [if_pos x3];exact (ek x x3).1
         ·simp only [if_neg x3];exact en1 x x1 x3
      obtain ⟨cs,hl,hcell,hone,hrep⟩:=DJ (w:=w) (b:=ad.block) (o:=ad.off+k*wZ+off) (n:=i.size) (Q:=fun j v=>if Nat.beq (off+j) c=true then v=.slice ao l'.length kc else bD w (E.ok st1 kC w a i') (l[k].getD (off+j) (J4 i.zero j)) v) fun j hj=>by
       have hlt':off+j<l[k].length:=by omega
       obtain ⟨v,hv,hr⟩:=k8 k _ hrow (off+j) _ (Q2 hlt')
       have e0:ad.off+k*wZ+off+j=ad.off+k*wZ+(off+j):=by omega
       refine ⟨v,by rw [e0];simp [World.cell?,k3,hv],hr.oneCell,?_⟩
       by_cases hjc:off+j=c
       ·rw [if_pos (by simpa using hjc)]
        rw [hjc] at hv
        rw [hv] at q3;exact Wa q3
       ·rw [if_neg (by simpa using hjc)]
        simp only [fZ,c4 (off+j) (by omega) (by omega) hjc] at hr
        rw [Q6,Q2 hlt'];exact hr
      obtain ⟨v,hrun,hval⟩:=iR (Pg:=Pg) (w:=w) (htt _ _ ht) ad.block (ad.off+k*wZ+off) cs hl hcell (fun _=>hlt.2)
      have hod:(st1.aA [(g,.ay a i' wZ ak l (some (k,c,d))),(d,.arr false a i' s l')] [d]).o d=.arr false a i' s l':=by
       have:(d==g)=false:=by simpa using hgd.symm
       simp [St.aA,List.lookup,this]
      refine ⟨v,w,wB,.inl (by unfold execOp;rw [ho];exact eH (by rw [hv];simpa [Instr.loadAt,Instr.sureAddr] using hrun)),?_,?_,?_,fun g' hg' => ?_⟩
      ·rw [hst] at r1;exact r1
      ·have:=Lets.trans l1 r2 fun g hg=>by rw [eu];exact hg
       rw [hst] at this;exact this
      ·have hS:bP E (st1.aA [(g,.ay a i' wZ ak l (some (k,c,d))),(d,.arr false a i' s l')] [d]) wB w (V.dN i.agg ((List.range i.size).map fun j=>if Nat.beq (off+j) c=true then W.own d else W.p a i' ((l.getD (P.int .i64 (k:Int)).nat []).getD (off+j) (J4 i.zero j)))) v:=by
        rw [hget]
        refine jl (by simp [hl]) hone (fun j y u hy hu => ?_) v hval
        simp only [Xs,ZD] at hy
        obtain ⟨q,hq,rfl⟩:=hy
        obtain ⟨hlt2,rfl⟩:=Q3.1 hq
        simp at hlt2 ⊢
        have hr:=hrep _ u hu
        by_cases hjc:off+j=c
        ·rw [if_pos hjc]
         rw [if_pos (by simpa using hjc)] at hr
         subst hr
         exact .own d _ rfl fun sz3 adb hd3=>by rw [hod] at hd3;obtain ⟨_,e2⟩:=O.iM hd3;rw [q4,q5,e2]
        ·rw [if_neg hjc]
         rw [if_neg (by simpa using hjc)] at hr
         exact .p _ _ _ _ (r2.jc (by simpa using hr))
       rw [hst] at hS;exact hS
      ·have hg':g'∈(V.dN i.agg ((List.range i.size).map fun j=>if Nat.beq (off+j) c=true then W.own d else W.p a i' ((l.getD (P.int .i64 (k:Int)).nat []).getD (off+j) (J4 i.zero j)))).names:=hg'
       obtain ⟨y,hy,hg'⟩:=iq hg'
       obtain ⟨j,_,rfl⟩:=QP.1 hy
       split at hg'
       ·simp only [W.names,ZZ] at hg';subst hg';simp [St.aA]
       ·simp [W.names] at hg'
     ·cases hk
    ·cases hk
   ·cases hk
  ·cases hk
 ·cases hk
theorem PartOf.mono {a i a' i':Bool} {es es':List (Nat×Nat)} {s j:Nat} {y:P} {u:Value} (h:PartOf st gh a i es s j y u) (ha:a=true→a'=true) (hi:i=true→i'=true) (he :∀p∈es,p∈es'):PartOf st gh a' i' es' s j y u:=by
 obtain ⟨l',h1,h2⟩:=h
 refine ⟨l',h1,h2.imp id ?_⟩
 rintro ⟨e,a1,i1,q1,q2,q3,q4,q5⟩
 exact ⟨e,a1,i1,he _ q1,q2,fun h=>ha (q3 h),fun h=>hi (q4 h),q5⟩
theorem yJ (h:Rel E st gh val w) {col:Nat→Option Nat} :∀{ws:List W} {cs:List Value} {ps:List P} {a i:Bool} {gs:List Nat} {es:List (Nat×Nat)} {j0:Nat},ws.length=cs.length→(∀(j:Nat) x u,ws[j]?=some x→cs[j]?=some u→dH E st gh w x u)→
  JZ st.o col j0 ws=some (ps,a,i,gs,es)→ps.length=ws.length∧sV st.o gs∧(∀p∈es,∃a1 i1 s l',st.o p.2=.arr false a1 i1 s l'∧(i1=true→i=true))∧
   ∀(j:Nat) y u,ps[j]?=some y→cs[j]?=some u→match col (j0+j) with
    |none =>∀st',(∀g∈gs,st'.o g=(Fw.aH st.o g).2)→Rel E st' gh val w→Lets E st st' gh gh w w→bD w (E.ok st' gh w a i) y u
    |some s=>PartOf st gh a i es s (j0+j) y u
 | [],cs,ps,a,i,gs,es,j0,hl,hr,ht=>by
  simp only [JZ,Q0,Q1] at ht
  obtain ⟨rfl,rfl,rfl,rfl,rfl⟩:=ht
  exact ⟨rfl,sV.nil,(fun p hp=>by cases hp),fun j y u hy=>by simp at hy⟩
 |x::ws,cs,ps,a,i,gs,es,j0,hl,hr,ht=>by
  cases cs with
  |nil=>simp at hl
  |cons c cs=>
   simp only [JZ] at ht
   split at ht
   ·cases ht
   ·rename_i ys a' i' gs' es' h2
    obtain ⟨q0,q1,qe,q2⟩:=yJ h (j0:=j0+1) (by simpa using hl) (fun j a b ha hb=>hr (j+1) a b (by simpa using ha) (by simpa using hb)) h2
    have rest :∀(a i:Bool) (gs:List Nat) (es:List (Nat×Nat)),(a'=true→a=true)→(i'=true→i=true)→(∀g∈gs',g∈gs)→(∀p∈es',p∈es)→∀(j:Nat) y u,ys[j]?=some y→cs[j]?=some u→match col (j0+(j+1)) with
      |none =>∀st',(∀g∈gs,st'.o g=(Fw.aH st.o g).2)→Rel E st' gh val w→Lets E st st' gh gh w w→bD w (E.ok st' gh w a i) y u
      |some s=>PartOf st gh a i es s (j0+(j+1)) y u:=by
     intro a i gs es ha hi hg he j y u hy hu
     have:=q2 j y u hy hu
     have e:j0+1+j=j0+(j+1):=by omega
     rw [e] at this
     cases hc:col (j0+(j+1)) with
     |none=>rw [hc] at this;exact fun st' h1 h2 h3=>(this st' (fun g hg'=>h1 g (hg g hg')) h2 h3).cls ha hi
     |some s=>rw [hc] at this;exact this.mono ha hi he
    cases hc0:col j0 with
    |none=>
     rw [hc0] at ht
     simp only at ht
     split at ht
     ·rename_i y1 a1 i1 gs1 h1
      simp only [Q0,Q1] at ht
      obtain ⟨rfl,rfl,rfl,rfl,rfl⟩:=ht
      obtain ⟨k1,k2⟩:=IE h (hr 0 x c rfl rfl) h1
      refine ⟨by simp [q0],k1.append q1,fun p hp=>let ⟨a2,i2,s2,l2,z1,z2⟩:=qe p hp;⟨a2,i2,s2,l2,z1,fun hh=>by simp [z2 hh]⟩,fun j y u hy hu => ?_⟩
      cases j with
      |zero=>
       simp at hy hu;subst hy hu
       rw [V2,hc0]
       exact fun st' hst h' hlet=>(k2 st' (fun g hg=>hst g (by simp [hg])) h' hlet).cls (by simp;exact fun h=>.inl h) (by simp;exact fun h=>.inl h)
      |succ j=>exact rest _ _ _ _ (by simp;exact fun h=>.inr h) (by simp;exact fun h=>.inr h) (fun g hg=>by simp [hg]) (fun p hp=>hp) j y u (by simpa using hy) (by simpa using hu)
     ·cases ht
    |some s=>
     rw [hc0] at ht
     simp only at ht
     split at ht
     ·simp only [Q0,Q1] at ht
      obtain ⟨rfl,rfl,rfl,rfl,rfl⟩:=ht
      refine ⟨by simp [q0],q1,qe,fun j y u hy hu => ?_⟩
      cases j with
      |zero=>
       simp at hy hu;subst hy hu
       rw [V2,hc0]
       have r0:=hr 0 _ _ rfl rfl
       cases r0
       exact ⟨[],rfl,.inl ⟨rfl,rfl⟩⟩
      |succ j=>exact rest _ _ _ _ id id (fun g hg=>hg) (fun p hp=>hp) j y u (by simpa using hy) (by simpa using hu)
     ·rename_i e
      split at ht
      ·rename_i a1 i1 s' l1 hoe
       split at ht
       ·rename_i hs
        subst hs
        simp only [Q0,Q1] at ht
        obtain ⟨rfl,rfl,rfl,rfl,rfl⟩:=ht
        refine ⟨by simp [q0],q1,fun p hp => ?_,fun j y u hy hu => ?_⟩
        ·rcases QQ.1 hp with rfl | hp
         ·exact ⟨a1,i1,s',l1,hoe,fun hh=>by simp [hh]⟩
         ·obtain ⟨a2,i2,s2,l2,z1,z2⟩:=qe p hp
          exact ⟨a2,i2,s2,l2,z1,fun hh=>by simp [z2 hh]⟩
        cases j with
        |zero=>
         simp at hy hu;subst hy hu
         rw [V2,hc0]
         have r0:=hr 0 _ _ rfl rfl
         refine ⟨l1,rfl,.inr ⟨e,a1,i1,by simp,hoe,by simp;exact fun h=>.inl h,by simp;exact fun h=>.inl h,?_⟩⟩
         cases r0 with | own _ _ _ hb=>exact hb _ _ (O.iQ hoe)
        |succ j=>exact rest _ _ _ _ (by simp;exact fun h=>.inr h) (by simp;exact fun h=>.inr h) (fun g hg=>hg) (fun p hp=>by simp [hp]) j y u (by simpa using hy) (by simpa using hu)
       ·cases ht
      ·cases ht
     ·cases ht
theorem DK {o:Nat→O} {g:Nat} {a0 i0:Bool} {wZ:Nat} {jd:List (Nat×Nat)} {l0:List (List P)} {hole:Option (Nat×Nat×Nat)} {a i:Bool} {sz:Nat} {ak:List (Nat×Nat)} {l:List (List P)} (hog:o g=.ay a0 i0 wZ jd l0 hole)
  (hh:gJ o g=some (a,i,sz,ak,l)):sz=wZ∧ak=jd∧l.length=l0.length:=by
 have h1:=lD hh
 rw [hog] at h1
 simp only [O.dim,Q0,Q1] at h1
 refine ⟨h1.1.symm,?_,h1.2.symm⟩
 unfold gJ at hh
 rw [hog] at hh
 simp only at hh
 split at hh
 ·cases hh;rfl
 ·split at hh
  ·split at hh
   ·cases hh;rfl
   ·cases hh
  ·cases hh
theorem qY (htt:fP Pg tt) (h:Rel E st gh val w) {o:Oper} {ρ:Operand→Value} {t:TypeId} {x y:Operand} (ho:o.op=.store t x y) {i:TI} (ht:tt t=some i) {y':V} (ry:nY E st gh w y' (ρ y)) (hys:y'.solid=true) (hyl:y'.words.length=i.size)
  {g:Nat} {a1 i1:Bool} {sz:Nat} {ak:List (Nat×Nat)} {l:List (List P)} {hole eP:Option (Nat×Nat×Nat)} {ad:Addr} {k off:Nat} (hv:ρ x=.pointer (some ⟨ad.block,ad.off+k*sz+off,none⟩)) (hsz:off+i.size≤sz) (hk:k<l.length)
  {ps:List P} {a' i':Bool} {gs:List Nat} {es:List (Nat×Nat)} (hD:JZ st.o (fun j=>ak.lookup j) off y'.words=some (ps,a',i',gs,es)) (hnd:(es.map (·.2)).Nodup) (hap :∀e∈es.map (·.2),e∉gs)
  {st1:St} {kC:Nat→Gh} (ks:List Nat) (h1:Rel E st1 kC val w) (l1:Lets E (st.aA (gs.map (Fw.aH st.o)) []) st1 gh kC w w) (e1 :∀x,(kC x).ad=(gh x).ad∧(kC x).cap=(gh x).cap) (s1:st1.s=st.s) (u1 :∀x,st1.used x=st.used x)
  (o1:st1.o g=.ay a1 i1 sz ak l hole) (had:(gh g).ad=some ad) (ok1 :∀d∈ks,st1.o d=.none∧d≠g∧d∉es.map (·.2)) (Wx :∀g',g'≠g→g'∉ks→st1.o g'=(st.aA (gs.map (Fw.aH st.o)) []).o g') (hgg:g∉gs)
  (hh1 :∀m j,¬ (m=k∧off≤j∧j<off+i.size)→∀s,ak.lookup j=some s→eY eP m j=eY hole m j) (hh2 :∀j s,off≤j→j<off+i.size→ak.lookup j=some s→eY eP k j=none) (hh3 :∀d∈bF eP,d∈bF hole) :
  ∃v w' aT,Does Pg (execOp ρ o) w v w'∧Rel E (st.aA ((g,.ay (a1||a') (i1||i') sz ak (l.set k (aF (l.getD k []) off ps)) eP)::kills (es.map (·.2))++kills ks++gs.map (Fw.aH st.o)) []) aT val w'∧
   Lets E st (st.aA ((g,.ay (a1||a') (i1||i') sz ak (l.set k (aF (l.getD k []) off ps)) eP)::kills (es.map (·.2))++kills ks++gs.map (Fw.aH st.o)) []) gh aT w w'∧
   bP E (st.aA ((g,.ay (a1||a') (i1||i') sz ak (l.set k (aF (l.getD k []) off ps)) eP)::kills (es.map (·.2))++kills ks++gs.map (Fw.aH st.o)) []) aT w' .no v∧
   ∀g∈S.names .no,(st.aA ((g,.ay (a1||a') (i1||i') sz ak (l.set k (aF (l.getD k []) off ps)) eP)::kills (es.map (·.2))++kills ks++gs.map (Fw.aH st.o)) []).used g=true:=by
 obtain ⟨us,hus,Nz,WI,hur⟩:=ry.cells hys
 have TN:us.length=i.size:=by rw [Nz,hyl]
 obtain ⟨q0,q1,qe,q2⟩:=yJ h Nz.symm hur hD
 have hpl:ps.length=i.size:=by rw [q0,hyl]
 obtain ⟨f1,f2⟩:=Rel.freezes gs h q1
 have FZ:(kC g).ad=some ad:=by rw [(e1 g).1];exact had
 have hDA:jg E st1 kC w a1 i1 sz ak l hole (kC g):=by have:=h1.aN g;rw [o1] at this;exact this
 rcases hDA with ⟨k1,_⟩ | ⟨ad0,cs0,ty,k1,k2,k3,k4,k5,k6,_,k8⟩
 ·rw [FZ] at k1;cases k1
 rw [FZ] at k1;cases k1
 have hle:(k+1)*sz≤(kC g).cap*sz:=XN _ (by have:=k5.1;omega)
 rw [Z3,UP] at hle
 obtain ⟨w',c',r1,r2,r3,r4,r5,r6,r7,r8⟩:=o8 (Pg:=Pg) (htt _ _ ht) ad.block (ad.off+k*sz+off) hus TN WI k3 (by omega)
 have hes1 :∀p∈es,st1.o p.2=st.o p.2:=by
  intro p hp
  have hpm:p.2∈es.map (·.2):=QP.2 ⟨p,hp,rfl⟩
  obtain ⟨a2,i2,s2,l2,z1,_⟩:=qe p hp
  by_cases e:p.2=g
  ·exfalso
   have hog:(st.aA (gs.map (Fw.aH st.o)) []).o g=st.o g:=by rw [dX,if_neg hgg]
   have hlk:=l1.names g (by simp only [St.aA,List.contains_nil,VM];exact h.ul g (by rw [←e,z1];simp))
   rw [o1,hog,←e,z1] at hlk
   rcases hlk with hlk | ⟨_,hlk⟩
   ·cases hlk
   ·exact hlk
  ·rw [Wx _ e fun hk=>(ok1 _ hk).2.2 hpm,dX,if_neg (hap _ hpm)]
 have hm:=h1.Zf o1 FZ hk (off:=off) (ps:=ps) (us:=us) (by omega) (by omega) a' i' es eP hnd (fun p hp=>by
   obtain ⟨a2,i2,s2,l2,z1,z2⟩:=qe p hp
   exact ⟨a2,i2,s2,l2,by rw [hes1 p hp];exact z1,z2⟩) (fun j y u hy hu=>by
   have:=q2 j y u hy hu
   cases hc:ak.lookup (off+j) with
   |none=>rw [hc] at this;exact l1.jc (this _ (fun g hg=>by rw [dX,if_pos hg]) f1 f2)
   |some s=>
    rw [hc] at this
    obtain ⟨l',z1,z2⟩:=this
    refine ⟨l',z1,z2.imp id ?_⟩
    rintro ⟨e,a2,i2,y1,y2,y3,y4,y5⟩
    exact ⟨e,a2,i2,y1,by rw [hes1 _ y1];exact y2,y3,y4,by rw [(e1 e).1,(e1 e).2];exact y5⟩)
  (by rw [hpl];exact hh1) (by rw [hpl];exact hh2) hh3 w' r4 r5 r6 r7 r8 (fun c e hce=>by
   rw [k3] at hce;cases hce
   exact ⟨c',r2,r3⟩)
 obtain ⟨aT,m1,m2⟩:=hm
 have hst:st1.aA ((g,.ay (a1||a') (i1||i') sz ak (l.set k (aF (l.getD k []) off ps)) eP)::es.map fun p=>(p.2,O.none)) [] =
   st.aA ((g,.ay (a1||a') (i1||i') sz ak (l.set k (aF (l.getD k []) off ps)) eP)::kills (es.map (·.2))++kills ks++gs.map (Fw.aH st.o)) []:=by
  refine St.zT s1 (fun z => ?_) (fun z=>by simp [St.aA,u1])
  have ek:(es.map fun p=>(p.2,O.none))=kills (es.map (·.2)):=by simp [kills]
  rw [ek]
  simp only [St.aA,J0,lookup_cons,qX,fG]
  by_cases z1:z=g
  ·simp only [if_pos z1]
  ·simp only [if_neg z1]
   by_cases z2:z∈es.map (·.2)
   ·simp only [if_pos z2,Option.some_or]
   ·simp only [if_neg z2,Option.none_or]
    by_cases z3:z∈ks
    ·simp only [if_pos z3,Option.some_or];exact (ok1 z z3).1
    ·simp only [if_neg z3,Option.none_or]
     rw [Wx z z1 z3]
     rfl
 rw [hst] at m1 m2
 refine ⟨undef,w',aT,.inr ⟨?_,rfl⟩,m1,?_,.no _,fun g hg=>by simp [S.names] at hg⟩
 ·unfold execOp;rw [ho]
  refine TG ?_
  rw [hv]
  simpa [Instr.storeAt,Instr.sureAddr] using r1
 ·exact Lets.trans (Lets.trans f2 l1 (fun g hg=>by simpa [St.aA] using hg)) m2 (fun g hg=>by rw [u1];exact hg)
theorem abo {o:Nat→O} {g:Nat} {a i:Bool} {sz:Nat} {ak:List (Nat×Nat)} {l:List (List P)} {hole:Option (Nat×Nat×Nat)} (h:o g=.ay a i sz ak l hole):(o g).hn=bF hole:=by rw [h];rfl
theorem IQ {g:Nat} {gs:List Nat} (hg:g∉gs) (hn :∀d∈(st.o g).hn,d∉gs):gJ (st.aA (gs.map (Fw.aH st.o)) []).o g=gJ st.o g:=by
 have e1:(st.aA (gs.map (Fw.aH st.o)) []).o g=st.o g:=by rw [dX,if_neg hg]
 unfold gJ
 rw [e1]
 cases ho:st.o g with
 |ay a i sz ak l hole=>
  rcases hole with _ | ⟨n,c,d⟩
  ·rfl
  ·simp only
   rw [dX,if_neg (hn d (by rw [ho];simp [O.hn,bF]))]
 |_=>rfl
theorem IU {dc:List (Nat×Nat)} (htt:fP Pg tt) (t:TypeId) (x y:Operand):nN Pg tt dc (.store t x y):=by
 intro E st gh val w ρ F o d r ho h hF hFn hk hp hd
 simp only [bV] at hk
 split at hk
 ·rename_i i g n off y' ht hx hy
  have rx:=hF x;rw [hx] at rx
  have ry:=hF y;rw [hy] at ry
  split at hk
  ·rename_i a0 i0 sz ak l0 hole hog
   split at hk
   ·rename_i ps a' i' gs es hD
    split at hk
    ·rename_i hc
     obtain ⟨hc1,hc2,hc3,hc4,hc5,hc6⟩:=hc
     have hgg:g∉gs:=fun hm=>by simp [hm] at hc4
     have hnd:=oC hc5
     have hap:=Bd hc6
     have FY:(st.o g).dim=some (sz,l0.length):=by rw [hog];rfl
     obtain ⟨ad,k,had,rfl,hkl,hv⟩:=(by cases rx.bU with | ep _ _ _ _ _ hb=>exact hb _ _ FY :∃(ad:Addr) (k:Nat),(gh g).ad=some ad∧n=.int .i64 k∧k<l0.length∧ρ x=.pointer (some ⟨ad.block,ad.off+k*sz+off,none⟩))
     have en:(P.int .i64 (k:Int)).nat=k:=by simp [P.nat,P.num]
     have ogf:(st.aA (gs.map (Fw.aH st.o)) []).o g=.ay a0 i0 sz ak l0 hole:=by rw [dX,if_neg hgg];exact hog
     obtain ⟨us,hus,Nz,WI,hur⟩:=ry.IB.cells hc3
     obtain ⟨_,q1,_,_⟩:=yJ h Nz.symm hur hD
     obtain ⟨f1,f2⟩:=Rel.freezes gs h q1
     have refl:Lets E (st.aA (gs.map (Fw.aH st.o)) []) (st.aA (gs.map (Fw.aH st.o)) []) gh gh w w:=⟨fun a i b hb=>⟨hb,rfl⟩,fun g _=>.inr ⟨⟨rfl,rfl⟩,O.dI _⟩⟩
     have home :∀(a i1:Bool) (l:List (List P)),gJ st.o g=some (a,i1,sz,ak,l)→(∀d∈(st.o g).hn,d∉es.map (·.2)∧d∉gs)→
       ∃v w' aT,Does Pg (execOp ρ o) w v w'∧Rel E (st.aA ((g,.ay (a||a') (i1||i') sz ak (l.set k (aF (l.getD k []) off ps)) none)::kills (es.map (·.2))++kills (st.o g).hn++gs.map (Fw.aH st.o)) []) aT val w'∧Lets E st (st.aA ((g,.ay (a||a') (i1||i') sz ak (l.set k (aF (l.getD k []) off ps)) none)::kills (es.map (·.2))++kills (st.o g).hn++gs.map (Fw.aH st.o)) []) gh aT w w'∧bP E (st.aA ((g,.ay (a||a') (i1||i') sz ak (l.set k (aF (l.getD k []) off ps)) none)::kills (es.map (·.2))++kills (st.o g).hn++gs.map (Fw.aH st.o)) []) aT w' .no v∧∀g'∈S.names .no,(st.aA ((g,.ay (a||a') (i1||i') sz ak (l.set k (aF (l.getD k []) off ps)) none)::kills (es.map (·.2))++kills (st.o g).hn++gs.map (Fw.aH st.o)) []).used g'=true:=fun a i1 l hh hno=>by
      have hh':gJ (st.aA (gs.map (Fw.aH st.o)) []).o g=some (a,i1,sz,ak,l):=by rw [IQ hgg fun d hd=>(hno d hd).2];exact hh
      have hhn:((st.aA (gs.map (Fw.aH st.o)) []).o g).hn=(st.o g).hn:=by rw [ogf,hog]
      obtain ⟨st1,kC,h1,l1,e1,es1,eu,eo,ek,en1⟩:=f1.home hh'
      rw [hhn] at ek en1
      have hll:=(DK hog hh).2.2
      exact qY htt h ho ht ry.IB hc3 hc2 hv hc1 (by omega) hD hnd hap (st.o g).hn h1 l1 e1 (by rw [es1];rfl) (fun z=>by rw [eu];simp [St.aA]) eo had
       (fun d hd=>⟨(ek d hd).1,(ek d hd).2,(hno d hd).1⟩) en1 hgg (eP:=none) (fun _ _ _ _ _=>rfl) (fun _ _ _ _ _=>rfl) (fun d hd=>by cases hd)
     have over :∀n0 c0 d0,hole=some (n0,c0,d0)→off≤c0∧c0<off+i.size→n0=k→_:=fun n0 c0 d0 hho hcr hp=>
      qY htt h ho ht ry.IB hc3 hc2 hv hc1 hkl hD hnd hap [] f1 refl (fun _=>⟨rfl,rfl⟩) rfl (fun z=>by simp [St.aA]) ogf had (fun d hd=>by cases hd) (fun _ _ _=>rfl) hgg
       (eP:=none) (fun m j hne s hs=>by
        subst hho hp
        simp only [eY]
        rw [if_neg fun e=>hne ⟨e.1.symm,by omega,by omega⟩]) (fun _ _ _ _ _=>rfl) (fun d hd=>by cases hd)
     split at hk
     ·rename_i hci
      simp only [Q0] at hk;subst hk
      have:=qY htt h ho ht ry.IB hc3 hc2 hv hc1 hkl hD hnd hap [] f1 refl (fun _=>⟨rfl,rfl⟩) rfl (fun z=>by simp [St.aA]) ogf had (fun d hd=>by cases hd) (fun _ _ _=>rfl) hgg
       (eP:=hole) (fun _ _ _ _ _=>rfl) (fun j s h1 h2 h3=>by rw [DI hci h1 h2] at h3;cases h3) (fun d hd=>hd)
      rw [en];exact this
     ·split at hk
      ·simp only [Q0] at hk;subst hk
       have:=qY htt h ho ht ry.IB hc3 hc2 hv hc1 hkl hD hnd hap [] f1 refl (fun _=>⟨rfl,rfl⟩) rfl (fun z=>by simp [St.aA]) ogf had (fun d hd=>by cases hd) (fun _ _ _=>rfl) hgg
        (eP:=none) (fun _ _ _ _ _=>rfl) (fun _ _ _ _ _=>rfl) (fun d hd=>hd)
       rw [en];exact this
      ·rename_i n0 c0 d0
       split at hk
       ·rename_i a i1 _ _ l hh
        split at hk
        ·rename_i hcc
         simp only [Q0] at hk;subst hk
         obtain ⟨e1,e2,e3⟩:=DK hog hh
         subst e1 e2
         have hhn:(st.o g).hn=[d0]:=by rw [abo hog];rfl
         have:=home a i1 l hh (fun d hd=>by
          rw [hhn,ZZ] at hd;subst hd
          exact ⟨fun hm=>by have:=hcc.1;simp only [W7,decide_eq_false_iff_not] at this;exact this hm,fun hm=>by have:=hcc.2;simp [hm] at this⟩)
         rw [hhn] at this
         rw [en];exact this
        ·split at hk
         ·rename_i hcr
          simp only [Q0] at hk;subst hk
          have hp:n0=(P.int .i64 (k:Int)).nat:=hp
          rw [en] at hp
          rw [en];exact over n0 c0 d0 rfl hcr hp
         ·cases hk
       ·split at hk
        ·rename_i hcr
         simp only [Q0] at hk;subst hk
         have hp:n0=(P.int .i64 (k:Int)).nat:=hp
         rw [en] at hp
         rw [en];exact over n0 c0 d0 rfl hcr hp
        ·cases hk
    ·cases hk
   ·cases hk
  ·cases hk
 ·cases hk
theorem Rel.Ub (h:Rel E st gh val w) {d:Nat} (hd:st.used d=false) (a i:Bool) (sz:Nat) (ak:List (Nat×Nat)) (l:List (List P)) (c:Array Value) (t:TypeId) (cap:Nat) (hcap:l.length≤cap∧cap≤9223372036854775807) (hc:cap*sz≤c.size) (hrow :∀x∈l,x.length=sz)
  (es:List (Nat×Nat)) (hnd:(es.map (·.2)).Nodup) (hes :∀p∈es,∃a1 i1 s l',st.o p.2=.arr false a1 i1 s l'∧(i1=true→i=true))
  (hcell :∀(n:Nat) x,l[n]?=some x→∀(j:Nat) y,x[j]?=some y→∃v,c[n*sz+j]?=some v∧match ak.lookup j with
   |none=>bD w (E.ok st gh w a i) y v
   |some s=>PartOf st gh a i es s (n*sz+j) y v) :
  ∃aT,Rel E (st.aA ((d,.ay a i sz ak l none)::kills (es.map (·.2))) [d]) aT val { w with heap:=w.heap.push (.cells c t) }∧Lets E st (st.aA ((d,.ay a i sz ak l none)::kills (es.map (·.2))) [d]) gh aT w { w with heap:=w.heap.push (.cells c t) }∧
   (aT d).ad=some ⟨w.heap.size,0,none⟩ ∧(aT d).cap=cap:=by
 have heo :∀p∈es,(st.o p.2).aX=true:=fun p hp=>by obtain ⟨_,_,_,_,e,_⟩:=hes p hp;rw [e];rfl
 have hde:d∉es.map (·.2):=fun hm=>by
  obtain ⟨p,hp,e⟩:=QP.1 hm
  have:=h.ul p.2 (O.lV (heo p hp))
  rw [e,hd] at this;cases this
 let G:Gh:=⟨some ⟨w.heap.size,0,none⟩,cap,fun b=>(whose gh es b).map fun p=>(p.1/sz,p.1 % sz)⟩
 have hwb :∀b,(G.sub b).isSome=true→∃p∈es,∃ad,(gh p.2).ad=some ad∧ad.block=b:=fun b hb=>by
  cases hx:whose gh es b with
  |none=>simp [G,hx] at hb
  |some p=>exact ⟨p,qW hx⟩
 have hm:=h.gather (fun g=>g∈es.map (·.2)) hd a i sz ak l G (st.aA ((d,.ay a i sz ak l none)::kills (es.map (·.2))) [d]) { w with heap:=w.heap.push (.cells c t) } rfl (by simp [St.aA,lookup_cons])
  (fun g hg e=>by simp only [St.aA,lookup_cons,if_neg e,fG,if_pos hg]) (fun g hg e=>by simp only [St.aA,lookup_cons,if_neg e,fG,if_neg hg]) (fun g hg=>by simp [St.aA,hg]) (by simp [St.aA])
  (ad:=⟨w.heap.size,0,none⟩) (c:=c) (ty:=t) rfl rfl (by simp) (by simpa [G] using hc) hcap hrow (by
   cases hx:G.sub w.heap.size with
   |none=>rfl
   |some p=>
    obtain ⟨p,hp,ad,q1,q2⟩:=hwb w.heap.size (by rw [hx];rfl)
    have:=(h.wr p.2 w.heap.size (heo p hp) (.inl ⟨ad,q1,q2⟩)).2
    omega) (fun b hb=>by
   obtain ⟨p,hp,ad,q1,q2⟩:=hwb b hb
   refine ⟨⟨p.2,QP.2 ⟨p,hp,rfl⟩,heo p hp,.inl ⟨ad,q1,q2⟩⟩,?_⟩
   obtain ⟨_,_,_,_,e,_⟩:=hes p hp
   have hA:=h.aN p.2
   rw [e] at hA
   rcases hA with ⟨q3,_⟩ | ⟨yC,c2,e2,q3,_,q4,_⟩
   ·rw [q1] at q3;cases q3
   ·rw [q1] at q3;cases q3;rw [←q2];exact ⟨_,_,_,q4⟩)
  (.inr ⟨W4 _,by simp⟩) (fun b hb _=>qN w _ b hb) (by simp) rfl rfl rfl (fun g i1 hg e1 hi=>by
   obtain ⟨p,hp,rfl⟩:=QP.1 hg
   obtain ⟨_,i2,_,_,e,hi2⟩:=hes p hp
   rw [e] at e1;cases e1;exact hi2 hi) (fun g hg _=>by
   obtain ⟨p,hp,rfl⟩:=QP.1 hg
   obtain ⟨_,i2,_,_,e,hi2⟩:=hes p hp
   exact ⟨i2,by rw [e];rfl⟩) (fun n x hx j y hy=>by
   obtain ⟨v,hv,hr⟩:=hcell n x hx j y hy
   refine ⟨v,by simpa using hv,?_⟩
   cases hcj:ak.lookup j with
   |none=>rw [hcj] at hr;exact hr
   |some s=>
    rw [hcj] at hr
    have hjs:j<sz:=by have:=(Q3.1 hy).1;have:=hrow x (QR hx);omega
    refine PartOf.abm h hr fun p hp e ad had => ?_
    have:=GL h hnd heo hp had
    simp only [G,this,YY,e]
    have e1:(n*sz+j)/sz=n:=by rw [K5,Nat.mul_add_div (by omega),Nat.div_eq_of_lt hjs,V2]
    have e2:(n*sz+j) % sz=j:=by rw [K5,Kg,JP hjs]
    rw [e1,e2])
 exact ⟨_,hm.1,hm.2,by simp [dG,G],by simp [dG,G]⟩
theorem zU {dc:List (Nat×Nat)} (htt:fP Pg tt) (t:TypeId) (n c:Operand):nN Pg tt dc (.makeSlice t n c):=by
 intro E st gh val w ρ F o d r ho h hF hFn hk hp hd
 simp only [bV] at hk
 split at hk
 ·rename_i e _ _ _ _ _ n' _ _ c' wE zV ht hn hc
  split at hk
  ·rename_i ie he
   split at hk
   ·rename_i ps hps
    split at hk
    ·rename_i hpos
     simp only [Q0] at hk;subst hk
     obtain ⟨m,k,rfl,rfl,hmk,hby,hkm⟩:=hp
     have hu:=(htt _ _ ht).kind
     simp only [lu] at hu
     have rn:=hF n;rw [hn] at rn
     have rc:=hF c;rw [hc] at rc
     obtain ⟨x,z,g1,g2,g3,g4,g5,g6⟩:=(htt _ _ he).info
     obtain ⟨hone,hl,hr⟩:=nJ (E:=E) (st:=st) (gh:=gh) (w:=w) (htt _ _ he)
     have hzl:=(htt _ _ he).len
     obtain ⟨q0,q1,_,q2⟩:=yJ h hl hr hps
     have CV:st.used d=false:=hd d (by simp)
     have hpl:ps.length=ie.size:=by rw [q0,hl,hzl]
     have e1:(P.int .i64 (m:Int)).nat=m:=by simp [P.nat,P.num]
     obtain ⟨aT,m1,m2,m3,m4⟩:=h.Ub CV false false ie.size (wE::zV) (List.replicate m ps) (dV ie.zero k).toArray e k ⟨by simpa using hmk,by omega⟩ (by simp [bW,hzl]) (fun x hx=>by
       rw [List.mem_replicate] at hx;rw [hx.2,hpl]) [] List.nodup_nil (fun p hp=>by cases hp) (fun q x hx j y hy=>by
       rw [KB] at hx
       split at hx
       ·rename_i hq
        simp only [Q0] at hx;subst hx
        have hj:j<ie.size:=by have:=(Q3.1 hy).1;omega
        have hlt:q*ie.size+j<k*ie.zero.length:=by
         rw [hzl]
         have:(q+1)*ie.size≤k*ie.size:=XN _ (by omega)
         rw [Z3] at this;omega
        have hz':ie.zero[j]?=some ie.zero[j]:=Q2 (by omega)
        refine ⟨ie.zero[j],?_,?_⟩
        ·simp only [Up]
         have hmod:(q*ie.size+j) % ie.zero.length=j:=by rw [hzl,K5,Kg,JP hj]
         rw [fK _ _ _ hlt,hmod]
         exact hz'
        ·have:=q2 j y _ hy hz'
         rw [Wb] at this
         cases hcj:(wE::zV).lookup j with
         |none=>rw [hcj] at this;exact this st (by simp) h ⟨fun a i b hb=>⟨hb,rfl⟩,fun g _=>.inr ⟨⟨rfl,rfl⟩,O.dI _⟩⟩
         |some s=>
          rw [hcj] at this
          obtain ⟨l',z1,z2⟩:=this
          rcases z2 with z2 | ⟨_,_,_,z3,_⟩
          ·exact ⟨l',z1,.inl z2⟩
          ·cases z3
       ·cases hx)
     refine ⟨.slice (some ⟨w.heap.size,0,none⟩) m k,_,aT,.inl ?_,by simpa [e1,P.list,kills] using m1,by simpa [e1,P.list,kills] using m2,bP.CS (.own d _ rfl fun sz' len' ho' => ?_),fun g hg => ?_⟩
     ·unfold execOp;rw [ho]
      refine eH ?_
      have hrun:=run_make (P:=Pg) w t e x z hu g1 g4 .i64 .i64 (m:Int) (k:Int) (by omega) (by omega) (by rw [g3];omega) (by omega)
      rw [rn.dK.dA,rc.dK.dA,hrun]
      have:=kM g5 k (by rw [hzl];exact hpos)
      rw [hzl] at this
      simp only [Int.toNat_natCast,g2,madeCells,this]
     ·rw [e1] at ho'
      have NG:(some (ie.size,m):Option (Nat×Nat))=some (sz',len'):=by
       rw [←ho'];simp [St.aA,List.lookup,O.dim,P.list]
      cases NG
      rw [m3,m4]
     ·have hg:g∈(S.v (.one (.own d))).names:=hg
      rw [bY] at hg
      simp only [W.names,ZZ] at hg
      subst hg;simp [St.aA]
    ·cases hk
   ·cases hk
  ·cases hk
 ·cases hk
theorem yK {dc:List (Nat×Nat)} (htt:fP Pg tt) (t:TypeId) (n:Nat) (parts:Array (Nat×Operand)):nN Pg tt dc (.buildSlice t n parts):=by
 intro E st gh val w ρ F o d r ho h hF hFn hk hp hd
 simp only [bV] at hk
 split at hk
 ·rename_i e _ _ _ wE zV ht
  split at hk
  ·rename_i ie he
   split at hk
   ·rename_i ws GK
    split at hk
    ·rename_i ps a i gs es hps
     split at hk
     ·rename_i hcc
      obtain ⟨hcap0,hnd,hap⟩:=hcc
      have hnd:=oC hnd
      have hap:=Bd hap
      have hcap:n*ie.size≤16777216:=by omega
      simp only [Q0] at hk;subst hk
      have hu:=(htt _ _ ht).kind
      simp only [lu] at hu
      obtain ⟨z,hz,hzc,_⟩:=jk (Pg:=Pg) (w:=w) (htt _ _ he)
      obtain ⟨hone,hl,hr⟩:=nJ (E:=E) (st:=st) (gh:=gh) (w:=w) (htt _ _ he)
      have hzl:=(htt _ _ he).len
      have hparts:(parts.map fun (p:Nat×Operand)=>(p.1,ρ p.2)).toList=parts.toList.map fun p=>(p.1,ρ p.2):=by simp
      obtain ⟨cs',h1,h2,h3,h4,h5⟩:=yF (E:=E) (st:=st) (gh:=gh) (w:=w) (place':=fun i=>some (i*ie.size,ie.size)) (fun m p hpm=>by split at hpm;exact hpm;cases hpm) _ (parts.toList.map fun p=>(p.1,ρ p.2)) _ _
       (dV ie.zero n) (by simp) (fun j x v hx hv=>zN hF _ j x v hx hv) (by rw [bW,bW,hl]) (fun c hc=>by
        obtain ⟨j,hj⟩:=WD.1 hc
        have hlt:j<n*ie.zero.length:=by have:=(Q3.1 hj).1;rwa [bW] at this
        rw [fK _ _ _ hlt] at hj
        exact hone c (QR hj)) (fun j x u hx hu=>by
        have hlt:j<n*ie.zero.length:=by have:=(Q3.1 hu).1;rwa [bW] at this
        rw [fK _ _ _ hlt] at hu
        rw [fK _ _ _ (by rw [hl];exact hlt),hl] at hx
        exact hr _ _ _ hx hu) GK
      obtain ⟨q0,q1,qe,q2⟩:=yJ h h2 h4 hps
      obtain ⟨f1,f2⟩:=Rel.freezes gs h q1
      have CV:st.used d=false:=hd d (by simp)
      have hws:ws.length=n*ie.size:=by rw [h5,bW,hl,hzl]
      have Zb:ps.length=n*ie.size:=by rw [q0,hws]
      have hfe :∀p∈es,(st.aA (gs.map (Fw.aH st.o)) []).o p.2=st.o p.2:=fun p hp=>by rw [dX,if_neg (hap _ (QP.2 ⟨p,hp,rfl⟩))]
      obtain ⟨aT,m1,m2,m3,m4⟩:=f1.Ub (d:=d) (by simpa [St.aA] using CV) a i ie.size (wE::zV) (chunks ie.size n ps) cs'.toArray e n ⟨by rw [fF];exact W4 _,by omega⟩ (by simp;omega) (fun x hx=>by
        obtain ⟨m,hm⟩:=WD.1 hx
        have hlt:m<n:=by have:=(Q3.1 hm).1;rwa [fF] at this
        rw [nK _ _ _ _ hlt] at hm
        simp only [Q0] at hm;subst hm
        simp [Zb]
        have:(m+1)*ie.size≤n*ie.size:=XN _ hlt
        rw [Z3] at this;omega) es hnd (fun p hp=>by
        obtain ⟨a2,i2,s2,l2,z1,z2⟩:=qe p hp
        exact ⟨a2,i2,s2,l2,by rw [hfe p hp];exact z1,z2⟩) (fun m x hx j y hy=>by
        have hlt:m<n:=by have:=(Q3.1 hx).1;rwa [fF] at this
        rw [nK _ _ _ _ hlt] at hx
        simp only [Q0] at hx;subst hx
        rw [XX] at hy
        split at hy
        ·rename_i hj
         rw [ZS] at hy
         have hlt2:m*ie.size+j<cs'.length:=by
          have:=(Q3.1 hy).1;omega
         refine ⟨cs'[m*ie.size+j],by simp,?_⟩
         have:=q2 _ y _ hy (Q2 hlt2)
         have em:(0+(m*ie.size+j)) % ie.size=j:=by rw [Wb,K5,Kg,JP hj]
         rw [em,Wb] at this
         cases hcj:(wE::zV).lookup j with
         |none=>rw [hcj] at this;exact this _ (fun g hg=>by rw [dX,if_pos hg]) f1 f2
         |some s=>
          rw [hcj] at this
          obtain ⟨l',z1,z2⟩:=this
          refine ⟨l',z1,z2.imp id ?_⟩
          rintro ⟨e,a2,i2,y1,y2,y3,y4,y5⟩
          exact ⟨e,a2,i2,y1,by rw [hfe _ y1];exact y2,y3,y4,y5⟩
        ·cases hy)
      have hst:(st.aA (gs.map (Fw.aH st.o)) []).aA ((d,.ay a i ie.size (wE::zV) (chunks ie.size n ps) none)::kills (es.map (·.2))) [d]=st.aA ((d,.ay a i ie.size (wE::zV) (chunks ie.size n ps) none)::kills (es.map (·.2))++gs.map (Fw.aH st.o)) [d]:=by
       refine St.zT rfl (fun z => ?_) (fun z=>by simp [St.aA])
       simp only [St.aA,J0,lookup_cons,qX,fG]
       by_cases z1:z=d
       ·simp only [if_pos z1]
       ·simp only [if_neg z1]
        by_cases z2:z∈es.map (·.2)
        ·simp only [if_pos z2,Option.some_or]
        ·simp only [if_neg z2,Option.none_or]
      rw [hst] at m1 m2
      refine ⟨.slice (some ⟨w.heap.size,0,none⟩) n n,_,aT,.inl ?_,m1,Lets.trans f2 m2 (fun g hg=>by simpa [St.aA] using hg),bP.CS (.own d _ rfl fun sz' len' ho' => ?_),fun g hg => ?_⟩
      ·unfold execOp;rw [ho]
       refine eH ?_
       have hle:¬ n*ie.size>2 ^ 24:=by omega
       have fin :∀Z:Array Value,(Array.range (n*ie.size)).map (fun i=>Z[i % Z.size]!)=(dV ie.zero n).toArray→
         Instr.fill (fun i=>some (i*ie.size,ie.size)) ((Array.range (n*ie.size)).map fun i=>Z[i % Z.size]!) (parts.map fun (p:Nat×Operand)=>(p.1,ρ p.2)).toList=some cs'.toArray:=by
        intro Z hZ;rw [hZ,hparts,h1]
       by_cases h0:n*ie.size=0
       ·have e0:dV ie.zero n=[]:=We (by rw [bW,hzl,h0])
        have e1:=fin #[] (by rw [h0,e0];simp)
        simp only [Instr.buildSlice,Sem.run_bind,dh hu,Result.andThen_ok,cO (htt _ _ he),if_neg hle,if_pos h0,Sem.run_pure]
        simp only [e1]
        simp [newRow]
       ·have hpos:0<ie.zero.length:=by rw [hzl];rcases Kl ie.size with h | h;(rw [h] at h0;simp at h0);exact h
        have e1:=fin z.cells (by have:=kM hzc n hpos;rw [hzl] at this;exact this)
        simp only [Instr.buildSlice,Sem.run_bind,dh hu,Result.andThen_ok,cO (htt _ _ he),if_neg hle,if_neg h0,hz,Sem.run_pure]
        simp only [e1]
        simp [newRow]
      ·have NG:(some (ie.size,n):Option (Nat×Nat))=some (sz',len'):=by
        rw [←ho'];simp [St.aA,List.lookup,O.dim,P.list,fF]
       cases NG
       rw [m3,m4]
      ·have hg:g∈(S.v (.one (.own d))).names:=hg
       rw [bY] at hg
       simp only [W.names,ZZ] at hg
       subst hg;simp [St.aA]
     ·cases hk
    ·cases hk
   ·cases hk
  ·cases hk
 ·cases hk
def uX (gh:Nat→Gh):Option Nat→Nat→Option (Nat×Nat)
 |some g,b=>(gh g).sub b
 |none,_=>none
theorem KD (h:Rel E st gh val w) {d g2:Nat} (hd:st.used d=false) {a i a2 i2:Bool} {sz:Nat} {ak:List (Nat×Nat)} {old new:List (List P)} {base:Option Nat} {bad:Option Addr} {qZ m:Nat}
  (hb:(base=none∧bad=none∧qZ=0∧m=0∧old=[])∨∃g l,base=some g∧st.o g=.ay a i sz ak l none∧bad=(gh g).ad∧(m≤qZ∧qZ≤(gh g).cap)∧m≤l.length∧old=l.take m∧g≠g2)
  (ho2:st.o g2=.ay a2 i2 sz ak new none)
  {ts:Array TypeId} {ty sT xT e e':TypeId} {ie:TI} (h0:ts[0]?=some sT) (h1:ts[1]?=some xT) (hs:Pg.underlying sT=some (.slice e)) (hxt:Pg.underlying xT=some (.slice e')) (he:mO Pg e ie) (hsz:sz=ie.size)
  (hbb:(m+new.length)*ie.bytes≤140737488355328) (hb0:ie.bytes≠0) :
  ∃v w' aT,(Builtin.append_ ts ty #[.slice bad m qZ,.slice (gh g2).ad new.length (gh g2).cap]).run Pg w=.ok v w'∧Rel E (st.aA ((d,.ay (a||a2) (i||i2) sz ak (old++new) none)::kills (base.toList++[g2])) [d]) aT val w'∧
   Lets E st (st.aA ((d,.ay (a||a2) (i||i2) sz ak (old++new) none)::kills (base.toList++[g2])) [d]) gh aT w w'∧v=.slice (aT d).ad (old++new).length (aT d).cap:=by
 subst hsz
 have ca:a=true→(a||a2)=true:=by simp;exact fun h=>.inl h
 have ci:i=true→(i||i2)=true:=by simp;exact fun h=>.inl h
 have ca2:a2=true→(a||a2)=true:=by simp;exact fun h=>.inr h
 have ci2:i2=true→(i||i2)=true:=by simp;exact fun h=>.inr h
 have hnd :∀g,st.o g≠.none→g≠d:=fun g hg e=>by rw [←e,h.ul g hg] at hd;cases hd
 have ado:g2≠d:=hnd g2 (by rw [ho2];simp)
 have WO:(st.o g2).aX=true:=by rw [ho2];rfl
 have hol:old.length=m:=by
  rcases hb with ⟨_,_,_,rfl,rfl⟩ | ⟨g,l,_,_,_,_,hm,rfl,_⟩
  ·rfl
  ·simp;omega
 have hlen:(old++new).length=m+new.length:=by rw [W3,hol]
 have hbS :∀g,g∈base.toList++[g2]→g≠d∧(st.o g).aX=true∧∃a0 i0 l0,st.o g=.ay a0 i0 ie.size ak l0 none∧(i0=true→(i||i2)=true):=by
  intro g hg
  rcases Z1.1 hg with hg | hg
  ·rcases hb with ⟨rfl,_⟩ | ⟨g',l,rfl,hog,_⟩
   ·simp at hg
   ·simp at hg;subst hg
    exact ⟨hnd g (by rw [hog];simp),by rw [hog];rfl,a,i,l,hog,ci⟩
  ·rw [ZZ] at hg;subst hg
   exact ⟨ado,WO,a2,i2,new,ho2,ci2⟩
 let sub:Nat→Option (Nat×Nat):=fun b=>match (gh g2).sub b with
  |some (n,j)=>some (n+m,j)
  |none=>uX gh base b
 have abp :∀b,(uX gh base b).isSome=true→(gh g2).has b→False:=fun b h1 h2=>by
  rcases hb with ⟨rfl,_⟩ | ⟨g,l,rfl,hog,_,_,_,_,hne⟩
  ·cases h1
  ·exact hne (h.inj g g2 b (by rw [hog];rfl) WO (.inr h1) h2)
 have hsub :∀b,(sub b).isSome=true→(∃g,g∈base.toList++[g2]∧(st.o g).aX=true∧((gh g).sub b).isSome=true):=fun b hbs=>by
  cases hx:(gh g2).sub b with
  |some p=>exact ⟨g2,by simp,WO,by rw [hx];rfl⟩
  |none=>
   simp only [sub,hx] at hbs
   rcases hb with ⟨rfl,_⟩ | ⟨g,l,rfl,hog,_⟩
   ·cases hbs
   ·exact ⟨g,by simp,by rw [hog];rfl,hbs⟩
 have Uc :∀g,g∈base.toList++[g2]→∀b,((gh g).sub b).isSome=true→∃c e f,w.heap[b]?=some (.cells c e f):=fun g hg b hbs=>by
  obtain ⟨_,_,a0,i0,l0,hog,_⟩:=hbS g hg
  have hD:=h.aN g
  rw [hog] at hD
  rcases hD with ⟨_,_,_,q⟩ | ⟨_,_,_,_,_,_,_,_,_,⟨_,q⟩,_⟩
  ·rw [q b] at hbs;cases hbs
  ·exact q b hbs
 have abq :∀(G:Gh),G.sub=sub→∀n j y u,fZ E st gh w a2 i2 (gh g2) ak none n j y u→match ak.lookup j with
   |none=>bD w (E.ok st gh w (a||a2) (i||i2)) y u
   |some s=>vZ E st gh w (a||a2) (i||i2) G s (n+m) j y u:=by
  intro G hG n j y u hr
  unfold fZ at hr
  cases hc:ak.lookup j with
  |none=>rw [hc] at hr;exact hr.cls ca2 ci2
  |some s=>
   rw [hc] at hr
   simp only [eY] at hr
   obtain ⟨l',ao,k,q1,q2,q3,q4⟩:=hr.cls ca2 ci2
   exact ⟨l',ao,k,q1,q2,q3,fun ad had=>by rw [hG];simp only [sub,q4 ad had]⟩
 have abr :∀(G:Gh),G.sub=sub→∀g,base=some g→∀n j y u,fZ E st gh w a i (gh g) ak none n j y u→match ak.lookup j with
   |none=>bD w (E.ok st gh w (a||a2) (i||i2)) y u
   |some s=>vZ E st gh w (a||a2) (i||i2) G s n j y u:=by
  intro G hG g hgb n j y u hr
  unfold fZ at hr
  cases hc:ak.lookup j with
  |none=>rw [hc] at hr;exact hr.cls ca ci
  |some s=>
   rw [hc] at hr
   simp only [eY] at hr
   obtain ⟨l',ao,k,q1,q2,q3,q4⟩:=hr.cls ca ci
   refine ⟨l',ao,k,q1,q2,q3,fun ad had => ?_⟩
   have hq:=q4 ad had
   have hb1:(uX gh base ad.block).isSome=true:=by rw [hgb];simp only [uX,hq];rfl
   rw [hG]
   cases hx:(gh g2).sub ad.block with
   |some p=>exact (abp ad.block hb1 (.inr (by rw [hx];rfl))).elim
   |none=>simp only [sub,hx,hgb,uX];exact hq
 have hD2:jg E st gh w a2 i2 ie.size ak new none (gh g2):=by have:=h.aN g2;rw [ho2] at this;exact this
 have abt :∀X:O,∀g,g∈base.toList++[g2]→g≠d→(st.aA ((d,X)::kills (base.toList++[g2])) [d]).o g=.none:=fun X g hg e=>by simp only [St.aA,lookup_cons,if_neg e,fG,if_pos hg]
 have abu :∀X:O,∀g,¬ g∈base.toList++[g2]→g≠d→(st.aA ((d,X)::kills (base.toList++[g2])) [d]).o g=st.o g:=fun X g hg e=>by simp only [St.aA,lookup_cons,if_neg e,fG,if_neg hg]
 by_cases oq:m+new.length≤qZ
 ·obtain ⟨c2,hc2,hl2,abv,hr2,hcell2⟩:=wY (Pg:=Pg) hD2 new.length (W4 _)
  rcases hb with ⟨rfl,rfl,rfl,rfl,rfl⟩ | ⟨g,l,rfl,hog,rfl,hbc,hm,rfl,abw⟩
  ·have hn0:new=[]:=We (by omega)
   subst hn0
   have hk:=h.kill g2
   have hmk:=Rel.Ir hk.1 d (by simpa [St.aA] using hd) (.ay (a||a2) (i||i2) ie.size ak [] none) (.inl ⟨rfl,rfl,rfl,fun _=>rfl⟩) (fun g hg=>by simp [O.names,bF] at hg)
   have hst:(st.aA [(g2,.none)] []).aA [(d,.ay (a||a2) (i||i2) ie.size ak [] none)] [d]=st.aA ((d,.ay (a||a2) (i||i2) ie.size ak ([]++[]) none)::kills ((none:Option Nat).toList++[g2])) [d]:=by
    refine St.zT rfl (fun z => ?_) (fun z=>by simp [St.aA])
    simp only [St.aA,lookup_cons,fG,Option.toList,K8,ZZ,List.lookup_nil]
    by_cases z1:z=d
    ·simp only [if_pos z1]
    ·simp only [if_neg z1]
   rw [hst] at hmk
   refine ⟨.slice none (0+0) 0,w,_,iZ h0 h1 hs hxt he hc2 (by simp) (fun a ha=>by cases ha) (fun _=>rfl),hmk.1,Lets.trans hk.2 hmk.2 (fun g hg=>by simpa [St.aA] using hg),by simp [dG,Gh.nil]⟩
  ·have hD:jg E st gh w a i ie.size ak l none (gh g):=by have:=h.aN g;rw [hog] at this;exact this
   have hgo:(st.o g).aX=true:=by rw [hog];rfl
   rcases hD with ⟨z1,z2,z3,z4⟩ | ⟨ad,c,e0,z1,z2,z3,z4,z5,z6,⟨z7,z7'⟩,z8⟩
   ·subst z3
    have hm0:m=0:=by simpa using hm
    subst hm0
    have hn0:new=[]:=We (by omega)
    subst hn0
    have hk:=h.kill g
    have hk2:=hk.1.kill g2
    have hmk:=Rel.Ir hk2.1 d (by simpa [St.aA] using hd) (.ay (a||a2) (i||i2) ie.size ak [] none) (.inl ⟨rfl,rfl,rfl,fun _=>rfl⟩) (fun g hg=>by simp [O.names,bF] at hg)
    have hst:((st.aA [(g,.none)] []).aA [(g2,.none)] []).aA [(d,.ay (a||a2) (i||i2) ie.size ak [] none)] [d]=st.aA ((d,.ay (a||a2) (i||i2) ie.size ak (([]:List (List P)).take 0++[]) none)::kills ((some g:Option Nat).toList++[g2])) [d]:=by
     refine St.zT rfl (fun z => ?_) (fun z=>by simp [St.aA])
     simp only [St.aA,lookup_cons,fG,Option.toList,J0,K8,QQ,List.not_mem_nil,or_false,List.lookup_nil]
     by_cases z1:z=d
     ·simp only [if_pos z1];rfl
     ·simp only [if_neg z1]
      by_cases z2:z=g2
      ·simp [z2]
      ·simp only [if_neg z2]
       by_cases z3:z=g
       ·simp [z3]
       ·simp [z2,z3]
    rw [hst] at hmk
    have Ze:qZ=0:=by omega
    subst Ze
    refine ⟨.slice none (0+0) 0,w,_,by rw [z1];exact iZ h0 h1 hs hxt he hc2 (by simp) (fun a ha=>by cases ha) (fun _=>rfl),hmk.1,Lets.trans (Lets.trans hk.2 hk2.2 (fun g hg=>by simpa [St.aA] using hg)) hmk.2 (fun g hg=>by simpa [St.aA] using hg),by simp [dG,Gh.nil]⟩
   ·have adh:m*ie.size+new.length*ie.size≤(gh g).cap*ie.size:=by rw [←Z3];exact XN _ (Jn oq hbc.2)
    have hbz:qZ*ie.size≤(gh g).cap*ie.size:=XN _ hbc.2
    obtain ⟨b0,o0,sp0⟩:=ad
    simp only at z2 z3 z4 z7 z8;subst z2
    obtain ⟨w',c',s1,s2,s3,s4,s5,s6,s7,s8⟩:=iU (Pg:=Pg) b0 (o0+m*ie.size) e0 c2 0 w c z3 abv (by omega)
    have tu:c'.size=c.size:=by
     have:=congrArg List.length s3
     rw [bZ (by simp;omega)] at this;simpa using this
    let G:Gh:=⟨some ⟨b0,o0,none⟩,qZ,sub⟩
    have hn2:¬ (gh g2).has b0:=fun hb=>abw (h.inj g g2 b0 hgo WO (Gh.iP z1) hb)
    have hget :∀q:Nat,c'[q]?=(aF c.toList (o0+m*ie.size) c2)[q]?:=fun q=>by rw [←Wz,s3,V2]
    have hga:=h.gather (fun g'=>g'∈(some g:Option Nat).toList++[g2]) hd (a||a2) (i||i2) ie.size ak (l.take m++new) G (st.aA ((d,.ay (a||a2) (i||i2) ie.size ak (l.take m++new) none)::kills ((some g:Option Nat).toList++[g2])) [d]) w' rfl (by simp [St.aA,lookup_cons])
     (abt _) (abu _) (fun g hg=>by simp [St.aA,hg]) (by simp [St.aA]) (ad:=⟨b0,o0,none⟩) (c:=c') (ty:=e0) rfl rfl s2 (by rw [tu];simp only [G];omega) ⟨by rw [hlen];exact oq,by simp only [G];have:=z5.2;omega⟩ (fun x hx=>by
      rcases Z1.1 hx with hx | hx
      ·exact z6 x (W5 hx)
      ·exact hr2 x hx) (by
      show sub b0=none
      cases hx:(gh g2).sub b0 with
      |some p=>exact (hn2 (.inr (by rw [hx];rfl))).elim
      |none=>simp only [sub,hx,uX];exact z7) (fun b hb=>by
      obtain ⟨g',q1,q2,q3⟩:=hsub b hb
      exact ⟨⟨g',q1,q2,.inr q3⟩,Uc g' q1 b q3⟩) (.inl ⟨g,by simp,hgo,Gh.iP z1⟩) (fun b _ hne=>s4 b hne) (by omega) s6 s7 s8
     (fun g' i1 hg' e1 hi=>by obtain ⟨_,_,a0,i0,l0,hq,hi0⟩:=hbS g' hg';rw [hq] at e1;cases e1;exact hi0 hi) (fun g' hg' _=>by obtain ⟨_,_,a0,i0,l0,hq,_⟩:=hbS g' hg';exact ⟨i0,by rw [hq];rfl⟩)
     (fun n x hx j y hy=>by
      rw [UT] at hx
      split at hx
      ·rename_i hn
       have hnm:n<m:=by simp at hn;omega
       rw [XX,if_pos hnm] at hx
       obtain ⟨v,hv,TQ⟩:=z8 n x hx j y hy
       have hj:j<ie.size:=by have:=(Q3.1 hy).1;have:=z6 x (QR hx);omega
       have:(n+1)*ie.size≤m*ie.size:=XN _ hnm
       rw [Z3,UP] at this
       exact ⟨v,by rw [hget,dn (by simp;omega),if_neg (by show ¬ (_∧_);simp only;omega)];simpa using hv,abr G rfl g rfl n j y v TQ⟩
      ·rename_i hn
       have hlm:(l.take m).length=m:=by simp;omega
       rw [hlm] at hx hn
       obtain ⟨u,hu,hur⟩:=hcell2 _ x (by have:=(Q3.1 hx).1;omega) hx j y hy
       have Nz:=(Q3.1 hu).1
       have hnm:n*ie.size=m*ie.size+(n-m)*ie.size:=by rw [←Z3];congr 1;omega
       refine ⟨u,?_,?_⟩
       ·have e1:o0+n*ie.size+j-(o0+m*ie.size)=(n-m)*ie.size+j:=by omega
        rw [hget,dn (by simp;omega),if_pos (by simp only;omega),e1];exact hu
       ·have:=abq G rfl (n-m) j y u hur
        have e2:n-m+m=n:=by omega
        rw [e2] at this;exact this)
    refine ⟨_,w',_,iZ h0 h1 hs hxt he hc2 oq (fun a ha => ?_) (fun hn=>by rw [z1] at hn;cases hn),hga.1,hga.2,by rw [hlen];simp [dG,G,z1]⟩
    rw [z1] at ha;cases ha
    rw [Addr.fJ]
    simpa using s1
 ·have hd1:=h.drew (w.drawn+1)
  have hl1:Lets E st st gh gh w { w with drawn:=w.drawn+1 }:=Rel.zQ _
  have adp:jg E st gh { w with drawn:=w.drawn+1 } a2 i2 ie.size ak new none (gh g2):=by have:=hd1.aN g2;rw [ho2] at this;exact this
  obtain ⟨c2,hc2,hl2,abv,hr2,hcell2⟩:=wY (Pg:=Pg) adp new.length (W4 _)
  have hbase :∃c1:List Value,(Builtin.firstCells ie.size m (.slice bad m qZ)).run Pg { w with drawn:=w.drawn+1 }=.ok c1.toArray { w with drawn:=w.drawn+1 }∧c1.length=m*ie.size∧(∀x∈old,x.length=ie.size)∧
    ∀(n:Nat) x,old[n]?=some x→∀(j:Nat) y,x[j]?=some y→∃u,c1[n*ie.size+j]?=some u∧∃g,base=some g∧fZ E st gh { w with drawn:=w.drawn+1 } a i (gh g) ak none n j y u:=by
   rcases hb with ⟨rfl,rfl,rfl,rfl,rfl⟩ | ⟨g,l,rfl,hog,rfl,hbc,hm,rfl,abw⟩
   ·exact ⟨[],by simp [Builtin.firstCells],by simp,by simp,by simp⟩
   ·have hD:jg E st gh { w with drawn:=w.drawn+1 } a i ie.size ak l none (gh g):=by have:=hd1.aN g;rw [hog] at this;exact this
    obtain ⟨c1,k1,k2,k3,k4,k5⟩:=wY (Pg:=Pg) hD m hm
    rw [tC _ _ _ _ _ qZ] at k1
    refine ⟨c1,k1,k2,fun x hx=>k4 x (W5 hx),fun n x hx j y hy => ?_⟩
    rw [XX] at hx
    split at hx
    ·rename_i hn
     obtain ⟨u,q1,q2⟩:=k5 n x hn hx j y hy
     exact ⟨u,q1,g,rfl,q2⟩
    ·cases hx
  obtain ⟨c1,hc1,TU,hr1,hcell1⟩:=hbase
  have hback:Lets E st st gh gh { w with drawn:=w.drawn+1 } w:=⟨fun a i b hb=>⟨hb,rfl⟩,fun g _=>.inr ⟨⟨rfl,rfl⟩,O.dI _⟩⟩
  obtain ⟨rest,newCap,k1,k2,k3⟩:=nM (ty:=ty) h0 h1 hs hxt he hc2 hc1 oq hbb hb0
  let G:Gh:=⟨some ⟨w.heap.size,0,none⟩,newCap,sub⟩
  have hga:=h.gather (fun g'=>g'∈base.toList++[g2]) hd (a||a2) (i||i2) ie.size ak (old++new) G (st.aA ((d,.ay (a||a2) (i||i2) ie.size ak (old++new) none)::kills (base.toList++[g2])) [d])
   { w with drawn:=w.drawn+1,heap:=w.heap.push (.cells (c1.toArray++c2.toArray++rest) e) } rfl (by simp [St.aA,lookup_cons])
   (abt _) (abu _) (fun g hg=>by simp [St.aA,hg]) (by simp [St.aA]) (ad:=⟨w.heap.size,0,none⟩) (c:=c1.toArray++c2.toArray++rest) (ty:=e) rfl rfl (by simp) (by
    simp only [Array.size_append,K2,TU,hl2,k2,G]
    rw [←Z3,←Z3,Wb];exact XN _ (by omega)) ⟨by rw [hlen];exact k1.1,k1.2⟩ (fun x hx=>by
    rcases Z1.1 hx with hx | hx
    ·exact hr1 x hx
    ·exact hr2 x hx) (by
    show sub w.heap.size=none
    cases hx:sub w.heap.size with
    |none=>rfl
    |some p=>
     obtain ⟨g',q1,q2,q3⟩:=hsub w.heap.size (by rw [hx];rfl)
     have:=(h.wr g' _ q2 (.inr q3)).2
     omega) (fun b hb=>by
    obtain ⟨g',q1,q2,q3⟩:=hsub b hb
    exact ⟨⟨g',q1,q2,.inr q3⟩,Uc g' q1 b q3⟩) (.inr ⟨W4 _,by simp⟩) (fun b hb _=>qN w _ b hb) (by simp) rfl rfl rfl
   (fun g' i1 hg' e1 hi=>by obtain ⟨_,_,a0,i0,l0,hq,hi0⟩:=hbS g' hg';rw [hq] at e1;cases e1;exact hi0 hi) (fun g' hg' _=>by obtain ⟨_,_,a0,i0,l0,hq,_⟩:=hbS g' hg';exact ⟨i0,by rw [hq];rfl⟩)
   (fun n x hx j y hy=>by
    rw [UT] at hx
    split at hx
    ·rename_i hn
     obtain ⟨u,q1,g,q2,q3⟩:=hcell1 n x hx j y hy
     have hlt:=(Q3.1 q1).1
     refine ⟨u,?_,abr G rfl g q2 n j y u (hback.O1 (fun _ _=>rfl) (fun g hg=>by cases hg) q3)⟩
     rw [Wb,UX (by simp;omega),UX (by simpa using hlt)]
     simpa using q1
    ·rename_i hn
     rw [hol] at hx hn
     obtain ⟨u,hu,hur⟩:=hcell2 _ x (by have:=(Q3.1 hx).1;omega) hx j y hy
     have Nz:=(Q3.1 hu).1
     have hnm:n*ie.size=m*ie.size+(n-m)*ie.size:=by rw [←Z3];congr 1;omega
     refine ⟨u,?_,?_⟩
     ·rw [Wb,UX (by simp;omega),Array.getElem?_append_right (by simp;omega)]
      simp only [K2,Up]
      have e1:n*ie.size+j-c1.length=(n-m)*ie.size+j:=by omega
      rw [e1];exact hu
     ·have:=abq G rfl (n-m) j y u (hback.O1 (fun _ _=>rfl) (fun g hg=>by cases hg) hur)
      have e2:n-m+m=n:=by omega
      rw [e2] at this;exact this)
  exact ⟨_,_,_,k3,hga.1,hga.2,by rw [hlen];simp [dG,G]⟩
theorem kD {o o':Nat→O} {g:Nat} (h:Agree o o' g):gJ o g=gJ o' g:=by
 obtain ⟨h1,h2⟩:=h
 unfold gJ
 rw [←h1]
 cases ho:o g with
 |ay a i sz ak l hole=>
  rcases hole with _ | ⟨n,c,d⟩
  ·rfl
  ·simp only
   rw [h2 d (by rw [ho];simp [O.hn,bF])]
 |_=>rfl
theorem tH (htt:fP Pg tt) (h:Rel E st gh val w) {o:Oper} {ρ:Operand→Value} {s x:Operand} {ts:Array TypeId} (ho:o.op=.call { callee:=.builtin .append,args:=#[s,x],argTypes:=ts }) {d g2:Nat} (hd:st.used d=false)
  {sT xT e e':TypeId} {ie:TI} (h0:ts[0]?=some sT) (h1:ts[1]?=some xT) (hs:Pg.underlying sT=some (.slice e)) (hxt:Pg.underlying xT=some (.slice e')) (he:mO Pg e ie) (hb0:ie.bytes≠0)
  {a i a2 i2:Bool} {sz:Nat} {ak:List (Nat×Nat)} {old new:List (List P)} {base:Option Nat} {bad:Option Addr} {qZ m:Nat} (hsz:sz=ie.size)
  {st1:St} {kC:Nat→Gh} (ks:List Nat) (h1':Rel E st1 kC val w) (l1:Lets E st st1 gh kC w w) (e1 :∀x,(kC x).ad=(gh x).ad∧(kC x).cap=(gh x).cap) (s1:st1.s=st.s) (u1 :∀x,st1.used x=st.used x)
  (hb:(base=none∧bad=none∧qZ=0∧m=0∧old=[]∧ks=[])∨∃g l,base=some g∧st1.o g=.ay a i sz ak l none∧bad=(gh g).ad∧(m≤qZ∧qZ≤(gh g).cap)∧m≤l.length∧old=l.take m∧ks=g::(st.o g).hn)
  (ok1 :∀x∈ks,(∀g,base=some g→x≠g)→st1.o x=.none) (Wx :∀x,x∉ks→st1.o x=st.o x) (hnd:(ks++g2::(st.o g2).hn).Nodup)
  (h2:gJ st.o g2=some (a2,i2,sz,ak,new)) (hvs:ρ s=.slice bad m qZ) (TY:ρ x=.slice (gh g2).ad new.length (gh g2).cap) (hbb:(m+new.length)*ie.bytes≤140737488355328) :
  ∃v w' aT,Does Pg (execOp ρ o) w v w'∧Rel E (st.aA ((d,.ay (a||a2) (i||i2) sz ak (old++new) none)::kills (ks++g2::(st.o g2).hn)) [d]) aT val w'∧
   Lets E st (st.aA ((d,.ay (a||a2) (i||i2) sz ak (old++new) none)::kills (ks++g2::(st.o g2).hn)) [d]) gh aT w w'∧
   bP E (st.aA ((d,.ay (a||a2) (i||i2) sz ak (old++new) none)::kills (ks++g2::(st.o g2).hn)) [d]) aT w' (.v (.one (.own d))) v∧
   ∀g∈(S.v (.one (.own d))).names,(st.aA ((d,.ay (a||a2) (i||i2) sz ak (old++new) none)::kills (ks++g2::(st.o g2).hn)) [d]).used g=true:=by
 have hdis :∀x∈ks,x∉g2::(st.o g2).hn:=fun x hx hx'=>by
  have:=(List.nodup_append.1 hnd).2.2 x hx x hx'
  exact this rfl
 have hag:Agree st.o st1.o g2:=⟨(Wx g2 fun hm=>hdis g2 hm (by simp)).symm,fun d' hd'=>(Wx d' fun hm=>hdis d' hm (by simp [hd'])).symm⟩
 have h2':gJ st1.o g2=some (a2,i2,sz,ak,new):=by rw [←kD hag];exact h2
 obtain ⟨st2,wB,r2,l2,e2,s2,u2,o2,ok2,oo2⟩:=h1'.home h2'
 rw [←hag.1] at ok2 oo2
 have hb2:(base=none∧bad=none∧qZ=0∧m=0∧old=[])∨∃g l,base=some g∧st2.o g=.ay a i sz ak l none∧bad=(wB g).ad∧(m≤qZ∧qZ≤(wB g).cap)∧m≤l.length∧old=l.take m∧g≠g2:=by
  rcases hb with ⟨q1,q2,q3,q4,q5,_⟩ | ⟨g,l,q1,q2,q3,q4,q5,q6,q7⟩
  ·exact .inl ⟨q1,q2,q3,q4,q5⟩
  ·have hgk:=hdis g (by rw [q7];simp)
   have hg2:g≠g2:=fun e=>hgk (by rw [e];simp)
   refine .inr ⟨g,l,q1,?_,by rw [(e2 g).1,(e1 g).1];exact q3,by rw [(e2 g).2,(e1 g).2];exact q4,q5,q6,hg2⟩
   rw [oo2 g hg2 fun hm=>hgk (by simp [hm])];exact q2
 obtain ⟨v,w',aT,k1,k2,k3,k4⟩:=KD (d:=d) (ty:=o.type) r2 (by rw [u2,u1];exact hd) hb2 o2 h0 h1 hs hxt he hsz hbb hb0
 have hst:st2.aA ((d,.ay (a||a2) (i||i2) sz ak (old++new) none)::kills (base.toList++[g2])) [d]=st.aA ((d,.ay (a||a2) (i||i2) sz ak (old++new) none)::kills (ks++g2::(st.o g2).hn)) [d]:=by
  refine St.zT (s2.trans s1) (fun z => ?_) (fun z=>by simp [St.aA,u2,u1])
  simp only [St.aA,lookup_cons,fG]
  by_cases z1:z=d
  ·simp only [if_pos z1]
  ·simp only [if_neg z1]
   by_cases z2:z∈base.toList++[g2]
   ·have:z∈ks++g2::(st.o g2).hn:=by
     rcases Z1.1 z2 with z2 | z2
     ·rcases hb with ⟨q1,_⟩ | ⟨g,l,q1,_,_,_,_,_,q7⟩
      ·rw [q1] at z2;simp at z2
      ·rw [q1] at z2;simp at z2;subst z2;rw [q7];simp
     ·simp at z2;subst z2;simp
    simp only [if_pos z2,if_pos this]
   ·by_cases z3:z∈ks++g2::(st.o g2).hn
    ·simp only [if_neg z2,if_pos z3]
     have hzg:z≠g2:=fun e=>z2 (by simp [e])
     by_cases z4:z∈(st.o g2).hn
     ·exact (ok2 z z4).1
     ·rw [oo2 z hzg z4]
      rcases Z1.1 z3 with z5 | z5
      ·exact ok1 z z5 fun g hg e=>z2 (by rw [hg,e];simp)
      ·rcases QQ.1 z5 with z5 | z5
       ·exact absurd z5 hzg
       ·exact absurd z5 z4
    ·simp only [if_neg z2,if_neg z3]
     simp only [Z1,QQ,not_or] at z3
     rw [oo2 z z3.2.1 z3.2.2,Wx z z3.1]
 rw [hst] at k2 k3
 have hod:(st.aA ((d,.ay (a||a2) (i||i2) sz ak (old++new) none)::kills (ks++g2::(st.o g2).hn)) [d]).o d=.ay (a||a2) (i||i2) sz ak (old++new) none:=by simp [St.aA,lookup_cons]
 refine ⟨v,w',aT,.inl (gX ho ?_),k2,Lets.trans (Lets.trans l1 l2 (fun g hg=>by rw [u1];exact hg)) k3 (fun g hg=>by rw [u2,u1];exact hg),bP.CS (.own d v (by rw [k4];rfl) fun sz1 len1 ho1 => ?_),fun g hg => ?_⟩
 ·rw [(e2 g2).1,(e1 g2).1,(e2 g2).2,(e1 g2).2] at k1
  simp [builtin,hvs,TY,k1]
 ·rw [hod] at ho1
  simp only [O.dim,Q0,Q1] at ho1
  obtain ⟨_,rfl⟩:=ho1;exact k4
 ·rw [bY] at hg
  simp only [W.names,ZZ] at hg
  subst hg;simp [St.aA]
theorem F5 {dc:List (Nat×Nat)} (htt:fP Pg tt) (args:Array Operand) (ts:Array TypeId):nN Pg tt dc (.call { callee:=.builtin .append,args:=args,argTypes:=ts }):=by
 intro E st gh val w ρ F o d r ho h hF hFn hk hp hd
 simp only [bV] at hk
 split at hk
 ·rename_i s x sT xT tl ha hts
  obtain rfl:=qO ha
  have h0:ts[0]?=some sT:=by rw [←Wz,hts];rfl
  have h1:ts[1]?=some xT:=by rw [←Wz,hts];rfl
  split at hk
  ·rename_i e _ _ _ e' _ _ _ s' g2 hsT hxT hs hx
   have rs:=hF s;rw [hs] at rs
   have rx:=hF x;rw [hx] at rx
   have Wv:=(htt _ _ hsT).kind
   have Wu:=(htt _ _ hxT).kind
   simp only [lu] at Wv Wu
   split at hk
   ·rename_i ie ask a i old ks src a2 i2 sz ak new he hbD hh2
    split at hk
    ·rename_i hc
     obtain ⟨hb0,hsz,hsrc,hnd⟩:=hc
     have hnd:=oC hnd
     simp only [Q0] at hk;subst hk
     obtain ⟨hask,hbb⟩:=hp
     have CV:st.used d=false:=hd d (by simp)
     have TY:ρ x=.slice (gh g2).ad new.length (gh g2).cap:=by cases rx.bU with | own _ _ _ hb=>exact hb _ _ (lD hh2)
     have refl:Lets E st st gh gh w w:=⟨fun a i b hb=>⟨hb,rfl⟩,fun g _=>.inr ⟨⟨rfl,rfl⟩,O.dI _⟩⟩
     cases s' with
     |bM=>
      simp only [baseD,Q0,Q1] at hbD
      obtain ⟨rfl,rfl,rfl,rfl,rfl,rfl⟩:=hbD
      have hv:ρ s=.slice none 0 0:=by generalize hz:ρ s=z at rs;cases rs.bU;rfl
      exact tH htt h ho CV h0 h1 Wv Wu (htt _ _ he) hb0 (base:=none) (bad:=none) (qZ:=0) (m:=0) hsz [] h refl (fun _=>⟨rfl,rfl⟩) rfl (fun _=>rfl) (.inl ⟨rfl,rfl,rfl,rfl,rfl,rfl⟩) (fun x hx=>by cases hx) (fun _ _=>rfl) hnd hh2 hv TY (by simpa using hbb)
     |own g=>
      simp only [baseD] at hbD
      split at hbD
      ·rename_i a0 i0 wZ jd l0 hh
       simp only [Q0,Q1] at hbD
       obtain ⟨rfl,rfl,rfl,rfl,rfl,rfl⟩:=hbD
       have hsc:wZ=sz∧jd=ak:=by rcases hsrc with e | e;cases e;simpa using e
       obtain ⟨rfl,rfl⟩:=hsc
       obtain ⟨st1,kC,r1,l1,e1,s1,u1,o1,ok1,Wx⟩:=h.home hh
       have hv:ρ s=.slice (gh g).ad l0.length (gh g).cap:=by cases rs.bU with | own _ _ _ hb=>exact hb _ _ (lD hh)
       exact tH htt h ho CV h0 h1 Wv Wu (htt _ _ he) hb0 (base:=some g) hsz (g::(st.o g).hn) r1 l1 e1 s1 u1 (.inr ⟨g,l0,rfl,o1,rfl,⟨(qP (h.aN g) (lD hh)).1,W4 _⟩,W4 _,by rw [KS],rfl⟩)
        (fun x hx hxg=>by
         rcases QQ.1 hx with e | e
         ·exact absurd e (hxg g rfl)
         ·exact (ok1 x e).1)
        (fun x hx=>by simp only [QQ,not_or] at hx;exact Wx x hx.1 hx.2) hnd hh2 hv TY hbb
      ·cases hbD
     |vw g lo hi=>
      simp only [baseD] at hbD
      split at hbD
      ·rename_i a0 i0 wZ jd l0 hh
       simp only [Q0,Q1] at hbD
       obtain ⟨rfl,rfl,rfl,rfl,rfl,rfl⟩:=hbD
       have hsc:wZ=sz∧jd=ak:=by rcases hsrc with e | e;cases e;simpa using e
       obtain ⟨rfl,rfl⟩:=hsc
       obtain ⟨st1,kC,r1,l1,e1,s1,u1,o1,ok1,Wx⟩:=h.home hh
       obtain ⟨n,m,vc,h4,rfl,h5,h6,hvc,hv⟩:=(by cases rs.bU with | vw _ _ _ _ _ hb=>exact hb _ _ (lD hh) :∃n m c:Nat,lo=.int .i64 n∧hi=.int .i64 m∧n≤m∧m≤l0.length∧(m-n≤c∧n+c≤(gh g).cap)∧
        ρ s=.slice (if (gh g).cap=n then (gh g).ad else (gh g).ad.map (·.add (n*wZ))) (m-n) c)
       have hn0:n=0:=by rw [hask] at h4;simp [jh] at h4;omega
       subst hn0
       have hadd:(gh g).ad.map (·.add (0*wZ))=(gh g).ad:=by
        cases (gh g).ad with
        |none=>rfl
        |some a=>simp [Addr.add]
       rw [hadd] at hv
       simp only [ite_self,Nat.sub_zero] at hv
       have em:(P.int .i64 (m:Int)).nat=m:=by simp [P.nat,P.num]
       rw [em] at hbb ⊢
       have adq:(m+new.length)*ie.bytes≤140737488355328:=by rw [Vi,Kh h6] at hbb;exact hbb
       exact tH htt h ho CV h0 h1 Wv Wu (htt _ _ he) hb0 (base:=some g) hsz (g::(st.o g).hn) r1 l1 e1 s1 u1 (.inr ⟨g,l0,rfl,o1,rfl,by omega,h6,rfl,rfl⟩)
        (fun x hx hxg=>by
         rcases QQ.1 hx with e | e
         ·exact absurd e (hxg g rfl)
         ·exact (ok1 x e).1)
        (fun x hx=>by simp only [QQ,not_or] at hx;exact Wx x hx.1 hx.2) hnd hh2 hv TY adq
      ·cases hbD
     |_=>simp [baseD] at hbD
    ·cases hk
   ·cases hk
  ·cases hk
 ·cases hk
theorem IV {dc:List (Nat×Nat)} (htt:fP Pg tt) (t:TypeId) (x:Operand) (lo hi mx:Option Operand):nN Pg tt dc (.slice t x lo hi mx):=by
 intro E st gh val w ρ F o d r ho h hF hFn hk hp hd
 cases lo with
 |some _=>simp [bV] at hk
 |none=>
 cases mx with
 |some _=>simp [bV] at hk
 |none=>
 simp only [bV] at hk
 split at hk
 ·rename_i e _ _ _ g ht hx
  have rx:=hF x;rw [hx] at rx
  have hu:=(htt _ _ ht).kind
  simp only [lu] at hu
  split at hk
  ·rename_i ie a i sz l he hog
   split at hk
   ·rename_i hsz
    split at hk
    ·rename_i hi' hhi
     simp only [Q0] at hk;subst hk
     obtain ⟨k,hk,hkl⟩:=hp
     have hd:=hd d (by simp)
     have FY:(st.o g).dim=some (sz,l.length):=by rw [hog];rfl
     have hv:=(by cases rx.bU with | own _ _ _ hb=>exact hb _ _ FY:ρ x=.slice (gh g).ad l.length (gh g).cap)
     have hob:=h.aN g
     rw [hog] at hob
     have hcap:l.length≤(gh g).cap:=Iy hob
     have qQ:(hi.map ρ=none∧k=l.length)∨∃kd,hi.map ρ=some (.int kd k):=(fE hF hhi hk).imp (fun ⟨a,b⟩=>⟨a,by simp [jh] at b;omega⟩) id
     have hrun:(execOp ρ o).run Pg w=.ok (.value (.slice (gh g).ad k (gh g).cap)) w:=by
      have hs:=lC (Pg:=Pg) (w:=w) (len:=l.length) (lo:=(none:Option Value)) (hi:=hi.map ρ) (m:=0) (k:=k) (cap:=(gh g).cap) (.inl ⟨rfl,rfl⟩) qQ (KK _) (by omega)
      have key:(execOp ρ o).run Pg w=.ok (.value (.slice (if (gh g).cap=0 then (gh g).ad else (gh g).ad.map (·.add (0*ie.size))) (k-0) ((gh g).cap-0))) w:=by
       unfold execOp
       rw [ho]
       refine eH ?_
       simp only [Jx]
       simp [Instr.sliceAt,dh hu,Instr.slice,hv,hs,cO (htt _ _ he)]
      rw [key]
      congr 3
      rcases hob with ⟨q1,q2,_⟩ | ⟨ad,c,e',q1,q2,_⟩
      ·rw [q1,q2];rfl
      ·rw [q1]
       obtain ⟨b0,o0,sp0⟩:=ad
       simp only at q2;subst q2
       split
       ·rfl
       ·rw [YY,Addr.fJ];simp
     have hgo:(st.o g).aX=true:=by rw [hog];rfl
     have hgu:st.used g=true:=h.ul g (O.lV hgo)
     have hgd:g≠d:=by intro e;subst e;rw [hd] at hgu;cases hgu
     have e0:(P.list (P.sl sz (l.take hi'.nat)))=l.take k:=by rw [hk];simp [P.list,P.nat,P.num]
     have KE :∀st',st'=st.aA [(d,.arr false a i sz (l.take k)),(g,.none)] [d]→
       ∃aT,Rel E st' aT val w∧Lets E st st' gh aT w w∧bP E st' aT w (.v (.one (.own d))) (.slice (gh g).ad k (gh g).cap):=by
      intro st' hst
      have hod:st'.o d=.arr false a i sz (l.take k):=by rw [hst];simp [St.aA,List.lookup]
      have hm:=h.merge (fun g'=>g'=g) d (.arr false a i sz (l.take k)) (gh g) st' w (by rw [hst];rfl) hod (fun g' e1 e2=>by
        rw [hst,e1]
        have:(g==d)=false:=by simpa using hgd
        simp [St.aA,List.lookup,this]) (fun g' e1 e2=>by
        rw [hst]
        have q1:(g'==d)=false:=by simpa using e2
        have q2:(g'==g)=false:=by simpa using e1
        simp [St.aA,List.lookup,q1,q2]) (fun g' hg'=>by rw [hst];simp [St.aA,hg']) (by rw [hst];simp [St.aA]) (fun hu=>by rw [hd] at hu;cases hu)
       (fun b hb=>.inl ⟨g,.inl rfl,hgo,hb⟩) (fun b _ _=>rfl) (W4 _) rfl rfl rfl
       (fun i1 b e1 hb hwr=>by cases e1;exact h.wi g i b (by rw [hog];rfl) hb hwr) (fun _ _=>h.ns g hgo (by rw [hog];rfl)) (fun hl => ?_) (fun g' hg'=>by simp [O.names] at hg')
      ·refine ⟨_,hm.1,hm.2,bP.CS (.own d _ rfl fun sz' len' hd' => ?_)⟩
       rw [hod] at hd'
       obtain ⟨rfl,rfl⟩:=O.iM hd'
       have e1:dG gh d (gh g) d=gh g:=by simp [dG]
       rw [e1,Vi,Kh hkl]
      ·show gy E st' _ w a i sz (l.take k) (gh g)
       have hold:gy E st gh w a i sz l (gh g):=hob
       rcases hold with ⟨q1,q2,q3⟩ | ⟨ad,c,e',q1,q2,q3,q4,q5,q6,q7⟩
       ·exact .inl ⟨q1,q2,by rw [q3];simp⟩
       ·refine .inr ⟨ad,c,e',q1,q2,q3,q4,⟨by rw [Vi];omega,q5.2⟩,fun x hx=>q6 x (W5 hx),fun n x hx j y hy => ?_⟩
        rw [XX] at hx
        split at hx
        ·obtain ⟨v,hv,hr⟩:=q7 n x hx j y hy
         exact ⟨v,hv,hl.jc hr⟩
        ·cases hx
     show∃v w' aT,Does Pg (execOp ρ o) w v w'∧Rel E (st.aA [(d,.arr false a i sz (P.list (P.sl sz (l.take hi'.nat)))),(g,.none)] [d]) aT val w'∧_
     rw [e0]
     obtain ⟨aT,m1,m2,m3⟩:=KE _ rfl
     refine ⟨_,w,aT,.inl hrun,m1,?_,?_,fun g' hg' => ?_⟩
     ·show Lets E st (st.aA [(d,.arr false a i sz (P.list (P.sl sz (l.take hi'.nat)))),(g,.none)] [d]) gh aT w w
      rw [e0];exact m2
     ·show bP E (st.aA [(d,.arr false a i sz (P.list (P.sl sz (l.take hi'.nat)))),(g,.none)] [d]) aT w _ _
      rw [e0];exact m3
     ·have hg':g'∈(S.v (.one (.own d))).names:=hg'
      have:g'=d:=by simpa [S.names,V.names,W.names] using hg'
      subst this
      simp [St.aA]
    ·cases hk
   ·cases hk
  ·rename_i ie a i sz ak l he hog
   split at hk
   ·rename_i hsz
    split at hk
    ·rename_i hi' hhi
     simp only [Q0] at hk;subst hk
     obtain ⟨k,hk,hkl⟩:=hp
     have hd:=hd d (by simp)
     have FY:(st.o g).dim=some (sz,l.length):=by rw [hog];rfl
     have hv:=(by cases rx.bU with | own _ _ _ hb=>exact hb _ _ FY:ρ x=.slice (gh g).ad l.length (gh g).cap)
     have hob:=h.aN g
     rw [hog] at hob
     have hob:jg E st gh w a i sz ak l none (gh g):=hob
     have hcap:l.length≤(gh g).cap:=by
      rcases hob with ⟨_,_,q3,_⟩ | ⟨_,_,_,_,_,_,_,q5,_⟩
      ·rw [q3];exact KK _
      ·exact q5.1
     have qQ:(hi.map ρ=none∧k=l.length)∨∃kd,hi.map ρ=some (.int kd k):=(fE hF hhi hk).imp (fun ⟨a,b⟩=>⟨a,by simp [jh] at b;omega⟩) id
     have hrun:(execOp ρ o).run Pg w=.ok (.value (.slice (gh g).ad k (gh g).cap)) w:=by
      have hs:=lC (Pg:=Pg) (w:=w) (len:=l.length) (lo:=(none:Option Value)) (hi:=hi.map ρ) (m:=0) (k:=k) (cap:=(gh g).cap) (.inl ⟨rfl,rfl⟩) qQ (KK _) (by omega)
      have key:(execOp ρ o).run Pg w=.ok (.value (.slice (if (gh g).cap=0 then (gh g).ad else (gh g).ad.map (·.add (0*ie.size))) (k-0) ((gh g).cap-0))) w:=by
       unfold execOp
       rw [ho]
       refine eH ?_
       simp only [Jx]
       simp [Instr.sliceAt,dh hu,Instr.slice,hv,hs,cO (htt _ _ he)]
      rw [key]
      congr 3
      rcases hob with ⟨q1,q2,_⟩ | ⟨ad,c,e',q1,q2,_⟩
      ·rw [q1,q2];rfl
      ·rw [q1]
       obtain ⟨b0,o0,sp0⟩:=ad
       simp only at q2;subst q2
       split
       ·rfl
       ·rw [YY,Addr.fJ];simp
     have hgo:(st.o g).aX=true:=by rw [hog];rfl
     have hgu:st.used g=true:=h.ul g (O.lV hgo)
     have hgd:g≠d:=by intro e;subst e;rw [hd] at hgu;cases hgu
     have e0:(P.list (P.sl sz (l.take hi'.nat)))=l.take k:=by rw [hk];simp [P.list,P.nat,P.num]
     have KE :∀st',st'=st.aA [(d,.ay a i sz ak (l.take k) none),(g,.none)] [d]→
       ∃aT,Rel E st' aT val w∧Lets E st st' gh aT w w∧bP E st' aT w (.v (.one (.own d))) (.slice (gh g).ad k (gh g).cap):=by
      intro st' hst
      have hod:st'.o d=.ay a i sz ak (l.take k) none:=by rw [hst];simp [St.aA,List.lookup]
      have hm:=h.merge (fun g'=>g'=g) d (.ay a i sz ak (l.take k) none) (gh g) st' w (by rw [hst];rfl) hod (fun g' e1 e2=>by
        rw [hst,e1]
        have:(g==d)=false:=by simpa using hgd
        simp [St.aA,List.lookup,this]) (fun g' e1 e2=>by
        rw [hst]
        have q1:(g'==d)=false:=by simpa using e2
        have q2:(g'==g)=false:=by simpa using e1
        simp [St.aA,List.lookup,q1,q2]) (fun g' hg'=>by rw [hst];simp [St.aA,hg']) (by rw [hst];simp [St.aA]) (fun hu=>by rw [hd] at hu;cases hu)
       (fun b hb=>.inl ⟨g,.inl rfl,hgo,hb⟩) (fun b _ _=>rfl) (W4 _) rfl rfl rfl
       (fun i1 b e1 hb hwr=>by cases e1;exact h.wi g i b (by rw [hog];rfl) hb hwr) (fun _ hd=>by cases hd) (fun hl => ?_) (fun g' hg'=>by simp [O.names,bF] at hg')
      ·refine ⟨_,hm.1,hm.2,bP.CS (.own d _ rfl fun sz' len' hd' => ?_)⟩
       rw [hod] at hd'
       have hd':some (sz,(l.take k).length)=some (sz',len'):=hd'
       simp only [Q0,Q1] at hd'
       obtain ⟨rfl,rfl⟩:=hd'
       have e1:dG gh d (gh g) d=gh g:=by simp [dG]
       rw [e1,Vi,Kh hkl]
      ·show jg E st' _ w a i sz ak (l.take k) none (gh g)
       rcases hob with ⟨q1,q2,q3,q4⟩ | ⟨ad,c,e',q1,q2,q3,q4,q5,q6,q7,q8⟩
       ·exact .inl ⟨q1,q2,by rw [q3];simp,q4⟩
       ·refine .inr ⟨ad,c,e',q1,q2,q3,q4,⟨by rw [Vi];omega,q5.2⟩,fun x hx=>q6 x (W5 hx),q7,fun n x hx j y hy => ?_⟩
        rw [XX] at hx
        split at hx
        ·obtain ⟨v,hv,hr⟩:=q8 n x hx j y hy
         exact ⟨v,hv,hl.O1 (fun b hb=>rfl) (fun g hg=>by simp [bF] at hg) hr⟩
        ·cases hx
     show∃v w' aT,Does Pg (execOp ρ o) w v w'∧Rel E (st.aA [(d,.ay a i sz ak (P.list (P.sl sz (l.take hi'.nat))) none),(g,.none)] [d]) aT val w'∧_
     rw [e0]
     obtain ⟨aT,m1,m2,m3⟩:=KE _ rfl
     refine ⟨_,w,aT,.inl hrun,m1,?_,?_,fun g' hg' => ?_⟩
     ·show Lets E st (st.aA [(d,.ay a i sz ak (P.list (P.sl sz (l.take hi'.nat))) none),(g,.none)] [d]) gh aT w w
      rw [e0];exact m2
     ·show bP E (st.aA [(d,.ay a i sz ak (P.list (P.sl sz (l.take hi'.nat))) none),(g,.none)] [d]) aT w _ _
      rw [e0];exact m3
     ·have hg':g'∈(S.v (.one (.own d))).names:=hg'
      have:g'=d:=by simpa [S.names,V.names,W.names] using hg'
      subst this
      simp [St.aA]
    ·cases hk
   ·cases hk
  ·cases hk
 ·cases hk
theorem F6 {dc:List (Nat×Nat)} (htt:fP Pg tt) (op:Op):nN Pg tt dc op:=by
 cases op with
 |load t x=>exact KC htt t x
 |store t x y=>exact IU htt t x y
 |buildSlice t n ps=>exact yK htt t n ps
 |makeSlice t n c=>exact zU htt t n c
 |slice t x lo hi mx=>exact IV htt t x lo hi mx
 |call c=>
  obtain ⟨callee,args,ts⟩:=c
  cases callee with
  |builtin b=>
   cases b with
   |append=>exact F5 htt args ts
   |_=>intro E st gh val w ρ F o d r ho h hF hFn hk;simp [bV] at hk
  |_=>intro E st gh val w ρ F o d r ho h hF hFn hk;simp [bV] at hk
 |_=>intro E st gh val w ρ F o d r ho h hF hFn hk;simp [bV] at hk
end
end Go.Fw

namespace Go.Fw
variable [dB]
def P.flat:P→Bool
 |.sl _ _=>false
 |.seq _=>false
 |_=>true
theorem bD.flat {w:World} {ok ok':Nat→Prop} {x:P} {v:Value} (hx:x.flat=true) (r:bD w ok x v):bD w ok' x v:=by
 cases r with
 |int k n=>exact .int k n
 |bool b=>exact .bool b
 |str s=>exact .str s
 |opq v h=>exact .opq v h
 |_=>cases hx
inductive Ww (C:Bool→Bool→Bool→Bool→Prop) (m:Nat→Option Nat) (nil:Nat→Prop):W→W→Prop where
 |no (x:W):Ww C m nil x .no
 |p {a i a' i':Bool} (x:P) (hc:C a i a' i'):Ww C m nil (.p a i x) (.p a' i' x)
 |flat {a i a' i':Bool} (x:P) (hx:x.flat=true):Ww C m nil (.p a i x) (.p a' i' x)
 |bM:Ww C m nil .bM .bM
 |Zg (a i:Bool) (sz:Nat):Ww C m nil .bM (.p a i (.sl sz []))
 |abx {g':Nat} (h:m g'=none) (hn:nil g'):Ww C m nil .bM (.own g')
 |own {g g':Nat} (h:m g'=some g):Ww C m nil (.own g) (.own g')
 |vw {g g':Nat} (lo hi:P) (h:m g'=some g):Ww C m nil (.vw g lo hi) (.vw g' lo hi)
 |box {g g' off:Nat} (h:m g'=some g):Ww C m nil (.box g off) (.box g' off)
 |ep {g g':Nat} (n:P) (off:Nat) (h:m g'=some g):Ww C m nil (.ep g n off) (.ep g' n off)
 |kH {g g':Nat} (h:m g'=some g):Ww C m nil (.kH g) (.kH g')
 |sp {a i a' i':Bool} (row:List P) (off:Nat) (hc:C a i a' i'):Ww C m nil (.sp a i row off) (.sp a' i' row off)
 |gd (b:Bool) {x y:W} (h:Ww C m nil x y):Ww C m nil (.gd b x) (.gd b y)
 |clo (f:FuncId) (xs ys:List W) (hl:xs.length=ys.length) (h :∀(j:Nat) x y,xs[j]?=some x→ys[j]?=some y→Ww C m nil x y):Ww C m nil (.clo f xs) (.clo f ys)
inductive Vw (C:Bool→Bool→Bool→Bool→Prop) (m:Nat→Option Nat) (nil:Nat→Prop):V→V→Prop where
 |one {x y:W} (h:Ww C m nil x y):Vw C m nil (.one x) (.one y)
 |agg (xs ys:List W) (hl:xs.length=ys.length) (h :∀(j:Nat) x y,xs[j]?=some x→ys[j]?=some y→Ww C m nil x y):Vw C m nil (.agg xs) (.agg ys)
inductive Sw (C:Bool→Bool→Bool→Bool→Prop) (m:Nat→Option Nat) (nil:Nat→Prop):S→S→Prop where
 |no (x:S):Sw C m nil x .no
 |v {x y:V} (h:Vw C m nil x y):Sw C m nil (.v x) (.v y)
 |jK (xs ys:List V) (hl:xs.length=ys.length) (h :∀(j:Nat) x y,xs[j]?=some x→ys[j]?=some y→Vw C m nil x y):Sw C m nil (.jK xs) (.jK ys)
inductive Ow (C:Bool→Bool→Bool→Bool→Prop) (m:Nat→Option Nat) (nil:Nat→Prop):O→O→Prop where
 |none (x:O):Ow C m nil x .none
 |box (xs ys:List W) (hl:xs.length=ys.length) (h :∀(j:Nat) x y,xs[j]?=some x→ys[j]?=some y→Ww C m nil x y):Ow C m nil (.box xs) (.box ys)
 |arr (fz:Bool) {a i a' i':Bool} (sz:Nat) (l:List (List P)) (hc:C a i a' i'):Ow C m nil (.arr fz a i sz l) (.arr fz a' i' sz l)
 |ay {a i a' i':Bool} (sz:Nat) (ak:List (Nat×Nat)) (l:List (List P)) (hc:C a i a' i'):Ow C m nil (.ay a i sz ak l Option.none) (.ay a' i' sz ak l Option.none)
 |it (s n:P):Ow C m nil (.it s n) (.it s n)
def O.nilA (o:O):Prop:=(∃a i sz,o=.arr false a i sz [])∨∃a i sz ak,o=.ay a i sz ak [] Option.none
theorem Ow.dim {C:Bool→Bool→Bool→Bool→Prop} {m:Nat→Option Nat} {nil:Nat→Prop} {x y:O} (h:Ow C m nil x y) {d:Nat×Nat} (hd:y.dim=some d):x.dim=some d:=by
 cases h with
 |none=>cases hd
 |box=>cases hd
 |arr=>exact hd
 |ay=>exact hd
 |it=>cases hd
theorem Ow.aX {C:Bool→Bool→Bool→Bool→Prop} {m:Nat→Option Nat} {nil:Nat→Prop} {x y:O} (h:Ow C m nil x y) (hy:y.aX=true):x.aX=true∧x.lg=y.lg:=by
 cases h with
 |none=>cases hy
 |box=>exact ⟨rfl,rfl⟩
 |arr=>exact ⟨hy,rfl⟩
 |ay=>exact ⟨rfl,rfl⟩
 |it=>exact ⟨rfl,rfl⟩
theorem Ow.inner {C:Bool→Bool→Bool→Bool→Prop} {m:Nat→Option Nat} {nil:Nat→Prop} {x y:O} (h:Ow C m nil x y) {i:Bool} (hy:y.inner=some i) :∃a' a i',C a' i' a i∧x.inner=some i':=by
 cases h with
 |none=>cases hy
 |box=>cases hy
 |arr fz sz l hc=>
  cases fz with
  |false=>cases hy;exact ⟨_,_,_,hc,rfl⟩
  |true=>cases hy
 |ay sz ak l hc=>cases hy;exact ⟨_,_,_,hc,rfl⟩
 |it=>cases hy
structure Cast (C:Bool→Bool→Bool→Bool→Prop) (m:Nat→Option Nat) (nil:Nat→Prop) (E E':Env) (st st':St) (gh aT:Nat→Gh) (w:World):Prop where
 ok :∀a i a' i' b,C a i a' i'→E.ok st gh w a i b→E'.ok st' aT w a' i' b
 arr :∀g g',m g'=some g→∀sz len,(st'.o g').dim=some (sz,len)→((aT g').ad=(gh g).ad∧(aT g').cap=(gh g).cap)∧(st.o g).dim=some (sz,len)
 box :∀g g',m g'=some g→∀ws,st'.o g'=.box ws→(aT g').ad=(gh g).ad∧∃ws',st.o g=.box ws'
 it :∀g g',m g'=some g→∀s n,st'.o g'=.it s n→(aT g').ad=(gh g).ad∧∃s' n',st.o g=.it s' n'
 nil :∀g',nil g'→m g'=none→∀sz len,(st'.o g').dim=some (sz,len)→len=0∧(aT g').ad=none∧(aT g').cap=0
section
variable {C:Bool→Bool→Bool→Bool→Prop} {E E':Env} {st st':St} {gh aT:Nat→Gh} {w:World} {val:Nat→Value} {m:Nat→Option Nat} {nil:Nat→Prop}
theorem Cast.jc (r:Cast C m nil E E' st st' gh aT w) {a i a' i':Bool} (hc:C a i a' i') {x:P} {v:Value} (h:bD w (E.ok st gh w a i) x v):bD w (E'.ok st' aT w a' i') x v:=
 h.mono fun b hb=>⟨r.ok _ _ _ _ b hc hb,rfl⟩
theorem Cast.wR (r:Cast C m nil E E' st st' gh aT w) {x y:W} (hxy:Ww C m nil x y) {v:Value} (h:dH E st gh w x v):dH E' st' aT w y v:=by
 induction hxy generalizing v with
 |no x=>exact .no v
 |p x hc=>cases h with | p _ _ _ _ h=>exact .p _ _ _ _ (r.jc hc h)
 |flat x hx=>cases h with | p _ _ _ _ h=>exact .p _ _ _ _ (h.flat hx)
 |bM=>cases h;exact .bM
 |Zg a i sz=>cases h;exact .p _ _ _ _ (.nil _ _ _)
 |abx hm hn=>
  cases h
  refine .own _ _ rfl fun sz len ho => ?_
  obtain ⟨h1,h2,h3⟩:=r.nil _ hn hm _ _ ho
  rw [h1,h2,h3]
 |own hm=>
  cases h with | own _ _ hv hx=>
  refine .own _ _ hv fun sz len ho => ?_
  obtain ⟨hg,e⟩:=r.arr _ _ hm _ _ ho
  rw [hg.1,hg.2];exact hx _ _ e
 |vw lo hi hm=>
  cases h with | vw _ _ _ _ hv hx=>
  refine .vw _ _ _ _ hv fun sz len ho => ?_
  obtain ⟨hg,e⟩:=r.arr _ _ hm _ _ ho
  rw [hg.1,hg.2];exact hx _ _ e
 |box hm=>
  cases h with | box _ _ _ hv hx=>
  refine .box _ _ _ hv fun ws ho => ?_
  obtain ⟨hg,ws',e⟩:=r.box _ _ hm _ ho
  rw [hg];exact hx _ e
 |ep n off hm=>
  cases h with | ep _ _ _ _ hv hx=>
  refine .ep _ _ _ _ hv fun sz len ho => ?_
  obtain ⟨hg,e⟩:=r.arr _ _ hm _ _ ho
  rw [hg.1];exact hx _ _ e
 |kH hm=>
  cases h with | kH _ _ hv hx=>
  refine .kH _ _ hv fun s n ho => ?_
  obtain ⟨hg,s',n',e⟩:=r.it _ _ hm _ _ ho
  rw [hg];exact hx _ _ e
 |sp row off hc=>
  cases h with | sp _ _ _ _ b o hb hr=>exact .sp _ _ _ _ b o (fun h0=>r.ok _ _ _ _ b hc (hb h0)) fun j y hj=>let ⟨u,hu,Kw⟩:=hr j y hj;⟨u,hu,r.jc hc Kw⟩
 |gd b hxy ih=>cases h with | gd _ _ _ h=>exact .gd _ _ _ fun hb=>ih (h hb)
 |clo f xs ys hl hxy ih=>
  cases h with | clo _ _ vs hl' h=>
  exact .clo f ys vs (by omega) fun j y v hy hv=>by
   have hlt:j<xs.length:=by have:=(Q3.1 hy).1;omega
   exact ih j _ y (Q2 hlt) hy (h j _ v (Q2 hlt) hv)
theorem Cast.QL (r:Cast C m nil E E' st st' gh aT w) {x y:V} (hxy:Vw C m nil x y) {v:Value} (h:nY E st gh w x v):nY E' st' aT w y v:=by
 cases hxy with
 |one hxy=>cases h with | one _ _ h=>exact .one _ _ (r.wR hxy h)
 |agg xs ys hl hxy=>
  cases h with | agg _ cs hl' hv h=>
  exact .agg ys cs (by omega) hv fun j y v hy hv=>by
   have hlt:j<xs.length:=by have:=(Q3.1 hy).1;omega
   exact r.wR (hxy j _ y (Q2 hlt) hy) (h j _ v (Q2 hlt) hv)
theorem Cast.WE (r:Cast C m nil E E' st st' gh aT w) {x y:S} (hxy:Sw C m nil x y) {v:Value} (h:bP E st gh w x v):bP E' st' aT w y v:=by
 cases hxy with
 |no x=>exact .no v
 |v hxy=>cases h with | v _ _ h=>exact .v _ _ (r.QL hxy h)
 |jK xs ys hl hxy=>
  cases h with | jK _ vs hl' h=>
  exact .jK ys vs (by omega) fun j y v hy hv=>by
   have hlt:j<xs.length:=by have:=(Q3.1 hy).1;omega
   exact r.QL (hxy j _ y (Q2 hlt) hy) (h j _ v (Q2 hlt) hv)
theorem Cast.yx (r:Cast C m nil E E' st st' gh aT w) {x y:O} (hxy:Ow C m nil x y) {G:Gh} (h:jX E st gh w x G):jX E' st' aT w y G:=by
 cases hxy with
 |none x=>trivial
 |box xs ys hl hxy=>
  obtain ⟨ad,c,e,h1,h2,h3,h4,h5⟩:=h
  refine ⟨ad,c,e,h1,h2,h3,by omega,fun j y hy => ?_⟩
  have hlt:j<xs.length:=by have:=(Q3.1 hy).1;omega
  obtain ⟨v,hv,ho,hr⟩:=h5 j _ (Q2 hlt)
  exact ⟨v,hv,ho,r.wR (hxy j _ y (Q2 hlt) hy) hr⟩
 |arr fz sz l hc=>
  cases fz with
  |false=>
   rcases h with hO | ⟨ad,c,e,h1,h2,h3,h4,h5,h6,h7⟩
   ·exact .inl hO
   ·exact .inr ⟨ad,c,e,h1,h2,h3,h4,h5,h6,fun n x hx j y hy=>let ⟨v,hv,hr⟩:=h7 n x hx j y hy;⟨v,hv,r.jc hc hr⟩⟩
  |true=>exact r.jc hc h
 |ay sz ak l hc=>
  rcases h with hO | ⟨ad,c,e,h1,h2,h3,h4,h5,h6,h7,h8⟩
  ·exact .inl hO
  ·refine .inr ⟨ad,c,e,h1,h2,h3,h4,h5,h6,h7,fun n x hx j y hy => ?_⟩
   obtain ⟨v,hv,hr⟩:=h8 n x hx j y hy
   refine ⟨v,hv,?_⟩
   unfold fZ at *
   cases hcl:ak.lookup j with
   |none=>rw [hcl] at hr;exact r.jc hc hr
   |some sz'=>
    rw [hcl] at hr
    simp only [eY] at *
    obtain ⟨l',ao,k,k1,k2,k3,k4⟩:=hr
    refine ⟨l',ao,k,k1,k2,?_,k4⟩
    rcases k3 with k3 | ⟨ad,c,e,h1,h2,h3,h4,h5,h6,h7⟩
    ·exact .inl k3
    ·exact .inr ⟨ad,c,e,h1,h2,h3,h4,h5,h6,fun n x hx j y hy=>let ⟨v,hv,hr⟩:=h7 n x hx j y hy;⟨v,hv,r.jc hc hr⟩⟩
 |it s n=>exact h
end
def Tq (a i a' i':Bool):Prop:=(a=true→a'=true)∧(i=true→i'=true)
structure pq (C:Bool→Bool→Bool→Bool→Prop) (m:Nat→Option Nat) (st st':St):Prop where
 slots :∀t,Sw C m (fun g=>(st'.o g).nilA) (st.s t) (st'.s t)
 aN :∀g' g,m g'=some g→Ow C m (fun g=>(st'.o g).nilA) (st.o g) (st'.o g')
 aU :∀g',m g'=none→st'.o g'=.none∨(st'.o g').nilA
 inj :∀g1 g2 g,(st'.o g1).aX=true→(st'.o g2).aX=true→m g1=some g→m g2=some g→g1=g2
 us :∀t,∀g∈(st'.s t).names,st'.used g=true
 uo :∀g,∀g'∈(st'.o g).names,st'.used g'=true
 ul :∀g,st'.o g≠.none→st'.used g=true
section
variable {C:Bool→Bool→Bool→Bool→Prop} {E E':Env} {st st':St} {gh:Nat→Gh} {w:World} {val:Nat→Value} {m:Nat→Option Nat}
def iI (gh:Nat→Gh) (m:Nat→Option Nat):Nat→Gh:=fun g'=>match m g' with
 |some g=>gh g
 |none=>Gh.nil
theorem pq.aX (r:pq C m st st') {g':Nat} (h:(st'.o g').aX=true) {b:Nat} (had:(iI gh m g').has b) :∃g,m g'=some g∧(st.o g).aX=true∧(gh g).has b:=by
 unfold iI at had
 cases hm:m g' with
 |none=>rw [hm] at had;exact (Gh.not_nil had).elim
 |some g=>
  rw [hm] at had
  exact ⟨g,rfl,((r.aN g' g hm).aX h).1,had⟩
theorem pq.cast (r:pq C m st st') (hok :∀a i a' i' b,C a i a' i'→E.ok st gh w a i b→E'.ok st' (iI gh m) w a' i' b) :
  Cast C m (fun g=>(st'.o g).nilA) E E' st st' gh (iI gh m) w:=by
 refine ⟨hok,fun g g' hm sz len ho=>⟨by simp [iI,hm],(r.aN g' g hm).dim ho⟩,fun g g' hm ws ho=>⟨by simp [iI,hm],?_⟩,fun g g' hm s n ho=>⟨by simp [iI,hm],?_⟩,fun g' hn hm sz len ho=>⟨?_,by simp [iI,hm,Gh.nil],by simp [iI,hm,Gh.nil]⟩⟩
 ·have:=r.aN g' g hm
  rw [ho] at this
  generalize st.o g=x at this
  cases this;exact ⟨_,rfl⟩
 ·have:=r.aN g' g hm
  rw [ho] at this
  generalize st.o g=x at this
  cases this;exact ⟨_,_,rfl⟩
 ·rcases hn with ⟨a',i',sz',hn⟩ | ⟨a',i',sz',ak,hn⟩
  ·rw [hn] at ho;cases ho;rfl
  ·rw [hn] at ho;cases ho;rfl
theorem pq.ok (r:pq Tq m st st') :∀a i a' i' b,Tq a i a' i'→E.ok st gh w a i b→E.ok st' (iI gh m) w a' i' b:=by
 intro a i a' i' b hc h
 have:=Env.lW hc.1 hc.2 h
 refine ⟨this.1,this.2.1,fun g' ho had => ?_⟩
 obtain ⟨g,_,h1,h2⟩:=r.aX ho had
 exact h.2.2 g h1 h2
theorem pq.yx (r:pq C m st st') (c:Cast C m (fun g=>(st'.o g).nilA) E E' st st' gh (iI gh m) w) (h :∀g,jX E st gh w (st.o g) (gh g)) (g':Nat):jX E' st' (iI gh m) w (st'.o g') (iI gh m g'):=by
 cases hm:m g' with
 |none=>
  rcases r.aU g' hm with e | ⟨a,i,sz,e⟩ | ⟨a,i,sz,ak,e⟩
  ·rw [e];trivial
  ·rw [e];exact .inl ⟨by simp [iI,hm,Gh.nil],by simp [iI,hm,Gh.nil],rfl⟩
  ·rw [e];exact .inl ⟨by simp [iI,hm,Gh.nil],by simp [iI,hm,Gh.nil],rfl,fun b=>by simp [iI,hm,Gh.nil]⟩
 |some g=>
  have hg:iI gh m g'=gh g:=by simp [iI,hm]
  rw [hg]
  exact c.yx (r.aN g' g hm) (h g)
theorem Rel.Ud (h:Rel E st gh val w) (r:pq Tq m st st'):Rel E st' (iI gh m) val w:=by
 have c:=r.cast (E:=E) (E':=E) (gh:=gh) (w:=w) r.ok
 refine ⟨fun t=>c.WE (r.slots t) (h.slots t),r.yx c h.aN,fun g1 g2 b h1 h2 k1 k2 => ?_,fun g' b ho had => ?_,fun g' i b ho had hw => ?_,fun g' ho hd b => ?_,h.wb,h.frame,h.size,h.os,h.tape,h.output,r.us,r.uo,r.ul⟩
 ·obtain ⟨q1,m1,o1,d1⟩:=r.aX h1 k1
  obtain ⟨q2,m2,o2,d2⟩:=r.aX h2 k2
  have:=h.inj q1 q2 b o1 o2 d1 d2
  subst this
  exact r.inj g1 g2 q1 h1 h2 m1 m2
 ·obtain ⟨g,_,h1,h2⟩:=r.aX ho had
  exact h.wr g b h1 h2
 ·obtain ⟨g,hm,h1,h2⟩:=r.aX (gh:=gh) (g':=g') (O.ji ho) had
  obtain ⟨a',a,i',hc,q⟩:=(r.aN g' g hm).inner ho
  exact hc.2 (h.wi g i' b q h2 hw)
 ·cases hm:m g' with
  |none=>simp [iI,hm,Gh.nil]
  |some g=>
   have hg:iI gh m g'=gh g:=by simp [iI,hm]
   rw [hg]
   obtain ⟨q1,q2⟩:=(r.aN g' g hm).aX ho
   exact h.ns g q1 (by rw [q2];exact hd) b
end
end Go.Fw

namespace Go.Fw
variable [dB]
inductive WS where
 |p (a i:Bool)
 |bM
 |own (g:Nat)
 |box (g off:Nat)
 |fn (f:FuncId) (gs:List Nat)
 |kH (g:Nat)
 |no
 |vw (g:Nat)
 |ep (g off:Nat)
inductive SS where
 |one (x:WS)
 |agg (xs:List WS)
inductive OS where
 |box (ws:List WS)
 |arr (fz a i:Bool) (sz:Nat)
 |it
 |ay (a i:Bool) (sz:Nat) (ak:List (Nat×Nat))
structure Shape where
 slots:List (Nat×SS)
 aN:List (Nat×OS)
abbrev Ren:=List (Nat×Option Nat)
def imp (a b:Bool):Bool:=!a||b
def nodupB:List Nat→Bool
 | []=>true
 |x::xs=>!xs.contains x&&nodupB xs
def pz (m:Ren):List Nat→List W→Bool
 | [],[]=>true
 |g'::gs,.box g off::cs=>decide (m.lookup g'=some (some g))&&(Nat.beq off 0&&pz m gs cs)
 |_,_=>false
def d_:List Nat→List W
 | []=>[]
 |g::gs=>.box g 0::d_ gs
def FU (m:Ren):WS→W→Option (List P)
 |.p a i,.p a' i' x=>if ((imp a' a&&imp i' i)||x.flat)=true then some [x] else none
 |.p _ _,.bM=>some [.sl 0 []]
 |.bM,.bM=>some []
 |.own g',.own g=>if m.lookup g'=some (some g) then some [] else none
 |.own g',.bM=>if m.lookup g'=some none then some [] else none
 |.box g' off,.box g off'=>if m.lookup g'=some (some g)∧off=off' then some [] else none
 |.fn f gs,.clo f' caps=>if f=f'∧pz m gs caps=true then some [] else none
 |.kH g',.kH g=>if m.lookup g'=some (some g) then some [] else none
 |.no,_=>some []
 |.vw g',.vw g lo hi=>if m.lookup g'=some (some g) then some [lo,hi] else none
 |.ep g' off,.ep g n off'=>if m.lookup g'=some (some g)∧off=off' then some [n] else none
 |_,_=>none
def F7 (m:Ren):List WS→List W→Option (List P)
 | [],[]=>some []
 |k::ks,x::xs=>match FU m k x,F7 m ks xs with
  |some u,some v=>some (u++v)
  |_,_=>none
 |_,_=>none
def Yz (m:Ren):SS→S→Option (List P)
 |.one k,.v (.one x)=>FU m k x
 |.agg ks,.v (.agg xs)=>F7 m ks xs
 |_,_=>none
def Tt (m:Ren):OS→O→Option (List P)
 |.box ks,.box xs=>F7 m ks xs
 |.arr fz a i sz,.arr fz' a' i' sz' l=>if fz=fz'∧sz=sz'∧(imp a' a&&imp i' i)=true then some [P.eG sz l] else none
 |.it,.it s n=>some [s,n]
 |.ay a i sz ak,.ay a' i' sz' fD l Option.none=>if sz=sz'∧ak=fD∧(imp a' a&&imp i' i)=true then some [P.eG sz l] else none
 |_,_=>none
def oD (m:Ren) (s:Nat→S):List (Nat×SS)→Option (List P)
 | []=>some []
 |(t,k)::rest=>match Yz m k (s t),oD m s rest with
  |some u,some v=>some (u++v)
  |_,_=>none
def rC (m:Ren) (o:Nat→O):List (Nat×OS)→Option (List P)
 | []=>some []
 |(g',k)::rest=>match (match m.lookup g' with
   |some (some g)=>Tt m k (o g)
   |some none=>(match k with
    |.arr false _ _ _=>some [.sl 0 []]
    |.ay _ _ _ _=>some [.sl 0 []]
    |_=>none)
   |none=>none),rC m o rest with
  |some u,some v=>some (u++v)
  |_,_=>none
def WS.names:WS→List Nat
 |.own g | .box g _ | .kH g | .vw g | .ep g _=>[g]
 |.fn _ gs=>gs
 |_=>[]
def SS.names:SS→List Nat
 |.one x=>x.names
 |.agg xs=>xs.flatMap WS.names
def OS.names:OS→List Nat
 |.box ws=>ws.flatMap WS.names
 |_=>[]
def Shape.nms (j:Shape):List Nat:=j.aN.map (·.1)
def Shape.ok (j:Shape):Bool:=nodupB j.nms&&j.slots.all (fun p=>p.2.names.all fun g=>j.nms.contains g)&&j.aN.all (fun p=>p.2.names.all fun g=>j.nms.contains g)
def YA (j:Shape) (m:Ren):Bool:=nodupB (j.nms.filterMap fun g=>(m.lookup g).join)
def coerce (j:Shape) (m:Ren) (st:St):Option (List P):=
 if (j.ok&&YA j m)=true then match oD m st.s j.slots,rC m st.o j.aN with
  |some u,some v=>some (u++v)
  |_,_=>none
 else none
def m_ (vs:List P) (n:Nat):WS→W×Nat
 |.p a i=>(.p a i (vs.getD n default),n+1)
 |.bM=>(.bM,n)
 |.own g=>(.own g,n)
 |.box g off=>(.box g off,n)
 |.fn f gs=>(.clo f (d_ gs),n)
 |.kH g=>(.kH g,n)
 |.no=>(.no,n)
 |.vw g=>(.vw g (vs.getD n default) (vs.getD (n+1) default),n+2)
 |.ep g off=>(.ep g (vs.getD n default) off,n+1)
def jm (vs:List P):Nat→List WS→List W×Nat
 |n,[]=>([],n)
 |n,k::ks=>((m_ vs n k).1::(jm vs (m_ vs n k).2 ks).1,(jm vs (m_ vs n k).2 ks).2)
def mkS (vs:List P) (n:Nat):SS→S×Nat
 |.one k=>(.v (.one (m_ vs n k).1),(m_ vs n k).2)
 |.agg ks=>(.v (.agg (jm vs n ks).1),(jm vs n ks).2)
def pU (vs:List P) (n:Nat):OS→O×Nat
 |.box ks=>(.box (jm vs n ks).1,(jm vs n ks).2)
 |.arr fz a i sz=>(.arr fz a i sz (vs.getD n default).list,n+1)
 |.it=>(.it (vs.getD n default) (vs.getD (n+1) default),n+2)
 |.ay a i sz ak=>(.ay a i sz ak (vs.getD n default).list Option.none,n+1)
def bJ (vs:List P):Nat→List (Nat×SS)→List (Nat×S)×Nat
 |n,[]=>([],n)
 |n,(t,k)::rest=>((t,(mkS vs n k).1)::(bJ vs (mkS vs n k).2 rest).1,(bJ vs (mkS vs n k).2 rest).2)
def eF (vs:List P):Nat→List (Nat×OS)→List (Nat×O)×Nat
 |n,[]=>([],n)
 |n,(g,k)::rest=>((g,(pU vs n k).1)::(eF vs (pU vs n k).2 rest).1,(eF vs (pU vs n k).2 rest).2)
def mk (j:Shape) (vs:List P):St:=
 { s:=fun t=>match (bJ vs 0 j.slots).1.lookup t with | some x=>x | none=>.no,o:=fun g=>match (eF vs (bJ vs 0 j.slots).2 j.aN).1.lookup g with | some x=>x | none=>.none,used:=fun g=>j.nms.contains g }
def DL (j:Shape) (m:Ren) (g':Nat):Option Nat:=if j.nms.contains g' then (m.lookup g').join else none
def At (vs:List P) (n:Nat) (us:List P):Prop :=∀k y,us[k]?=some y→vs[n+k]?=some y
theorem At.left {vs Ue YB:List P} {n:Nat} (h:At vs n (Ue++YB)):At vs n Ue:=fun k y hk=>h k y (by rw [Wl (Q3.1 hk).1];exact hk)
theorem At.right {vs Ue YB:List P} {n:Nat} (h:At vs n (Ue++YB)):At vs (n+Ue.length) YB:=fun k y hk=>by
 have:=h (Ue.length+k) y (by rw [Wf (by omega),K7];exact hk)
 rw [←this];congr 1;omega
theorem At.head {vs:List P} {n:Nat} {x:P} (h:At vs n [x]):vs.getD n default=x:=by
 have:=h 0 x rfl
 rw [Q6]
 rw [V2] at this
 rw [this];rfl
theorem pV {a b:Bool} (h:imp a b=true):a=true→b=true:=by
 cases a<;>cases b<;>simp_all [imp]
section
variable {vs:List P} {m:Ren} {F:Nat→Option Nat} {nil:Nat→Prop}
theorem rD :∀(gs:List Nat),(d_ gs).flatMap W.names=gs
 | []=>rfl
 |g::gs=>by simp [d_,W.names,rD gs]
theorem pW (f:FuncId) (caps:List W):(W.clo f caps).names=caps.flatMap W.names:=by
 have :∀(l:List W) (q :∀x∈l,x∈caps),(l.attach.flatMap fun (x:{x // x∈l})=>x.1.names)=l.flatMap W.names:=fun l _=>by
  rw [List.flatMap_def,List.flatMap_def,List.map_attach_eq_pmap,List.pmap_eq_map]
 rw [W.names]
 exact this caps fun x hx=>hx
theorem GN :∀{gs:List Nat} {caps:List W},(∀g∈gs,F g=(m.lookup g).join)→pz m gs caps=true→caps.length=(d_ gs).length∧∀(j:Nat) x y,caps[j]?=some x→(d_ gs)[j]?=some y→Ww Tq F nil x y
 | [],[],_,_=>⟨rfl,fun j x y hx=>by simp at hx⟩
 | [],_::_,_,h=>by simp [pz] at h
 |_::_,[],_,h=>by simp [pz] at h
 |g'::gs,c::cs,hF,h=>by
  cases c with
  |box g off=>
   simp only [pz,Qf,decide_eq_true_eq] at h
   obtain ⟨h1,h2,h3⟩:=h
   have h2:=Q4 h2
   subst h2
   obtain ⟨e1,e2⟩:=GN (fun g hg=>hF g (by simp [hg])) h3
   refine ⟨by simp [d_,e1],fun j x y hx hy => ?_⟩
   cases j with
   |zero=>
    simp [d_] at hx hy;subst hx hy
    exact .box (by rw [hF g' (by simp),h1];rfl)
   |succ j=>simp [d_] at hx hy;exact e2 j x y hx hy
  |_=>simp [pz] at h
theorem Uf {k:WS} {x:W} {us:List P} {n:Nat} (hF :∀g∈k.names,F g=(m.lookup g).join) (hnil :∀g∈k.names,m.lookup g=some none→nil g) (h:FU m k x=some us) (ha:At vs n us) :
  Ww Tq F nil x (m_ vs n k).1∧(m_ vs n k).2=n+us.length∧(m_ vs n k).1.names=k.names:=by
 cases k with
 |p a i=>
  cases x with
  |p a' i' y=>
   simp only [FU] at h
   split at h
   ·rename_i hc
    simp only [Q0] at h;subst h
    simp only [VV,Qf] at hc
    refine ⟨?_,rfl,by simp [m_,W.names,WS.names]⟩
    simp only [m_,ha.head]
    rcases hc with hc | hc
    ·exact .p y ⟨pV hc.1,pV hc.2⟩
    ·exact .flat y hc
   ·cases h
  |bM=>
   simp only [FU,Q0] at h;subst h
   refine ⟨?_,rfl,by simp [m_,W.names,WS.names]⟩
   simp only [m_,ha.head]
   exact .Zg _ _ _
  |_=>simp [FU] at h
 |bM=>cases x<;>simp [FU] at h;subst h;exact ⟨.bM,rfl,by simp [m_,W.names,WS.names]⟩
 |own g'=>
  cases x with
  |own g=>
   simp only [FU] at h
   split at h
   ·rename_i hc
    simp only [Q0] at h;subst h
    exact ⟨.own (by rw [hF g' (by simp [WS.names]),hc];rfl),rfl,by simp [m_,W.names,WS.names]⟩
   ·cases h
  |bM=>
   simp only [FU] at h
   split at h
   ·rename_i hc
    simp only [Q0] at h;subst h
    exact ⟨.abx (by rw [hF g' (by simp [WS.names]),hc];rfl) (hnil g' (by simp [WS.names]) hc),rfl,by simp [m_,W.names,WS.names]⟩
   ·cases h
  |_=>simp [FU] at h
 |box g' off=>
  cases x with
  |box g off'=>
   simp only [FU] at h
   split at h
   ·rename_i hc
    simp only [Q0] at h;subst h
    obtain ⟨hc,rfl⟩:=hc
    exact ⟨.box (by rw [hF g' (by simp [WS.names]),hc];rfl),rfl,by simp [m_,W.names,WS.names]⟩
   ·cases h
  |_=>simp [FU] at h
 |fn f gs=>
  cases x with
  |clo f' caps=>
   simp only [FU] at h
   split at h
   ·rename_i hc
    simp only [Q0] at h;subst h
    obtain ⟨rfl,hc⟩:=hc
    obtain ⟨e1,e2⟩:=GN (nil:=nil) hF hc
    exact ⟨.clo f caps (d_ gs) e1 e2,rfl,by simp only [m_,pW,rD,WS.names]⟩
   ·cases h
  |_=>simp [FU] at h
 |kH g'=>
  cases x with
  |kH g=>
   simp only [FU] at h
   split at h
   ·rename_i hc
    simp only [Q0] at h;subst h
    exact ⟨.kH (by rw [hF g' (by simp [WS.names]),hc];rfl),rfl,by simp [m_,W.names,WS.names]⟩
   ·cases h
  |_=>simp [FU] at h
 |no=>simp [FU] at h;subst h;exact ⟨.no _,rfl,by simp [m_,W.names,WS.names]⟩
 |vw g'=>
  cases x with
  |vw g lo hi=>
   simp only [FU] at h
   split at h
   ·rename_i hc
    simp only [Q0] at h;subst h
    have h0:vs.getD n default=lo:=At.head (At.left (Ue:=[lo]) (YB:=[hi]) ha)
    have h1:vs.getD (n+1) default=hi:=At.head (At.right (Ue:=[lo]) (YB:=[hi]) ha)
    refine ⟨?_,rfl,by simp [m_,W.names,WS.names]⟩
    simp only [m_,h0,h1]
    exact .vw lo hi (by rw [hF g' (by simp [WS.names]),hc];rfl)
   ·cases h
  |_=>simp [FU] at h
 |ep g' off=>
  cases x with
  |ep g q off'=>
   simp only [FU] at h
   split at h
   ·rename_i hc
    simp only [Q0] at h;subst h
    obtain ⟨hc,rfl⟩:=hc
    refine ⟨?_,rfl,by simp [m_,W.names,WS.names]⟩
    simp only [m_,ha.head]
    exact .ep q off (by rw [hF g' (by simp [WS.names]),hc];rfl)
   ·cases h
  |_=>simp [FU] at h
theorem IW :∀{ks:List WS} {xs:List W} {us:List P} {n:Nat},(∀k∈ks,∀g∈k.names,F g=(m.lookup g).join)→(∀k∈ks,∀g∈k.names,m.lookup g=some none→nil g)→F7 m ks xs=some us→At vs n us→
  xs.length=(jm vs n ks).1.length∧(∀(j:Nat) x y,xs[j]?=some x→(jm vs n ks).1[j]?=some y→Ww Tq F nil x y)∧(jm vs n ks).2=n+us.length∧(jm vs n ks).1.flatMap W.names=ks.flatMap WS.names
 | [],xs,us,n,hF,hn,h,ha=>by
  cases xs with
  |nil=>simp [F7] at h;subst h;exact ⟨rfl,fun j x y hx=>by simp at hx,rfl,rfl⟩
  |cons x xs=>simp [F7] at h
 |k::ks,xs,us,n,hF,hn,h,ha=>by
  cases xs with
  |nil=>simp [F7] at h
  |cons x xs=>
   simp only [F7] at h
   split at h
   ·rename_i u v hu hv
    simp only [Q0] at h;subst h
    obtain ⟨a1,a2,a3⟩:=Uf (hF k (by simp)) (hn k (by simp)) hu ha.left
    have ih:=IW (n:=n+u.length) (fun k hk=>hF k (by simp [hk])) (fun k hk=>hn k (by simp [hk])) hv ha.right
    simp only [jm,a2]
    refine ⟨by simp [ih.1],fun j x' y' hx hy => ?_,by rw [ih.2.2.1];simp;omega,by simp [a3,ih.2.2.2]⟩
    cases j with
    |zero=>simp at hx hy;subst hx hy;exact a1
    |succ j=>simp at hx hy;exact ih.2.1 j x' y' hx hy
   ·cases h
theorem Zh {k:SS} {x:S} {us:List P} {n:Nat} (hF :∀g∈k.names,F g=(m.lookup g).join) (hnil :∀g∈k.names,m.lookup g=some none→nil g) (h:Yz m k x=some us) (ha:At vs n us) :
  Sw Tq F nil x (mkS vs n k).1∧(mkS vs n k).2=n+us.length∧(mkS vs n k).1.names=k.names:=by
 cases k with
 |one k=>
  cases x with
  |v x=>
   cases x with
   |one x=>
    obtain ⟨a1,a2,a3⟩:=Uf hF hnil h ha
    exact ⟨.v (.one a1),a2,by simpa [mkS,S.names,V.names,SS.names] using a3⟩
   |agg xs=>simp [Yz] at h
  |_=>simp [Yz] at h
 |agg ks=>
  cases x with
  |v x=>
   cases x with
   |one x=>simp [Yz] at h
   |agg xs=>
    obtain ⟨a0,a1,a2,a3⟩:=IW (fun k hk g hg=>hF g (by simp only [SS.names,X1];exact ⟨k,hk,hg⟩)) (fun k hk g hg=>hnil g (by simp only [SS.names,X1];exact ⟨k,hk,hg⟩)) h ha
    exact ⟨.v (.agg _ _ a0 a1),a2,by simpa [mkS,S.names,V.names,SS.names] using a3⟩
  |_=>simp [Yz] at h
theorem DN {s:Nat→S} :∀{L:List (Nat×SS)} {us:List P} {n:Nat},(∀p∈L,∀g∈p.2.names,F g=(m.lookup g).join)→(∀p∈L,∀g∈p.2.names,m.lookup g=some none→nil g)→oD m s L=some us→At vs n us→
  (∀t x,(bJ vs n L).1.lookup t=some x→Sw Tq F nil (s t) x∧∀g∈x.names,∃p∈L,g∈p.2.names)∧(bJ vs n L).2=n+us.length
 | [],us,n,hF,hn,h,ha=>by simp [oD] at h;subst h;exact ⟨fun t x hx=>by simp [bJ] at hx,rfl⟩
 |(t0,k)::L,us,n,hF,hn,h,ha=>by
  simp only [oD] at h
  split at h
  ·rename_i u v hu hv
   simp only [Q0] at h;subst h
   obtain ⟨a1,a2,a3⟩:=Zh (hF (t0,k) (by simp)) (hn (t0,k) (by simp)) hu ha.left
   have ih:=DN (n:=n+u.length) (fun p hp=>hF p (by simp [hp])) (fun p hp=>hn p (by simp [hp])) hv ha.right
   simp only [bJ,a2]
   refine ⟨fun t x hx => ?_,by rw [ih.2];simp;omega⟩
   simp only [List.lookup] at hx
   split at hx
   ·rename_i he
    have he:t=t0:=by simpa using he
    subst he
    simp only [Q0] at hx;subst hx
    exact ⟨a1,fun g hg=>⟨(t,k),by simp,by rw [a3] at hg;exact hg⟩⟩
   ·obtain ⟨b1,b2⟩:=ih.1 t x hx
    exact ⟨b1,fun g hg=>let ⟨p,hp,hg⟩:=b2 g hg;⟨p,by simp [hp],hg⟩⟩
  ·cases h
theorem Zi {k:OS} {x:O} {us:List P} {n:Nat} (hF :∀g∈k.names,F g=(m.lookup g).join) (hnil :∀g∈k.names,m.lookup g=some none→nil g) (h:Tt m k x=some us) (ha:At vs n us) :
  Ow Tq F nil x (pU vs n k).1∧(pU vs n k).2=n+us.length∧(pU vs n k).1.names=k.names:=by
 cases k with
 |box ks=>
  cases x with
  |box xs=>
   obtain ⟨a0,a1,a2,a3⟩:=IW (fun k hk g hg=>hF g (by simp only [OS.names,X1];exact ⟨k,hk,hg⟩)) (fun k hk g hg=>hnil g (by simp only [OS.names,X1];exact ⟨k,hk,hg⟩)) h ha
   exact ⟨.box _ _ a0 a1,a2,by simpa [pU,O.names,OS.names] using a3⟩
  |_=>simp [Tt] at h
 |arr fz a i sz=>
  cases x with
  |arr fz' a' i' sz' l=>
   simp only [Tt] at h
   split at h
   ·rename_i hc
    simp only [Q0] at h;subst h
    obtain ⟨rfl,rfl,hc⟩:=hc
    simp only [Qf] at hc
    refine ⟨?_,rfl,rfl⟩
    simp only [pU,ha.head,P.lq]
    exact .arr fz sz l ⟨pV hc.1,pV hc.2⟩
   ·cases h
  |_=>simp [Tt] at h
 |it=>
  cases x with
  |it s p=>
   simp only [Tt,Q0] at h
   subst h
   refine ⟨?_,rfl,rfl⟩
   have h0:vs.getD n default=s:=At.head (At.left (Ue:=[s]) (YB:=[p]) ha)
   have h1:vs.getD (n+1) default=p:=At.head (At.right (Ue:=[s]) (YB:=[p]) ha)
   simp only [pU,h0,h1]
   exact .it s p
  |_=>simp [Tt] at h
 |ay a i sz ak=>
  cases x with
  |ay a' i' sz' fD l hole=>
   cases hole with
   |some q=>simp [Tt] at h
   |none=>
    simp only [Tt] at h
    split at h
    ·rename_i hc
     simp only [Q0] at h;subst h
     obtain ⟨rfl,rfl,hc⟩:=hc
     simp only [Qf] at hc
     refine ⟨?_,rfl,rfl⟩
     simp only [pU,ha.head,P.lq]
     exact .ay sz ak l ⟨pV hc.1,pV hc.2⟩
    ·cases h
  |_=>simp [Tt] at h
end
theorem gY :∀{l:List Nat},nodupB l=true→l.Nodup
 | [],_=>List.nodup_nil
 |x::l,h=>by
  simp only [nodupB,Qf,Wc,W7,decide_eq_false_iff_not] at h
  exact Vn.2 ⟨h.1,gY h.2⟩
theorem GR {vs:List P} {m:Ren} {F:Nat→Option Nat} {nil:Nat→Prop} {o:Nat→O} :∀{L:List (Nat×OS)} {us:List P} {n:Nat},(∀p∈L,∀g∈p.2.names,F g=(m.lookup g).join)→(∀p∈L,∀g∈p.2.names,m.lookup g=some none→nil g)→
  (L.map (·.1)).Nodup→rC m o L=some us→At vs n us→
  (∀g' x,(eF vs n L).1.lookup g'=some x→(g'∈L.map (·.1))∧(∀g∈x.names,∃p∈L,g∈p.2.names)∧((∃g,m.lookup g'=some (some g)∧Ow Tq F nil (o g) x)∨(m.lookup g'=some none∧x.nilA)))∧
  (∀g'∈L.map (·.1),∃x,(eF vs n L).1.lookup g'=some x)
 | [],us,n,hF,hn,hd,h,ha=>⟨fun g x hx=>by simp [eF] at hx,fun g hg=>by simp at hg⟩
 |(g0,k)::L,us,n,hF,hn,hd,h,ha=>by
  simp only [rC] at h
  split at h
  ·rename_i u v hu hv
   simp only [Q0] at h;subst h
   simp only [Qt,Vn] at hd
   have key:(pU vs n k).2=n+u.length∧(pU vs n k).1.names=k.names∧((∃g,m.lookup g0=some (some g)∧Ow Tq F nil (o g) (pU vs n k).1)∨(m.lookup g0=some none∧(pU vs n k).1.nilA)):=by
    split at hu
    ·rename_i g hg
     obtain ⟨a1,a2,a3⟩:=Zi (hF (g0,k) (by simp)) (hn (g0,k) (by simp)) hu ha.left
     exact ⟨a2,a3,.inl ⟨g,hg,a1⟩⟩
    ·rename_i hg
     split at hu
     ·rename_i a i sz
      simp only [Q0] at hu;subst hu
      refine ⟨rfl,rfl,.inr ⟨hg,.inl ⟨a,i,sz,?_⟩⟩⟩
      simp only [pU,ha.left.head];rfl
     ·rename_i a i sz ak
      simp only [Q0] at hu;subst hu
      refine ⟨rfl,rfl,.inr ⟨hg,.inr ⟨a,i,sz,ak,?_⟩⟩⟩
      simp only [pU,ha.left.head];rfl
     ·cases hu
    ·cases hu
   obtain ⟨a2,a3,a1⟩:=key
   have ih:=GR (n:=n+u.length) (fun p hp=>hF p (by simp [hp])) (fun p hp=>hn p (by simp [hp])) hd.2 hv ha.right
   simp only [eF,a2]
   refine ⟨fun g' x hx => ?_,fun g' hg' => ?_⟩
   ·simp only [List.lookup] at hx
    split at hx
    ·rename_i he
     have he:g'=g0:=by simpa using he
     subst he
     simp only [Q0] at hx;subst hx
     exact ⟨by simp,fun g hg=>⟨(g',k),by simp,by rw [a3] at hg;exact hg⟩,a1⟩
    ·obtain ⟨b0,b1,b2⟩:=ih.1 g' x hx
     exact ⟨by simp [b0],fun g hg=>let ⟨p,hp,hg⟩:=b1 g hg;⟨p,by simp [hp],hg⟩,b2⟩
   ·simp only [List.lookup]
    by_cases he:g'=g0
    ·subst he;simp
    ·have:(g'==g0)=false:=by simpa using he
     rw [this]
     exact ih.2 g' (by simpa [he] using hg')
  ·cases h
theorem wF {f:Nat→Option Nat} {g1 g2 g:Nat} :∀{L:List Nat},L.Nodup→(L.filterMap f).Nodup→g1∈L→g2∈L→f g1=some g→f g2=some g→g1=g2
 | [],_,_,n1,_,_,_=>by cases n1
 |y::L,hnd,f_,n1,n2,m1,m2=>by
  simp only [Vn] at hnd
  simp only [List.filterMap_cons] at f_
  have hsub :∀{z},z∈L→f z=some g→g∈L.filterMap f:=fun hz he=>JS.2 ⟨_,hz,he⟩
  rcases QQ.1 n1 with e1 | e1<;>rcases QQ.1 n2 with e2 | e2
  ·rw [e1,e2]
  ·subst e1;rw [m1] at f_;simp only [Vn] at f_;exact absurd (hsub e2 m2) f_.1
  ·subst e2;rw [m2] at f_;simp only [Vn] at f_;exact absurd (hsub e1 m1) f_.1
  ·refine wF hnd.2 ?_ e1 e2 m1 m2
   split at f_
   ·exact f_
   ·exact (Vn.1 f_).2
theorem wG {j:Shape} {m:Ren} {st:St} {vs:List P} (h:coerce j m st=some vs):pq Tq (DL j m) st (mk j vs):=by
 unfold coerce at h
 split at h
 ·rename_i hok
  split at h
  ·rename_i u v hu hv
   simp only [Q0] at h;subst h
   simp only [Qf,Shape.ok,X2,W7,decide_eq_true_eq] at hok
   obtain ⟨⟨⟨hnd,hsl⟩,hob⟩,f_⟩:=hok
   have hnd':=gY hnd
   have hAt:At (u++v) 0 (u++v):=fun k y hk=>by rw [Wb];exact hk
   have hF :∀g∈j.nms,DL j m g=(m.lookup g).join:=fun g hg=>by simp [DL,hg]
   have zK:=fun nil (hnil :∀p∈j.aN,∀g∈p.2.names,m.lookup g=some none→nil g)=>GR (vs:=u++v) (F:=DL j m) (nil:=nil) (n:=u.length) (fun p hp g hg=>hF g (hob p hp g hg)) hnil hnd' hv (by
    have:=hAt.right;rwa [Wb] at this)
   have nO:=fun nil (hnil :∀p∈j.slots,∀g∈p.2.names,m.lookup g=some none→nil g)=>DN (vs:=u++v) (F:=DL j m) (nil:=nil) (n:=0) (fun p hp g hg=>hF g (hsl p hp g hg)) hnil hu hAt.left
   have hlen:(bJ (u++v) 0 j.slots).2=u.length:=by have:=(nO (fun _=>True) (fun _ _ _ _ _=>trivial)).2;omega
   have hnil :∀g∈j.nms,m.lookup g=some none→((mk j (u++v)).o g).nilA:=by
    intro g hg hm
    have hO:=zK (fun _=>True) (fun _ _ _ _ _=>trivial)
    obtain ⟨x,hx⟩:=hO.2 g hg
    rcases (hO.1 g x hx).2.2 with ⟨g2,h2,_⟩ | ⟨_,e⟩
    ·rw [hm] at h2;cases h2
    ·show O.nilA (match (eF (u++v) (bJ (u++v) 0 j.slots).2 j.aN).1.lookup g with | some x=>x | none=>.none)
     rw [hlen,hx];exact e
   have hO:=zK (fun g=>((mk j (u++v)).o g).nilA) (fun p hp g hg hm=>hnil g (hob p hp g hg) hm)
   have hS:=nO (fun g=>((mk j (u++v)).o g).nilA) (fun p hp g hg hm=>hnil g (hsl p hp g hg) hm)
   have wS :∀g x,(mk j (u++v)).o g=x→x≠.none→(eF (u++v) u.length j.aN).1.lookup g=some x:=by
    intro g x hx hne
    have hx:(match (eF (u++v) (bJ (u++v) 0 j.slots).2 j.aN).1.lookup g with | some x=>x | none=>.none)=x:=hx
    rw [hlen] at hx
    cases hz:(eF (u++v) u.length j.aN).1.lookup g with
    |none=>rw [hz] at hx;exact absurd hx.symm hne
    |some y=>rw [hz] at hx;rw [←hx]
   refine ⟨fun t => ?_,fun g' g hm => ?_,fun g' hm => ?_,fun g1 g2 g h1 h2 m1 m2 => ?_,fun t g hg => ?_,fun g0 g hg => ?_,fun g hg => ?_⟩
   ·show Sw _ _ _ (st.s t) (match (bJ (u++v) 0 j.slots).1.lookup t with | some x=>x | none=>.no)
    cases hx:(bJ (u++v) 0 j.slots).1.lookup t with
    |none=>exact .no _
    |some x=>exact (hS.1 t x hx).1
   ·by_cases hne:(mk j (u++v)).o g'=.none
    ·rw [hne];exact .none _
    ·have hx:=wS g' _ rfl hne
     obtain ⟨b0,b1,b2⟩:=hO.1 g' _ hx
     rw [hF g' b0] at hm
     rcases b2 with ⟨g3,h3,h4⟩ | ⟨h3,_⟩
     ·rw [h3] at hm;cases hm;exact h4
     ·rw [h3] at hm;cases hm
   ·by_cases hne:(mk j (u++v)).o g'=.none
    ·exact .inl hne
    ·have hx:=wS g' _ rfl hne
     obtain ⟨b0,b1,b2⟩:=hO.1 g' _ hx
     rw [hF g' b0] at hm
     rcases b2 with ⟨g3,h3,h4⟩ | ⟨h3,e⟩
     ·rw [h3] at hm;cases hm
     ·exact .inr e
   ·have n1:g1∈j.nms:=by have:=hO.1 g1 _ (wS g1 _ rfl (by intro e;rw [e] at h1;cases h1));exact this.1
    have n2:g2∈j.nms:=by have:=hO.1 g2 _ (wS g2 _ rfl (by intro e;rw [e] at h2;cases h2));exact this.1
    rw [hF g1 n1] at m1;rw [hF g2 n2] at m2
    exact wF hnd' (gY f_) n1 n2 m1 m2
   ·have hg:g∈(match (bJ (u++v) 0 j.slots).1.lookup t with | some x=>x | none=>S.no).names:=hg
    cases hx:(bJ (u++v) 0 j.slots).1.lookup t with
    |none=>rw [hx] at hg;simp [S.names] at hg
    |some x=>
     rw [hx] at hg
     obtain ⟨p,hp,hg⟩:=(hS.1 t x hx).2 g hg
     simpa [mk] using hsl p hp g hg
   ·by_cases hne:(mk j (u++v)).o g0=.none
    ·rw [hne] at hg;simp [O.names] at hg
    ·obtain ⟨b0,b1,b2⟩:=hO.1 g0 _ (wS g0 _ rfl hne)
     obtain ⟨p,hp,hg⟩:=b1 g hg
     simpa [mk] using hob p hp g hg
   ·have:=(hO.1 g _ (wS g _ rfl hg)).1
    simpa [mk,Shape.nms] using this
  ·cases h
 ·cases h
end Go.Fw

namespace Go.Fw
variable [dB]
structure wH where
 aO:Nat
 pin:Shape
 aQ:Shape
 dL:Nat
 aY:List Nat
 aU:List Nat
structure Spec where
 sig:wH
 R:List P→List P→Prop
abbrev Tab:=FuncId→Option Spec
def sN (x y:Bool×Bool):Bool×Bool:=(x.1||y.1,x.2||y.2)
def IX (xs ys:List Nat):Bool:=xs.all fun x=>!ys.contains x
def WS.flags (a i:Bool):WS→Bool
 |.p a' i'=>(a==a')&&(i==i')
 |.own _=>true
 |.box _ off=>off==0
 |.bM=>false
 |.fn _ _=>true
 |.kH _=>false
 |.no=>false
 |.vw _=>false
 |.ep _ _=>false
def SS.flags (a i:Bool):SS→Bool
 |.one x=>x.flags a i
 |.agg xs=>xs.all (WS.flags a i)
def WS.bI (aU:List Nat):WS→Bool
 |.p _ _=>true
 |.own g=>aU.contains g
 |.box g _=>aU.contains g
 |.bM=>true
 |.fn _ gs=>gs.all fun g=>aU.contains g
 |_=>false
def SS.bI (aU:List Nat):SS→Bool
 |.one x=>x.bI aU
 |.agg xs=>xs.all (WS.bI aU)
def WS.isA:WS→Bool
 |.p a _=>a
 |_=>false
def SS.isA:SS→Bool
 |.one x=>x.isA
 |.agg xs=>xs.any WS.isA
def OS.isA:OS→Bool
 |.box ws=>ws.any WS.isA
 |.arr _ a _ _=>a
 |.it=>false
 |.ay a _ _ _=>a
def wH.jR (s:wH):Bool:=s.aQ.slots.any (·.2.isA)||s.aQ.aN.any (·.2.isA)
def OS.kin:Option OS→Option OS→Bool
 |some (.box _),some (.box _)=>true
 |some (.arr _ _ _ sz),some (.arr _ _ _ sz')=>Nat.beq sz sz'
 |some (.ay _ _ sz _),some (.ay _ _ sz' _)=>Nat.beq sz sz'
 |_,_=>false
def OS.Ug:Option OS→Bool
 |some (.box _)=>true
 |_=>false
def wH.ok (s:wH):Bool:=
 s.pin.ok&&s.aQ.ok&&s.pin.slots.all (fun p=>p.2.flags true false&&decide (p.1<s.aO)) &&
 s.pin.aN.all (fun p=>match p.2 with
  |.box ws=>ws.all (fun k=>k.flags false true)&&s.aY.contains p.1
  |.arr fz a i _=>!fz&&!a&&i
  |.ay a i _ _=>!a&&i
  |.it=>false) &&
 s.aQ.slots.all (fun p=>p.2.bI (s.aU++s.aY)) &&
 s.aQ.aN.all (fun p=>match p.2 with
  |.box ws=>ws.all (WS.bI (s.aU++s.aY))&&((s.aY.contains p.1&&s.pin.nms.contains p.1)||s.aU.contains p.1)
  |.arr fz _ _ _=>!fz&&(s.aU.contains p.1||s.aY.contains p.1)
  |.ay _ _ _ _=>s.aU.contains p.1||s.aY.contains p.1
  |.it=>false) &&
 IX s.aY s.aU&&nodupB s.aU&&s.aY.all (fun g=>OS.kin (s.pin.aN.lookup g) (s.aQ.aN.lookup g))
def wH.Zj (s:wH):Bool:=s.aY.all fun g=>OS.Ug (s.pin.aN.lookup g)&&OS.Ug (s.aQ.aN.lookup g)
structure GU where
 ins:List P
 A:Bool×Bool
 I:Bool×Bool
 qK:List Nat
 ren:List (Nat×Nat)
def kN:List Nat→List W→Option (List (Nat×Nat))
 | [],[]=>some []
 |g'::gs,.box g 0::cs=>match kN gs cs with
  |some r=>some ((g',g)::r)
  |none=>none
 |_,_=>none
def dP (o:Nat→O):WS→W→Option (List P×(Bool×Bool)×List Nat×List (Nat×Nat))
 |.p _ _,x=>match x.toP o with
  |some (y,a,i,gs)=>some ([y],(a,i),gs,[])
  |none=>none
 |.own g',.own g=>some ([],(false,false),[],[(g',g)])
 |.box g' 0,.box g 0=>some ([],(false,false),[],[(g',g)])
 |.fn f gs,.clo f' caps=>if f=f' then match kN gs caps with
  |some r=>some ([],(false,false),[],r)
  |none=>none
  else none
 |_,_=>none
def iD (o:Nat→O):List WS→List W→Option (List P×(Bool×Bool)×List Nat×List (Nat×Nat))
 | [],[]=>some ([],(false,false),[],[])
 |k::ks,x::xs=>match dP o k x,iD o ks xs with
  |some (u,c,g,r),some (u',c',g',r')=>some (u++u',sN c c',g++g',r++r')
  |_,_=>none
 |_,_=>none
def lF (o:Nat→O):SS→S→Option (List P×(Bool×Bool)×List Nat×List (Nat×Nat))
 |.one k,.v (.one x)=>dP o k x
 |.agg ks,.v (.agg xs)=>iD o ks xs
 |_,_=>none
def dD (o:Nat→O) (args:List S):List (Nat×SS)→Option (List P×(Bool×Bool)×List Nat×List (Nat×Nat))
 | []=>some ([],(false,false),[],[])
 |(t,k)::rest=>match lF o k (args.getD t .no),dD o args rest with
  |some (u,c,g,r),some (u',c',g',r')=>some (u++u',sN c c',g++g',r++r')
  |_,_=>none
def Nj:WS→W→Option (List P×(Bool×Bool)×List (Nat×Nat))
 |.p _ _,.p a i x=>some ([x],(a,i),[])
 |.p _ _,.bM=>some ([.sl 0 []],(false,false),[])
 |.own g',.own g=>some ([],(false,false),[(g',g)])
 |.box g' 0,.box g 0=>some ([],(false,false),[(g',g)])
 |.fn f gs,.clo f' caps=>if f=f' then match kN gs caps with
  |some r=>some ([],(false,false),r)
  |none=>none
  else none
 |_,_=>none
def IY:List WS→List W→Option (List P×(Bool×Bool)×List (Nat×Nat))
 | [],[]=>some ([],(false,false),[])
 |k::ks,x::xs=>match Nj k x,IY ks xs with
  |some (u,c,r),some (u',c',r')=>some (u++u',sN c c',r++r')
  |_,_=>none
 |_,_=>none
def iw (o:Nat→O):List (Nat×Nat)→List (Nat×OS)→Option (List P×(Bool×Bool)×List (Nat×Nat))
 |ren,[]=>some ([],(false,false),ren)
 |ren,(g',k)::rest=>match ren.lookup g' with
  |some g=>match k,o g with
   |.box ks,.box ws=>match IY ks ws with
    |some (u,c,r)=>match iw o (ren++r) rest with
     |some (u',c',r')=>some (u++u',sN c c',r')
     |none=>none
    |none=>none
   |.arr _ _ _ sz,.arr false a i sz' l=>if sz=sz' then match iw o ren rest with
    |some (u',c',r')=>some (P.eG sz l::u',sN (a,i) c',r')
    |none=>none
    else none
   |.ay _ _ sz ak,.ay a i sz' fD l Option.none=>if sz=sz'∧ak=fD then match iw o ren rest with
    |some (u',c',r')=>some (P.eG sz l::u',sN (a,i) c',r')
    |none=>none
    else none
   |_,_=>none
  |none=>none
def iJ:List (Nat×Nat)→List (Nat×Nat)
 | []=>[]
 |p::r=>match r.any fun q=>Nat.beq q.1 p.1&&Nat.beq q.2 p.2 with
  |true=>iJ r
  |false=>p::iJ r
def fU (s:wH) (o:Nat→O) (args:List S):Option GU:=
 match dD o args s.pin.slots with
 |some (u,A,gs,r)=>match iw o r s.pin.aN with
  |some (u',I,r')=>some { ins:=u++u',A,I,qK:=gs,ren:=iJ r' }
  |none=>none
 |none=>none
def GU.fine (c:GU) (s:wH):Bool:=nodupB (c.ren.map (·.2))&&nodupB (c.ren.map (·.1))&&IX (c.ren.map (·.2)) c.qK&&(c.ren.map (·.1)).all (fun g=>s.pin.nms.contains g)
def nP (A I:Bool×Bool) (a i:Bool):Bool×Bool:=((a&&A.1)||(i&&I.1),(a&&A.2)||(i&&I.2))
def je (f:Nat→Nat):List W→List W
 | []=>[]
 |.box g off::r=>.box (f g) off::je f r
 |_::r=>.no::je f r
def Nk (A I:Bool×Bool) (f:Nat→Nat):W→W
 |.p a i x=>.p (nP A I a i).1 (nP A I a i).2 x
 |.bM=>.bM
 |.own g=>.own (f g)
 |.box g off=>.box (f g) off
 |.clo fn caps=>.clo fn (je f caps)
 |_=>.no
def reV (A I:Bool×Bool) (f:Nat→Nat):V→V
 |.one x=>.one (Nk A I f x)
 |.agg xs=>.agg (xs.map (Nk A I f))
def O7 (A I:Bool×Bool) (f:Nat→Nat):S→V
 |.v x=>reV A I f x
 |_=>.one .no
def sO (A I:Bool×Bool) (f:Nat→Nat):O→O
 |.none=>.none
 |.box ws=>.box (ws.map (Nk A I f))
 |.arr fz a i sz l=>.arr fz (nP A I a i).1 (nP A I a i).2 sz l
 |.it s n=>.it s n
 |.ay a i sz ak l _=>.ay (nP A I a i).1 (nP A I a i).2 sz ak l Option.none
def newName (d:Nat) (aU:List Nat) (g:Nat):Nat:=d+1000*aU.idxOf g
def callName (d:Nat) (s:wH) (ren:List (Nat×Nat)) (g:Nat):Nat:=match s.aY.contains g with
 |true=>match ren.lookup g with
  |some g'=>g'
  |none=>g
 |false=>newName d s.aU g
structure Eff where
 x:S
 aA:List (Nat×O)
 new:List Nat
def QZ (vs:List V):S:=match vs with
 | [x]=>.v x
 |xs=>.jK xs
def jf (s:wH) (d:Nat) (o:Nat→O) (c:GU) (bI:List P):Eff:=
 let x:=mk s.aQ bI
 let f:=callName d s c.ren
 { x:=QZ ((List.range s.dL).map fun k=>O7 c.A c.I f (x.s k)),aA:=(if s.jR then c.qK.map (aH o) else [])++c.ren.map (fun p=>(p.2,if s.aY.contains p.1 then sO c.A c.I f (x.o p.1) else .none))++s.aU.map (fun g=>(f g,sO c.A c.I f (x.o g))),new:=s.aU.map f }
def yL (same:List Nat) (e:Eff):Eff:={ e with aA:=e.aA.filter fun p=>!same.contains p.1 }
theorem pF {α:Type} {same:List Nat} {g:Nat} (hg:g∉same) :∀(l:List (Nat×α)),(l.filter fun p=>!same.contains p.1).lookup g=l.lookup g
 | []=>rfl
 |(k,x)::l=>by
  simp only [KV]
  cases hk:same.contains k with
  |true=>
   have:(g==k)=false:=by
    cases hb:g==k with
    |false=>rfl
    |true=>
     have:g=k:=by simpa using hb
     subst this
     simp only [W7,decide_eq_true_eq] at hk
     exact absurd hk hg
   simp only [Bool.not_true,Zs,if_false,List.lookup,this]
   exact pF hg l
  |false=>
   simp only [Kx,if_true,List.lookup]
   rw [pF hg l]
theorem jZ {α:Type} {same:List Nat} {g:Nat} (hg:g∈same) :∀(l:List (Nat×α)),(l.filter fun p=>!same.contains p.1).lookup g=none
 | []=>rfl
 |(k,x)::l=>by
  simp only [KV]
  cases hk:same.contains k with
  |true=>
   simp only [Bool.not_true,Zs,if_false]
   exact jZ hg l
  |false=>
   have:(g==k)=false:=by
    cases hb:g==k with
    |false=>rfl
    |true=>
     have:g=k:=by simpa using hb
     subst this
     simp only [W7,decide_eq_false_iff_not] at hk
     exact absurd hg hk
   simp only [Kx,if_true,List.lookup,this]
   exact jZ hg l
theorem Q5 {st:St} {same:List Nat} {e:Eff} (h :∀g∈same,e.aA.lookup g=some (st.o g)):st.aA (yL same e).aA (yL same e).new=st.aA e.aA e.new:=by
 unfold St.aA yL
 congr 1
 funext g
 by_cases hg:g∈same
 ·simp only [jZ hg,h g hg]
 ·simp only [pF hg]
inductive F8 (x:P) (K:P→Prop):Prop where
 |mk (h :∀z,z=x→K z)
theorem F8.iff {x:P} {K:P→Prop}:F8 x K↔K x:=⟨fun ⟨h⟩=>h x rfl,fun h=>⟨fun z e=>e▸h⟩⟩
def Bg:Op→Bool
 |.pick .. | .binOp .. | .unOp .. | .convert .. | .index .. | .call .. | .makeSlice .. | .store .. | .buildSlice .. | .slice .. => true
 |_=>false
def guardOf (ops:Array Oper) (st:St) (j:Nat) (want:Bool):Option Bool:=
 match (ops[j]?).bind (·.dst) with
 |some t=>match st.s t with
  |.v (.one (.p _ _ (.bool b)))=>some (bif want then b else !b)
  |.jK []=>some false
  |_=>none
 |none=>none
def Eff.skip:Eff:={ x:=.jK [],aA:=[],new:=[] }
def abz:S→Option Nat
 |.v (.one (.clo g _))=>some g
 |_=>none
def O8:List S→Option Nat
 | []=>none
 |x::l=>match abz x with
  |some g=>some g
  |none=>O8 l
def KF (fn:Nat) (l:List S):Nat:=match O8 l with
 |some g=>fn+1000000*(g+1)
 |none=>fn
def pick (T:Tab) (fn:Nat) (l:List S):Option Spec:=match Nat.blt fn 1000000 with
 |true=>match T (KF fn l) with
  |some sp=>some sp
  |none=>T fn
 |false=>none
theorem WQ {T:Tab} {fn:Nat} {l:List S} {sp:Spec} {p:Nat→Spec→Prop} (hT :∀f sp,T f=some sp→p (f % 1000000) sp) (h:pick T fn l=some sp):p fn sp:=by
 unfold pick at h
 split at h
 ·rename_i hb
  have hlt:fn<1000000:=Z6 hb
  split at h
  ·rename_i sp' h'
   cases h
   have:=hT _ _ h'
   have e:KF fn l % 1000000=fn:=by unfold KF;split<;>omega
   rwa [e] at this
  ·have:=hT _ _ h
   rwa [JP hlt] at this
 ·cases h
def iT (T:Tab) (tt:TT) (d:Nat) (st:St) (o:Oper) (K:Eff→Prop):Prop:=
 match o.op with
 |.call { callee:=.value f,args,.. }=>match st.bC f with
  |.v (.one (.clo fn caps))=>match pick T fn (args.toList.map st.bC) with
   |some sp=>match fU sp.sig st.o ((args.toList.map st.bC)++caps.map fun x=>S.v (.one x)) with
    |some c=>(c.fine sp.sig&&decide (args.size+caps.length=sp.sig.aO))=true∧∃(bI:List P) (same:List Nat),sp.R c.ins bI∧(∀g∈same,g∈c.ren.map (·.2)∧(jf sp.sig d st.o c bI).aA.lookup g=some (st.o g))∧K (yL same (jf sp.sig d st.o c bI))
    |none=>False
   |none=>False
  |_=>False
 |op=>(∃dc r,bV tt dc d st.o st.bC op o.type=some r∧r.pre∧F8 r.val fun z=>K { x:=r.dst z,aA:=r.aA z,new:=r.new })∨match kernel tt d st.o st.bC op o.type with
  |some r=>r.pre∧bif Bg op then F8 r.val fun z=>K { x:=r.dst z,aA:=r.aA z,new:=r.new } else K { x:=r.dst r.val,aA:=r.aA r.val,new:=r.new }
  |none=>False
def tJ:O→List Nat
 |.box ws=>ws.flatMap W.names
 |_=>[]
def lX (o:Nat→O):Nat→List Nat→List Nat
 |0,gs=>gs
 |n+1,gs=>gs++lX o n (gs.flatMap fun g=>tJ (o g))
def argNames (st:St) (o:Oper):List Nat:=match o.op with
 |.call { callee:=.value _,args,.. }=>args.toList.flatMap fun x=>(st.bC x).names
 |.slice _ x _ _ _=>(st.bC x).names
 |_=>[]
def pG (st:St) (o:Oper):List Nat:=lX st.o 2 (argNames st o)
def gK (st:St) (o:Oper):List Nat:=(pG st o).filter fun g=>match (st.o g).hn with
 | []=>false
 |d::_=>!(argNames st o).contains d
def wI (hs:List Nat) (st:St):List (Nat×O):=hs.flatMap fun g=>(g,(Fw.shuts hs st).o g)::(st.o g).hn.map fun d=>(d,(Fw.shuts hs st).o d)
def yM (hs:List Nat) (st:St) (e:Eff):Eff:=match hs with
 | []=>e
 |g::gs=>{ e with aA:=e.aA++wI (g::gs) st }
def gQ (T:Tab) (tt:TT) (d:Nat) (st:St) (o:Oper) (K:Eff→Prop):Prop:=iT T tt d (Fw.shuts (gK st o) st) o fun e=>K (yM (gK st o) st e)
theorem oG {T:Tab} {tt:TT} {d:Nat} {st:St} {o:Oper} {K:Eff→Prop} (h:gK st o=[]):gQ T tt d st o K↔iT T tt d st o K:=by
 unfold gQ
 rw [h];rfl
theorem NK {st:St} {o:Oper} (h:argNames st o=[]):gK st o=[]:=by
 unfold gK pG
 rw [h];rfl
def St.eff (st:St) (dst:Option Tmp) (e:Eff):St:=(st.aA e.aA e.new).put dst e.x
def stepW (T:Tab) (tt:TT) (N:Nat) (ops:Array Oper) (o:Oper) (st:St) (K:Eff→Prop):Prop:=
 (match o.dst with
  |some d=>decide (d<N)
  |none=>true)=true∧
 match o.guard with
 |none=>gQ T tt (o.dst.getD 0) st o fun e=>e.new.all (fun g=>!st.used g)=true∧K e
 |some (j,want)=>match guardOf ops st j want with
  |some b=>bif b then gQ T tt (o.dst.getD 0) st o fun e=>e.new.all (fun g=>!st.used g)=true∧K e else K Eff.skip
  |none=>False
end Go.Fw

namespace Go.Fw
variable [dB]
theorem jS {α:Type} :∀{l:List (Nat×α)},(l.map (·.1)).Nodup→∀{k:Nat} {v:α},(k,v)∈l→l.lookup k=some v
 | [],_,k,v,h=>by cases h
 |(k0,v0)::l,hn,k,v,h=>by
  simp only [Qt,Vn] at hn
  simp only [List.lookup]
  rcases QQ.1 h with e | e
  ·cases e;simp
  ·have hne:(k==k0)=false:=by
    have:k∈l.map (·.1):=QP.2 ⟨(k,v),e,rfl⟩
    have:k≠k0:=fun e=>hn.1 (by rw [←e];exact this)
    simpa using this
   rw [hne]
   exact jS hn.2 e
theorem iy {α:Type} :∀{l:List (Nat×α)} {k:Nat} {v:α},l.lookup k=some v→(k,v)∈l
 | [],k,v,h=>by simp at h
 |(k0,v0)::l,k,v,h=>by
  simp only [List.lookup] at h
  split at h
  ·rename_i he
   have he:k=k0:=by simpa using he
   simp only [Q0] at h
   subst he h;simp
  ·exact WF _ (iy h)
def cin (c d:Bool×Bool):Prop:=(c.1=true→d.1=true)∧(c.2=true→d.2=true)
theorem DR (c:Bool×Bool):cin c c:=⟨id,id⟩
theorem pX {c c' d:Bool×Bool} (h:cin (sN c c') d):cin c d:=⟨fun e=>h.1 (by simp [sN,e]),fun e=>h.2 (by simp [sN,e])⟩
theorem ng {c c' d:Bool×Bool} (h:cin (sN c c') d):cin c' d:=⟨fun e=>h.1 (by simp [sN,e]),fun e=>h.2 (by simp [sN,e])⟩
def Zk (I:Bool×Bool) (a i a' i':Bool):Prop:=a'=false∧i'=true∧cin (a,i) I
section
variable {o:Nat→O} {ins:List P} {m:Nat→Option Nat} {nil:Nat→Prop} {I:Bool×Bool}
theorem O9 {a i:Bool} {a' i':Bool} (h:(WS.p a' i').flags a i=true):a'=a∧i'=i:=by
 simp only [WS.flags,Qf,beq_iff_eq] at h
 exact ⟨h.1.symm,h.2.symm⟩
theorem w_ {C:Bool→Bool→Bool→Bool→Prop} :∀{gs:List Nat} {caps:List W} {r:List (Nat×Nat)},kN gs caps=some r→(∀p∈r,m p.1=some p.2)→caps.length=(d_ gs).length∧∀(j:Nat) x y,caps[j]?=some x→(d_ gs)[j]?=some y→Ww C m nil x y
 | [],[],r,_,_=>⟨rfl,fun j x y hx=>by simp at hx⟩
 | [],_::_,r,h,_=>by simp [kN] at h
 |_::_,[],r,h,_=>by simp [kN] at h
 |g'::gs,c::cs,r,h,hm=>by
  cases c with
  |box g off=>
   cases off with
   |succ off=>simp [kN] at h
   |zero=>
    simp only [kN] at h
    split at h
    ·rename_i r' hr'
     simp only [Q0] at h;subst h
     obtain ⟨e1,e2⟩:=w_ (C:=C) hr' (fun p hp=>hm p (by simp [hp]))
     refine ⟨by simp [d_,e1],fun j x y hx hy => ?_⟩
     cases j with
     |zero=>
      simp [d_] at hx hy;subst hx hy
      exact .box (hm (g',g) (by simp))
     |succ j=>simp [d_] at hx hy;exact e2 j x y hx hy
    ·cases h
  |_=>simp [kN] at h
theorem Zl {k:WS} {x:W} {us:List P} {c:Bool×Bool} {r:List (Nat×Nat)} {n:Nat} (h:Nj k x=some (us,c,r)) (hk:k.flags false true=true) (hc:cin c I) (hm :∀p∈r,m p.1=some p.2) (ha:At ins n us) :
  Ww (Zk I) m nil x (m_ ins n k).1∧(m_ ins n k).2=n+us.length:=by
 cases k with
 |p a' i'=>
  obtain ⟨rfl,rfl⟩:=O9 hk
  cases x with
  |p a i y=>
   simp only [Nj,Q0,Q1] at h
   obtain ⟨rfl,rfl,rfl⟩:=h
   exact ⟨by simp only [m_,ha.head];exact .p y ⟨rfl,rfl,hc⟩,rfl⟩
  |bM=>
   simp only [Nj,Q0,Q1] at h
   obtain ⟨rfl,rfl,rfl⟩:=h
   exact ⟨by simp only [m_,ha.head];exact .Zg _ _ _,rfl⟩
  |_=>simp [Nj] at h
 |own g'=>
  cases x with
  |own g=>
   simp only [Nj,Q0,Q1] at h
   obtain ⟨rfl,rfl,rfl⟩:=h
   exact ⟨.own (hm (g',g) (by simp)),rfl⟩
  |_=>simp [Nj] at h
 |box g' off'=>
  cases x with
  |box g off=>
   cases off' with
   |succ n=>simp [Nj] at h
   |zero=>
    cases off with
    |succ n=>simp [Nj] at h
    |zero=>
     simp only [Nj,Q0,Q1] at h
     obtain ⟨rfl,rfl,rfl⟩:=h
     exact ⟨.box (hm (g',g) (by simp)),rfl⟩
  |_=>simp [Nj] at h
 |fn f gs=>
  cases x with
  |clo f' caps=>
   simp only [Nj] at h
   split at h
   ·rename_i hf
    subst hf
    split at h
    ·rename_i r' hr'
     simp only [Q0,Q1] at h
     obtain ⟨rfl,rfl,rfl⟩:=h
     obtain ⟨e1,e2⟩:=w_ (C:=Zk I) (nil:=nil) hr' hm
     exact ⟨.clo f caps (d_ gs) e1 e2,rfl⟩
    ·cases h
   ·cases h
  |_=>simp [Nj] at h
 |_=>simp [Nj] at h
theorem O_ :∀{ks:List WS} {xs:List W} {us:List P} {c:Bool×Bool} {r:List (Nat×Nat)} {n:Nat},IY ks xs=some (us,c,r)→(∀k∈ks,k.flags false true=true)→cin c I→(∀p∈r,m p.1=some p.2)→At ins n us→
  xs.length=(jm ins n ks).1.length∧(∀(j:Nat) x y,xs[j]?=some x→(jm ins n ks).1[j]?=some y→Ww (Zk I) m nil x y)∧(jm ins n ks).2=n+us.length
 | [],xs,us,c,r,n,h,hk,hc,hm,ha=>by
  cases xs with
  |nil=>simp [IY] at h;obtain ⟨rfl,_⟩:=h;exact ⟨rfl,fun j x y hx=>by simp at hx,rfl⟩
  |cons x xs=>simp [IY] at h
 |k::ks,xs,us,c,r,n,h,hk,hc,hm,ha=>by
  cases xs with
  |nil=>simp [IY] at h
  |cons x xs=>
   simp only [IY] at h
   split at h
   ·rename_i u c1 r1 u' c2 r2 h1 h2
    simp only [Q0,Q1] at h
    obtain ⟨rfl,rfl,rfl⟩:=h
    obtain ⟨a1,a2⟩:=Zl (nil:=nil) h1 (hk k (by simp)) (pX hc) (fun p hp=>hm p (by simp [hp])) ha.left
    have ih:=O_ (n:=n+u.length) h2 (fun k hk'=>hk k (by simp [hk'])) (ng hc) (fun p hp=>hm p (by simp [hp])) ha.right
    simp only [jm,a2]
    refine ⟨by simp [ih.1],fun j x' y' hx hy => ?_,by rw [ih.2.2];simp;omega⟩
    cases j with
    |zero=>simp at hx hy;subst hx hy;exact a1
    |succ j=>simp at hx hy;exact ih.2.1 j x' y' hx hy
   ·cases h
theorem pY :∀{L:List (Nat×OS)} {ren ren':List (Nat×Nat)} {us:List P} {c:Bool×Bool} {n:Nat},iw o ren L=some (us,c,ren')→
  (∀p∈L,match p.2 with | .box ws =>∀k∈ws,k.flags false true=true | .arr fz a i _=>fz=false∧a=false∧i=true | .ay a i _ _=>a=false∧i=true | .it=>False)→cin c I→(∀p∈ren',m p.1=some p.2)→At ins n us→
  (∃r,ren'=ren++r)∧∀g' x,(eF ins n L).1.lookup g'=some x→∃g,m g'=some g∧Ow (Zk I) m nil (o g) x∧(g',g)∈ren'∧(o g).aX=true∧((∃ws,x=.box ws)∨(∃l sz,x=.arr false false true sz l)∨∃l sz ak,x=.ay false true sz ak l Option.none)
 | [],ren,ren',us,c,n,h,hk,hc,hm,ha=>by
  simp only [iw,Q0,Q1] at h
  obtain ⟨rfl,rfl,rfl⟩:=h
  exact ⟨⟨[],by simp⟩,fun g' x hx=>by simp [eF] at hx⟩
 |(g0,k)::L,ren,ren',us,c,n,h,hk,hc,hm,ha=>by
  simp only [iw] at h
  split at h
  ·rename_i g hg
   split at h
   ·rename_i ks ws hog
    split at h
    ·rename_i u c1 r1 h1
     split at h
     ·rename_i u' c2 r2 h2
      simp only [Q0,Q1] at h
      obtain ⟨rfl,rfl,rfl⟩:=h
      have hk0:=hk (g0,.box ks) (by simp)
      have ih:=fun hm'=>pY (n:=n+u.length) h2 (fun p hp=>hk p (by simp [hp])) (ng hc) hm' ha.right
      obtain ⟨⟨r,hr⟩,ih⟩:=ih hm
      obtain ⟨b0,b1,b2⟩:=O_ (nil:=nil) h1 hk0 (pX hc) (fun p hp=>hm p (by rw [hr];simp [hp])) ha.left
      simp only [eF,pU,b2]
      refine ⟨⟨r1++r,by rw [hr,W6]⟩,fun g' x hx => ?_⟩
      simp only [List.lookup] at hx
      split at hx
      ·rename_i he
       have he:g'=g0:=by simpa using he
       subst he
       simp only [Q0] at hx;subst hx
       have hmem:(g',g)∈r2:=by rw [hr,W6];exact Z2 _ (iy hg)
       exact ⟨g,hm _ hmem,by rw [hog];exact .box _ _ b0 b1,hmem,by rw [hog];rfl,.inl ⟨_,rfl⟩⟩
      ·exact ih g' x hx
     ·cases h
    ·cases h
   ·rename_i fz0 a0 i0 sz a i sz' l hog
    split at h
    ·rename_i hsz
     split at h
     ·rename_i u' c2 r2 h2
      simp only [Q0,Q1] at h
      obtain ⟨rfl,rfl,rfl⟩:=h
      subst hsz
      have hk0:=hk (g0,.arr fz0 a0 i0 sz) (by simp)
      obtain ⟨rfl,rfl,rfl⟩:=hk0
      have hhead:At ins n [P.eG sz l]:=fun k y hk=>ha k y (by cases k with | zero=>simpa using hk | succ k=>simp at hk)
      have htail:At ins (n+1) u':=fun k y hk=>by
       have:=ha (k+1) y (by simpa using hk)
       rw [←this];congr 1;omega
      obtain ⟨⟨r,hr⟩,ih⟩:=pY (n:=n+1) h2 (fun p hp=>hk p (by simp [hp])) (ng hc) hm htail
      simp only [eF,pU,hhead.head,P.lq]
      refine ⟨⟨r,hr⟩,fun g' x hx => ?_⟩
      simp only [List.lookup] at hx
      split at hx
      ·rename_i he
       have he:g'=g0:=by simpa using he
       subst he
       simp only [Q0] at hx;subst hx
       have hmem:(g',g)∈r2:=by rw [hr];exact Z2 _ (iy hg)
       exact ⟨g,hm _ hmem,by rw [hog];exact .arr false sz l ⟨rfl,rfl,pX hc⟩,hmem,by rw [hog];rfl,.inr (.inl ⟨_,_,rfl⟩)⟩
      ·exact ih g' x hx
     ·cases h
    ·cases h
   ·rename_i a0 i0 sz ak a i sz' fD l hog
    split at h
    ·rename_i hsz
     obtain ⟨rfl,rfl⟩:=hsz
     split at h
     ·rename_i u' c2 r2 h2
      simp only [Q0,Q1] at h
      obtain ⟨rfl,rfl,rfl⟩:=h
      have hk0:=hk (g0,.ay a0 i0 sz ak) (by simp)
      obtain ⟨rfl,rfl⟩:=hk0
      have hhead:At ins n [P.eG sz l]:=fun k y hk=>ha k y (by cases k with | zero=>simpa using hk | succ k=>simp at hk)
      have htail:At ins (n+1) u':=fun k y hk=>by
       have:=ha (k+1) y (by simpa using hk)
       rw [←this];congr 1;omega
      obtain ⟨⟨r,hr⟩,ih⟩:=pY (n:=n+1) h2 (fun p hp=>hk p (by simp [hp])) (ng hc) hm htail
      simp only [eF,pU,hhead.head,P.lq]
      refine ⟨⟨r,hr⟩,fun g' x hx => ?_⟩
      simp only [List.lookup] at hx
      split at hx
      ·rename_i he
       have he:g'=g0:=by simpa using he
       subst he
       simp only [Q0] at hx;subst hx
       have hmem:(g',g)∈r2:=by rw [hr];exact Z2 _ (iy hg)
       exact ⟨g,hm _ hmem,by rw [hog];exact .ay sz ak l ⟨rfl,rfl,pX hc⟩,hmem,by rw [hog];rfl,.inr (.inr ⟨_,_,_,rfl⟩)⟩
      ·exact ih g' x hx
     ·cases h
    ·cases h
   ·cases h
  ·cases h
end
section
variable {E E':Env} {st est:St} {gh kC:Nat→Gh} {w:World} {ins:List P} {A:Bool×Bool} {qK:List Nat} {m:Nat→Option Nat} {nil:Nat→Prop} {C:Bool→Bool→Bool→Bool→Prop}
theorem KG (hP :∀x v y a i gs,dH E st gh w x v→x.toP st.o=some (y,a,i,gs)→cin (a,i) A→(∀g∈gs,g∈qK)→bD w (E'.ok est kC w true false) y v) (hC:Cast C m nil E E' st est gh kC w)
  {k:WS} {x:W} {v:Value} {us:List P} {c:Bool×Bool} {gs:List Nat} {r:List (Nat×Nat)} {n:Nat} (h:dP st.o k x=some (us,c,gs,r)) (hk:k.flags true false=true) (hc:cin c A) (hgs :∀g∈gs,g∈qK)
  (hm :∀p∈r,m p.1=some p.2) (ha:At ins n us) (hr:dH E st gh w x v):dH E' est kC w (m_ ins n k).1 v∧(m_ ins n k).2=n+us.length:=by
 cases k with
 |p a' i'=>
  obtain ⟨rfl,rfl⟩:=O9 hk
  simp only [dP] at h
  split at h
  ·rename_i y a i gs' ht
   simp only [Q0,Q1] at h
   obtain ⟨rfl,rfl,rfl,rfl⟩:=h
   exact ⟨by simp only [m_,ha.head];exact .p _ _ _ _ (hP _ _ _ _ _ _ hr ht hc hgs),rfl⟩
  ·cases h
 |own g'=>
  cases x with
  |own g=>
   simp only [dP,Q0,Q1] at h
   obtain ⟨rfl,rfl,rfl,rfl⟩:=h
   exact ⟨hC.wR (.own (hm (g',g) (by simp))) hr,rfl⟩
  |_=>simp [dP] at h
 |box g' off=>
  cases x with
  |box g off'=>
   cases off with
   |succ off=>simp [dP] at h
   |zero=>
    cases off' with
    |succ off'=>simp [dP] at h
    |zero=>
     simp only [dP,Q0,Q1] at h
     obtain ⟨rfl,rfl,rfl,rfl⟩:=h
     exact ⟨hC.wR (.box (hm (g',g) (by simp))) hr,rfl⟩
  |_=>cases off<;>simp [dP] at h
 |fn f gs0=>
  cases x with
  |clo f' caps=>
   simp only [dP] at h
   split at h
   ·rename_i hf
    subst hf
    split at h
    ·rename_i r' hr'
     simp only [Q0,Q1] at h
     obtain ⟨rfl,rfl,rfl,rfl⟩:=h
     obtain ⟨e1,e2⟩:=w_ (C:=C) (nil:=nil) hr' hm
     exact ⟨hC.wR (.clo f caps (d_ gs0) e1 e2) hr,rfl⟩
    ·cases h
   ·cases h
  |_=>simp [dP] at h
 |_=>simp [dP] at h
theorem GV (hP :∀x v y a i gs,dH E st gh w x v→x.toP st.o=some (y,a,i,gs)→cin (a,i) A→(∀g∈gs,g∈qK)→bD w (E'.ok est kC w true false) y v) (hC:Cast C m nil E E' st est gh kC w) :
  ∀{ks:List WS} {xs:List W} {cs:List Value} {us:List P} {c:Bool×Bool} {gs:List Nat} {r:List (Nat×Nat)} {n:Nat},iD st.o ks xs=some (us,c,gs,r)→(∀k∈ks,k.flags true false=true)→cin c A→(∀g∈gs,g∈qK)→
   (∀p∈r,m p.1=some p.2)→At ins n us→xs.length=cs.length→(∀(j:Nat) x v,xs[j]?=some x→cs[j]?=some v→dH E st gh w x v)→
   (jm ins n ks).1.length=cs.length∧(∀(j:Nat) x v,(jm ins n ks).1[j]?=some x→cs[j]?=some v→dH E' est kC w x v)∧(jm ins n ks).2=n+us.length
 | [],xs,cs,us,c,gs,r,n,h,hk,hc,hgs,hm,ha,hl,hr=>by
  cases xs with
  |nil=>simp [iD] at h;obtain ⟨rfl,_⟩:=h;exact ⟨hl,fun j x v hx=>by simp [jm] at hx,rfl⟩
  |cons x xs=>simp [iD] at h
 |k::ks,xs,cs,us,c,gs,r,n,h,hk,hc,hgs,hm,ha,hl,hr=>by
  cases xs with
  |nil=>simp [iD] at h
  |cons x xs=>
   cases cs with
   |nil=>simp at hl
   |cons v cs=>
    simp only [iD] at h
    split at h
    ·rename_i u c1 g1 r1 u' c2 g2 r2 h1 h2
     simp only [Q0,Q1] at h
     obtain ⟨rfl,rfl,rfl,rfl⟩:=h
     obtain ⟨a1,a2⟩:=KG hP hC h1 (hk k (by simp)) (pX hc) (fun g hg=>hgs g (by simp [hg])) (fun p hp=>hm p (by simp [hp])) ha.left (hr 0 x v rfl rfl)
     have ih:=GV hP hC (n:=n+u.length) h2 (fun k hk'=>hk k (by simp [hk'])) (ng hc) (fun g hg=>hgs g (by simp [hg])) (fun p hp=>hm p (by simp [hp])) ha.right (by simpa using hl)
      (fun j a b ha hb=>hr (j+1) a b (by simpa using ha) (by simpa using hb))
     simp only [jm,a2]
     refine ⟨by simp [ih.1],fun j x' v' hx hv => ?_,by rw [ih.2.2];simp;omega⟩
     cases j with
     |zero=>simp at hx hv;subst hx hv;exact a1
     |succ j=>simp at hx hv;exact ih.2.1 j x' v' hx hv
    ·cases h
theorem Uh (hP :∀x v y a i gs,dH E st gh w x v→x.toP st.o=some (y,a,i,gs)→cin (a,i) A→(∀g∈gs,g∈qK)→bD w (E'.ok est kC w true false) y v) (hC:Cast C m nil E E' st est gh kC w)
  {k:SS} {x:S} {v:Value} {us:List P} {c:Bool×Bool} {gs:List Nat} {r:List (Nat×Nat)} {n:Nat} (h:lF st.o k x=some (us,c,gs,r)) (hk:k.flags true false=true) (hc:cin c A) (hgs :∀g∈gs,g∈qK)
  (hm :∀p∈r,m p.1=some p.2) (ha:At ins n us) (hr:bP E st gh w x v):bP E' est kC w (mkS ins n k).1 v∧(mkS ins n k).2=n+us.length:=by
 cases k with
 |one k=>
  cases x with
  |v x=>
   cases x with
   |one x=>
    obtain ⟨a1,a2⟩:=KG hP hC h hk hc hgs hm ha hr.bU
    exact ⟨bP.CS a1,a2⟩
   |agg xs=>simp [lF] at h
  |_=>simp [lF] at h
 |agg ks=>
  cases x with
  |v x=>
   cases x with
   |one x=>simp [lF] at h
   |agg xs=>
    obtain ⟨cs,hv,hl,hone,hrr⟩:=hr.CQ
    simp only [SS.flags,X2] at hk
    obtain ⟨a0,a1,a2⟩:=GV hP hC h hk hc hgs hm ha hl hrr
    subst hv
    exact ⟨.v _ _ (.agg _ cs a0 hone a1),a2⟩
  |_=>simp [lF] at h
theorem yN (hP :∀x v y a i gs,dH E st gh w x v→x.toP st.o=some (y,a,i,gs)→cin (a,i) A→(∀g∈gs,g∈qK)→bD w (E'.ok est kC w true false) y v) (hC:Cast C m nil E E' st est gh kC w) {args:List S} {vals:Nat→Value}
  (hr :∀t,bP E st gh w (args.getD t .no) (vals t)) :
  ∀{L:List (Nat×SS)} {us:List P} {c:Bool×Bool} {gs:List Nat} {r:List (Nat×Nat)} {n:Nat},dD st.o args L=some (us,c,gs,r)→(∀p∈L,p.2.flags true false=true)→cin c A→(∀g∈gs,g∈qK)→
   (∀p∈r,m p.1=some p.2)→At ins n us→(∀t x,(bJ ins n L).1.lookup t=some x→bP E' est kC w x (vals t))∧(bJ ins n L).2=n+us.length
 | [],us,c,gs,r,n,h,hk,hc,hgs,hm,ha=>by
  simp [dD] at h;obtain ⟨rfl,_⟩:=h;exact ⟨fun t x hx=>by simp [bJ] at hx,rfl⟩
 |(t0,k)::L,us,c,gs,r,n,h,hk,hc,hgs,hm,ha=>by
  simp only [dD] at h
  split at h
  ·rename_i u c1 g1 r1 u' c2 g2 r2 h1 h2
   simp only [Q0,Q1] at h
   obtain ⟨rfl,rfl,rfl,rfl⟩:=h
   obtain ⟨a1,a2⟩:=Uh hP hC h1 (hk (t0,k) (by simp)) (pX hc) (fun g hg=>hgs g (by simp [hg])) (fun p hp=>hm p (by simp [hp])) ha.left (hr t0)
   have ih:=yN hP hC hr (n:=n+u.length) h2 (fun p hp=>hk p (by simp [hp])) (ng hc) (fun g hg=>hgs g (by simp [hg])) (fun p hp=>hm p (by simp [hp])) ha.right
   simp only [bJ,a2]
   refine ⟨fun t x hx => ?_,by rw [ih.2];simp;omega⟩
   simp only [List.lookup] at hx
   split at hx
   ·rename_i he
    have he:t=t0:=by simpa using he
    subst he
    simp only [Q0] at hx;subst hx
    exact a1
   ·exact ih.1 t x hx
  ·cases h
end
end Go.Fw

namespace Go.Fw
variable [dB]
def Enters (Pg:Program) (f:FuncId):Prop :=∀(args:Array Value) (w:World),(callFunc f args).run Pg w=.ok (.enter f args) w
def Q7 (rs:List Value):Value:=match rs with
 | [v]=>v
 |vs=>.tuple vs.toArray
def Sound (Pg:Program) (f:FuncId) (sp:Spec):Prop:=sp.sig.ok=true∧Enters Pg f∧
 ∀(E:Env) (w:World) (vals:List Value) (gh:Nat→Gh) (ins bI:List P),sp.R ins bI→E.B0=w.heap.size→E.w0=w→Rel E (mk sp.sig.pin ins) gh (fun k=>vals.getD k undef) w→vals.length=sp.sig.aO→
  Calls Pg f vals.toArray w fun e w' =>∃(rs:List Value) (aT:Nat→Gh),rs.length=sp.sig.dL∧e=.returned (Q7 rs)∧Rel E (mk sp.sig.aQ bI) aT (fun k=>rs.getD k undef) w'∧∀g∈sp.sig.aY,((aT g).ad=(gh g).ad∧(aT g).cap=(gh g).cap)∧((mk sp.sig.pin ins).o g).like ((mk sp.sig.aQ bI).o g)
theorem WR {o:Nat→O} {x:W} {y:P} {a i:Bool} {gs:List Nat} (h:x.toP o=some (y,a,i,gs)):sV o gs:=by
 cases x<;>simp only [W.toP] at h
 case p=>simp only [Q0,Q1] at h;obtain ⟨_,_,_,rfl⟩:=h;exact sV.nil
 case bM=>simp only [Q0,Q1] at h;obtain ⟨_,_,_,rfl⟩:=h;exact sV.nil
 case own g=>
  split at h
  ·rename_i ho
   simp only [Q0,Q1] at h;obtain ⟨_,_,_,rfl⟩:=h
   exact qU ho
  ·cases h
 case vw g lo hi=>
  split at h
  ·rename_i ho
   simp only [Q0,Q1] at h;obtain ⟨_,_,_,rfl⟩:=h
   exact qU ho
  ·cases h
 all_goals cases h
theorem KH {o:Nat→O} {k:WS} {x:W} {us:List P} {c:Bool×Bool} {gs:List Nat} {r:List (Nat×Nat)} (h:dP o k x=some (us,c,gs,r)):sV o gs:=by
 cases k with
 |p a i=>
  simp only [dP] at h
  split at h
  ·rename_i ht
   simp only [Q0,Q1] at h
   obtain ⟨_,_,rfl,_⟩:=h
   exact WR ht
  ·cases h
 |own g'=>cases x<;>simp [dP] at h;obtain ⟨_,_,rfl,_⟩:=h;exact sV.nil
 |box g' off=>
  cases off with
  |succ off=>cases x<;>simp [dP] at h
  |zero=>
   cases x with
   |box g off=>cases off<;>simp [dP] at h;obtain ⟨_,_,rfl,_⟩:=h;exact sV.nil
   |_=>simp [dP] at h
 |bM=>simp [dP] at h
 |fn f gs0=>
  cases x with
  |clo f' caps=>
   simp only [dP] at h
   split at h
   ·split at h
    ·simp only [Q0,Q1] at h;obtain ⟨_,_,rfl,_⟩:=h;exact sV.nil
    ·cases h
   ·cases h
  |_=>simp [dP] at h
 |kH g'=>simp [dP] at h
 |no=>simp [dP] at h
 |vw g'=>simp [dP] at h
 |ep g' off=>simp [dP] at h
theorem GX {o:Nat→O} :∀{ks:List WS} {xs:List W} {us:List P} {c:Bool×Bool} {gs:List Nat} {r:List (Nat×Nat)},iD o ks xs=some (us,c,gs,r)→sV o gs
 | [],xs,us,c,gs,r,h=>by
  cases xs<;>simp [iD] at h
  obtain ⟨_,_,rfl,_⟩:=h;exact sV.nil
 |k::ks,xs,us,c,gs,r,h=>by
  cases xs with
  |nil=>simp [iD] at h
  |cons x xs=>
   simp only [iD] at h
   split at h
   ·rename_i h1 h2
    simp only [Q0,Q1] at h
    obtain ⟨_,_,rfl,_⟩:=h
    exact (KH h1).append (GX h2)
   ·cases h
theorem rE {o:Nat→O} {args:List S} :∀{L:List (Nat×SS)} {us:List P} {c:Bool×Bool} {gs:List Nat} {r:List (Nat×Nat)},dD o args L=some (us,c,gs,r)→sV o gs
 | [],us,c,gs,r,h=>by simp [dD] at h;obtain ⟨_,_,rfl,_⟩:=h;exact sV.nil
 |(t,k)::L,us,c,gs,r,h=>by
  simp only [dD] at h
  split at h
  ·rename_i h1 h2
   simp only [Q0,Q1] at h
   obtain ⟨_,_,rfl,_⟩:=h
   refine sV.append ?_ (rE h2)
   ·cases k with
    |one k=>
     generalize args.getD t S.no=z at h1
     cases z with
     |v z=>
      cases z with
      |one z=>exact KH h1
      |agg z=>simp [lF] at h1
     |_=>simp [lF] at h1
    |agg ks=>
     generalize args.getD t S.no=z at h1
     cases z with
     |v z=>
      cases z with
      |one z=>simp [lF] at h1
      |agg z=>exact GX h1
     |_=>simp [lF] at h1
  ·cases h
theorem rF {vs:List P} :∀{L:List (Nat×OS)} {n g:Nat},g∈L.map (·.1)→∃x,(eF vs n L).1.lookup g=some x
 | [],n,g,h=>by simp at h
 |(g0,k)::L,n,g,h=>by
  simp only [eF,List.lookup]
  by_cases e:g=g0
  ·subst e;simp
  ·have:(g==g0)=false:=by simpa using e
   rw [this]
   exact rF (by simpa [e] using h)
theorem jo {vs:List P} :∀{L:List (Nat×OS)} {n g:Nat} {x:O},(eF vs n L).1.lookup g=some x→∃k n',(g,k)∈L∧x=(pU vs n' k).1
 | [],n,g,x,h=>by simp [eF] at h
 |(g0,k)::L,n,g,x,h=>by
  simp only [eF,List.lookup] at h
  split at h
  ·rename_i e
   have e:g=g0:=by simpa using e
   subst e
   simp only [Q0] at h
   exact ⟨k,n,by simp,h.symm⟩
  ·obtain ⟨k',n',h1,h2⟩:=jo h
   exact ⟨k',n',by simp [h1],h2⟩
theorem tK {vs:List P} :∀{L:List (Nat×SS)} {n t:Nat} {x:S},(bJ vs n L).1.lookup t=some x→∃k n',(t,k)∈L∧x=(mkS vs n' k).1
 | [],n,t,x,h=>by simp [bJ] at h
 |(t0,k)::L,n,t,x,h=>by
  simp only [bJ,List.lookup] at h
  split at h
  ·rename_i e
   have e:t=t0:=by simpa using e
   subst e
   simp only [Q0] at h
   exact ⟨k,n,by simp,h.symm⟩
  ·obtain ⟨k',n',h1,h2⟩:=tK h
   exact ⟨k',n',by simp [h1],h2⟩
theorem GY (vs:List P) (n:Nat) (k:WS):(m_ vs n k).1.names=k.names:=by
 cases k with
 |fn f gs=>simp only [m_,pW,rD,WS.names]
 |_=>simp [m_,W.names,WS.names]
theorem xg (vs:List P) :∀(n:Nat) (ks:List WS),(jm vs n ks).1.flatMap W.names=ks.flatMap WS.names
 |n,[]=>rfl
 |n,k::ks=>by simp [jm,GY,xg vs _ ks]
theorem Q8 (vs:List P) (n:Nat) (k:SS):(mkS vs n k).1.names=k.names:=by
 cases k with
 |one k=>simpa [mkS,S.names,V.names,SS.names] using GY vs n k
 |agg ks=>simpa [mkS,S.names,V.names,SS.names] using xg vs n ks
theorem Q9 (vs:List P) (n:Nat) (k:OS):(pU vs n k).1.names=k.names:=by
 cases k with
 |box ks=>simpa [pU,O.names,OS.names] using xg vs n ks
 |arr=>simp [pU,O.names,OS.names]
 |it=>simp [pU,O.names,OS.names]
 |ay=>simp [pU,O.names,OS.names,bF]
theorem NM {j:Shape} {vs:List P} {g:Nat} (h:(mk j vs).o g≠.none):(eF vs (bJ vs 0 j.slots).2 j.aN).1.lookup g=some ((mk j vs).o g):=by
 unfold mk at h ⊢
 simp only at h ⊢
 split at h
 ·rename_i x hx;rw [hx]
 ·exact absurd rfl h
theorem Q_ {j:Shape} {vs:List P} {g:Nat} (h:g∉j.nms):(mk j vs).o g=.none:=by
 by_cases hn:(mk j vs).o g=.none
 ·exact hn
 ·obtain ⟨k,n',h1,h2⟩:=jo (NM hn)
  exact absurd (QP.2 ⟨_,h1,rfl⟩) h
theorem YC {j:Shape} (hj:j.ok=true) (vs:List P):(∀t,∀g∈((mk j vs).s t).names,(mk j vs).used g=true)∧(∀g,∀g'∈((mk j vs).o g).names,(mk j vs).used g'=true)∧∀g,(mk j vs).o g≠.none→(mk j vs).used g=true:=by
 simp only [Qf,Shape.ok,X2,W7,decide_eq_true_eq] at hj
 refine ⟨fun t g hg => ?_,fun g g' hg' => ?_,fun g hg => ?_⟩
 ·have hg:g∈(match (bJ vs 0 j.slots).1.lookup t with | some x=>x | none=>S.no).names:=hg
  cases hx:(bJ vs 0 j.slots).1.lookup t with
  |none=>rw [hx] at hg;simp [S.names] at hg
  |some x=>
   rw [hx] at hg
   obtain ⟨k,n',h1,h2⟩:=tK hx
   subst h2
   simp only at hg
   rw [Q8] at hg
   simpa [mk] using hj.1.2 _ h1 g hg
 ·by_cases hn:(mk j vs).o g=.none
  ·rw [hn] at hg';simp [O.names] at hg'
  ·obtain ⟨k,n',h1,h2⟩:=jo (NM hn)
   rw [h2,Q9] at hg'
   simpa [mk] using hj.2 _ h1 g' hg'
 ·obtain ⟨k,n',h1,h2⟩:=jo (NM hg)
  simp only [mk,W7,decide_eq_true_eq,Shape.nms]
  exact QP.2 ⟨_,h1,rfl⟩
section
variable {E:Env} {st:St} {gh:Nat→Gh} {w:World} {val:Nat→Value}
def Ph (h:Rel E st gh val w) (st1:St) (c:GU):Env where
 FA:=fun b=>E.ok st1 gh w c.A.1 c.A.2 b
 FI:=fun b=>E.ok st gh w c.I.1 c.I.2 b
 B0:=w.heap.size
 w0:=w
 Wr:=fun b =>∃p∈c.ren,(st.o p.2).aX=true∧(gh p.2).has b
 hg:=fun g sz rows hg=>by
  obtain ⟨g1,g2,g3⟩:=E.hg g sz rows hg
  refine ⟨Wg g1 h.size,?_,fun n x hx=>⟨(g3 n x hx).1,fun j y hy => ?_⟩⟩
  ·rintro ⟨p,hp,ho,h1⟩
   rcases (h.wr p.2 g ho h1).1 with q | q
   ·omega
   ·exact g2 q
  ·obtain ⟨u,hu1,hu2⟩:=(g3 n x hx).2 j y hy
   exact ⟨u,(World.cell?_of_block (w:=E.w0) (h.frame g g1 g2)).trans hu1,hu2.mono fun _ f=>f.elim⟩
theorem Bh {vs:List P} :∀{L:List (Nat×OS)} {n:Nat} {g:Nat} {k:OS},L.lookup g=some k→∃n',(eF vs n L).1.lookup g=some (pU vs n' k).1
 | [],n,g,k,h=>by cases h
 |(g0,k0)::L,n,g,k,h=>by
  simp only [eF,List.lookup] at h ⊢
  split at h
  ·cases h;exact ⟨_,rfl⟩
  ·exact Bh h
theorem IZ {j:Shape} {vs:List P} {g:Nat} {k:OS} (h:j.aN.lookup g=some k) :∃n',(mk j vs).o g=(pU vs n' k).1:=by
 obtain ⟨n',h1⟩:=Bh (vs:=vs) (n:=(bJ vs 0 j.slots).2) h
 refine ⟨n',?_⟩
 show (match (eF vs (bJ vs 0 j.slots).2 j.aN).1.lookup g with | some x=>x | none=>O.none)=_
 rw [h1]
theorem KI {j:Shape} {vs:List P} {g:Nat} (h:OS.Ug (j.aN.lookup g)=true) :∃ws,(mk j vs).o g=.box ws:=by
 cases hl:j.aN.lookup g with
 |none=>rw [hl] at h;cases h
 |some k=>
  rw [hl] at h
  cases k with
  |box ks=>obtain ⟨n',h1⟩:=IZ (vs:=vs) hl;exact ⟨_,h1⟩
  |arr=>cases h
  |it=>cases h
  |ay=>cases h
theorem wH.Rf {s:wH} (h:s.Zj=true) {ins bI:List P} :∀g∈s.aY,((Fw.mk s.pin ins).o g).like ((Fw.mk s.aQ bI).o g):=fun g hg=>by
 have:=(X2.1 h) g hg
 simp only [Qf] at this
 obtain ⟨ws,e1⟩:=KI (vs:=ins) this.1
 obtain ⟨ws',e2⟩:=KI (vs:=bI) this.2
 rw [e1,e2];trivial
theorem kE {p:Nat×Nat} :∀{r:List (Nat×Nat)},p∈iJ r↔p∈r
 | []=>Iff.rfl
 |q::r=>by
  simp only [iJ]
  cases h:(r.any fun x=>Nat.beq x.1 q.1&&Nat.beq x.2 q.2) with
  |true=>
   simp only [kE (r:=r),QQ]
   refine ⟨.inr,fun hp => ?_⟩
   rcases hp with rfl | hp
   ·obtain ⟨x,hx,e⟩:=Kc.1 h
    simp only [Qf] at e
    have e1:=Q4 e.1
    have e2:=Q4 e.2
    have:x=p:=Prod.ext e1 e2
    rw [←this];exact hx
   ·exact hp
  |false=>simp only [QQ,kE (r:=r)]
def oH:O→O
 |.arr fz _ _ sz l=>.arr fz false false sz l
 |.ay _ _ sz ak l hole=>.ay false false sz ak l hole
 |x=>x
def pI:O→Bool×Bool
 |.arr _ a i _ _=>(a,i)
 |.ay a i _ _ _ _=>(a,i)
 |_=>(false,false)
def NP:O→Bool
 |.arr _ _ _ _ _=>true
 |.ay _ _ _ _ _ _=>true
 |_=>false
theorem NQ {x y:O} (h:oH x=oH y) (hf:pI x=pI y) (ha:NP x=true):x=y:=by
 cases x<;>simp only [NP,Zs] at ha<;>cases y<;>simp only [oH,pI,O.arr.injEq,O.ay.injEq,Q1,reduceCtorEq] at h hf
 ·obtain ⟨rfl,_,_,rfl,rfl⟩:=h;obtain ⟨rfl,rfl⟩:=hf;rfl
 ·obtain ⟨_,_,rfl,rfl,rfl,rfl⟩:=h;obtain ⟨rfl,rfl⟩:=hf;rfl
theorem Rh {s:wH} (hok:s.ok=true) {o:Nat→O} {args:List S} {c:GU} (hc:fU s o args=some c) (hf:c.fine s=true) :∀p∈c.ren,NP (o p.2)=true→oH ((mk s.pin c.ins).o p.1)=oH (o p.2):=by
 unfold fU at hc
 split at hc
 ·rename_i u A gs r hsl
  split at hc
  ·rename_i u' I r' hob
   simp only [Q0] at hc;subst hc
   simp only [GU.fine,Qf,X2,IX,W7,decide_eq_true_eq,Wc,decide_eq_false_iff_not,QP,forall_exists_index,and_imp,forall_apply_eq_imp_iff₂] at hf
   obtain ⟨⟨⟨hn2,hn1⟩,hdisj⟩,hkeys⟩:=hf
   have hn1:=gY hn1
   have hok':=hok
   simp only [wH.ok,Qf] at hok'
   obtain ⟨⟨⟨⟨⟨⟨⟨⟨Ui,Pj⟩,hps⟩,hpo⟩,_⟩,_⟩,_⟩,_⟩,_⟩:=hok'
   have hm :∀p∈r',(fun g'=>(iJ r').lookup g') p.1=some p.2:=fun p hp=>jS hn1 (kE.2 hp)
   have hAt:At (u++u') 0 (u++u'):=fun k y hk=>by rw [Wb];exact hk
   have Zm :∀p∈s.pin.aN,match p.2 with | .box ws =>∀k∈ws,k.flags false true=true | .arr fz a i _=>fz=false∧a=false∧i=true | .ay a i _ _=>a=false∧i=true | .it=>False:=by
    intro p hp
    have:=(X2.1 hpo) p hp
    obtain ⟨g,k⟩:=p
    cases k with
    |box ws=>
     simp only [Qf,X2] at this
     exact fun k hk=>this.1 k hk
    |arr fz a i sz=>
     simp only [Qf,Wc] at this
     exact ⟨this.1.1,this.1.2,this.2⟩
    |ay a i sz ak=>
     simp only [Qf,Wc] at this
     exact this
    |it=>simp at this
   have KJ:(bJ (u++u') 0 s.pin.slots).2=u.length:=by
    have :∀{L:List (Nat×SS)} {us:List P} {c:Bool×Bool} {gs:List Nat} {r:List (Nat×Nat)} {n:Nat} (vs:List P),dD o args L=some (us,c,gs,r)→(∀p∈L,p.2.flags true false=true)→(bJ vs n L).2=n+us.length:=by
     intro L
     induction L with
     |nil=>intro us c gs r n vs h _;simp [dD] at h;obtain ⟨rfl,_⟩:=h;rfl
     |cons p L ih=>
      intro us c gs r n vs h hk
      obtain ⟨t0,k⟩:=p
      simp only [dD] at h
      split at h
      ·rename_i u c1 g1 r1 u' c2 g2 r2 h1 h2
       simp only [Q0,Q1] at h
       obtain ⟨rfl,rfl,rfl,rfl⟩:=h
       have e1:(mkS vs n k).2=n+u.length:=by
        have hkk:=hk (t0,k) (by simp)
        have one :∀(k:WS) (x:W) (us:List P) (c:Bool×Bool) (gs:List Nat) (r:List (Nat×Nat)) (n:Nat),dP o k x=some (us,c,gs,r)→(m_ vs n k).2=n+us.length:=by
         intro k x us c gs r n h
         cases k with
         |p a i=>
          simp only [dP] at h
          split at h
          ·simp only [Q0,Q1] at h;obtain ⟨rfl,_⟩:=h;rfl
          ·cases h
         |own g'=>cases x<;>simp [dP] at h;obtain ⟨rfl,_⟩:=h;rfl
         |box g' off=>
          cases off with
          |succ off=>cases x<;>simp [dP] at h
          |zero=>
           cases x with
           |box g off=>cases off<;>simp [dP] at h;obtain ⟨rfl,_⟩:=h;rfl
           |_=>simp [dP] at h
         |bM=>simp [dP] at h
         |fn f gs0=>
          cases x with
          |clo f' caps=>
           simp only [dP] at h
           split at h
           ·split at h
            ·simp only [Q0,Q1] at h;obtain ⟨rfl,_⟩:=h;rfl
            ·cases h
           ·cases h
          |_=>simp [dP] at h
         |kH g'=>simp [dP] at h
         |no=>simp [dP] at h
         |vw g'=>simp [dP] at h
         |ep g' off=>simp [dP] at h
        cases k with
        |one k=>
         generalize args.getD t0 S.no=z at h1
         cases z with
         |v z=>
          cases z with
          |one z=>exact one k z _ _ _ _ n h1
          |agg z=>simp [lF] at h1
         |_=>simp [lF] at h1
        |agg ks=>
         generalize args.getD t0 S.no=z at h1
         cases z with
         |v z=>
          cases z with
          |one z=>simp [lF] at h1
          |agg z=>
           have :∀(ks:List WS) (z:List W) (us:List P) (c:Bool×Bool) (gs:List Nat) (r:List (Nat×Nat)) (n:Nat),iD o ks z=some (us,c,gs,r)→(jm vs n ks).2=n+us.length:=by
            intro ks
            induction ks with
            |nil=>intro z us c gs r n h;cases z<;>simp [iD] at h;obtain ⟨rfl,_⟩:=h;rfl
            |cons k ks ih=>
             intro z us c gs r n h
             cases z with
             |nil=>simp [iD] at h
             |cons x xs=>
              simp only [iD] at h
              split at h
              ·rename_i u c1 g1 r1 u' c2 g2 r2 h1 h2
               simp only [Q0,Q1] at h
               obtain ⟨rfl,rfl,rfl,rfl⟩:=h
               simp only [jm]
               rw [one k x _ _ _ _ n h1,ih _ _ _ _ _ _ h2];simp;omega
              ·cases h
           exact this ks z _ _ _ _ n h1
         |_=>simp [lF] at h1
       simp only [bJ]
       rw [e1,ih vs h2 (fun p hp=>hk p (by simp [hp]))];simp;omega
      ·cases h
    have:=this (n:=0) (u++u') hsl (fun p hp=>by have:=(X2.1 hps) p hp;simp only [Qf] at this;exact this.1)
    omega
   obtain ⟨⟨r0,hr0⟩,KL⟩:=pY (m:=fun g'=>(iJ r').lookup g') (nil:=fun _=>False) (I:=I) (ins:=u++u') (n:=u.length) hob Zm (DR I) hm (by have:=hAt.right;rwa [Wb] at this)
   have zK :∀g' x,(mk s.pin (u++u')).o g'=x→x≠.none→∃g,(iJ r').lookup g'=some g∧Ow (Zk I) (fun g'=>(iJ r').lookup g') (fun _=>False) (o g) x∧(g',g)∈iJ r'∧(o g).aX=true∧((∃ws,x=.box ws)∨(∃l sz,x=.arr false false true sz l)∨∃l sz ak,x=.ay false true sz ak l none):=by
    intro g' x hx hne
    have:=NM (j:=s.pin) (vs:=u++u') (g:=g') (by rw [hx];exact hne)
    rw [KJ,hx] at this
    obtain ⟨g,k1,k2,k3,k4⟩:=KL g' x this
    exact ⟨g,k1,k2,kE.2 k3,k4⟩
   intro p hp ha
   have hkey:p.1∈s.pin.aN.map (·.1):=hkeys p hp
   obtain ⟨x,hx⟩:=rF (vs:=u++u') (n:=u.length) hkey
   obtain ⟨g,hg,how,hmem,hown,hsh⟩:=KL p.1 x hx
   have hl:=jS hn1 hp
   have:g=p.2:=by have hg':(iJ r').lookup p.1=some g:=hg;rw [hl] at hg';exact (Wa hg').symm
   subst this
   have hmk:(mk s.pin (u++u')).o p.1=x:=by
    show (match (eF (u++u') (bJ (u++u') 0 s.pin.slots).2 s.pin.aN).1.lookup p.1 with | some x=>x | none=>O.none)=x
    rw [KJ,hx]
   rw [hmk]
   generalize hz:o p.2=z at how ha
   rcases hsh with ⟨ws,rfl⟩ | ⟨l,sz,rfl⟩ | ⟨l,sz,ak,rfl⟩
   ·cases how;cases ha
   ·cases how;rfl
   ·cases how;rfl
  ·cases hc
 ·cases hc
theorem NR (h:Rel E st gh val w) {s:wH} (hok:s.ok=true) {args:List S} {vals:Nat→Value} (hr :∀t,bP E st gh w (args.getD t .no) (vals t)) {c:GU} (hc:fU s st.o args=some c) (hf:c.fine s=true)
  (st1:St) (hst1:st1=st.aA (c.qK.map (Fw.aH st.o)) []) (E':Env) (hE':E'=Ph h st1 c) :
  Rel E st1 gh val w∧Lets E st st1 gh gh w w∧Rel E' (mk s.pin c.ins) (iI gh fun g'=>c.ren.lookup g') vals w∧
  (∀p∈c.ren,(st.o p.2).aX=true∧p.2∉c.qK∧c.ren.lookup p.1=some p.2∧((s.aY.contains p.1=true∧∃ws ws',st.o p.2=.box ws∧(mk s.pin c.ins).o p.1=.box ws')∨(∃a i sz l,st.o p.2=.arr false a i sz l∧cin (a,i) c.I∧(mk s.pin c.ins).o p.1=.arr false false true sz l)∨(∃a i sz ak l,st.o p.2=.ay a i sz ak l none∧cin (a,i) c.I∧(mk s.pin c.ins).o p.1=.ay false true sz ak l none))):=by
 unfold fU at hc
 split at hc
 ·rename_i u A gs r hsl
  split at hc
  ·rename_i u' I r' hob
   simp only [Q0] at hc;subst hc
   simp only [GU.fine,Qf,X2,IX,W7,decide_eq_true_eq,Wc,decide_eq_false_iff_not,QP,forall_exists_index,and_imp,forall_apply_eq_imp_iff₂] at hf
   obtain ⟨⟨⟨hn2,hn1⟩,hdisj⟩,hkeys⟩:=hf
   have hn1:=gY hn1
   have hok':=hok
   simp only [wH.ok,Qf] at hok'
   obtain ⟨⟨⟨⟨⟨⟨⟨⟨Ui,Pj⟩,hps⟩,hpo⟩,_⟩,_⟩,_⟩,_⟩,_⟩:=hok'
   have Zn:=rE hsl
   obtain ⟨f1,f2⟩:=Rel.freezes gs h Zn
   subst hst1
   have hm :∀p∈r',(fun g'=>(iJ r').lookup g') p.1=some p.2:=fun p hp=>jS hn1 (kE.2 hp)
   have hAt:At (u++u') 0 (u++u'):=fun k y hk=>by rw [Wb];exact hk
   have Zm :∀p∈s.pin.aN,match p.2 with | .box ws =>∀k∈ws,k.flags false true=true | .arr fz a i _=>fz=false∧a=false∧i=true | .ay a i _ _=>a=false∧i=true | .it=>False:=by
    intro p hp
    have:=(X2.1 hpo) p hp
    obtain ⟨g,k⟩:=p
    cases k with
    |box ws=>
     simp only [Qf,X2] at this
     exact fun k hk=>this.1 k hk
    |arr fz a i sz=>
     simp only [Qf,Wc] at this
     exact ⟨this.1.1,this.1.2,this.2⟩
    |ay a i sz ak=>
     simp only [Qf,Wc] at this
     exact this
    |it=>simp at this
   have KJ:(bJ (u++u') 0 s.pin.slots).2=u.length:=by
    have :∀{L:List (Nat×SS)} {us:List P} {c:Bool×Bool} {gs:List Nat} {r:List (Nat×Nat)} {n:Nat} (vs:List P),dD st.o args L=some (us,c,gs,r)→(∀p∈L,p.2.flags true false=true)→(bJ vs n L).2=n+us.length:=by
     intro L
     induction L with
     |nil=>intro us c gs r n vs h _;simp [dD] at h;obtain ⟨rfl,_⟩:=h;rfl
     |cons p L ih=>
      intro us c gs r n vs h hk
      obtain ⟨t0,k⟩:=p
      simp only [dD] at h
      split at h
      ·rename_i u c1 g1 r1 u' c2 g2 r2 h1 h2
       simp only [Q0,Q1] at h
       obtain ⟨rfl,rfl,rfl,rfl⟩:=h
       have e1:(mkS vs n k).2=n+u.length:=by
        have hkk:=hk (t0,k) (by simp)
        have one :∀(k:WS) (x:W) (us:List P) (c:Bool×Bool) (gs:List Nat) (r:List (Nat×Nat)) (n:Nat),dP st.o k x=some (us,c,gs,r)→(m_ vs n k).2=n+us.length:=by
         intro k x us c gs r n h
         cases k with
         |p a i=>
          simp only [dP] at h
          split at h
          ·simp only [Q0,Q1] at h;obtain ⟨rfl,_⟩:=h;rfl
          ·cases h
         |own g'=>cases x<;>simp [dP] at h;obtain ⟨rfl,_⟩:=h;rfl
         |box g' off=>
          cases off with
          |succ off=>cases x<;>simp [dP] at h
          |zero=>
           cases x with
           |box g off=>cases off<;>simp [dP] at h;obtain ⟨rfl,_⟩:=h;rfl
           |_=>simp [dP] at h
         |bM=>simp [dP] at h
         |fn f gs0=>
          cases x with
          |clo f' caps=>
           simp only [dP] at h
           split at h
           ·split at h
            ·simp only [Q0,Q1] at h;obtain ⟨rfl,_⟩:=h;rfl
            ·cases h
           ·cases h
          |_=>simp [dP] at h
         |kH g'=>simp [dP] at h
         |no=>simp [dP] at h
         |vw g'=>simp [dP] at h
         |ep g' off=>simp [dP] at h
        cases k with
        |one k=>
         generalize args.getD t0 S.no=z at h1
         cases z with
         |v z=>
          cases z with
          |one z=>exact one k z _ _ _ _ n h1
          |agg z=>simp [lF] at h1
         |_=>simp [lF] at h1
        |agg ks=>
         generalize args.getD t0 S.no=z at h1
         cases z with
         |v z=>
          cases z with
          |one z=>simp [lF] at h1
          |agg z=>
           have :∀(ks:List WS) (z:List W) (us:List P) (c:Bool×Bool) (gs:List Nat) (r:List (Nat×Nat)) (n:Nat),iD st.o ks z=some (us,c,gs,r)→(jm vs n ks).2=n+us.length:=by
            intro ks
            induction ks with
            |nil=>intro z us c gs r n h;cases z<;>simp [iD] at h;obtain ⟨rfl,_⟩:=h;rfl
            |cons k ks ih=>
             intro z us c gs r n h
             cases z with
             |nil=>simp [iD] at h
             |cons x xs=>
              simp only [iD] at h
              split at h
              ·rename_i u c1 g1 r1 u' c2 g2 r2 h1 h2
               simp only [Q0,Q1] at h
               obtain ⟨rfl,rfl,rfl,rfl⟩:=h
               simp only [jm]
               rw [one k x _ _ _ _ n h1,ih _ _ _ _ _ _ h2];simp;omega
              ·cases h
           exact this ks z _ _ _ _ n h1
         |_=>simp [lF] at h1
       simp only [bJ]
       rw [e1,ih vs h2 (fun p hp=>hk p (by simp [hp]))];simp;omega
      ·cases h
    have:=this (n:=0) (u++u') hsl (fun p hp=>by have:=(X2.1 hps) p hp;simp only [Qf] at this;exact this.1)
    omega
   obtain ⟨⟨r0,hr0⟩,KL⟩:=pY (m:=fun g'=>(iJ r').lookup g') (nil:=fun _=>False) (I:=I) (ins:=u++u') (n:=u.length) hob Zm (DR I) hm (by have:=hAt.right;rwa [Wb] at this)
   have zK :∀g' x,(mk s.pin (u++u')).o g'=x→x≠.none→∃g,(iJ r').lookup g'=some g∧Ow (Zk I) (fun g'=>(iJ r').lookup g') (fun _=>False) (st.o g) x∧(g',g)∈iJ r'∧(st.o g).aX=true∧((∃ws,x=.box ws)∨(∃l sz,x=.arr false false true sz l)∨∃l sz ak,x=.ay false true sz ak l none):=by
    intro g' x hx hne
    have:=NM (j:=s.pin) (vs:=u++u') (g:=g') (by rw [hx];exact hne)
    rw [KJ,hx] at this
    obtain ⟨g,k1,k2,k3,k4⟩:=KL g' x this
    exact ⟨g,k1,k2,kE.2 k3,k4⟩
   have f_ :∀p∈iJ r',(st.o p.2).aX=true∧p.2∉gs∧(iJ r').lookup p.1=some p.2∧((s.aY.contains p.1=true∧∃ws ws',st.o p.2=.box ws∧(mk s.pin (u++u')).o p.1=.box ws')∨(∃a i sz l,st.o p.2=.arr false a i sz l∧cin (a,i) I∧(mk s.pin (u++u')).o p.1=.arr false false true sz l)∨(∃a i sz ak l,st.o p.2=.ay a i sz ak l none∧cin (a,i) I∧(mk s.pin (u++u')).o p.1=.ay false true sz ak l none)):=by
    intro p hp
    have hkey:p.1∈s.pin.aN.map (·.1):=hkeys p hp
    obtain ⟨x,hx⟩:=rF (vs:=u++u') (n:=u.length) hkey
    obtain ⟨g,hg,how,hmem,hown,_⟩:=KL p.1 x hx
    have hl:=jS hn1 hp
    have:g=p.2:=by have hg':(iJ r').lookup p.1=some g:=hg;rw [hl] at hg';exact (Wa hg').symm
    subst this
    refine ⟨hown,hdisj p hp,hl,?_⟩
    have hmk:(mk s.pin (u++u')).o p.1=x:=by
     show (match (eF (u++u') (bJ (u++u') 0 s.pin.slots).2 s.pin.aN).1.lookup p.1 with | some x=>x | none=>O.none)=x
     rw [KJ,hx]
    obtain ⟨k,n',h1,h2⟩:=jo hx
    have hk:=(X2.1 hpo) _ h1
    rw [hmk]
    subst h2
    cases k with
    |box ws=>
     simp only [Qf] at hk
     generalize hz:st.o p.2=z at how
     cases how
     exact .inl ⟨hk.2,_,_,rfl,rfl⟩
    |arr fz a i sz=>
     simp only [Qf,Wc] at hk
     obtain ⟨⟨rfl,rfl⟩,rfl⟩:=hk
     generalize hz:st.o p.2=z at how
     refine .inr (.inl ?_)
     cases how with | arr _ _ _ hc=>exact ⟨_,_,_,_,rfl,hc.2.2,rfl⟩
    |ay a i sz ak=>
     simp only [Qf,Wc] at hk
     obtain ⟨rfl,rfl⟩:=hk
     generalize hz:st.o p.2=z at how
     refine .inr (.inr ?_)
     cases how with | ay _ _ _ hc=>exact ⟨_,_,_,_,_,rfl,hc.2.2,rfl⟩
    |it=>simp at hk
   have mM :∀g' b,((mk s.pin (u++u')).o g').aX=true→(iI gh (fun g'=>(iJ r').lookup g') g').has b→∃g,(g',g)∈iJ r'∧(st.o g).aX=true∧(gh g).has b∧g∉gs:=by
    intro g' b ho had
    obtain ⟨g,hg,_,hmem,hown,_⟩:=zK g' _ rfl (by intro e;rw [e] at ho;cases ho)
    refine ⟨g,hmem,hown,?_,(f_ _ hmem).2.1⟩
    simpa [iI,hg] using had
   have abA :∀g,g∉gs→(st.aA (gs.map (Fw.aH st.o)) []).o g=st.o g:=by
    intro g hg
    rw [dX,if_neg hg]
   have hcast:Cast (Zk I) (fun g'=>(iJ r').lookup g') (fun _=>False) E E' st (mk s.pin (u++u')) gh (iI gh fun g'=>(iJ r').lookup g') w:=by
    refine ⟨fun a i a' i' b hC hb => ?_,fun g g' hg sz len ho=>⟨by simp only [iI,hg];exact ⟨trivial,trivial⟩,?_⟩,fun g g' hg ws ho=>⟨by simp only [iI,hg],?_⟩,fun g g' hg s n ho=>⟨by simp only [iI,hg],?_⟩,fun g' hf=>hf.elim⟩
    ·obtain ⟨rfl,rfl,hci⟩:=hC
     subst hE'
     refine ⟨.inr (.inl ⟨rfl,.inl (Env.lW hci.1 hci.2 hb)⟩),hb.2.1,fun g' ho had => ?_⟩
     obtain ⟨g,_,h1,h2,_⟩:=mM g' b ho had
     exact hb.2.2 g h1 h2
    ·obtain ⟨g2,hg2,how,_⟩:=zK g' _ rfl (by intro e;rw [e] at ho;cases ho)
     rw [hg] at hg2;cases hg2
     exact how.dim ho
    ·obtain ⟨g2,hg2,how,_⟩:=zK g' _ ho (by simp)
     rw [hg] at hg2;cases hg2
     generalize st.o g=z at how
     cases how;exact ⟨_,rfl⟩
    ·obtain ⟨g2,hg2,how,_⟩:=zK g' _ ho (by simp)
     rw [hg] at hg2;cases hg2
     generalize st.o g=z at how
     cases how;exact ⟨_,_,rfl⟩
   have hP :∀x v y a i gs',dH E st gh w x v→x.toP st.o=some (y,a,i,gs')→cin (a,i) A→(∀g∈gs',g∈gs)→bD w (E'.ok (mk s.pin (u++u')) (iI gh fun g'=>(iJ r').lookup g') w true false) y v:=by
    intro x v y a i gs' hrx ht hci hsub
    have:=(IE h hrx ht).2 _ (fun g hg=>by rw [dX,if_pos (hsub g hg)]) f1 f2
    refine this.mono fun b hb=>⟨?_,rfl⟩
    subst hE'
    refine ⟨.inl ⟨rfl,Env.lW hci.1 hci.2 hb⟩,hb.2.1,fun g' ho had => ?_⟩
    obtain ⟨g,_,h1,h2,h3⟩:=mM g' b ho had
    exact hb.2.2 g (by rw [abA g h3];exact h1) h2
   have adr :∀p∈s.pin.slots,p.2.flags true false=true:=fun p hp=>by have:=(X2.1 hps) p hp;simp only [Qf] at this;exact this.1
   have nO:=(yN hP hcast hr (n:=0) hsl adr (DR A) (fun g hg=>hg) (fun p hp=>hm p (by rw [hr0];exact Z2 _ hp)) hAt.left).1
   have hus:=YC Ui (u++u')
   refine ⟨f1,f2,⟨fun t => ?_,fun g' => ?_,fun g1 g2 b h1 h2 k1 k2 => ?_,fun g' b ho had => ?_,fun g' i b ho had hw => ?_,fun g' ho hd b => ?_,fun b hb => ?_,fun b _ _ => ?_,?_,?_,?_,?_,hus.1,hus.2.1,hus.2.2⟩,f_⟩
   ·show bP _ _ _ _ (match (bJ (u++u') 0 s.pin.slots).1.lookup t with | some x=>x | none=>.no) _
    cases hx:(bJ (u++u') 0 s.pin.slots).1.lookup t with
    |none=>exact .no _
    |some x=>exact nO t x hx
   ·by_cases hne:(mk s.pin (u++u')).o g'=.none
    ·rw [hne];trivial
    ·obtain ⟨g,hg,how,_⟩:=zK g' _ rfl hne
     have:iI gh (fun g'=>(iJ r').lookup g') g'=gh g:=by simp only [iI,hg]
     rw [this]
     exact hcast.yx how (h.aN g)
   ·obtain ⟨q1,m1,o1,d1,_⟩:=mM g1 b h1 k1
    obtain ⟨q2,m2,o2,d2,_⟩:=mM g2 b h2 k2
    have:=h.inj q1 q2 b o1 o2 d1 d2
    subst this
    have hn2:=gY hn2
    have key :∀{l:List (Nat×Nat)},(l.map (·.2)).Nodup→(g1,q1)∈l→(g2,q1)∈l→g1=g2:=by
     intro l
     induction l with
     |nil=>intro _ h;cases h
     |cons p l ih=>
      intro hn e1 e2
      simp only [Qt,Vn] at hn
      rcases QQ.1 e1 with f1 | f1<;>rcases QQ.1 e2 with f2 | f2
      ·rw [←f1] at f2;cases f2;rfl
      ·have:q1∈l.map (·.2):=QP.2 ⟨(g2,q1),f2,rfl⟩
       rw [←f1] at hn;exact absurd this hn.1
      ·have:q1∈l.map (·.2):=QP.2 ⟨(g1,q1),f1,rfl⟩
       rw [←f2] at hn;exact absurd this hn.1
      ·exact ih hn.2 f1 f2
    exact key hn2 m1 m2
   ·obtain ⟨g,hmem,h1,h2,_⟩:=mM g' b ho had
    subst hE'
    exact ⟨.inr ⟨(g',g),hmem,h1,h2⟩,(h.wr g b h1 h2).2⟩
   ·obtain ⟨g,hg,how,hmem,hown,hsh⟩:=zK g' _ rfl (by intro e;rw [e] at ho;cases ho)
    rcases hsh with ⟨ws,e⟩ | ⟨l',sz',e⟩ | ⟨l',sz',ak,e⟩
    ·rw [e] at ho;cases ho
    ·rw [e] at ho;cases ho;rfl
    ·rw [e] at ho;cases ho;rfl
   ·obtain ⟨g,hg,how,hmem,hown,hsh⟩:=zK g' _ rfl (by intro e;rw [e] at ho;cases ho)
    have e:iI gh (fun g'=>(iJ r').lookup g') g'=gh g:=by simp only [iI,hg]
    rw [e]
    exact h.ns g hown (by rw [(how.aX ho).2];exact hd) b
   ·subst hE'
    obtain ⟨p,hp,_,h1⟩:=hb
    exact (h.wr p.2 b (f_ p hp).1 h1).2
   ·subst hE';rfl
   ·subst hE';exact W4 _
   ·subst hE';rfl
   ·subst hE';rfl
   ·subst hE';rfl
  ·cases hc
 ·cases hc
end
end Go.Fw

namespace Go.Fw
variable [dB]
def Bj (A I:Bool×Bool) (lk:Bool) (a i a' i':Bool):Prop:=(a',i')=nP A I a i∧(a=true→lk=true)
section
variable {A I:Bool×Bool} {lk:Bool} {m:Nat→Option Nat} {f:Nat→Nat} {aU:List Nat} {vs:List P}
theorem YD (hm :∀g∈aU,m (f g)=some g) {k:WS} (hk:k.bI aU=true) (hl:k.isA=true→lk=true) (n:Nat) :
  Ww (Bj A I lk) m (fun _=>False) (m_ vs n k).1 (Nk A I f (m_ vs n k).1)∧∀g∈(Nk A I f (m_ vs n k).1).names,∃g0∈aU,g=f g0:=by
 cases k with
 |p a i=>exact ⟨.p _ ⟨rfl,hl⟩,by simp [m_,Nk,W.names]⟩
 |own g=>
  simp only [WS.bI,W7,decide_eq_true_eq] at hk
  exact ⟨.own (hm g hk),fun g' hg'=>⟨g,hk,by simpa [m_,Nk,W.names] using hg'⟩⟩
 |bM=>exact ⟨.bM,by simp [m_,Nk,W.names]⟩
 |box g off=>
  simp only [WS.bI,W7,decide_eq_true_eq] at hk
  exact ⟨.box (hm g hk),fun g' hg'=>⟨g,hk,by simpa [m_,Nk,W.names] using hg'⟩⟩
 |fn fn gs=>
  have hk :∀g∈gs,g∈aU:=by simpa [WS.bI,X2] using hk
  have key :∀(gs:List Nat),(∀g∈gs,g∈aU)→(d_ gs).length=(je f (d_ gs)).length∧(∀(j:Nat) x y,(d_ gs)[j]?=some x→(je f (d_ gs))[j]?=some y→Ww (Bj A I lk) m (fun _=>False) x y)∧∀g∈(je f (d_ gs)).flatMap W.names,∃g0∈aU,g=f g0:=by
   intro gs
   induction gs with
   |nil=>intro _;exact ⟨rfl,fun j x y hx=>(by simp [d_] at hx),by simp [d_,je]⟩
   |cons g gs ih=>
    intro h
    obtain ⟨e1,e2,e3⟩:=ih fun g hg=>h g (by simp [hg])
    refine ⟨by simp [d_,je,e1],fun j x y hx hy => ?_,fun g' hg' => ?_⟩
    ·cases j with
     |zero=>
      simp [d_,je] at hx hy;subst hx hy
      exact .box (hm g (h g (by simp)))
     |succ j=>simp [d_,je] at hx hy;exact e2 j x y hx hy
    ·simp only [d_,je,Ys,Z1] at hg'
     rcases hg' with hg' | hg'
     ·exact ⟨g,h g (by simp),by simpa [W.names] using hg'⟩
     ·exact e3 g' hg'
  obtain ⟨e1,e2,e3⟩:=key gs hk
  exact ⟨.clo fn _ _ e1 e2,fun g hg=>by
   have hg:g∈(W.clo fn (je f (d_ gs))).names:=hg
   rw [pW] at hg
   exact e3 g hg⟩
 |kH g=>cases hk
 |no=>cases hk
 |vw g=>cases hk
 |ep g off=>cases hk
theorem KN :∀{ks:List WS} {n:Nat} {x:W},x∈(jm vs n ks).1→∃k∈ks,∃n',x=(m_ vs n' k).1
 | [],n,x,h=>by simp [jm] at h
 |k::ks,n,x,h=>by
  simp only [jm,QQ] at h
  rcases h with h | h
  ·exact ⟨k,by simp,n,h⟩
  ·obtain ⟨k',h1,h2⟩:=KN h
   exact ⟨k',by simp [h1],h2⟩
theorem Uj (hm :∀g∈aU,m (f g)=some g) {ks:List WS} (hk:ks.all (WS.bI aU)=true) (hl:ks.any WS.isA=true→lk=true) (n:Nat) :
  (∀(j:Nat) x y,(jm vs n ks).1[j]?=some x→((jm vs n ks).1.map (Nk A I f))[j]?=some y→Ww (Bj A I lk) m (fun _=>False) x y)∧
  ∀g∈((jm vs n ks).1.map (Nk A I f)).flatMap W.names,∃g0∈aU,g=f g0:=by
 have key :∀x∈(jm vs n ks).1,Ww (Bj A I lk) m (fun _=>False) x (Nk A I f x)∧∀g∈(Nk A I f x).names,∃g0∈aU,g=f g0:=by
  intro x hx
  obtain ⟨k,h1,n',rfl⟩:=KN hx
  exact YD hm ((X2.1 hk) k h1) (fun h=>hl (Kc.2 ⟨k,h1,h⟩)) n'
 refine ⟨fun j x y hx hy => ?_,fun g hg => ?_⟩
 ·rw [Xs,hx] at hy
  simp only [YY,Q0] at hy
  subst hy
  exact (key x (QR hx)).1
 ·simp only [X1,QP] at hg
  obtain ⟨_,⟨x,hx,rfl⟩,hg⟩:=hg
  exact (key x hx).2 g hg
theorem abB (hm :∀g∈aU,m (f g)=some g) {k:SS} (hk:k.bI aU=true) (hl:k.isA=true→lk=true) (n:Nat) :
  ∃x,(mkS vs n k).1=.v x∧Vw (Bj A I lk) m (fun _=>False) x (reV A I f x)∧∀g∈(reV A I f x).names,∃g0∈aU,g=f g0:=by
 cases k with
 |one k=>
  obtain ⟨h1,h2⟩:=YD (vs:=vs) (A:=A) (I:=I) hm hk hl n
  exact ⟨_,rfl,.one h1,h2⟩
 |agg ks=>
  obtain ⟨h1,h2⟩:=Uj (vs:=vs) (A:=A) (I:=I) hm hk hl n
  exact ⟨_,rfl,.agg _ _ (by simp) h1,h2⟩
theorem abC (hm :∀g∈aU,m (f g)=some g) {k:OS} (hk :∀ws,k=.box ws→ws.all (WS.bI aU)=true) (hl:k.isA=true→lk=true) (n:Nat) :
  Ow (Bj A I lk) m (fun _=>False) (pU vs n k).1 (sO A I f (pU vs n k).1)∧∀g∈(sO A I f (pU vs n k).1).names,∃g0∈aU,g=f g0:=by
 cases k with
 |box ks=>
  obtain ⟨h1,h2⟩:=Uj (vs:=vs) (A:=A) (I:=I) hm (hk ks rfl) hl n
  exact ⟨.box _ _ (by simp) h1,h2⟩
 |arr fz a i sz=>exact ⟨.arr _ _ _ ⟨rfl,hl⟩,by simp [pU,sO,O.names]⟩
 |it=>exact ⟨.it _ _,by simp [pU,sO,O.names]⟩
 |ay a i sz ak=>exact ⟨.ay _ _ _ ⟨rfl,hl⟩,by simp [pU,sO,O.names,bF]⟩
end
theorem GZ {A I:Bool×Bool} {f:Nat→Nat} (x:O):(sO A I f x).aX=x.aX:=by cases x<;>rfl
theorem NS {A I:Bool×Bool} {f:Nat→Nat} (x:O):(sO A I f x).lg=x.lg:=by cases x<;>rfl
theorem WT {A I:Bool×Bool} {f:Nat→Nat} (x:O):(sO A I f x).dim=x.dim:=by cases x<;>rfl
theorem Ri {A I:Bool×Bool} {f:Nat→Nat} {x:O} {i:Bool} (h:(sO A I f x).inner=some i) :∃a i0,x.inner=some i0∧i=(nP A I a i0).2:=by
 cases x with
 |arr fz a i0 sz l=>
  cases fz with
  |false=>cases h;exact ⟨a,i0,rfl,rfl⟩
  |true=>cases h
 |ay a i0 sz ak l hole=>cases h;exact ⟨a,i0,rfl,rfl⟩
 |_=>cases h
theorem WU {A I:Bool×Bool} {f:Nat→Nat} {x:O} {ws:List W} (h:sO A I f x=.box ws) :∃ws',x=.box ws':=by cases x<;>first | exact ⟨_,rfl⟩ | cases h
theorem Zo {A I:Bool×Bool} {f:Nat→Nat} {x:O} {s n:P} (h:sO A I f x=.it s n) :∃s' n',x=.it s' n':=by cases x<;>first | exact ⟨_,_,rfl⟩ | cases h
theorem Bl {d:Nat} {aU:List Nat} {g g':Nat} (hg:g∈aU) (h:newName d aU g=newName d aU g'):g=g':=by
 unfold newName at h
 have e:aU.idxOf g=aU.idxOf g':=by omega
 have h1:aU.idxOf g<aU.length:=List.idxOf_lt_length_of_mem hg
 have h2:aU.idxOf g'<aU.length:=by omega
 have a1:=List.getElem_idxOf h1
 have a2:=List.getElem_idxOf h2
 rw [←a1,←a2];congr 1
def tN (d:Nat) (aU:List Nat) (g:Nat):Option Nat:=aU.find? fun g0=>newName d aU g0==g
theorem I4 {d:Nat} {aU:List Nat} {g:Nat} (hg:g∈aU):tN d aU (newName d aU g)=some g:=by
 unfold tN
 cases h:aU.find? fun g0=>newName d aU g0==newName d aU g with
 |none=>have:=List.find?_eq_none.1 h g hg;simp at this
 |some g'=>
  have h1:=Ki h
  simp only [beq_iff_eq] at h1
  rw [Bl (J2 h) h1]
theorem F9 {d:Nat} {aU:List Nat} {g g0:Nat} (h:tN d aU g=some g0):g0∈aU∧newName d aU g0=g:=by
 unfold tN at h
 exact ⟨J2 h,by simpa using Ki h⟩
theorem jD {α:Type} {g:Nat} :∀{l r:List (Nat×α)},(l++r).lookup g=(l.lookup g).or (r.lookup g)
 | [],r=>by simp
 |(k,v)::l,r=>by
  simp only [J0,List.lookup]
  split
  ·rfl
  ·exact jD
theorem tV {α:Type} {k:Nat→Nat} {v:Nat→α} {g:Nat} :∀{l:List Nat},(∀g'∈l,k g'≠g)→(l.map fun x=>(k x,v x)).lookup g=none
 | [],_=>rfl
 |x::l,h=>by
  have:(g==k x)=false:=by have:=h x (by simp);simp;exact fun e=>this e.symm
  simp only [Qt,List.lookup,this]
  exact tV fun g' hg'=>h g' (by simp [hg'])
theorem sD {α:Type} {k:Nat→Nat} {v:Nat→α} {g0:Nat} :∀{l:List Nat},g0∈l→(∀g'∈l,k g'=k g0→g'=g0)→(l.map fun x=>(k x,v x)).lookup (k g0)=some (v g0)
 | [],h,_=>by cases h
 |x::l,h,hi=>by
  simp only [Qt,List.lookup]
  by_cases e:k x=k g0
  ·have:=hi x (by simp) e
   subst this;simp
  ·have:(k g0==k x)=false:=by simp;exact fun h=>e h.symm
   rw [this]
   rcases QQ.1 h with h | h
   ·subst h;exact absurd rfl e
   ·exact sD h fun g' hg'=>hi g' (by simp [hg'])
theorem jq {α:Type} {v:Nat×Nat→α} {p:Nat×Nat} :∀{l:List (Nat×Nat)},(l.map (·.2)).Nodup→p∈l→(l.map fun p=>(p.2,v p)).lookup p.2=some (v p)
 | [],_,h=>by cases h
 |x::l,hn,h=>by
  simp only [Qt,Vn] at hn
  simp only [Qt,List.lookup]
  rcases QQ.1 h with h | h
  ·subst h;simp
  ·have:(p.2==x.2)=false:=by
    simp only [beq_eq_false_iff_ne]
    intro e
    exact hn.1 (e▸QP.2 ⟨p,h,rfl⟩)
   rw [this]
   exact jq hn.2 h
theorem jL {α:Type} {v:Nat×Nat→α} {g:Nat} :∀{l:List (Nat×Nat)},g∉l.map (·.2)→(l.map fun p=>(p.2,v p)).lookup g=none
 | [],_=>rfl
 |x::l,h=>by
  simp only [Qt,QQ,not_or] at h
  have:(g==x.2)=false:=by simpa using h.1
  simp only [Qt,List.lookup,this]
  exact jL h.2
theorem O.G5 {z:O} (h:O.none.like z):z=.none:=by cases z<;>first | rfl | exact h.elim
theorem O.DT {x y z:O} (h1:x.like y) (h2:y.like z):z=.none∨x.like z:=.inr (O.like.trans h1 h2)
theorem NT {s:wH} {o:Nat→O} {args:List S} {c:GU} (hc:fU s o args=some c):sV o c.qK:=by
 unfold fU at hc
 split at hc
 ·rename_i hsl
  split at hc
  ·simp only [Q0] at hc;subst hc
   exact rE hsl
  ·cases hc
 ·cases hc
theorem xk {α:Type} {g:Nat} {v:α} :∀{l:List (Nat×α)},l.lookup g=some v→(g,v)∈l
 | [],h=>by cases h
 |(k,x)::l,h=>by
  simp only [List.lookup] at h
  split at h
  ·rename_i e
   simp only [beq_iff_eq] at e
   cases h;subst e;simp
  ·exact WF _ (xk h)
theorem oI {o:Nat→O} :∀{L:List (Nat×OS)} {r r':List (Nat×Nat)} {u:List P} {c:Bool×Bool},iw o r L=some (u,c,r')→(∀p∈r,p∈r')∧∀p∈L,∃q∈r',q.1=p.1
 | [],r,r',u,c,h=>by simp only [iw,Q0,Q1] at h;obtain ⟨_,_,rfl⟩:=h;exact ⟨fun p hp=>hp,fun p hp=>by cases hp⟩
 |(g',k)::rest,r,r',u,c,h=>by
  simp only [iw] at h
  split at h
  ·rename_i g hg
   have hmem:=xk hg
   have fin :∀{r1:List (Nat×Nat)},(∀p∈r,p∈r1)→((∀p∈r1,p∈r')∧∀p∈rest,∃q∈r',q.1=p.1)→(∀p∈r,p∈r')∧∀p∈(g',k)::rest,∃q∈r',q.1=p.1:=by
    intro r1 h1 ⟨h2,h3⟩
    refine ⟨fun p hp=>h2 p (h1 p hp),fun p hp => ?_⟩
    rcases QQ.1 hp with rfl | hp
    ·exact ⟨_,h2 _ (h1 _ hmem),rfl⟩
    ·exact h3 p hp
   split at h
   ·split at h
    ·split at h
     ·rename_i h2
      simp only [Q0,Q1] at h
      obtain ⟨_,_,rfl⟩:=h
      exact fin (fun p hp=>Z2 _ hp) (oI h2)
     ·cases h
    ·cases h
   ·split at h
    ·split at h
     ·rename_i h2
      simp only [Q0,Q1] at h
      obtain ⟨_,_,rfl⟩:=h
      exact fin (fun p hp=>hp) (oI h2)
     ·cases h
    ·cases h
   ·split at h
    ·split at h
     ·rename_i h2
      simp only [Q0,Q1] at h
      obtain ⟨_,_,rfl⟩:=h
      exact fin (fun p hp=>hp) (oI h2)
     ·cases h
    ·cases h
   ·cases h
  ·cases h
theorem WV {j:Shape} {vs:List P} {g:Nat} {a i:Bool} {sz:Nat} {ak:List (Nat×Nat)} {l:List (List P)} {hole:Option (Nat×Nat×Nat)} (h:(mk j vs).o g=.ay a i sz ak l hole):hole=none:=by
 have h1:=NM (j:=j) (vs:=vs) (g:=g) (by rw [h];simp)
 obtain ⟨k,n',_,h2⟩:=jo h1
 rw [h] at h2
 cases k<;>simp [pU] at h2
 exact h2.2.2.2.2.2
theorem DU {s:wH} {d:Nat} {o:Nat→O} {c:GU} {bI:List P} (hf:c.fine s=true) {p:Nat×Nat} (hp:p∈c.ren) (CX:s.aY.contains p.1=true) :
  (jf s d o c bI).aA.lookup p.2=some (sO c.A c.I (callName d s c.ren) ((mk s.aQ bI).o p.1)):=by
 simp only [GU.fine,Qf] at hf
 obtain ⟨⟨⟨hn2,hn1⟩,hdisj⟩,hkeys⟩:=hf
 have hnb:p.2∉c.qK:=by
  have:=(X2.1 hdisj) p.2 (QP.2 ⟨p,hp,rfl⟩)
  simpa using this
 have h1:(if s.jR=true then c.qK.map (aH o) else []).lookup p.2=none:=by
  split
  ·have :∀(l:List Nat),p.2∉l→(l.map (aH o)).lookup p.2=none:=by
    intro l
    induction l with
    |nil=>intro _;rfl
    |cons g l ih=>
     intro hl
     simp only [QQ,not_or] at hl
     have e:(p.2==(aH o g).1)=false:=by
      have:(aH o g).1=g:=rfl
      rw [this];simpa using hl.1
     simp only [Qt,List.lookup,e]
     exact ih hl.2
   exact this _ hnb
  ·rfl
 have h2:=jq (v:=fun p=>if s.aY.contains p.1=true then sO c.A c.I (callName d s c.ren) ((mk s.aQ bI).o p.1) else .none) (gY hn2) hp
 rw [if_pos CX] at h2
 show (((if s.jR=true then c.qK.map (aH o) else [])++c.ren.map _)++s.aU.map _).lookup p.2=_
 rw [jD,jD,h1,h2];rfl
theorem Rj {s:wH} (hok:s.ok=true) {d:Nat} {o:Nat→O} {args:List S} {c:GU} (hc:fU s o args=some c) (hf:c.fine s=true) {bI:List P} {p:Nat×Nat} (hp:p∈c.ren) (CX:s.aY.contains p.1=true)
  (hk:oH ((mk s.aQ bI).o p.1)=oH ((mk s.pin c.ins).o p.1)) (ha:NP (o p.2)=true) (hfl:pI (sO c.A c.I (callName d s c.ren) ((mk s.aQ bI).o p.1))=pI (o p.2)) :
  (jf s d o c bI).aA.lookup p.2=some (o p.2):=by
 rw [DU hf hp CX]
 have hcore:=hk.trans (Rh hok hc hf p hp ha)
 have hm:=fun {a i:Bool} {sz:Nat} {ak:List (Nat×Nat)} {l:List (List P)} {hole:Option (Nat×Nat×Nat)}=>WV (j:=s.aQ) (vs:=bI) (g:=p.1) (a:=a) (i:=i) (sz:=sz) (ak:=ak) (l:=l) (hole:=hole)
 congr 1
 generalize (mk s.aQ bI).o p.1=x at hcore hfl hm
 have e:oH (sO c.A c.I (callName d s c.ren) x)=oH (o p.2):=by
  rw [←hcore]
  cases x with
  |ay a i sz ak l hole=>have:=hm rfl;subst this;rfl
  |arr fz a i sz l=>rfl
  |_=>
   generalize o p.2=z at hcore ha
   cases z<;>first | (cases ha;done) | (simp [oH] at hcore;done)
 exact (NQ e.symm hfl.symm ha).symm
theorem KO {s:wH} {o:Nat→O} {args:List S} {c:GU} (hc:fU s o args=some c) :∀p∈s.pin.aN,∃q∈c.ren,q.1=p.1:=by
 unfold fU at hc
 split at hc
 ·split at hc
  ·rename_i CX
   simp only [Q0] at hc;subst hc
   exact fun p hp=>let ⟨q,h1,h2⟩:=(oI CX).2 p hp;⟨q,kE.2 h1,h2⟩
  ·cases hc
 ·cases hc
section
variable {E:Env} {st:St} {gh:Nat→Gh} {w:World} {val:Nat→Value}
theorem Rk {sp:Spec} (hok:sp.sig.ok=true) (h:Rel E st gh val w) {args:List S} {vals:List Value} (hr :∀t,bP E st gh w (args.getD t .no) (vals.getD t undef))
  {c:GU} (hc:fU sp.sig st.o args=some c) (hf:c.fine sp.sig=true) :
  ∃(E':Env) (kC:Nat→Gh),E'.B0=w.heap.size∧E'.w0=w∧Rel E' (mk sp.sig.pin c.ins) kC (fun k=>vals.getD k undef) w∧(∀b,E'.Wr b→∃c e f,w.heap[b]?=some (.cells c e f))∧
  ∀(d:Nat) (bI:List P) (ef:Eff),ef=jf sp.sig d st.o c bI→(∀g∈ef.new,st.used g=false)→∀(w':World) (rs:List Value) (wB:Nat→Gh),rs.length=sp.sig.dL→Rel E' (mk sp.sig.aQ bI) wB (fun k=>rs.getD k undef) w'→(∀g∈sp.sig.aY,((wB g).ad=(kC g).ad∧(wB g).cap=(kC g).cap)∧((mk sp.sig.pin c.ins).o g).like ((mk sp.sig.aQ bI).o g))→
   ∃aT,Rel E (st.aA ef.aA ef.new) aT val w'∧Lets E st (st.aA ef.aA ef.new) gh aT w w'∧bP E (st.aA ef.aA ef.new) aT w' ef.x (Q7 rs)∧∀g∈ef.x.names,(st.aA ef.aA ef.new).used g=true:=by
 have hrr :∀t,bP E st gh w (args.getD t .no) ((fun k=>vals.getD k undef) t):=hr
 obtain ⟨h1,hL1,hE,f_⟩:=NR h hok hrr hc hf _ rfl _ rfl
 refine ⟨_,_,rfl,rfl,hE,fun b hb => ?_,fun d bI ef hef hnew w' rs wB hrl hx WW => ?_⟩
 ·obtain ⟨p,hp,ow,e1⟩:=hb
  have hO:=h.aN p.2
  rcases (f_ p hp).2.2.2 with ⟨_,ws,_,e,_⟩ | ⟨a,i,sz,l,e,_⟩ | ⟨a,i,sz,ak,l,e,_⟩
  ·rw [e] at hO
   obtain ⟨ad',c,e',q1,_,q3,_⟩:=hO
   rcases e1 with ⟨ad,k1,k2⟩ | k1
   ·rw [k1] at q1;cases q1;rw [←k2];exact ⟨_,_,_,q3⟩
   ·rw [h.ns p.2 ow (by rw [e];rfl) b] at k1;cases k1
  ·rw [e] at hO
   rcases e1 with ⟨ad,k1,k2⟩ | k1
   ·rcases hO with ⟨q1,_⟩ | ⟨ad',c,e',q1,_,q3,_⟩
    ·rw [k1] at q1;cases q1
    ·rw [k1] at q1;cases q1;rw [←k2];exact ⟨_,_,_,q3⟩
   ·rw [h.ns p.2 ow (by rw [e];rfl) b] at k1;cases k1
  ·rw [e] at hO
   rcases hO with ⟨q1,_,_,q2⟩ | ⟨ad',c,e',q1,_,q3,_,_,_,⟨_,q4⟩,_⟩
   ·rcases e1 with ⟨ad,k1,k2⟩ | k1
    ·rw [k1] at q1;cases q1
    ·rw [q2 b] at k1;cases k1
   ·rcases e1 with ⟨ad,k1,k2⟩ | k1
    ·rw [k1] at q1;cases q1;rw [←k2];exact ⟨_,_,_,q3⟩
    ·exact q4 b k1
 generalize hst1:st.aA (c.qK.map (Fw.aH st.o)) []=st1 at h1 hL1 hE hx
 generalize hE':Ph h st1 c=E' at hE hx
 generalize Rl:mk sp.sig.aQ bI=sS at hx
 have hok':=hok
 simp only [wH.ok,Qf] at hok'
 obtain ⟨⟨⟨⟨⟨⟨⟨⟨Ui,Pj⟩,hps⟩,hpo⟩,hos⟩,wS⟩,hdisj⟩,hnn⟩,YE⟩:=hok'
 have hnn:=gY hnn
 simp only [GU.fine,Qf] at hf
 have hn2:=gY hf.1.1.1
 have Zp :∀g∈sp.sig.aU,sp.sig.aY.contains g=false:=by
  intro g hg
  cases hi:sp.sig.aY.contains g with
  |false=>rfl
  |true=>
   have:=(X2.1 hdisj) g (by simpa using hi)
   simp [hg] at this
 generalize hfn:callName d sp.sig c.ren=f
 have KP :∀g∈sp.sig.aU,f g=newName d sp.sig.aU g:=fun g hg=>by subst hfn;unfold callName;rw [Zp g hg]
 have aeP:sp.sig.aU.map f=sp.sig.aU.map (newName d sp.sig.aU):=Z0 KP
 have Zq :∀g,sp.sig.aY.contains g=true→∃g',(g,g')∈c.ren∧f g=g':=by
  intro g hi
  have abD:=(X2.1 YE) g (by simpa using hi)
  cases h1:sp.sig.pin.aN.lookup g with
  |none=>rw [h1] at abD;cases abD
  |some k1=>
   obtain ⟨q,hq,e⟩:=KO hc _ (xk h1)
   obtain ⟨q1,q2⟩:=q
   simp only at e;subst e
   refine ⟨q2,hq,?_⟩
   subst hfn
   unfold callName
   rw [hi,(f_ _ hq).2.2.1]
 generalize hbk:tN d sp.sig.aU=bk
 have hbn :∀g∈sp.sig.aU,bk (f g)=some g:=fun g hg=>by rw [KP g hg];subst hbk;exact I4 hg
 have hbs :∀g g0,bk g=some g0→g0∈sp.sig.aU∧f g0=g:=fun g g0 hb=>by subst hbk;obtain ⟨b1,b2⟩:=F9 hb;exact ⟨b1,by rw [KP g0 b1];exact b2⟩
 have hfi :∀g∈sp.sig.aU,∀g'∈sp.sig.aU,f g=f g'→g=g':=fun g hg g' hg' e=>by rw [KP g hg,KP g' hg'] at e;exact Bl hg e
 have WX:ef.new=sp.sig.aU.map f:=by subst hef;subst hfn;rfl
 have Zr:ef.aA=(if sp.sig.jR then c.qK.map (Fw.aH st.o) else [])++c.ren.map (fun p=>(p.2,if sp.sig.aY.contains p.1 then sO c.A c.I f (sS.o p.1) else .none))++sp.sig.aU.map (fun g=>(f g,sO c.A c.I f (sS.o g))):=by
  subst hef;subst hfn;subst Rl;rfl
 have abE:ef.x=QZ ((List.range sp.sig.dL).map fun k=>O7 c.A c.I f (sS.s k)):=by subst hef;subst hfn;subst Rl;rfl
 have afr :∀g,bk g=none→g∉ef.new:=fun g hb hm=>by
  rw [WX] at hm;obtain ⟨g0,h1,rfl⟩:=QP.1 hm
  rw [hbn g0 h1] at hb;cases hb
 have hbu :∀g,st.used g=true→bk g=none:=fun g hu=>by
  cases hb:bk g with
  |none=>rfl
  |some g0=>
   obtain ⟨h1,h2⟩:=hbs g g0 hb
   have:=hnew g (by rw [WX];exact QP.2 ⟨g0,h1,h2⟩)
   rw [hu] at this;cases this
 let stB:St:=if sp.sig.jR then st1 else st
 have hB:Rel E stB gh val w∧Lets E st stB gh gh w w:=by
  by_cases hlk:sp.sig.jR=true
  ·have:stB=st1:=by simp [stB,hlk]
   rw [this];exact ⟨h1,hL1⟩
  ·have:stB=st:=by simp [stB,hlk]
   rw [this];exact ⟨h,⟨fun a i b hb=>⟨hb,rfl⟩,fun g _=>.inr ⟨⟨rfl,rfl⟩,O.dI _⟩⟩⟩
 obtain ⟨Rn,hLB⟩:=hB
 have hBs:stB.s=st.s:=by
  by_cases hlk:sp.sig.jR=true
  ·have:stB=st1:=by simp [stB,hlk]
   rw [this,←hst1];rfl
  ·have:stB=st:=by simp [stB,hlk]
   rw [this]
 have hBu:stB.used=st.used:=by
  by_cases hlk:sp.sig.jR=true
  ·have:stB=st1:=by simp [stB,hlk]
   rw [this,←hst1];rfl
  ·have:stB=st:=by simp [stB,hlk]
   rw [this]
 have hBo :∀g,stB.o g=(if g∈c.qK∧sp.sig.jR=true then (Fw.aH st.o g).2 else st.o g):=by
  intro g
  by_cases hlk:sp.sig.jR=true
  ·have:stB=st1:=by simp [stB,hlk]
   rw [this,←hst1,dX]
   by_cases hg:g∈c.qK<;>simp [hg,hlk]
  ·have:stB=st:=by simp [stB,hlk]
   rw [this];simp [hlk]
 have Pm :∀g,(stB.o g).aX=true→(st.o g).aX=true:=by
  intro g hg
  rw [hBo] at hg
  split at hg
  ·cases hp:plainO st.o g with
   |none=>simpa [Fw.aH,hp] using hg
   |some x=>
    obtain ⟨a,i,sz,l⟩:=x
    rw [ku hp] at hg;cases hg
  ·exact hg
 have hBr :∀p∈c.ren,stB.o p.2=st.o p.2:=by
  intro p hp
  rw [hBo,if_neg fun h=>(f_ p hp).2.1 h.1]
 generalize WY:st.aA ef.aA ef.new=DV
 have hFs:DV.s=st.s:=by subst WY;rfl
 have hFu :∀g,st.used g=true→DV.used g=true:=fun g hg=>by subst WY;simp [St.aA,hg]
 have hFn :∀g∈sp.sig.aU,DV.used (f g)=true:=fun g hg=>by
  subst WY
  have:f g∈ef.new:=by rw [WX];exact QP.2 ⟨g,hg,rfl⟩
  simp [St.aA,this]
 have Pn :∀p∈c.ren,st.used p.2=true:=fun p hp=>h.ul p.2 (by intro e;have:=(f_ p hp).1;rw [e] at this;cases this)
 have aeR :∀g∈c.qK,st.used g=true∨st.o g=.none:=fun g hg=>by
  by_cases hn:st.o g=.none
  ·exact .inr hn
  ·exact .inl (h.ul g hn)
 have hFo :∀g,DV.o g=match ef.aA.lookup g with | some x=>x | none=>st.o g:=fun g=>by subst WY;rfl
 have Po :∀g∈sp.sig.aU,DV.o (f g)=sO c.A c.I f (sS.o g):=by
  intro g hg
  have hfu:st.used (f g)=false:=hnew _ (by rw [WX];exact QP.2 ⟨g,hg,rfl⟩)
  have e2:(c.ren.map (fun p=>(p.2,if sp.sig.aY.contains p.1 then sO c.A c.I f (sS.o p.1) else .none))).lookup (f g)=none:=jL fun hm=>by
   obtain ⟨p,hp,e⟩:=QP.1 hm
   rw [←e,Pn p hp] at hfu;cases hfu
  have e3:=sD (k:=f) (v:=fun g=>sO c.A c.I f (sS.o g)) hg fun g' hg' e=>hfi g' hg' g hg e
  have e1:(if sp.sig.jR then c.qK.map (Fw.aH st.o) else []).lookup (f g)=none:=by
   split
   ·rw [jQ,if_neg]
    intro hm
    have:=sV.used h (NT hc) hm
    rw [this] at hfu;cases hfu
   ·rfl
  rw [hFo,Zr,jD,jD,e1,e2,e3];rfl
 have G6 :∀p∈c.ren,DV.o p.2=if sp.sig.aY.contains p.1 then sO c.A c.I f (sS.o p.1) else .none:=by
  intro p hp
  have e1:(if sp.sig.jR then c.qK.map (Fw.aH st.o) else []).lookup p.2=none:=by
   split
   ·rw [jQ,if_neg (f_ p hp).2.1]
   ·rfl
  have e2:=jq (v:=fun p=>if sp.sig.aY.contains p.1 then sO c.A c.I f (sS.o p.1) else O.none) hn2 hp
  rw [hFo,Zr,jD,jD,e1,e2];rfl
 have KQ :∀g,bk g=none→g∉c.ren.map (·.2)→DV.o g=stB.o g:=by
  intro g hb hg
  have e2:=jL (v:=fun p=>if sp.sig.aY.contains p.1 then sO c.A c.I f (sS.o p.1) else O.none) hg
  have e3:(sp.sig.aU.map (fun g=>(f g,sO c.A c.I f (sS.o g)))).lookup g=none:=tV fun g' hg' e=>by
   have:=hbn g' hg'
   rw [e,hb] at this;cases this
  rw [hFo,Zr,jD,jD,e2,e3,hBo]
  by_cases hlk:sp.sig.jR=true
  ·rw [if_pos hlk,jQ]
   by_cases hg:g∈c.qK<;>simp [hg,hlk]
  ·simp [hlk]
 have YF :∀p∈c.ren,sp.sig.aY.contains p.1=true→(wB p.1).ad=(gh p.2).ad∧(wB p.1).cap=(gh p.2).cap:=by
  intro p hp hi
  have:=(WW p.1 (by simpa using hi)).1
  have e:=(f_ p hp).2.2.1
  simp only [iI,e] at this
  exact this
 generalize hbk2:(fun g=>match bk g with | some g0=>some g0 | none=>(c.ren.find? (fun (p:Nat×Nat)=>p.2==g&&sp.sig.aY.contains p.1)).map (fun (p:Nat×Nat)=>p.1))=bk2
 have abH :∀g g0,bk2 g=some g0→(g0∈sp.sig.aU∧f g0=g)∨(bk g=none∧sp.sig.aY.contains g0=true∧(g0,g)∈c.ren):=by
  intro g g0 hb
  subst hbk2
  simp only at hb
  cases h1:bk g with
  |some g1=>rw [h1] at hb;simp only [Q0] at hb;subst hb;exact .inl (hbs g _ h1)
  |none=>
   rw [h1] at hb
   simp only [ZD] at hb
   obtain ⟨p,hp,rfl⟩:=hb
   have q1:=J2 hp
   have q2:=Ki hp
   simp only [Qf,beq_iff_eq] at q2
   obtain ⟨rfl,q3⟩:=q2
   exact .inr ⟨rfl,q3,q1⟩
 have hb2 :∀g∈sp.sig.aU++sp.sig.aY,bk2 (f g)=some g:=by
  intro g hg
  subst hbk2
  simp only
  rcases Z1.1 hg with hg | hg
  ·rw [hbn g hg]
  ·have hi:sp.sig.aY.contains g=true:=by simpa using hg
   obtain ⟨g',hm,e⟩:=Zq g hi
   rw [e,hbu g' (Pn _ hm)]
   cases h1:c.ren.find? fun p=>p.2==g'&&sp.sig.aY.contains p.1 with
   |none=>
    have:=List.find?_eq_none.1 h1 _ hm
    simp at this
    exact absurd hg this
   |some p=>
    have q1:=J2 h1
    have q2:=Ki h1
    simp only [Qf,beq_iff_eq] at q2
    obtain ⟨e2,q3⟩:=q2
    have l1:=(f_ _ hm).2.2.1
    have e3:p=(g,g'):=by
     have:=jq (v:=fun p=>p) hn2 q1
     have h2:=jq (v:=fun p=>p) hn2 hm
     rw [e2] at this
     simp only at h2
     rw [this] at h2;exact Wa h2
    rw [e3];rfl
 let aT:Nat→Gh:=fun g=>match bk2 g with | some g0=>wB g0 | none=>gh g
 have hfp :∀p∈c.ren,sp.sig.aY.contains p.1=true→f p.1=p.2:=by
  intro p hp hi
  obtain ⟨g',hm,e⟩:=Zq p.1 hi
  have l1:=(f_ _ hm).2.2.1
  have l2:=(f_ _ hp).2.2.1
  simp only at l1
  rw [l2] at l1;rw [e,←Wa l1]
 have hgb :∀g g0,bk2 g=some g0→aT g=wB g0:=fun g g0 hb=>by simp only [aT,hb]
 have hgn :∀g∈sp.sig.aU,aT (f g)=wB g:=fun g hg=>hgb _ _ (hb2 g (Z2 _ hg))
 have hgi :∀p∈c.ren,sp.sig.aY.contains p.1=true→aT p.2=wB p.1:=by
  intro p hp hi
  have:=hb2 p.1 (WN _ (by simpa using hi))
  rw [hfp p hp hi] at this
  exact hgb _ _ this
 have hgo :∀g,bk g=none→g∉c.ren.map (·.2)→aT g=gh g:=fun g hb hm=>by
  cases h2:bk2 g with
  |none=>simp only [aT,h2]
  |some g0=>
   rcases abH g g0 h2 with ⟨b1,b2⟩ | ⟨_,_,b3⟩
   ·rw [←b2,hbn g0 b1] at hb;cases hb
   ·exact absurd (QP.2 ⟨_,b3,rfl⟩) hm
 have hFb :∀g g0,bk2 g=some g0→DV.o g=sO c.A c.I f (sS.o g0):=fun g g0 hb=>by
  rcases abH g g0 hb with ⟨b1,b2⟩ | ⟨_,b2,b3⟩
  ·rw [←b2];exact Po g0 b1
  ·have e:=G6 _ b3
   simp only [b2,if_true] at e
   exact e
 have Uk :∀g∈sp.sig.aU++sp.sig.aY,DV.used (f g)=true:=by
  intro g hg
  rcases Z1.1 hg with hg | hg
  ·exact hFn g hg
  ·obtain ⟨g',hm,e⟩:=Zq g (by simpa using hg)
   rw [e];exact hFu _ (Pn _ hm)
 have hxo :∀g0,sS.o g0≠.none→∃k n',(g0,k)∈sp.sig.aQ.aN∧sS.o g0=(pU bI n' k).1:=fun g0 hn=>by
  subst Rl
  exact jo (NM hn)
 have abI :∀g0,sp.sig.aY.contains g0=true→(∃ws,(mk sp.sig.pin c.ins).o g0=.box ws)→∃ws,sS.o g0=.box ws:=by
  rintro g0 hi ⟨ws,hb⟩
  have hk:=(X2.1 YE) g0 (by simpa using hi)
  cases h1:sp.sig.pin.aN.lookup g0 with
  |none=>rw [h1] at hk;cases hk
  |some k1=>
   cases h2:sp.sig.aQ.aN.lookup g0 with
   |none=>rw [h1,h2] at hk;cases k1<;>cases hk
   |some k2=>
    rw [h1,h2] at hk
    obtain ⟨n1,e1⟩:=IZ (vs:=c.ins) h1
    obtain ⟨n2,e2⟩:=IZ (vs:=bI) h2
    rw [hb] at e1
    cases k1 with
    |box ks=>
     cases k2 with
     |box ks'=>subst Rl;exact ⟨_,e2⟩
     |arr=>cases hk
     |it=>cases hk
     |ay=>cases hk
    |arr=>cases e1
    |it=>cases e1
    |ay=>cases e1
 have adv :∀g0 k,(g0,k)∈sp.sig.aQ.aN→k.isA=true→sp.sig.jR=true:=fun g0 k hm ha=>by
  simp only [wH.jR,VV,Kc]
  exact .inr ⟨_,hm,ha⟩
 have adw :∀t k,(t,k)∈sp.sig.aQ.slots→k.isA=true→sp.sig.jR=true:=fun t k hm ha=>by
  simp only [wH.jR,VV,Kc]
  exact .inl ⟨_,hm,ha⟩
 have hOut :∀g0,Ow (Bj c.A c.I sp.sig.jR) bk2 (fun _=>False) (sS.o g0) (sO c.A c.I f (sS.o g0))∧∀g∈(sO c.A c.I f (sS.o g0)).names,∃g1∈sp.sig.aU++sp.sig.aY,g=f g1:=by
  intro g0
  by_cases hn:sS.o g0=.none
  ·rw [hn];exact ⟨.none _,by simp [sO,O.names]⟩
  ·obtain ⟨k,n',h1,h2⟩:=hxo g0 hn
   rw [h2]
   refine abC hb2 (fun ws e => ?_) (adv g0 k h1) n'
   subst e
   have hk:=(X2.1 wS) _ h1
   simp only [Qf] at hk
   exact hk.1
 have Pq :∀g,(DV.o g).aX=true→
   (∃g0,(sS.o g0).aX=true∧aT g=wB g0∧DV.o g=sO c.A c.I f (sS.o g0)∧((g0∈sp.sig.aU∧g=f g0)∨(sp.sig.aY.contains g0=true∧(g0,g)∈c.ren)))∨
   ((stB.o g).aX=true∧aT g=gh g∧g∉c.ren.map (·.2)∧bk g=none∧DV.o g=stB.o g):=by
  intro g ho
  cases hb:bk g with
  |some g0=>
   obtain ⟨b1,b2⟩:=hbs g g0 hb
   subst b2
   have e:=Po g0 b1
   exact .inl ⟨g0,by rw [e,GZ] at ho;exact ho,hgn g0 b1,e,.inl ⟨b1,rfl⟩⟩
  |none=>
   by_cases hm:g∈c.ren.map (·.2)
   ·obtain ⟨p,hp,e⟩:=QP.1 hm
    subst e
    have e:=G6 p hp
    cases hi:sp.sig.aY.contains p.1 with
    |false=>rw [e,hi] at ho;cases ho
    |true=>
     rw [hi,if_pos rfl] at e
     exact .inl ⟨p.1,by rw [e,GZ] at ho;exact ho,hgi p hp hi,e,.inr ⟨hi,hp⟩⟩
   ·have e:=KQ g hb hm
    exact .inr ⟨by rw [e] at ho;exact ho,hgo g hb hm,hm,by first | exact hb | rfl,e⟩
 have hsplit :∀g b,(DV.o g).aX=true→(aT g).has b→
   (∃g0,(sS.o g0).aX=true∧(wB g0).has b∧DV.o g=sO c.A c.I f (sS.o g0)∧((g0∈sp.sig.aU∧g=f g0)∨(sp.sig.aY.contains g0=true∧(g0,g)∈c.ren)))∨
   ((stB.o g).aX=true∧(gh g).has b∧g∉c.ren.map (·.2)∧bk g=none∧DV.o g=stB.o g):=by
  intro g b ho had
  rcases Pq g ho with ⟨g0,q1,q2,q3⟩ | ⟨q1,q2,q3⟩
  ·exact .inl ⟨g0,q1,by rw [←q2];exact had,q3⟩
  ·exact .inr ⟨q1,by rw [←q2];exact had,q3⟩
 have Ul :∀b,E'.Wr b→∃p∈c.ren,(gh p.2).has b:=fun b hb=>by subst hE';obtain ⟨p,hp,_,h1⟩:=hb;exact ⟨p,hp,h1⟩
 have hEB:E'.B0=w.heap.size:=by subst hE';rfl
 have hEw:E'.w0=w:=by subst hE';rfl
 have hframe :∀b,b<w.heap.size→¬ E'.Wr b→w'.heap[b]?=w.heap[b]?:=fun b hb hw=>by
  rw [hx.frame b (by rw [hEB];exact hb) hw,hEw]
 have Zt :∀b,(∀p∈c.ren,¬ (gh p.2).has b)→¬ E'.Wr b:=fun b hb hw=>by
  obtain ⟨p,hp,e1⟩:=Ul b hw
  exact hb p hp e1
 have hsize:w.heap.size≤w'.heap.size:=by rw [←hEB];exact hx.size
 have GH :∀g,st.used g=true→DV.o g=.none∨(((aT g).ad=(gh g).ad∧(aT g).cap=(gh g).cap)∧(stB.o g).like (DV.o g)):=by
  intro g hu
  have hb:=hbu g hu
  by_cases hm:g∈c.ren.map (·.2)
  ·obtain ⟨p,hp,e⟩:=QP.1 hm
   subst e
   cases hi:sp.sig.aY.contains p.1 with
   |false=>exact .inl (by rw [G6 p hp,hi];rfl)
   |true=>
    refine .inr ⟨by rw [hgi p hp hi];exact YF p hp hi,?_⟩
    rw [hBr p hp,G6 p hp,hi,if_pos rfl]
    have hlk:=(WW p.1 (by simpa using hi)).2
    rw [Rl] at hlk
    rcases (f_ p hp).2.2.2 with ⟨_,ws,Um,e,eb⟩ | ⟨a,i,sz,l,e,_,ea⟩ | ⟨a,i,sz,ak,l,e,_,ea⟩
    ·obtain ⟨ws',e'⟩:=abI p.1 hi ⟨_,eb⟩
     rw [e,e'];trivial
    ·rw [ea] at hlk
     rw [e]
     generalize sS.o p.1=z at hlk
     cases z with
     |none=>trivial
     |arr=>exact hlk
     |ay=>exact hlk.elim
     |box=>exact hlk.elim
     |it=>exact hlk.elim
    ·rw [ea] at hlk
     rw [e]
     generalize sS.o p.1=z at hlk
     cases z with
     |none=>trivial
     |arr=>exact hlk
     |ay=>exact hlk
     |box=>exact hlk.elim
     |it=>exact hlk.elim
  ·rw [KQ g hb hm];exact .inr ⟨by rw [hgo g hb hm];exact ⟨rfl,rfl⟩,O.dI _⟩
 have Un:Lets E stB DV gh aT w w':=by
  refine ⟨fun a i b hb=>⟨⟨hb.1,by have:=hb.2.1;omega,fun g ho had => ?_⟩,?_⟩,fun g hu=>GH g (by rw [←hBu];exact hu)⟩
  ·rcases hsplit g b ho had with ⟨g0,o0,d0,_,_⟩ | ⟨o0,d0,_⟩
   ·have hw0:=(hx.wr g0 b o0 d0).1
    rw [hEB] at hw0
    rcases hw0 with hw0 | hw0
    ·have:=hb.2.1;omega
    ·obtain ⟨p,hp,e1⟩:=Ul b hw0
     exact hb.2.2 p.2 (by rw [hBr p hp];exact (f_ p hp).1) e1
   ·exact hb.2.2 g o0 d0
  ·exact hframe b hb.2.1 (Zt b fun p hp e1=>hb.2.2 p.2 (by rw [hBr p hp];exact (f_ p hp).1) e1)
 have abJ :∀b,E'.Wr b→E.Wr b→(∀g ws,sS.o g=.box ws→(wB g).has b→sp.sig.aY.contains g=false)→c.I.2=true:=by
  intro b hb hEb hno
  obtain ⟨p,hp,e1⟩:=Ul b hb
  rcases (f_ p hp).2.2.2 with ⟨hi,ws,Um,e,eb⟩ | ⟨a,i,sz,l,e,hci,_⟩ | ⟨a,i,sz,ak,l,e,hci,_⟩
  ·obtain ⟨ws',e'⟩:=abI p.1 hi ⟨_,eb⟩
   have:=hno p.1 ws' e' (by
    rcases e1 with ⟨ad,k1,k2⟩ | k1
    ·exact .inl ⟨ad,by rw [(YF p hp hi).1];exact k1,k2⟩
    ·rw [h.ns p.2 (f_ p hp).1 (by rw [e];rfl) b] at k1;cases k1)
   rw [hi] at this;cases this
  ·exact hci.2 (h.wi p.2 i b (by rw [e];rfl) e1 hEb)
  ·exact hci.2 (h.wi p.2 i b (by rw [e];rfl) e1 hEb)
 have hcls :∀{a i a' i':Bool} {A:Bool×Bool},(A.1=true→a'=true)→(A.2=true→i'=true)→∀{b:Nat},((A.1=true∧E.FA b)∨(A.2=true∧(E.FI b∨E.Wr b))∨E.B0≤b∨dB.has b)→((a'=true∧E.FA b)∨(i'=true∧(E.FI b∨E.Wr b))∨E.B0≤b∨dB.has b):=by
  intro a i a' i' A h1 h2 b hb
  rcases hb with ⟨q1,q2⟩ | ⟨q1,q2⟩ | q
  ·exact .inl ⟨h1 q1,q2⟩
  ·exact .inr (.inl ⟨h2 q1,q2⟩)
  ·exact .inr (.inr q)
 have hcast:Cast (Bj c.A c.I sp.sig.jR) bk2 (fun _=>False) E' E sS DV wB aT w':=by
  refine ⟨fun a i a' i' b hC hb => ?_,fun g g' hm sz len ho=>⟨by rw [hgb g' g hm];exact ⟨rfl,rfl⟩,by rw [hFb g' g hm,WT] at ho;exact ho⟩,
   fun g g' hm ws ho=>⟨by rw [hgb g' g hm],by rw [hFb g' g hm] at ho;exact WU ho⟩,fun g g' hm s n ho=>⟨by rw [hgb g' g hm],by rw [hFb g' g hm] at ho;exact Zo ho⟩,fun g' hf=>hf.elim⟩
  obtain ⟨hC,hA⟩:=hC
  have ha':a'=((a&&c.A.1)||(i&&c.I.1)):=congrArg Prod.fst hC
  have hi':i'=((a&&c.A.2)||(i&&c.I.2)):=congrArg Prod.snd hC
  have YG :∀g,(sS.o g).aX=true→¬ (wB g).has b:=hb.2.2
  have hcase:((a'=true∧E.FA b)∨(i'=true∧(E.FI b∨E.Wr b))∨E.B0≤b∨dB.has b)∧(∀g,(stB.o g).aX=true→g∉c.ren.map (·.2)→¬ (gh g).has b):=by
   have hb1:=hb.1
   subst hE'
   rcases hb1 with ⟨ha,hFA⟩ | ⟨hi,hFI | hWr⟩ | hge | hgl
   ·have hlk:=hA ha
    have hst:stB=st1:=by simp [stB,hlk]
    refine ⟨hcls (a:=a) (i:=i) (A:=c.A) (by intro h;simp [ha',ha,h]) (by intro h;simp [hi',ha,h]) hFA.1,fun g ho _ => ?_⟩
    rw [hst] at ho
    exact hFA.2.2 g ho
   ·refine ⟨hcls (a:=a) (i:=i) (A:=c.I) (by intro h;simp [ha',hi,h]) (by intro h;simp [hi',hi,h]) hFI.1,fun g ho _ => ?_⟩
    exact hFI.2.2 g (Pm g ho)
   ·obtain ⟨p,hp,ow,e1⟩:=hWr
    refine ⟨?_,fun g ho hng had => ?_⟩
    ·rcases (h.wr p.2 b (f_ p hp).1 e1).1 with q | q
     ·exact .inr (.inr (.inl q))
     ·have:=abJ b ⟨p,hp,ow,e1⟩ q fun g Um o1 d1=>absurd d1 (YG g (by rw [o1];rfl))
      exact .inr (.inl ⟨by simp [hi',hi,this],.inr q⟩)
    ·have:=h.inj g p.2 b (Pm g ho) (f_ p hp).1 had e1
     exact hng (this▸QP.2 ⟨p,hp,rfl⟩)
   ·refine ⟨.inr (.inr (.inl (Jn h.size hge))),fun g ho _ had => ?_⟩
    have:=(Rn.wr g b ho had).2
    have hge:w.heap.size≤b:=hge
    omega
   ·refine ⟨.inr (.inr (.inr hgl)),fun g ho _ had => ?_⟩
    obtain ⟨g1,g2⟩:=E.TD hgl
    rcases (Rn.wr g b ho had).1 with q | q
    ·omega
    ·exact g2 q
  refine ⟨hcase.1,hb.2.1,fun g ho had => ?_⟩
  rcases hsplit g b ho had with ⟨g0,o0,d0,_,_⟩ | ⟨o0,d0,n0,_⟩
  ·exact YG g0 o0 d0
  ·exact hcase.2 g o0 n0 d0
 have YH :∀g0,jX E DV aT w' (sO c.A c.I f (sS.o g0)) (wB g0):=fun g0=>hcast.yx (hOut g0).1 (hx.aN g0)
 have Zu:Rel E DV aT val w':=by
  refine Rn.step Un (hFs.trans hBs.symm) (fun g hg=>hFu g (by rw [←hBu];exact hg)) (fun g => ?_) (fun g1 g2 b h1 h2 k1 k2 => ?_) (fun g b ho had => ?_) (fun g i b ho had hw => ?_) (fun g ho hd b => ?_) (fun b hb hw => ?_) hsize (by rw [hx.os,hEw]) (by rw [hx.tape,hEw]) (by rw [hx.output,hEw]) (fun g g' hg' => ?_) (fun g hg => ?_)
  ·cases hb:bk g with
   |some g0=>
    obtain ⟨b1,b2⟩:=hbs g g0 hb
    subst b2
    rw [Po g0 b1,hgn g0 b1];exact YH g0
   |none=>
    by_cases hm:g∈c.ren.map (·.2)
    ·obtain ⟨p,hp,e⟩:=QP.1 hm
     subst e
     rw [G6 p hp]
     cases hi:sp.sig.aY.contains p.1 with
     |false=>trivial
     |true=>rw [if_pos rfl,hgi p hp hi];exact YH p.1
    ·rw [KQ g hb hm,hgo g hb hm]
     refine Un.yx (fun ho b had=>hframe _ (Rn.wr g b ho had).2 (Zt _ fun p hp e1 => ?_)) (fun g' hg'=>Rn.uo g g' hg') (Rn.aN g)
     have:=h.inj p.2 g b (f_ p hp).1 (Pm g ho) e1 had
     exact hm (this▸QP.2 ⟨p,hp,rfl⟩)
  ·have mixed :∀g1 g2 b g0,(sS.o g0).aX=true→(wB g0).has b→(stB.o g2).aX=true→(gh g2).has b→g2∉c.ren.map (·.2)→g1=g2:=by
    intro g1 g2 b g0 o1 d1 o2 d2 n2
    exfalso
    rcases (hx.wr g0 b o1 d1).1 with q | q
    ·rw [hEB] at q
     have:=(Rn.wr g2 b o2 d2).2
     omega
    ·obtain ⟨p,hp,e1⟩:=Ul _ q
     have:=h.inj p.2 g2 b (f_ p hp).1 (Pm g2 o2) e1 d2
     exact n2 (this▸QP.2 ⟨p,hp,rfl⟩)
   rcases hsplit g1 b h1 k1 with ⟨q1,o1,d1,_,l1⟩ | ⟨o1,d1,n1,_⟩<;>rcases hsplit g2 b h2 k2 with ⟨q2,o2,d2,_,l2⟩ | ⟨o2,d2,n2,_⟩
   ·have:=hx.inj q1 q2 b o1 o2 d1 d2
    subst this
    rcases l1 with ⟨m1,e1⟩ | ⟨i1,m1⟩<;>rcases l2 with ⟨m2,e2⟩ | ⟨i2,m2⟩
    ·rw [e1,e2]
    ·rw [Zp q1 m1] at i2;cases i2
    ·rw [Zp q1 m2] at i1;cases i1
    ·have l1:=(f_ _ m1).2.2.1
     have l2:=(f_ _ m2).2.2.1
     rw [l1] at l2;exact Wa l2
   ·exact mixed g1 g2 b q1 o1 d1 o2 d2 n2
   ·exact (mixed g2 g1 b q2 o2 d2 o1 d1 n1).symm
   ·exact Rn.inj g1 g2 b o1 o2 d1 d2
  ·rcases hsplit g b ho had with ⟨g0,o0,d0,_,_⟩ | ⟨o0,d0,_⟩
   ·have:=hx.wr g0 b o0 d0
    refine ⟨?_,this.2⟩
    rcases this.1 with q | q
    ·rw [hEB] at q;exact .inl (Jn h.size q)
    ·obtain ⟨p,hp,e1⟩:=Ul _ q
     exact (h.wr p.2 b (f_ p hp).1 e1).1
   ·have:=Rn.wr g b o0 d0
    exact ⟨this.1,by omega⟩
  ·rcases hsplit g b (O.ji ho) had with ⟨g0,o0,d0,e0,l0⟩ | ⟨o0,d0,_,_,e0⟩
   ·rw [e0] at ho
    obtain ⟨a1,i1,h1,e2⟩:=Ri ho
    have hlt:b<w.heap.size:=by have:=h.wb _ hw;have:=h.size;omega
    rcases (hx.wr g0 b o0 d0).1 with q | q
    ·rw [hEB] at q;omega
    ·have hi1:=hx.wi g0 i1 b h1 d0 q
     have:=abJ b q hw fun g3 ws3 o3 d3=>by
      have:=hx.inj g3 g0 b (by rw [o3];rfl) o0 d3 d0
      subst this
      rw [o3] at h1;cases h1
     rw [e2];simp [nP,hi1,this]
   ·rw [e0] at ho
    exact Rn.wi g i b ho d0 hw
  ·rcases Pq g ho with ⟨g0,o0,e,e0,_⟩ | ⟨o0,e,_,_,e0⟩
   ·rw [e];exact hx.ns g0 o0 (by rw [e0,NS] at hd;exact hd) b
   ·rw [e];exact Rn.ns g o0 (by rw [e0] at hd;exact hd) b
  ·refine hframe b (Wg hb h.size) (Zt b fun p hp e1 => ?_)
   rcases (h.wr p.2 b (f_ p hp).1 e1).1 with q | q
   ·omega
   ·exact hw q
  ·cases hb:bk g with
   |some g0=>
    obtain ⟨b1,b2⟩:=hbs g g0 hb
    subst b2
    rw [Po g0 b1] at hg'
    obtain ⟨g1,m1,rfl⟩:=(hOut g0).2 g' hg'
    exact Uk g1 m1
   |none=>
    by_cases hm:g∈c.ren.map (·.2)
    ·obtain ⟨p,hp,e⟩:=QP.1 hm
     subst e
     rw [G6 p hp] at hg'
     cases hi:sp.sig.aY.contains p.1 with
     |false=>rw [hi] at hg';simp [O.names] at hg'
     |true=>
      rw [hi,if_pos rfl] at hg'
      obtain ⟨g1,m1,rfl⟩:=(hOut p.1).2 g' hg'
      exact Uk g1 m1
    ·rw [KQ g hb hm] at hg'
     exact hFu g' (by rw [←hBu];exact Rn.uo g g' hg')
  ·cases hb:bk g with
   |some g0=>
    obtain ⟨b1,b2⟩:=hbs g g0 hb
    subst b2;exact hFn g0 b1
   |none=>
    by_cases hm:g∈c.ren.map (·.2)
    ·obtain ⟨p,hp,e⟩:=QP.1 hm
     subst e
     exact hFu _ (Pn p hp)
    ·rw [KQ g hb hm] at hg
     exact hFu g (by rw [←hBu];exact Rn.ul g hg)
 have abL :∀k,nY E DV aT w' (O7 c.A c.I f (sS.s k)) (rs.getD k undef)∧∀g∈(O7 c.A c.I f (sS.s k)).names,∃g1∈sp.sig.aU++sp.sig.aY,g=f g1:=by
  intro k
  have hk:=hx.slots k
  subst Rl
  have e0:(mk sp.sig.aQ bI).s k=match (bJ bI 0 sp.sig.aQ.slots).1.lookup k with | some x=>x | none=>.no:=rfl
  cases hxk:(bJ bI 0 sp.sig.aQ.slots).1.lookup k with
  |none=>
   rw [e0,hxk]
   exact ⟨.one _ _ (.no _),by simp [O7,V.names,W.names]⟩
  |some x=>
   rw [hxk] at e0
   rw [e0] at hk ⊢
   obtain ⟨kk,n',h1,h2⟩:=tK hxk
   obtain ⟨y,e,h3,h4⟩:=abB (vs:=bI) (A:=c.A) (I:=c.I) hb2 ((X2.1 hos) _ h1) (adw k kk h1) n'
   simp only [h2,e] at hk ⊢
   cases hk with | v _ _ hk=>exact ⟨hcast.QL h3 hk,h4⟩
 refine ⟨aT,Zu,⟨fun a i b hb => ?_,fun g hu => ?_⟩,?_,?_⟩
 ·obtain ⟨q1,q2⟩:=hLB.ok a i b hb
  exact Un.ok a i b q1
 ·rcases GH g hu with q | ⟨q1,q2⟩
  ·exact .inl q
  ·rcases hLB.names g hu with q | ⟨_,q⟩
   ·rw [q] at q2
    rcases O.DT (x:=.none) (O.dI _) q2 with q | q
    ·exact .inl q
    ·exact .inl (O.G5 q)
   ·rcases O.DT q q2 with q | q
    ·exact .inl q
    ·exact .inr ⟨q1,q⟩
 ·rw [abE]
  have hl:((List.range sp.sig.dL).map fun k=>O7 c.A c.I f (sS.s k)).length=rs.length:=by simp [hrl]
  have hj :∀(j:Nat) x v,((List.range sp.sig.dL).map fun k=>O7 c.A c.I f (sS.s k))[j]?=some x→rs[j]?=some v→nY E DV aT w' x v:=by
   intro j x v hx' hv
   rw [Xs] at hx'
   obtain ⟨k,hk,rfl⟩:=ZD.1 hx'
   obtain ⟨hlt,hk⟩:=Q3.1 hk
   simp at hk;subst hk
   have:=(abL j).1
   rwa [Q6,hv] at this
  generalize (List.range sp.sig.dL).map (fun k=>O7 c.A c.I f (sS.s k))=xs at hl hj
  unfold QZ Q7
  match xs,rs,hl,hj with
  | [],[],_,hj=>exact .jK _ _ rfl hj
  | [x],[v],_,hj=>exact .v _ _ (hj 0 x v rfl rfl)
  |x::y::xs,v::u::vs,hl,hj=>exact .jK _ _ hl hj
 ·intro g hg
  have :∃k,g∈(O7 c.A c.I f (sS.s k)).names:=by
   rw [abE] at hg
   generalize hxs:(List.range sp.sig.dL).map (fun k=>O7 c.A c.I f (sS.s k))=xs at hg
   have hin :∃x∈xs,g∈x.names:=by
    unfold QZ at hg
    split at hg
    ·exact ⟨_,by simp,hg⟩
    ·simpa [S.names,X1] using hg
   obtain ⟨x,hx1,hx2⟩:=hin
   rw [←hxs] at hx1
   obtain ⟨k,_,rfl⟩:=QP.1 hx1
   exact ⟨k,hx2⟩
  obtain ⟨k,hk⟩:=this
  obtain ⟨g1,m1,rfl⟩:=(abL k).2 g hk
  exact Uk g1 m1
theorem NU {Pg:Program} {fn:FuncId} {sp:Spec} (hs:Sound Pg fn sp) (h:Rel E st gh val w) {args:List S} {vals:List Value} (hr :∀t,bP E st gh w (args.getD t .no) (vals.getD t undef)) (hlen:vals.length=sp.sig.aO)
  {c:GU} (hc:fU sp.sig st.o args=some c) (hf:c.fine sp.sig=true) {bI:List P} (hR:sp.R c.ins bI) (d:Nat)
  {ef:Eff} (hef:ef=jf sp.sig d st.o c bI) (hnew :∀g∈ef.new,st.used g=false) :
  Calls Pg fn vals.toArray w fun e w' =>∃v aT,e=.returned v∧Rel E (st.aA ef.aA ef.new) aT val w'∧Lets E st (st.aA ef.aA ef.new) gh aT w w'∧bP E (st.aA ef.aA ef.new) aT w' ef.x v∧∀g∈ef.x.names,(st.aA ef.aA ef.new).used g=true:=by
 obtain ⟨E',kC,q1,q2,q3,_,q4⟩:=Rk hs.1 h hr hc hf
 refine Calls.mono (hs.2.2 E' w vals kC c.ins bI hR q1 q2 q3 hlen) fun e w' he => ?_
 obtain ⟨rs,wB,hrl,rfl,hx,WW⟩:=he
 obtain ⟨aT,r1,r2,r3,r4⟩:=q4 d bI ef hef hnew w' rs wB hrl hx WW
 exact ⟨_,aT,rfl,r1,r2,r3,r4⟩
end
end Go.Fw

namespace Go.Fw
variable [dB]
section
variable {o o':Nat→O}
theorem zW {g:Nat} {x:Bool×Bool×Nat×List (List P)} (h:plainO o g=some x):(o g).names=(o g).hn∧∀d∈(o g).hn,(o d).hn=[]:=by
 obtain ⟨a,i,sz,l⟩:=x
 rcases qR h with ⟨fz,h⟩ | ⟨ak,h⟩ | ⟨a0,i0,ak,l0,n,c,d,fz',a',i',sz',l',h,hd,_⟩
 ·rw [h];exact ⟨rfl,fun d hd=>by cases hd⟩
 ·rw [h];exact ⟨rfl,fun d hd=>by cases hd⟩
 ·rw [h]
  refine ⟨rfl,fun d' hd' => ?_⟩
  simp only [O.hn,bF,ZZ] at hd'
  subst hd';rw [hd];rfl
theorem I5 {g:Nat} (h:Agree o o' g):aH o g=aH o' g:=by simp only [aH,yA h,h.1]
theorem KR {g d:Nat} (h:Agree o o' g) {x:Bool×Bool×Nat×List (List P)} (hp:plainO o g=some x) (hd:d∈(o g).hn):Agree o o' d:=by
 refine ⟨h.2 d hd,fun d' hd' => ?_⟩
 rw [(zW hp).2 d hd] at hd';cases hd'
theorem zX {x:W} (h :∀g∈x.names,Agree o o' g):x.toP o=x.toP o':=by
 cases x<;>simp only [W.toP]<;>(try rw [yA (h _ (by simp [W.names])),(h _ (by simp [W.names])).1])
theorem xq {x:W} {y:P} {a i:Bool} {gs:List Nat} (h:x.toP o=some (y,a,i,gs)) (hx :∀g∈x.names,Agree o o' g) :∀g∈gs,Agree o o' g:=by
 cases x<;>simp only [W.toP] at h
 case p=>simp only [Q0,Q1] at h;obtain ⟨_,_,_,rfl⟩:=h;simp
 case bM=>simp only [Q0,Q1] at h;obtain ⟨_,_,_,rfl⟩:=h;simp
 case own g=>
  split at h
  ·rename_i hp
   simp only [Q0,Q1] at h;obtain ⟨_,_,_,rfl⟩:=h
   have hg:=hx g (by simp [W.names])
   rw [(zW hp).1]
   intro d hd
   rcases Z1.1 hd with hd | hd
   ·exact KR hg hp hd
   ·rw [ZZ] at hd;subst hd;exact hg
  ·cases h
 case vw g lo hi=>
  split at h
  ·rename_i hp
   simp only [Q0,Q1] at h;obtain ⟨_,_,_,rfl⟩:=h
   have hg:=hx g (by simp [W.names])
   rw [(zW hp).1]
   intro d hd
   rcases Z1.1 hd with hd | hd
   ·exact KR hg hp hd
   ·rw [ZZ] at hd;subst hd;exact hg
  ·cases h
 all_goals cases h
theorem nR :∀{xs:List W},(∀x∈xs,∀g∈x.names,Agree o o' g)→oV o xs=oV o' xs
 | [],_=>rfl
 |x::xs,h=>by simp only [oV];rw [zX (h x (by simp)),nR fun y hy=>h y (by simp [hy])]
theorem tX :∀{xs:List W} {ys:List P} {a i:Bool} {gs:List Nat},oV o xs=some (ys,a,i,gs)→(∀x∈xs,∀g∈x.names,Agree o o' g)→∀g∈gs,Agree o o' g
 | [],ys,a,i,gs,h,_=>by simp [oV] at h;obtain ⟨_,_,_,rfl⟩:=h;simp
 |x::xs,ys,a,i,gs,h,hx=>by
  simp only [oV] at h
  split at h
  ·rename_i h1 h2
   simp only [Q0,Q1] at h
   obtain ⟨_,_,_,rfl⟩:=h
   intro g hg
   rcases Z1.1 hg with hg | hg
   ·exact xq h1 (hx x (by simp)) g hg
   ·exact tX h2 (fun y hy=>hx y (by simp [hy])) g hg
  ·cases h
theorem kP {gs:List Nat} (h :∀g∈gs,Agree o o' g):gs.map (aH o)=gs.map (aH o'):=
 Z0 fun g hg=>I5 (h g hg)
theorem DW {sz:Nat} {x:W} (h :∀g∈x.names,o g=o' g):x.rows o sz=x.rows o' sz:=by
 cases x<;>simp only [W.rows]<;>(try rw [h _ (by simp [W.names])])
theorem Bo {x:W} (h :∀g∈x.names,o g=o' g):lenOf o x=lenOf o' x:=by
 cases x<;>simp only [lenOf]<;>(try rw [h _ (by simp [W.names])])
theorem xu {x:W} (h :∀g∈x.names,o g=o' g):x.live o=x.live o':=by
 cases x<;>simp only [W.live]<;>(try rw [h _ (by simp [W.names])])
theorem I7 {tt:TT} {d:Nat} {sT:TypeId} {s x:W} (hs :∀g∈s.names,o g=o' g) (h :∀g∈x.names,o g=o' g):qM tt d o sT s x=qM tt d o' sT s x:=by
 unfold qM
 split
 ·split
  ·split
   ·rfl
   ·rw [DW h]
    split
    ·rfl
    ·cases s<;>simp only<;>(try rw [hs _ (by simp [W.names])])
  ·rfl
 ·rfl
theorem xw {place:Nat→Option (Nat×Nat)} :∀{ps:List (Nat×S)} {Ro ws:List W},jO place Ro ps=some ws→∀x∈ws,x∈Ro∨∃p∈ps,∀g∈x.names,g∈p.2.names
 | [],Ro,ws,h=>by simp only [jO,Q0] at h;subst h;intro x hx;exact .inl hx
 |(n,s)::ps,Ro,ws,h=>by
  cases s with
  |v y=>
   simp only [jO] at h
   split at h
   ·split at h
    ·intro x hx
     rcases xw h x hx with hx | ⟨p,hp,hg⟩
     ·unfold aF at hx
      rcases Z1.1 hx with hx | hx
      ·rcases Z1.1 hx with hx | hx
       ·exact .inl (W5 hx)
       ·refine .inr ⟨(n,.v y),by simp,fun g hg => ?_⟩
        cases y with
        |one y=>simp only [V.words,ZZ] at hx;subst hx;simpa [S.names,V.names] using hg
        |agg ys=>simp only [V.words] at hx;simp only [S.names,V.names,X1];exact ⟨x,hx,hg⟩
      ·exact .inl (Wo hx)
     ·exact .inr ⟨p,by simp [hp],hg⟩
    ·cases h
   ·cases h
  |jK=>simp [jO] at h
  |no=>simp [jO] at h
theorem Bq {y:V} {x:W} (h:x∈y.words) {g:Nat} (hg:g∈x.names):g∈(S.v y).names:=by
 cases y with
 |one y=>simp only [V.words,ZZ] at h;subst h;simpa [S.names,V.names] using hg
 |agg ys=>simp only [V.words] at h;simp only [S.names,V.names,X1];exact ⟨x,h,hg⟩
theorem yO {tt:TT} {d:Nat} {F F':Operand→S} {op:Op} {ty:TypeId} (hF :∀x∈op.operands.toList,F x=F' x) (hO :∀x∈op.operands.toList,∀g∈(F x).names,Agree o o' g) :
  kernel tt d o F op ty=kernel tt d o' F' op ty:=by
 have ho :∀x∈op.operands.toList,∀g∈(F x).names,o g=o' g:=fun x hx g hg=>(hO x hx g hg).1
 cases op with
 |move x=>simp only [kernel,←hF x (by simp [Op.operands])]
 |assign x=>simp only [kernel,←hF x (by simp [Op.operands])]
 |pick c x y=>simp only [kernel,←hF c (by simp [Op.operands]),←hF x (by simp [Op.operands]),←hF y (by simp [Op.operands])]
 |alloc t=>rfl
 |box t x=>simp only [kernel,←hF x (by simp [Op.operands])]
 |build t ps=>
  have e:ps.toList.map (fun p=>(p.1,F p.2))=ps.toList.map (fun p=>(p.1,F' p.2)):=Z0 fun p hp=>by
   rw [hF p.2 (by simp only [Op.operands];exact QP.2 ⟨p,hp,rfl⟩)]
  simp only [kernel,←e]
 |buildSlice t n ps=>
  have e:ps.toList.map (fun p=>(p.1,F p.2))=ps.toList.map (fun p=>(p.1,F' p.2)):=Z0 fun p hp=>by
   rw [hF p.2 (by simp only [Op.operands];exact QP.2 ⟨p,hp,rfl⟩)]
  simp only [kernel,←e]
  split
  ·split
   ·rename_i ie _
    split
    ·rename_i ws hws
     have hn :∀x∈ws,∀g∈x.names,Agree o o' g:=by
      intro x hx g hg
      rcases xw hws x hx with h | ⟨p,hp,h⟩
      ·have:=oz h
       obtain ⟨v,_,rfl⟩:=QP.1 this
       rw [kL] at hg;cases hg
      ·obtain ⟨q,hq,rfl⟩:=QP.1 hp
       exact hO q.2 (by simp only [Op.operands];exact QP.2 ⟨q,hq,rfl⟩) g (h g hg)
     rw [←nR hn]
     split
     ·rename_i h
      rw [kP (tX h hn)]
     ·rfl
    ·rfl
   ·rfl
  ·rfl
 |load t x=>
  have hx:=hF x (by simp [Op.operands])
  have hn:=ho x (by simp [Op.operands])
  simp only [kernel,←hx]
  generalize F x=sx at hn
  split<;>simp_all [S.names,V.names,W.names]
 |store t x y=>
  have hx:=hF x (by simp [Op.operands])
  have hy:=hF y (by simp [Op.operands])
  have hn:=ho x (by simp [Op.operands])
  have hm:=hO y (by simp [Op.operands])
  simp only [kernel,←hx,←hy]
  generalize F x=sx at hn
  generalize F y=sy at hm
  split
  ·rename_i g off y _
   rw [hn g (by simp [S.names,V.names,W.names])]
  ·rename_i g n off y _
   rw [hn g (by simp [S.names,V.names,W.names])]
   have hw :∀x∈y.words,∀g∈x.names,Agree o o' g:=fun x hx g hg=>hm g (Bq hx hg)
   rw [←nR hw]
   cases hz:oV o y.words with
   |none=>cases o' g with | arr fz _ _ _ _=>cases fz<;>rfl | _=>rfl
   |some z=>
    obtain ⟨ps,a',Y7,gs⟩:=z
    have e:=kP (tX hz hw)
    cases o' g with
    |arr fz _ _ _ _=>cases fz<;>simp only [e]
    |_=>rfl
  ·rfl
 |nilCheck x=>
  have hx:=hF x (by simp [Op.operands])
  have hn:=ho x (by simp [Op.operands])
  simp only [kernel,←hx]
  generalize F x=sx at hn
  split
  ·rw [xu fun g hg=>hn g (by simpa [S.names,V.names] using hg)]
  ·rfl
 |binOp op t x y u=>simp only [kernel,←hF x (by simp [Op.operands]),←hF y (by simp [Op.operands])]
 |unOp op t x=>simp only [kernel,←hF x (by simp [Op.operands])]
 |convert s t x=>
  have hx:=hF x (by simp [Op.operands])
  have hn:=ho x (by simp [Op.operands])
  simp only [kernel,←hx]
  generalize F x=sx at hn
  split
  ·rfl
  ·rw [DW fun g hg=>hn g (by simpa [S.names,V.names] using hg)]
  ·rfl
  ·rfl
 |makeSlice t n c=>
  simp only [kernel,←hF n (by simp [Op.operands]),←hF c (by simp [Op.operands])]
  split
  ·split
   ·rename_i ie _
    have:oV o (ie.zero.map cv)=oV o' (ie.zero.map cv):=nR fun x hx g hg=>by
     obtain ⟨v,_,rfl⟩:=QP.1 hx
     rw [kL] at hg;cases hg
    rw [this]
   ·rfl
  ·rfl
 |slice t x lo hi mx=>
  cases mx with
  |some m=>cases lo with
   |some l=>simp only [kernel]
   |none=>cases hi with
    |none=>simp only [kernel]
    |some h=>
     have hx:=hF x (by simp [Op.operands])
     have hn:=ho x (by simp [Op.operands])
     simp only [kernel,←hx,←hF h (by simp [Op.operands]),←hF m (by simp [Op.operands])]
     generalize F x=sx at hn
     unfold yB
     split
     ·rename_i g _ _ h' _ _ m' _ _ _
      rw [hn g (by simp [S.names,V.names,W.names])]
     ·rfl
     ·rfl
  |none=>
   have hx:=hF x (by simp [Op.operands])
   have hn:=ho x (by simp [Op.operands])
   have hlo:lo.map F=lo.map F':=by
    cases lo with
    |none=>rfl
    |some l=>simp [hF l (by simp [Op.operands])]
   have hhi:hi.map F=hi.map F':=by
    cases hi with
    |none=>rfl
    |some l=>simp [hF l (by simp [Op.operands])]
   simp only [kernel,←hx,←hlo,←hhi]
   generalize F x=sx at hn
   split
   ·rename_i x _
    have hn :∀g∈x.names,o g=o' g:=fun g hg=>hn g (by simpa [S.names,V.names] using hg)
    rw [←Bo hn]
    split
    ·split
     ·split
      ·rw [hn _ (by simp [W.names])]
      all_goals rfl
     ·rfl
    ·rfl
   ·rfl
   ·rfl
 |fieldAddr t x n=>
  have hx:=hF x (by simp [Op.operands])
  have hn:=ho x (by simp [Op.operands])
  simp only [kernel,←hx]
  generalize F x=sx at hn
  split
  ·rw [xu fun g hg=>hn g (by simpa [S.names,V.names] using hg)]
  ·rfl
 |field t x n=>simp only [kernel,←hF x (by simp [Op.operands])]
 |indexAddr t x ix=>
  have hx:=hF x (by simp [Op.operands])
  have hn:=ho x (by simp [Op.operands])
  simp only [kernel,←hx,←hF ix (by simp [Op.operands])]
  generalize F x=sx at hn
  split
  ·rename_i x a i n _ _
   have hn :∀g∈x.names,o g=o' g:=fun g hg=>hn g (by simpa [S.names,V.names] using hg)
   split
   ·rw [hn _ (by simp [W.names])]
   ·rw [hn _ (by simp [W.names])]
   all_goals rfl
  ·rfl
  ·rw [xu fun g hg=>hn g (by simpa [S.names,V.names] using hg)]
  ·rfl
 |index t x ix=>simp only [kernel,←hF x (by simp [Op.operands]),←hF ix (by simp [Op.operands])]
 |extract t n=>simp only [kernel,←hF t (by simp [Op.operands])]
 |range t x=>simp only [kernel,←hF x (by simp [Op.operands])]
 |makeFunc fn first caps=>
  cases fn with
  |func g=>
   simp only [kernel]
   have hc :∀x∈caps.toList,F x=F' x:=fun x hx=>hF x (by simp [Op.operands];exact .inr (by simpa using hx))
   have :∀l:List Operand,(∀x∈l,F x=F' x)→∀(G:Option (List W)→Option zJ),G (l.mapM (fun x=>match F x with | .v (.one w)=>some w | _=>none))=G (l.mapM (fun x=>match F' x with | .v (.one w)=>some w | _=>none)):=by
    intro l hl G
    congr 1
    induction l with
    |nil=>rfl
    |cons x l ih=>
     simp only [Ks]
     rw [hl x (by simp),ih fun y hy=>hl y (by simp [hy])]
   split
   ·exact this _ hc fun z=>match z with | some ws=>some (.pure (.v (.one (.clo g ws)))) | none=>none
   ·rfl
  |_=>rfl
 |call c=>
  obtain ⟨callee,args,ts⟩:=c
  have ha :∀x∈args.toList,F x=F' x:=fun x hx=>hF x (by simp [Op.operands,Call.operands];exact .inr (by simpa using hx))
  have hb :∀x∈args.toList,∀g∈(F x).names,o g=o' g:=fun x hx=>ho x (by simp [Op.operands,Call.operands];exact .inr (by simpa using hx))
  cases callee with
  |builtin b=>
   cases b with
   |append=>
    simp only [kernel]
    split
    ·rename_i s x sT xT _ hl _
     have hs:=ha s (by rw [hl];simp)
     have hx:=ha x (by rw [hl];simp)
     have ns:=hb s (by rw [hl];simp)
     have nx:=hb x (by rw [hl];simp)
     rw [←hs,←hx]
     generalize F s=ss at ns
     generalize F x=sx at nx
     split
     ·exact I7 (fun g hg=>ns g (by simpa [S.names,V.names] using hg)) (fun g hg=>nx g (by simpa [S.names,V.names] using hg))
     ·rfl
    ·rfl
   |clear=>
    simp only [kernel]
    split
    ·rename_i x t tl hl _
     have hx:=ha x (by rw [hl];simp)
     have nx:=hb x (by rw [hl];simp)
     rw [←hx]
     generalize F x=sx at nx
     unfold Iq
     split
     ·rename_i e _ _ _ g lo hi _
      rw [nx g (by simp [S.names,V.names,W.names])]
      split
      ·rename_i ie _ _ _ _ _ _
       have:oV o (ie.zero.map cv)=oV o' (ie.zero.map cv):=nR fun x hx g hg=>by
        obtain ⟨v,_,rfl⟩:=QP.1 hx
        rw [kL] at hg;cases hg
       rw [this]
      ·rfl
     ·rfl
    ·rfl
   |len=>
    simp only [kernel]
    split
    ·rename_i x t hl _
     have hx:=ha x (by rw [hl];simp)
     have nx:=hb x (by rw [hl];simp)
     rw [←hx]
     generalize F x=sx at nx
     split
     ·rw [Bo fun g hg=>nx g (by simpa [S.names,V.names] using hg)]
     ·rfl
     ·rfl
    ·rfl
   |min=>
    simp only [kernel]
    split
    ·rename_i x y hl
     rw [ha x (by rw [hl];simp),ha y (by rw [hl];simp)]
    ·rename_i x y z hl
     rw [ha x (by rw [hl];simp),ha y (by rw [hl];simp),ha z (by rw [hl];simp)]
    ·rfl
   |max=>
    simp only [kernel]
    split
    ·rename_i x y hl
     rw [ha x (by rw [hl];simp),ha y (by rw [hl];simp)]
    ·rename_i x y z hl
     rw [ha x (by rw [hl];simp),ha y (by rw [hl];simp),ha z (by rw [hl];simp)]
    ·rfl
   |_=>rfl
  |_=>rfl
 |_=>rfl
theorem uY {col:Nat→Option Nat} :∀{xs:List W} {j:Nat},(∀x∈xs,∀g∈x.names,Agree o o' g)→JZ o col j xs=JZ o' col j xs
 | [],_,_=>rfl
 |x::xs,j,h=>by
  have hx:=h x (by simp)
  simp only [JZ]
  rw [uY fun y hy=>h y (by simp [hy]),zX hx]
  cases x with
  |own e=>simp only [(hx e (by simp [W.names])).1]
  |_=>rfl
theorem xA {col:Nat→Option Nat} :∀{xs:List W} {j:Nat} {ys:List P} {a i:Bool} {gs:List Nat} {es:List (Nat×Nat)},JZ o col j xs=some (ys,a,i,gs,es)→(∀x∈xs,∀g∈x.names,Agree o o' g)→∀g∈gs,Agree o o' g
 | [],j,ys,a,i,gs,es,h,_=>by simp [JZ] at h;obtain ⟨_,_,_,rfl,_⟩:=h;simp
 |x::xs,j,ys,a,i,gs,es,h,hx=>by
  simp only [JZ] at h
  split at h
  ·cases h
  ·rename_i ys' a' i' gs' es' h2
   have ih:=xA h2 (fun y hy=>hx y (by simp [hy]))
   split at h
   ·split at h
    ·rename_i h1
     simp only [Q0,Q1] at h
     obtain ⟨_,_,_,rfl,_⟩:=h
     intro g hg
     rcases Z1.1 hg with hg | hg
     ·exact xq h1 (hx x (by simp)) g hg
     ·exact ih g hg
    ·cases h
   ·split at h
    ·simp only [Q0,Q1] at h
     obtain ⟨_,_,_,rfl,_⟩:=h
     exact ih
    ·split at h
     ·split at h
      ·simp only [Q0,Q1] at h
       obtain ⟨_,_,_,rfl,_⟩:=h
       exact ih
      ·cases h
     ·cases h
    ·cases h
theorem KT {x:W} (h :∀g∈x.names,Agree o o' g):baseD o x=baseD o' x:=by
 cases x<;>simp only [baseD]<;>(try rw [kD (h _ (by simp [W.names])),(h _ (by simp [W.names])).1])
theorem Gf {tt:TT} {dc:List (Nat×Nat)} {d:Nat} {F F':Operand→S} {op:Op} {ty:TypeId} (hF :∀x∈op.operands.toList,F x=F' x) (hO :∀x∈op.operands.toList,∀g∈(F x).names,Agree o o' g) :
  bV tt dc d o F op ty=bV tt dc d o' F' op ty:=by
 cases op with
 |load t x=>
  have hx:=hF x (by simp [Op.operands])
  have hn:=hO x (by simp [Op.operands])
  simp only [bV,o_,←hx]
  generalize F x=sx at hn
  congr 1
  ·split
   ·have hg:=hn _ (by simp [S.names,V.names,W.names];rfl)
    rw [←kD hg]
   ·rfl
  ·split
   ·have hg:=hn _ (by simp [S.names,V.names,W.names];rfl)
    rw [←kD hg,←hg.1]
   ·rfl
 |slice t x lo hi mx=>
  cases lo with
  |some _=>rfl
  |none=>
  cases mx with
  |some _=>rfl
  |none=>
  have hx:=hF x (by simp [Op.operands])
  have hn:=hO x (by simp [Op.operands])
  have hh:hi.map F=hi.map F':=by
   cases hi with
   |none=>rfl
   |some y=>simp only [YY,Q0];exact hF y (by simp [Op.operands])
  simp only [bV,←hx,←hh]
  generalize F x=sx at hn
  split
  ·have hg:=hn _ (by simp [S.names,V.names,W.names];rfl)
   rw [←hg.1]
  ·rfl
 |store t x y=>
  have hx:=hF x (by simp [Op.operands])
  have hy:=hF y (by simp [Op.operands])
  have hn:=hO x (by simp [Op.operands])
  have hm:=hO y (by simp [Op.operands])
  simp only [bV,←hx,←hy]
  generalize F x=sx at hn
  generalize F y=sy at hm
  split
  ·rename_i g off y _
   have hg:=hn _ (by simp [S.names,V.names,W.names];rfl)
   have hw :∀x∈y.words,∀g∈x.names,Agree o o' g:=fun x hx g hg=>hm g (Bq hx hg)
   rw [←kD hg,←hg.1]
   split
   ·rename_i a0 i0 sz ak l0 hole _
    rw [←uY hw]
    split
    ·rename_i ps a' i' gs es hz
     rw [kP (xA hz hw)]
    ·rfl
   ·rfl
  ·rfl
 |buildSlice t n ps=>
  have e:ps.toList.map (fun p=>(p.1,F p.2))=ps.toList.map (fun p=>(p.1,F' p.2)):=Z0 fun p hp=>by
   rw [hF p.2 (by simp only [Op.operands];exact QP.2 ⟨p,hp,rfl⟩)]
  simp only [bV,←e]
  split
  ·split
   ·rename_i ie _
    split
    ·rename_i ws hws
     have hn :∀x∈ws,∀g∈x.names,Agree o o' g:=by
      intro x hx g hg
      rcases xw hws x hx with h | ⟨p,hp,h⟩
      ·have:=oz h
       obtain ⟨v,_,rfl⟩:=QP.1 this
       rw [kL] at hg;cases hg
      ·obtain ⟨q,hq,rfl⟩:=QP.1 hp
       exact hO q.2 (by simp only [Op.operands];exact QP.2 ⟨q,hq,rfl⟩) g (h g hg)
     rw [←uY hn]
     split
     ·rename_i h
      rw [kP (xA h hn)]
     ·rfl
    ·rfl
   ·rfl
  ·rfl
 |makeSlice t n c=>
  simp only [bV,←hF n (by simp [Op.operands]),←hF c (by simp [Op.operands])]
  split
  ·split
   ·rename_i ie _
    have :∀col,JZ o col 0 (ie.zero.map cv)=JZ o' col 0 (ie.zero.map cv):=fun col=>uY fun x hx g hg=>by
     obtain ⟨v,_,rfl⟩:=QP.1 hx
     rw [kL] at hg;cases hg
    rw [this]
   ·rfl
  ·rfl
 |call c=>
  obtain ⟨callee,args,ts⟩:=c
  have ha :∀x∈args.toList,F x=F' x:=fun x hx=>hF x (by simp [Op.operands,Call.operands];exact .inr (by simpa using hx))
  have hb :∀x∈args.toList,∀g∈(F x).names,Agree o o' g:=fun x hx=>hO x (by simp [Op.operands,Call.operands];exact .inr (by simpa using hx))
  cases callee with
  |builtin b=>
   cases b with
   |append=>
    simp only [bV]
    split
    ·rename_i s x sT xT _ hl _
     have hs:=ha s (by rw [hl];simp)
     have hx:=ha x (by rw [hl];simp)
     have ns:=hb s (by rw [hl];simp)
     have nx:=hb x (by rw [hl];simp)
     rw [←hs,←hx]
     generalize F s=ss at ns
     generalize F x=sx at nx
     split
     ·rename_i s' g2 _ _
      have hg:=nx g2 (by simp [S.names,V.names,W.names])
      rw [←KT (fun g hg=>ns g (by simpa [S.names,V.names] using hg)),←kD hg,←hg.1]
     ·rfl
    ·rfl
   |_=>rfl
  |_=>rfl
 |_=>rfl
end
end Go.Fw

namespace Go.Fw
open Go.RowKit
variable [dB]
def quiet:Obj→Bool
 |.loop _=>true
 |.deferred _=>true
 |_=>false
theorem iO {o:Obj} (h:quiet o=true) :∀c e f,o≠.cells c e f:=by intro c e f e';subst e';cases h
theorem DX {o:Obj} (h:quiet o=true) :∀s k,o≠.stringIter s k:=by intro s k e';subst e';cases h
section
variable {w w':World} {b:Nat} {o:Obj}
theorem DY {a:Addr} {v:Value} (h:w.cell? a=some v) :∃c e f,w.heap[a.block]?=some (.cells c e f):=by
 obtain ⟨o,ho,hc⟩:=cells_of_cell h
 cases o<;>first | exact ⟨_,_,_,ho⟩ | cases hc
theorem bD.turn (hb:w.heap[b]?=some o) (hq:quiet o=true) (hs :∀k,k≠b→w'.heap[k]?=w.heap[k]?) {ok:Nat→Prop} {x:P} {v:Value} (r:bD w ok x v):bD w' ok x v:=by
 have ne :∀{k c e f},w.heap[k]?=some (.cells c e f)→k≠b:=fun hk e'=>by subst e';rw [hb] at hk;exact iO hq _ _ _ (Wa hk)
 induction r with
 |int k n=>exact .int k n
 |bool b=>exact .bool b
 |str s=>exact .str s
 |opq v h=>exact .opq v h
 |nil sz ao cap=>exact .nil sz ao cap
 |sl sz l a cap f hs' hok hcap hlen hc hr ih=>
  refine .sl sz l a cap f hs' hok hcap hlen (fun i x hx j y hy => ?_) (fun i x hx j y hy=>ih i x hx j y hy)
  have h0:=hc i x hx j y hy
  obtain ⟨c,e,f,hk⟩:=DY h0
  rw [←h0]
  exact World.cell?_of_block (w:=w) (hs _ (ne hk))
 |seq l v S hv hS hq'=>
  exact .seq l v S hv (fun b' hb'=>⟨(hS b' hb').1,by obtain ⟨c,e,f,hk⟩:=(hS b' hb').2;exact ⟨c,e,f,(hs _ (ne hk)).trans hk⟩⟩)
   (dB.OZ (fun b' hb'=>by obtain ⟨c,e,f,hk⟩:=(hS b' hb').2;exact hs _ (ne hk)) hq')
variable {E:Env} {st:St} {gh:Nat→Gh}
theorem uZ (hz:w'.heap.size=w.heap.size) {a i:Bool}:E.ok st gh w a i=E.ok st gh w' a i:=by
 funext b;unfold Env.ok;rw [hz]
theorem dH.turn (hb:w.heap[b]?=some o) (hq:quiet o=true) (hs :∀k,k≠b→w'.heap[k]?=w.heap[k]?) (hz:w'.heap.size=w.heap.size) {x:W} {v:Value} (r:dH E st gh w x v):dH E st gh w' x v:=by
 induction r with
 |p a i x v h=>exact .p a i x v (by rw [←uZ hz];exact h.turn hb hq hs)
 |bM=>exact .bM
 |own g v hv h=>exact .own g v hv h
 |vw g lo hi v hv h=>exact .vw g lo hi v hv h
 |box g off v hv h=>exact .box g off v hv h
 |ep g n off v hv h=>exact .ep g n off v hv h
 |sp a i row off b' o' hb' h=>
  refine .sp a i row off b' o' (by rw [←uZ hz];exact hb') fun j y hj => ?_
  obtain ⟨u,hu,hr⟩:=h j y hj
  obtain ⟨c,e,f,hk⟩:=DY hu
  refine ⟨u,?_,by rw [←uZ hz];exact hr.turn hb hq hs⟩
  rw [←hu]
  refine World.cell?_of_block (w:=w) (hs _ fun e' => ?_)
  have hk:w.heap[b']?=some (.cells c e f):=hk
  have e':b'=b:=e'
  rw [e',hb] at hk;exact iO hq _ _ _ (Wa hk)
 |gl g=>exact .gl g
 |kH g v hv h=>exact .kH g v hv h
 |gd b x v h ih=>exact .gd b x v ih
 |clo f caps vs hl h ih=>exact .clo f caps vs hl ih
 |no v=>exact .no v
theorem nY.turn (hb:w.heap[b]?=some o) (hq:quiet o=true) (hs :∀k,k≠b→w'.heap[k]?=w.heap[k]?) (hz:w'.heap.size=w.heap.size) {x:V} {v:Value} (r:nY E st gh w x v):nY E st gh w' x v:=by
 cases r with
 |one x v h=>exact .one x v (h.turn hb hq hs hz)
 |agg xs cs hl hv h=>exact .agg xs cs hl hv fun j x v hx hv'=>(h j x v hx hv').turn hb hq hs hz
theorem bP.turn (hb:w.heap[b]?=some o) (hq:quiet o=true) (hs :∀k,k≠b→w'.heap[k]?=w.heap[k]?) (hz:w'.heap.size=w.heap.size) {x:S} {v:Value} (r:bP E st gh w x v):bP E st gh w' x v:=by
 cases r with
 |v x v h=>exact .v x v (h.turn hb hq hs hz)
 |jK xs vs hl h=>exact .jK xs vs hl fun j x v hx hv=>(h j x v hx hv).turn hb hq hs hz
 |no v=>exact .no v
theorem gy.turn (hb:w.heap[b]?=some o) (hq:quiet o=true) (hs :∀k,k≠b→w'.heap[k]?=w.heap[k]?) (hz:w'.heap.size=w.heap.size) {a i:Bool} {sz:Nat} {l:List (List P)} {G:Gh} (r:gy E st gh w a i sz l G):gy E st gh w' a i sz l G:=by
 rcases r with r | ⟨ad,c,e,h1,h2,h3,h4,h5,h6,h7⟩
 ·exact .inl r
 ·exact .inr ⟨ad,c,e,h1,h2,(hs _ fun e'=>by rw [e',hb] at h3;exact iO hq _ _ _ (Wa h3)).trans h3,h4,h5,h6,fun n x hx j y hy=>let ⟨v,q1,q2⟩:=h7 n x hx j y hy;⟨v,q1,by rw [←uZ hz];exact q2.turn hb hq hs⟩⟩
theorem jX.turn (hb:w.heap[b]?=some o) (hq:quiet o=true) (hs :∀k,k≠b→w'.heap[k]?=w.heap[k]?) (hz:w'.heap.size=w.heap.size) {x:O} {G:Gh} (r:jX E st gh w x G):jX E st gh w' x G:=by
 have ne :∀{k c e f},w.heap[k]?=some (.cells c e f)→k≠b:=fun hk e'=>by subst e';rw [hb] at hk;exact iO hq _ _ _ (Wa hk)
 cases x with
 |none=>trivial
 |box ws=>
  obtain ⟨ad,c,e,h1,h2,h3,h4,h5⟩:=r
  exact ⟨ad,c,e,h1,h2,(hs _ (ne h3)).trans h3,h4,fun j x hx=>let ⟨v,q1,q2,q3⟩:=h5 j x hx;⟨v,q1,q2,q3.turn hb hq hs hz⟩⟩
 |arr fz a i sz l=>
  cases fz with
  |true=>exact (by rw [←uZ hz];exact bD.turn hb hq hs r:bD w' (E.ok st gh w' a i) (.sl sz l) (.slice G.ad l.length G.cap))
  |false=>exact gy.turn hb hq hs hz r
 |ay a i sz ak l hole=>
  rcases r with r | ⟨ad,c,e,h1,h2,h3,h4,h5,h6,⟨h7,h7'⟩,h8⟩
  ·exact .inl r
  ·refine .inr ⟨ad,c,e,h1,h2,(hs _ (ne h3)).trans h3,h4,h5,h6,⟨h7,fun k hk=>let ⟨c,e,f,q⟩:=h7' k hk;⟨c,e,f,(hs _ (ne q)).trans q⟩⟩,fun n x hx j y hy => ?_⟩
   obtain ⟨v,hv,hr⟩:=h8 n x hx j y hy
   refine ⟨v,hv,?_⟩
   unfold fZ at *
   cases hc:ak.lookup j with
   |none=>rw [hc] at hr;exact (by rw [←uZ hz];exact bD.turn hb hq hs hr:bD w' (E.ok st gh w' a i) y v)
   |some sz'=>
    rw [hc] at hr
    simp only at *
    cases hh:eY hole n j with
    |some d=>rw [hh] at hr;exact ⟨hr.1,hr.2.turn hb hq hs hz⟩
    |none=>
     rw [hh] at hr
     obtain ⟨l',ao,k,q1,q2,q3,q4⟩:=hr
     exact ⟨l',ao,k,q1,q2,q3.turn hb hq hs hz,q4⟩
 |it s n=>
  obtain ⟨ad,bs,k,h1,h2,h3,h4⟩:=r
  refine ⟨ad,bs,k,h1,h2,h3,(hs _ fun e' => ?_).trans h4⟩
  rw [e',hb] at h4;exact DX hq _ _ (Wa h4)
theorem Rel.turn {val:Nat→Value} (h:Rel E st gh val w) (hb:w.heap[b]?=some o) (hq:quiet o=true) (hB:E.B0≤b) (o':Obj):Rel E st gh val (w.putObj b o'):=by
 have hs :∀k,k≠b→(w.putObj b o').heap[k]?=w.heap[k]?:=fun k hk=>World.putObj_heap_other hk
 have hz:(w.putObj b o').heap.size=w.heap.size:=World.putObj_size
 exact ⟨fun t=>(h.slots t).turn hb hq hs hz,fun g=>(h.aN g).turn hb hq hs hz,h.inj,fun g a h1 h2=>by rw [hz];exact h.wr g a h1 h2,h.wi,h.ns,h.wb,fun k hk hw=>(hs k (by omega)).trans (h.frame k hk hw),by rw [hz];exact h.size,h.os,h.tape,h.output,h.us,h.uo,h.ul⟩
omit [dB] in
structure yP (w w':World):Prop where
 size:w.heap.size≤w'.heap.size
 same :∀b,b<w.heap.size→w'.heap[b]?=w.heap[b]?
 os:w'.os=w.os
 tape:w'.tape=w.tape
 output:w'.output=w.output
theorem yP.alloc (w:World) (o:Obj):yP w (w.alloc o):=
 ⟨by simp,fun b hb=>Below.heap_alloc w o b hb,rfl,rfl,rfl⟩
theorem yP.lets (h:yP w w'):Lets E st st gh gh w w':=
 ⟨fun a i b hb=>⟨⟨hb.1,Wg hb.2.1 h.size,hb.2.2⟩,h.same b hb.2.1⟩,fun g _=>.inr ⟨⟨rfl,rfl⟩,O.dI _⟩⟩
theorem Rel.grows {val:Nat→Value} (h:Rel E st gh val w) (hg:yP w w'):Rel E st gh val w':=by
 have hl:Lets E st st gh gh w w':=hg.lets
 refine ⟨fun t=>hl.WE (h.us t) (h.slots t),fun g=>hl.yx (fun ho ad had=>hg.same _ (h.wr g ad ho had).2) (h.uo g) (h.aN g),h.inj,fun g a h1 h2=>⟨(h.wr g a h1 h2).1,Wg (h.wr g a h1 h2).2 hg.size⟩,h.wi,h.ns,h.wb,fun k hk hw=>(hg.same k (Wg hk h.size)).trans (h.frame k hk hw),Jn h.size hg.size,hg.os.trans h.os,hg.tape.trans h.tape,hg.output.trans h.output,h.us,h.uo,h.ul⟩
theorem Rel.Uo {val:Nat→Value} (h:Rel E st gh val w) (hb:w.heap[b]?=some o) (hq:quiet o=true) (hB:E.B0≤b) (a i:Bool):E.ok st gh w a i b:=by
 refine ⟨.inr (.inr (.inl hB)),(Wt.1 hb).1,fun g ho had => ?_⟩
 have hO:=h.aN g
 rcases had with ⟨ad,had,e⟩ | hsub
 case inr=>
  cases hd:(st.o g).lg with
  |false=>rw [h.ns g ho hd b] at hsub;cases hsub
  |true=>
   cases hog:st.o g with
   |ay a i sz ak l hole=>
    rw [hog] at hO
    rcases hO with ⟨_,_,_,q⟩ | ⟨ad,c,e,_,_,_,_,_,_,⟨_,q⟩,_⟩
    ·rw [q b] at hsub;cases hsub
    ·obtain ⟨c,e,f,q⟩:=q b hsub
     rw [hb] at q;exact iO hq _ _ _ (Wa q)
   |_=>rw [hog] at hd;cases hd
 cases hog:st.o g with
 |none=>rw [hog] at ho;cases ho
 |box ws=>
  rw [hog] at hO
  obtain ⟨ad',c,e',q1,_,q3,_⟩:=hO
  rw [had] at q1;cases q1
  rw [e,hb] at q3;exact iO hq _ _ _ (Wa q3)
 |ay a i sz ak l hole=>
  rw [hog] at hO
  rcases hO with ⟨q1,_⟩ | ⟨ad',c,e',q1,_,q3,_⟩
  ·rw [had] at q1;cases q1
  ·rw [had] at q1;cases q1
   rw [e,hb] at q3;exact iO hq _ _ _ (Wa q3)
 |arr fz a i sz l=>
  cases fz with
  |true=>rw [hog] at ho;cases ho
  |false=>
   rw [hog] at hO
   rcases hO with ⟨q1,_⟩ | ⟨ad',c,e',q1,_,q3,_⟩
   ·rw [had] at q1;cases q1
   ·rw [had] at q1;cases q1
    rw [e,hb] at q3;exact iO hq _ _ _ (Wa q3)
 |it s n=>
  rw [hog] at hO
  obtain ⟨ad',bs,k,q1,_,_,q4⟩:=hO
  rw [had] at q1;cases q1
  rw [e,hb] at q4;exact DX hq _ _ (Wa q4)
end
end Go.Fw

namespace Go.Fw
variable [dB]
section
variable {E:Env} {st st':St} {gh aT:Nat→Gh} {w w':World} {a:Act}
theorem NV (v:Value):bP E st gh w (qL v) v:=by
 unfold qL
 split
 ·rename_i cs
  split
  ·rename_i h
   have h:=X2.1 h
   refine .v _ _ (.agg _ cs.toList (by simp) h fun j x u hx hu => ?_)
   rw [Xs,hu] at hx
   simp only [YY,Q0] at hx
   subst hx
   exact NC (h u (QR hu))
  ·exact .no _
 ·exact .no _
 ·exact .v _ _ (.one _ _ (.clo _ [] [] rfl fun j x v hx=>by simp at hx))
 ·split
  ·rename_i h;exact .v _ _ (.one _ _ (NC h))
  ·exact .no _
theorem I8 (v:Value):(qL v).names=[]:=by
 unfold qL
 split
 ·split
  ·simp [S.names,V.names,kL]
  ·rfl
 ·rfl
 ·simp [S.names,V.names,W.names]
 ·split
  ·simp [S.names,V.names,kL]
  ·rfl
theorem nS (h:Rel E st gh (fun t=>a.tmps.getD t undef) w) (x:Operand):bP E st gh w (st.bC x) (a.eval x):=by
 cases x with
 |tmp t=>exact h.slots t
 |const v=>exact NV v
 |global g=>
  simp only [St.bC]
  split
  ·exact .v _ _ (.one _ _ (.gl g))
  ·exact .no _
 |func f=>exact .v _ _ (.one _ _ (.clo _ [] [] rfl fun j x v hx=>by simp at hx))
theorem DZ (h:Rel E st gh (fun t=>a.tmps.getD t undef) w) (x:Operand) :∀g∈(st.bC x).names,st.used g=true:=by
 cases x with
 |tmp t=>exact h.us t
 |const v=>intro g hg;simp [St.bC,I8] at hg
 |global g=>
  intro g' hg
  simp only [St.bC] at hg
  split at hg
  ·simp [S.names,V.names,W.names] at hg
  ·simp [S.names] at hg
 |func f=>intro g hg;simp [St.bC,S.names,V.names,W.names] at hg
theorem yQ (dst:Option Tmp) (v:Value) (h :∀d,dst=some d→d<a.tmps.size):(fun t=>(a.put dst v).tmps.getD t undef)=Dl (fun t=>a.tmps.getD t undef) dst v:=by
 cases dst with
 |none=>rfl
 |some d=>
  funext t
  have hd:=h d rfl
  simp only [Act.put,Dl,W2]
  by_cases e:t=d
  ·subst e;simp [hd]
  ·rw [Array.getElem?_setIfInBounds_ne (Ne.symm e),if_neg e]
variable {Pg:Program} {T:Tab} {tt:TT}
theorem NW (hT :∀f sp,T f=some sp→Sound Pg (f % 1000000) sp) (htt:fP Pg tt) (h:Rel E st gh (fun t=>a.tmps.getD t undef) w) {o:Oper} {d:Nat} {e:Eff} (hc:iT T tt d st o fun e'=>e'=e) (hnew :∀g∈e.new,st.used g=false)
  {K:Act→World→Prop} {Q:Exit→Act→World→Prop}
  (hK :∀v w' aT,Rel E (st.aA e.aA e.new) aT (fun t=>a.tmps.getD t undef) w'→Lets E st (st.aA e.aA e.new) gh aT w w'→bP E (st.aA e.aA e.new) aT w' e.x v→(∀g∈e.x.names,(st.aA e.aA e.new).used g=true)→K (a.put o.dst v) w') :
  o.wp Pg a w K Q:=by
 unfold iT at hc
 split at hc
 ·rename_i f args ts ho
  split at hc
  ·rename_i fn caps hf
   split at hc
   ·rename_i sp hsp
    split at hc
    ·rename_i c hci
     obtain ⟨Pv,bI,same,hR,hsame,he⟩:=hc
     simp only [Qf,decide_eq_true_eq] at Pv
     have hrf:=nS h f
     rw [hf] at hrf
     generalize hvf:a.eval f=vf at hrf
     cases hrf.bU with
     |clo _ _ vs hl hvs=>
     have hS:=WQ (p:=Sound Pg) hT hsp
     have hrun:(execOp a.eval o).run Pg w=.ok (.enter fn (args.toList.map a.eval++vs).toArray) w:=by
      have:(#[]++args.map a.eval)++vs.toArray=(args.toList.map a.eval++vs).toArray:=by
       apply Array.ext';simp
      rw [←hS.2.1 (args.toList.map a.eval++vs).toArray w,←this]
      simp only [execOp,ho,resolve,hvf,Deferred.ofValue]
      rfl
     show o.upon Pg a K Q ((execOp a.eval o).run Pg w)
     rw [hrun,Oper.upon_enter]
     have hr :∀t,bP E st gh w (((args.toList.map st.bC)++caps.map fun x=>S.v (.one x)).getD t .no) ((args.toList.map a.eval++vs).getD t undef):=by
      intro t
      simp only [Q6]
      by_cases ht:t<args.toList.length
      ·rw [Wl (by simpa using ht),Wl (by simpa using ht),Xs,Xs,Q2 ht]
       exact nS h _
      ·rw [Wf (by simpa using ht),Wf (by simpa using ht)]
       simp only [W0]
       rw [Xs]
       cases hx:caps[t-args.toList.length]? with
       |none=>exact .no _
       |some x=>
        have hlt:t-args.toList.length<vs.length:=by rw [←hl];exact (Q3.1 hx).1
        rw [Q2 hlt]
        exact .v _ _ (.one _ _ (hvs _ x _ hx (Q2 hlt)))
     have hu:=Q5 (st:=st) (e:=jf sp.sig d st.o c bI) fun g hg=>(hsame g hg).2
     have hnew :∀g∈(jf sp.sig d st.o c bI).new,st.used g=false:=fun g hg=>hnew g (by rw [←he];exact hg)
     refine Calls.mono (NU hS h hr (by simp;omega) hci Pv.1 hR d rfl hnew) fun e' w' he' => ?_
     obtain ⟨v,aT,rfl,q1,q2,q3,q4⟩:=he'
     rw [←hu] at q1 q2 q3 q4
     rw [he] at q1 q2 q3 q4
     have q3:bP E (st.aA e.aA e.new) aT w' e.x v:=by rw [←he];rw [←he] at q3;exact q3
     have q4 :∀g∈e.x.names,(st.aA e.aA e.new).used g=true:=by rw [←he];rw [←he] at q4;exact q4
     exact hK v w' aT q1 q2 q3 q4
    ·cases hc
   ·cases hc
  ·cases hc
 ·rcases hc with ⟨dc,r,hk,hp,hc⟩ | hc
  ·have he:=F8.iff.1 hc
   subst he
   obtain ⟨v,w',aT,hd,q1,q2,q3,q4⟩:=F6 htt o.op E st gh _ w a.eval st.bC o d r rfl h (nS h) (DZ h) hk hp hnew
   show o.upon Pg a K Q ((execOp a.eval o).run Pg w)
   rcases hd with hd | ⟨hd,rfl⟩
   ·rw [hd];exact hK v w' aT q1 q2 q3 q4
   ·rw [hd];exact hK _ w' aT q1 q2 q3 q4
  split at hc
  ·rename_i r hk
   obtain ⟨hp,hc⟩:=hc
   have he:({ x:=r.dst r.val,aA:=r.aA r.val,new:=r.new }:Eff)=e:=by
    cases hb:Bg o.op with
    |true=>rw [hb] at hc;exact F8.iff.1 hc
    |false=>rw [hb] at hc;exact hc
   subst he
   obtain ⟨v,w',aT,hd,q1,q2,q3,q4⟩:=IK htt o.op E st gh _ w a.eval st.bC o d r rfl h (nS h) (DZ h) hk hp hnew
   show o.upon Pg a K Q ((execOp a.eval o).run Pg w)
   rcases hd with hd | ⟨hd,rfl⟩
   ·rw [hd];exact hK v w' aT q1 q2 q3 q4
   ·rw [hd];exact hK _ w' aT q1 q2 q3 q4
  ·cases hc
def mark (D:Nat):Deferred:={ target:=.collected D,args:=#[] }
def Marks (E:Env) (a:Act) (w:World):Prop :=∃Ds:List Nat,a.defers=Ds.map mark∧Ds.Nodup∧∀D∈Ds,E.B0≤D∧w.heap[D]?=some (.deferred (some []))
theorem Marks.nil {E:Env} {a:Act} {w:World} (h:a.defers=[]):Marks E a w:=⟨[],h,List.nodup_nil,fun D hD=>by cases hD⟩
structure Good (E:Env) (N:Nat) (aY:List Nat) (sU:Nat→Gh) (st:St) (a:Act) (w:World):Prop where
 ex :∃gh,Rel E st gh (fun t=>a.tmps.getD t undef) w∧∀g∈aY,st.used g=true∧(st.o g=.none∨((gh g).ad=(sU g).ad∧(gh g).cap=(sU g).cap))
 size:a.tmps.size=N
 defers:Marks E a w
theorem yR (dst:Option Tmp) (v:Value):(a.put dst v).tmps.size=a.tmps.size:=by cases dst<;>simp [Act.put]
theorem put_defers (dst:Option Tmp) (v:Value):(a.put dst v).defers=a.defers:=by cases dst<;>rfl
theorem Marks.same {E:Env} {a:Act} {w w':World} (hm:Marks E a w) (h :∀D,E.B0≤D→w.heap[D]?=some (.deferred (some []))→w'.heap[D]?=w.heap[D]?) (dst:Option Tmp) (v:Value):Marks E (a.put dst v) w':=by
 obtain ⟨Ds,h1,h2,h3⟩:=hm
 exact ⟨Ds,(put_defers dst v).trans h1,h2,fun D hD=>⟨(h3 D hD).1,(h D (h3 D hD).1 (h3 D hD).2).trans (h3 D hD).2⟩⟩
theorem Marks.step {val:Nat→Value} (hm:Marks E a w) (hR:Rel E st gh val w) (hL:Lets E st st' gh aT w w') (dst:Option Tmp) (v:Value):Marks E (a.put dst v) w':=
 hm.same (fun D h2 h3=>(hL.ok false false D (hR.Uo h3 rfl h2 _ _)).2) dst v
theorem Marks.put (hm:Marks E a w) (dst:Option Tmp) (v:Value):Marks E (a.put dst v) w:=hm.same (fun _ _ _=>rfl) dst v
theorem oJ {d:Nat} {o:Oper} {K K':Eff→Prop} (hK :∀e,K e→K' e) (h:iT T tt d st o K):iT T tt d st o K':=by
 unfold iT at *
 split at h
 ·split at h
  ·split at h
   ·split at h
    ·obtain ⟨h1,bI,same,h2,h4,h3⟩:=h;exact ⟨h1,bI,same,h2,h4,hK _ h3⟩
    ·exact h
   ·exact h
  ·exact h
 ·rcases h with ⟨dc,r,h1,h2,h3⟩ | h
  ·exact .inl ⟨dc,r,h1,h2,F8.iff.2 (hK _ (F8.iff.1 h3))⟩
  refine .inr ?_
  split at h
  ·refine ⟨h.1,?_⟩
   obtain ⟨_,h⟩:=h
   cases hb:Bg o.op with
   |true=>rw [hb] at h;exact F8.iff.2 (hK _ (F8.iff.1 h))
   |false=>rw [hb] at h;exact hK _ h
  ·exact h
theorem D5 {d:Nat} {o:Oper} {K:Eff→Prop} (h:iT T tt d st o K) :∃e,iT T tt d st o (fun e'=>e'=e)∧K e:=by
 unfold iT at *
 split at h
 ·split at h
  ·split at h
   ·split at h
    ·obtain ⟨h1,bI,same,h2,h4,h3⟩:=h;exact ⟨_,⟨h1,bI,same,h2,h4,rfl⟩,h3⟩
    ·cases h
   ·cases h
  ·cases h
 ·rcases h with ⟨dc,r,h1,h2,h3⟩ | h
  ·exact ⟨_,.inl ⟨dc,r,h1,h2,F8.iff.2 rfl⟩,F8.iff.1 h3⟩
  split at h
  ·obtain ⟨hp,h⟩:=h
   cases hb:Bg o.op with
   |true=>rw [hb] at h;exact ⟨_,.inr ⟨hp,F8.iff.2 rfl⟩,F8.iff.1 h⟩
   |false=>rw [hb] at h;exact ⟨_,.inr ⟨hp,rfl⟩,h⟩
  ·cases h
theorem Ur {o:Nat→O} {g x:Nat} (h:x≠g) (h2:x∉(o g).hn):(Fw.iV o g).lookup x=none:=by
 have e1:(x==g)=false:=by simpa using h
 unfold Fw.iV
 split
 ·rename_i a i sz ak l n c d ho
  rw [ho] at h2
  have e2:(x==d)=false:=by simpa [O.hn,bF] using h2
  repeat' split
  all_goals first | rfl | simp [List.lookup,e1,e2]
 ·rfl
theorem KU {o:Nat→O} {g x:Nat} :∀y,(Fw.iV o g).lookup x=some y→y.hn=[]:=by
 intro y hy
 unfold Fw.iV at hy
 split at hy
 ·rename_i a i sz ak l n c d ho
  repeat' split at hy
  all_goals first | (cases hy;done) | skip
  simp only [List.lookup] at hy
  split at hy
  ·cases hy;rfl
  ·split at hy
   ·cases hy;rfl
   ·cases hy
 ·cases hy
theorem Bv :∀(hs:List Nat) {st:St} {x:Nat},x∉hs→(∀g∈hs,x∉(st.o g).hn)→(Fw.shuts hs st).o x=st.o x
 | [],_,_,_,_=>rfl
 |g::gs,st,x,h1,h2=>by
  have hx:(st.aA (Fw.iV st.o g) []).o x=st.o x:=by
   simp only [St.aA,Ur (fun e=>h1 (by simp [e])) (h2 g (by simp))]
  show (Fw.shuts gs (st.aA (Fw.iV st.o g) [])).o x=_
  rw [Bv gs (fun h=>h1 (by simp [h])) (fun g' hg' => ?_),hx]
  cases hl:(Fw.iV st.o g).lookup g' with
  |none=>simp only [St.aA,hl];exact h2 g' (by simp [hg'])
  |some y=>simp only [St.aA,hl];rw [KU y hl];simp
theorem Rq {hs:List Nat} {st:St} {x:Nat}:(match (wI hs st).lookup x with
  |some y=>y
  |none=>st.o x)=(Fw.shuts hs st).o x:=by
 have key :∀(l:List (Nat×O)),(∀p∈l,p.2=(Fw.shuts hs st).o p.1)→(∀y,l.lookup x=some y→y=(Fw.shuts hs st).o x)∧(l.lookup x=none→∀p∈l,p.1≠x):=by
  intro l
  induction l with
  |nil=>exact fun _=>⟨fun y h=>(by cases h),fun _ p hp=>(by cases hp)⟩
  |cons p l ih=>
   intro hl
   obtain ⟨i1,i2⟩:=ih fun q hq=>hl q (WF _ hq)
   obtain ⟨k,v⟩:=p
   simp only [List.lookup]
   cases hb:x==k with
   |true=>
    have e:x=k:=by simpa using hb
    subst e
    exact ⟨fun y h=>by cases h;exact hl (x,v) List.mem_cons_self,fun h=>by cases h⟩
   |false=>
    refine ⟨i1,fun h p hp => ?_⟩
    rcases QQ.1 hp with rfl | hp
    ·exact fun e=>by
      have e:k=x:=e
      rw [e] at hb;simp at hb
    ·exact i2 h p hp
 have hall :∀p∈wI hs st,p.2=(Fw.shuts hs st).o p.1:=by
  intro p hp
  obtain ⟨g,hg,hp⟩:=X1.1 hp
  rcases QQ.1 hp with rfl | hp
  ·rfl
  ·obtain ⟨d,_,rfl⟩:=QP.1 hp;rfl
 obtain ⟨k1,k2⟩:=key _ hall
 cases hl:(wI hs st).lookup x with
 |some y=>exact k1 y hl
 |none=>
  have hno:=k2 hl
  refine (Bv hs (fun h=>hno (x,(Fw.shuts hs st).o x) (X1.2 ⟨x,h,by simp⟩) rfl) fun g hg h=>hno (x,(Fw.shuts hs st).o x) (X1.2 ⟨g,hg,WF _ (QP.2 ⟨x,h,rfl⟩)⟩) rfl).symm
theorem Rt {hs:List Nat} {st:St} {e:Eff}:st.aA (yM hs st e).aA (yM hs st e).new=(Fw.shuts hs st).aA e.aA e.new:=by
 cases hs with
 |nil=>rfl
 |cons g gs=>
  have ext :∀{x y:St},(∀t,x.s t=y.s t)→(∀g,x.o g=y.o g)→(∀g,x.used g=y.used g)→x=y:=fun {x y} h1 h2 h3=>by
   cases x;cases y
   simp only [St.mk.injEq]
   exact ⟨funext h1,funext h2,funext h3⟩
  refine ext (fun t => ?_) (fun x => ?_) (fun x => ?_)
  ·show st.s t=(Fw.shuts (g::gs) st).s t
   rw [CW]
  ·show (match (e.aA++wI (g::gs) st).lookup x with | some y=>y | none=>st.o x)=match e.aA.lookup x with | some y=>y | none=>(Fw.shuts (g::gs) st).o x
   rw [qX]
   cases e.aA.lookup x with
   |some y=>rfl
   |none=>exact Rq
  ·show (e.new.contains x||st.used x)=(e.new.contains x||(Fw.shuts (g::gs) st).used x)
   rw [qV]
theorem WZ {hs:List Nat} {st:St} {e:Eff}:(yM hs st e).x=e.x∧(yM hs st e).new=e.new:=by cases hs<;>exact ⟨rfl,rfl⟩
theorem Ru (hT :∀f sp,T f=some sp→Sound Pg (f % 1000000) sp) (htt:fP Pg tt) (h:Rel E st gh (fun t=>a.tmps.getD t undef) w) {o:Oper} {d:Nat} {e:Eff} (hc:gQ T tt d st o fun e'=>e'=e) (hnew :∀g∈e.new,st.used g=false)
  {K:Act→World→Prop} {Q:Exit→Act→World→Prop}
  (hK :∀v w' aT,Rel E (st.aA e.aA e.new) aT (fun t=>a.tmps.getD t undef) w'→Lets E st (st.aA e.aA e.new) gh aT w w'→bP E (st.aA e.aA e.new) aT w' e.x v→(∀g∈e.x.names,(st.aA e.aA e.new).used g=true)→K (a.put o.dst v) w') :
  o.wp Pg a w K Q:=by
 unfold gQ at hc
 obtain ⟨e0,h1,h2⟩:=D5 hc
 obtain ⟨kC,hR,hL,_⟩:=h.shuts (gK st o)
 have hx:=WZ (hs:=gK st o) (st:=st) (e:=e0)
 have hu:=Rt (hs:=gK st o) (st:=st) (e:=e0)
 rw [h2] at hx hu
 refine NW hT htt hR h1 (fun g hg=>by rw [qV];exact hnew g (by rw [hx.2];exact hg)) fun v w' aT q1 q2 q3 q4=>hK v w' aT ?_ ?_ ?_ ?_
 ·rw [hu];exact q1
 ·rw [hu];exact hL.trans q2 fun g hg=>by rw [qV];exact hg
 ·rw [hu,hx.1];exact q3
 ·rw [hu,hx.1];exact q4
theorem lG {d:Nat} {o:Oper} {K K':Eff→Prop} (hK :∀e,K e→K' e) (h:gQ T tt d st o K):gQ T tt d st o K':=oJ (fun e h=>hK _ h) h
theorem zY {d:Nat} {o:Oper} {K:Eff→Prop} (h:gQ T tt d st o K) :∃e,gQ T tt d st o (fun e'=>e'=e)∧K e:=by
 obtain ⟨e,h1,h2⟩:=D5 h
 exact ⟨_,oJ (fun e' he=>by rw [he]) h1,h2⟩
def Can (T:Tab) (tt:TT) (N:Nat) (ops:Array Oper) (st:St) (o:Oper) (e:Eff):Prop:=stepW T tt N ops o st fun e'=>e'=e
theorem KW {N:Nat} {ops:Array Oper} {o:Oper} {K:Eff→Prop} (h:stepW T tt N ops o st K) :∃e,Can T tt N ops st o e∧K e:=by
 unfold Can
 unfold stepW at *
 obtain ⟨hd,h⟩:=h
 split at h
 ·obtain ⟨e,h1,h2,h3⟩:=zY h
  exact ⟨e,⟨hd,lG (fun e' he=>⟨by rw [he];exact h2,he⟩) h1⟩,h3⟩
 ·split at h
  ·rename_i b hb
   cases b with
   |true=>
    simp only [cond_true] at h
    obtain ⟨e,h1,h2,h3⟩:=zY h
    refine ⟨e,⟨hd,?_⟩,h3⟩
    simp only [cond_true]
    exact lG (fun e' he=>⟨by rw [he];exact h2,he⟩) h1
   |false=>exact ⟨Eff.skip,⟨hd,rfl⟩,h⟩
  ·cases h
theorem D6 {N:Nat} {aY:List Nat} {sU:Nat→Gh} (hT :∀f sp,T f=some sp→Sound Pg (f % 1000000) sp) (htt:fP Pg tt) {ops:Array Oper} {i:Nat} {o:Oper} (hi:ops[i]?=some o) (h:Good E N aY sU st a w) {e:Eff} (hc:Can T tt N ops st o e)
  {K:Act→World→Prop} {Q:Exit→Act→World→Prop} (hK :∀a' w',Good E N aY sU (st.eff o.dst e) a' w'→K a' w'):wpOp Pg ops Q i K a w:=by
 obtain ⟨⟨gh,hR,CX⟩,hsz,hdf⟩:=h
 unfold Can stepW at hc
 obtain ⟨hd,hc⟩:=hc
 have hd :∀d,o.dst=some d→d<a.tmps.size:=by
  intro d e
  rw [e] at hd
  rw [hsz];simpa using hd
 have run:(gQ T tt (o.dst.getD 0) st o fun e'=>e'.new.all (fun g=>!st.used g)=true∧e'=e)→o.wp Pg a w K Q:=by
  intro hc
  obtain ⟨e',h1,h2,rfl⟩:=zY hc
  have hnew :∀g∈e'.new,st.used g=false:=fun g hg=>by have:=(X2.1 h2) g hg;simpa using this
  refine Ru hT htt hR h1 hnew fun v w' aT q1 q2 q3 q4=>hK _ _ ⟨⟨aT,?_,fun g hg => ?_⟩,by rw [yR];exact hsz,hdf.step hR q2 _ _⟩
  ·rw [yQ _ _ hd]
   exact q1.put o.dst q3 q4
  ·obtain ⟨p1,p2⟩:=CX g hg
   have ho:(st.eff o.dst e').o g=(st.aA e'.aA e'.new).o g:=by unfold St.eff St.put;cases o.dst<;>rfl
   have hu:(st.eff o.dst e').used g=(st.aA e'.aA e'.new).used g:=by unfold St.eff St.put;cases o.dst<;>rfl
   refine ⟨by rw [hu];simp [St.aA,p1],?_⟩
   rw [ho]
   rcases q2.names g p1 with q | ⟨q,qk⟩
   ·exact .inl q
   ·rcases p2 with p2 | p2
    ·rw [p2] at qk;exact .inl (O.G5 qk)
    ·exact .inr ⟨q.1.trans p2.1,q.2.trans p2.2⟩
 unfold wpOp
 rw [hi]
 simp only
 cases hg:o.guard with
 |none=>
  rw [hg] at hc
  have:Region.wanted o (yielded ops a.tmps)=true:=by simp [Region.wanted,hg]
  rw [if_pos this]
  exact .inl (run hc)
 |some p=>
  obtain ⟨j,want⟩:=p
  rw [hg] at hc
  simp only at hc
  split at hc
  ·rename_i b hb
   have hw:Region.wanted o (yielded ops a.tmps)=b:=by
    simp only [Region.wanted,hg,yielded]
    unfold guardOf at hb
    split at hb
    ·rename_i t ht
     have KX:=hR.slots t
     rw [ht]
     simp only [Option.bind_some]
     split at hb
     ·rename_i a' i' b' hs
      rw [hs] at KX
      have hv:=KX.dK.kK
      have:a.tmps[t]?=some (.bool b'):=by
       simp only [W2] at hv
       cases hx:a.tmps[t]? with
       |none=>rw [hx] at hv;cases hv
       |some x=>rw [hx] at hv;simp at hv;rw [hv]
      rw [this]
      simp only [Q0] at hb
      subst hb
      cases want<;>cases b'<;>rfl
     ·rename_i hs
      rw [hs] at KX
      simp only [Q0] at hb
      subst hb
      have hv:a.tmps.getD t undef=.tuple #[]:=by
       generalize a.tmps.getD t undef=v at KX
       cases KX with | jK _ vs hl _=>
       have:vs=[]:=by cases vs<;>simp_all
       subst this;rfl
      have:a.tmps[t]?=none∨a.tmps[t]?=some (.tuple #[]):=by
       simp only [W2] at hv
       cases hx:a.tmps[t]? with
       |none=>exact .inl rfl
       |some x=>rw [hx] at hv;simp at hv;rw [hv];exact .inr rfl
      rcases this with h | h<;>rw [h]<;>cases want<;>rfl
     ·cases hb
    ·cases hb
   rw [hw]
   cases b with
   |true=>exact .inl (run hc)
   |false=>
    simp only [cond_false] at hc
    subst hc
    refine hK _ _ ⟨⟨gh,?_,fun g hg => ?_⟩,by rw [yR];exact hsz,hdf.put _ _⟩
    ·rw [yQ _ _ hd]
     unfold St.eff Eff.skip
     simp only [CU]
     exact hR.put o.dst (.jK [] [] rfl fun j x v hx=>by simp at hx) (by simp [S.names])
    ·have ho:(st.eff o.dst Eff.skip).o g=st.o g:=by unfold St.eff St.put Eff.skip;cases o.dst<;>simp [St.aA]
     have hu:(st.eff o.dst Eff.skip).used g=st.used g:=by unfold St.eff St.put Eff.skip;cases o.dst<;>simp [St.aA]
     rw [ho,hu];exact CX g hg
  ·cases hc
end
end Go.Fw

namespace Go.Fw
variable [dB]
section
variable {o o':Nat→O}
theorem D7 {k:WS} {x:W} (h :∀g∈x.names,Agree o o' g):dP o k x=dP o' k x:=by
 cases k with
 |p a i=>simp only [dP];rw [zX h]
 |own g'=>cases x<;>rfl
 |box g' off=>
  cases off with
  |zero=>cases x<;>first | rfl | (rename_i off;cases off<;>rfl)
  |succ off=>cases x<;>rfl
 |bM=>cases x<;>rfl
 |fn f=>cases x<;>first | rfl | (rename_i caps;cases caps<;>rfl)
 |kH g=>cases x<;>rfl
 |no=>cases x<;>rfl
 |vw g=>cases x<;>rfl
 |ep g off=>cases x<;>rfl
theorem Bz :∀{ks:List WS} {xs:List W},(∀x∈xs,∀g∈x.names,Agree o o' g)→iD o ks xs=iD o' ks xs
 | [],[],_=>rfl
 | [],_::_,_=>rfl
 |_::_,[],_=>rfl
 |k::ks,x::xs,h=>by simp only [iD];rw [D7 (h x (by simp)),Bz fun y hy=>h y (by simp [hy])]
theorem NY {k:SS} {x:S} (h :∀g∈x.names,Agree o o' g):lF o k x=lF o' k x:=by
 cases k with
 |one k=>
  cases x with
  |v x=>cases x with
   |one x=>exact D7 fun g hg=>h g (by simpa [S.names,V.names] using hg)
   |agg xs=>rfl
  |jK=>rfl
  |no=>rfl
 |agg ks=>
  cases x with
  |v x=>cases x with
   |one x=>rfl
   |agg xs=>exact Bz fun x hx g hg=>h g (by simp only [S.names,V.names,X1];exact ⟨x,hx,hg⟩)
  |jK=>rfl
  |no=>rfl
theorem Px {args:List S} {t:Nat}:args.getD t .no=.no∨args.getD t .no∈args:=by
 rw [Q6]
 cases h:args[t]? with
 |none=>exact .inl rfl
 |some x=>exact .inr (QR h)
theorem tY {args:List S} (h :∀x∈args,∀g∈x.names,Agree o o' g) :∀{L:List (Nat×SS)},dD o args L=dD o' args L
 | []=>rfl
 |(t,k)::L=>by
  simp only [dD]
  rw [NY (o:=o) (o':=o') (k:=k) (x:=args.getD t .no) (fun g hg=>by
   rcases Px (args:=args) (t:=t) with e | e
   ·rw [e] at hg;simp [S.names] at hg
   ·exact h _ e g hg),tY h]
theorem yS {k:WS} {x:W} {us:List P} {c:Bool×Bool} {gs:List Nat} {r:List (Nat×Nat)} (h:dP o k x=some (us,c,gs,r)) (hx :∀g∈x.names,Agree o o' g) :∀g∈gs,Agree o o' g:=by
 cases k with
 |p a i=>
  simp only [dP] at h
  split at h
  ·rename_i ht
   simp only [Q0,Q1] at h
   obtain ⟨_,_,rfl,_⟩:=h
   exact xq ht hx
  ·cases h
 |own g'=>cases x<;>simp [dP] at h;obtain ⟨_,_,rfl,_⟩:=h;simp
 |box g' off=>
  cases off with
  |succ off=>cases x<;>simp [dP] at h
  |zero=>
   cases x with
   |box g off=>cases off<;>simp [dP] at h;obtain ⟨_,_,rfl,_⟩:=h;simp
   |_=>simp [dP] at h
 |bM=>simp [dP] at h
 |fn f gs0=>
  cases x with
  |clo f' caps=>
   simp only [dP] at h
   split at h
   ·split at h
    ·simp only [Q0,Q1] at h;obtain ⟨_,_,rfl,_⟩:=h;simp
    ·cases h
   ·cases h
  |_=>simp [dP] at h
 |kH g=>simp [dP] at h
 |no=>simp [dP] at h
 |vw g=>simp [dP] at h
 |ep g off=>simp [dP] at h
theorem wJ :∀{ks:List WS} {xs:List W} {us:List P} {c:Bool×Bool} {gs:List Nat} {r:List (Nat×Nat)},iD o ks xs=some (us,c,gs,r)→(∀x∈xs,∀g∈x.names,Agree o o' g)→∀g∈gs,Agree o o' g
 | [],xs,us,c,gs,r,h,_=>by
  cases xs<;>simp [iD] at h
  obtain ⟨_,_,rfl,_⟩:=h;simp
 |k::ks,xs,us,c,gs,r,h,hx=>by
  cases xs with
  |nil=>simp [iD] at h
  |cons x xs=>
   simp only [iD] at h
   split at h
   ·rename_i h1 h2
    simp only [Q0,Q1] at h
    obtain ⟨_,_,rfl,_⟩:=h
    intro g hg
    rcases Z1.1 hg with hg | hg
    ·exact yS h1 (hx _ (by simp)) g hg
    ·exact wJ h2 (fun y hy=>hx y (by simp [hy])) g hg
   ·cases h
theorem qg {args:List S} :∀{L:List (Nat×SS)} {us:List P} {c:Bool×Bool} {gs:List Nat} {r:List (Nat×Nat)},dD o args L=some (us,c,gs,r)→(∀x∈args,∀g∈x.names,Agree o o' g)→∀g∈gs,Agree o o' g
 | [],us,c,gs,r,h,_=>by simp [dD] at h;obtain ⟨_,_,rfl,_⟩:=h;simp
 |(t,k)::L,us,c,gs,r,h,hx=>by
  simp only [dD] at h
  split at h
  ·rename_i h1 h2
   simp only [Q0,Q1] at h
   obtain ⟨_,_,rfl,_⟩:=h
   intro g hg
   rcases Z1.1 hg with hg | hg
   ·have hx0 :∀g∈(args.getD t .no).names,Agree o o' g:=by
     rcases Px (args:=args) (t:=t) with e | e
     ·rw [e];simp [S.names]
     ·exact hx _ e
    ·generalize args.getD t S.no=z at h1 hx0
     cases k with
     |one k=>
      cases z with
      |v z=>
       cases z with
       |one z=>exact yS h1 (fun g hg=>hx0 g (by simpa [S.names,V.names] using hg)) g hg
       |agg z=>simp [lF] at h1
      |_=>simp [lF] at h1
     |agg ks=>
      cases z with
      |v z=>
       cases z with
       |one z=>simp [lF] at h1
       |agg z=>exact wJ h1 (fun x hx g hg=>hx0 g (by simp only [S.names,V.names,X1];exact ⟨x,hx,hg⟩)) g hg
      |_=>simp [lF] at h1
   ·exact qg h2 hx g hg
  ·cases h
theorem lH :∀{L:List (Nat×OS)} {r r':List (Nat×Nat)} {u:List P} {c:Bool×Bool},iw o r L=some (u,c,r')→∀p∈r,p∈r'
 | [],r,r',u,c,h=>by simp only [iw,Q0,Q1] at h;obtain ⟨_,_,rfl⟩:=h;exact fun p hp=>hp
 |(g',k)::L,r,r',u,c,h=>by
  simp only [iw] at h
  split at h
  ·split at h
   ·split at h
    ·split at h
     ·rename_i h2
      simp only [Q0,Q1] at h
      obtain ⟨_,_,rfl⟩:=h
      exact fun p hp=>lH h2 p (Z2 _ hp)
     ·cases h
    ·cases h
   ·split at h
    ·split at h
     ·rename_i h2
      simp only [Q0,Q1] at h
      obtain ⟨_,_,rfl⟩:=h
      exact lH h2
     ·cases h
    ·cases h
   ·split at h
    ·split at h
     ·rename_i h2
      simp only [Q0,Q1] at h
      obtain ⟨_,_,rfl⟩:=h
      exact lH h2
     ·cases h
    ·cases h
   ·cases h
  ·cases h
theorem mV :∀{L:List (Nat×OS)} {r r':List (Nat×Nat)} {u:List P} {c:Bool×Bool},iw o r L=some (u,c,r')→(∀p∈r',o p.2=o' p.2)→iw o' r L=some (u,c,r')
 | [],r,r',u,c,h,_=>h
 |(g',k)::L,r,r',u,c,h,hl=>by
  simp only [iw] at h ⊢
  split at h
  ·rename_i g hg
   have hmem:=iy hg
   have key :∀r2:List (Nat×Nat),(∀p∈r,p∈r2)→(∀p∈r2,p∈r')→o g=o' g:=fun r2 h1 h2=>hl _ (h2 _ (h1 _ hmem))
   split at h
   ·rename_i ks ws hk
    split at h
    ·rename_i r1 h1
     split at h
     ·rename_i h2
      simp only [Q0,Q1] at h
      obtain ⟨rfl,rfl,rfl⟩:=h
      have e:=key _ (fun p hp=>Z2 _ hp) (lH h2)
      simp only [←e,hk,h1,mV h2 hl]
     ·cases h
    ·cases h
   ·rename_i a1 b1 c1 sz a i sz' l hk
    split at h
    ·rename_i hsz
     split at h
     ·rename_i h2
      simp only [Q0,Q1] at h
      obtain ⟨rfl,rfl,rfl⟩:=h
      have e:=key _ (fun p hp=>hp) (lH h2)
      simp only [←e,hk,mV h2 hl,if_pos hsz]
     ·cases h
    ·cases h
   ·rename_i a1 b1 sz ak a i sz' fD l hk
    split at h
    ·rename_i hsz
     split at h
     ·rename_i h2
      simp only [Q0,Q1] at h
      obtain ⟨rfl,rfl,rfl⟩:=h
      have e:=key _ (fun p hp=>hp) (lH h2)
      simp only [←e,hk,mV h2 hl,if_pos hsz]
     ·cases h
    ·cases h
   ·cases h
  ·cases h
theorem I9 {s:wH} {args:List S} {c:GU} (h:fU s o args=some c) (h1 :∀x∈args,∀g∈x.names,Agree o o' g) (h2 :∀p∈c.ren,o p.2=o' p.2):fU s o' args=some c:=by
 unfold fU at *
 rw [←tY h1]
 split at h
 ·rename_i hs
  split at h
  ·rename_i CX
   simp only [Q0] at h
   subst h
   simp only [mV CX fun p hp=>h2 p (kE.2 hp)]
  ·cases h
 ·cases h
theorem D8 {s:wH} {args:List S} {c:GU} (hc:fU s o args=some c) (hx :∀x∈args,∀g∈x.names,Agree o o' g) :∀g∈c.qK,Agree o o' g:=by
 unfold fU at hc
 split at hc
 ·rename_i hsl
  split at hc
  ·simp only [Q0] at hc;subst hc
   exact qg hsl hx
  ·cases hc
 ·cases hc
end
def KY (T:Tab) (st:St) (o:Oper):List Nat:=
 match o.op with
 |.call { callee:=.value f,args,.. }=>match st.bC f with
  |.v (.one (.clo fn caps))=>match pick T fn (args.toList.map st.bC) with
   |some sp=>match fU sp.sig st.o ((args.toList.map st.bC)++caps.map fun x=>S.v (.one x)) with
    |some c=>c.ren.map (·.2)
    |none=>[]
   |none=>[]
  |_=>[]
 |_=>[]
def looks:Op→Bool
 |.move _ | .assign _ | .pick _ _ _ | .build _ _ | .extract _ _ | .field _ _ _ | .makeFunc _ _ _=>false
 |_=>true
theorem I_ {o o':Nat→O} {tt:TT} {d:Nat} {F F':Operand→S} {op:Op} {ty:TypeId} (hl:looks op=false) (hF :∀x∈op.operands.toList,F x=F' x):kernel tt d o F op ty=kernel tt d o' F' op ty:=by
 refine (yO (o':=o) hF fun _ _ _ _=>⟨rfl,fun _ _=>rfl⟩).trans ?_
 cases op<;>first
  |(cases hl;done)
  |rfl
  |(rename_i fn first caps;cases fn<;>rfl)
theorem Gg {o:Nat→O} {tt:TT} {dc:List (Nat×Nat)} {d:Nat} {F:Operand→S} {op:Op} {ty:TypeId} (hl:looks op=false):bV tt dc d o F op ty=none:=by
 cases op<;>first
  |(cases hl;done)
  |rfl
def yT (T:Tab) (st:St) (o:Oper):List Nat:=(bif looks o.op then (o.op.operands.toList.flatMap fun x=>(st.bC x).names.flatMap fun g=>g::(st.o g).hn) else [])++KY T st o
def pJ (T:Tab) (st:St) (o:Oper):List Nat:=yT T (Fw.shuts (gK st o) st) o++(pG st o).flatMap fun g=>g::(st.o g).hn
section
variable {T:Tab} {tt:TT} {st st':St}
theorem Ja {d:Nat} {o:Oper} {K:Eff→Prop} (h:iT T tt d st o K) (hx :∀x∈o.op.operands.toList,st.bC x=st'.bC x) (ho :∀g∈yT T st o,st.o g=st'.o g):iT T tt d st' o K:=by
 have hfo:looks o.op=true→∀x∈o.op.operands.toList,∀g∈(st.bC x).names,Agree st.o st'.o g:=fun hl x hm g hg=>by
  have key :∀d∈g::(st.o g).hn,st.o d=st'.o d:=fun d hd=>ho d (Z2 _ (by rw [hl];exact X1.2 ⟨x,hm,X1.2 ⟨g,hg,hd⟩⟩))
  exact ⟨key g (by simp),fun d hd=>key d (by simp [hd])⟩
 have f_ :∀g∈KY T st o,st.o g=st'.o g:=fun g hg=>ho g (WN _ hg)
 unfold iT at *
 unfold KY at f_
 split at h
 ·rename_i f args ts hop
  rw [hop] at hx hfo f_
  have hfo:=hfo rfl
  simp only at f_
  have hxf:=hx f (by simp [Op.operands,Call.operands])
  have hxa :∀x∈args.toList,st.bC x=st'.bC x:=fun x hm=>hx x (by simp [Op.operands,Call.operands];exact .inr (by simpa using hm))
  have hfa :∀x∈args.toList,∀g∈(st.bC x).names,Agree st.o st'.o g:=fun x hm=>hfo x (by simp [Op.operands,Call.operands];exact .inr (by simpa using hm))
  have hff:=hfo f (by simp [Op.operands,Call.operands])
  rw [←hxf]
  split at h
  ·rename_i fn caps hf
   rw [hf] at hff f_
   simp only at f_
   split at h
   ·rename_i sp hsp
    rw [hsp] at f_
    simp only at f_
    have hmap:args.toList.map st'.bC=args.toList.map st.bC:=Z0 fun x hm=>(hxa x hm).symm
    rw [hmap]
    split at h
    ·rename_i c hci
     rw [hci] at f_
     have hnm :∀x∈(args.toList.map st.bC)++(caps.map fun x=>S.v (.one x)),∀g∈x.names,Agree st.o st'.o g:=by
      intro x hm g hg
      rcases Z1.1 hm with hm | hm
      ·obtain ⟨y,hy,rfl⟩:=QP.1 hm
       exact hfa y hy g hg
      ·obtain ⟨y,hy,rfl⟩:=QP.1 hm
       refine hff g ?_
       obtain ⟨j,hj⟩:=WD.1 hy
       simp only [S.names,V.names]
       exact wo hj (by simpa [S.names,V.names] using hg)
     have adx:=I9 hci hnm fun p hp=>f_ p.2 (QP.2 ⟨p,hp,rfl⟩)
     have Zn:c.qK.map (aH st.o)=c.qK.map (aH st'.o):=kP (D8 hci hnm)
     simp only [hsp,adx]
     obtain ⟨q1,bI,same,q2,q4,q3⟩:=h
     have:jf sp.sig d st'.o c bI=jf sp.sig d st.o c bI:=by simp only [jf,Zn]
     refine ⟨q1,bI,same,q2,?_,?_⟩
     ·rw [this]
      intro g hg
      obtain ⟨a1,a2⟩:=q4 g hg
      exact ⟨a1,by rw [a2,f_ g a1]⟩
     ·rw [this];exact q3
    ·cases h
   ·cases h
  ·cases h
 ·rcases h with ⟨dc,r,h1,h2,h3⟩ | h
  ·refine .inl ⟨dc,r,?_,h2,h3⟩
   cases hl:looks o.op with
   |true=>rw [←Gf hx (hfo hl)];exact h1
   |false=>rw [Gg hl] at h1;cases h1
  ·refine .inr ?_
   cases hl:looks o.op with
   |true=>rw [←yO hx (hfo hl)];exact h
   |false=>rw [←I_ hl hx];exact h
theorem tZ {o o':Nat→O} :∀(n:Nat) {gs:List Nat},(∀g∈lX o n gs,o g=o' g)→lX o' n gs=lX o n gs
 |0,_,_=>rfl
 |n+1,gs,h=>by
  simp only [lX] at h ⊢
  have e:(gs.flatMap fun g=>tJ (o' g))=gs.flatMap fun g=>tJ (o g):=by
   refine congrArg List.flatten (Z0 fun g hg => ?_)
   rw [h g (Z2 _ hg)]
  rw [e,tZ n fun g hg=>h g (WN _ hg)]
theorem KZ {o o':Nat→O} {g:Nat} (h:o g=o' g) (h2 :∀d∈(o g).hn,o d=o' d):Fw.iV o g=Fw.iV o' g:=by
 unfold Fw.iV
 rw [←h]
 split
 ·rename_i a i sz ak l n c d ho
  rw [←h2 d (by rw [ho];simp [O.hn,bF])]
 ·rfl
theorem BA :∀(hs:List Nat) {st st':St},(∀g∈hs,st.o g=st'.o g∧∀d∈(st.o g).hn,st.o d=st'.o d)→∀x,st.o x=st'.o x→(Fw.shuts hs st).o x=(Fw.shuts hs st').o x
 | [],_,_,_,_,h=>h
 |g::gs,st,st',h,x,hx=>by
  have hu:=KZ (h g (by simp)).1 (h g (by simp)).2
  have step :∀y,st.o y=st'.o y→(st.aA (Fw.iV st.o g) []).o y=(st'.aA (Fw.iV st'.o g) []).o y:=fun y hy=>by simp only [St.aA,hu,hy]
  refine BA gs (fun g' hg'=>⟨step g' (h g' (by simp [hg'])).1,fun d hd=>step d ?_⟩) x (step x hx)
  cases hl:(Fw.iV st.o g).lookup g' with
  |none=>simp only [St.aA,hl] at hd;exact (h g' (by simp [hg'])).2 d hd
  |some y=>simp only [St.aA,hl] at hd;rw [KU y hl] at hd;cases hd
theorem K_ {d:Nat} {o:Oper} {K:Eff→Prop} (h:gQ T tt d st o K) (hx :∀x∈o.op.operands.toList,st.bC x=st'.bC x) (ho :∀g∈pJ T st o,st.o g=st'.o g):gQ T tt d st' o K:=by
 have han:argNames st' o=argNames st o:=by
  unfold argNames
  split
  ·rename_i f args ts hop
   refine congrArg List.flatten (Z0 fun x hm => ?_)
   rw [hx x (by rw [hop];simp [Op.operands,Call.operands];exact .inr (by simpa using hm))]
  ·rename_i t x lo hi mx hop
   rw [hx x (by rw [hop];simp [Op.operands])]
  ·rfl
 have hin :∀g∈pG st o,st.o g=st'.o g∧∀d∈(st.o g).hn,st.o d=st'.o d:=fun g hg=>
  ⟨ho g (WN _ (X1.2 ⟨g,hg,by simp⟩)),fun d hd=>ho d (WN _ (X1.2 ⟨g,hg,WF _ hd⟩))⟩
 have hns:pG st' o=pG st o:=by
  unfold pG at hin ⊢
  rw [han]
  exact tZ 2 fun g hg=>(hin g hg).1
 have hhs:gK st' o=gK st o:=by
  unfold gK
  rw [hns,han]
  refine List.filter_congr fun g hg => ?_
  rw [(hin g hg).1]
 have hsub :∀g∈gK st o,g∈pG st o:=fun g hg=>(K9.1 hg).1
 have hsh:=BA (gK st o) fun g hg=>hin g (hsub g hg)
 have hE :∀e,yM (gK st o) st e=yM (gK st o) st' e:=fun e=>by
  have hU:wI (gK st o) st=wI (gK st o) st':=by
   unfold wI
   refine congrArg List.flatten (Z0 fun g hg => ?_)
   have hg':=hin g (hsub g hg)
   rw [hsh g hg'.1,←hg'.1]
   congr 1
   refine Z0 fun d hd => ?_
   rw [hsh d (hg'.2 d hd)]
  generalize gK st o=hs at hU ⊢
  cases hs with
  |nil=>rfl
  |cons g gs=>simp only [yM,hU]
 unfold gQ at h ⊢
 rw [hhs]
 refine Ja (st:=Fw.shuts (gK st o) st) (oJ (fun e he=>by rw [←hE e];exact he) h) (fun x hm => ?_) fun g hg => ?_
 ·have:=hx x hm
  cases x with
  |tmp t=>show (Fw.shuts _ st).s t=(Fw.shuts _ st').s t;rw [CW,CW];exact this
  |_=>rfl
 ·exact hsh g (ho g (Z2 _ hg))
theorem Rw {N:Nat} {ops:Array Oper} {o:Oper} {e:Eff} (hc:Can T tt N ops st o e) (hs :∀t∈o.looksAt ops,st.s t=st'.s t) (ho :∀g∈pJ T st o,st.o g=st'.o g) (hu :∀g∈e.new,st.used g=st'.used g):Can T tt N ops st' o e:=by
 have hx :∀x∈o.op.operands.toList,st.bC x=st'.bC x:=by
  intro x hm
  cases x with
  |tmp t=>exact hs t (Z2 _ (JS.2 ⟨_,hm,rfl⟩))
  |_=>rfl
 have eff:(gQ T tt (o.dst.getD 0) st o fun e'=>e'.new.all (fun g=>!st.used g)=true∧e'=e)→(gQ T tt (o.dst.getD 0) st' o fun e'=>e'.new.all (fun g=>!st'.used g)=true∧e'=e):=by
  intro h
  refine lG (fun e' he => ?_) (K_ h hx ho)
  obtain ⟨h1,rfl⟩:=he
  refine ⟨?_,rfl⟩
  rw [X2] at h1 ⊢
  intro g hg
  rw [←hu g hg];exact h1 g hg
 unfold Can stepW at *
 refine ⟨hc.1,?_⟩
 have hc:=hc.2
 cases hg:o.guard with
 |none=>rw [hg] at hc;exact eff hc
 |some p=>
  obtain ⟨j,want⟩:=p
  rw [hg] at hc
  simp only at hc ⊢
  have:guardOf ops st j want=guardOf ops st' j want:=by
   unfold guardOf
   cases hd:(ops[j]?).bind (·.dst) with
   |none=>rfl
   |some t=>
    simp only
    rw [hs t (WN _ (by simp [hg,hd]))]
  rw [←this]
  split at hc
  ·rename_i b hb
   cases b with
   |true=>exact eff hc
   |false=>exact hc
  ·cases hc
end
def G7 (o:Nat→O):S→Option (Bool→Prop)
 |.v (.one (.p _ _ (.sl _ l)))=>some fun b=>l≠[]→b=false
 |.v (.one (.own g))=>match (o g).dim with
  |some (_,l)=>some fun b=>l≠0→b=false
  |none=>none
 |.v (.one .bM)=>some fun b=>b=true
 |_=>none
def BD (o:Nat→O):S→Option (Bool→Prop)
 |.v (.one (.box g _))=>match o g with
  |.box _=>some fun b=>b=false
  |_=>none
 |.v (.one (.p _ _ (.opq (.pointer none))))=>some fun b=>b=true
 |_=>none
def t_ (o:Nat→O) (x:S) (k:TK) (c:Value):Option (Bool→Prop):=
 match k,c with
 |.slice _,.slice none 0 0=>G7 o x
 |.ptr,.pointer none=>BD o x
 |_,_=>none
def Jb (tt:TT) (st:St) (o:Oper):Option (Bool×(Bool→Prop)):=
 match o.guard with
 |some _=>none
 |none=>match o.op with
  |.binOp op t x (.const c) _=>match tt t with
   |some i=>match op,t_ st.o (st.bC x) i.k c with
    |.eql,some p=>some (true,p)
    |.neq,some p=>some (false,p)
    |_,_=>none
   |none=>none
  |_=>none
def La (s n:P):Bool:=decide (n.nat<s.bytes.size)
def Us (s n:P):P:=.int .i32 (Utf8.decode s.bytes n.nat).1
def NZ (s n:P):P:=jh (n.nat+(Utf8.decode s.bytes n.nat).2)
def Jc (st:St) (o:Oper):Option (Nat×P×P):=
 match o.guard with
 |some _=>none
 |none=>match o.op with
  |.next x true=>match st.bC x with
   |.v (.one (.kH g))=>match st.o g with
    |.it s n=>some (g,s,n)
    |_=>none
   |_=>none
  |_=>none
def D9 (g:Nat) (s n:P):Eff:={ x:=.jK [.one (.p false false (.bool true)),.one (.p false false (jh n.nat)),.one (.p false false (Us s n))],aA:=[(g,.it s (NZ s n))],new:=[] }
def G8:Eff:={ x:=.jK [.one (.p false false (.bool false))],aA:=[],new:=[] }
def yU (T:Tab) (tt:TT) (N:Nat) (ops:Array Oper) (o:Oper) (st:St) (K:Eff→Prop):Prop:=
 match Jb tt st o with
 |some (pos,p)=>(match o.dst with
  |some d=>decide (d<N)
  |none=>true)=true∧∀b:Bool,p b→K { x:=scalar (.bool (bif pos then b else !b)),aA:=[],new:=[] }
 |none=>match Jc st o with
  |some (g,s,n)=>(match o.dst with
   |some d=>decide (d<N)
   |none=>true)=true∧(La s n=true→K (D9 g s n))∧(La s n=false→K G8)
  |none=>stepW T tt N ops o st K
def rG (T:Tab) (tt:TT) (N:Nat) (ops:Array Oper):List Nat→St→(St→Prop)→Prop
 | [],st,K=>K st
 |i::is,st,K=>match ops[i]? with
  |some o=>yU T tt N ops o st fun e=>rG T tt N ops is (st.eff o.dst e) K
  |none=>False
structure pK where
 rd:List Nat
 wr:List Nat
 new:List Nat
 ld:Option (Nat×Nat×Nat)
 kp:List (Nat×Nat)
 pk:Bool
 kd:List Nat
def Ut:W→W→Bool
 |.own g,.own g'=>Nat.beq g g'
 |.box g off,.box g' off'=>Nat.beq g g'&&Nat.beq off off'
 |_,_=>false
def yV (g:Nat):Nat→List W→List W→Option (List (Nat×Nat))
 |_,[],[]=>some []
 |j,x::xs,y::ys=>match yV g (j+1) xs ys with
  |some r=>some (match Ut x y with
   |true=>(g,j)::r
   |false=>r)
  |none=>none
 |_,_,_=>none
def Lc (g:Nat):O→Option O→List (Nat×Nat)
 |.box ws,some (.box ws')=>match yV g 0 ws ws' with
  |some r=>r
  |none=>[]
 |_,_=>[]
def j_:Op→Bool
 |.nilCheck _=>true
 |.fieldAddr _ _ _=>true
 |_=>false
def D_:Op→Bool
 |.load _ _=>true
 |_=>false
def O.core:O→Option (Bool×Bool×Nat×List (Nat×Nat)×List (List P))
 |.ay a i sz ak l _=>some (a,i,sz,ak,l)
 |_=>Option.none
def keepR (g:Nat):O→Option O→List (Nat×Nat)
 |.ay _ _ _ _ _ hole,some (.ay _ _ _ _ _ _)=>match hole with
  |none=>[(g,5000000)]
  |some _=>[]
 |_,_=>[]
def Jd (st:St) (o:Oper) (e:Eff):List (Nat×Nat):=(bif j_ o.op then (o.op.operands.toList.flatMap fun x=>(st.bC x).names).map fun g=>(g,0) else []) ++
 (e.aA.map (·.1)).flatMap fun g=>Lc g (st.o g) (e.aA.lookup g)++bif D_ o.op then keepR g (st.o g) (e.aA.lookup g) else []
def kindOf:O→Nat
 |.box _=>1
 |.arr _ _ _ _ _=>2
 |.ay _ _ _ _ _ _=>2
 |.it _ _=>3
 |.none=>0
def N7 (st:St) (e:Eff):List Nat:=(e.aA.map (·.1)).filterMap fun g=>match e.aA.lookup g with
 |some x=>bif Nat.beq (kindOf x) (kindOf (st.o g)) then some g else none
 |none=>none
def Gi (tt:TT) (st:St) (o:Oper):Option (Nat×Nat×Nat):=match o.op with
 |.load t x=>match tt t,st.bC x with
  |some i,.v (.one (.box g off))=>some (g,off,i.size)
  |some i,.v (.one (.ep g _ off))=>match st.o g with
   |.ay _ _ _ ak _ _=>bif (gI ak off i.size).isEmpty then some (g,5000000,1) else none
   |_=>none
  |_,_=>none
 |_=>none
def lU (T:Tab) (tt:TT) (N:Nat) (ops:Array Oper):List Nat→St→List pK→(St→List pK→Prop)→Prop
 | [],st,fs,K=>K st fs
 |i::is,st,fs,K=>match ops[i]? with
  |some o=>stepW T tt N ops o st fun e=>lU T tt N ops is (st.eff o.dst e) (fs++[{ rd:=pJ T st o,wr:=e.aA.map (·.1),new:=e.new,ld:=Gi tt st o,kp:=Jd st o e,pk:=j_ o.op,kd:=N7 st e }]) K
  |none=>False
def jE (acc:List Nat) (o:Oper):Nat:=o.after.toList.foldl (fun s e=>if Region.binds .any e=true then s ||| (2 ^ e.on) ||| acc.getD e.on 0 else s) 0
def lI:List Oper→List Nat→List Nat
 | [],acc=>acc
 |o::os,acc=>lI os (acc++[jE acc o])
def Ea (x:Option Tmp) (ts:List Tmp):Bool:=match x with
 |some t=>!ts.contains t
 |none=>true
def BF (w r:pK):Bool:=match r.ld with
 |some (g,off,n)=>(List.range n).all fun j=>w.kp.any fun p=>Nat.beq p.1 g&&Nat.beq p.2 (off+j)
 |none=>r.pk&&r.kp.all fun p=>!w.wr.contains p.1||w.kd.contains p.1
def Uu (ops:Array Oper) (x y:Oper) (fx fy:pK):Bool:=
 Ea x.dst (y.looksAt ops)&&Ea y.dst (x.looksAt ops)&&Ea x.dst y.dst.toList&&(IX fx.wr fy.rd||BF fx fy)&&(IX fy.wr fx.rd||BF fy fx)&&IX fx.wr fy.wr&&IX fx.new fy.new
def Py (ops:Array Oper) (fs:List pK):Bool:=
 let as:=lI ops.toList []
 (List.range ops.size).all fun j=>decide (as.getD j 0<2 ^ j)&&(List.range j).all fun i=>(as.getD j 0).testBit i||match ops[i]?,ops[j]?,fs[i]?,fs[j]? with
  |some x,some y,some fx,some fy=>Uu ops x y fx fy
  |_,_,_,_=>false
def oK (T:Tab) (tt:TT) (N:Nat) (ops:Array Oper) (draw:Bool) (st:St) (K:St→Prop):Prop:=
 match draw with
 |false=>rG T tt N ops (List.range ops.size) st K
 |true=>lU T tt N ops (List.range ops.size) st [] fun st' fs=>Py ops fs=true∧K st'
end Go.Fw

