/-
  The framework (a machine on plain data that answers as the program does), part 2.
-/
import Derived.RangeFuncOwn
import Derived.Orders
import Derived.Test.YtmgfidfcioiedaaZa
set_option linter.unusedSimpArgs false
set_option linter.unusedVariables false
namespace Go.Fw
set_option linter.unusedSectionVars false
variable [dR]
set_option linter.unusedVariables false
def rM:List Nat→Bool
 | []=>true
 |x::xs=>!xs.contains x&&rM xs
def B_ (xs ys:List Nat):Bool:=xs.all fun x=>!ys.contains x
def mV (ah:List (Nat×Nat)) (off n:Nat):List (Nat×Nat):=ah.filter fun c=>Nat.ble off c.1&&Nat.blt c.1 (off+n)
def jg (o:Nat→O) (g:Nat):Option (Bool×Bool×Nat×List (Nat×Nat)×List (List P)):=match o g with
 |.aG a i sz ah l hole=>match hole with
  |none=>some (a,i,sz,ah,l)
  |some (n,c,d)=>match o d with
   |.arr false a' i' sz' l'=>if ah.lookup c=some sz'∧c<sz then some (a||a',i||i',sz,ah,iH l n c (P.fF sz' l')) else none
   |_=>none
 |_=>none
def kills (gs:List Nat):List (Nat×O):=gs.map fun g=>(g,.none)
def N7 (o:Nat→O) (col:Nat→Option Nat):Nat→List W→Option (List P×Bool×Bool×List Nat×List (Nat×Nat))
 |_,[]=>some ([],false,false,[],[])
 |j,x::xs=>match N7 o col (j+1) xs with
  |none=>none
  |some (ys,a',i',gs',es)=>match col j with
   |none=>match x.toP o with
    |some (y,a,i,gs)=>some (y::ys,a||a',i||i',gs++gs',es)
    |none=>none
   |some s=>match x with
    |.bY=>some (.sl 0 []::ys,a',i',gs',es)
    |.own e=>match o e with
     |.arr false a i s' l=>if s'=s then some (P.fF s l::ys,a||a',i||i',gs',(j,e)::es) else none
     |_=>none
    |_=>none
def baseD (o:Nat→O):W→Option (Prop×Bool×Bool×List (List P)×List Nat×Option (Nat×List (Nat×Nat)))
 |.bY=>some (True,false,false,[],[],none)
 |.own g=>match jg o g with
  |some (a,i,sz,ah,l)=>some (True,a,i,l,g::(o g).hn,some (sz,ah))
  |none=>none
 |.vw g lo hi=>match jg o g with
  |some (a,i,sz,ah,l)=>some (lo=kZ 0,a,i,l.take hi.nat,g::(o g).hn,some (sz,ah))
  |none=>none
 |_=>none
def hdr (l:List (List P)):P:=.sl 0 (List.replicate l.length [])
def YA:List (Nat×Nat)→Bool
 | [(0,0)]=>true
 |_=>false
def zi (tt:TT) (o:Nat→O) (f:Operand→S) (t:TypeId) (x:Operand):Option E5:=match tt t,f x with
 |some i,.v (.one (.ep g n off))=>match jg o g with
  |some (a,i',sz,ah,l)=>match ah.lookup off with
   |some _=>if off<sz∧i.size=1∧i.agg=false then some (.pure (.v (.one (.p false false (hdr ((l.getD n.nat []).getD off default).list))))) else none
   |none=>none
  |none=>none
 |_,_=>none
def dJ (tt:TT) (dc:List (Nat×Nat)) (d:Nat) (o:Nat→O) (f:Operand→S) (op:Op) (ty:TypeId):Option E5:=
 match op with
 |.load t x=>bif YA dc then zi tt o f t x else match tt t,f x with
  |some i,.v (.one (.ep g n off))=>match o g with
   |.aG a0 i0 zl jS l0 hole=>if off+i.size≤zl∧0<i.size then match mV jS off i.size with
    | []=>some (.pure (V.fH i.agg ((List.range i.size).map fun j=>.p a0 i0 ((l0.getD n.nat []).getD (off+j) (Ri i.zero j)))))
    | [(c,s)]=>match jg o g with
     |some (a,i',sz,ah,l)=>some (.mk True (.sl sz l) (fun y=>V.fH i.agg ((List.range i.size).map fun j=>if Nat.beq (off+j) c=true then .own d else .p a i' ((y.list.getD n.nat []).getD (off+j) (Ri i.zero j))))
       (fun y=>(g,.aG a i' sz ah y.list (some (n.nat,c,d)))::(d,.arr false a i' s ((y.list.getD n.nat []).getD c default).list)::kills (o g).hn) [d])
     |none=>none
    |_=>none
    else none
   |_=>none
  |_,_=>none
 |.store t x y=>match tt t,f x,f y with
  |some i,.v (.one (.ep g n off)),.v y=>match o g with
   |.aG a0 i0 sz ah l0 hole=>match N7 o (fun j=>ah.lookup j) off y.words with
    |some (ps,a',i',gs,es)=>if off+i.size≤sz∧y.words.length=i.size∧y.solid=true∧gs.contains g=false∧rM (es.map (·.2))=true∧B_ (es.map (·.2)) gs=true then
      let res (pre:Prop) (a i:Bool) (l:List (List P)) (iG:Option (Nat×Nat×Nat)) (ks:List Nat):E5:=
       .mk pre (.sl sz (l.set n.nat (aH (l.getD n.nat []) off ps))) (fun _=>.no) (fun z=>(g,.aG (a||a') (i||i') sz ah z.list iG)::kills (es.map (·.2))++kills ks++gs.map (aK o)) []
      match mV ah off i.size with
      | []=>some (res True a0 i0 l0 hole [])
      |_::_=>match hole with
       |none=>some (res True a0 i0 l0 none [])
       |some (n0,c0,d0)=>match jg o g with
        |some (a,i1,_,_,l)=>if (es.map (·.2)).contains d0=false∧gs.contains d0=false then some (res True a i1 l none [d0])
          else if off≤c0∧c0<off+i.size then some (res (n0=n.nat) a0 i0 l0 none []) else none
        |none=>if off≤c0∧c0<off+i.size then some (res (n0=n.nat) a0 i0 l0 none []) else none
      else none
    |none=>none
   |_=>none
  |_,_,_=>none
 |.buildSlice t n parts=>match tt t,dc with
  |some { k:=.slice e,.. },_::_=>match tt e with
   |some ie=>match lg (fun m=>if m<n then some (m*ie.size,ie.size) else none) (fD (ie.zero.map cv) n) (parts.toList.map fun p=>(p.1,f p.2)) with
    |some ws=>match N7 o (fun j=>dc.lookup (j % ie.size)) 0 ws with
     |some (ps,a,i,gs,es)=>if n+n*ie.size≤16777216∧rM (es.map (·.2))=true∧B_ (es.map (·.2)) gs=true then
       some (.mk True (.sl ie.size (chunks ie.size n ps)) (fun _=>.v (.one (.own d)))
        (fun y=>(d,.aG a i ie.size dc y.list none)::kills (es.map (·.2))++gs.map (aK o)) [d]) else none
     |none=>none
    |none=>none
   |none=>none
  |_,_=>none
 |.makeSlice t n c=>match tt t,f n,f c,dc with
  |some { k:=.slice e,.. },.v (.one (.p _ _ n)),.v (.one (.p _ _ c)),_::_=>match tt e with
   |some ie=>match N7 o (fun j=>dc.lookup j) 0 (ie.zero.map cv) with
    |some (ps,false,false,[],[])=>if 0<ie.size then
     some (.mk (∃m k:Nat,n=.int .i64 m∧c=.int .i64 k∧m≤k∧ie.bytes*k≤281474976710656∧k≤9223372036854775807) (.sl ie.size (List.replicate n.nat ps))
      (fun _=>.v (.one (.own d))) (fun y=>[(d,.aG false false ie.size dc y.list none)]) [d]) else none
    |_=>none
   |none=>none
  |_,_,_,_=>none
 |.call { callee:=.builtin .append,args,argTypes }=>match args.toList,argTypes.toList with
  | [s,x],sT::xT::_=>match tt sT,tt xT,f s,f x with
   |some { k:=.slice e,.. },some { k:=.slice _,.. },.v (.one s),.v (.one (.own g2))=>match tt e,baseD o s,jg o g2 with
    |some ie,some (ask,a,i,old,ks,src),some (a2,i2,sz,ah,new)=>
     if ie.bytes≠0∧sz=ie.size∧(src=none∨src=some (sz,ah))∧rM (ks++g2::(o g2).hn)=true then
      some (.mk (ask∧(old.length+new.length)*ie.bytes≤140737488355328) (.sl sz (old++new)) (fun _=>.v (.one (.own d)))
       (fun y=>(d,.aG (a||a2) (i||i2) sz ah y.list none)::kills (ks++g2::(o g2).hn)) [d]) else none
    |_,_,_=>none
   |_,_,_,_=>none
  |_,_=>none
 |.slice t x none hi none=>match tt t,f x with
  |some { k:=.slice e,.. },.v (.one (.own g))=>match tt e,o g with
   |some ie,.arr false a i sz l=>if sz=ie.size then match mO (kZ l.length) (hi.map f) with
    |some hi=>some (.mk (∃k:Nat,hi=.int .i64 k∧k≤l.length) (.sl sz (l.take hi.nat)) (fun _=>.v (.one (.own d))) (fun y=>[(d,.arr false a i sz y.list),(g,.none)]) [d])
    |none=>none
    else none
   |_,_=>none
  |_,_=>none
 |_=>none
section
variable {E:Env} {st st':St} {gh bD:Nat→Gh} {w w':World} {val:Nat→Value} {Pg:Program} {tt:TT}
theorem qM :∀{l:List Nat},rM l=true→l.Nodup
 | [],_=>List.nodup_nil
 |x::l,h=>by
  simp only [rM,Bool.and_eq_true,Bool.not_eq_true',List.contains_eq_mem,decide_eq_false_iff_not] at h
  exact List.nodup_cons.2 ⟨h.1,qM h.2⟩
theorem DW {xs ys:List Nat} (h:B_ xs ys=true) :∀x∈xs,x∉ys:=by
 intro x hx
 have:=(List.all_eq_true.1 h) x hx
 simpa using this
theorem gI {gs:List Nat} {g:Nat}:(kills gs).lookup g=if g∈gs then some O.none else none:=by
 induction gs with
 |nil=>rfl
 |cons x gs ih=>
  simp only [kills,List.map_cons,List.lookup,List.mem_cons]
  by_cases e:g=x
  ·subst e;simp
  ·have:(g==x)=false:=by simpa using e
   rw [this]
   simp only [e,false_or]
   exact ih
theorem zn {α:Type} {g:Nat} :∀{l r:List (Nat×α)},(l++r).lookup g=(l.lookup g).or (r.lookup g)
 | [],r=>by simp
 |(k,v)::l,r=>by
  simp only [List.cons_append,List.lookup]
  split
  ·rfl
  ·exact zn
theorem lookup_cons {α:Type} {g k:Nat} {v:α} {r:List (Nat×α)}:((k,v)::r).lookup g=if g=k then some v else r.lookup g:=by
 simp only [List.lookup]
 by_cases e:g=k
 ·subst e;simp
 ·have:(g==k)=false:=by simpa using e
  rw [this,if_neg e]
theorem Gs {ah:List (Nat×Nat)} {off n j:Nat} (h:mV ah off n=[]) (h1:off≤j) (h2:j<off+n):ah.lookup j=none:=by
 cases hl:ah.lookup j with
 |none=>rfl
 |some s=>
  have hm:(j,s)∈ah:=by
   clear h
   induction ah with
   |nil=>cases hl
   |cons p ah ih=>
    obtain ⟨k,v⟩:=p
    rw [lookup_cons] at hl
    split at hl
    ·rename_i e;cases hl;subst e;simp
    ·exact List.mem_cons_of_mem _ (ih hl)
  have:(j,s)∈mV ah off n:=List.mem_filter.2 ⟨hm,by simp [h1,h2]⟩
  rw [h] at this;cases this
theorem DX {α:Type} {g:Nat} {v:α} :∀{l:List (Nat×α)},l.lookup g=some v→(g,v)∈l
 | [],h=>by cases h
 |(k,x)::l,h=>by
  rw [lookup_cons] at h
  split at h
  ·rename_i e;cases h;subst e;simp
  ·exact List.mem_cons_of_mem _ (DX h)
theorem Rz {ah:List (Nat×Nat)} {off n c s:Nat} (h:mV ah off n=[(c,s)]):ah.lookup c=some s∧off≤c∧c<off+n∧∀j,off≤j→j<off+n→j≠c→ah.lookup j=none:=by
 have hm:(c,s)∈mV ah off n:=by rw [h];simp
 obtain ⟨m1,m2⟩:=List.mem_filter.1 hm
 simp only [Bool.and_eq_true,Nat.ble_eq,Nat.blt_eq] at m2
 have key :∀j s',ah.lookup j=some s'→off≤j→j<off+n→(j,s')=(c,s):=by
  intro j s' hl h1 h2
  have:(j,s')∈mV ah off n:=List.mem_filter.2 ⟨DX hl,by simp [h1,h2]⟩
  rw [h] at this;simpa using this
 refine ⟨?_,m2.1,m2.2,fun j h1 h2 hne => ?_⟩
 ·cases hl:ah.lookup c with
  |none=>
   exfalso
   clear h hm key
   induction ah with
   |nil=>cases m1
   |cons p ah ih=>
    obtain ⟨k,v⟩:=p
    rw [lookup_cons] at hl
    split at hl
    ·cases hl
    ·rename_i e
     rcases List.mem_cons.1 m1 with e1 | e1
     ·cases e1;exact e rfl
     ·exact ih e1 hl
  |some s'=>have:=key c s' hl m2.1 m2.2;cases this;rfl
 ·cases hl:ah.lookup j with
  |none=>rfl
  |some s'=>have:=key j s' hl h1 h2;cases this;exact absurd rfl hne
theorem Rel.home (h:Rel E st gh val w) {g:Nat} {a i:Bool} {sz:Nat} {ah:List (Nat×Nat)} {l:List (List P)} (hh:jg st.o g=some (a,i,sz,ah,l)) :
  ∃st1 kL,Rel E st1 kL val w∧Lets E st st1 gh kL w w∧(∀x,(kL x).ad=(gh x).ad∧(kL x).cap=(gh x).cap)∧st1.s=st.s∧(∀x,st1.used x=st.used x)∧st1.o g=.aG a i sz ah l none∧
   (∀d∈(st.o g).hn,st1.o d=.none∧d≠g)∧∀g',g'≠g→g'∉(st.o g).hn→st1.o g'=st.o g':=by
 unfold jg at hh
 cases ho:st.o g with
 |aG a0 i0 zl jS l0 hole=>
  rw [ho] at hh
  simp only at hh
  rcases hole with _ | ⟨n,c,d⟩
  ·simp only [Option.some.injEq,Prod.mk.injEq] at hh
   obtain ⟨rfl,rfl,rfl,rfl,rfl⟩:=hh
   exact ⟨st,gh,h,⟨fun a i b hb=>⟨hb,rfl⟩,fun g _=>.inr ⟨⟨rfl,rfl⟩,O.eF _⟩⟩,fun _=>⟨rfl,rfl⟩,rfl,fun _=>rfl,ho,(fun d hd=>by cases hd),fun _ _ _=>rfl⟩
  ·simp only at hh
   cases hd:st.o d with
   |arr fz a' i' sz' l'=>
    rw [hd] at hh
    cases fz with
    |true=>cases hh
    |false=>
     simp only at hh
     split at hh
     ·rename_i hc
      simp only [Option.some.injEq,Prod.mk.injEq] at hh
      obtain ⟨rfl,rfl,rfl,rfl,rfl⟩:=hh
      obtain ⟨kL,h1,l1,e1⟩:=h.shut ho hd hc.1 hc.2
      have hne:d≠g:=by intro e;subst e;rw [ho] at hd;cases hd
      refine ⟨_,kL,h1,l1,e1,rfl,fun x=>by simp [St.aF],by simp [St.aF,List.lookup],fun d' hd' => ?_,fun g' h1 h2 => ?_⟩
      ·simp only [O.hn,dh,List.mem_singleton] at hd'
       subst hd'
       have e1:(d'==g)=false:=by simpa using hne
       exact ⟨by simp [St.aF,List.lookup,e1],hne⟩
      ·have e1:(g'==g)=false:=by simpa using h1
       have e2:(g'==d)=false:=by simp;intro e;exact h2 (by rw [e];simp [O.hn,dh])
       simp [St.aF,List.lookup,e1,e2]
     ·cases hh
   |_=>rw [hd] at hh;cases hh
 |_=>rw [ho] at hh;cases hh
theorem nJ {o:Nat→O} {g:Nat} {a i:Bool} {sz:Nat} {ah:List (Nat×Nat)} {l:List (List P)} (hh:jg o g=some (a,i,sz,ah,l)):(o g).dim=some (sz,l.length):=by
 unfold jg at hh
 cases ho:o g with
 |aG a0 i0 zl jS l0 hole=>
  rw [ho] at hh
  simp only at hh
  rcases hole with _ | ⟨n,c,d⟩
  ·simp only [Option.some.injEq,Prod.mk.injEq] at hh
   obtain ⟨rfl,rfl,rfl,rfl,rfl⟩:=hh;rfl
  ·simp only at hh
   split at hh
   ·split at hh
    ·simp only [Option.some.injEq,Prod.mk.injEq] at hh
     obtain ⟨rfl,rfl,rfl,rfl,rfl⟩:=hh
     simp [O.dim,iF]
    ·cases hh
   ·cases hh
 |_=>rw [ho] at hh;cases hh
theorem Gt {Q:Nat→Value→Prop} {b o n:Nat} (h :∀j,j<n→∃v,w.cell? ⟨b,o+j,none⟩=some v∧v.oneCell'=true∧Q j v) :
  ∃cs:List Value,cs.length=n∧(∀(j:Nat) u,cs[j]?=some u→w.cell? ⟨b,o+j,none⟩=some u)∧(∀c∈cs,c.oneCell'=true)∧∀(j:Nat) u,cs[j]?=some u→Q j u:=by
 have key :∀j u,((List.range n).map fun j=>(w.cell? ⟨b,o+j,none⟩).getD undef)[j]?=some u→j<n∧w.cell? ⟨b,o+j,none⟩=some u∧u.oneCell'=true∧Q j u:=by
  intro j u hu
  simp only [List.getElem?_map,Option.map_eq_some_iff] at hu
  obtain ⟨k,hk,rfl⟩:=hu
  obtain ⟨hlt,rfl⟩:=List.getElem?_eq_some_iff.1 hk
  simp at hlt ⊢
  obtain ⟨v,hv,h1,h2⟩:=h j hlt
  rw [hv];exact ⟨hlt,rfl,h1,h2⟩
 refine ⟨(List.range n).map fun j=>(w.cell? ⟨b,o+j,none⟩).getD undef,by simp,fun j u hu=>(key j u hu).2.1,fun c hc => ?_,fun j u hu=>(key j u hu).2.2.2⟩
 obtain ⟨j,hj⟩:=List.mem_iff_getElem?.1 hc
 exact (key j c hj).2.2.1
def pO (Pg:Program) (tt:TT) (dc:List (Nat×Nat)) (op:Op):Prop:=
 ∀(E:Env) (st:St) (gh:Nat→Gh) (val:Nat→Value) (w:World) (ρ:Operand→Value) (F:Operand→S) (o:Oper) (d:Nat) (r:E5),o.op=op→Rel E st gh val w→
  (∀x,cO E st gh w (F x) (ρ x))→(∀x,∀g∈(F x).names,st.used g=true)→dJ tt dc d st.o F op o.type=some r→r.pre→(∀g∈r.new,st.used g=false)→
  ∃v w' bD,Does Pg (execOp ρ o) w v w'∧Rel E (st.aF (r.aF r.val) r.new) bD val w'∧Lets E st (st.aF (r.aF r.val) r.new) gh bD w w'∧cO E (st.aF (r.aF r.val) r.new) bD w' (r.dst r.val) v∧
   ∀g∈(r.dst r.val).names,(st.aF (r.aF r.val) r.new).used g=true
theorem St.Cb {a b:St} (h1:a.s=b.s) (h2 :∀g,a.o g=b.o g) (h3 :∀g,a.used g=b.used g):a=b:=by
 obtain ⟨s,o,u⟩:=a
 obtain ⟨s',o',u'⟩:=b
 simp only at h1 h2 h3
 rw [h1,funext h2,funext h3]
theorem Jq (htt:gQ Pg tt) (t:TypeId) (x:Operand) {E:Env} {st:St} {gh:Nat→Gh} {val:Nat→Value} {w:World} {ρ:Operand→Value} {F:Operand→S} {o:Oper} {r:E5} (ho:o.op=.load t x) (h:Rel E st gh val w)
  (hF :∀x,cO E st gh w (F x) (ρ x)) (hk:zi tt st.o F t x=some r) :
  ∃v w' bD,Does Pg (execOp ρ o) w v w'∧Rel E (st.aF (r.aF r.val) r.new) bD val w'∧Lets E st (st.aF (r.aF r.val) r.new) gh bD w w'∧cO E (st.aF (r.aF r.val) r.new) bD w' (r.dst r.val) v∧
   ∀g∈(r.dst r.val).names,(st.aF (r.aF r.val) r.new).used g=true:=by
 unfold zi at hk
 split at hk
 ·rename_i i g n off ht hx
  have rx:=hF x;rw [hx] at rx
  split at hk
  ·rename_i a i' sz ah l hh
   split at hk
   ·rename_i s ab1
    split at hk
    ·rename_i hlt
     simp only [Option.some.injEq] at hk;subst hk
     obtain ⟨st1,kL,h1,l1,e1,es,eu,eo,ek,en1⟩:=h.home hh
     have OA:=nJ hh
     obtain ⟨ad,k,had,rfl,hkl,hv⟩:=(by cases rx.cu with | ep _ _ _ _ _ hb=>exact hb _ _ OA :∃(ad:Addr) (k:Nat),(gh g).ad=some ad∧n=.int .i64 k∧k<l.length∧ρ x=.pointer (some ⟨ad.block,ad.off+k*sz+off,none⟩))
     have en:(P.int .i64 (k:Int)).nat=k:=by simp [P.nat,P.num]
     have Jr:(kL g).ad=some ad:=by rw [(e1 g).1];exact had
     have hD:lJ E st1 kL w a i' sz ah l none (kL g):=by have:=h1.aQ g;rw [eo] at this;exact this
     rcases hD with ⟨k1,_⟩ | ⟨ad0,cs0,ty,k1,k2,k3,k4,k5,k6,_,k8⟩
     ·rw [Jr] at k1;cases k1
     rw [Jr] at k1;cases k1
     have hrow:l[k]?=some l[k]:=List.getElem?_eq_getElem hkl
     have hrl:l[k].length=sz:=k6 _ (List.getElem_mem hkl)
     have hoff:off<l[k].length:=by omega
     obtain ⟨v,hv0,hr⟩:=k8 k _ hrow off _ (List.getElem?_eq_getElem hoff)
     unfold g_ at hr
     rw [ab1] at hr
     simp only [gu] at hr
     obtain ⟨l',ao,kk,hy,rfl,harr,_⟩:=hr
     have hcell:w.cell? ⟨ad.block,ad.off+k*sz+off,none⟩=some (.slice ao l'.length kk):=by simp [World.cell?,k3,hv0]
     obtain ⟨v,hrun,hval⟩:=jE (Pg:=Pg) (w:=w) (htt _ _ ht) ad.block (ad.off+k*sz+off) [.slice ao l'.length kk] (by simp [hlt.2.1]) (fun j c hj=>by
      cases j with
      |zero=>simp at hj;subst hj;exact hcell
      |succ j=>simp at hj) (fun _=>by omega)
     have hvv:v=.slice ao l'.length kk:=by
      rw [hlt.2.2] at hval
      exact hval _ rfl
     have hdr':hdr ((l.getD (P.int .i64 (k:Int)).nat []).getD off default).list=.sl 0 (List.replicate l'.length []):=by
      rw [en]
      have e2:(l.getD k []).getD off default=l[k][off]:=by
       rw [List.getD_eq_getElem?_getD,List.getD_eq_getElem?_getD,hrow]
       simp [List.getElem?_eq_getElem hoff]
      rw [e2,hy,P.nH];rfl
     rw [hdr']
     refine still h (v:=v) (by unfold execOp;rw [ho];exact fU (by rw [hv];simpa [Instr.loadAt,Instr.sureAddr] using hrun)) (cO.ofP ?_) fun g' hg'=>by simp [E5.pure,S.names,V.names,W.names] at hg'
     rw [hvv]
     rcases harr with ⟨q1,q2,q3⟩ | ⟨Ah,c2,e2,q1,q2,q3,q4,q5,_⟩
     ·subst q3;exact .nil _ _ _
     ·have q1:ao=some Ah:=q1
      have q5:l'.length≤kk∧kk≤9223372036854775807:=q5
      rw [q1]
      have:=bW.sl (w:=w) (ok:=E.ok st gh w false false) 0 (List.replicate l'.length []) Ah kk (fun _ _=>undef) q2 (fun h0=>absurd h0 (Nat.lt_irrefl 0)) (by simpa using q5.1) (fun x hx=>by rw [List.eq_of_mem_replicate hx];rfl)
       (fun n x hx j y hy=>by rw [List.eq_of_mem_replicate (List.mem_of_getElem? hx)] at hy;simp at hy) (fun n x hx j y hy=>by rw [List.eq_of_mem_replicate (List.mem_of_getElem? hx)] at hy;simp at hy)
      simpa using this
    ·cases hk
   ·cases hk
  ·cases hk
 ·cases hk
theorem OC {dc:List (Nat×Nat)} (htt:gQ Pg tt) (t:TypeId) (x:Operand):pO Pg tt dc (.load t x):=by
 intro E st gh val w ρ F o d r ho h hF hFn hk hp hd
 simp only [dJ] at hk
 cases hhd:YA dc with
 |true=>rw [hhd] at hk;exact Jq htt t x ho h hF hk
 |false=>
 rw [hhd] at hk
 simp only [cond_false] at hk
 split at hk
 ·rename_i i g n off ht hx
  have rx:=hF x;rw [hx] at rx
  split at hk
  ·rename_i a0 i0 zl jS l0 hole hog
   split at hk
   ·rename_i hlt
    have OA:(st.o g).dim=some (zl,l0.length):=by rw [hog];rfl
    obtain ⟨ad,k,had,rfl,hkl,hv⟩:=(by cases rx.cu with | ep _ _ _ _ _ hb=>exact hb _ _ OA :∃(ad:Addr) (k:Nat),(gh g).ad=some ad∧n=.int .i64 k∧k<l0.length∧ρ x=.pointer (some ⟨ad.block,ad.off+k*zl+off,none⟩))
    have en:(P.int .i64 (k:Int)).nat=k:=by simp [P.nat,P.num]
    split at hk
    ·rename_i hci
     simp only [Option.some.injEq] at hk;subst hk
     have hD:lJ E st gh w a0 i0 zl jS l0 hole (gh g):=by have:=h.aQ g;rw [hog] at this;exact this
     rcases hD with ⟨k1,_⟩ | ⟨ad0,cs0,ty,k1,k2,k3,k4,k5,k6,_,k8⟩
     ·rw [had] at k1;cases k1
     rw [had] at k1;cases k1
     have hrow:l0[k]?=some l0[k]:=List.getElem?_eq_getElem hkl
     have hrl:l0[k].length=zl:=k6 _ (List.getElem_mem hkl)
     have hget:l0.getD (P.int .i64 (k:Int)).nat []=l0[k]:=by rw [en,List.getD_eq_getElem?_getD,hrow];rfl
     obtain ⟨cs,hl,hcell,hone,hrep⟩:=Gt (w:=w) (b:=ad.block) (o:=ad.off+k*zl+off) (n:=i.size) (Q:=fun j v=>bW w (E.ok st gh w a0 i0) (l0[k].getD (off+j) (Ri i.zero j)) v) fun j hj=>by
      have hlt':off+j<l0[k].length:=by omega
      obtain ⟨v,hv,hr⟩:=k8 k _ hrow (off+j) _ (List.getElem?_eq_getElem hlt')
      simp only [g_,Gs hci (show off≤off+j by omega) (show off+j<off+i.size by omega)] at hr
      have e0:ad.off+k*zl+off+j=ad.off+k*zl+(off+j):=by omega
      refine ⟨v,by rw [e0];simp [World.cell?,k3,hv],hr.oneCell,?_⟩
      rw [List.getD_eq_getElem?_getD,List.getElem?_eq_getElem hlt'];exact hr
     obtain ⟨v,hrun,hval⟩:=jE (Pg:=Pg) (w:=w) (htt _ _ ht) ad.block (ad.off+k*zl+off) cs hl hcell (fun _=>hlt.2)
     rw [hget]
     exact still h (v:=v) (by unfold execOp;rw [ho];exact fU (by rw [hv];simpa [Instr.loadAt,Instr.sureAddr] using hrun)) (j_ (by simp [hl]) hone (fun j y u hy hu=>by
       simp only [List.getElem?_map,Option.map_eq_some_iff] at hy
       obtain ⟨q,hq,rfl⟩:=hy
       obtain ⟨hlt2,rfl⟩:=List.getElem?_eq_some_iff.1 hq
       simp at hlt2 ⊢
       exact .p _ _ _ _ (hrep _ u hu)) v hval)
      fun g' hg'=>by obtain ⟨y,hy,hg'⟩:=iW hg';rw [rH hy] at hg';cases hg'
    ·rename_i c s hci
     split at hk
     ·rename_i a i' sz ah l hh
      simp only [Option.some.injEq] at hk;subst hk
      obtain ⟨st1,kL,h1,l1,e1,es,eu,eo,ek,en1⟩:=h.home hh
      have YB:=nJ hh
      rw [OA] at YB
      simp only [Option.some.injEq,Prod.mk.injEq] at YB
      obtain ⟨rfl,hll⟩:=YB
      have hcols:ah=jS:=by
       unfold jg at hh
       rw [hog] at hh
       simp only at hh
       split at hh
       ·cases hh;rfl
       ·split at hh
        ·split at hh
         ·cases hh;rfl
         ·cases hh
        ·cases hh
      subst hcols
      obtain ⟨c1,c2,c3,c4⟩:=Rz hci
      have Fz:st.used d=false:=hd d (by simp)
      have Jr:(kL g).ad=some ad:=by rw [(e1 g).1];exact had
      have hD:lJ E st1 kL w a i' zl ah l none (kL g):=by have:=h1.aQ g;rw [eo] at this;exact this
      rcases hD with ⟨k1,_⟩ | ⟨ad0,cs0,ty,k1,k2,k3,k4,k5,k6,_,k8⟩
      ·rw [Jr] at k1;cases k1
      rw [Jr] at k1;cases k1
      have hkl':k<l.length:=by omega
      have hrow:l[k]?=some l[k]:=List.getElem?_eq_getElem hkl'
      have hrl:l[k].length=zl:=k6 _ (List.getElem_mem hkl')
      have hget:l.getD (P.int .i64 (k:Int)).nat []=l[k]:=by rw [en,List.getD_eq_getElem?_getD,hrow];rfl
      have hyc:l[k][c]?=some l[k][c]:=List.getElem?_eq_getElem (by omega)
      obtain ⟨l',ao,kc,wC,hy,⟨Ah,cs2,ty2,q1,q2,q3⟩,q4,q5,r1,r2⟩:=h1.split (d:=d) (by rw [eu];exact Fz) eo c1 hrow hyc
      rw [Jr] at q1;cases q1
      rw [k3] at q2;cases q2
      have hlist:((l.getD (P.int .i64 (k:Int)).nat []).getD c default).list=l':=by
       rw [hget,List.getD_eq_getElem?_getD,hyc]
       show (l[k][c]).list=l'
       rw [hy,P.nH]
      have hgd:g≠d:=fun e=>by rw [←e,h.ul g (by rw [hog];simp)] at Fz;cases Fz
      have hst:st1.aF [(g,.aG a i' zl ah l (some (k,c,d))),(d,.arr false a i' s l')] [d]=st.aF ((g,.aG a i' zl ah l (some ((P.int .i64 (k:Int)).nat,c,d)))::(d,.arr false a i' s ((l.getD (P.int .i64 (k:Int)).nat []).getD c default).list)::kills (st.o g).hn) [d]:=by
       rw [hlist,en]
       refine St.Cb es (fun x => ?_) (fun x=>by simp [St.aF,eu])
       simp only [St.aF,lookup_cons,gI]
       by_cases x1:x=g
       ·simp only [if_pos x1]
       ·by_cases x2:x=d
        ·simp only [if_neg x1,if_pos x2]
        ·simp only [if_neg x1,if_neg x2]
         by_cases x3:x∈(st.o g).hn
         ·simp only [if_pos x3];exact (ek x x3).1
         ·simp only [if_neg x3];exact en1 x x1 x3
      obtain ⟨cs,hl,hcell,hone,hrep⟩:=Gt (w:=w) (b:=ad.block) (o:=ad.off+k*zl+off) (n:=i.size) (Q:=fun j v=>if Nat.beq (off+j) c=true then v=.slice ao l'.length kc else bW w (E.ok st1 kL w a i') (l[k].getD (off+j) (Ri i.zero j)) v) fun j hj=>by
       have hlt':off+j<l[k].length:=by omega
       obtain ⟨v,hv,hr⟩:=k8 k _ hrow (off+j) _ (List.getElem?_eq_getElem hlt')
       have e0:ad.off+k*zl+off+j=ad.off+k*zl+(off+j):=by omega
       refine ⟨v,by rw [e0];simp [World.cell?,k3,hv],hr.oneCell,?_⟩
       by_cases hjc:off+j=c
       ·rw [if_pos (by simpa using hjc)]
        rw [hjc] at hv
        rw [hv] at q3;exact Option.some.inj q3
       ·rw [if_neg (by simpa using hjc)]
        simp only [g_,c4 (off+j) (by omega) (by omega) hjc] at hr
        rw [List.getD_eq_getElem?_getD,List.getElem?_eq_getElem hlt'];exact hr
      obtain ⟨v,hrun,hval⟩:=jE (Pg:=Pg) (w:=w) (htt _ _ ht) ad.block (ad.off+k*zl+off) cs hl hcell (fun _=>hlt.2)
      have hod:(st1.aF [(g,.aG a i' zl ah l (some (k,c,d))),(d,.arr false a i' s l')] [d]).o d=.arr false a i' s l':=by
       have:(d==g)=false:=by simpa using hgd.symm
       simp [St.aF,List.lookup,this]
      refine ⟨v,w,wC,.inl (by unfold execOp;rw [ho];exact fU (by rw [hv];simpa [Instr.loadAt,Instr.sureAddr] using hrun)),?_,?_,?_,fun g' hg' => ?_⟩
      ·rw [hst] at r1;exact r1
      ·have:=Lets.trans l1 r2 fun g hg=>by rw [eu];exact hg
       rw [hst] at this;exact this
      ·have hS:cO E (st1.aF [(g,.aG a i' zl ah l (some (k,c,d))),(d,.arr false a i' s l')] [d]) wC w (V.fH i.agg ((List.range i.size).map fun j=>if Nat.beq (off+j) c=true then W.own d else W.p a i' ((l.getD (P.int .i64 (k:Int)).nat []).getD (off+j) (Ri i.zero j)))) v:=by
        rw [hget]
        refine j_ (by simp [hl]) hone (fun j y u hy hu => ?_) v hval
        simp only [List.getElem?_map,Option.map_eq_some_iff] at hy
        obtain ⟨q,hq,rfl⟩:=hy
        obtain ⟨hlt2,rfl⟩:=List.getElem?_eq_some_iff.1 hq
        simp at hlt2 ⊢
        have hr:=hrep _ u hu
        by_cases hjc:off+j=c
        ·rw [if_pos hjc]
         rw [if_pos (by simpa using hjc)] at hr
         subst hr
         exact .own d _ rfl fun sz3 ak_ hd3=>by rw [hod] at hd3;obtain ⟨_,e2⟩:=O.jD hd3;rw [q4,q5,e2]
        ·rw [if_neg hjc]
         rw [if_neg (by simpa using hjc)] at hr
         exact .p _ _ _ _ (r2.jQ (by simpa using hr))
       rw [hst] at hS;exact hS
      ·have hg':g'∈(V.fH i.agg ((List.range i.size).map fun j=>if Nat.beq (off+j) c=true then W.own d else W.p a i' ((l.getD (P.int .i64 (k:Int)).nat []).getD (off+j) (Ri i.zero j)))).names:=hg'
       obtain ⟨y,hy,hg'⟩:=iW hg'
       obtain ⟨j,_,rfl⟩:=List.mem_map.1 hy
       split at hg'
       ·simp only [W.names,List.mem_singleton] at hg';subst hg';simp [St.aF]
       ·simp [W.names] at hg'
     ·cases hk
    ·cases hk
   ·cases hk
  ·cases hk
 ·cases hk
theorem PartOf.mono {a i a' i':Bool} {es es':List (Nat×Nat)} {s j:Nat} {y:P} {u:Value} (h:PartOf st gh a i es s j y u) (ha:a=true→a'=true) (hi:i=true→i'=true) (he :∀p∈es,p∈es'):PartOf st gh a' i' es' s j y u:=by
 obtain ⟨l',h1,h2⟩:=h
 refine ⟨l',h1,h2.imp id ?_⟩
 rintro ⟨e,a1,i1,q1,q2,q3,q4,q5⟩
 exact ⟨e,a1,i1,he _ q1,q2,fun h=>ha (q3 h),fun h=>hi (q4 h),q5⟩
theorem Ar (h:Rel E st gh val w) {col:Nat→Option Nat} :∀{ws:List W} {cs:List Value} {ps:List P} {a i:Bool} {gs:List Nat} {es:List (Nat×Nat)} {j0:Nat},ws.length=cs.length→(∀(j:Nat) x u,ws[j]?=some x→cs[j]?=some u→dZ E st gh w x u)→
  N7 st.o col j0 ws=some (ps,a,i,gs,es)→ps.length=ws.length∧vZ st.o gs∧(∀p∈es,∃a1 i1 s l',st.o p.2=.arr false a1 i1 s l'∧(i1=true→i=true))∧
   ∀(j:Nat) y u,ps[j]?=some y→cs[j]?=some u→match col (j0+j) with
    |none =>∀st',(∀g∈gs,st'.o g=(Fw.aK st.o g).2)→Rel E st' gh val w→Lets E st st' gh gh w w→bW w (E.ok st' gh w a i) y u
    |some s=>PartOf st gh a i es s (j0+j) y u
 | [],cs,ps,a,i,gs,es,j0,hl,hr,ht=>by
  simp only [N7,Option.some.injEq,Prod.mk.injEq] at ht
  obtain ⟨rfl,rfl,rfl,rfl,rfl⟩:=ht
  exact ⟨rfl,vZ.nil,(fun p hp=>by cases hp),fun j y u hy=>by simp at hy⟩
 |x::ws,cs,ps,a,i,gs,es,j0,hl,hr,ht=>by
  cases cs with
  |nil=>simp at hl
  |cons c cs=>
   simp only [N7] at ht
   split at ht
   ·cases ht
   ·rename_i ys a' i' gs' es' h2
    obtain ⟨q0,q1,qe,q2⟩:=Ar h (j0:=j0+1) (by simpa using hl) (fun j a b ha hb=>hr (j+1) a b (by simpa using ha) (by simpa using hb)) h2
    have rest :∀(a i:Bool) (gs:List Nat) (es:List (Nat×Nat)),(a'=true→a=true)→(i'=true→i=true)→(∀g∈gs',g∈gs)→(∀p∈es',p∈es)→∀(j:Nat) y u,ys[j]?=some y→cs[j]?=some u→match col (j0+(j+1)) with
      |none =>∀st',(∀g∈gs,st'.o g=(Fw.aK st.o g).2)→Rel E st' gh val w→Lets E st st' gh gh w w→bW w (E.ok st' gh w a i) y u
      |some s=>PartOf st gh a i es s (j0+(j+1)) y u:=by
     intro a i gs es ha hi hg he j y u hy hu
     have:=q2 j y u hy hu
     have e:j0+1+j=j0+(j+1):=by omega
     rw [e] at this
     cases hc:col (j0+(j+1)) with
     |none=>rw [hc] at this;exact fun st' h1 h2 h3=>(this st' (fun g hg'=>h1 g (hg g hg')) h2 h3).cls ha hi
     |some s=>rw [hc] at this;exact this.mono ha hi he
    cases hc0:col j0 with
    |none=>
     rw [hc0] at ht
     simp only at ht
     split at ht
     ·rename_i y1 a1 i1 gs1 h1
      simp only [Option.some.injEq,Prod.mk.injEq] at ht
      obtain ⟨rfl,rfl,rfl,rfl,rfl⟩:=ht
      obtain ⟨k1,k2⟩:=LQ h (hr 0 x c rfl rfl) h1
      refine ⟨by simp [q0],k1.append q1,fun p hp=>let ⟨a2,i2,s2,l2,z1,z2⟩:=qe p hp;⟨a2,i2,s2,l2,z1,fun hh=>by simp [z2 hh]⟩,fun j y u hy hu => ?_⟩
      cases j with
      |zero=>
       simp at hy hu;subst hy hu
       rw [Nat.add_zero,hc0]
       exact fun st' hst h' hlet=>(k2 st' (fun g hg=>hst g (by simp [hg])) h' hlet).cls (by simp;exact fun h=>.inl h) (by simp;exact fun h=>.inl h)
      |succ j=>exact rest _ _ _ _ (by simp;exact fun h=>.inr h) (by simp;exact fun h=>.inr h) (fun g hg=>by simp [hg]) (fun p hp=>hp) j y u (by simpa using hy) (by simpa using hu)
     ·cases ht
    |some s=>
     rw [hc0] at ht
     simp only at ht
     split at ht
     ·simp only [Option.some.injEq,Prod.mk.injEq] at ht
      obtain ⟨rfl,rfl,rfl,rfl,rfl⟩:=ht
      refine ⟨by simp [q0],q1,qe,fun j y u hy hu => ?_⟩
      cases j with
      |zero=>
       simp at hy hu;subst hy hu
       rw [Nat.add_zero,hc0]
       have r0:=hr 0 _ _ rfl rfl
       cases r0
       exact ⟨[],rfl,.inl ⟨rfl,rfl⟩⟩
      |succ j=>exact rest _ _ _ _ id id (fun g hg=>hg) (fun p hp=>hp) j y u (by simpa using hy) (by simpa using hu)
     ·rename_i e
      split at ht
      ·rename_i a1 i1 s' l1 hoe
       split at ht
       ·rename_i hs
        subst hs
        simp only [Option.some.injEq,Prod.mk.injEq] at ht
        obtain ⟨rfl,rfl,rfl,rfl,rfl⟩:=ht
        refine ⟨by simp [q0],q1,fun p hp => ?_,fun j y u hy hu => ?_⟩
        ·rcases List.mem_cons.1 hp with rfl | hp
         ·exact ⟨a1,i1,s',l1,hoe,fun hh=>by simp [hh]⟩
         ·obtain ⟨a2,i2,s2,l2,z1,z2⟩:=qe p hp
          exact ⟨a2,i2,s2,l2,z1,fun hh=>by simp [z2 hh]⟩
        cases j with
        |zero=>
         simp at hy hu;subst hy hu
         rw [Nat.add_zero,hc0]
         have r0:=hr 0 _ _ rfl rfl
         refine ⟨l1,rfl,.inr ⟨e,a1,i1,by simp,hoe,by simp;exact fun h=>.inl h,by simp;exact fun h=>.inl h,?_⟩⟩
         cases r0 with | own _ _ _ hb=>exact hb _ _ (O.jm hoe)
        |succ j=>exact rest _ _ _ _ (by simp;exact fun h=>.inr h) (by simp;exact fun h=>.inr h) (fun g hg=>hg) (fun p hp=>by simp [hp]) j y u (by simpa using hy) (by simpa using hu)
       ·cases ht
      ·cases ht
     ·cases ht
theorem Gu {o:Nat→O} {g:Nat} {a0 i0:Bool} {zl:Nat} {jS:List (Nat×Nat)} {l0:List (List P)} {hole:Option (Nat×Nat×Nat)} {a i:Bool} {sz:Nat} {ah:List (Nat×Nat)} {l:List (List P)} (hog:o g=.aG a0 i0 zl jS l0 hole)
  (hh:jg o g=some (a,i,sz,ah,l)):sz=zl∧ah=jS∧l.length=l0.length:=by
 have h1:=nJ hh
 rw [hog] at h1
 simp only [O.dim,Option.some.injEq,Prod.mk.injEq] at h1
 refine ⟨h1.1.symm,?_,h1.2.symm⟩
 unfold jg at hh
 rw [hog] at hh
 simp only at hh
 split at hh
 ·cases hh;rfl
 ·split at hh
  ·split at hh
   ·cases hh;rfl
   ·cases hh
  ·cases hh
theorem uy (htt:gQ Pg tt) (h:Rel E st gh val w) {o:Oper} {ρ:Operand→Value} {t:TypeId} {x y:Operand} (ho:o.op=.store t x y) {i:TI} (ht:tt t=some i) {y':V} (ry:qF E st gh w y' (ρ y)) (hys:y'.solid=true) (hyl:y'.words.length=i.size)
  {g:Nat} {a1 i1:Bool} {sz:Nat} {ah:List (Nat×Nat)} {l:List (List P)} {hole iG:Option (Nat×Nat×Nat)} {ad:Addr} {k off:Nat} (hv:ρ x=.pointer (some ⟨ad.block,ad.off+k*sz+off,none⟩)) (hsz:off+i.size≤sz) (hk:k<l.length)
  {ps:List P} {a' i':Bool} {gs:List Nat} {es:List (Nat×Nat)} (hD:N7 st.o (fun j=>ah.lookup j) off y'.words=some (ps,a',i',gs,es)) (hnd:(es.map (·.2)).Nodup) (hap :∀e∈es.map (·.2),e∉gs)
  {st1:St} {kL:Nat→Gh} (ks:List Nat) (h1:Rel E st1 kL val w) (l1:Lets E (st.aF (gs.map (Fw.aK st.o)) []) st1 gh kL w w) (e1 :∀x,(kL x).ad=(gh x).ad∧(kL x).cap=(gh x).cap) (s1:st1.s=st.s) (u1 :∀x,st1.used x=st.used x)
  (o1:st1.o g=.aG a1 i1 sz ah l hole) (had:(gh g).ad=some ad) (ok1 :∀d∈ks,st1.o d=.none∧d≠g∧d∉es.map (·.2)) (oo1 :∀g',g'≠g→g'∉ks→st1.o g'=(st.aF (gs.map (Fw.aK st.o)) []).o g') (hgg:g∉gs)
  (hh1 :∀m j,¬ (m=k∧off≤j∧j<off+i.size)→∀s,ah.lookup j=some s→gu iG m j=gu hole m j) (hh2 :∀j s,off≤j→j<off+i.size→ah.lookup j=some s→gu iG k j=none) (hh3 :∀d∈dh iG,d∈dh hole) :
  ∃v w' bD,Does Pg (execOp ρ o) w v w'∧Rel E (st.aF ((g,.aG (a1||a') (i1||i') sz ah (l.set k (aH (l.getD k []) off ps)) iG)::kills (es.map (·.2))++kills ks++gs.map (Fw.aK st.o)) []) bD val w'∧
   Lets E st (st.aF ((g,.aG (a1||a') (i1||i') sz ah (l.set k (aH (l.getD k []) off ps)) iG)::kills (es.map (·.2))++kills ks++gs.map (Fw.aK st.o)) []) gh bD w w'∧
   cO E (st.aF ((g,.aG (a1||a') (i1||i') sz ah (l.set k (aH (l.getD k []) off ps)) iG)::kills (es.map (·.2))++kills ks++gs.map (Fw.aK st.o)) []) bD w' .no v∧
   ∀g∈S.names .no,(st.aF ((g,.aG (a1||a') (i1||i') sz ah (l.set k (aH (l.getD k []) off ps)) iG)::kills (es.map (·.2))++kills ks++gs.map (Fw.aK st.o)) []).used g=true:=by
 obtain ⟨us,hus,Rq,huo,hur⟩:=ry.cells hys
 have Yu:us.length=i.size:=by rw [Rq,hyl]
 obtain ⟨q0,q1,qe,q2⟩:=Ar h Rq.symm hur hD
 have hpl:ps.length=i.size:=by rw [q0,hyl]
 obtain ⟨f1,f2⟩:=Rel.freezes gs h q1
 have Jr:(kL g).ad=some ad:=by rw [(e1 g).1];exact had
 have hDA:lJ E st1 kL w a1 i1 sz ah l hole (kL g):=by have:=h1.aQ g;rw [o1] at this;exact this
 rcases hDA with ⟨k1,_⟩ | ⟨ad0,cs0,ty,k1,k2,k3,k4,k5,k6,_,k8⟩
 ·rw [Jr] at k1;cases k1
 rw [Jr] at k1;cases k1
 have hle:(k+1)*sz≤(kL g).cap*sz:=Nat.mul_le_mul_right _ (by have:=k5.1;omega)
 rw [Nat.add_mul,Nat.one_mul] at hle
 obtain ⟨w',c',r1,r2,r3,r4,r5,r6,r7,r8⟩:=rJ (Pg:=Pg) (htt _ _ ht) ad.block (ad.off+k*sz+off) hus Yu huo k3 (by omega)
 have hes1 :∀p∈es,st1.o p.2=st.o p.2:=by
  intro p hp
  have hpm:p.2∈es.map (·.2):=List.mem_map.2 ⟨p,hp,rfl⟩
  obtain ⟨a2,i2,s2,l2,z1,_⟩:=qe p hp
  by_cases e:p.2=g
  ·exfalso
   have hog:(st.aF (gs.map (Fw.aK st.o)) []).o g=st.o g:=by rw [fJ,if_neg hgg]
   have hlk:=l1.names g (by simp only [St.aF,List.contains_nil,Bool.false_or];exact h.ul g (by rw [←e,z1];simp))
   rw [o1,hog,←e,z1] at hlk
   rcases hlk with hlk | ⟨_,hlk⟩
   ·cases hlk
   ·exact hlk
  ·rw [oo1 _ e fun hk=>(ok1 _ hk).2.2 hpm,fJ,if_neg (hap _ hpm)]
 have hm:=h1.afF o1 Jr hk (off:=off) (ps:=ps) (us:=us) (by omega) (by omega) a' i' es iG hnd (fun p hp=>by
   obtain ⟨a2,i2,s2,l2,z1,z2⟩:=qe p hp
   exact ⟨a2,i2,s2,l2,by rw [hes1 p hp];exact z1,z2⟩) (fun j y u hy hu=>by
   have:=q2 j y u hy hu
   cases hc:ah.lookup (off+j) with
   |none=>rw [hc] at this;exact l1.jQ (this _ (fun g hg=>by rw [fJ,if_pos hg]) f1 f2)
   |some s=>
    rw [hc] at this
    obtain ⟨l',z1,z2⟩:=this
    refine ⟨l',z1,z2.imp id ?_⟩
    rintro ⟨e,a2,i2,y1,y2,y3,y4,y5⟩
    exact ⟨e,a2,i2,y1,by rw [hes1 _ y1];exact y2,y3,y4,by rw [(e1 e).1,(e1 e).2];exact y5⟩)
  (by rw [hpl];exact hh1) (by rw [hpl];exact hh2) hh3 w' r4 r5 r6 r7 r8 (fun c e hce=>by
   rw [k3] at hce;cases hce
   exact ⟨c',r2,r3⟩)
 obtain ⟨bD,m1,m2⟩:=hm
 have hst:st1.aF ((g,.aG (a1||a') (i1||i') sz ah (l.set k (aH (l.getD k []) off ps)) iG)::es.map fun p=>(p.2,O.none)) [] =
   st.aF ((g,.aG (a1||a') (i1||i') sz ah (l.set k (aH (l.getD k []) off ps)) iG)::kills (es.map (·.2))++kills ks++gs.map (Fw.aK st.o)) []:=by
  refine St.Cb s1 (fun z => ?_) (fun z=>by simp [St.aF,u1])
  have ek:(es.map fun p=>(p.2,O.none))=kills (es.map (·.2)):=by simp [kills]
  rw [ek]
  simp only [St.aF,List.cons_append,lookup_cons,zn,gI]
  by_cases z1:z=g
  ·simp only [if_pos z1]
  ·simp only [if_neg z1]
   by_cases z2:z∈es.map (·.2)
   ·simp only [if_pos z2,Option.some_or]
   ·simp only [if_neg z2,Option.none_or]
    by_cases z3:z∈ks
    ·simp only [if_pos z3,Option.some_or];exact (ok1 z z3).1
    ·simp only [if_neg z3,Option.none_or]
     rw [oo1 z z1 z3]
     rfl
 rw [hst] at m1 m2
 refine ⟨undef,w',bD,.inr ⟨?_,rfl⟩,m1,?_,.no _,fun g hg=>by simp [S.names] at hg⟩
 ·unfold execOp;rw [ho]
  refine Yp ?_
  rw [hv]
  simpa [Instr.storeAt,Instr.sureAddr] using r1
 ·exact Lets.trans (Lets.trans f2 l1 (fun g hg=>by simpa [St.aF] using hg)) m2 (fun g hg=>by rw [u1];exact hg)
theorem ah0 {o:Nat→O} {g:Nat} {a i:Bool} {sz:Nat} {ah:List (Nat×Nat)} {l:List (List P)} {hole:Option (Nat×Nat×Nat)} (h:o g=.aG a i sz ah l hole):(o g).hn=dh hole:=by rw [h];rfl
theorem LZ {g:Nat} {gs:List Nat} (hg:g∉gs) (hn :∀d∈(st.o g).hn,d∉gs):jg (st.aF (gs.map (Fw.aK st.o)) []).o g=jg st.o g:=by
 have e1:(st.aF (gs.map (Fw.aK st.o)) []).o g=st.o g:=by rw [fJ,if_neg hg]
 unfold jg
 rw [e1]
 cases ho:st.o g with
 |aG a i sz ah l hole=>
  rcases hole with _ | ⟨n,c,d⟩
  ·rfl
  ·simp only
   rw [fJ,if_neg (hn d (by rw [ho];simp [O.hn,dh]))]
 |_=>rfl
theorem L6 {dc:List (Nat×Nat)} (htt:gQ Pg tt) (t:TypeId) (x y:Operand):pO Pg tt dc (.store t x y):=by
 intro E st gh val w ρ F o d r ho h hF hFn hk hp hd
 simp only [dJ] at hk
 split at hk
 ·rename_i i g n off y' ht hx hy
  have rx:=hF x;rw [hx] at rx
  have ry:=hF y;rw [hy] at ry
  split at hk
  ·rename_i a0 i0 sz ah l0 hole hog
   split at hk
   ·rename_i ps a' i' gs es hD
    split at hk
    ·rename_i hc
     obtain ⟨hc1,hc2,hc3,hc4,hc5,hc6⟩:=hc
     have hgg:g∉gs:=fun hm=>by simp [hm] at hc4
     have hnd:=qM hc5
     have hap:=DW hc6
     have OA:(st.o g).dim=some (sz,l0.length):=by rw [hog];rfl
     obtain ⟨ad,k,had,rfl,hkl,hv⟩:=(by cases rx.cu with | ep _ _ _ _ _ hb=>exact hb _ _ OA :∃(ad:Addr) (k:Nat),(gh g).ad=some ad∧n=.int .i64 k∧k<l0.length∧ρ x=.pointer (some ⟨ad.block,ad.off+k*sz+off,none⟩))
     have en:(P.int .i64 (k:Int)).nat=k:=by simp [P.nat,P.num]
     have ogf:(st.aF (gs.map (Fw.aK st.o)) []).o g=.aG a0 i0 sz ah l0 hole:=by rw [fJ,if_neg hgg];exact hog
     obtain ⟨us,hus,Rq,huo,hur⟩:=ry.LM.cells hc3
     obtain ⟨_,q1,_,_⟩:=Ar h Rq.symm hur hD
     obtain ⟨f1,f2⟩:=Rel.freezes gs h q1
     have refl:Lets E (st.aF (gs.map (Fw.aK st.o)) []) (st.aF (gs.map (Fw.aK st.o)) []) gh gh w w:=⟨fun a i b hb=>⟨hb,rfl⟩,fun g _=>.inr ⟨⟨rfl,rfl⟩,O.eF _⟩⟩
     have home :∀(a i1:Bool) (l:List (List P)),jg st.o g=some (a,i1,sz,ah,l)→(∀d∈(st.o g).hn,d∉es.map (·.2)∧d∉gs)→
       ∃v w' bD,Does Pg (execOp ρ o) w v w'∧Rel E (st.aF ((g,.aG (a||a') (i1||i') sz ah (l.set k (aH (l.getD k []) off ps)) none)::kills (es.map (·.2))++kills (st.o g).hn++gs.map (Fw.aK st.o)) []) bD val w'∧Lets E st (st.aF ((g,.aG (a||a') (i1||i') sz ah (l.set k (aH (l.getD k []) off ps)) none)::kills (es.map (·.2))++kills (st.o g).hn++gs.map (Fw.aK st.o)) []) gh bD w w'∧cO E (st.aF ((g,.aG (a||a') (i1||i') sz ah (l.set k (aH (l.getD k []) off ps)) none)::kills (es.map (·.2))++kills (st.o g).hn++gs.map (Fw.aK st.o)) []) bD w' .no v∧∀g'∈S.names .no,(st.aF ((g,.aG (a||a') (i1||i') sz ah (l.set k (aH (l.getD k []) off ps)) none)::kills (es.map (·.2))++kills (st.o g).hn++gs.map (Fw.aK st.o)) []).used g'=true:=fun a i1 l hh hno=>by
      have hh':jg (st.aF (gs.map (Fw.aK st.o)) []).o g=some (a,i1,sz,ah,l):=by rw [LZ hgg fun d hd=>(hno d hd).2];exact hh
      have hhn:((st.aF (gs.map (Fw.aK st.o)) []).o g).hn=(st.o g).hn:=by rw [ogf,hog]
      obtain ⟨st1,kL,h1,l1,e1,es1,eu,eo,ek,en1⟩:=f1.home hh'
      rw [hhn] at ek en1
      have hll:=(Gu hog hh).2.2
      exact uy htt h ho ht ry.LM hc3 hc2 hv hc1 (by omega) hD hnd hap (st.o g).hn h1 l1 e1 (by rw [es1];rfl) (fun z=>by rw [eu];simp [St.aF]) eo had
       (fun d hd=>⟨(ek d hd).1,(ek d hd).2,(hno d hd).1⟩) en1 hgg (iG:=none) (fun _ _ _ _ _=>rfl) (fun _ _ _ _ _=>rfl) (fun d hd=>by cases hd)
     have over :∀n0 c0 d0,hole=some (n0,c0,d0)→off≤c0∧c0<off+i.size→n0=k→_:=fun n0 c0 d0 hho hcr hp=>
      uy htt h ho ht ry.LM hc3 hc2 hv hc1 hkl hD hnd hap [] f1 refl (fun _=>⟨rfl,rfl⟩) rfl (fun z=>by simp [St.aF]) ogf had (fun d hd=>by cases hd) (fun _ _ _=>rfl) hgg
       (iG:=none) (fun m j hne s hs=>by
        subst hho hp
        simp only [gu]
        rw [if_neg fun e=>hne ⟨e.1.symm,by omega,by omega⟩]) (fun _ _ _ _ _=>rfl) (fun d hd=>by cases hd)
     split at hk
     ·rename_i hci
      simp only [Option.some.injEq] at hk;subst hk
      have:=uy htt h ho ht ry.LM hc3 hc2 hv hc1 hkl hD hnd hap [] f1 refl (fun _=>⟨rfl,rfl⟩) rfl (fun z=>by simp [St.aF]) ogf had (fun d hd=>by cases hd) (fun _ _ _=>rfl) hgg
       (iG:=hole) (fun _ _ _ _ _=>rfl) (fun j s h1 h2 h3=>by rw [Gs hci h1 h2] at h3;cases h3) (fun d hd=>hd)
      rw [en];exact this
     ·split at hk
      ·simp only [Option.some.injEq] at hk;subst hk
       have:=uy htt h ho ht ry.LM hc3 hc2 hv hc1 hkl hD hnd hap [] f1 refl (fun _=>⟨rfl,rfl⟩) rfl (fun z=>by simp [St.aF]) ogf had (fun d hd=>by cases hd) (fun _ _ _=>rfl) hgg
        (iG:=none) (fun _ _ _ _ _=>rfl) (fun _ _ _ _ _=>rfl) (fun d hd=>hd)
       rw [en];exact this
      ·rename_i n0 c0 d0
       split at hk
       ·rename_i a i1 _ _ l hh
        split at hk
        ·rename_i hcc
         simp only [Option.some.injEq] at hk;subst hk
         obtain ⟨e1,e2,e3⟩:=Gu hog hh
         subst e1 e2
         have hhn:(st.o g).hn=[d0]:=by rw [ah0 hog];rfl
         have:=home a i1 l hh (fun d hd=>by
          rw [hhn,List.mem_singleton] at hd;subst hd
          exact ⟨fun hm=>by have:=hcc.1;simp only [List.contains_eq_mem,decide_eq_false_iff_not] at this;exact this hm,fun hm=>by have:=hcc.2;simp [hm] at this⟩)
         rw [hhn] at this
         rw [en];exact this
        ·split at hk
         ·rename_i hcr
          simp only [Option.some.injEq] at hk;subst hk
          have hp:n0=(P.int .i64 (k:Int)).nat:=hp
          rw [en] at hp
          rw [en];exact over n0 c0 d0 rfl hcr hp
         ·cases hk
       ·split at hk
        ·rename_i hcr
         simp only [Option.some.injEq] at hk;subst hk
         have hp:n0=(P.int .i64 (k:Int)).nat:=hp
         rw [en] at hp
         rw [en];exact over n0 c0 d0 rfl hcr hp
        ·cases hk
    ·cases hk
   ·cases hk
  ·cases hk
 ·cases hk
theorem Rel.YC (h:Rel E st gh val w) {d:Nat} (hd:st.used d=false) (a i:Bool) (sz:Nat) (ah:List (Nat×Nat)) (l:List (List P)) (c:Array Value) (t:TypeId) (cap:Nat) (hcap:l.length≤cap∧cap≤9223372036854775807) (hc:cap*sz≤c.size) (hrow :∀x∈l,x.length=sz)
  (es:List (Nat×Nat)) (hnd:(es.map (·.2)).Nodup) (hes :∀p∈es,∃a1 i1 s l',st.o p.2=.arr false a1 i1 s l'∧(i1=true→i=true))
  (hcell :∀(n:Nat) x,l[n]?=some x→∀(j:Nat) y,x[j]?=some y→∃v,c[n*sz+j]?=some v∧match ah.lookup j with
   |none=>bW w (E.ok st gh w a i) y v
   |some s=>PartOf st gh a i es s (n*sz+j) y v) :
  ∃bD,Rel E (st.aF ((d,.aG a i sz ah l none)::kills (es.map (·.2))) [d]) bD val { w with heap:=w.heap.push (.cells c t) }∧Lets E st (st.aF ((d,.aG a i sz ah l none)::kills (es.map (·.2))) [d]) gh bD w { w with heap:=w.heap.push (.cells c t) }∧
   (bD d).ad=some ⟨w.heap.size,0,none⟩ ∧(bD d).cap=cap:=by
 have heo :∀p∈es,(st.o p.2).bF=true:=fun p hp=>by obtain ⟨_,_,_,_,e,_⟩:=hes p hp;rw [e];rfl
 have hde:d∉es.map (·.2):=fun hm=>by
  obtain ⟨p,hp,e⟩:=List.mem_map.1 hm
  have:=h.ul p.2 (O.pG (heo p hp))
  rw [e,hd] at this;cases this
 let G:Gh:=⟨some ⟨w.heap.size,0,none⟩,cap,fun b=>(whose gh es b).map fun p=>(p.1/sz,p.1 % sz)⟩
 have hwb :∀b,(G.sub b).isSome=true→∃p∈es,∃ad,(gh p.2).ad=some ad∧ad.block=b:=fun b hb=>by
  cases hx:whose gh es b with
  |none=>simp [G,hx] at hb
  |some p=>exact ⟨p,uw hx⟩
 have hm:=h.gather (fun g=>g∈es.map (·.2)) hd a i sz ah l G (st.aF ((d,.aG a i sz ah l none)::kills (es.map (·.2))) [d]) { w with heap:=w.heap.push (.cells c t) } rfl (by simp [St.aF,lookup_cons])
  (fun g hg e=>by simp only [St.aF,lookup_cons,if_neg e,gI,if_pos hg]) (fun g hg e=>by simp only [St.aF,lookup_cons,if_neg e,gI,if_neg hg]) (fun g hg=>by simp [St.aF,hg]) (by simp [St.aF])
  (ad:=⟨w.heap.size,0,none⟩) (c:=c) (ty:=t) rfl rfl (by simp) (by simpa [G] using hc) hcap hrow (by
   cases hx:G.sub w.heap.size with
   |none=>rfl
   |some p=>
    obtain ⟨p,hp,ad,q1,q2⟩:=hwb w.heap.size (by rw [hx];rfl)
    have:=(h.wr p.2 w.heap.size (heo p hp) (.inl ⟨ad,q1,q2⟩)).2
    omega) (fun b hb=>by
   obtain ⟨p,hp,ad,q1,q2⟩:=hwb b hb
   refine ⟨⟨p.2,List.mem_map.2 ⟨p,hp,rfl⟩,heo p hp,.inl ⟨ad,q1,q2⟩⟩,?_⟩
   obtain ⟨_,_,_,_,e,_⟩:=hes p hp
   have hA:=h.aQ p.2
   rw [e] at hA
   rcases hA with ⟨q3,_⟩ | ⟨Ah,c2,e2,q3,_,q4,_⟩
   ·rw [q1] at q3;cases q3
   ·rw [q1] at q3;cases q3;rw [←q2];exact ⟨_,_,_,q4⟩)
  (.inr ⟨Nat.le_refl _,by simp⟩) (fun b hb _=>ug w _ b hb) (by simp) rfl rfl rfl (fun g i1 hg e1 hi=>by
   obtain ⟨p,hp,rfl⟩:=List.mem_map.1 hg
   obtain ⟨_,i2,_,_,e,hi2⟩:=hes p hp
   rw [e] at e1;cases e1;exact hi2 hi) (fun g hg _=>by
   obtain ⟨p,hp,rfl⟩:=List.mem_map.1 hg
   obtain ⟨_,i2,_,_,e,hi2⟩:=hes p hp
   exact ⟨i2,by rw [e];rfl⟩) (fun n x hx j y hy=>by
   obtain ⟨v,hv,hr⟩:=hcell n x hx j y hy
   refine ⟨v,by simpa using hv,?_⟩
   cases hcj:ah.lookup j with
   |none=>rw [hcj] at hr;exact hr
   |some s=>
    rw [hcj] at hr
    have hjs:j<sz:=by have:=(List.getElem?_eq_some_iff.1 hy).1;have:=hrow x (List.mem_of_getElem? hx);omega
    refine PartOf.ahY h hr fun p hp e ad had => ?_
    have:=JO h hnd heo hp had
    simp only [G,this,Option.map_some,e]
    have e1:(n*sz+j)/sz=n:=by rw [Nat.mul_comm,Nat.mul_add_div (by omega),Nat.div_eq_of_lt hjs,Nat.add_zero]
    have e2:(n*sz+j) % sz=j:=by rw [Nat.mul_comm,Nat.mul_add_mod,Nat.mod_eq_of_lt hjs]
    rw [e1,e2])
 exact ⟨_,hm.1,hm.2,by simp [eG,G],by simp [eG,G]⟩
theorem Cc {dc:List (Nat×Nat)} (htt:gQ Pg tt) (t:TypeId) (n c:Operand):pO Pg tt dc (.makeSlice t n c):=by
 intro E st gh val w ρ F o d r ho h hF hFn hk hp hd
 simp only [dJ] at hk
 split at hk
 ·rename_i e _ _ _ _ _ n' _ _ c' yM Ce ht hn hc
  split at hk
  ·rename_i ie he
   split at hk
   ·rename_i ps hps
    split at hk
    ·rename_i hpos
     simp only [Option.some.injEq] at hk;subst hk
     obtain ⟨m,k,rfl,rfl,hmk,hby,hkm⟩:=hp
     have hu:=(htt _ _ ht).kind
     simp only [nI] at hu
     have rn:=hF n;rw [hn] at rn
     have rc:=hF c;rw [hc] at rc
     obtain ⟨x,z,g1,g2,g3,g4,g5,g6⟩:=(htt _ _ he).info
     obtain ⟨hone,hl,hr⟩:=pI (E:=E) (st:=st) (gh:=gh) (w:=w) (htt _ _ he)
     have hzl:=(htt _ _ he).len
     obtain ⟨q0,q1,_,q2⟩:=Ar h hl hr hps
     have Fz:st.used d=false:=hd d (by simp)
     have hpl:ps.length=ie.size:=by rw [q0,hl,hzl]
     have e1:(P.int .i64 (m:Int)).nat=m:=by simp [P.nat,P.num]
     obtain ⟨bD,m1,m2,m3,m4⟩:=h.YC Fz false false ie.size (yM::Ce) (List.replicate m ps) (fD ie.zero k).toArray e k ⟨by simpa using hmk,by omega⟩ (by simp [dw,hzl]) (fun x hx=>by
       rw [List.mem_replicate] at hx;rw [hx.2,hpl]) [] List.nodup_nil (fun p hp=>by cases hp) (fun q x hx j y hy=>by
       rw [List.getElem?_replicate] at hx
       split at hx
       ·rename_i hq
        simp only [Option.some.injEq] at hx;subst hx
        have hj:j<ie.size:=by have:=(List.getElem?_eq_some_iff.1 hy).1;omega
        have hlt:q*ie.size+j<k*ie.zero.length:=by
         rw [hzl]
         have:(q+1)*ie.size≤k*ie.size:=Nat.mul_le_mul_right _ (by omega)
         rw [Nat.add_mul] at this;omega
        have hz':ie.zero[j]?=some ie.zero[j]:=List.getElem?_eq_getElem (by omega)
        refine ⟨ie.zero[j],?_,?_⟩
        ·simp only [List.getElem?_toArray]
         have hmod:(q*ie.size+j) % ie.zero.length=j:=by rw [hzl,Nat.mul_comm,Nat.mul_add_mod,Nat.mod_eq_of_lt hj]
         rw [gV _ _ _ hlt,hmod]
         exact hz'
        ·have:=q2 j y _ hy hz'
         rw [Nat.zero_add] at this
         cases hcj:(yM::Ce).lookup j with
         |none=>rw [hcj] at this;exact this st (by simp) h ⟨fun a i b hb=>⟨hb,rfl⟩,fun g _=>.inr ⟨⟨rfl,rfl⟩,O.eF _⟩⟩
         |some s=>
          rw [hcj] at this
          obtain ⟨l',z1,z2⟩:=this
          rcases z2 with z2 | ⟨_,_,_,z3,_⟩
          ·exact ⟨l',z1,.inl z2⟩
          ·cases z3
       ·cases hx)
     refine ⟨.slice (some ⟨w.heap.size,0,none⟩) m k,_,bD,.inl ?_,by simpa [e1,P.list,kills] using m1,by simpa [e1,P.list,kills] using m2,cO.F8 (.own d _ rfl fun sz' len' ho' => ?_),fun g hg => ?_⟩
     ·unfold execOp;rw [ho]
      refine fU ?_
      have hrun:=run_make (P:=Pg) w t e x z hu g1 g4 .i64 .i64 (m:Int) (k:Int) (by omega) (by omega) (by rw [g3];omega) (by omega)
      rw [rn.eH.dS,rc.eH.dS,hrun]
      have:=mQ g5 k (by rw [hzl];exact hpos)
      rw [hzl] at this
      simp only [Int.toNat_natCast,g2,madeCells,this]
     ·rw [e1] at ho'
      have Rw:(some (ie.size,m):Option (Nat×Nat))=some (sz',len'):=by
       rw [←ho'];simp [St.aF,List.lookup,O.dim,P.list]
      cases Rw
      rw [m3,m4]
     ·have hg:g∈(S.v (.one (.own d))).names:=hg
      rw [dF] at hg
      simp only [W.names,List.mem_singleton] at hg
      subst hg;simp [St.aF]
    ·cases hk
   ·cases hk
  ·cases hk
 ·cases hk
theorem Au {dc:List (Nat×Nat)} (htt:gQ Pg tt) (t:TypeId) (n:Nat) (parts:Array (Nat×Operand)):pO Pg tt dc (.buildSlice t n parts):=by
 intro E st gh val w ρ F o d r ho h hF hFn hk hp hd
 simp only [dJ] at hk
 split at hk
 ·rename_i e _ _ _ yM Ce ht
  split at hk
  ·rename_i ie he
   split at hk
   ·rename_i ws JM
    split at hk
    ·rename_i ps a i gs es hps
     split at hk
     ·rename_i hcc
      obtain ⟨hcap0,hnd,hap⟩:=hcc
      have hnd:=qM hnd
      have hap:=DW hap
      have hcap:n*ie.size≤16777216:=by omega
      simp only [Option.some.injEq] at hk;subst hk
      have hu:=(htt _ _ ht).kind
      simp only [nI] at hu
      obtain ⟨z,hz,hzc,_⟩:=jZ (Pg:=Pg) (w:=w) (htt _ _ he)
      obtain ⟨hone,hl,hr⟩:=pI (E:=E) (st:=st) (gh:=gh) (w:=w) (htt _ _ he)
      have hzl:=(htt _ _ he).len
      have hparts:(parts.map fun (p:Nat×Operand)=>(p.1,ρ p.2)).toList=parts.toList.map fun p=>(p.1,ρ p.2):=by simp
      obtain ⟨cs',h1,h2,h3,h4,h5⟩:=Ak (E:=E) (st:=st) (gh:=gh) (w:=w) (place':=fun i=>some (i*ie.size,ie.size)) (fun m p hpm=>by split at hpm;exact hpm;cases hpm) _ (parts.toList.map fun p=>(p.1,ρ p.2)) _ _
       (fD ie.zero n) (by simp) (fun j x v hx hv=>BU hF _ j x v hx hv) (by rw [dw,dw,hl]) (fun c hc=>by
        obtain ⟨j,hj⟩:=List.mem_iff_getElem?.1 hc
        have hlt:j<n*ie.zero.length:=by have:=(List.getElem?_eq_some_iff.1 hj).1;rwa [dw] at this
        rw [gV _ _ _ hlt] at hj
        exact hone c (List.mem_of_getElem? hj)) (fun j x u hx hu=>by
        have hlt:j<n*ie.zero.length:=by have:=(List.getElem?_eq_some_iff.1 hu).1;rwa [dw] at this
        rw [gV _ _ _ hlt] at hu
        rw [gV _ _ _ (by rw [hl];exact hlt),hl] at hx
        exact hr _ _ _ hx hu) JM
      obtain ⟨q0,q1,qe,q2⟩:=Ar h h2 h4 hps
      obtain ⟨f1,f2⟩:=Rel.freezes gs h q1
      have Fz:st.used d=false:=hd d (by simp)
      have hws:ws.length=n*ie.size:=by rw [h5,dw,hl,hzl]
      have afB:ps.length=n*ie.size:=by rw [q0,hws]
      have hfe :∀p∈es,(st.aF (gs.map (Fw.aK st.o)) []).o p.2=st.o p.2:=fun p hp=>by rw [fJ,if_neg (hap _ (List.mem_map.2 ⟨p,hp,rfl⟩))]
      obtain ⟨bD,m1,m2,m3,m4⟩:=f1.YC (d:=d) (by simpa [St.aF] using Fz) a i ie.size (yM::Ce) (chunks ie.size n ps) cs'.toArray e n ⟨by rw [gG];exact Nat.le_refl _,by omega⟩ (by simp;omega) (fun x hx=>by
        obtain ⟨m,hm⟩:=List.mem_iff_getElem?.1 hx
        have hlt:m<n:=by have:=(List.getElem?_eq_some_iff.1 hm).1;rwa [gG] at this
        rw [pJ _ _ _ _ hlt] at hm
        simp only [Option.some.injEq] at hm;subst hm
        simp [afB]
        have:(m+1)*ie.size≤n*ie.size:=Nat.mul_le_mul_right _ hlt
        rw [Nat.add_mul] at this;omega) es hnd (fun p hp=>by
        obtain ⟨a2,i2,s2,l2,z1,z2⟩:=qe p hp
        exact ⟨a2,i2,s2,l2,by rw [hfe p hp];exact z1,z2⟩) (fun m x hx j y hy=>by
        have hlt:m<n:=by have:=(List.getElem?_eq_some_iff.1 hx).1;rwa [gG] at this
        rw [pJ _ _ _ _ hlt] at hx
        simp only [Option.some.injEq] at hx;subst hx
        rw [List.getElem?_take] at hy
        split at hy
        ·rename_i hj
         rw [List.getElem?_drop] at hy
         have hlt2:m*ie.size+j<cs'.length:=by
          have:=(List.getElem?_eq_some_iff.1 hy).1;omega
         refine ⟨cs'[m*ie.size+j],by simp,?_⟩
         have:=q2 _ y _ hy (List.getElem?_eq_getElem hlt2)
         have em:(0+(m*ie.size+j)) % ie.size=j:=by rw [Nat.zero_add,Nat.mul_comm,Nat.mul_add_mod,Nat.mod_eq_of_lt hj]
         rw [em,Nat.zero_add] at this
         cases hcj:(yM::Ce).lookup j with
         |none=>rw [hcj] at this;exact this _ (fun g hg=>by rw [fJ,if_pos hg]) f1 f2
         |some s=>
          rw [hcj] at this
          obtain ⟨l',z1,z2⟩:=this
          refine ⟨l',z1,z2.imp id ?_⟩
          rintro ⟨e,a2,i2,y1,y2,y3,y4,y5⟩
          exact ⟨e,a2,i2,y1,by rw [hfe _ y1];exact y2,y3,y4,y5⟩
        ·cases hy)
      have hst:(st.aF (gs.map (Fw.aK st.o)) []).aF ((d,.aG a i ie.size (yM::Ce) (chunks ie.size n ps) none)::kills (es.map (·.2))) [d]=st.aF ((d,.aG a i ie.size (yM::Ce) (chunks ie.size n ps) none)::kills (es.map (·.2))++gs.map (Fw.aK st.o)) [d]:=by
       refine St.Cb rfl (fun z => ?_) (fun z=>by simp [St.aF])
       simp only [St.aF,List.cons_append,lookup_cons,zn,gI]
       by_cases z1:z=d
       ·simp only [if_pos z1]
       ·simp only [if_neg z1]
        by_cases z2:z∈es.map (·.2)
        ·simp only [if_pos z2,Option.some_or]
        ·simp only [if_neg z2,Option.none_or]
      rw [hst] at m1 m2
      refine ⟨.slice (some ⟨w.heap.size,0,none⟩) n n,_,bD,.inl ?_,m1,Lets.trans f2 m2 (fun g hg=>by simpa [St.aF] using hg),cO.F8 (.own d _ rfl fun sz' len' ho' => ?_),fun g hg => ?_⟩
      ·unfold execOp;rw [ho]
       refine fU ?_
       have hle:¬ n*ie.size>2 ^ 24:=by omega
       have fin :∀Z:Array Value,(Array.range (n*ie.size)).map (fun i=>Z[i % Z.size]!)=(fD ie.zero n).toArray→
         Instr.fill (fun i=>some (i*ie.size,ie.size)) ((Array.range (n*ie.size)).map fun i=>Z[i % Z.size]!) (parts.map fun (p:Nat×Operand)=>(p.1,ρ p.2)).toList=some cs'.toArray:=by
        intro Z hZ;rw [hZ,hparts,h1]
       by_cases h0:n*ie.size=0
       ·have e0:fD ie.zero n=[]:=List.eq_nil_of_length_eq_zero (by rw [dw,hzl,h0])
        have e1:=fin #[] (by rw [h0,e0];simp)
        simp only [Instr.buildSlice,Sem.run_bind,dQ hu,Result.andThen_ok,dL (htt _ _ he),if_neg hle,if_pos h0,Sem.run_pure]
        simp only [e1]
        simp [newRow]
       ·have hpos:0<ie.zero.length:=by rw [hzl];rcases Nat.eq_zero_or_pos ie.size with h | h;(rw [h] at h0;simp at h0);exact h
        have e1:=fin z.cells (by have:=mQ hzc n hpos;rw [hzl] at this;exact this)
        simp only [Instr.buildSlice,Sem.run_bind,dQ hu,Result.andThen_ok,dL (htt _ _ he),if_neg hle,if_neg h0,hz,Sem.run_pure]
        simp only [e1]
        simp [newRow]
      ·have Rw:(some (ie.size,n):Option (Nat×Nat))=some (sz',len'):=by
        rw [←ho'];simp [St.aF,List.lookup,O.dim,P.list,gG]
       cases Rw
       rw [m3,m4]
      ·have hg:g∈(S.v (.one (.own d))).names:=hg
       rw [dF] at hg
       simp only [W.names,List.mem_singleton] at hg
       subst hg;simp [St.aF]
     ·cases hk
    ·cases hk
   ·cases hk
  ·cases hk
 ·cases hk
def yc (gh:Nat→Gh):Option Nat→Nat→Option (Nat×Nat)
 |some g,b=>(gh g).sub b
 |none,_=>none
theorem OD (h:Rel E st gh val w) {d g2:Nat} (hd:st.used d=false) {a i a2 i2:Bool} {sz:Nat} {ah:List (Nat×Nat)} {old new:List (List P)} {base:Option Nat} {bad:Option Addr} {uz m:Nat}
  (hb:(base=none∧bad=none∧uz=0∧m=0∧old=[])∨∃g l,base=some g∧st.o g=.aG a i sz ah l none∧bad=(gh g).ad∧(m≤uz∧uz≤(gh g).cap)∧m≤l.length∧old=l.take m∧g≠g2)
  (ho2:st.o g2=.aG a2 i2 sz ah new none)
  {ts:Array TypeId} {ty sT xT e e':TypeId} {ie:TI} (h0:ts[0]?=some sT) (h1:ts[1]?=some xT) (hs:Pg.underlying sT=some (.slice e)) (hxt:Pg.underlying xT=some (.slice e')) (he:oJ Pg e ie) (hsz:sz=ie.size)
  (hbb:(m+new.length)*ie.bytes≤140737488355328) (hb0:ie.bytes≠0) :
  ∃v w' bD,(Builtin.append_ ts ty #[.slice bad m uz,.slice (gh g2).ad new.length (gh g2).cap]).run Pg w=.ok v w'∧Rel E (st.aF ((d,.aG (a||a2) (i||i2) sz ah (old++new) none)::kills (base.toList++[g2])) [d]) bD val w'∧
   Lets E st (st.aF ((d,.aG (a||a2) (i||i2) sz ah (old++new) none)::kills (base.toList++[g2])) [d]) gh bD w w'∧v=.slice (bD d).ad (old++new).length (bD d).cap:=by
 subst hsz
 have ca:a=true→(a||a2)=true:=by simp;exact fun h=>.inl h
 have ci:i=true→(i||i2)=true:=by simp;exact fun h=>.inl h
 have ca2:a2=true→(a||a2)=true:=by simp;exact fun h=>.inr h
 have ci2:i2=true→(i||i2)=true:=by simp;exact fun h=>.inr h
 have hnd :∀g,st.o g≠.none→g≠d:=fun g hg e=>by rw [←e,h.ul g hg] at hd;cases hd
 have ali:g2≠d:=hnd g2 (by rw [ho2];simp)
 have ab2:(st.o g2).bF=true:=by rw [ho2];rfl
 have hol:old.length=m:=by
  rcases hb with ⟨_,_,_,rfl,rfl⟩ | ⟨g,l,_,_,_,_,hm,rfl,_⟩
  ·rfl
  ·simp;omega
 have hlen:(old++new).length=m+new.length:=by rw [List.length_append,hol]
 have hbS :∀g,g∈base.toList++[g2]→g≠d∧(st.o g).bF=true∧∃a0 i0 l0,st.o g=.aG a0 i0 ie.size ah l0 none∧(i0=true→(i||i2)=true):=by
  intro g hg
  rcases List.mem_append.1 hg with hg | hg
  ·rcases hb with ⟨rfl,_⟩ | ⟨g',l,rfl,hog,_⟩
   ·simp at hg
   ·simp at hg;subst hg
    exact ⟨hnd g (by rw [hog];simp),by rw [hog];rfl,a,i,l,hog,ci⟩
  ·rw [List.mem_singleton] at hg;subst hg
   exact ⟨ali,ab2,a2,i2,new,ho2,ci2⟩
 let sub:Nat→Option (Nat×Nat):=fun b=>match (gh g2).sub b with
  |some (n,j)=>some (n+m,j)
  |none=>yc gh base b
 have ah1 :∀b,(yc gh base b).isSome=true→(gh g2).has b→False:=fun b h1 h2=>by
  rcases hb with ⟨rfl,_⟩ | ⟨g,l,rfl,hog,_,_,_,_,hne⟩
  ·cases h1
  ·exact hne (h.inj g g2 b (by rw [hog];rfl) ab2 (.inr h1) h2)
 have hsub :∀b,(sub b).isSome=true→(∃g,g∈base.toList++[g2]∧(st.o g).bF=true∧((gh g).sub b).isSome=true):=fun b hbs=>by
  cases hx:(gh g2).sub b with
  |some p=>exact ⟨g2,by simp,ab2,by rw [hx];rfl⟩
  |none=>
   simp only [sub,hx] at hbs
   rcases hb with ⟨rfl,_⟩ | ⟨g,l,rfl,hog,_⟩
   ·cases hbs
   ·exact ⟨g,by simp,by rw [hog];rfl,hbs⟩
 have YD :∀g,g∈base.toList++[g2]→∀b,((gh g).sub b).isSome=true→∃c e f,w.heap[b]?=some (.cells c e f):=fun g hg b hbs=>by
  obtain ⟨_,_,a0,i0,l0,hog,_⟩:=hbS g hg
  have hD:=h.aQ g
  rw [hog] at hD
  rcases hD with ⟨_,_,_,q⟩ | ⟨_,_,_,_,_,_,_,_,_,⟨_,q⟩,_⟩
  ·rw [q b] at hbs;cases hbs
  ·exact q b hbs
 have ah2 :∀(G:Gh),G.sub=sub→∀n j y u,g_ E st gh w a2 i2 (gh g2) ah none n j y u→match ah.lookup j with
   |none=>bW w (E.ok st gh w (a||a2) (i||i2)) y u
   |some s=>yH E st gh w (a||a2) (i||i2) G s (n+m) j y u:=by
  intro G hG n j y u hr
  unfold g_ at hr
  cases hc:ah.lookup j with
  |none=>rw [hc] at hr;exact hr.cls ca2 ci2
  |some s=>
   rw [hc] at hr
   simp only [gu] at hr
   obtain ⟨l',ao,k,q1,q2,q3,q4⟩:=hr.cls ca2 ci2
   exact ⟨l',ao,k,q1,q2,q3,fun ad had=>by rw [hG];simp only [sub,q4 ad had]⟩
 have ah3 :∀(G:Gh),G.sub=sub→∀g,base=some g→∀n j y u,g_ E st gh w a i (gh g) ah none n j y u→match ah.lookup j with
   |none=>bW w (E.ok st gh w (a||a2) (i||i2)) y u
   |some s=>yH E st gh w (a||a2) (i||i2) G s n j y u:=by
  intro G hG g hgb n j y u hr
  unfold g_ at hr
  cases hc:ah.lookup j with
  |none=>rw [hc] at hr;exact hr.cls ca ci
  |some s=>
   rw [hc] at hr
   simp only [gu] at hr
   obtain ⟨l',ao,k,q1,q2,q3,q4⟩:=hr.cls ca ci
   refine ⟨l',ao,k,q1,q2,q3,fun ad had => ?_⟩
   have hq:=q4 ad had
   have hb1:(yc gh base ad.block).isSome=true:=by rw [hgb];simp only [yc,hq];rfl
   rw [hG]
   cases hx:(gh g2).sub ad.block with
   |some p=>exact (ah1 ad.block hb1 (.inr (by rw [hx];rfl))).elim
   |none=>simp only [sub,hx,hgb,yc];exact hq
 have hD2:lJ E st gh w a2 i2 ie.size ah new none (gh g2):=by have:=h.aQ g2;rw [ho2] at this;exact this
 have ah4 :∀X:O,∀g,g∈base.toList++[g2]→g≠d→(st.aF ((d,X)::kills (base.toList++[g2])) [d]).o g=.none:=fun X g hg e=>by simp only [St.aF,lookup_cons,if_neg e,gI,if_pos hg]
 have ah5 :∀X:O,∀g,¬ g∈base.toList++[g2]→g≠d→(st.aF ((d,X)::kills (base.toList++[g2])) [d]).o g=st.o g:=fun X g hg e=>by simp only [St.aF,lookup_cons,if_neg e,gI,if_neg hg]
 by_cases qK:m+new.length≤uz
 ·obtain ⟨c2,hc2,hl2,ah6,hr2,hcell2⟩:=zh (Pg:=Pg) hD2 new.length (Nat.le_refl _)
  rcases hb with ⟨rfl,rfl,rfl,rfl,rfl⟩ | ⟨g,l,rfl,hog,rfl,hbc,hm,rfl,ah7⟩
  ·have hn0:new=[]:=List.eq_nil_of_length_eq_zero (by omega)
   subst hn0
   have hk:=h.kill g2
   have hmk:=Rel.LD hk.1 d (by simpa [St.aF] using hd) (.aG (a||a2) (i||i2) ie.size ah [] none) (.inl ⟨rfl,rfl,rfl,fun _=>rfl⟩) (fun g hg=>by simp [O.names,dh] at hg)
   have hst:(st.aF [(g2,.none)] []).aF [(d,.aG (a||a2) (i||i2) ie.size ah [] none)] [d]=st.aF ((d,.aG (a||a2) (i||i2) ie.size ah ([]++[]) none)::kills ((none:Option Nat).toList++[g2])) [d]:=by
    refine St.Cb rfl (fun z => ?_) (fun z=>by simp [St.aF])
    simp only [St.aF,lookup_cons,gI,Option.toList,List.nil_append,List.mem_singleton,List.lookup_nil]
    by_cases z1:z=d
    ·simp only [if_pos z1]
    ·simp only [if_neg z1]
   rw [hst] at hmk
   refine ⟨.slice none (0+0) 0,w,_,jO h0 h1 hs hxt he hc2 (by simp) (fun a ha=>by cases ha) (fun _=>rfl),hmk.1,Lets.trans hk.2 hmk.2 (fun g hg=>by simpa [St.aF] using hg),by simp [eG,Gh.nil]⟩
  ·have hD:lJ E st gh w a i ie.size ah l none (gh g):=by have:=h.aQ g;rw [hog] at this;exact this
   have hgo:(st.o g).bF=true:=by rw [hog];rfl
   rcases hD with ⟨z1,z2,z3,z4⟩ | ⟨ad,c,e0,z1,z2,z3,z4,z5,z6,⟨z7,z7'⟩,z8⟩
   ·subst z3
    have hm0:m=0:=by simpa using hm
    subst hm0
    have hn0:new=[]:=List.eq_nil_of_length_eq_zero (by omega)
    subst hn0
    have hk:=h.kill g
    have hk2:=hk.1.kill g2
    have hmk:=Rel.LD hk2.1 d (by simpa [St.aF] using hd) (.aG (a||a2) (i||i2) ie.size ah [] none) (.inl ⟨rfl,rfl,rfl,fun _=>rfl⟩) (fun g hg=>by simp [O.names,dh] at hg)
    have hst:((st.aF [(g,.none)] []).aF [(g2,.none)] []).aF [(d,.aG (a||a2) (i||i2) ie.size ah [] none)] [d]=st.aF ((d,.aG (a||a2) (i||i2) ie.size ah (([]:List (List P)).take 0++[]) none)::kills ((some g:Option Nat).toList++[g2])) [d]:=by
     refine St.Cb rfl (fun z => ?_) (fun z=>by simp [St.aF])
     simp only [St.aF,lookup_cons,gI,Option.toList,List.cons_append,List.nil_append,List.mem_cons,List.not_mem_nil,or_false,List.lookup_nil]
     by_cases z1:z=d
     ·simp only [if_pos z1];rfl
     ·simp only [if_neg z1]
      by_cases z2:z=g2
      ·simp [z2]
      ·simp only [if_neg z2]
       by_cases z3:z=g
       ·simp [z3]
       ·simp [z2,z3]
    rw [hst] at hmk
    have afE:uz=0:=by omega
    subst afE
    refine ⟨.slice none (0+0) 0,w,_,by rw [z1];exact jO h0 h1 hs hxt he hc2 (by simp) (fun a ha=>by cases ha) (fun _=>rfl),hmk.1,Lets.trans (Lets.trans hk.2 hk2.2 (fun g hg=>by simpa [St.aF] using hg)) hmk.2 (fun g hg=>by simpa [St.aF] using hg),by simp [eG,Gh.nil]⟩
   ·have ald:m*ie.size+new.length*ie.size≤(gh g).cap*ie.size:=by rw [←Nat.add_mul];exact Nat.mul_le_mul_right _ (Nat.le_trans qK hbc.2)
    have hbz:uz*ie.size≤(gh g).cap*ie.size:=Nat.mul_le_mul_right _ hbc.2
    obtain ⟨b0,o0,sp0⟩:=ad
    simp only at z2 z3 z4 z7 z8;subst z2
    obtain ⟨w',c',s1,s2,s3,s4,s5,s6,s7,s8⟩:=jJ (Pg:=Pg) b0 (o0+m*ie.size) e0 c2 0 w c z3 ah6 (by omega)
    have wE:c'.size=c.size:=by
     have:=congrArg List.length s3
     rw [dG (by simp;omega)] at this;simpa using this
    let G:Gh:=⟨some ⟨b0,o0,none⟩,uz,sub⟩
    have hn2:¬ (gh g2).has b0:=fun hb=>ah7 (h.inj g g2 b0 hgo ab2 (Gh.jq z1) hb)
    have hget :∀q:Nat,c'[q]?=(aH c.toList (o0+m*ie.size) c2)[q]?:=fun q=>by rw [←Array.getElem?_toList,s3,Nat.add_zero]
    have hga:=h.gather (fun g'=>g'∈(some g:Option Nat).toList++[g2]) hd (a||a2) (i||i2) ie.size ah (l.take m++new) G (st.aF ((d,.aG (a||a2) (i||i2) ie.size ah (l.take m++new) none)::kills ((some g:Option Nat).toList++[g2])) [d]) w' rfl (by simp [St.aF,lookup_cons])
     (ah4 _) (ah5 _) (fun g hg=>by simp [St.aF,hg]) (by simp [St.aF]) (ad:=⟨b0,o0,none⟩) (c:=c') (ty:=e0) rfl rfl s2 (by rw [wE];simp only [G];omega) ⟨by rw [hlen];exact qK,by simp only [G];have:=z5.2;omega⟩ (fun x hx=>by
      rcases List.mem_append.1 hx with hx | hx
      ·exact z6 x (List.mem_of_mem_take hx)
      ·exact hr2 x hx) (by
      show sub b0=none
      cases hx:(gh g2).sub b0 with
      |some p=>exact (hn2 (.inr (by rw [hx];rfl))).elim
      |none=>simp only [sub,hx,yc];exact z7) (fun b hb=>by
      obtain ⟨g',q1,q2,q3⟩:=hsub b hb
      exact ⟨⟨g',q1,q2,.inr q3⟩,YD g' q1 b q3⟩) (.inl ⟨g,by simp,hgo,Gh.jq z1⟩) (fun b _ hne=>s4 b hne) (by omega) s6 s7 s8
     (fun g' i1 hg' e1 hi=>by obtain ⟨_,_,a0,i0,l0,hq,hi0⟩:=hbS g' hg';rw [hq] at e1;cases e1;exact hi0 hi) (fun g' hg' _=>by obtain ⟨_,_,a0,i0,l0,hq,_⟩:=hbS g' hg';exact ⟨i0,by rw [hq];rfl⟩)
     (fun n x hx j y hy=>by
      rw [List.getElem?_append] at hx
      split at hx
      ·rename_i hn
       have hnm:n<m:=by simp at hn;omega
       rw [List.getElem?_take,if_pos hnm] at hx
       obtain ⟨v,hv,Yv⟩:=z8 n x hx j y hy
       have hj:j<ie.size:=by have:=(List.getElem?_eq_some_iff.1 hy).1;have:=z6 x (List.mem_of_getElem? hx);omega
       have:(n+1)*ie.size≤m*ie.size:=Nat.mul_le_mul_right _ hnm
       rw [Nat.add_mul,Nat.one_mul] at this
       exact ⟨v,by rw [hget,dM (by simp;omega),if_neg (by show ¬ (_∧_);simp only;omega)];simpa using hv,ah3 G rfl g rfl n j y v Yv⟩
      ·rename_i hn
       have hlm:(l.take m).length=m:=by simp;omega
       rw [hlm] at hx hn
       obtain ⟨u,hu,hur⟩:=hcell2 _ x (by have:=(List.getElem?_eq_some_iff.1 hx).1;omega) hx j y hy
       have Rq:=(List.getElem?_eq_some_iff.1 hu).1
       have hnm:n*ie.size=m*ie.size+(n-m)*ie.size:=by rw [←Nat.add_mul];congr 1;omega
       refine ⟨u,?_,?_⟩
       ·have e1:o0+n*ie.size+j-(o0+m*ie.size)=(n-m)*ie.size+j:=by omega
        rw [hget,dM (by simp;omega),if_pos (by simp only;omega),e1];exact hu
       ·have:=ah2 G rfl (n-m) j y u hur
        have e2:n-m+m=n:=by omega
        rw [e2] at this;exact this)
    refine ⟨_,w',_,jO h0 h1 hs hxt he hc2 qK (fun a ha => ?_) (fun hn=>by rw [z1] at hn;cases hn),hga.1,hga.2,by rw [hlen];simp [eG,G,z1]⟩
    rw [z1] at ha;cases ha
    rw [Addr.gU]
    simpa using s1
 ·have hd1:=h.drew (w.drawn+1)
  have hl1:Lets E st st gh gh w { w with drawn:=w.drawn+1 }:=Rel.BZ _
  have alj:lJ E st gh { w with drawn:=w.drawn+1 } a2 i2 ie.size ah new none (gh g2):=by have:=hd1.aQ g2;rw [ho2] at this;exact this
  obtain ⟨c2,hc2,hl2,ah6,hr2,hcell2⟩:=zh (Pg:=Pg) alj new.length (Nat.le_refl _)
  have hbase :∃c1:List Value,(Builtin.firstCells ie.size m (.slice bad m uz)).run Pg { w with drawn:=w.drawn+1 }=.ok c1.toArray { w with drawn:=w.drawn+1 }∧c1.length=m*ie.size∧(∀x∈old,x.length=ie.size)∧
    ∀(n:Nat) x,old[n]?=some x→∀(j:Nat) y,x[j]?=some y→∃u,c1[n*ie.size+j]?=some u∧∃g,base=some g∧g_ E st gh { w with drawn:=w.drawn+1 } a i (gh g) ah none n j y u:=by
   rcases hb with ⟨rfl,rfl,rfl,rfl,rfl⟩ | ⟨g,l,rfl,hog,rfl,hbc,hm,rfl,ah7⟩
   ·exact ⟨[],by simp [Builtin.firstCells],by simp,by simp,by simp⟩
   ·have hD:lJ E st gh { w with drawn:=w.drawn+1 } a i ie.size ah l none (gh g):=by have:=hd1.aQ g;rw [hog] at this;exact this
    obtain ⟨c1,k1,k2,k3,k4,k5⟩:=zh (Pg:=Pg) hD m hm
    rw [wF _ _ _ _ _ uz] at k1
    refine ⟨c1,k1,k2,fun x hx=>k4 x (List.mem_of_mem_take hx),fun n x hx j y hy => ?_⟩
    rw [List.getElem?_take] at hx
    split at hx
    ·rename_i hn
     obtain ⟨u,q1,q2⟩:=k5 n x hn hx j y hy
     exact ⟨u,q1,g,rfl,q2⟩
    ·cases hx
  obtain ⟨c1,hc1,Yx,hr1,hcell1⟩:=hbase
  have hback:Lets E st st gh gh { w with drawn:=w.drawn+1 } w:=⟨fun a i b hb=>⟨hb,rfl⟩,fun g _=>.inr ⟨⟨rfl,rfl⟩,O.eF _⟩⟩
  obtain ⟨rest,newCap,k1,k2,k3⟩:=pK (ty:=ty) h0 h1 hs hxt he hc2 hc1 qK hbb hb0
  let G:Gh:=⟨some ⟨w.heap.size,0,none⟩,newCap,sub⟩
  have hga:=h.gather (fun g'=>g'∈base.toList++[g2]) hd (a||a2) (i||i2) ie.size ah (old++new) G (st.aF ((d,.aG (a||a2) (i||i2) ie.size ah (old++new) none)::kills (base.toList++[g2])) [d])
   { w with drawn:=w.drawn+1,heap:=w.heap.push (.cells (c1.toArray++c2.toArray++rest) e) } rfl (by simp [St.aF,lookup_cons])
   (ah4 _) (ah5 _) (fun g hg=>by simp [St.aF,hg]) (by simp [St.aF]) (ad:=⟨w.heap.size,0,none⟩) (c:=c1.toArray++c2.toArray++rest) (ty:=e) rfl rfl (by simp) (by
    simp only [Array.size_append,List.size_toArray,Yx,hl2,k2,G]
    rw [←Nat.add_mul,←Nat.add_mul,Nat.zero_add];exact Nat.mul_le_mul_right _ (by omega)) ⟨by rw [hlen];exact k1.1,k1.2⟩ (fun x hx=>by
    rcases List.mem_append.1 hx with hx | hx
    ·exact hr1 x hx
    ·exact hr2 x hx) (by
    show sub w.heap.size=none
    cases hx:sub w.heap.size with
    |none=>rfl
    |some p=>
     obtain ⟨g',q1,q2,q3⟩:=hsub w.heap.size (by rw [hx];rfl)
     have:=(h.wr g' _ q2 (.inr q3)).2
     omega) (fun b hb=>by
    obtain ⟨g',q1,q2,q3⟩:=hsub b hb
    exact ⟨⟨g',q1,q2,.inr q3⟩,YD g' q1 b q3⟩) (.inr ⟨Nat.le_refl _,by simp⟩) (fun b hb _=>ug w _ b hb) (by simp) rfl rfl rfl
   (fun g' i1 hg' e1 hi=>by obtain ⟨_,_,a0,i0,l0,hq,hi0⟩:=hbS g' hg';rw [hq] at e1;cases e1;exact hi0 hi) (fun g' hg' _=>by obtain ⟨_,_,a0,i0,l0,hq,_⟩:=hbS g' hg';exact ⟨i0,by rw [hq];rfl⟩)
   (fun n x hx j y hy=>by
    rw [List.getElem?_append] at hx
    split at hx
    ·rename_i hn
     obtain ⟨u,q1,g,q2,q3⟩:=hcell1 n x hx j y hy
     have hlt:=(List.getElem?_eq_some_iff.1 q1).1
     refine ⟨u,?_,ah3 G rfl g q2 n j y u (hback.Yo (fun _ _=>rfl) (fun g hg=>by cases hg) q3)⟩
     rw [Nat.zero_add,Array.getElem?_append_left (by simp;omega),Array.getElem?_append_left (by simpa using hlt)]
     simpa using q1
    ·rename_i hn
     rw [hol] at hx hn
     obtain ⟨u,hu,hur⟩:=hcell2 _ x (by have:=(List.getElem?_eq_some_iff.1 hx).1;omega) hx j y hy
     have Rq:=(List.getElem?_eq_some_iff.1 hu).1
     have hnm:n*ie.size=m*ie.size+(n-m)*ie.size:=by rw [←Nat.add_mul];congr 1;omega
     refine ⟨u,?_,?_⟩
     ·rw [Nat.zero_add,Array.getElem?_append_left (by simp;omega),Array.getElem?_append_right (by simp;omega)]
      simp only [List.size_toArray,List.getElem?_toArray]
      have e1:n*ie.size+j-c1.length=(n-m)*ie.size+j:=by omega
      rw [e1];exact hu
     ·have:=ah2 G rfl (n-m) j y u (hback.Yo (fun _ _=>rfl) (fun g hg=>by cases hg) hur)
      have e2:n-m+m=n:=by omega
      rw [e2] at this;exact this)
  exact ⟨_,_,_,k3,hga.1,hga.2,by rw [hlen];simp [eG,G]⟩
theorem lU {o o':Nat→O} {g:Nat} (h:Agree o o' g):jg o g=jg o' g:=by
 obtain ⟨h1,h2⟩:=h
 unfold jg
 rw [←h1]
 cases ho:o g with
 |aG a i sz ah l hole=>
  rcases hole with _ | ⟨n,c,d⟩
  ·rfl
  ·simp only
   rw [h2 d (by rw [ho];simp [O.hn,dh])]
 |_=>rfl
theorem wH (htt:gQ Pg tt) (h:Rel E st gh val w) {o:Oper} {ρ:Operand→Value} {s x:Operand} {ts:Array TypeId} (ho:o.op=.call { callee:=.builtin .append,args:=#[s,x],argTypes:=ts }) {d g2:Nat} (hd:st.used d=false)
  {sT xT e e':TypeId} {ie:TI} (h0:ts[0]?=some sT) (h1:ts[1]?=some xT) (hs:Pg.underlying sT=some (.slice e)) (hxt:Pg.underlying xT=some (.slice e')) (he:oJ Pg e ie) (hb0:ie.bytes≠0)
  {a i a2 i2:Bool} {sz:Nat} {ah:List (Nat×Nat)} {old new:List (List P)} {base:Option Nat} {bad:Option Addr} {uz m:Nat} (hsz:sz=ie.size)
  {st1:St} {kL:Nat→Gh} (ks:List Nat) (h1':Rel E st1 kL val w) (l1:Lets E st st1 gh kL w w) (e1 :∀x,(kL x).ad=(gh x).ad∧(kL x).cap=(gh x).cap) (s1:st1.s=st.s) (u1 :∀x,st1.used x=st.used x)
  (hb:(base=none∧bad=none∧uz=0∧m=0∧old=[]∧ks=[])∨∃g l,base=some g∧st1.o g=.aG a i sz ah l none∧bad=(gh g).ad∧(m≤uz∧uz≤(gh g).cap)∧m≤l.length∧old=l.take m∧ks=g::(st.o g).hn)
  (ok1 :∀x∈ks,(∀g,base=some g→x≠g)→st1.o x=.none) (oo1 :∀x,x∉ks→st1.o x=st.o x) (hnd:(ks++g2::(st.o g2).hn).Nodup)
  (h2:jg st.o g2=some (a2,i2,sz,ah,new)) (hvs:ρ s=.slice bad m uz) (Yy:ρ x=.slice (gh g2).ad new.length (gh g2).cap) (hbb:(m+new.length)*ie.bytes≤140737488355328) :
  ∃v w' bD,Does Pg (execOp ρ o) w v w'∧Rel E (st.aF ((d,.aG (a||a2) (i||i2) sz ah (old++new) none)::kills (ks++g2::(st.o g2).hn)) [d]) bD val w'∧
   Lets E st (st.aF ((d,.aG (a||a2) (i||i2) sz ah (old++new) none)::kills (ks++g2::(st.o g2).hn)) [d]) gh bD w w'∧
   cO E (st.aF ((d,.aG (a||a2) (i||i2) sz ah (old++new) none)::kills (ks++g2::(st.o g2).hn)) [d]) bD w' (.v (.one (.own d))) v∧
   ∀g∈(S.v (.one (.own d))).names,(st.aF ((d,.aG (a||a2) (i||i2) sz ah (old++new) none)::kills (ks++g2::(st.o g2).hn)) [d]).used g=true:=by
 have hdis :∀x∈ks,x∉g2::(st.o g2).hn:=fun x hx hx'=>by
  have:=(List.nodup_append.1 hnd).2.2 x hx x hx'
  exact this rfl
 have hag:Agree st.o st1.o g2:=⟨(oo1 g2 fun hm=>hdis g2 hm (by simp)).symm,fun d' hd'=>(oo1 d' fun hm=>hdis d' hm (by simp [hd'])).symm⟩
 have h2':jg st1.o g2=some (a2,i2,sz,ah,new):=by rw [←lU hag];exact h2
 obtain ⟨st2,wC,r2,l2,e2,s2,u2,o2,ok2,oo2⟩:=h1'.home h2'
 rw [←hag.1] at ok2 oo2
 have hb2:(base=none∧bad=none∧uz=0∧m=0∧old=[])∨∃g l,base=some g∧st2.o g=.aG a i sz ah l none∧bad=(wC g).ad∧(m≤uz∧uz≤(wC g).cap)∧m≤l.length∧old=l.take m∧g≠g2:=by
  rcases hb with ⟨q1,q2,q3,q4,q5,_⟩ | ⟨g,l,q1,q2,q3,q4,q5,q6,q7⟩
  ·exact .inl ⟨q1,q2,q3,q4,q5⟩
  ·have hgk:=hdis g (by rw [q7];simp)
   have hg2:g≠g2:=fun e=>hgk (by rw [e];simp)
   refine .inr ⟨g,l,q1,?_,by rw [(e2 g).1,(e1 g).1];exact q3,by rw [(e2 g).2,(e1 g).2];exact q4,q5,q6,hg2⟩
   rw [oo2 g hg2 fun hm=>hgk (by simp [hm])];exact q2
 obtain ⟨v,w',bD,k1,k2,k3,k4⟩:=OD (d:=d) (ty:=o.type) r2 (by rw [u2,u1];exact hd) hb2 o2 h0 h1 hs hxt he hsz hbb hb0
 have hst:st2.aF ((d,.aG (a||a2) (i||i2) sz ah (old++new) none)::kills (base.toList++[g2])) [d]=st.aF ((d,.aG (a||a2) (i||i2) sz ah (old++new) none)::kills (ks++g2::(st.o g2).hn)) [d]:=by
  refine St.Cb (s2.trans s1) (fun z => ?_) (fun z=>by simp [St.aF,u2,u1])
  simp only [St.aF,lookup_cons,gI]
  by_cases z1:z=d
  ·simp only [if_pos z1]
  ·simp only [if_neg z1]
   by_cases z2:z∈base.toList++[g2]
   ·have:z∈ks++g2::(st.o g2).hn:=by
     rcases List.mem_append.1 z2 with z2 | z2
     ·rcases hb with ⟨q1,_⟩ | ⟨g,l,q1,_,_,_,_,_,q7⟩
      ·rw [q1] at z2;simp at z2
      ·rw [q1] at z2;simp at z2;subst z2;rw [q7];simp
     ·simp at z2;subst z2;simp
    simp only [if_pos z2,if_pos this]
   ·by_cases z3:z∈ks++g2::(st.o g2).hn
    ·simp only [if_neg z2,if_pos z3]
     have hzg:z≠g2:=fun e=>z2 (by simp [e])
     by_cases z4:z∈(st.o g2).hn
     ·exact (ok2 z z4).1
     ·rw [oo2 z hzg z4]
      rcases List.mem_append.1 z3 with z5 | z5
      ·exact ok1 z z5 fun g hg e=>z2 (by rw [hg,e];simp)
      ·rcases List.mem_cons.1 z5 with z5 | z5
       ·exact absurd z5 hzg
       ·exact absurd z5 z4
    ·simp only [if_neg z2,if_neg z3]
     simp only [List.mem_append,List.mem_cons,not_or] at z3
     rw [oo2 z z3.2.1 z3.2.2,oo1 z z3.1]
 rw [hst] at k2 k3
 have hod:(st.aF ((d,.aG (a||a2) (i||i2) sz ah (old++new) none)::kills (ks++g2::(st.o g2).hn)) [d]).o d=.aG (a||a2) (i||i2) sz ah (old++new) none:=by simp [St.aF,lookup_cons]
 refine ⟨v,w',bD,.inl (iM ho ?_),k2,Lets.trans (Lets.trans l1 l2 (fun g hg=>by rw [u1];exact hg)) k3 (fun g hg=>by rw [u2,u1];exact hg),cO.F8 (.own d v (by rw [k4];rfl) fun sz1 len1 ho1 => ?_),fun g hg => ?_⟩
 ·rw [(e2 g2).1,(e1 g2).1,(e2 g2).2,(e1 g2).2] at k1
  simp [builtin,hvs,Yy,k1]
 ·rw [hod] at ho1
  simp only [O.dim,Option.some.injEq,Prod.mk.injEq] at ho1
  obtain ⟨_,rfl⟩:=ho1;exact k4
 ·rw [dF] at hg
  simp only [W.names,List.mem_singleton] at hg
  subst hg;simp [St.aF]
theorem Js {dc:List (Nat×Nat)} (htt:gQ Pg tt) (args:Array Operand) (ts:Array TypeId):pO Pg tt dc (.call { callee:=.builtin .append,args:=args,argTypes:=ts }):=by
 intro E st gh val w ρ F o d r ho h hF hFn hk hp hd
 simp only [dJ] at hk
 split at hk
 ·rename_i s x sT xT tl ha hts
  obtain rfl:=uh ha
  have h0:ts[0]?=some sT:=by rw [←Array.getElem?_toList,hts];rfl
  have h1:ts[1]?=some xT:=by rw [←Array.getElem?_toList,hts];rfl
  split at hk
  ·rename_i e _ _ _ e' _ _ _ s' g2 hsT hxT hs hx
   have rs:=hF s;rw [hs] at rs
   have rx:=hF x;rw [hx] at rx
   have huS:=(htt _ _ hsT).kind
   have huX:=(htt _ _ hxT).kind
   simp only [nI] at huS huX
   split at hk
   ·rename_i ie ask a i old ks src a2 i2 sz ah new he hbD hh2
    split at hk
    ·rename_i hc
     obtain ⟨hb0,hsz,hsrc,hnd⟩:=hc
     have hnd:=qM hnd
     simp only [Option.some.injEq] at hk;subst hk
     obtain ⟨hask,hbb⟩:=hp
     have Fz:st.used d=false:=hd d (by simp)
     have Yy:ρ x=.slice (gh g2).ad new.length (gh g2).cap:=by cases rx.cu with | own _ _ _ hb=>exact hb _ _ (nJ hh2)
     have refl:Lets E st st gh gh w w:=⟨fun a i b hb=>⟨hb,rfl⟩,fun g _=>.inr ⟨⟨rfl,rfl⟩,O.eF _⟩⟩
     cases s' with
     |bY=>
      simp only [baseD,Option.some.injEq,Prod.mk.injEq] at hbD
      obtain ⟨rfl,rfl,rfl,rfl,rfl,rfl⟩:=hbD
      have hv:ρ s=.slice none 0 0:=by generalize hz:ρ s=z at rs;cases rs.cu;rfl
      exact wH htt h ho Fz h0 h1 huS huX (htt _ _ he) hb0 (base:=none) (bad:=none) (uz:=0) (m:=0) hsz [] h refl (fun _=>⟨rfl,rfl⟩) rfl (fun _=>rfl) (.inl ⟨rfl,rfl,rfl,rfl,rfl,rfl⟩) (fun x hx=>by cases hx) (fun _ _=>rfl) hnd hh2 hv Yy (by simpa using hbb)
     |own g=>
      simp only [baseD] at hbD
      split at hbD
      ·rename_i a0 i0 zl jS l0 hh
       simp only [Option.some.injEq,Prod.mk.injEq] at hbD
       obtain ⟨rfl,rfl,rfl,rfl,rfl,rfl⟩:=hbD
       have hsc:zl=sz∧jS=ah:=by rcases hsrc with e | e;cases e;simpa using e
       obtain ⟨rfl,rfl⟩:=hsc
       obtain ⟨st1,kL,r1,l1,e1,s1,u1,o1,ok1,oo1⟩:=h.home hh
       have hv:ρ s=.slice (gh g).ad l0.length (gh g).cap:=by cases rs.cu with | own _ _ _ hb=>exact hb _ _ (nJ hh)
       exact wH htt h ho Fz h0 h1 huS huX (htt _ _ he) hb0 (base:=some g) hsz (g::(st.o g).hn) r1 l1 e1 s1 u1 (.inr ⟨g,l0,rfl,o1,rfl,⟨(uj (h.aQ g) (nJ hh)).1,Nat.le_refl _⟩,Nat.le_refl _,by rw [List.take_length],rfl⟩)
        (fun x hx hxg=>by
         rcases List.mem_cons.1 hx with e | e
         ·exact absurd e (hxg g rfl)
         ·exact (ok1 x e).1)
        (fun x hx=>by simp only [List.mem_cons,not_or] at hx;exact oo1 x hx.1 hx.2) hnd hh2 hv Yy hbb
      ·cases hbD
     |vw g lo hi=>
      simp only [baseD] at hbD
      split at hbD
      ·rename_i a0 i0 zl jS l0 hh
       simp only [Option.some.injEq,Prod.mk.injEq] at hbD
       obtain ⟨rfl,rfl,rfl,rfl,rfl,rfl⟩:=hbD
       have hsc:zl=sz∧jS=ah:=by rcases hsrc with e | e;cases e;simpa using e
       obtain ⟨rfl,rfl⟩:=hsc
       obtain ⟨st1,kL,r1,l1,e1,s1,u1,o1,ok1,oo1⟩:=h.home hh
       obtain ⟨n,m,vc,h4,rfl,h5,h6,hvc,hv⟩:=(by cases rs.cu with | vw _ _ _ _ _ hb=>exact hb _ _ (nJ hh) :∃n m c:Nat,lo=.int .i64 n∧hi=.int .i64 m∧n≤m∧m≤l0.length∧(m-n≤c∧n+c≤(gh g).cap)∧
        ρ s=.slice (if (gh g).cap=n then (gh g).ad else (gh g).ad.map (·.add (n*zl))) (m-n) c)
       have hn0:n=0:=by rw [hask] at h4;simp [kZ] at h4;omega
       subst hn0
       have hadd:(gh g).ad.map (·.add (0*zl))=(gh g).ad:=by
        cases (gh g).ad with
        |none=>rfl
        |some a=>simp [Addr.add]
       rw [hadd] at hv
       simp only [ite_self,Nat.sub_zero] at hv
       have em:(P.int .i64 (m:Int)).nat=m:=by simp [P.nat,P.num]
       rw [em] at hbb ⊢
       have alk:(m+new.length)*ie.bytes≤140737488355328:=by rw [List.length_take,Nat.min_eq_left h6] at hbb;exact hbb
       exact wH htt h ho Fz h0 h1 huS huX (htt _ _ he) hb0 (base:=some g) hsz (g::(st.o g).hn) r1 l1 e1 s1 u1 (.inr ⟨g,l0,rfl,o1,rfl,by omega,h6,rfl,rfl⟩)
        (fun x hx hxg=>by
         rcases List.mem_cons.1 hx with e | e
         ·exact absurd e (hxg g rfl)
         ·exact (ok1 x e).1)
        (fun x hx=>by simp only [List.mem_cons,not_or] at hx;exact oo1 x hx.1 hx.2) hnd hh2 hv Yy alk
      ·cases hbD
     |_=>simp [baseD] at hbD
    ·cases hk
   ·cases hk
  ·cases hk
 ·cases hk
theorem L8 {dc:List (Nat×Nat)} (htt:gQ Pg tt) (t:TypeId) (x:Operand) (lo hi mx:Option Operand):pO Pg tt dc (.slice t x lo hi mx):=by
 intro E st gh val w ρ F o d r ho h hF hFn hk hp hd
 cases lo with
 |some _=>simp [dJ] at hk
 |none=>
 cases mx with
 |some _=>simp [dJ] at hk
 |none=>
 simp only [dJ] at hk
 split at hk
 ·rename_i e _ _ _ g ht hx
  have rx:=hF x;rw [hx] at rx
  have hu:=(htt _ _ ht).kind
  simp only [nI] at hu
  split at hk
  ·rename_i ie a i sz l he hog
   split at hk
   ·rename_i hsz
    split at hk
    ·rename_i hi' hhi
     simp only [Option.some.injEq] at hk;subst hk
     obtain ⟨k,hk,hkl⟩:=hp
     have hd:=hd d (by simp)
     have OA:(st.o g).dim=some (sz,l.length):=by rw [hog];rfl
     have hv:=(by cases rx.cu with | own _ _ _ hb=>exact hb _ _ OA:ρ x=.slice (gh g).ad l.length (gh g).cap)
     have hob:=h.aQ g
     rw [hog] at hob
     have hcap:l.length≤(gh g).cap:=LJ hob
     have zf:(hi.map ρ=none∧k=l.length)∨∃kd,hi.map ρ=some (.int kd k):=(ig hF hhi hk).imp (fun ⟨a,b⟩=>⟨a,by simp [kZ] at b;omega⟩) id
     have hrun:(execOp ρ o).run Pg w=.ok (.value (.slice (gh g).ad k (gh g).cap)) w:=by
      have hs:=sH (Pg:=Pg) (w:=w) (len:=l.length) (lo:=(none:Option Value)) (hi:=hi.map ρ) (m:=0) (k:=k) (cap:=(gh g).cap) (.inl ⟨rfl,rfl⟩) zf (Nat.zero_le _) (by omega)
      have key:(execOp ρ o).run Pg w=.ok (.value (.slice (if (gh g).cap=0 then (gh g).ad else (gh g).ad.map (·.add (0*ie.size))) (k-0) ((gh g).cap-0))) w:=by
       unfold execOp
       rw [ho]
       refine fU ?_
       simp only [Option.map_none]
       simp [Instr.sliceAt,dQ hu,Instr.slice,hv,hs,dL (htt _ _ he)]
      rw [key]
      congr 3
      rcases hob with ⟨q1,q2,_⟩ | ⟨ad,c,e',q1,q2,_⟩
      ·rw [q1,q2];rfl
      ·rw [q1]
       obtain ⟨b0,o0,sp0⟩:=ad
       simp only at q2;subst q2
       split
       ·rfl
       ·rw [Option.map_some,Addr.gU];simp
     have hgo:(st.o g).bF=true:=by rw [hog];rfl
     have hgu:st.used g=true:=h.ul g (O.pG hgo)
     have hgd:g≠d:=by intro e;subst e;rw [hd] at hgu;cases hgu
     have e0:(P.list (P.sl sz (l.take hi'.nat)))=l.take k:=by rw [hk];simp [P.list,P.nat,P.num]
     have alm :∀st',st'=st.aF [(d,.arr false a i sz (l.take k)),(g,.none)] [d]→
       ∃bD,Rel E st' bD val w∧Lets E st st' gh bD w w∧cO E st' bD w (.v (.one (.own d))) (.slice (gh g).ad k (gh g).cap):=by
      intro st' hst
      have hod:st'.o d=.arr false a i sz (l.take k):=by rw [hst];simp [St.aF,List.lookup]
      have hm:=h.merge (fun g'=>g'=g) d (.arr false a i sz (l.take k)) (gh g) st' w (by rw [hst];rfl) hod (fun g' e1 e2=>by
        rw [hst,e1]
        have:(g==d)=false:=by simpa using hgd
        simp [St.aF,List.lookup,this]) (fun g' e1 e2=>by
        rw [hst]
        have q1:(g'==d)=false:=by simpa using e2
        have q2:(g'==g)=false:=by simpa using e1
        simp [St.aF,List.lookup,q1,q2]) (fun g' hg'=>by rw [hst];simp [St.aF,hg']) (by rw [hst];simp [St.aF]) (fun hu=>by rw [hd] at hu;cases hu)
       (fun b hb=>.inl ⟨g,.inl rfl,hgo,hb⟩) (fun b _ _=>rfl) (Nat.le_refl _) rfl rfl rfl
       (fun i1 b e1 hb hwr=>by cases e1;exact h.wi g i b (by rw [hog];rfl) hb hwr) (fun _ _=>h.ns g hgo (by rw [hog];rfl)) (fun hl => ?_) (fun g' hg'=>by simp [O.names] at hg')
      ·refine ⟨_,hm.1,hm.2,cO.F8 (.own d _ rfl fun sz' len' hd' => ?_)⟩
       rw [hod] at hd'
       obtain ⟨rfl,rfl⟩:=O.jD hd'
       have e1:eG gh d (gh g) d=gh g:=by simp [eG]
       rw [e1,List.length_take,Nat.min_eq_left hkl]
      ·show gY E st' _ w a i sz (l.take k) (gh g)
       have hold:gY E st gh w a i sz l (gh g):=hob
       rcases hold with ⟨q1,q2,q3⟩ | ⟨ad,c,e',q1,q2,q3,q4,q5,q6,q7⟩
       ·exact .inl ⟨q1,q2,by rw [q3];simp⟩
       ·refine .inr ⟨ad,c,e',q1,q2,q3,q4,⟨by rw [List.length_take];omega,q5.2⟩,fun x hx=>q6 x (List.mem_of_mem_take hx),fun n x hx j y hy => ?_⟩
        rw [List.getElem?_take] at hx
        split at hx
        ·obtain ⟨v,hv,hr⟩:=q7 n x hx j y hy
         exact ⟨v,hv,hl.jQ hr⟩
        ·cases hx
     show∃v w' bD,Does Pg (execOp ρ o) w v w'∧Rel E (st.aF [(d,.arr false a i sz (P.list (P.sl sz (l.take hi'.nat)))),(g,.none)] [d]) bD val w'∧_
     rw [e0]
     obtain ⟨bD,m1,m2,m3⟩:=alm _ rfl
     refine ⟨_,w,bD,.inl hrun,m1,?_,?_,fun g' hg' => ?_⟩
     ·show Lets E st (st.aF [(d,.arr false a i sz (P.list (P.sl sz (l.take hi'.nat)))),(g,.none)] [d]) gh bD w w
      rw [e0];exact m2
     ·show cO E (st.aF [(d,.arr false a i sz (P.list (P.sl sz (l.take hi'.nat)))),(g,.none)] [d]) bD w _ _
      rw [e0];exact m3
     ·have hg':g'∈(S.v (.one (.own d))).names:=hg'
      have:g'=d:=by simpa [S.names,V.names,W.names] using hg'
      subst this
      simp [St.aF]
    ·cases hk
   ·cases hk
  ·cases hk
 ·cases hk
theorem Jt {dc:List (Nat×Nat)} (htt:gQ Pg tt) (op:Op):pO Pg tt dc op:=by
 cases op with
 |load t x=>exact OC htt t x
 |store t x y=>exact L6 htt t x y
 |buildSlice t n ps=>exact Au htt t n ps
 |makeSlice t n c=>exact Cc htt t n c
 |slice t x lo hi mx=>exact L8 htt t x lo hi mx
 |call c=>
  obtain ⟨callee,args,ts⟩:=c
  cases callee with
  |builtin b=>
   cases b with
   |append=>exact Js htt args ts
   |_=>intro E st gh val w ρ F o d r ho h hF hFn hk;simp [dJ] at hk
  |_=>intro E st gh val w ρ F o d r ho h hF hFn hk;simp [dJ] at hk
 |_=>intro E st gh val w ρ F o d r ho h hF hFn hk;simp [dJ] at hk
end
end Go.Fw

namespace Go.Fw
set_option linter.unusedSectionVars false
variable [dR]
set_option linter.unusedVariables false
def P.flat:P→Bool
 |.sl _ _=>false
 |.seq _=>false
 |_=>true
theorem bW.flat {w:World} {ok ok':Nat→Prop} {x:P} {v:Value} (hx:x.flat=true) (r:bW w ok x v):bW w ok' x v:=by
 cases r with
 |int k n=>exact .int k n
 |bool b=>exact .bool b
 |str s=>exact .str s
 |opq v h=>exact .opq v h
 |_=>cases hx
inductive Ww (C:Bool→Bool→Bool→Bool→Prop) (m:Nat→Option Nat) (nil:Nat→Prop):W→W→Prop where
 |no (x:W):Ww C m nil x .no
 |p {a i a' i':Bool} (x:P) (hc:C a i a' i'):Ww C m nil (.p a i x) (.p a' i' x)
 |flat {a i a' i':Bool} (x:P) (hx:x.flat=true):Ww C m nil (.p a i x) (.p a' i' x)
 |bY:Ww C m nil .bY .bY
 |afG (a i:Bool) (sz:Nat):Ww C m nil .bY (.p a i (.sl sz []))
 |ah8 {g':Nat} (h:m g'=none) (hn:nil g'):Ww C m nil .bY (.own g')
 |own {g g':Nat} (h:m g'=some g):Ww C m nil (.own g) (.own g')
 |vw {g g':Nat} (lo hi:P) (h:m g'=some g):Ww C m nil (.vw g lo hi) (.vw g' lo hi)
 |box {g g' off:Nat} (h:m g'=some g):Ww C m nil (.box g off) (.box g' off)
 |ep {g g':Nat} (n:P) (off:Nat) (h:m g'=some g):Ww C m nil (.ep g n off) (.ep g' n off)
 |mJ {g g':Nat} (h:m g'=some g):Ww C m nil (.mJ g) (.mJ g')
 |sp {a i a' i':Bool} (row:List P) (off:Nat) (hc:C a i a' i'):Ww C m nil (.sp a i row off) (.sp a' i' row off)
 |gd (b:Bool) {x y:W} (h:Ww C m nil x y):Ww C m nil (.gd b x) (.gd b y)
 |clo (f:FuncId) (xs ys:List W) (hl:xs.length=ys.length) (h :∀(j:Nat) x y,xs[j]?=some x→ys[j]?=some y→Ww C m nil x y):Ww C m nil (.clo f xs) (.clo f ys)
inductive Vw (C:Bool→Bool→Bool→Bool→Prop) (m:Nat→Option Nat) (nil:Nat→Prop):V→V→Prop where
 |one {x y:W} (h:Ww C m nil x y):Vw C m nil (.one x) (.one y)
 |agg (xs ys:List W) (hl:xs.length=ys.length) (h :∀(j:Nat) x y,xs[j]?=some x→ys[j]?=some y→Ww C m nil x y):Vw C m nil (.agg xs) (.agg ys)
inductive Sw (C:Bool→Bool→Bool→Bool→Prop) (m:Nat→Option Nat) (nil:Nat→Prop):S→S→Prop where
 |no (x:S):Sw C m nil x .no
 |v {x y:V} (h:Vw C m nil x y):Sw C m nil (.v x) (.v y)
 |kT (xs ys:List V) (hl:xs.length=ys.length) (h :∀(j:Nat) x y,xs[j]?=some x→ys[j]?=some y→Vw C m nil x y):Sw C m nil (.kT xs) (.kT ys)
inductive Ow (C:Bool→Bool→Bool→Bool→Prop) (m:Nat→Option Nat) (nil:Nat→Prop):O→O→Prop where
 |none (x:O):Ow C m nil x .none
 |box (xs ys:List W) (hl:xs.length=ys.length) (h :∀(j:Nat) x y,xs[j]?=some x→ys[j]?=some y→Ww C m nil x y):Ow C m nil (.box xs) (.box ys)
 |arr (fz:Bool) {a i a' i':Bool} (sz:Nat) (l:List (List P)) (hc:C a i a' i'):Ow C m nil (.arr fz a i sz l) (.arr fz a' i' sz l)
 |aG {a i a' i':Bool} (sz:Nat) (ah:List (Nat×Nat)) (l:List (List P)) (hc:C a i a' i'):Ow C m nil (.aG a i sz ah l Option.none) (.aG a' i' sz ah l Option.none)
 |it (s n:P):Ow C m nil (.it s n) (.it s n)
def O.nilA (o:O):Prop:=(∃a i sz,o=.arr false a i sz [])∨∃a i sz ah,o=.aG a i sz ah [] Option.none
theorem Ow.dim {C:Bool→Bool→Bool→Bool→Prop} {m:Nat→Option Nat} {nil:Nat→Prop} {x y:O} (h:Ow C m nil x y) {d:Nat×Nat} (hd:y.dim=some d):x.dim=some d:=by
 cases h with
 |none=>cases hd
 |box=>cases hd
 |arr=>exact hd
 |aG=>exact hd
 |it=>cases hd
theorem Ow.bF {C:Bool→Bool→Bool→Bool→Prop} {m:Nat→Option Nat} {nil:Nat→Prop} {x y:O} (h:Ow C m nil x y) (hy:y.bF=true):x.bF=true∧x.nG=y.nG:=by
 cases h with
 |none=>cases hy
 |box=>exact ⟨rfl,rfl⟩
 |arr=>exact ⟨hy,rfl⟩
 |aG=>exact ⟨rfl,rfl⟩
 |it=>exact ⟨rfl,rfl⟩
theorem Ow.inner {C:Bool→Bool→Bool→Bool→Prop} {m:Nat→Option Nat} {nil:Nat→Prop} {x y:O} (h:Ow C m nil x y) {i:Bool} (hy:y.inner=some i) :∃a' a i',C a' i' a i∧x.inner=some i':=by
 cases h with
 |none=>cases hy
 |box=>cases hy
 |arr fz sz l hc=>
  cases fz with
  |false=>cases hy;exact ⟨_,_,_,hc,rfl⟩
  |true=>cases hy
 |aG sz ah l hc=>cases hy;exact ⟨_,_,_,hc,rfl⟩
 |it=>cases hy
structure Cast (C:Bool→Bool→Bool→Bool→Prop) (m:Nat→Option Nat) (nil:Nat→Prop) (E E':Env) (st st':St) (gh bD:Nat→Gh) (w:World):Prop where
 ok :∀a i a' i' b,C a i a' i'→E.ok st gh w a i b→E'.ok st' bD w a' i' b
 arr :∀g g',m g'=some g→∀sz len,(st'.o g').dim=some (sz,len)→((bD g').ad=(gh g).ad∧(bD g').cap=(gh g).cap)∧(st.o g).dim=some (sz,len)
 box :∀g g',m g'=some g→∀ws,st'.o g'=.box ws→(bD g').ad=(gh g).ad∧∃ws',st.o g=.box ws'
 it :∀g g',m g'=some g→∀s n,st'.o g'=.it s n→(bD g').ad=(gh g).ad∧∃s' n',st.o g=.it s' n'
 nil :∀g',nil g'→m g'=none→∀sz len,(st'.o g').dim=some (sz,len)→len=0∧(bD g').ad=none∧(bD g').cap=0
section
variable {C:Bool→Bool→Bool→Bool→Prop} {E E':Env} {st st':St} {gh bD:Nat→Gh} {w:World} {val:Nat→Value} {m:Nat→Option Nat} {nil:Nat→Prop}
theorem Cast.jQ (r:Cast C m nil E E' st st' gh bD w) {a i a' i':Bool} (hc:C a i a' i') {x:P} {v:Value} (h:bW w (E.ok st gh w a i) x v):bW w (E'.ok st' bD w a' i') x v:=
 h.mono fun b hb=>⟨r.ok _ _ _ _ b hc hb,rfl⟩
theorem Cast.yY (r:Cast C m nil E E' st st' gh bD w) {x y:W} (hxy:Ww C m nil x y) {v:Value} (h:dZ E st gh w x v):dZ E' st' bD w y v:=by
 induction hxy generalizing v with
 |no x=>exact .no v
 |p x hc=>cases h with | p _ _ _ _ h=>exact .p _ _ _ _ (r.jQ hc h)
 |flat x hx=>cases h with | p _ _ _ _ h=>exact .p _ _ _ _ (h.flat hx)
 |bY=>cases h;exact .bY
 |afG a i sz=>cases h;exact .p _ _ _ _ (.nil _ _ _)
 |ah8 hm hn=>
  cases h
  refine .own _ _ rfl fun sz len ho => ?_
  obtain ⟨h1,h2,h3⟩:=r.nil _ hn hm _ _ ho
  rw [h1,h2,h3]
 |own hm=>
  cases h with | own _ _ hv hx=>
  refine .own _ _ hv fun sz len ho => ?_
  obtain ⟨hg,e⟩:=r.arr _ _ hm _ _ ho
  rw [hg.1,hg.2];exact hx _ _ e
 |vw lo hi hm=>
  cases h with | vw _ _ _ _ hv hx=>
  refine .vw _ _ _ _ hv fun sz len ho => ?_
  obtain ⟨hg,e⟩:=r.arr _ _ hm _ _ ho
  rw [hg.1,hg.2];exact hx _ _ e
 |box hm=>
  cases h with | box _ _ _ hv hx=>
  refine .box _ _ _ hv fun ws ho => ?_
  obtain ⟨hg,ws',e⟩:=r.box _ _ hm _ ho
  rw [hg];exact hx _ e
 |ep n off hm=>
  cases h with | ep _ _ _ _ hv hx=>
  refine .ep _ _ _ _ hv fun sz len ho => ?_
  obtain ⟨hg,e⟩:=r.arr _ _ hm _ _ ho
  rw [hg.1];exact hx _ _ e
 |mJ hm=>
  cases h with | mJ _ _ hv hx=>
  refine .mJ _ _ hv fun s n ho => ?_
  obtain ⟨hg,s',n',e⟩:=r.it _ _ hm _ _ ho
  rw [hg];exact hx _ _ e
 |sp row off hc=>
  cases h with | sp _ _ _ _ b o hb hr=>exact .sp _ _ _ _ b o (fun h0=>r.ok _ _ _ _ b hc (hb h0)) fun j y hj=>let ⟨u,hu,Ox⟩:=hr j y hj;⟨u,hu,r.jQ hc Ox⟩
 |gd b hxy ih=>cases h with | gd _ _ _ h=>exact .gd _ _ _ fun hb=>ih (h hb)
 |clo f xs ys hl hxy ih=>
  cases h with | clo _ _ vs hl' h=>
  exact .clo f ys vs (by omega) fun j y v hy hv=>by
   have hlt:j<xs.length:=by have:=(List.getElem?_eq_some_iff.1 hy).1;omega
   exact ih j _ y (List.getElem?_eq_getElem hlt) hy (h j _ v (List.getElem?_eq_getElem hlt) hv)
theorem Cast.Wp (r:Cast C m nil E E' st st' gh bD w) {x y:V} (hxy:Vw C m nil x y) {v:Value} (h:qF E st gh w x v):qF E' st' bD w y v:=by
 cases hxy with
 |one hxy=>cases h with | one _ _ h=>exact .one _ _ (r.yY hxy h)
 |agg xs ys hl hxy=>
  cases h with | agg _ cs hl' hv h=>
  exact .agg ys cs (by omega) hv fun j y v hy hv=>by
   have hlt:j<xs.length:=by have:=(List.getElem?_eq_some_iff.1 hy).1;omega
   exact r.yY (hxy j _ y (List.getElem?_eq_getElem hlt) hy) (h j _ v (List.getElem?_eq_getElem hlt) hv)
theorem Cast.abU (r:Cast C m nil E E' st st' gh bD w) {x y:S} (hxy:Sw C m nil x y) {v:Value} (h:cO E st gh w x v):cO E' st' bD w y v:=by
 cases hxy with
 |no x=>exact .no v
 |v hxy=>cases h with | v _ _ h=>exact .v _ _ (r.Wp hxy h)
 |kT xs ys hl hxy=>
  cases h with | kT _ vs hl' h=>
  exact .kT ys vs (by omega) fun j y v hy hv=>by
   have hlt:j<xs.length:=by have:=(List.getElem?_eq_some_iff.1 hy).1;omega
   exact r.Wp (hxy j _ y (List.getElem?_eq_getElem hlt) hy) (h j _ v (List.getElem?_eq_getElem hlt) hv)
theorem Cast.Ae (r:Cast C m nil E E' st st' gh bD w) {x y:O} (hxy:Ow C m nil x y) {G:Gh} (h:kU E st gh w x G):kU E' st' bD w y G:=by
 cases hxy with
 |none x=>trivial
 |box xs ys hl hxy=>
  obtain ⟨ad,c,e,h1,h2,h3,h4,h5⟩:=h
  refine ⟨ad,c,e,h1,h2,h3,by omega,fun j y hy => ?_⟩
  have hlt:j<xs.length:=by have:=(List.getElem?_eq_some_iff.1 hy).1;omega
  obtain ⟨v,hv,ho,hr⟩:=h5 j _ (List.getElem?_eq_getElem hlt)
  exact ⟨v,hv,ho,r.yY (hxy j _ y (List.getElem?_eq_getElem hlt) hy) hr⟩
 |arr fz sz l hc=>
  cases fz with
  |false=>
   rcases h with hO | ⟨ad,c,e,h1,h2,h3,h4,h5,h6,h7⟩
   ·exact .inl hO
   ·exact .inr ⟨ad,c,e,h1,h2,h3,h4,h5,h6,fun n x hx j y hy=>let ⟨v,hv,hr⟩:=h7 n x hx j y hy;⟨v,hv,r.jQ hc hr⟩⟩
  |true=>exact r.jQ hc h
 |aG sz ah l hc=>
  rcases h with hO | ⟨ad,c,e,h1,h2,h3,h4,h5,h6,h7,h8⟩
  ·exact .inl hO
  ·refine .inr ⟨ad,c,e,h1,h2,h3,h4,h5,h6,h7,fun n x hx j y hy => ?_⟩
   obtain ⟨v,hv,hr⟩:=h8 n x hx j y hy
   refine ⟨v,hv,?_⟩
   unfold g_ at *
   cases hcl:ah.lookup j with
   |none=>rw [hcl] at hr;exact r.jQ hc hr
   |some sz'=>
    rw [hcl] at hr
    simp only [gu] at *
    obtain ⟨l',ao,k,k1,k2,k3,k4⟩:=hr
    refine ⟨l',ao,k,k1,k2,?_,k4⟩
    rcases k3 with k3 | ⟨ad,c,e,h1,h2,h3,h4,h5,h6,h7⟩
    ·exact .inl k3
    ·exact .inr ⟨ad,c,e,h1,h2,h3,h4,h5,h6,fun n x hx j y hy=>let ⟨v,hv,hr⟩:=h7 n x hx j y hy;⟨v,hv,r.jQ hc hr⟩⟩
 |it s n=>exact h
end
def Yd (a i a' i':Bool):Prop:=(a=true→a'=true)∧(i=true→i'=true)
structure rO (C:Bool→Bool→Bool→Bool→Prop) (m:Nat→Option Nat) (st st':St):Prop where
 slots :∀t,Sw C m (fun g=>(st'.o g).nilA) (st.s t) (st'.s t)
 aQ :∀g' g,m g'=some g→Ow C m (fun g=>(st'.o g).nilA) (st.o g) (st'.o g')
 aT :∀g',m g'=none→st'.o g'=.none∨(st'.o g').nilA
 inj :∀g1 g2 g,(st'.o g1).bF=true→(st'.o g2).bF=true→m g1=some g→m g2=some g→g1=g2
 us :∀t,∀g∈(st'.s t).names,st'.used g=true
 uo :∀g,∀g'∈(st'.o g).names,st'.used g'=true
 ul :∀g,st'.o g≠.none→st'.used g=true
section
variable {C:Bool→Bool→Bool→Bool→Prop} {E E':Env} {st st':St} {gh:Nat→Gh} {w:World} {val:Nat→Value} {m:Nat→Option Nat}
def iY (gh:Nat→Gh) (m:Nat→Option Nat):Nat→Gh:=fun g'=>match m g' with
 |some g=>gh g
 |none=>Gh.nil
theorem rO.bF (r:rO C m st st') {g':Nat} (h:(st'.o g').bF=true) {b:Nat} (had:(iY gh m g').has b) :∃g,m g'=some g∧(st.o g).bF=true∧(gh g).has b:=by
 unfold iY at had
 cases hm:m g' with
 |none=>rw [hm] at had;exact (Gh.not_nil had).elim
 |some g=>
  rw [hm] at had
  exact ⟨g,rfl,((r.aQ g' g hm).bF h).1,had⟩
theorem rO.cast (r:rO C m st st') (hok :∀a i a' i' b,C a i a' i'→E.ok st gh w a i b→E'.ok st' (iY gh m) w a' i' b) :
  Cast C m (fun g=>(st'.o g).nilA) E E' st st' gh (iY gh m) w:=by
 refine ⟨hok,fun g g' hm sz len ho=>⟨by simp [iY,hm],(r.aQ g' g hm).dim ho⟩,fun g g' hm ws ho=>⟨by simp [iY,hm],?_⟩,fun g g' hm s n ho=>⟨by simp [iY,hm],?_⟩,fun g' hn hm sz len ho=>⟨?_,by simp [iY,hm,Gh.nil],by simp [iY,hm,Gh.nil]⟩⟩
 ·have:=r.aQ g' g hm
  rw [ho] at this
  generalize st.o g=x at this
  cases this;exact ⟨_,rfl⟩
 ·have:=r.aQ g' g hm
  rw [ho] at this
  generalize st.o g=x at this
  cases this;exact ⟨_,_,rfl⟩
 ·rcases hn with ⟨a',i',sz',hn⟩ | ⟨a',i',sz',ah,hn⟩
  ·rw [hn] at ho;cases ho;rfl
  ·rw [hn] at ho;cases ho;rfl
theorem rO.ok (r:rO Yd m st st') :∀a i a' i' b,Yd a i a' i'→E.ok st gh w a i b→E.ok st' (iY gh m) w a' i' b:=by
 intro a i a' i' b hc h
 have:=Env.n_ hc.1 hc.2 h
 refine ⟨this.1,this.2.1,fun g' ho had => ?_⟩
 obtain ⟨g,_,h1,h2⟩:=r.bF ho had
 exact h.2.2 g h1 h2
theorem rO.Ae (r:rO C m st st') (c:Cast C m (fun g=>(st'.o g).nilA) E E' st st' gh (iY gh m) w) (h :∀g,kU E st gh w (st.o g) (gh g)) (g':Nat):kU E' st' (iY gh m) w (st'.o g') (iY gh m g'):=by
 cases hm:m g' with
 |none=>
  rcases r.aT g' hm with e | ⟨a,i,sz,e⟩ | ⟨a,i,sz,ah,e⟩
  ·rw [e];trivial
  ·rw [e];exact .inl ⟨by simp [iY,hm,Gh.nil],by simp [iY,hm,Gh.nil],rfl⟩
  ·rw [e];exact .inl ⟨by simp [iY,hm,Gh.nil],by simp [iY,hm,Gh.nil],rfl,fun b=>by simp [iY,hm,Gh.nil]⟩
 |some g=>
  have hg:iY gh m g'=gh g:=by simp [iY,hm]
  rw [hg]
  exact c.Ae (r.aQ g' g hm) (h g)
theorem Rel.RD (h:Rel E st gh val w) (r:rO Yd m st st'):Rel E st' (iY gh m) val w:=by
 have c:=r.cast (E:=E) (E':=E) (gh:=gh) (w:=w) r.ok
 refine ⟨fun t=>c.abU (r.slots t) (h.slots t),r.Ae c h.aQ,fun g1 g2 b h1 h2 k1 k2 => ?_,fun g' b ho had => ?_,fun g' i b ho had hw => ?_,fun g' ho hd b => ?_,h.wb,h.frame,h.size,h.os,h.tape,h.output,r.us,r.uo,r.ul⟩
 ·obtain ⟨q1,m1,o1,d1⟩:=r.bF h1 k1
  obtain ⟨q2,m2,o2,d2⟩:=r.bF h2 k2
  have:=h.inj q1 q2 b o1 o2 d1 d2
  subst this
  exact r.inj g1 g2 q1 h1 h2 m1 m2
 ·obtain ⟨g,_,h1,h2⟩:=r.bF ho had
  exact h.wr g b h1 h2
 ·obtain ⟨g,hm,h1,h2⟩:=r.bF (gh:=gh) (g':=g') (O.jY ho) had
  obtain ⟨a',a,i',hc,q⟩:=(r.aQ g' g hm).inner ho
  exact hc.2 (h.wi g i' b q h2 hw)
 ·cases hm:m g' with
  |none=>simp [iY,hm,Gh.nil]
  |some g=>
   have hg:iY gh m g'=gh g:=by simp [iY,hm]
   rw [hg]
   obtain ⟨q1,q2⟩:=(r.aQ g' g hm).bF ho
   exact h.ns g q1 (by rw [q2];exact hd) b
end
end Go.Fw

namespace Go.Fw
set_option linter.unusedSectionVars false
variable [dR]
set_option linter.unusedVariables false
inductive WS where
 |p (a i:Bool)
 |bY
 |own (g:Nat)
 |box (g off:Nat)
 |fn (f:FuncId) (gs:List Nat)
 |mJ (g:Nat)
 |no
 |vw (g:Nat)
 |ep (g off:Nat)
inductive SS where
 |one (x:WS)
 |agg (xs:List WS)
inductive OS where
 |box (ws:List WS)
 |arr (fz a i:Bool) (sz:Nat)
 |it
 |aG (a i:Bool) (sz:Nat) (ah:List (Nat×Nat))
structure Shape where
 slots:List (Nat×SS)
 aQ:List (Nat×OS)
abbrev Ren:=List (Nat×Option Nat)
def imp (a b:Bool):Bool:=!a||b
def nodupB:List Nat→Bool
 | []=>true
 |x::xs=>!xs.contains x&&nodupB xs
def rP (m:Ren):List Nat→List W→Bool
 | [],[]=>true
 |g'::gs,.box g off::cs=>decide (m.lookup g'=some (some g))&&(Nat.beq off 0&&rP m gs cs)
 |_,_=>false
def fO:List Nat→List W
 | []=>[]
 |g::gs=>.box g 0::fO gs
def Jk (m:Ren):WS→W→Option (List P)
 |.p a i,.p a' i' x=>if ((imp a' a&&imp i' i)||x.flat)=true then some [x] else none
 |.p _ _,.bY=>some [.sl 0 []]
 |.bY,.bY=>some []
 |.own g',.own g=>if m.lookup g'=some (some g) then some [] else none
 |.own g',.bY=>if m.lookup g'=some none then some [] else none
 |.box g' off,.box g off'=>if m.lookup g'=some (some g)∧off=off' then some [] else none
 |.fn f gs,.clo f' caps=>if f=f'∧rP m gs caps=true then some [] else none
 |.mJ g',.mJ g=>if m.lookup g'=some (some g) then some [] else none
 |.no,_=>some []
 |.vw g',.vw g lo hi=>if m.lookup g'=some (some g) then some [lo,hi] else none
 |.ep g' off,.ep g n off'=>if m.lookup g'=some (some g)∧off=off' then some [n] else none
 |_,_=>none
def Ju (m:Ren):List WS→List W→Option (List P)
 | [],[]=>some []
 |k::ks,x::xs=>match Jk m k x,Ju m ks xs with
  |some u,some v=>some (u++v)
  |_,_=>none
 |_,_=>none
def coS (m:Ren):SS→S→Option (List P)
 |.one k,.v (.one x)=>Jk m k x
 |.agg ks,.v (.agg xs)=>Ju m ks xs
 |_,_=>none
def Ye (m:Ren):OS→O→Option (List P)
 |.box ks,.box xs=>Ju m ks xs
 |.arr fz a i sz,.arr fz' a' i' sz' l=>if fz=fz'∧sz=sz'∧(imp a' a&&imp i' i)=true then some [P.fF sz l] else none
 |.it,.it s n=>some [s,n]
 |.aG a i sz ah,.aG a' i' sz' jK l Option.none=>if sz=sz'∧ah=jK∧(imp a' a&&imp i' i)=true then some [P.fF sz l] else none
 |_,_=>none
def qN (m:Ren) (s:Nat→S):List (Nat×SS)→Option (List P)
 | []=>some []
 |(t,k)::rest=>match coS m k (s t),qN m s rest with
  |some u,some v=>some (u++v)
  |_,_=>none
def uD (m:Ren) (o:Nat→O):List (Nat×OS)→Option (List P)
 | []=>some []
 |(g',k)::rest=>match (match m.lookup g' with
   |some (some g)=>Ye m k (o g)
   |some none=>(match k with
    |.arr false _ _ _=>some [.sl 0 []]
    |.aG _ _ _ _=>some [.sl 0 []]
    |_=>none)
   |none=>none),uD m o rest with
  |some u,some v=>some (u++v)
  |_,_=>none
def WS.names:WS→List Nat
 |.own g | .box g _ | .mJ g | .vw g | .ep g _=>[g]
 |.fn _ gs=>gs
 |_=>[]
def SS.names:SS→List Nat
 |.one x=>x.names
 |.agg xs=>xs.flatMap WS.names
def OS.names:OS→List Nat
 |.box ws=>ws.flatMap WS.names
 |_=>[]
def Shape.nms (j:Shape):List Nat:=j.aQ.map (·.1)
def Shape.ok (j:Shape):Bool:=nodupB j.nms&&j.slots.all (fun p=>p.2.names.all fun g=>j.nms.contains g)&&j.aQ.all (fun p=>p.2.names.all fun g=>j.nms.contains g)
def aeQ (j:Shape) (m:Ren):Bool:=nodupB (j.nms.filterMap fun g=>(m.lookup g).join)
def coerce (j:Shape) (m:Ren) (st:St):Option (List P):=
 if (j.ok&&aeQ j m)=true then match qN m st.s j.slots,uD m st.o j.aQ with
  |some u,some v=>some (u++v)
  |_,_=>none
 else none
def o7 (vs:List P) (n:Nat):WS→W×Nat
 |.p a i=>(.p a i (vs.getD n default),n+1)
 |.bY=>(.bY,n)
 |.own g=>(.own g,n)
 |.box g off=>(.box g off,n)
 |.fn f gs=>(.clo f (fO gs),n)
 |.mJ g=>(.mJ g,n)
 |.no=>(.no,n)
 |.vw g=>(.vw g (vs.getD n default) (vs.getD (n+1) default),n+2)
 |.ep g off=>(.ep g (vs.getD n default) off,n+1)
def ku (vs:List P):Nat→List WS→List W×Nat
 |n,[]=>([],n)
 |n,k::ks=>((o7 vs n k).1::(ku vs (o7 vs n k).2 ks).1,(ku vs (o7 vs n k).2 ks).2)
def mkS (vs:List P) (n:Nat):SS→S×Nat
 |.one k=>(.v (.one (o7 vs n k).1),(o7 vs n k).2)
 |.agg ks=>(.v (.agg (ku vs n ks).1),(ku vs n ks).2)
def sJ (vs:List P) (n:Nat):OS→O×Nat
 |.box ks=>(.box (ku vs n ks).1,(ku vs n ks).2)
 |.arr fz a i sz=>(.arr fz a i sz (vs.getD n default).list,n+1)
 |.it=>(.it (vs.getD n default) (vs.getD (n+1) default),n+2)
 |.aG a i sz ah=>(.aG a i sz ah (vs.getD n default).list Option.none,n+1)
def bZ (vs:List P):Nat→List (Nat×SS)→List (Nat×S)×Nat
 |n,[]=>([],n)
 |n,(t,k)::rest=>((t,(mkS vs n k).1)::(bZ vs (mkS vs n k).2 rest).1,(bZ vs (mkS vs n k).2 rest).2)
def fP (vs:List P):Nat→List (Nat×OS)→List (Nat×O)×Nat
 |n,[]=>([],n)
 |n,(g,k)::rest=>((g,(sJ vs n k).1)::(fP vs (sJ vs n k).2 rest).1,(fP vs (sJ vs n k).2 rest).2)
def mk (j:Shape) (vs:List P):St:=
 { s:=fun t=>match (bZ vs 0 j.slots).1.lookup t with | some x=>x | none=>.no,o:=fun g=>match (fP vs (bZ vs 0 j.slots).2 j.aQ).1.lookup g with | some x=>x | none=>.none,used:=fun g=>j.nms.contains g }
def Aw (j:Shape) (m:Ren) (g':Nat):Option Nat:=if j.nms.contains g' then (m.lookup g').join else none
def At (vs:List P) (n:Nat) (us:List P):Prop :=∀k y,us[k]?=some y→vs[n+k]?=some y
theorem At.left {vs YE us2:List P} {n:Nat} (h:At vs n (YE++us2)):At vs n YE:=fun k y hk=>h k y (by rw [List.getElem?_append_left (List.getElem?_eq_some_iff.1 hk).1];exact hk)
theorem At.right {vs YE us2:List P} {n:Nat} (h:At vs n (YE++us2)):At vs (n+YE.length) us2:=fun k y hk=>by
 have:=h (YE.length+k) y (by rw [List.getElem?_append_right (by omega),Nat.add_sub_cancel_left];exact hk)
 rw [←this];congr 1;omega
theorem At.head {vs:List P} {n:Nat} {x:P} (h:At vs n [x]):vs.getD n default=x:=by
 have:=h 0 x rfl
 rw [List.getD_eq_getElem?_getD]
 rw [Nat.add_zero] at this
 rw [this];rfl
theorem sK {a b:Bool} (h:imp a b=true):a=true→b=true:=by
 cases a<;>cases b<;>simp_all [imp]
section
variable {vs:List P} {m:Ren} {F:Nat→Option Nat} {nil:Nat→Prop}
theorem uF :∀(gs:List Nat),(fO gs).flatMap W.names=gs
 | []=>rfl
 |g::gs=>by simp [fO,W.names,uF gs]
theorem sN (f:FuncId) (caps:List W):(W.clo f caps).names=caps.flatMap W.names:=by
 have :∀(l:List W) (q :∀x∈l,x∈caps),(l.attach.flatMap fun (x:{x // x∈l})=>x.1.names)=l.flatMap W.names:=fun l _=>by
  rw [List.flatMap_def,List.flatMap_def,List.map_attach_eq_pmap,List.pmap_eq_map]
 rw [W.names]
 exact this caps fun x hx=>hx
theorem JQ :∀{gs:List Nat} {caps:List W},(∀g∈gs,F g=(m.lookup g).join)→rP m gs caps=true→caps.length=(fO gs).length∧∀(j:Nat) x y,caps[j]?=some x→(fO gs)[j]?=some y→Ww Yd F nil x y
 | [],[],_,_=>⟨rfl,fun j x y hx=>by simp at hx⟩
 | [],_::_,_,h=>by simp [rP] at h
 |_::_,[],_,h=>by simp [rP] at h
 |g'::gs,c::cs,hF,h=>by
  cases c with
  |box g off=>
   simp only [rP,Bool.and_eq_true,decide_eq_true_eq] at h
   obtain ⟨h1,h2,h3⟩:=h
   have h2:=Nat.eq_of_beq_eq_true h2
   subst h2
   obtain ⟨e1,e2⟩:=JQ (fun g hg=>hF g (by simp [hg])) h3
   refine ⟨by simp [fO,e1],fun j x y hx hy => ?_⟩
   cases j with
   |zero=>
    simp [fO] at hx hy;subst hx hy
    exact .box (by rw [hF g' (by simp),h1];rfl)
   |succ j=>simp [fO] at hx hy;exact e2 j x y hx hy
  |_=>simp [rP] at h
theorem YF {k:WS} {x:W} {us:List P} {n:Nat} (hF :∀g∈k.names,F g=(m.lookup g).join) (hnil :∀g∈k.names,m.lookup g=some none→nil g) (h:Jk m k x=some us) (ha:At vs n us) :
  Ww Yd F nil x (o7 vs n k).1∧(o7 vs n k).2=n+us.length∧(o7 vs n k).1.names=k.names:=by
 cases k with
 |p a i=>
  cases x with
  |p a' i' y=>
   simp only [Jk] at h
   split at h
   ·rename_i hc
    simp only [Option.some.injEq] at h;subst h
    simp only [Bool.or_eq_true,Bool.and_eq_true] at hc
    refine ⟨?_,rfl,by simp [o7,W.names,WS.names]⟩
    simp only [o7,ha.head]
    rcases hc with hc | hc
    ·exact .p y ⟨sK hc.1,sK hc.2⟩
    ·exact .flat y hc
   ·cases h
  |bY=>
   simp only [Jk,Option.some.injEq] at h;subst h
   refine ⟨?_,rfl,by simp [o7,W.names,WS.names]⟩
   simp only [o7,ha.head]
   exact .afG _ _ _
  |_=>simp [Jk] at h
 |bY=>cases x<;>simp [Jk] at h;subst h;exact ⟨.bY,rfl,by simp [o7,W.names,WS.names]⟩
 |own g'=>
  cases x with
  |own g=>
   simp only [Jk] at h
   split at h
   ·rename_i hc
    simp only [Option.some.injEq] at h;subst h
    exact ⟨.own (by rw [hF g' (by simp [WS.names]),hc];rfl),rfl,by simp [o7,W.names,WS.names]⟩
   ·cases h
  |bY=>
   simp only [Jk] at h
   split at h
   ·rename_i hc
    simp only [Option.some.injEq] at h;subst h
    exact ⟨.ah8 (by rw [hF g' (by simp [WS.names]),hc];rfl) (hnil g' (by simp [WS.names]) hc),rfl,by simp [o7,W.names,WS.names]⟩
   ·cases h
  |_=>simp [Jk] at h
 |box g' off=>
  cases x with
  |box g off'=>
   simp only [Jk] at h
   split at h
   ·rename_i hc
    simp only [Option.some.injEq] at h;subst h
    obtain ⟨hc,rfl⟩:=hc
    exact ⟨.box (by rw [hF g' (by simp [WS.names]),hc];rfl),rfl,by simp [o7,W.names,WS.names]⟩
   ·cases h
  |_=>simp [Jk] at h
 |fn f gs=>
  cases x with
  |clo f' caps=>
   simp only [Jk] at h
   split at h
   ·rename_i hc
    simp only [Option.some.injEq] at h;subst h
    obtain ⟨rfl,hc⟩:=hc
    obtain ⟨e1,e2⟩:=JQ (nil:=nil) hF hc
    exact ⟨.clo f caps (fO gs) e1 e2,rfl,by simp only [o7,sN,uF,WS.names]⟩
   ·cases h
  |_=>simp [Jk] at h
 |mJ g'=>
  cases x with
  |mJ g=>
   simp only [Jk] at h
   split at h
   ·rename_i hc
    simp only [Option.some.injEq] at h;subst h
    exact ⟨.mJ (by rw [hF g' (by simp [WS.names]),hc];rfl),rfl,by simp [o7,W.names,WS.names]⟩
   ·cases h
  |_=>simp [Jk] at h
 |no=>simp [Jk] at h;subst h;exact ⟨.no _,rfl,by simp [o7,W.names,WS.names]⟩
 |vw g'=>
  cases x with
  |vw g lo hi=>
   simp only [Jk] at h
   split at h
   ·rename_i hc
    simp only [Option.some.injEq] at h;subst h
    have h0:vs.getD n default=lo:=At.head (At.left (YE:=[lo]) (us2:=[hi]) ha)
    have h1:vs.getD (n+1) default=hi:=At.head (At.right (YE:=[lo]) (us2:=[hi]) ha)
    refine ⟨?_,rfl,by simp [o7,W.names,WS.names]⟩
    simp only [o7,h0,h1]
    exact .vw lo hi (by rw [hF g' (by simp [WS.names]),hc];rfl)
   ·cases h
  |_=>simp [Jk] at h
 |ep g' off=>
  cases x with
  |ep g q off'=>
   simp only [Jk] at h
   split at h
   ·rename_i hc
    simp only [Option.some.injEq] at h;subst h
    obtain ⟨hc,rfl⟩:=hc
    refine ⟨?_,rfl,by simp [o7,W.names,WS.names]⟩
    simp only [o7,ha.head]
    exact .ep q off (by rw [hF g' (by simp [WS.names]),hc];rfl)
   ·cases h
  |_=>simp [Jk] at h
theorem L9 :∀{ks:List WS} {xs:List W} {us:List P} {n:Nat},(∀k∈ks,∀g∈k.names,F g=(m.lookup g).join)→(∀k∈ks,∀g∈k.names,m.lookup g=some none→nil g)→Ju m ks xs=some us→At vs n us→
  xs.length=(ku vs n ks).1.length∧(∀(j:Nat) x y,xs[j]?=some x→(ku vs n ks).1[j]?=some y→Ww Yd F nil x y)∧(ku vs n ks).2=n+us.length∧(ku vs n ks).1.flatMap W.names=ks.flatMap WS.names
 | [],xs,us,n,hF,hn,h,ha=>by
  cases xs with
  |nil=>simp [Ju] at h;subst h;exact ⟨rfl,fun j x y hx=>by simp at hx,rfl,rfl⟩
  |cons x xs=>simp [Ju] at h
 |k::ks,xs,us,n,hF,hn,h,ha=>by
  cases xs with
  |nil=>simp [Ju] at h
  |cons x xs=>
   simp only [Ju] at h
   split at h
   ·rename_i u v hu hv
    simp only [Option.some.injEq] at h;subst h
    obtain ⟨a1,a2,a3⟩:=YF (hF k (by simp)) (hn k (by simp)) hu ha.left
    have ih:=L9 (n:=n+u.length) (fun k hk=>hF k (by simp [hk])) (fun k hk=>hn k (by simp [hk])) hv ha.right
    simp only [ku,a2]
    refine ⟨by simp [ih.1],fun j x' y' hx hy => ?_,by rw [ih.2.2.1];simp;omega,by simp [a3,ih.2.2.2]⟩
    cases j with
    |zero=>simp at hx hy;subst hx hy;exact a1
    |succ j=>simp at hx hy;exact ih.2.1 j x' y' hx hy
   ·cases h
theorem afH {k:SS} {x:S} {us:List P} {n:Nat} (hF :∀g∈k.names,F g=(m.lookup g).join) (hnil :∀g∈k.names,m.lookup g=some none→nil g) (h:coS m k x=some us) (ha:At vs n us) :
  Sw Yd F nil x (mkS vs n k).1∧(mkS vs n k).2=n+us.length∧(mkS vs n k).1.names=k.names:=by
 cases k with
 |one k=>
  cases x with
  |v x=>
   cases x with
   |one x=>
    obtain ⟨a1,a2,a3⟩:=YF hF hnil h ha
    exact ⟨.v (.one a1),a2,by simpa [mkS,S.names,V.names,SS.names] using a3⟩
   |agg xs=>simp [coS] at h
  |_=>simp [coS] at h
 |agg ks=>
  cases x with
  |v x=>
   cases x with
   |one x=>simp [coS] at h
   |agg xs=>
    obtain ⟨a0,a1,a2,a3⟩:=L9 (fun k hk g hg=>hF g (by simp only [SS.names,List.mem_flatMap];exact ⟨k,hk,hg⟩)) (fun k hk g hg=>hnil g (by simp only [SS.names,List.mem_flatMap];exact ⟨k,hk,hg⟩)) h ha
    exact ⟨.v (.agg _ _ a0 a1),a2,by simpa [mkS,S.names,V.names,SS.names] using a3⟩
  |_=>simp [coS] at h
theorem Gv {s:Nat→S} :∀{L:List (Nat×SS)} {us:List P} {n:Nat},(∀p∈L,∀g∈p.2.names,F g=(m.lookup g).join)→(∀p∈L,∀g∈p.2.names,m.lookup g=some none→nil g)→qN m s L=some us→At vs n us→
  (∀t x,(bZ vs n L).1.lookup t=some x→Sw Yd F nil (s t) x∧∀g∈x.names,∃p∈L,g∈p.2.names)∧(bZ vs n L).2=n+us.length
 | [],us,n,hF,hn,h,ha=>by simp [qN] at h;subst h;exact ⟨fun t x hx=>by simp [bZ] at hx,rfl⟩
 |(t0,k)::L,us,n,hF,hn,h,ha=>by
  simp only [qN] at h
  split at h
  ·rename_i u v hu hv
   simp only [Option.some.injEq] at h;subst h
   obtain ⟨a1,a2,a3⟩:=afH (hF (t0,k) (by simp)) (hn (t0,k) (by simp)) hu ha.left
   have ih:=Gv (n:=n+u.length) (fun p hp=>hF p (by simp [hp])) (fun p hp=>hn p (by simp [hp])) hv ha.right
   simp only [bZ,a2]
   refine ⟨fun t x hx => ?_,by rw [ih.2];simp;omega⟩
   simp only [List.lookup] at hx
   split at hx
   ·rename_i he
    have he:t=t0:=by simpa using he
    subst he
    simp only [Option.some.injEq] at hx;subst hx
    exact ⟨a1,fun g hg=>⟨(t,k),by simp,by rw [a3] at hg;exact hg⟩⟩
   ·obtain ⟨b1,b2⟩:=ih.1 t x hx
    exact ⟨b1,fun g hg=>let ⟨p,hp,hg⟩:=b2 g hg;⟨p,by simp [hp],hg⟩⟩
  ·cases h
theorem afI {k:OS} {x:O} {us:List P} {n:Nat} (hF :∀g∈k.names,F g=(m.lookup g).join) (hnil :∀g∈k.names,m.lookup g=some none→nil g) (h:Ye m k x=some us) (ha:At vs n us) :
  Ow Yd F nil x (sJ vs n k).1∧(sJ vs n k).2=n+us.length∧(sJ vs n k).1.names=k.names:=by
 cases k with
 |box ks=>
  cases x with
  |box xs=>
   obtain ⟨a0,a1,a2,a3⟩:=L9 (fun k hk g hg=>hF g (by simp only [OS.names,List.mem_flatMap];exact ⟨k,hk,hg⟩)) (fun k hk g hg=>hnil g (by simp only [OS.names,List.mem_flatMap];exact ⟨k,hk,hg⟩)) h ha
   exact ⟨.box _ _ a0 a1,a2,by simpa [sJ,O.names,OS.names] using a3⟩
  |_=>simp [Ye] at h
 |arr fz a i sz=>
  cases x with
  |arr fz' a' i' sz' l=>
   simp only [Ye] at h
   split at h
   ·rename_i hc
    simp only [Option.some.injEq] at h;subst h
    obtain ⟨rfl,rfl,hc⟩:=hc
    simp only [Bool.and_eq_true] at hc
    refine ⟨?_,rfl,rfl⟩
    simp only [sJ,ha.head,P.nH]
    exact .arr fz sz l ⟨sK hc.1,sK hc.2⟩
   ·cases h
  |_=>simp [Ye] at h
 |it=>
  cases x with
  |it s p=>
   simp only [Ye,Option.some.injEq] at h
   subst h
   refine ⟨?_,rfl,rfl⟩
   have h0:vs.getD n default=s:=At.head (At.left (YE:=[s]) (us2:=[p]) ha)
   have h1:vs.getD (n+1) default=p:=At.head (At.right (YE:=[s]) (us2:=[p]) ha)
   simp only [sJ,h0,h1]
   exact .it s p
  |_=>simp [Ye] at h
 |aG a i sz ah=>
  cases x with
  |aG a' i' sz' jK l hole=>
   cases hole with
   |some q=>simp [Ye] at h
   |none=>
    simp only [Ye] at h
    split at h
    ·rename_i hc
     simp only [Option.some.injEq] at h;subst h
     obtain ⟨rfl,rfl,hc⟩:=hc
     simp only [Bool.and_eq_true] at hc
     refine ⟨?_,rfl,rfl⟩
     simp only [sJ,ha.head,P.nH]
     exact .aG sz ah l ⟨sK hc.1,sK hc.2⟩
    ·cases h
  |_=>simp [Ye] at h
end
theorem iO :∀{l:List Nat},nodupB l=true→l.Nodup
 | [],_=>List.nodup_nil
 |x::l,h=>by
  simp only [nodupB,Bool.and_eq_true,Bool.not_eq_true',List.contains_eq_mem,decide_eq_false_iff_not] at h
  exact List.nodup_cons.2 ⟨h.1,iO h.2⟩
theorem JR {vs:List P} {m:Ren} {F:Nat→Option Nat} {nil:Nat→Prop} {o:Nat→O} :∀{L:List (Nat×OS)} {us:List P} {n:Nat},(∀p∈L,∀g∈p.2.names,F g=(m.lookup g).join)→(∀p∈L,∀g∈p.2.names,m.lookup g=some none→nil g)→
  (L.map (·.1)).Nodup→uD m o L=some us→At vs n us→
  (∀g' x,(fP vs n L).1.lookup g'=some x→(g'∈L.map (·.1))∧(∀g∈x.names,∃p∈L,g∈p.2.names)∧((∃g,m.lookup g'=some (some g)∧Ow Yd F nil (o g) x)∨(m.lookup g'=some none∧x.nilA)))∧
  (∀g'∈L.map (·.1),∃x,(fP vs n L).1.lookup g'=some x)
 | [],us,n,hF,hn,hd,h,ha=>⟨fun g x hx=>by simp [fP] at hx,fun g hg=>by simp at hg⟩
 |(g0,k)::L,us,n,hF,hn,hd,h,ha=>by
  simp only [uD] at h
  split at h
  ·rename_i u v hu hv
   simp only [Option.some.injEq] at h;subst h
   simp only [List.map_cons,List.nodup_cons] at hd
   have key:(sJ vs n k).2=n+u.length∧(sJ vs n k).1.names=k.names∧((∃g,m.lookup g0=some (some g)∧Ow Yd F nil (o g) (sJ vs n k).1)∨(m.lookup g0=some none∧(sJ vs n k).1.nilA)):=by
    split at hu
    ·rename_i g hg
     obtain ⟨a1,a2,a3⟩:=afI (hF (g0,k) (by simp)) (hn (g0,k) (by simp)) hu ha.left
     exact ⟨a2,a3,.inl ⟨g,hg,a1⟩⟩
    ·rename_i hg
     split at hu
     ·rename_i a i sz
      simp only [Option.some.injEq] at hu;subst hu
      refine ⟨rfl,rfl,.inr ⟨hg,.inl ⟨a,i,sz,?_⟩⟩⟩
      simp only [sJ,ha.left.head];rfl
     ·rename_i a i sz ah
      simp only [Option.some.injEq] at hu;subst hu
      refine ⟨rfl,rfl,.inr ⟨hg,.inr ⟨a,i,sz,ah,?_⟩⟩⟩
      simp only [sJ,ha.left.head];rfl
     ·cases hu
    ·cases hu
   obtain ⟨a2,a3,a1⟩:=key
   have ih:=JR (n:=n+u.length) (fun p hp=>hF p (by simp [hp])) (fun p hp=>hn p (by simp [hp])) hd.2 hv ha.right
   simp only [fP,a2]
   refine ⟨fun g' x hx => ?_,fun g' hg' => ?_⟩
   ·simp only [List.lookup] at hx
    split at hx
    ·rename_i he
     have he:g'=g0:=by simpa using he
     subst he
     simp only [Option.some.injEq] at hx;subst hx
     exact ⟨by simp,fun g hg=>⟨(g',k),by simp,by rw [a3] at hg;exact hg⟩,a1⟩
    ·obtain ⟨b0,b1,b2⟩:=ih.1 g' x hx
     exact ⟨by simp [b0],fun g hg=>let ⟨p,hp,hg⟩:=b1 g hg;⟨p,by simp [hp],hg⟩,b2⟩
   ·simp only [List.lookup]
    by_cases he:g'=g0
    ·subst he;simp
    ·have:(g'==g0)=false:=by simpa using he
     rw [this]
     exact ih.2 g' (by simpa [he] using hg')
  ·cases h
theorem yN {f:Nat→Option Nat} {g1 g2 g:Nat} :∀{L:List Nat},L.Nodup→(L.filterMap f).Nodup→g1∈L→g2∈L→f g1=some g→f g2=some g→g1=g2
 | [],_,_,n1,_,_,_=>by cases n1
 |y::L,hnd,gW,n1,n2,m1,m2=>by
  simp only [List.nodup_cons] at hnd
  simp only [List.filterMap_cons] at gW
  have hsub :∀{z},z∈L→f z=some g→g∈L.filterMap f:=fun hz he=>List.mem_filterMap.2 ⟨_,hz,he⟩
  rcases List.mem_cons.1 n1 with e1 | e1<;>rcases List.mem_cons.1 n2 with e2 | e2
  ·rw [e1,e2]
  ·subst e1;rw [m1] at gW;simp only [List.nodup_cons] at gW;exact absurd (hsub e2 m2) gW.1
  ·subst e2;rw [m2] at gW;simp only [List.nodup_cons] at gW;exact absurd (hsub e1 m1) gW.1
  ·refine yN hnd.2 ?_ e1 e2 m1 m2
   split at gW
   ·exact gW
   ·exact (List.nodup_cons.1 gW).2
theorem rQ {j:Shape} {m:Ren} {st:St} {vs:List P} (h:coerce j m st=some vs):rO Yd (Aw j m) st (mk j vs):=by
 unfold coerce at h
 split at h
 ·rename_i hok
  split at h
  ·rename_i u v hu hv
   simp only [Option.some.injEq] at h;subst h
   simp only [Bool.and_eq_true,Shape.ok,List.all_eq_true,List.contains_eq_mem,decide_eq_true_eq] at hok
   obtain ⟨⟨⟨hnd,hsl⟩,hob⟩,gW⟩:=hok
   have hnd':=iO hnd
   have hAt:At (u++v) 0 (u++v):=fun k y hk=>by rw [Nat.zero_add];exact hk
   have hF :∀g∈j.nms,Aw j m g=(m.lookup g).join:=fun g hg=>by simp [Aw,hg]
   have BP:=fun nil (hnil :∀p∈j.aQ,∀g∈p.2.names,m.lookup g=some none→nil g)=>JR (vs:=u++v) (F:=Aw j m) (nil:=nil) (n:=u.length) (fun p hp g hg=>hF g (hob p hp g hg)) hnil hnd' hv (by
    have:=hAt.right;rwa [Nat.zero_add] at this)
   have rU:=fun nil (hnil :∀p∈j.slots,∀g∈p.2.names,m.lookup g=some none→nil g)=>Gv (vs:=u++v) (F:=Aw j m) (nil:=nil) (n:=0) (fun p hp g hg=>hF g (hsl p hp g hg)) hnil hu hAt.left
   have hlen:(bZ (u++v) 0 j.slots).2=u.length:=by have:=(rU (fun _=>True) (fun _ _ _ _ _=>trivial)).2;omega
   have hnil :∀g∈j.nms,m.lookup g=some none→((mk j (u++v)).o g).nilA:=by
    intro g hg hm
    have hO:=BP (fun _=>True) (fun _ _ _ _ _=>trivial)
    obtain ⟨x,hx⟩:=hO.2 g hg
    rcases (hO.1 g x hx).2.2 with ⟨g2,h2,_⟩ | ⟨_,e⟩
    ·rw [hm] at h2;cases h2
    ·show O.nilA (match (fP (u++v) (bZ (u++v) 0 j.slots).2 j.aQ).1.lookup g with | some x=>x | none=>.none)
     rw [hlen,hx];exact e
   have hO:=BP (fun g=>((mk j (u++v)).o g).nilA) (fun p hp g hg hm=>hnil g (hob p hp g hg) hm)
   have hS:=rU (fun g=>((mk j (u++v)).o g).nilA) (fun p hp g hg hm=>hnil g (hsl p hp g hg) hm)
   have yZ :∀g x,(mk j (u++v)).o g=x→x≠.none→(fP (u++v) u.length j.aQ).1.lookup g=some x:=by
    intro g x hx hne
    have hx:(match (fP (u++v) (bZ (u++v) 0 j.slots).2 j.aQ).1.lookup g with | some x=>x | none=>.none)=x:=hx
    rw [hlen] at hx
    cases hz:(fP (u++v) u.length j.aQ).1.lookup g with
    |none=>rw [hz] at hx;exact absurd hx.symm hne
    |some y=>rw [hz] at hx;rw [←hx]
   refine ⟨fun t => ?_,fun g' g hm => ?_,fun g' hm => ?_,fun g1 g2 g h1 h2 m1 m2 => ?_,fun t g hg => ?_,fun g0 g hg => ?_,fun g hg => ?_⟩
   ·show Sw _ _ _ (st.s t) (match (bZ (u++v) 0 j.slots).1.lookup t with | some x=>x | none=>.no)
    cases hx:(bZ (u++v) 0 j.slots).1.lookup t with
    |none=>exact .no _
    |some x=>exact (hS.1 t x hx).1
   ·by_cases hne:(mk j (u++v)).o g'=.none
    ·rw [hne];exact .none _
    ·have hx:=yZ g' _ rfl hne
     obtain ⟨b0,b1,b2⟩:=hO.1 g' _ hx
     rw [hF g' b0] at hm
     rcases b2 with ⟨g3,h3,h4⟩ | ⟨h3,_⟩
     ·rw [h3] at hm;cases hm;exact h4
     ·rw [h3] at hm;cases hm
   ·by_cases hne:(mk j (u++v)).o g'=.none
    ·exact .inl hne
    ·have hx:=yZ g' _ rfl hne
     obtain ⟨b0,b1,b2⟩:=hO.1 g' _ hx
     rw [hF g' b0] at hm
     rcases b2 with ⟨g3,h3,h4⟩ | ⟨h3,e⟩
     ·rw [h3] at hm;cases hm
     ·exact .inr e
   ·have n1:g1∈j.nms:=by have:=hO.1 g1 _ (yZ g1 _ rfl (by intro e;rw [e] at h1;cases h1));exact this.1
    have n2:g2∈j.nms:=by have:=hO.1 g2 _ (yZ g2 _ rfl (by intro e;rw [e] at h2;cases h2));exact this.1
    rw [hF g1 n1] at m1;rw [hF g2 n2] at m2
    exact yN hnd' (iO gW) n1 n2 m1 m2
   ·have hg:g∈(match (bZ (u++v) 0 j.slots).1.lookup t with | some x=>x | none=>S.no).names:=hg
    cases hx:(bZ (u++v) 0 j.slots).1.lookup t with
    |none=>rw [hx] at hg;simp [S.names] at hg
    |some x=>
     rw [hx] at hg
     obtain ⟨p,hp,hg⟩:=(hS.1 t x hx).2 g hg
     simpa [mk] using hsl p hp g hg
   ·by_cases hne:(mk j (u++v)).o g0=.none
    ·rw [hne] at hg;simp [O.names] at hg
    ·obtain ⟨b0,b1,b2⟩:=hO.1 g0 _ (yZ g0 _ rfl hne)
     obtain ⟨p,hp,hg⟩:=b1 g hg
     simpa [mk] using hob p hp g hg
   ·have:=(hO.1 g _ (yZ g _ rfl hg)).1
    simpa [mk,Shape.nms] using this
  ·cases h
 ·cases h
end Go.Fw

namespace Go.Fw
set_option linter.unusedSectionVars false
variable [dR]
set_option linter.unusedVariables false
structure yg where
 bM:Nat
 pin:Shape
 aI:Shape
 dA:Nat
 aU:List Nat
 aT:List Nat
structure Spec where
 sig:yg
 R:List P→List P→Prop
abbrev Tab:=FuncId→Option Spec
def vN (x y:Bool×Bool):Bool×Bool:=(x.1||y.1,x.2||y.2)
def L_ (xs ys:List Nat):Bool:=xs.all fun x=>!ys.contains x
def WS.flags (a i:Bool):WS→Bool
 |.p a' i'=>(a==a')&&(i==i')
 |.own _=>true
 |.box _ off=>off==0
 |.bY=>false
 |.fn _ _=>true
 |.mJ _=>false
 |.no=>false
 |.vw _=>false
 |.ep _ _=>false
def SS.flags (a i:Bool):SS→Bool
 |.one x=>x.flags a i
 |.agg xs=>xs.all (WS.flags a i)
def WS.bT (aT:List Nat):WS→Bool
 |.p _ _=>true
 |.own g=>aT.contains g
 |.box g _=>aT.contains g
 |.bY=>true
 |.fn _ gs=>gs.all fun g=>aT.contains g
 |_=>false
def SS.bT (aT:List Nat):SS→Bool
 |.one x=>x.bT aT
 |.agg xs=>xs.all (WS.bT aT)
def WS.isA:WS→Bool
 |.p a _=>a
 |_=>false
def SS.isA:SS→Bool
 |.one x=>x.isA
 |.agg xs=>xs.any WS.isA
def OS.isA:OS→Bool
 |.box ws=>ws.any WS.isA
 |.arr _ a _ _=>a
 |.it=>false
 |.aG a _ _ _=>a
def yg.lC (s:yg):Bool:=s.aI.slots.any (·.2.isA)||s.aI.aQ.any (·.2.isA)
def OS.kin:Option OS→Option OS→Bool
 |some (.box _),some (.box _)=>true
 |some (.arr _ _ _ sz),some (.arr _ _ _ sz')=>Nat.beq sz sz'
 |some (.aG _ _ sz _),some (.aG _ _ sz' _)=>Nat.beq sz sz'
 |_,_=>false
def OS.YG:Option OS→Bool
 |some (.box _)=>true
 |_=>false
def yg.ok (s:yg):Bool:=
 s.pin.ok&&s.aI.ok&&s.pin.slots.all (fun p=>p.2.flags true false&&decide (p.1<s.bM)) &&
 s.pin.aQ.all (fun p=>match p.2 with
  |.box ws=>ws.all (fun k=>k.flags false true)&&s.aU.contains p.1
  |.arr fz a i _=>!fz&&!a&&i
  |.aG a i _ _=>!a&&i
  |.it=>false) &&
 s.aI.slots.all (fun p=>p.2.bT (s.aT++s.aU)) &&
 s.aI.aQ.all (fun p=>match p.2 with
  |.box ws=>ws.all (WS.bT (s.aT++s.aU))&&((s.aU.contains p.1&&s.pin.nms.contains p.1)||s.aT.contains p.1)
  |.arr fz _ _ _=>!fz&&(s.aT.contains p.1||s.aU.contains p.1)
  |.aG _ _ _ _=>s.aT.contains p.1||s.aU.contains p.1
  |.it=>false) &&
 L_ s.aU s.aT&&nodupB s.aT&&s.aU.all (fun g=>OS.kin (s.pin.aQ.lookup g) (s.aI.aQ.lookup g))
def yg.YH (s:yg):Bool:=s.aU.all fun g=>OS.YG (s.pin.aQ.lookup g)&&OS.YG (s.aI.aQ.lookup g)
structure Jv where
 ins:List P
 A:Bool×Bool
 I:Bool×Bool
 tZ:List Nat
 ren:List (Nat×Nat)
def mW:List Nat→List W→Option (List (Nat×Nat))
 | [],[]=>some []
 |g'::gs,.box g 0::cs=>match mW gs cs with
  |some r=>some ((g',g)::r)
  |none=>none
 |_,_=>none
def fA (o:Nat→O):WS→W→Option (List P×(Bool×Bool)×List Nat×List (Nat×Nat))
 |.p _ _,x=>match x.toP o with
  |some (y,a,i,gs)=>some ([y],(a,i),gs,[])
  |none=>none
 |.own g',.own g=>some ([],(false,false),[],[(g',g)])
 |.box g' 0,.box g 0=>some ([],(false,false),[],[(g',g)])
 |.fn f gs,.clo f' caps=>if f=f' then match mW gs caps with
  |some r=>some ([],(false,false),[],r)
  |none=>none
  else none
 |_,_=>none
def jh (o:Nat→O):List WS→List W→Option (List P×(Bool×Bool)×List Nat×List (Nat×Nat))
 | [],[]=>some ([],(false,false),[],[])
 |k::ks,x::xs=>match fA o k x,jh o ks xs with
  |some (u,c,g,r),some (u',c',g',r')=>some (u++u',vN c c',g++g',r++r')
  |_,_=>none
 |_,_=>none
def nK (o:Nat→O):SS→S→Option (List P×(Bool×Bool)×List Nat×List (Nat×Nat))
 |.one k,.v (.one x)=>fA o k x
 |.agg ks,.v (.agg xs)=>jh o ks xs
 |_,_=>none
def dW (o:Nat→O) (args:List S):List (Nat×SS)→Option (List P×(Bool×Bool)×List Nat×List (Nat×Nat))
 | []=>some ([],(false,false),[],[])
 |(t,k)::rest=>match nK o k (args.getD t .no),dW o args rest with
  |some (u,c,g,r),some (u',c',g',r')=>some (u++u',vN c c',g++g',r++r')
  |_,_=>none
def Q5:WS→W→Option (List P×(Bool×Bool)×List (Nat×Nat))
 |.p _ _,.p a i x=>some ([x],(a,i),[])
 |.p _ _,.bY=>some ([.sl 0 []],(false,false),[])
 |.own g',.own g=>some ([],(false,false),[(g',g)])
 |.box g' 0,.box g 0=>some ([],(false,false),[(g',g)])
 |.fn f gs,.clo f' caps=>if f=f' then match mW gs caps with
  |some r=>some ([],(false,false),r)
  |none=>none
  else none
 |_,_=>none
def Mc:List WS→List W→Option (List P×(Bool×Bool)×List (Nat×Nat))
 | [],[]=>some ([],(false,false),[])
 |k::ks,x::xs=>match Q5 k x,Mc ks xs with
  |some (u,c,r),some (u',c',r')=>some (u++u',vN c c',r++r')
  |_,_=>none
 |_,_=>none
def iZ (o:Nat→O):List (Nat×Nat)→List (Nat×OS)→Option (List P×(Bool×Bool)×List (Nat×Nat))
 |ren,[]=>some ([],(false,false),ren)
 |ren,(g',k)::rest=>match ren.lookup g' with
  |some g=>match k,o g with
   |.box ks,.box ws=>match Mc ks ws with
    |some (u,c,r)=>match iZ o (ren++r) rest with
     |some (u',c',r')=>some (u++u',vN c c',r')
     |none=>none
    |none=>none
   |.arr _ _ _ sz,.arr false a i sz' l=>if sz=sz' then match iZ o ren rest with
    |some (u',c',r')=>some (P.fF sz l::u',vN (a,i) c',r')
    |none=>none
    else none
   |.aG _ _ sz ah,.aG a i sz' jK l Option.none=>if sz=sz'∧ah=jK then match iZ o ren rest with
    |some (u',c',r')=>some (P.fF sz l::u',vN (a,i) c',r')
    |none=>none
    else none
   |_,_=>none
  |none=>none
def jr:List (Nat×Nat)→List (Nat×Nat)
 | []=>[]
 |p::r=>match r.any fun q=>Nat.beq q.1 p.1&&Nat.beq q.2 p.2 with
  |true=>jr r
  |false=>p::jr r
def gy (s:yg) (o:Nat→O) (args:List S):Option Jv:=
 match dW o args s.pin.slots with
 |some (u,A,gs,r)=>match iZ o r s.pin.aQ with
  |some (u',I,r')=>some { ins:=u++u',A,I,tZ:=gs,ren:=jr r' }
  |none=>none
 |none=>none
def Jv.fine (c:Jv) (s:yg):Bool:=nodupB (c.ren.map (·.2))&&nodupB (c.ren.map (·.1))&&L_ (c.ren.map (·.2)) c.tZ&&(c.ren.map (·.1)).all (fun g=>s.pin.nms.contains g)
def pR (A I:Bool×Bool) (a i:Bool):Bool×Bool:=((a&&A.1)||(i&&I.1),(a&&A.2)||(i&&I.2))
def jT (f:Nat→Nat):List W→List W
 | []=>[]
 |.box g off::r=>.box (f g) off::jT f r
 |_::r=>.no::jT f r
def Q7 (A I:Bool×Bool) (f:Nat→Nat):W→W
 |.p a i x=>.p (pR A I a i).1 (pR A I a i).2 x
 |.bY=>.bY
 |.own g=>.own (f g)
 |.box g off=>.box (f g) off
 |.clo fn caps=>.clo fn (jT f caps)
 |_=>.no
def reV (A I:Bool×Bool) (f:Nat→Nat):V→V
 |.one x=>.one (Q7 A I f x)
 |.agg xs=>.agg (xs.map (Q7 A I f))
def Uz (A I:Bool×Bool) (f:Nat→Nat):S→V
 |.v x=>reV A I f x
 |_=>.one .no
def vO (A I:Bool×Bool) (f:Nat→Nat):O→O
 |.none=>.none
 |.box ws=>.box (ws.map (Q7 A I f))
 |.arr fz a i sz l=>.arr fz (pR A I a i).1 (pR A I a i).2 sz l
 |.it s n=>.it s n
 |.aG a i sz ah l _=>.aG (pR A I a i).1 (pR A I a i).2 sz ah l Option.none
def newName (d:Nat) (aT:List Nat) (g:Nat):Nat:=d+1000*aT.idxOf g
def callName (d:Nat) (s:yg) (ren:List (Nat×Nat)) (g:Nat):Nat:=match s.aU.contains g with
 |true=>match ren.lookup g with
  |some g'=>g'
  |none=>g
 |false=>newName d s.aT g
structure Eff where
 x:S
 aF:List (Nat×O)
 new:List Nat
def WH (vs:List V):S:=match vs with
 | [x]=>.v x
 |xs=>.kT xs
def gZ (s:yg) (d:Nat) (o:Nat→O) (c:Jv) (bT:List P):Eff:=
 let x:=mk s.aI bT
 let f:=callName d s c.ren
 { x:=WH ((List.range s.dA).map fun k=>Uz c.A c.I f (x.s k)),aF:=(if s.lC then c.tZ.map (aK o) else [])++c.ren.map (fun p=>(p.2,if s.aU.contains p.1 then vO c.A c.I f (x.o p.1) else .none))++s.aT.map (fun g=>(f g,vO c.A c.I f (x.o g))),new:=s.aT.map f }
def Az (same:List Nat) (e:Eff):Eff:={ e with aF:=e.aF.filter fun p=>!same.contains p.1 }
theorem rV {α:Type} {same:List Nat} {g:Nat} (hg:g∉same) :∀(l:List (Nat×α)),(l.filter fun p=>!same.contains p.1).lookup g=l.lookup g
 | []=>rfl
 |(k,x)::l=>by
  simp only [List.filter_cons]
  cases hk:same.contains k with
  |true=>
   have:(g==k)=false:=by
    cases hb:g==k with
    |false=>rfl
    |true=>
     have:g=k:=by simpa using hb
     subst this
     simp only [List.contains_eq_mem,decide_eq_true_eq] at hk
     exact absurd hk hg
   simp only [Bool.not_true,Bool.false_eq_true,if_false,List.lookup,this]
   exact rV hg l
  |false=>
   simp only [Bool.not_false,if_true,List.lookup]
   rw [rV hg l]
theorem lM {α:Type} {same:List Nat} {g:Nat} (hg:g∈same) :∀(l:List (Nat×α)),(l.filter fun p=>!same.contains p.1).lookup g=none
 | []=>rfl
 |(k,x)::l=>by
  simp only [List.filter_cons]
  cases hk:same.contains k with
  |true=>
   simp only [Bool.not_true,Bool.false_eq_true,if_false]
   exact lM hg l
  |false=>
   have:(g==k)=false:=by
    cases hb:g==k with
    |false=>rfl
    |true=>
     have:g=k:=by simpa using hb
     subst this
     simp only [List.contains_eq_mem,decide_eq_false_iff_not] at hk
     exact absurd hg hk
   simp only [Bool.not_false,if_true,List.lookup,this]
   exact lM hg l
theorem WI {st:St} {same:List Nat} {e:Eff} (h :∀g∈same,e.aF.lookup g=some (st.o g)):st.aF (Az same e).aF (Az same e).new=st.aF e.aF e.new:=by
 unfold St.aF Az
 congr 1
 funext g
 by_cases hg:g∈same
 ·simp only [lM hg,h g hg]
 ·simp only [rV hg]
inductive N8 (x:P) (K:P→Prop):Prop where
 |mk (h :∀z,z=x→K z)
theorem N8.iff {x:P} {K:P→Prop}:N8 x K↔K x:=⟨fun ⟨h⟩=>h x rfl,fun h=>⟨fun z e=>e▸h⟩⟩
def DY:Op→Bool
 |.pick .. | .binOp .. | .unOp .. | .convert .. | .index .. | .call .. | .makeSlice .. | .store .. | .buildSlice .. | .slice .. => true
 |_=>false
def guardOf (ops:Array Oper) (st:St) (j:Nat) (want:Bool):Option Bool:=
 match (ops[j]?).bind (·.dst) with
 |some t=>match st.s t with
  |.v (.one (.p _ _ (.bool b)))=>some (bif want then b else !b)
  |.kT []=>some false
  |_=>none
 |none=>none
def Eff.skip:Eff:={ x:=.kT [],aF:=[],new:=[] }
def iJ (T:Tab) (tt:TT) (d:Nat) (st:St) (o:Oper) (K:Eff→Prop):Prop:=
 match o.op with
 |.call { callee:=.value f,args,.. }=>match st.dK f with
  |.v (.one (.clo fn caps))=>match T fn with
   |some sp=>match gy sp.sig st.o ((args.toList.map st.dK)++caps.map fun x=>S.v (.one x)) with
    |some c=>(c.fine sp.sig&&decide (args.size+caps.length=sp.sig.bM))=true∧∃(bT:List P) (same:List Nat),sp.R c.ins bT∧(∀g∈same,g∈c.ren.map (·.2)∧(gZ sp.sig d st.o c bT).aF.lookup g=some (st.o g))∧K (Az same (gZ sp.sig d st.o c bT))
    |none=>False
   |none=>False
  |_=>False
 |op=>(∃dc r,dJ tt dc d st.o st.dK op o.type=some r∧r.pre∧N8 r.val fun z=>K { x:=r.dst z,aF:=r.aF z,new:=r.new })∨match kernel tt d st.o st.dK op o.type with
  |some r=>r.pre∧bif DY op then N8 r.val fun z=>K { x:=r.dst z,aF:=r.aF z,new:=r.new } else K { x:=r.dst r.val,aF:=r.aF r.val,new:=r.new }
  |none=>False
def St.eff (st:St) (dst:Option Tmp) (e:Eff):St:=(st.aF e.aF e.new).put dst e.x
def stepW (T:Tab) (tt:TT) (N:Nat) (ops:Array Oper) (o:Oper) (st:St) (K:Eff→Prop):Prop:=
 (match o.dst with
  |some d=>decide (d<N)
  |none=>true)=true∧
 match o.guard with
 |none=>iJ T tt (o.dst.getD 0) st o fun e=>e.new.all (fun g=>!st.used g)=true∧K e
 |some (j,want)=>match guardOf ops st j want with
  |some b=>bif b then iJ T tt (o.dst.getD 0) st o fun e=>e.new.all (fun g=>!st.used g)=true∧K e else K Eff.skip
  |none=>False
end Go.Fw

namespace Go.Fw
set_option linter.unusedSectionVars false
variable [dR]
set_option linter.unusedVariables false
theorem lD {α:Type} :∀{l:List (Nat×α)},(l.map (·.1)).Nodup→∀{k:Nat} {v:α},(k,v)∈l→l.lookup k=some v
 | [],_,k,v,h=>by cases h
 |(k0,v0)::l,hn,k,v,h=>by
  simp only [List.map_cons,List.nodup_cons] at hn
  simp only [List.lookup]
  rcases List.mem_cons.1 h with e | e
  ·cases e;simp
  ·have hne:(k==k0)=false:=by
    have:k∈l.map (·.1):=List.mem_map.2 ⟨(k,v),e,rfl⟩
    have:k≠k0:=fun e=>hn.1 (by rw [←e];exact this)
    simpa using this
   rw [hne]
   exact lD hn.2 e
theorem jP {α:Type} :∀{l:List (Nat×α)} {k:Nat} {v:α},l.lookup k=some v→(k,v)∈l
 | [],k,v,h=>by simp at h
 |(k0,v0)::l,k,v,h=>by
  simp only [List.lookup] at h
  split at h
  ·rename_i he
   have he:k=k0:=by simpa using he
   simp only [Option.some.injEq] at h
   subst he h;simp
  ·exact List.mem_cons_of_mem _ (jP h)
def cin (c d:Bool×Bool):Prop:=(c.1=true→d.1=true)∧(c.2=true→d.2=true)
theorem Gw (c:Bool×Bool):cin c c:=⟨id,id⟩
theorem sO {c c' d:Bool×Bool} (h:cin (vN c c') d):cin c d:=⟨fun e=>h.1 (by simp [vN,e]),fun e=>h.2 (by simp [vN,e])⟩
theorem o8 {c c' d:Bool×Bool} (h:cin (vN c c') d):cin c' d:=⟨fun e=>h.1 (by simp [vN,e]),fun e=>h.2 (by simp [vN,e])⟩
def Cio (I:Bool×Bool) (a i a' i':Bool):Prop:=a'=false∧i'=true∧cin (a,i) I
section
variable {o:Nat→O} {ins:List P} {m:Nat→Option Nat} {nil:Nat→Prop} {I:Bool×Bool}
theorem UA {a i:Bool} {a' i':Bool} (h:(WS.p a' i').flags a i=true):a'=a∧i'=i:=by
 simp only [WS.flags,Bool.and_eq_true,beq_iff_eq] at h
 exact ⟨h.1.symm,h.2.symm⟩
theorem zo {C:Bool→Bool→Bool→Bool→Prop} :∀{gs:List Nat} {caps:List W} {r:List (Nat×Nat)},mW gs caps=some r→(∀p∈r,m p.1=some p.2)→caps.length=(fO gs).length∧∀(j:Nat) x y,caps[j]?=some x→(fO gs)[j]?=some y→Ww C m nil x y
 | [],[],r,_,_=>⟨rfl,fun j x y hx=>by simp at hx⟩
 | [],_::_,r,h,_=>by simp [mW] at h
 |_::_,[],r,h,_=>by simp [mW] at h
 |g'::gs,c::cs,r,h,hm=>by
  cases c with
  |box g off=>
   cases off with
   |succ off=>simp [mW] at h
   |zero=>
    simp only [mW] at h
    split at h
    ·rename_i r' hr'
     simp only [Option.some.injEq] at h;subst h
     obtain ⟨e1,e2⟩:=zo (C:=C) hr' (fun p hp=>hm p (by simp [hp]))
     refine ⟨by simp [fO,e1],fun j x y hx hy => ?_⟩
     cases j with
     |zero=>
      simp [fO] at hx hy;subst hx hy
      exact .box (hm (g',g) (by simp))
     |succ j=>simp [fO] at hx hy;exact e2 j x y hx hy
    ·cases h
  |_=>simp [mW] at h
theorem afK {k:WS} {x:W} {us:List P} {c:Bool×Bool} {r:List (Nat×Nat)} {n:Nat} (h:Q5 k x=some (us,c,r)) (hk:k.flags false true=true) (hc:cin c I) (hm :∀p∈r,m p.1=some p.2) (ha:At ins n us) :
  Ww (Cio I) m nil x (o7 ins n k).1∧(o7 ins n k).2=n+us.length:=by
 cases k with
 |p a' i'=>
  obtain ⟨rfl,rfl⟩:=UA hk
  cases x with
  |p a i y=>
   simp only [Q5,Option.some.injEq,Prod.mk.injEq] at h
   obtain ⟨rfl,rfl,rfl⟩:=h
   exact ⟨by simp only [o7,ha.head];exact .p y ⟨rfl,rfl,hc⟩,rfl⟩
  |bY=>
   simp only [Q5,Option.some.injEq,Prod.mk.injEq] at h
   obtain ⟨rfl,rfl,rfl⟩:=h
   exact ⟨by simp only [o7,ha.head];exact .afG _ _ _,rfl⟩
  |_=>simp [Q5] at h
 |own g'=>
  cases x with
  |own g=>
   simp only [Q5,Option.some.injEq,Prod.mk.injEq] at h
   obtain ⟨rfl,rfl,rfl⟩:=h
   exact ⟨.own (hm (g',g) (by simp)),rfl⟩
  |_=>simp [Q5] at h
 |box g' off'=>
  cases x with
  |box g off=>
   cases off' with
   |succ n=>simp [Q5] at h
   |zero=>
    cases off with
    |succ n=>simp [Q5] at h
    |zero=>
     simp only [Q5,Option.some.injEq,Prod.mk.injEq] at h
     obtain ⟨rfl,rfl,rfl⟩:=h
     exact ⟨.box (hm (g',g) (by simp)),rfl⟩
  |_=>simp [Q5] at h
 |fn f gs=>
  cases x with
  |clo f' caps=>
   simp only [Q5] at h
   split at h
   ·rename_i hf
    subst hf
    split at h
    ·rename_i r' hr'
     simp only [Option.some.injEq,Prod.mk.injEq] at h
     obtain ⟨rfl,rfl,rfl⟩:=h
     obtain ⟨e1,e2⟩:=zo (C:=Cio I) (nil:=nil) hr' hm
     exact ⟨.clo f caps (fO gs) e1 e2,rfl⟩
    ·cases h
   ·cases h
  |_=>simp [Q5] at h
 |_=>simp [Q5] at h
theorem UC :∀{ks:List WS} {xs:List W} {us:List P} {c:Bool×Bool} {r:List (Nat×Nat)} {n:Nat},Mc ks xs=some (us,c,r)→(∀k∈ks,k.flags false true=true)→cin c I→(∀p∈r,m p.1=some p.2)→At ins n us→
  xs.length=(ku ins n ks).1.length∧(∀(j:Nat) x y,xs[j]?=some x→(ku ins n ks).1[j]?=some y→Ww (Cio I) m nil x y)∧(ku ins n ks).2=n+us.length
 | [],xs,us,c,r,n,h,hk,hc,hm,ha=>by
  cases xs with
  |nil=>simp [Mc] at h;obtain ⟨rfl,_⟩:=h;exact ⟨rfl,fun j x y hx=>by simp at hx,rfl⟩
  |cons x xs=>simp [Mc] at h
 |k::ks,xs,us,c,r,n,h,hk,hc,hm,ha=>by
  cases xs with
  |nil=>simp [Mc] at h
  |cons x xs=>
   simp only [Mc] at h
   split at h
   ·rename_i u c1 r1 u' c2 r2 h1 h2
    simp only [Option.some.injEq,Prod.mk.injEq] at h
    obtain ⟨rfl,rfl,rfl⟩:=h
    obtain ⟨a1,a2⟩:=afK (nil:=nil) h1 (hk k (by simp)) (sO hc) (fun p hp=>hm p (by simp [hp])) ha.left
    have ih:=UC (n:=n+u.length) h2 (fun k hk'=>hk k (by simp [hk'])) (o8 hc) (fun p hp=>hm p (by simp [hp])) ha.right
    simp only [ku,a2]
    refine ⟨by simp [ih.1],fun j x' y' hx hy => ?_,by rw [ih.2.2];simp;omega⟩
    cases j with
    |zero=>simp at hx hy;subst hx hy;exact a1
    |succ j=>simp at hx hy;exact ih.2.1 j x' y' hx hy
   ·cases h
theorem sQ :∀{L:List (Nat×OS)} {ren ren':List (Nat×Nat)} {us:List P} {c:Bool×Bool} {n:Nat},iZ o ren L=some (us,c,ren')→
  (∀p∈L,match p.2 with | .box ws =>∀k∈ws,k.flags false true=true | .arr fz a i _=>fz=false∧a=false∧i=true | .aG a i _ _=>a=false∧i=true | .it=>False)→cin c I→(∀p∈ren',m p.1=some p.2)→At ins n us→
  (∃r,ren'=ren++r)∧∀g' x,(fP ins n L).1.lookup g'=some x→∃g,m g'=some g∧Ow (Cio I) m nil (o g) x∧(g',g)∈ren'∧(o g).bF=true∧((∃ws,x=.box ws)∨(∃l sz,x=.arr false false true sz l)∨∃l sz ah,x=.aG false true sz ah l Option.none)
 | [],ren,ren',us,c,n,h,hk,hc,hm,ha=>by
  simp only [iZ,Option.some.injEq,Prod.mk.injEq] at h
  obtain ⟨rfl,rfl,rfl⟩:=h
  exact ⟨⟨[],by simp⟩,fun g' x hx=>by simp [fP] at hx⟩
 |(g0,k)::L,ren,ren',us,c,n,h,hk,hc,hm,ha=>by
  simp only [iZ] at h
  split at h
  ·rename_i g hg
   split at h
   ·rename_i ks ws hog
    split at h
    ·rename_i u c1 r1 h1
     split at h
     ·rename_i u' c2 r2 h2
      simp only [Option.some.injEq,Prod.mk.injEq] at h
      obtain ⟨rfl,rfl,rfl⟩:=h
      have hk0:=hk (g0,.box ks) (by simp)
      have ih:=fun hm'=>sQ (n:=n+u.length) h2 (fun p hp=>hk p (by simp [hp])) (o8 hc) hm' ha.right
      obtain ⟨⟨r,hr⟩,ih⟩:=ih hm
      obtain ⟨b0,b1,b2⟩:=UC (nil:=nil) h1 hk0 (sO hc) (fun p hp=>hm p (by rw [hr];simp [hp])) ha.left
      simp only [fP,sJ,b2]
      refine ⟨⟨r1++r,by rw [hr,List.append_assoc]⟩,fun g' x hx => ?_⟩
      simp only [List.lookup] at hx
      split at hx
      ·rename_i he
       have he:g'=g0:=by simpa using he
       subst he
       simp only [Option.some.injEq] at hx;subst hx
       have hmem:(g',g)∈r2:=by rw [hr,List.append_assoc];exact List.mem_append_left _ (jP hg)
       exact ⟨g,hm _ hmem,by rw [hog];exact .box _ _ b0 b1,hmem,by rw [hog];rfl,.inl ⟨_,rfl⟩⟩
      ·exact ih g' x hx
     ·cases h
    ·cases h
   ·rename_i fz0 a0 i0 sz a i sz' l hog
    split at h
    ·rename_i hsz
     split at h
     ·rename_i u' c2 r2 h2
      simp only [Option.some.injEq,Prod.mk.injEq] at h
      obtain ⟨rfl,rfl,rfl⟩:=h
      subst hsz
      have hk0:=hk (g0,.arr fz0 a0 i0 sz) (by simp)
      obtain ⟨rfl,rfl,rfl⟩:=hk0
      have hhead:At ins n [P.fF sz l]:=fun k y hk=>ha k y (by cases k with | zero=>simpa using hk | succ k=>simp at hk)
      have htail:At ins (n+1) u':=fun k y hk=>by
       have:=ha (k+1) y (by simpa using hk)
       rw [←this];congr 1;omega
      obtain ⟨⟨r,hr⟩,ih⟩:=sQ (n:=n+1) h2 (fun p hp=>hk p (by simp [hp])) (o8 hc) hm htail
      simp only [fP,sJ,hhead.head,P.nH]
      refine ⟨⟨r,hr⟩,fun g' x hx => ?_⟩
      simp only [List.lookup] at hx
      split at hx
      ·rename_i he
       have he:g'=g0:=by simpa using he
       subst he
       simp only [Option.some.injEq] at hx;subst hx
       have hmem:(g',g)∈r2:=by rw [hr];exact List.mem_append_left _ (jP hg)
       exact ⟨g,hm _ hmem,by rw [hog];exact .arr false sz l ⟨rfl,rfl,sO hc⟩,hmem,by rw [hog];rfl,.inr (.inl ⟨_,_,rfl⟩)⟩
      ·exact ih g' x hx
     ·cases h
    ·cases h
   ·rename_i a0 i0 sz ah a i sz' jK l hog
    split at h
    ·rename_i hsz
     obtain ⟨rfl,rfl⟩:=hsz
     split at h
     ·rename_i u' c2 r2 h2
      simp only [Option.some.injEq,Prod.mk.injEq] at h
      obtain ⟨rfl,rfl,rfl⟩:=h
      have hk0:=hk (g0,.aG a0 i0 sz ah) (by simp)
      obtain ⟨rfl,rfl⟩:=hk0
      have hhead:At ins n [P.fF sz l]:=fun k y hk=>ha k y (by cases k with | zero=>simpa using hk | succ k=>simp at hk)
      have htail:At ins (n+1) u':=fun k y hk=>by
       have:=ha (k+1) y (by simpa using hk)
       rw [←this];congr 1;omega
      obtain ⟨⟨r,hr⟩,ih⟩:=sQ (n:=n+1) h2 (fun p hp=>hk p (by simp [hp])) (o8 hc) hm htail
      simp only [fP,sJ,hhead.head,P.nH]
      refine ⟨⟨r,hr⟩,fun g' x hx => ?_⟩
      simp only [List.lookup] at hx
      split at hx
      ·rename_i he
       have he:g'=g0:=by simpa using he
       subst he
       simp only [Option.some.injEq] at hx;subst hx
       have hmem:(g',g)∈r2:=by rw [hr];exact List.mem_append_left _ (jP hg)
       exact ⟨g,hm _ hmem,by rw [hog];exact .aG sz ah l ⟨rfl,rfl,sO hc⟩,hmem,by rw [hog];rfl,.inr (.inr ⟨_,_,_,rfl⟩)⟩
      ·exact ih g' x hx
     ·cases h
    ·cases h
   ·cases h
  ·cases h
end
section
variable {E E':Env} {st est:St} {gh kL:Nat→Gh} {w:World} {ins:List P} {A:Bool×Bool} {tZ:List Nat} {m:Nat→Option Nat} {nil:Nat→Prop} {C:Bool→Bool→Bool→Bool→Prop}
theorem OE (hP :∀x v y a i gs,dZ E st gh w x v→x.toP st.o=some (y,a,i,gs)→cin (a,i) A→(∀g∈gs,g∈tZ)→bW w (E'.ok est kL w true false) y v) (hC:Cast C m nil E E' st est gh kL w)
  {k:WS} {x:W} {v:Value} {us:List P} {c:Bool×Bool} {gs:List Nat} {r:List (Nat×Nat)} {n:Nat} (h:fA st.o k x=some (us,c,gs,r)) (hk:k.flags true false=true) (hc:cin c A) (hgs :∀g∈gs,g∈tZ)
  (hm :∀p∈r,m p.1=some p.2) (ha:At ins n us) (hr:dZ E st gh w x v):dZ E' est kL w (o7 ins n k).1 v∧(o7 ins n k).2=n+us.length:=by
 cases k with
 |p a' i'=>
  obtain ⟨rfl,rfl⟩:=UA hk
  simp only [fA] at h
  split at h
  ·rename_i y a i gs' ht
   simp only [Option.some.injEq,Prod.mk.injEq] at h
   obtain ⟨rfl,rfl,rfl,rfl⟩:=h
   exact ⟨by simp only [o7,ha.head];exact .p _ _ _ _ (hP _ _ _ _ _ _ hr ht hc hgs),rfl⟩
  ·cases h
 |own g'=>
  cases x with
  |own g=>
   simp only [fA,Option.some.injEq,Prod.mk.injEq] at h
   obtain ⟨rfl,rfl,rfl,rfl⟩:=h
   exact ⟨hC.yY (.own (hm (g',g) (by simp))) hr,rfl⟩
  |_=>simp [fA] at h
 |box g' off=>
  cases x with
  |box g off'=>
   cases off with
   |succ off=>simp [fA] at h
   |zero=>
    cases off' with
    |succ off'=>simp [fA] at h
    |zero=>
     simp only [fA,Option.some.injEq,Prod.mk.injEq] at h
     obtain ⟨rfl,rfl,rfl,rfl⟩:=h
     exact ⟨hC.yY (.box (hm (g',g) (by simp))) hr,rfl⟩
  |_=>cases off<;>simp [fA] at h
 |fn f gs0=>
  cases x with
  |clo f' caps=>
   simp only [fA] at h
   split at h
   ·rename_i hf
    subst hf
    split at h
    ·rename_i r' hr'
     simp only [Option.some.injEq,Prod.mk.injEq] at h
     obtain ⟨rfl,rfl,rfl,rfl⟩:=h
     obtain ⟨e1,e2⟩:=zo (C:=C) (nil:=nil) hr' hm
     exact ⟨hC.yY (.clo f caps (fO gs0) e1 e2) hr,rfl⟩
    ·cases h
   ·cases h
  |_=>simp [fA] at h
 |_=>simp [fA] at h
theorem JU (hP :∀x v y a i gs,dZ E st gh w x v→x.toP st.o=some (y,a,i,gs)→cin (a,i) A→(∀g∈gs,g∈tZ)→bW w (E'.ok est kL w true false) y v) (hC:Cast C m nil E E' st est gh kL w) :
  ∀{ks:List WS} {xs:List W} {cs:List Value} {us:List P} {c:Bool×Bool} {gs:List Nat} {r:List (Nat×Nat)} {n:Nat},jh st.o ks xs=some (us,c,gs,r)→(∀k∈ks,k.flags true false=true)→cin c A→(∀g∈gs,g∈tZ)→
   (∀p∈r,m p.1=some p.2)→At ins n us→xs.length=cs.length→(∀(j:Nat) x v,xs[j]?=some x→cs[j]?=some v→dZ E st gh w x v)→
   (ku ins n ks).1.length=cs.length∧(∀(j:Nat) x v,(ku ins n ks).1[j]?=some x→cs[j]?=some v→dZ E' est kL w x v)∧(ku ins n ks).2=n+us.length
 | [],xs,cs,us,c,gs,r,n,h,hk,hc,hgs,hm,ha,hl,hr=>by
  cases xs with
  |nil=>simp [jh] at h;obtain ⟨rfl,_⟩:=h;exact ⟨hl,fun j x v hx=>by simp [ku] at hx,rfl⟩
  |cons x xs=>simp [jh] at h
 |k::ks,xs,cs,us,c,gs,r,n,h,hk,hc,hgs,hm,ha,hl,hr=>by
  cases xs with
  |nil=>simp [jh] at h
  |cons x xs=>
   cases cs with
   |nil=>simp at hl
   |cons v cs=>
    simp only [jh] at h
    split at h
    ·rename_i u c1 g1 r1 u' c2 g2 r2 h1 h2
     simp only [Option.some.injEq,Prod.mk.injEq] at h
     obtain ⟨rfl,rfl,rfl,rfl⟩:=h
     obtain ⟨a1,a2⟩:=OE hP hC h1 (hk k (by simp)) (sO hc) (fun g hg=>hgs g (by simp [hg])) (fun p hp=>hm p (by simp [hp])) ha.left (hr 0 x v rfl rfl)
     have ih:=JU hP hC (n:=n+u.length) h2 (fun k hk'=>hk k (by simp [hk'])) (o8 hc) (fun g hg=>hgs g (by simp [hg])) (fun p hp=>hm p (by simp [hp])) ha.right (by simpa using hl)
      (fun j a b ha hb=>hr (j+1) a b (by simpa using ha) (by simpa using hb))
     simp only [ku,a2]
     refine ⟨by simp [ih.1],fun j x' v' hx hv => ?_,by rw [ih.2.2];simp;omega⟩
     cases j with
     |zero=>simp at hx hv;subst hx hv;exact a1
     |succ j=>simp at hx hv;exact ih.2.1 j x' v' hx hv
    ·cases h
theorem YI (hP :∀x v y a i gs,dZ E st gh w x v→x.toP st.o=some (y,a,i,gs)→cin (a,i) A→(∀g∈gs,g∈tZ)→bW w (E'.ok est kL w true false) y v) (hC:Cast C m nil E E' st est gh kL w)
  {k:SS} {x:S} {v:Value} {us:List P} {c:Bool×Bool} {gs:List Nat} {r:List (Nat×Nat)} {n:Nat} (h:nK st.o k x=some (us,c,gs,r)) (hk:k.flags true false=true) (hc:cin c A) (hgs :∀g∈gs,g∈tZ)
  (hm :∀p∈r,m p.1=some p.2) (ha:At ins n us) (hr:cO E st gh w x v):cO E' est kL w (mkS ins n k).1 v∧(mkS ins n k).2=n+us.length:=by
 cases k with
 |one k=>
  cases x with
  |v x=>
   cases x with
   |one x=>
    obtain ⟨a1,a2⟩:=OE hP hC h hk hc hgs hm ha hr.cu
    exact ⟨cO.F8 a1,a2⟩
   |agg xs=>simp [nK] at h
  |_=>simp [nK] at h
 |agg ks=>
  cases x with
  |v x=>
   cases x with
   |one x=>simp [nK] at h
   |agg xs=>
    obtain ⟨cs,hv,hl,hone,hrr⟩:=hr.Fq
    simp only [SS.flags,List.all_eq_true] at hk
    obtain ⟨a0,a1,a2⟩:=JU hP hC h hk hc hgs hm ha hl hrr
    subst hv
    exact ⟨.v _ _ (.agg _ cs a0 hone a1),a2⟩
  |_=>simp [nK] at h
theorem AA (hP :∀x v y a i gs,dZ E st gh w x v→x.toP st.o=some (y,a,i,gs)→cin (a,i) A→(∀g∈gs,g∈tZ)→bW w (E'.ok est kL w true false) y v) (hC:Cast C m nil E E' st est gh kL w) {args:List S} {vals:Nat→Value}
  (hr :∀t,cO E st gh w (args.getD t .no) (vals t)) :
  ∀{L:List (Nat×SS)} {us:List P} {c:Bool×Bool} {gs:List Nat} {r:List (Nat×Nat)} {n:Nat},dW st.o args L=some (us,c,gs,r)→(∀p∈L,p.2.flags true false=true)→cin c A→(∀g∈gs,g∈tZ)→
   (∀p∈r,m p.1=some p.2)→At ins n us→(∀t x,(bZ ins n L).1.lookup t=some x→cO E' est kL w x (vals t))∧(bZ ins n L).2=n+us.length
 | [],us,c,gs,r,n,h,hk,hc,hgs,hm,ha=>by
  simp [dW] at h;obtain ⟨rfl,_⟩:=h;exact ⟨fun t x hx=>by simp [bZ] at hx,rfl⟩
 |(t0,k)::L,us,c,gs,r,n,h,hk,hc,hgs,hm,ha=>by
  simp only [dW] at h
  split at h
  ·rename_i u c1 g1 r1 u' c2 g2 r2 h1 h2
   simp only [Option.some.injEq,Prod.mk.injEq] at h
   obtain ⟨rfl,rfl,rfl,rfl⟩:=h
   obtain ⟨a1,a2⟩:=YI hP hC h1 (hk (t0,k) (by simp)) (sO hc) (fun g hg=>hgs g (by simp [hg])) (fun p hp=>hm p (by simp [hp])) ha.left (hr t0)
   have ih:=AA hP hC hr (n:=n+u.length) h2 (fun p hp=>hk p (by simp [hp])) (o8 hc) (fun g hg=>hgs g (by simp [hg])) (fun p hp=>hm p (by simp [hp])) ha.right
   simp only [bZ,a2]
   refine ⟨fun t x hx => ?_,by rw [ih.2];simp;omega⟩
   simp only [List.lookup] at hx
   split at hx
   ·rename_i he
    have he:t=t0:=by simpa using he
    subst he
    simp only [Option.some.injEq] at hx;subst hx
    exact a1
   ·exact ih.1 t x hx
  ·cases h
end
end Go.Fw

namespace Go.Fw
set_option linter.unusedSectionVars false
variable [dR]
set_option linter.unusedVariables false
def Enters (Pg:Program) (f:FuncId):Prop :=∀(args:Array Value) (w:World),(callFunc f args).run Pg w=.ok (.enter f args) w
def WJ (rs:List Value):Value:=match rs with
 | [v]=>v
 |vs=>.tuple vs.toArray
def Sound (Pg:Program) (f:FuncId) (sp:Spec):Prop:=sp.sig.ok=true∧Enters Pg f∧
 ∀(E:Env) (w:World) (vals:List Value) (gh:Nat→Gh) (ins bT:List P),sp.R ins bT→E.B0=w.heap.size→E.w0=w→Rel E (mk sp.sig.pin ins) gh (fun k=>vals.getD k undef) w→vals.length=sp.sig.bM→
  Calls Pg f vals.toArray w fun e w' =>∃(rs:List Value) (bD:Nat→Gh),rs.length=sp.sig.dA∧e=.returned (WJ rs)∧Rel E (mk sp.sig.aI bT) bD (fun k=>rs.getD k undef) w'∧∀g∈sp.sig.aU,((bD g).ad=(gh g).ad∧(bD g).cap=(gh g).cap)∧((mk sp.sig.pin ins).o g).like ((mk sp.sig.aI bT).o g)
theorem ab3 {o:Nat→O} {x:W} {y:P} {a i:Bool} {gs:List Nat} (h:x.toP o=some (y,a,i,gs)):vZ o gs:=by
 cases x<;>simp only [W.toP] at h
 case p=>simp only [Option.some.injEq,Prod.mk.injEq] at h;obtain ⟨_,_,_,rfl⟩:=h;exact vZ.nil
 case bY=>simp only [Option.some.injEq,Prod.mk.injEq] at h;obtain ⟨_,_,_,rfl⟩:=h;exact vZ.nil
 case own g=>
  split at h
  ·rename_i ho
   simp only [Option.some.injEq,Prod.mk.injEq] at h;obtain ⟨_,_,_,rfl⟩:=h
   exact uq ho
  ·cases h
 case vw g lo hi=>
  split at h
  ·rename_i ho
   simp only [Option.some.injEq,Prod.mk.injEq] at h;obtain ⟨_,_,_,rfl⟩:=h
   exact uq ho
  ·cases h
 all_goals cases h
theorem OG {o:Nat→O} {k:WS} {x:W} {us:List P} {c:Bool×Bool} {gs:List Nat} {r:List (Nat×Nat)} (h:fA o k x=some (us,c,gs,r)):vZ o gs:=by
 cases k with
 |p a i=>
  simp only [fA] at h
  split at h
  ·rename_i ht
   simp only [Option.some.injEq,Prod.mk.injEq] at h
   obtain ⟨_,_,rfl,_⟩:=h
   exact ab3 ht
  ·cases h
 |own g'=>cases x<;>simp [fA] at h;obtain ⟨_,_,rfl,_⟩:=h;exact vZ.nil
 |box g' off=>
  cases off with
  |succ off=>cases x<;>simp [fA] at h
  |zero=>
   cases x with
   |box g off=>cases off<;>simp [fA] at h;obtain ⟨_,_,rfl,_⟩:=h;exact vZ.nil
   |_=>simp [fA] at h
 |bY=>simp [fA] at h
 |fn f gs0=>
  cases x with
  |clo f' caps=>
   simp only [fA] at h
   split at h
   ·split at h
    ·simp only [Option.some.injEq,Prod.mk.injEq] at h;obtain ⟨_,_,rfl,_⟩:=h;exact vZ.nil
    ·cases h
   ·cases h
  |_=>simp [fA] at h
 |mJ g'=>simp [fA] at h
 |no=>simp [fA] at h
 |vw g'=>simp [fA] at h
 |ep g' off=>simp [fA] at h
theorem JV {o:Nat→O} :∀{ks:List WS} {xs:List W} {us:List P} {c:Bool×Bool} {gs:List Nat} {r:List (Nat×Nat)},jh o ks xs=some (us,c,gs,r)→vZ o gs
 | [],xs,us,c,gs,r,h=>by
  cases xs<;>simp [jh] at h
  obtain ⟨_,_,rfl,_⟩:=h;exact vZ.nil
 |k::ks,xs,us,c,gs,r,h=>by
  cases xs with
  |nil=>simp [jh] at h
  |cons x xs=>
   simp only [jh] at h
   split at h
   ·rename_i h1 h2
    simp only [Option.some.injEq,Prod.mk.injEq] at h
    obtain ⟨_,_,rfl,_⟩:=h
    exact (OG h1).append (JV h2)
   ·cases h
theorem uG {o:Nat→O} {args:List S} :∀{L:List (Nat×SS)} {us:List P} {c:Bool×Bool} {gs:List Nat} {r:List (Nat×Nat)},dW o args L=some (us,c,gs,r)→vZ o gs
 | [],us,c,gs,r,h=>by simp [dW] at h;obtain ⟨_,_,rfl,_⟩:=h;exact vZ.nil
 |(t,k)::L,us,c,gs,r,h=>by
  simp only [dW] at h
  split at h
  ·rename_i h1 h2
   simp only [Option.some.injEq,Prod.mk.injEq] at h
   obtain ⟨_,_,rfl,_⟩:=h
   refine vZ.append ?_ (uG h2)
   ·cases k with
    |one k=>
     generalize args.getD t S.no=z at h1
     cases z with
     |v z=>
      cases z with
      |one z=>exact OG h1
      |agg z=>simp [nK] at h1
     |_=>simp [nK] at h1
    |agg ks=>
     generalize args.getD t S.no=z at h1
     cases z with
     |v z=>
      cases z with
      |one z=>simp [nK] at h1
      |agg z=>exact JV h1
     |_=>simp [nK] at h1
  ·cases h
theorem uH {vs:List P} :∀{L:List (Nat×OS)} {n g:Nat},g∈L.map (·.1)→∃x,(fP vs n L).1.lookup g=some x
 | [],n,g,h=>by simp at h
 |(g0,k)::L,n,g,h=>by
  simp only [fP,List.lookup]
  by_cases e:g=g0
  ·subst e;simp
  ·have:(g==g0)=false:=by simpa using e
   rw [this]
   exact uH (by simpa [e] using h)
theorem kC {vs:List P} :∀{L:List (Nat×OS)} {n g:Nat} {x:O},(fP vs n L).1.lookup g=some x→∃k n',(g,k)∈L∧x=(sJ vs n' k).1
 | [],n,g,x,h=>by simp [fP] at h
 |(g0,k)::L,n,g,x,h=>by
  simp only [fP,List.lookup] at h
  split at h
  ·rename_i e
   have e:g=g0:=by simpa using e
   subst e
   simp only [Option.some.injEq] at h
   exact ⟨k,n,by simp,h.symm⟩
  ·obtain ⟨k',n',h1,h2⟩:=kC h
   exact ⟨k',n',by simp [h1],h2⟩
theorem wI {vs:List P} :∀{L:List (Nat×SS)} {n t:Nat} {x:S},(bZ vs n L).1.lookup t=some x→∃k n',(t,k)∈L∧x=(mkS vs n' k).1
 | [],n,t,x,h=>by simp [bZ] at h
 |(t0,k)::L,n,t,x,h=>by
  simp only [bZ,List.lookup] at h
  split at h
  ·rename_i e
   have e:t=t0:=by simpa using e
   subst e
   simp only [Option.some.injEq] at h
   exact ⟨k,n,by simp,h.symm⟩
  ·obtain ⟨k',n',h1,h2⟩:=wI h
   exact ⟨k',n',by simp [h1],h2⟩
theorem JW (vs:List P) (n:Nat) (k:WS):(o7 vs n k).1.names=k.names:=by
 cases k with
 |fn f gs=>simp only [o7,sN,uF,WS.names]
 |_=>simp [o7,W.names,WS.names]
theorem zq (vs:List P) :∀(n:Nat) (ks:List WS),(ku vs n ks).1.flatMap W.names=ks.flatMap WS.names
 |n,[]=>rfl
 |n,k::ks=>by simp [ku,JW,zq vs _ ks]
theorem WL (vs:List P) (n:Nat) (k:SS):(mkS vs n k).1.names=k.names:=by
 cases k with
 |one k=>simpa [mkS,S.names,V.names,SS.names] using JW vs n k
 |agg ks=>simpa [mkS,S.names,V.names,SS.names] using zq vs n ks
theorem WM (vs:List P) (n:Nat) (k:OS):(sJ vs n k).1.names=k.names:=by
 cases k with
 |box ks=>simpa [sJ,O.names,OS.names] using zq vs n ks
 |arr=>simp [sJ,O.names,OS.names]
 |it=>simp [sJ,O.names,OS.names]
 |aG=>simp [sJ,O.names,OS.names,dh]
theorem RF {j:Shape} {vs:List P} {g:Nat} (h:(mk j vs).o g≠.none):(fP vs (bZ vs 0 j.slots).2 j.aQ).1.lookup g=some ((mk j vs).o g):=by
 unfold mk at h ⊢
 simp only at h ⊢
 split at h
 ·rename_i x hx;rw [hx]
 ·exact absurd rfl h
theorem JX {j:Shape} {vs:List P} {g:Nat} (h:g∉j.nms):(mk j vs).o g=.none:=by
 by_cases hn:(mk j vs).o g=.none
 ·exact hn
 ·obtain ⟨k,n',h1,h2⟩:=kC (RF hn)
  exact absurd (List.mem_map.2 ⟨_,h1,rfl⟩) h
theorem aeS {j:Shape} (hj:j.ok=true) (vs:List P):(∀t,∀g∈((mk j vs).s t).names,(mk j vs).used g=true)∧(∀g,∀g'∈((mk j vs).o g).names,(mk j vs).used g'=true)∧∀g,(mk j vs).o g≠.none→(mk j vs).used g=true:=by
 simp only [Bool.and_eq_true,Shape.ok,List.all_eq_true,List.contains_eq_mem,decide_eq_true_eq] at hj
 refine ⟨fun t g hg => ?_,fun g g' hg' => ?_,fun g hg => ?_⟩
 ·have hg:g∈(match (bZ vs 0 j.slots).1.lookup t with | some x=>x | none=>S.no).names:=hg
  cases hx:(bZ vs 0 j.slots).1.lookup t with
  |none=>rw [hx] at hg;simp [S.names] at hg
  |some x=>
   rw [hx] at hg
   obtain ⟨k,n',h1,h2⟩:=wI hx
   subst h2
   simp only at hg
   rw [WL] at hg
   simpa [mk] using hj.1.2 _ h1 g hg
 ·by_cases hn:(mk j vs).o g=.none
  ·rw [hn] at hg';simp [O.names] at hg'
  ·obtain ⟨k,n',h1,h2⟩:=kC (RF hn)
   rw [h2,WM] at hg'
   simpa [mk] using hj.2 _ h1 g' hg'
 ·obtain ⟨k,n',h1,h2⟩:=kC (RF hg)
  simp only [mk,List.contains_eq_mem,decide_eq_true_eq,Shape.nms]
  exact List.mem_map.2 ⟨_,h1,rfl⟩
section
variable {E:Env} {st:St} {gh:Nat→Gh} {w:World} {val:Nat→Value}
def UD (h:Rel E st gh val w) (st1:St) (c:Jv):Env where
 FA:=fun b=>E.ok st1 gh w c.A.1 c.A.2 b
 FI:=fun b=>E.ok st gh w c.I.1 c.I.2 b
 B0:=w.heap.size
 w0:=w
 Wr:=fun b =>∃p∈c.ren,(st.o p.2).bF=true∧(gh p.2).has b
 hg:=fun g sz rows hg=>by
  obtain ⟨g1,g2,g3⟩:=E.hg g sz rows hg
  refine ⟨Nat.lt_of_lt_of_le g1 h.size,?_,fun n x hx=>⟨(g3 n x hx).1,fun j y hy => ?_⟩⟩
  ·rintro ⟨p,hp,ho,h1⟩
   rcases (h.wr p.2 g ho h1).1 with q | q
   ·omega
   ·exact g2 q
  ·obtain ⟨u,hu1,hu2⟩:=(g3 n x hx).2 j y hy
   exact ⟨u,(World.cell?_of_block (w:=E.w0) (h.frame g g1 g2)).trans hu1,hu2.mono fun _ f=>f.elim⟩
theorem DZ {vs:List P} :∀{L:List (Nat×OS)} {n:Nat} {g:Nat} {k:OS},L.lookup g=some k→∃n',(fP vs n L).1.lookup g=some (sJ vs n' k).1
 | [],n,g,k,h=>by cases h
 |(g0,k0)::L,n,g,k,h=>by
  simp only [fP,List.lookup] at h ⊢
  split at h
  ·cases h;exact ⟨_,rfl⟩
  ·exact DZ h
theorem Me {j:Shape} {vs:List P} {g:Nat} {k:OS} (h:j.aQ.lookup g=some k) :∃n',(mk j vs).o g=(sJ vs n' k).1:=by
 obtain ⟨n',h1⟩:=DZ (vs:=vs) (n:=(bZ vs 0 j.slots).2) h
 refine ⟨n',?_⟩
 show (match (fP vs (bZ vs 0 j.slots).2 j.aQ).1.lookup g with | some x=>x | none=>O.none)=_
 rw [h1]
theorem OH {j:Shape} {vs:List P} {g:Nat} (h:OS.YG (j.aQ.lookup g)=true) :∃ws,(mk j vs).o g=.box ws:=by
 cases hl:j.aQ.lookup g with
 |none=>rw [hl] at h;cases h
 |some k=>
  rw [hl] at h
  cases k with
  |box ks=>obtain ⟨n',h1⟩:=Me (vs:=vs) hl;exact ⟨_,h1⟩
  |arr=>cases h
  |it=>cases h
  |aG=>cases h
theorem yg.JY {s:yg} (h:s.YH=true) {ins bT:List P} :∀g∈s.aU,((Fw.mk s.pin ins).o g).like ((Fw.mk s.aI bT).o g):=fun g hg=>by
 have:=(List.all_eq_true.1 h) g hg
 simp only [Bool.and_eq_true] at this
 obtain ⟨ws,e1⟩:=OH (vs:=ins) this.1
 obtain ⟨ws',e2⟩:=OH (vs:=bT) this.2
 rw [e1,e2];trivial
theorem lV {p:Nat×Nat} :∀{r:List (Nat×Nat)},p∈jr r↔p∈r
 | []=>Iff.rfl
 |q::r=>by
  simp only [jr]
  cases h:(r.any fun x=>Nat.beq x.1 q.1&&Nat.beq x.2 q.2) with
  |true=>
   simp only [lV (r:=r),List.mem_cons]
   refine ⟨.inr,fun hp => ?_⟩
   rcases hp with rfl | hp
   ·obtain ⟨x,hx,e⟩:=List.any_eq_true.1 h
    simp only [Bool.and_eq_true] at e
    have e1:=Nat.eq_of_beq_eq_true e.1
    have e2:=Nat.eq_of_beq_eq_true e.2
    have:x=p:=Prod.ext e1 e2
    rw [←this];exact hx
   ·exact hp
  |false=>simp only [List.mem_cons,lV (r:=r)]
def qO:O→O
 |.arr fz _ _ sz l=>.arr fz false false sz l
 |.aG _ _ sz ah l hole=>.aG false false sz ah l hole
 |x=>x
def rW:O→Bool×Bool
 |.arr _ a i _ _=>(a,i)
 |.aG a i _ _ _ _=>(a,i)
 |_=>(false,false)
def RG:O→Bool
 |.arr _ _ _ _ _=>true
 |.aG _ _ _ _ _ _=>true
 |_=>false
theorem RH {x y:O} (h:qO x=qO y) (hf:rW x=rW y) (ha:RG x=true):x=y:=by
 cases x<;>simp only [RG,Bool.false_eq_true] at ha<;>cases y<;>simp only [qO,rW,O.arr.injEq,O.aG.injEq,Prod.mk.injEq,reduceCtorEq] at h hf
 ·obtain ⟨rfl,_,_,rfl,rfl⟩:=h;obtain ⟨rfl,rfl⟩:=hf;rfl
 ·obtain ⟨_,_,rfl,rfl,rfl,rfl⟩:=h;obtain ⟨rfl,rfl⟩:=hf;rfl
theorem WO {s:yg} (hok:s.ok=true) {o:Nat→O} {args:List S} {c:Jv} (hc:gy s o args=some c) (hf:c.fine s=true) :∀p∈c.ren,RG (o p.2)=true→qO ((mk s.pin c.ins).o p.1)=qO (o p.2):=by
 unfold gy at hc
 split at hc
 ·rename_i u A gs r hsl
  split at hc
  ·rename_i u' I r' hob
   simp only [Option.some.injEq] at hc;subst hc
   simp only [Jv.fine,Bool.and_eq_true,List.all_eq_true,L_,List.contains_eq_mem,decide_eq_true_eq,Bool.not_eq_true',decide_eq_false_iff_not,List.mem_map,forall_exists_index,and_imp,forall_apply_eq_imp_iff₂] at hf
   obtain ⟨⟨⟨hn2,hn1⟩,hdisj⟩,hkeys⟩:=hf
   have hn1:=iO hn1
   have hok':=hok
   simp only [yg.ok,Bool.and_eq_true] at hok'
   obtain ⟨⟨⟨⟨⟨⟨⟨⟨YJ,UE⟩,hps⟩,hpo⟩,_⟩,_⟩,_⟩,_⟩,_⟩:=hok'
   have hm :∀p∈r',(fun g'=>(jr r').lookup g') p.1=some p.2:=fun p hp=>lD hn1 (lV.2 hp)
   have hAt:At (u++u') 0 (u++u'):=fun k y hk=>by rw [Nat.zero_add];exact hk
   have afL :∀p∈s.pin.aQ,match p.2 with | .box ws =>∀k∈ws,k.flags false true=true | .arr fz a i _=>fz=false∧a=false∧i=true | .aG a i _ _=>a=false∧i=true | .it=>False:=by
    intro p hp
    have:=(List.all_eq_true.1 hpo) p hp
    obtain ⟨g,k⟩:=p
    cases k with
    |box ws=>
     simp only [Bool.and_eq_true,List.all_eq_true] at this
     exact fun k hk=>this.1 k hk
    |arr fz a i sz=>
     simp only [Bool.and_eq_true,Bool.not_eq_true'] at this
     exact ⟨this.1.1,this.1.2,this.2⟩
    |aG a i sz ah=>
     simp only [Bool.and_eq_true,Bool.not_eq_true'] at this
     exact this
    |it=>simp at this
   have OI:(bZ (u++u') 0 s.pin.slots).2=u.length:=by
    have :∀{L:List (Nat×SS)} {us:List P} {c:Bool×Bool} {gs:List Nat} {r:List (Nat×Nat)} {n:Nat} (vs:List P),dW o args L=some (us,c,gs,r)→(∀p∈L,p.2.flags true false=true)→(bZ vs n L).2=n+us.length:=by
     intro L
     induction L with
     |nil=>intro us c gs r n vs h _;simp [dW] at h;obtain ⟨rfl,_⟩:=h;rfl
     |cons p L ih=>
      intro us c gs r n vs h hk
      obtain ⟨t0,k⟩:=p
      simp only [dW] at h
      split at h
      ·rename_i u c1 g1 r1 u' c2 g2 r2 h1 h2
       simp only [Option.some.injEq,Prod.mk.injEq] at h
       obtain ⟨rfl,rfl,rfl,rfl⟩:=h
       have e1:(mkS vs n k).2=n+u.length:=by
        have hkk:=hk (t0,k) (by simp)
        have one :∀(k:WS) (x:W) (us:List P) (c:Bool×Bool) (gs:List Nat) (r:List (Nat×Nat)) (n:Nat),fA o k x=some (us,c,gs,r)→(o7 vs n k).2=n+us.length:=by
         intro k x us c gs r n h
         cases k with
         |p a i=>
          simp only [fA] at h
          split at h
          ·simp only [Option.some.injEq,Prod.mk.injEq] at h;obtain ⟨rfl,_⟩:=h;rfl
          ·cases h
         |own g'=>cases x<;>simp [fA] at h;obtain ⟨rfl,_⟩:=h;rfl
         |box g' off=>
          cases off with
          |succ off=>cases x<;>simp [fA] at h
          |zero=>
           cases x with
           |box g off=>cases off<;>simp [fA] at h;obtain ⟨rfl,_⟩:=h;rfl
           |_=>simp [fA] at h
         |bY=>simp [fA] at h
         |fn f gs0=>
          cases x with
          |clo f' caps=>
           simp only [fA] at h
           split at h
           ·split at h
            ·simp only [Option.some.injEq,Prod.mk.injEq] at h;obtain ⟨rfl,_⟩:=h;rfl
            ·cases h
           ·cases h
          |_=>simp [fA] at h
         |mJ g'=>simp [fA] at h
         |no=>simp [fA] at h
         |vw g'=>simp [fA] at h
         |ep g' off=>simp [fA] at h
        cases k with
        |one k=>
         generalize args.getD t0 S.no=z at h1
         cases z with
         |v z=>
          cases z with
          |one z=>exact one k z _ _ _ _ n h1
          |agg z=>simp [nK] at h1
         |_=>simp [nK] at h1
        |agg ks=>
         generalize args.getD t0 S.no=z at h1
         cases z with
         |v z=>
          cases z with
          |one z=>simp [nK] at h1
          |agg z=>
           have :∀(ks:List WS) (z:List W) (us:List P) (c:Bool×Bool) (gs:List Nat) (r:List (Nat×Nat)) (n:Nat),jh o ks z=some (us,c,gs,r)→(ku vs n ks).2=n+us.length:=by
            intro ks
            induction ks with
            |nil=>intro z us c gs r n h;cases z<;>simp [jh] at h;obtain ⟨rfl,_⟩:=h;rfl
            |cons k ks ih=>
             intro z us c gs r n h
             cases z with
             |nil=>simp [jh] at h
             |cons x xs=>
              simp only [jh] at h
              split at h
              ·rename_i u c1 g1 r1 u' c2 g2 r2 h1 h2
               simp only [Option.some.injEq,Prod.mk.injEq] at h
               obtain ⟨rfl,rfl,rfl,rfl⟩:=h
               simp only [ku]
               rw [one k x _ _ _ _ n h1,ih _ _ _ _ _ _ h2];simp;omega
              ·cases h
           exact this ks z _ _ _ _ n h1
         |_=>simp [nK] at h1
       simp only [bZ]
       rw [e1,ih vs h2 (fun p hp=>hk p (by simp [hp]))];simp;omega
      ·cases h
    have:=this (n:=0) (u++u') hsl (fun p hp=>by have:=(List.all_eq_true.1 hps) p hp;simp only [Bool.and_eq_true] at this;exact this.1)
    omega
   obtain ⟨⟨r0,hr0⟩,OJ⟩:=sQ (m:=fun g'=>(jr r').lookup g') (nil:=fun _=>False) (I:=I) (ins:=u++u') (n:=u.length) hob afL (Gw I) hm (by have:=hAt.right;rwa [Nat.zero_add] at this)
   have BP :∀g' x,(mk s.pin (u++u')).o g'=x→x≠.none→∃g,(jr r').lookup g'=some g∧Ow (Cio I) (fun g'=>(jr r').lookup g') (fun _=>False) (o g) x∧(g',g)∈jr r'∧(o g).bF=true∧((∃ws,x=.box ws)∨(∃l sz,x=.arr false false true sz l)∨∃l sz ah,x=.aG false true sz ah l none):=by
    intro g' x hx hne
    have:=RF (j:=s.pin) (vs:=u++u') (g:=g') (by rw [hx];exact hne)
    rw [OI,hx] at this
    obtain ⟨g,k1,k2,k3,k4⟩:=OJ g' x this
    exact ⟨g,k1,k2,lV.2 k3,k4⟩
   intro p hp ha
   have hkey:p.1∈s.pin.aQ.map (·.1):=hkeys p hp
   obtain ⟨x,hx⟩:=uH (vs:=u++u') (n:=u.length) hkey
   obtain ⟨g,hg,how,hmem,hown,hsh⟩:=OJ p.1 x hx
   have hl:=lD hn1 hp
   have:g=p.2:=by have hg':(jr r').lookup p.1=some g:=hg;rw [hl] at hg';exact (Option.some.inj hg').symm
   subst this
   have hmk:(mk s.pin (u++u')).o p.1=x:=by
    show (match (fP (u++u') (bZ (u++u') 0 s.pin.slots).2 s.pin.aQ).1.lookup p.1 with | some x=>x | none=>O.none)=x
    rw [OI,hx]
   rw [hmk]
   generalize hz:o p.2=z at how ha
   rcases hsh with ⟨ws,rfl⟩ | ⟨l,sz,rfl⟩ | ⟨l,sz,ah,rfl⟩
   ·cases how;cases ha
   ·cases how;rfl
   ·cases how;rfl
  ·cases hc
 ·cases hc
theorem RI (h:Rel E st gh val w) {s:yg} (hok:s.ok=true) {args:List S} {vals:Nat→Value} (hr :∀t,cO E st gh w (args.getD t .no) (vals t)) {c:Jv} (hc:gy s st.o args=some c) (hf:c.fine s=true)
  (st1:St) (hst1:st1=st.aF (c.tZ.map (Fw.aK st.o)) []) (E':Env) (hE':E'=UD h st1 c) :
  Rel E st1 gh val w∧Lets E st st1 gh gh w w∧Rel E' (mk s.pin c.ins) (iY gh fun g'=>c.ren.lookup g') vals w∧
  (∀p∈c.ren,(st.o p.2).bF=true∧p.2∉c.tZ∧c.ren.lookup p.1=some p.2∧((s.aU.contains p.1=true∧∃ws ws',st.o p.2=.box ws∧(mk s.pin c.ins).o p.1=.box ws')∨(∃a i sz l,st.o p.2=.arr false a i sz l∧cin (a,i) c.I∧(mk s.pin c.ins).o p.1=.arr false false true sz l)∨(∃a i sz ah l,st.o p.2=.aG a i sz ah l none∧cin (a,i) c.I∧(mk s.pin c.ins).o p.1=.aG false true sz ah l none))):=by
 unfold gy at hc
 split at hc
 ·rename_i u A gs r hsl
  split at hc
  ·rename_i u' I r' hob
   simp only [Option.some.injEq] at hc;subst hc
   simp only [Jv.fine,Bool.and_eq_true,List.all_eq_true,L_,List.contains_eq_mem,decide_eq_true_eq,Bool.not_eq_true',decide_eq_false_iff_not,List.mem_map,forall_exists_index,and_imp,forall_apply_eq_imp_iff₂] at hf
   obtain ⟨⟨⟨hn2,hn1⟩,hdisj⟩,hkeys⟩:=hf
   have hn1:=iO hn1
   have hok':=hok
   simp only [yg.ok,Bool.and_eq_true] at hok'
   obtain ⟨⟨⟨⟨⟨⟨⟨⟨YJ,UE⟩,hps⟩,hpo⟩,_⟩,_⟩,_⟩,_⟩,_⟩:=hok'
   have afM:=uG hsl
   obtain ⟨f1,f2⟩:=Rel.freezes gs h afM
   subst hst1
   have hm :∀p∈r',(fun g'=>(jr r').lookup g') p.1=some p.2:=fun p hp=>lD hn1 (lV.2 hp)
   have hAt:At (u++u') 0 (u++u'):=fun k y hk=>by rw [Nat.zero_add];exact hk
   have afL :∀p∈s.pin.aQ,match p.2 with | .box ws =>∀k∈ws,k.flags false true=true | .arr fz a i _=>fz=false∧a=false∧i=true | .aG a i _ _=>a=false∧i=true | .it=>False:=by
    intro p hp
    have:=(List.all_eq_true.1 hpo) p hp
    obtain ⟨g,k⟩:=p
    cases k with
    |box ws=>
     simp only [Bool.and_eq_true,List.all_eq_true] at this
     exact fun k hk=>this.1 k hk
    |arr fz a i sz=>
     simp only [Bool.and_eq_true,Bool.not_eq_true'] at this
     exact ⟨this.1.1,this.1.2,this.2⟩
    |aG a i sz ah=>
     simp only [Bool.and_eq_true,Bool.not_eq_true'] at this
     exact this
    |it=>simp at this
   have OI:(bZ (u++u') 0 s.pin.slots).2=u.length:=by
    have :∀{L:List (Nat×SS)} {us:List P} {c:Bool×Bool} {gs:List Nat} {r:List (Nat×Nat)} {n:Nat} (vs:List P),dW st.o args L=some (us,c,gs,r)→(∀p∈L,p.2.flags true false=true)→(bZ vs n L).2=n+us.length:=by
     intro L
     induction L with
     |nil=>intro us c gs r n vs h _;simp [dW] at h;obtain ⟨rfl,_⟩:=h;rfl
     |cons p L ih=>
      intro us c gs r n vs h hk
      obtain ⟨t0,k⟩:=p
      simp only [dW] at h
      split at h
      ·rename_i u c1 g1 r1 u' c2 g2 r2 h1 h2
       simp only [Option.some.injEq,Prod.mk.injEq] at h
       obtain ⟨rfl,rfl,rfl,rfl⟩:=h
       have e1:(mkS vs n k).2=n+u.length:=by
        have hkk:=hk (t0,k) (by simp)
        have one :∀(k:WS) (x:W) (us:List P) (c:Bool×Bool) (gs:List Nat) (r:List (Nat×Nat)) (n:Nat),fA st.o k x=some (us,c,gs,r)→(o7 vs n k).2=n+us.length:=by
         intro k x us c gs r n h
         cases k with
         |p a i=>
          simp only [fA] at h
          split at h
          ·simp only [Option.some.injEq,Prod.mk.injEq] at h;obtain ⟨rfl,_⟩:=h;rfl
          ·cases h
         |own g'=>cases x<;>simp [fA] at h;obtain ⟨rfl,_⟩:=h;rfl
         |box g' off=>
          cases off with
          |succ off=>cases x<;>simp [fA] at h
          |zero=>
           cases x with
           |box g off=>cases off<;>simp [fA] at h;obtain ⟨rfl,_⟩:=h;rfl
           |_=>simp [fA] at h
         |bY=>simp [fA] at h
         |fn f gs0=>
          cases x with
          |clo f' caps=>
           simp only [fA] at h
           split at h
           ·split at h
            ·simp only [Option.some.injEq,Prod.mk.injEq] at h;obtain ⟨rfl,_⟩:=h;rfl
            ·cases h
           ·cases h
          |_=>simp [fA] at h
         |mJ g'=>simp [fA] at h
         |no=>simp [fA] at h
         |vw g'=>simp [fA] at h
         |ep g' off=>simp [fA] at h
        cases k with
        |one k=>
         generalize args.getD t0 S.no=z at h1
         cases z with
         |v z=>
          cases z with
          |one z=>exact one k z _ _ _ _ n h1
          |agg z=>simp [nK] at h1
         |_=>simp [nK] at h1
        |agg ks=>
         generalize args.getD t0 S.no=z at h1
         cases z with
         |v z=>
          cases z with
          |one z=>simp [nK] at h1
          |agg z=>
           have :∀(ks:List WS) (z:List W) (us:List P) (c:Bool×Bool) (gs:List Nat) (r:List (Nat×Nat)) (n:Nat),jh st.o ks z=some (us,c,gs,r)→(ku vs n ks).2=n+us.length:=by
            intro ks
            induction ks with
            |nil=>intro z us c gs r n h;cases z<;>simp [jh] at h;obtain ⟨rfl,_⟩:=h;rfl
            |cons k ks ih=>
             intro z us c gs r n h
             cases z with
             |nil=>simp [jh] at h
             |cons x xs=>
              simp only [jh] at h
              split at h
              ·rename_i u c1 g1 r1 u' c2 g2 r2 h1 h2
               simp only [Option.some.injEq,Prod.mk.injEq] at h
               obtain ⟨rfl,rfl,rfl,rfl⟩:=h
               simp only [ku]
               rw [one k x _ _ _ _ n h1,ih _ _ _ _ _ _ h2];simp;omega
              ·cases h
           exact this ks z _ _ _ _ n h1
         |_=>simp [nK] at h1
       simp only [bZ]
       rw [e1,ih vs h2 (fun p hp=>hk p (by simp [hp]))];simp;omega
      ·cases h
    have:=this (n:=0) (u++u') hsl (fun p hp=>by have:=(List.all_eq_true.1 hps) p hp;simp only [Bool.and_eq_true] at this;exact this.1)
    omega
   obtain ⟨⟨r0,hr0⟩,OJ⟩:=sQ (m:=fun g'=>(jr r').lookup g') (nil:=fun _=>False) (I:=I) (ins:=u++u') (n:=u.length) hob afL (Gw I) hm (by have:=hAt.right;rwa [Nat.zero_add] at this)
   have BP :∀g' x,(mk s.pin (u++u')).o g'=x→x≠.none→∃g,(jr r').lookup g'=some g∧Ow (Cio I) (fun g'=>(jr r').lookup g') (fun _=>False) (st.o g) x∧(g',g)∈jr r'∧(st.o g).bF=true∧((∃ws,x=.box ws)∨(∃l sz,x=.arr false false true sz l)∨∃l sz ah,x=.aG false true sz ah l none):=by
    intro g' x hx hne
    have:=RF (j:=s.pin) (vs:=u++u') (g:=g') (by rw [hx];exact hne)
    rw [OI,hx] at this
    obtain ⟨g,k1,k2,k3,k4⟩:=OJ g' x this
    exact ⟨g,k1,k2,lV.2 k3,k4⟩
   have gW :∀p∈jr r',(st.o p.2).bF=true∧p.2∉gs∧(jr r').lookup p.1=some p.2∧((s.aU.contains p.1=true∧∃ws ws',st.o p.2=.box ws∧(mk s.pin (u++u')).o p.1=.box ws')∨(∃a i sz l,st.o p.2=.arr false a i sz l∧cin (a,i) I∧(mk s.pin (u++u')).o p.1=.arr false false true sz l)∨(∃a i sz ah l,st.o p.2=.aG a i sz ah l none∧cin (a,i) I∧(mk s.pin (u++u')).o p.1=.aG false true sz ah l none)):=by
    intro p hp
    have hkey:p.1∈s.pin.aQ.map (·.1):=hkeys p hp
    obtain ⟨x,hx⟩:=uH (vs:=u++u') (n:=u.length) hkey
    obtain ⟨g,hg,how,hmem,hown,_⟩:=OJ p.1 x hx
    have hl:=lD hn1 hp
    have:g=p.2:=by have hg':(jr r').lookup p.1=some g:=hg;rw [hl] at hg';exact (Option.some.inj hg').symm
    subst this
    refine ⟨hown,hdisj p hp,hl,?_⟩
    have hmk:(mk s.pin (u++u')).o p.1=x:=by
     show (match (fP (u++u') (bZ (u++u') 0 s.pin.slots).2 s.pin.aQ).1.lookup p.1 with | some x=>x | none=>O.none)=x
     rw [OI,hx]
    obtain ⟨k,n',h1,h2⟩:=kC hx
    have hk:=(List.all_eq_true.1 hpo) _ h1
    rw [hmk]
    subst h2
    cases k with
    |box ws=>
     simp only [Bool.and_eq_true] at hk
     generalize hz:st.o p.2=z at how
     cases how
     exact .inl ⟨hk.2,_,_,rfl,rfl⟩
    |arr fz a i sz=>
     simp only [Bool.and_eq_true,Bool.not_eq_true'] at hk
     obtain ⟨⟨rfl,rfl⟩,rfl⟩:=hk
     generalize hz:st.o p.2=z at how
     refine .inr (.inl ?_)
     cases how with | arr _ _ _ hc=>exact ⟨_,_,_,_,rfl,hc.2.2,rfl⟩
    |aG a i sz ah=>
     simp only [Bool.and_eq_true,Bool.not_eq_true'] at hk
     obtain ⟨rfl,rfl⟩:=hk
     generalize hz:st.o p.2=z at how
     refine .inr (.inr ?_)
     cases how with | aG _ _ _ hc=>exact ⟨_,_,_,_,_,rfl,hc.2.2,rfl⟩
    |it=>simp at hk
   have oI :∀g' b,((mk s.pin (u++u')).o g').bF=true→(iY gh (fun g'=>(jr r').lookup g') g').has b→∃g,(g',g)∈jr r'∧(st.o g).bF=true∧(gh g).has b∧g∉gs:=by
    intro g' b ho had
    obtain ⟨g,hg,_,hmem,hown,_⟩:=BP g' _ rfl (by intro e;rw [e] at ho;cases ho)
    refine ⟨g,hmem,hown,?_,(gW _ hmem).2.1⟩
    simpa [iY,hg] using had
   have ah_ :∀g,g∉gs→(st.aF (gs.map (Fw.aK st.o)) []).o g=st.o g:=by
    intro g hg
    rw [fJ,if_neg hg]
   have hcast:Cast (Cio I) (fun g'=>(jr r').lookup g') (fun _=>False) E E' st (mk s.pin (u++u')) gh (iY gh fun g'=>(jr r').lookup g') w:=by
    refine ⟨fun a i a' i' b hC hb => ?_,fun g g' hg sz len ho=>⟨by simp only [iY,hg];exact ⟨trivial,trivial⟩,?_⟩,fun g g' hg ws ho=>⟨by simp only [iY,hg],?_⟩,fun g g' hg s n ho=>⟨by simp only [iY,hg],?_⟩,fun g' hf=>hf.elim⟩
    ·obtain ⟨rfl,rfl,hci⟩:=hC
     subst hE'
     refine ⟨.inr (.inl ⟨rfl,.inl (Env.n_ hci.1 hci.2 hb)⟩),hb.2.1,fun g' ho had => ?_⟩
     obtain ⟨g,_,h1,h2,_⟩:=oI g' b ho had
     exact hb.2.2 g h1 h2
    ·obtain ⟨g2,hg2,how,_⟩:=BP g' _ rfl (by intro e;rw [e] at ho;cases ho)
     rw [hg] at hg2;cases hg2
     exact how.dim ho
    ·obtain ⟨g2,hg2,how,_⟩:=BP g' _ ho (by simp)
     rw [hg] at hg2;cases hg2
     generalize st.o g=z at how
     cases how;exact ⟨_,rfl⟩
    ·obtain ⟨g2,hg2,how,_⟩:=BP g' _ ho (by simp)
     rw [hg] at hg2;cases hg2
     generalize st.o g=z at how
     cases how;exact ⟨_,_,rfl⟩
   have hP :∀x v y a i gs',dZ E st gh w x v→x.toP st.o=some (y,a,i,gs')→cin (a,i) A→(∀g∈gs',g∈gs)→bW w (E'.ok (mk s.pin (u++u')) (iY gh fun g'=>(jr r').lookup g') w true false) y v:=by
    intro x v y a i gs' hrx ht hci hsub
    have:=(LQ h hrx ht).2 _ (fun g hg=>by rw [fJ,if_pos (hsub g hg)]) f1 f2
    refine this.mono fun b hb=>⟨?_,rfl⟩
    subst hE'
    refine ⟨.inl ⟨rfl,Env.n_ hci.1 hci.2 hb⟩,hb.2.1,fun g' ho had => ?_⟩
    obtain ⟨g,_,h1,h2,h3⟩:=oI g' b ho had
    exact hb.2.2 g (by rw [ah_ g h3];exact h1) h2
   have aln :∀p∈s.pin.slots,p.2.flags true false=true:=fun p hp=>by have:=(List.all_eq_true.1 hps) p hp;simp only [Bool.and_eq_true] at this;exact this.1
   have rU:=(AA hP hcast hr (n:=0) hsl aln (Gw A) (fun g hg=>hg) (fun p hp=>hm p (by rw [hr0];exact List.mem_append_left _ hp)) hAt.left).1
   have hus:=aeS YJ (u++u')
   refine ⟨f1,f2,⟨fun t => ?_,fun g' => ?_,fun g1 g2 b h1 h2 k1 k2 => ?_,fun g' b ho had => ?_,fun g' i b ho had hw => ?_,fun g' ho hd b => ?_,fun b hb => ?_,fun b _ _ => ?_,?_,?_,?_,?_,hus.1,hus.2.1,hus.2.2⟩,gW⟩
   ·show cO _ _ _ _ (match (bZ (u++u') 0 s.pin.slots).1.lookup t with | some x=>x | none=>.no) _
    cases hx:(bZ (u++u') 0 s.pin.slots).1.lookup t with
    |none=>exact .no _
    |some x=>exact rU t x hx
   ·by_cases hne:(mk s.pin (u++u')).o g'=.none
    ·rw [hne];trivial
    ·obtain ⟨g,hg,how,_⟩:=BP g' _ rfl hne
     have:iY gh (fun g'=>(jr r').lookup g') g'=gh g:=by simp only [iY,hg]
     rw [this]
     exact hcast.Ae how (h.aQ g)
   ·obtain ⟨q1,m1,o1,d1,_⟩:=oI g1 b h1 k1
    obtain ⟨q2,m2,o2,d2,_⟩:=oI g2 b h2 k2
    have:=h.inj q1 q2 b o1 o2 d1 d2
    subst this
    have hn2:=iO hn2
    have key :∀{l:List (Nat×Nat)},(l.map (·.2)).Nodup→(g1,q1)∈l→(g2,q1)∈l→g1=g2:=by
     intro l
     induction l with
     |nil=>intro _ h;cases h
     |cons p l ih=>
      intro hn e1 e2
      simp only [List.map_cons,List.nodup_cons] at hn
      rcases List.mem_cons.1 e1 with f1 | f1<;>rcases List.mem_cons.1 e2 with f2 | f2
      ·rw [←f1] at f2;cases f2;rfl
      ·have:q1∈l.map (·.2):=List.mem_map.2 ⟨(g2,q1),f2,rfl⟩
       rw [←f1] at hn;exact absurd this hn.1
      ·have:q1∈l.map (·.2):=List.mem_map.2 ⟨(g1,q1),f1,rfl⟩
       rw [←f2] at hn;exact absurd this hn.1
      ·exact ih hn.2 f1 f2
    exact key hn2 m1 m2
   ·obtain ⟨g,hmem,h1,h2,_⟩:=oI g' b ho had
    subst hE'
    exact ⟨.inr ⟨(g',g),hmem,h1,h2⟩,(h.wr g b h1 h2).2⟩
   ·obtain ⟨g,hg,how,hmem,hown,hsh⟩:=BP g' _ rfl (by intro e;rw [e] at ho;cases ho)
    rcases hsh with ⟨ws,e⟩ | ⟨l',sz',e⟩ | ⟨l',sz',ah,e⟩
    ·rw [e] at ho;cases ho
    ·rw [e] at ho;cases ho;rfl
    ·rw [e] at ho;cases ho;rfl
   ·obtain ⟨g,hg,how,hmem,hown,hsh⟩:=BP g' _ rfl (by intro e;rw [e] at ho;cases ho)
    have e:iY gh (fun g'=>(jr r').lookup g') g'=gh g:=by simp only [iY,hg]
    rw [e]
    exact h.ns g hown (by rw [(how.bF ho).2];exact hd) b
   ·subst hE'
    obtain ⟨p,hp,_,h1⟩:=hb
    exact (h.wr p.2 b (gW p hp).1 h1).2
   ·subst hE';rfl
   ·subst hE';exact Nat.le_refl _
   ·subst hE';rfl
   ·subst hE';rfl
   ·subst hE';rfl
  ·cases hc
 ·cases hc
end
end Go.Fw

namespace Go.Fw
set_option linter.unusedSectionVars false
variable [dR]
set_option linter.unusedVariables false
def D5 (A I:Bool×Bool) (lk:Bool) (a i a' i':Bool):Prop:=(a',i')=pR A I a i∧(a=true→lk=true)
section
variable {A I:Bool×Bool} {lk:Bool} {m:Nat→Option Nat} {f:Nat→Nat} {aT:List Nat} {vs:List P}
theorem aeT (hm :∀g∈aT,m (f g)=some g) {k:WS} (hk:k.bT aT=true) (hl:k.isA=true→lk=true) (n:Nat) :
  Ww (D5 A I lk) m (fun _=>False) (o7 vs n k).1 (Q7 A I f (o7 vs n k).1)∧∀g∈(Q7 A I f (o7 vs n k).1).names,∃g0∈aT,g=f g0:=by
 cases k with
 |p a i=>exact ⟨.p _ ⟨rfl,hl⟩,by simp [o7,Q7,W.names]⟩
 |own g=>
  simp only [WS.bT,List.contains_eq_mem,decide_eq_true_eq] at hk
  exact ⟨.own (hm g hk),fun g' hg'=>⟨g,hk,by simpa [o7,Q7,W.names] using hg'⟩⟩
 |bY=>exact ⟨.bY,by simp [o7,Q7,W.names]⟩
 |box g off=>
  simp only [WS.bT,List.contains_eq_mem,decide_eq_true_eq] at hk
  exact ⟨.box (hm g hk),fun g' hg'=>⟨g,hk,by simpa [o7,Q7,W.names] using hg'⟩⟩
 |fn fn gs=>
  have hk :∀g∈gs,g∈aT:=by simpa [WS.bT,List.all_eq_true] using hk
  have key :∀(gs:List Nat),(∀g∈gs,g∈aT)→(fO gs).length=(jT f (fO gs)).length∧(∀(j:Nat) x y,(fO gs)[j]?=some x→(jT f (fO gs))[j]?=some y→Ww (D5 A I lk) m (fun _=>False) x y)∧∀g∈(jT f (fO gs)).flatMap W.names,∃g0∈aT,g=f g0:=by
   intro gs
   induction gs with
   |nil=>intro _;exact ⟨rfl,fun j x y hx=>(by simp [fO] at hx),by simp [fO,jT]⟩
   |cons g gs ih=>
    intro h
    obtain ⟨e1,e2,e3⟩:=ih fun g hg=>h g (by simp [hg])
    refine ⟨by simp [fO,jT,e1],fun j x y hx hy => ?_,fun g' hg' => ?_⟩
    ·cases j with
     |zero=>
      simp [fO,jT] at hx hy;subst hx hy
      exact .box (hm g (h g (by simp)))
     |succ j=>simp [fO,jT] at hx hy;exact e2 j x y hx hy
    ·simp only [fO,jT,List.flatMap_cons,List.mem_append] at hg'
     rcases hg' with hg' | hg'
     ·exact ⟨g,h g (by simp),by simpa [W.names] using hg'⟩
     ·exact e3 g' hg'
  obtain ⟨e1,e2,e3⟩:=key gs hk
  exact ⟨.clo fn _ _ e1 e2,fun g hg=>by
   have hg:g∈(W.clo fn (jT f (fO gs))).names:=hg
   rw [sN] at hg
   exact e3 g hg⟩
 |mJ g=>cases hk
 |no=>cases hk
 |vw g=>cases hk
 |ep g off=>cases hk
theorem OL :∀{ks:List WS} {n:Nat} {x:W},x∈(ku vs n ks).1→∃k∈ks,∃n',x=(o7 vs n' k).1
 | [],n,x,h=>by simp [ku] at h
 |k::ks,n,x,h=>by
  simp only [ku,List.mem_cons] at h
  rcases h with h | h
  ·exact ⟨k,by simp,n,h⟩
  ·obtain ⟨k',h1,h2⟩:=OL h
   exact ⟨k',by simp [h1],h2⟩
theorem YK (hm :∀g∈aT,m (f g)=some g) {ks:List WS} (hk:ks.all (WS.bT aT)=true) (hl:ks.any WS.isA=true→lk=true) (n:Nat) :
  (∀(j:Nat) x y,(ku vs n ks).1[j]?=some x→((ku vs n ks).1.map (Q7 A I f))[j]?=some y→Ww (D5 A I lk) m (fun _=>False) x y)∧
  ∀g∈((ku vs n ks).1.map (Q7 A I f)).flatMap W.names,∃g0∈aT,g=f g0:=by
 have key :∀x∈(ku vs n ks).1,Ww (D5 A I lk) m (fun _=>False) x (Q7 A I f x)∧∀g∈(Q7 A I f x).names,∃g0∈aT,g=f g0:=by
  intro x hx
  obtain ⟨k,h1,n',rfl⟩:=OL hx
  exact aeT hm ((List.all_eq_true.1 hk) k h1) (fun h=>hl (List.any_eq_true.2 ⟨k,h1,h⟩)) n'
 refine ⟨fun j x y hx hy => ?_,fun g hg => ?_⟩
 ·rw [List.getElem?_map,hx] at hy
  simp only [Option.map_some,Option.some.injEq] at hy
  subst hy
  exact (key x (List.mem_of_getElem? hx)).1
 ·simp only [List.mem_flatMap,List.mem_map] at hg
  obtain ⟨_,⟨x,hx,rfl⟩,hg⟩:=hg
  exact (key x hx).2 g hg
theorem aia (hm :∀g∈aT,m (f g)=some g) {k:SS} (hk:k.bT aT=true) (hl:k.isA=true→lk=true) (n:Nat) :
  ∃x,(mkS vs n k).1=.v x∧Vw (D5 A I lk) m (fun _=>False) x (reV A I f x)∧∀g∈(reV A I f x).names,∃g0∈aT,g=f g0:=by
 cases k with
 |one k=>
  obtain ⟨h1,h2⟩:=aeT (vs:=vs) (A:=A) (I:=I) hm hk hl n
  exact ⟨_,rfl,.one h1,h2⟩
 |agg ks=>
  obtain ⟨h1,h2⟩:=YK (vs:=vs) (A:=A) (I:=I) hm hk hl n
  exact ⟨_,rfl,.agg _ _ (by simp) h1,h2⟩
theorem aib (hm :∀g∈aT,m (f g)=some g) {k:OS} (hk :∀ws,k=.box ws→ws.all (WS.bT aT)=true) (hl:k.isA=true→lk=true) (n:Nat) :
  Ow (D5 A I lk) m (fun _=>False) (sJ vs n k).1 (vO A I f (sJ vs n k).1)∧∀g∈(vO A I f (sJ vs n k).1).names,∃g0∈aT,g=f g0:=by
 cases k with
 |box ks=>
  obtain ⟨h1,h2⟩:=YK (vs:=vs) (A:=A) (I:=I) hm (hk ks rfl) hl n
  exact ⟨.box _ _ (by simp) h1,h2⟩
 |arr fz a i sz=>exact ⟨.arr _ _ _ ⟨rfl,hl⟩,by simp [sJ,vO,O.names]⟩
 |it=>exact ⟨.it _ _,by simp [sJ,vO,O.names]⟩
 |aG a i sz ah=>exact ⟨.aG _ _ _ ⟨rfl,hl⟩,by simp [sJ,vO,O.names,dh]⟩
end
theorem JZ {A I:Bool×Bool} {f:Nat→Nat} (x:O):(vO A I f x).bF=x.bF:=by cases x<;>rfl
theorem RJ {A I:Bool×Bool} {f:Nat→Nat} (x:O):(vO A I f x).nG=x.nG:=by cases x<;>rfl
theorem ab4 {A I:Bool×Bool} {f:Nat→Nat} (x:O):(vO A I f x).dim=x.dim:=by cases x<;>rfl
theorem WQ {A I:Bool×Bool} {f:Nat→Nat} {x:O} {i:Bool} (h:(vO A I f x).inner=some i) :∃a i0,x.inner=some i0∧i=(pR A I a i0).2:=by
 cases x with
 |arr fz a i0 sz l=>
  cases fz with
  |false=>cases h;exact ⟨a,i0,rfl,rfl⟩
  |true=>cases h
 |aG a i0 sz ah l hole=>cases h;exact ⟨a,i0,rfl,rfl⟩
 |_=>cases h
theorem ab5 {A I:Bool×Bool} {f:Nat→Nat} {x:O} {ws:List W} (h:vO A I f x=.box ws) :∃ws',x=.box ws':=by cases x<;>first | exact ⟨_,rfl⟩ | cases h
theorem afN {A I:Bool×Bool} {f:Nat→Nat} {x:O} {s n:P} (h:vO A I f x=.it s n) :∃s' n',x=.it s' n':=by cases x<;>first | exact ⟨_,_,rfl⟩ | cases h
theorem D6 {d:Nat} {aT:List Nat} {g g':Nat} (hg:g∈aT) (h:newName d aT g=newName d aT g'):g=g':=by
 unfold newName at h
 have e:aT.idxOf g=aT.idxOf g':=by omega
 have h1:aT.idxOf g<aT.length:=List.idxOf_lt_length_of_mem hg
 have h2:aT.idxOf g'<aT.length:=by omega
 have a1:=List.getElem_idxOf h1
 have a2:=List.getElem_idxOf h2
 rw [←a1,←a2];congr 1
def wJ (d:Nat) (aT:List Nat) (g:Nat):Option Nat:=aT.find? fun g0=>newName d aT g0==g
theorem MB {d:Nat} {aT:List Nat} {g:Nat} (hg:g∈aT):wJ d aT (newName d aT g)=some g:=by
 unfold wJ
 cases h:aT.find? fun g0=>newName d aT g0==newName d aT g with
 |none=>have:=List.find?_eq_none.1 h g hg;simp at this
 |some g'=>
  have h1:=List.find?_some h
  simp only [beq_iff_eq] at h1
  rw [D6 (List.mem_of_find?_eq_some h) h1]
theorem Jw {d:Nat} {aT:List Nat} {g g0:Nat} (h:wJ d aT g=some g0):g0∈aT∧newName d aT g0=g:=by
 unfold wJ at h
 exact ⟨List.mem_of_find?_eq_some h,by simpa using List.find?_some h⟩
theorem kM {α:Type} {g:Nat} :∀{l r:List (Nat×α)},(l++r).lookup g=(l.lookup g).or (r.lookup g)
 | [],r=>by simp
 |(k,v)::l,r=>by
  simp only [List.cons_append,List.lookup]
  split
  ·rfl
  ·exact kM
theorem wK {α:Type} {k:Nat→Nat} {v:Nat→α} {g:Nat} :∀{l:List Nat},(∀g'∈l,k g'≠g)→(l.map fun x=>(k x,v x)).lookup g=none
 | [],_=>rfl
 |x::l,h=>by
  have:(g==k x)=false:=by have:=h x (by simp);simp;exact fun e=>this e.symm
  simp only [List.map_cons,List.lookup,this]
  exact wK fun g' hg'=>h g' (by simp [hg'])
theorem vC {α:Type} {k:Nat→Nat} {v:Nat→α} {g0:Nat} :∀{l:List Nat},g0∈l→(∀g'∈l,k g'=k g0→g'=g0)→(l.map fun x=>(k x,v x)).lookup (k g0)=some (v g0)
 | [],h,_=>by cases h
 |x::l,h,hi=>by
  simp only [List.map_cons,List.lookup]
  by_cases e:k x=k g0
  ·have:=hi x (by simp) e
   subst this;simp
  ·have:(k g0==k x)=false:=by simp;exact fun h=>e h.symm
   rw [this]
   rcases List.mem_cons.1 h with h | h
   ·subst h;exact absurd rfl e
   ·exact vC h fun g' hg'=>hi g' (by simp [hg'])
theorem kD {α:Type} {v:Nat×Nat→α} {p:Nat×Nat} :∀{l:List (Nat×Nat)},(l.map (·.2)).Nodup→p∈l→(l.map fun p=>(p.2,v p)).lookup p.2=some (v p)
 | [],_,h=>by cases h
 |x::l,hn,h=>by
  simp only [List.map_cons,List.nodup_cons] at hn
  simp only [List.map_cons,List.lookup]
  rcases List.mem_cons.1 h with h | h
  ·subst h;simp
  ·have:(p.2==x.2)=false:=by
    simp only [beq_eq_false_iff_ne]
    intro e
    exact hn.1 (e▸List.mem_map.2 ⟨p,h,rfl⟩)
   rw [this]
   exact kD hn.2 h
theorem kV {α:Type} {v:Nat×Nat→α} {g:Nat} :∀{l:List (Nat×Nat)},g∉l.map (·.2)→(l.map fun p=>(p.2,v p)).lookup g=none
 | [],_=>rfl
 |x::l,h=>by
  simp only [List.map_cons,List.mem_cons,not_or] at h
  have:(g==x.2)=false:=by simpa using h.1
  simp only [List.map_cons,List.lookup,this]
  exact kV h.2
theorem O.Ci {z:O} (h:O.none.like z):z=.none:=by cases z<;>first | rfl | exact h.elim
theorem O.Gx {x y z:O} (h1:x.like y) (h2:y.like z):z=.none∨x.like z:=.inr (O.like.trans h1 h2)
theorem RN {s:yg} {o:Nat→O} {args:List S} {c:Jv} (hc:gy s o args=some c):vZ o c.tZ:=by
 unfold gy at hc
 split at hc
 ·rename_i hsl
  split at hc
  ·simp only [Option.some.injEq] at hc;subst hc
   exact uG hsl
  ·cases hc
 ·cases hc
theorem zu {α:Type} {g:Nat} {v:α} :∀{l:List (Nat×α)},l.lookup g=some v→(g,v)∈l
 | [],h=>by cases h
 |(k,x)::l,h=>by
  simp only [List.lookup] at h
  split at h
  ·rename_i e
   simp only [beq_iff_eq] at e
   cases h;subst e;simp
  ·exact List.mem_cons_of_mem _ (zu h)
theorem qP {o:Nat→O} :∀{L:List (Nat×OS)} {r r':List (Nat×Nat)} {u:List P} {c:Bool×Bool},iZ o r L=some (u,c,r')→(∀p∈r,p∈r')∧∀p∈L,∃q∈r',q.1=p.1
 | [],r,r',u,c,h=>by simp only [iZ,Option.some.injEq,Prod.mk.injEq] at h;obtain ⟨_,_,rfl⟩:=h;exact ⟨fun p hp=>hp,fun p hp=>by cases hp⟩
 |(g',k)::rest,r,r',u,c,h=>by
  simp only [iZ] at h
  split at h
  ·rename_i g hg
   have hmem:=zu hg
   have fin :∀{r1:List (Nat×Nat)},(∀p∈r,p∈r1)→((∀p∈r1,p∈r')∧∀p∈rest,∃q∈r',q.1=p.1)→(∀p∈r,p∈r')∧∀p∈(g',k)::rest,∃q∈r',q.1=p.1:=by
    intro r1 h1 ⟨h2,h3⟩
    refine ⟨fun p hp=>h2 p (h1 p hp),fun p hp => ?_⟩
    rcases List.mem_cons.1 hp with rfl | hp
    ·exact ⟨_,h2 _ (h1 _ hmem),rfl⟩
    ·exact h3 p hp
   split at h
   ·split at h
    ·split at h
     ·rename_i h2
      simp only [Option.some.injEq,Prod.mk.injEq] at h
      obtain ⟨_,_,rfl⟩:=h
      exact fin (fun p hp=>List.mem_append_left _ hp) (qP h2)
     ·cases h
    ·cases h
   ·split at h
    ·split at h
     ·rename_i h2
      simp only [Option.some.injEq,Prod.mk.injEq] at h
      obtain ⟨_,_,rfl⟩:=h
      exact fin (fun p hp=>hp) (qP h2)
     ·cases h
    ·cases h
   ·split at h
    ·split at h
     ·rename_i h2
      simp only [Option.some.injEq,Prod.mk.injEq] at h
      obtain ⟨_,_,rfl⟩:=h
      exact fin (fun p hp=>hp) (qP h2)
     ·cases h
    ·cases h
   ·cases h
  ·cases h
theorem ab6 {j:Shape} {vs:List P} {g:Nat} {a i:Bool} {sz:Nat} {ah:List (Nat×Nat)} {l:List (List P)} {hole:Option (Nat×Nat×Nat)} (h:(mk j vs).o g=.aG a i sz ah l hole):hole=none:=by
 have h1:=RF (j:=j) (vs:=vs) (g:=g) (by rw [h];simp)
 obtain ⟨k,n',_,h2⟩:=kC h1
 rw [h] at h2
 cases k<;>simp [sJ] at h2
 exact h2.2.2.2.2.2
theorem Gy {s:yg} {d:Nat} {o:Nat→O} {c:Jv} {bT:List P} (hf:c.fine s=true) {p:Nat×Nat} (hp:p∈c.ren) (D7:s.aU.contains p.1=true) :
  (gZ s d o c bT).aF.lookup p.2=some (vO c.A c.I (callName d s c.ren) ((mk s.aI bT).o p.1)):=by
 simp only [Jv.fine,Bool.and_eq_true] at hf
 obtain ⟨⟨⟨hn2,hn1⟩,hdisj⟩,hkeys⟩:=hf
 have hnb:p.2∉c.tZ:=by
  have:=(List.all_eq_true.1 hdisj) p.2 (List.mem_map.2 ⟨p,hp,rfl⟩)
  simpa using this
 have h1:(if s.lC=true then c.tZ.map (aK o) else []).lookup p.2=none:=by
  split
  ·have :∀(l:List Nat),p.2∉l→(l.map (aK o)).lookup p.2=none:=by
    intro l
    induction l with
    |nil=>intro _;rfl
    |cons g l ih=>
     intro hl
     simp only [List.mem_cons,not_or] at hl
     have e:(p.2==(aK o g).1)=false:=by
      have:(aK o g).1=g:=rfl
      rw [this];simpa using hl.1
     simp only [List.map_cons,List.lookup,e]
     exact ih hl.2
   exact this _ hnb
  ·rfl
 have h2:=kD (v:=fun p=>if s.aU.contains p.1=true then vO c.A c.I (callName d s c.ren) ((mk s.aI bT).o p.1) else .none) (iO hn2) hp
 rw [if_pos D7] at h2
 show (((if s.lC=true then c.tZ.map (aK o) else [])++c.ren.map _)++s.aT.map _).lookup p.2=_
 rw [kM,kM,h1,h2];rfl
theorem WR {s:yg} (hok:s.ok=true) {d:Nat} {o:Nat→O} {args:List S} {c:Jv} (hc:gy s o args=some c) (hf:c.fine s=true) {bT:List P} {p:Nat×Nat} (hp:p∈c.ren) (D7:s.aU.contains p.1=true)
  (hk:qO ((mk s.aI bT).o p.1)=qO ((mk s.pin c.ins).o p.1)) (ha:RG (o p.2)=true) (hfl:rW (vO c.A c.I (callName d s c.ren) ((mk s.aI bT).o p.1))=rW (o p.2)) :
  (gZ s d o c bT).aF.lookup p.2=some (o p.2):=by
 rw [Gy hf hp D7]
 have hcore:=hk.trans (WO hok hc hf p hp ha)
 have hm:=fun {a i:Bool} {sz:Nat} {ah:List (Nat×Nat)} {l:List (List P)} {hole:Option (Nat×Nat×Nat)}=>ab6 (j:=s.aI) (vs:=bT) (g:=p.1) (a:=a) (i:=i) (sz:=sz) (ah:=ah) (l:=l) (hole:=hole)
 congr 1
 generalize (mk s.aI bT).o p.1=x at hcore hfl hm
 have e:qO (vO c.A c.I (callName d s c.ren) x)=qO (o p.2):=by
  rw [←hcore]
  cases x with
  |aG a i sz ah l hole=>have:=hm rfl;subst this;rfl
  |arr fz a i sz l=>rfl
  |_=>
   generalize o p.2=z at hcore ha
   cases z<;>first | (cases ha;done) | (simp [qO] at hcore;done)
 exact (RH e.symm hfl.symm ha).symm
theorem OM {s:yg} {o:Nat→O} {args:List S} {c:Jv} (hc:gy s o args=some c) :∀p∈s.pin.aQ,∃q∈c.ren,q.1=p.1:=by
 unfold gy at hc
 split at hc
 ·split at hc
  ·rename_i D7
   simp only [Option.some.injEq] at hc;subst hc
   exact fun p hp=>let ⟨q,h1,h2⟩:=(qP D7).2 p hp;⟨q,lV.2 h1,h2⟩
  ·cases hc
 ·cases hc
section
variable {E:Env} {st:St} {gh:Nat→Gh} {w:World} {val:Nat→Value}
theorem J3 {sp:Spec} (hok:sp.sig.ok=true) (h:Rel E st gh val w) {args:List S} {vals:List Value} (hr :∀t,cO E st gh w (args.getD t .no) (vals.getD t undef))
  {c:Jv} (hc:gy sp.sig st.o args=some c) (hf:c.fine sp.sig=true) :
  ∃(E':Env) (kL:Nat→Gh),E'.B0=w.heap.size∧E'.w0=w∧Rel E' (mk sp.sig.pin c.ins) kL (fun k=>vals.getD k undef) w∧(∀b,E'.Wr b→∃c e f,w.heap[b]?=some (.cells c e f))∧
  ∀(d:Nat) (bT:List P) (ef:Eff),ef=gZ sp.sig d st.o c bT→(∀g∈ef.new,st.used g=false)→∀(w':World) (rs:List Value) (wC:Nat→Gh),rs.length=sp.sig.dA→Rel E' (mk sp.sig.aI bT) wC (fun k=>rs.getD k undef) w'→(∀g∈sp.sig.aU,((wC g).ad=(kL g).ad∧(wC g).cap=(kL g).cap)∧((mk sp.sig.pin c.ins).o g).like ((mk sp.sig.aI bT).o g))→
   ∃bD,Rel E (st.aF ef.aF ef.new) bD val w'∧Lets E st (st.aF ef.aF ef.new) gh bD w w'∧cO E (st.aF ef.aF ef.new) bD w' ef.x (WJ rs)∧∀g∈ef.x.names,(st.aF ef.aF ef.new).used g=true:=by
 have hrr :∀t,cO E st gh w (args.getD t .no) ((fun k=>vals.getD k undef) t):=hr
 obtain ⟨h1,hL1,hE,gW⟩:=RI h hok hrr hc hf _ rfl _ rfl
 refine ⟨_,_,rfl,rfl,hE,fun b hb => ?_,fun d bT ef hef hnew w' rs wC hrl hx RP => ?_⟩
 ·obtain ⟨p,hp,ow,e1⟩:=hb
  have hO:=h.aQ p.2
  rcases (gW p hp).2.2.2 with ⟨_,ws,_,e,_⟩ | ⟨a,i,sz,l,e,_⟩ | ⟨a,i,sz,ah,l,e,_⟩
  ·rw [e] at hO
   obtain ⟨ad',c,e',q1,_,q3,_⟩:=hO
   rcases e1 with ⟨ad,k1,k2⟩ | k1
   ·rw [k1] at q1;cases q1;rw [←k2];exact ⟨_,_,_,q3⟩
   ·rw [h.ns p.2 ow (by rw [e];rfl) b] at k1;cases k1
  ·rw [e] at hO
   rcases e1 with ⟨ad,k1,k2⟩ | k1
   ·rcases hO with ⟨q1,_⟩ | ⟨ad',c,e',q1,_,q3,_⟩
    ·rw [k1] at q1;cases q1
    ·rw [k1] at q1;cases q1;rw [←k2];exact ⟨_,_,_,q3⟩
   ·rw [h.ns p.2 ow (by rw [e];rfl) b] at k1;cases k1
  ·rw [e] at hO
   rcases hO with ⟨q1,_,_,q2⟩ | ⟨ad',c,e',q1,_,q3,_,_,_,⟨_,q4⟩,_⟩
   ·rcases e1 with ⟨ad,k1,k2⟩ | k1
    ·rw [k1] at q1;cases q1
    ·rw [q2 b] at k1;cases k1
   ·rcases e1 with ⟨ad,k1,k2⟩ | k1
    ·rw [k1] at q1;cases q1;rw [←k2];exact ⟨_,_,_,q3⟩
    ·exact q4 b k1
 generalize hst1:st.aF (c.tZ.map (Fw.aK st.o)) []=st1 at h1 hL1 hE hx
 generalize hE':UD h st1 c=E' at hE hx
 generalize WT:mk sp.sig.aI bT=vW at hx
 have hok':=hok
 simp only [yg.ok,Bool.and_eq_true] at hok'
 obtain ⟨⟨⟨⟨⟨⟨⟨⟨YJ,UE⟩,hps⟩,hpo⟩,hos⟩,yZ⟩,hdisj⟩,hnn⟩,aeU⟩:=hok'
 have hnn:=iO hnn
 simp only [Jv.fine,Bool.and_eq_true] at hf
 have hn2:=iO hf.1.1.1
 have afO :∀g∈sp.sig.aT,sp.sig.aU.contains g=false:=by
  intro g hg
  cases hi:sp.sig.aU.contains g with
  |false=>rfl
  |true=>
   have:=(List.all_eq_true.1 hdisj) g (by simpa using hi)
   simp [hg] at this
 generalize hfn:callName d sp.sig c.ren=f
 have OO :∀g∈sp.sig.aT,f g=newName d sp.sig.aT g:=fun g hg=>by subst hfn;unfold callName;rw [afO g hg]
 have aoq:sp.sig.aT.map f=sp.sig.aT.map (newName d sp.sig.aT):=List.map_congr_left OO
 have afP :∀g,sp.sig.aU.contains g=true→∃g',(g,g')∈c.ren∧f g=g':=by
  intro g hi
  have aic:=(List.all_eq_true.1 aeU) g (by simpa using hi)
  cases h1:sp.sig.pin.aQ.lookup g with
  |none=>rw [h1] at aic;cases aic
  |some k1=>
   obtain ⟨q,hq,e⟩:=OM hc _ (zu h1)
   obtain ⟨q1,q2⟩:=q
   simp only at e;subst e
   refine ⟨q2,hq,?_⟩
   subst hfn
   unfold callName
   rw [hi,(gW _ hq).2.2.1]
 generalize hbk:wJ d sp.sig.aT=bk
 have hbn :∀g∈sp.sig.aT,bk (f g)=some g:=fun g hg=>by rw [OO g hg];subst hbk;exact MB hg
 have hbs :∀g g0,bk g=some g0→g0∈sp.sig.aT∧f g0=g:=fun g g0 hb=>by subst hbk;obtain ⟨b1,b2⟩:=Jw hb;exact ⟨b1,by rw [OO g0 b1];exact b2⟩
 have hfi :∀g∈sp.sig.aT,∀g'∈sp.sig.aT,f g=f g'→g=g':=fun g hg g' hg' e=>by rw [OO g hg,OO g' hg'] at e;exact D6 hg e
 have ab7:ef.new=sp.sig.aT.map f:=by subst hef;subst hfn;rfl
 have afQ:ef.aF=(if sp.sig.lC then c.tZ.map (Fw.aK st.o) else [])++c.ren.map (fun p=>(p.2,if sp.sig.aU.contains p.1 then vO c.A c.I f (vW.o p.1) else .none))++sp.sig.aT.map (fun g=>(f g,vO c.A c.I f (vW.o g))):=by
  subst hef;subst hfn;subst WT;rfl
 have aie:ef.x=WH ((List.range sp.sig.dA).map fun k=>Uz c.A c.I f (vW.s k)):=by subst hef;subst hfn;subst WT;rfl
 have apk :∀g,bk g=none→g∉ef.new:=fun g hb hm=>by
  rw [ab7] at hm;obtain ⟨g0,h1,rfl⟩:=List.mem_map.1 hm
  rw [hbn g0 h1] at hb;cases hb
 have hbu :∀g,st.used g=true→bk g=none:=fun g hu=>by
  cases hb:bk g with
  |none=>rfl
  |some g0=>
   obtain ⟨h1,h2⟩:=hbs g g0 hb
   have:=hnew g (by rw [ab7];exact List.mem_map.2 ⟨g0,h1,h2⟩)
   rw [hu] at this;cases this
 let stB:St:=if sp.sig.lC then st1 else st
 have hB:Rel E stB gh val w∧Lets E st stB gh gh w w:=by
  by_cases hlk:sp.sig.lC=true
  ·have:stB=st1:=by simp [stB,hlk]
   rw [this];exact ⟨h1,hL1⟩
  ·have:stB=st:=by simp [stB,hlk]
   rw [this];exact ⟨h,⟨fun a i b hb=>⟨hb,rfl⟩,fun g _=>.inr ⟨⟨rfl,rfl⟩,O.eF _⟩⟩⟩
 obtain ⟨WU,hLB⟩:=hB
 have hBs:stB.s=st.s:=by
  by_cases hlk:sp.sig.lC=true
  ·have:stB=st1:=by simp [stB,hlk]
   rw [this,←hst1];rfl
  ·have:stB=st:=by simp [stB,hlk]
   rw [this]
 have hBu:stB.used=st.used:=by
  by_cases hlk:sp.sig.lC=true
  ·have:stB=st1:=by simp [stB,hlk]
   rw [this,←hst1];rfl
  ·have:stB=st:=by simp [stB,hlk]
   rw [this]
 have hBo :∀g,stB.o g=(if g∈c.tZ∧sp.sig.lC=true then (Fw.aK st.o g).2 else st.o g):=by
  intro g
  by_cases hlk:sp.sig.lC=true
  ·have:stB=st1:=by simp [stB,hlk]
   rw [this,←hst1,fJ]
   by_cases hg:g∈c.tZ<;>simp [hg,hlk]
  ·have:stB=st:=by simp [stB,hlk]
   rw [this];simp [hlk]
 have UF :∀g,(stB.o g).bF=true→(st.o g).bF=true:=by
  intro g hg
  rw [hBo] at hg
  split at hg
  ·cases hp:plainO st.o g with
   |none=>simpa [Fw.aK,hp] using hg
   |some x=>
    obtain ⟨a,i,sz,l⟩:=x
    rw [lT hp] at hg;cases hg
  ·exact hg
 have hBr :∀p∈c.ren,stB.o p.2=st.o p.2:=by
  intro p hp
  rw [hBo,if_neg fun h=>(gW p hp).2.1 h.1]
 generalize ab8:st.aF ef.aF ef.new=Gz
 have hFs:Gz.s=st.s:=by subst ab8;rfl
 have hFu :∀g,st.used g=true→Gz.used g=true:=fun g hg=>by subst ab8;simp [St.aF,hg]
 have hFn :∀g∈sp.sig.aT,Gz.used (f g)=true:=fun g hg=>by
  subst ab8
  have:f g∈ef.new:=by rw [ab7];exact List.mem_map.2 ⟨g,hg,rfl⟩
  simp [St.aF,this]
 have UG :∀p∈c.ren,st.used p.2=true:=fun p hp=>h.ul p.2 (by intro e;have:=(gW p hp).1;rw [e] at this;cases this)
 have aos :∀g∈c.tZ,st.used g=true∨st.o g=.none:=fun g hg=>by
  by_cases hn:st.o g=.none
  ·exact .inr hn
  ·exact .inl (h.ul g hn)
 have hFo :∀g,Gz.o g=match ef.aF.lookup g with | some x=>x | none=>st.o g:=fun g=>by subst ab8;rfl
 have UH :∀g∈sp.sig.aT,Gz.o (f g)=vO c.A c.I f (vW.o g):=by
  intro g hg
  have hfu:st.used (f g)=false:=hnew _ (by rw [ab7];exact List.mem_map.2 ⟨g,hg,rfl⟩)
  have e2:(c.ren.map (fun p=>(p.2,if sp.sig.aU.contains p.1 then vO c.A c.I f (vW.o p.1) else .none))).lookup (f g)=none:=kV fun hm=>by
   obtain ⟨p,hp,e⟩:=List.mem_map.1 hm
   rw [←e,UG p hp] at hfu;cases hfu
  have e3:=vC (k:=f) (v:=fun g=>vO c.A c.I f (vW.o g)) hg fun g' hg' e=>hfi g' hg' g hg e
  have e1:(if sp.sig.lC then c.tZ.map (Fw.aK st.o) else []).lookup (f g)=none:=by
   split
   ·rw [lu,if_neg]
    intro hm
    have:=vZ.used h (RN hc) hm
    rw [this] at hfu;cases hfu
   ·rfl
  rw [hFo,afQ,kM,kM,e1,e2,e3];rfl
 have J4 :∀p∈c.ren,Gz.o p.2=if sp.sig.aU.contains p.1 then vO c.A c.I f (vW.o p.1) else .none:=by
  intro p hp
  have e1:(if sp.sig.lC then c.tZ.map (Fw.aK st.o) else []).lookup p.2=none:=by
   split
   ·rw [lu,if_neg (gW p hp).2.1]
   ·rfl
  have e2:=kD (v:=fun p=>if sp.sig.aU.contains p.1 then vO c.A c.I f (vW.o p.1) else O.none) hn2 hp
  rw [hFo,afQ,kM,kM,e1,e2];rfl
 have OQ :∀g,bk g=none→g∉c.ren.map (·.2)→Gz.o g=stB.o g:=by
  intro g hb hg
  have e2:=kV (v:=fun p=>if sp.sig.aU.contains p.1 then vO c.A c.I f (vW.o p.1) else O.none) hg
  have e3:(sp.sig.aT.map (fun g=>(f g,vO c.A c.I f (vW.o g)))).lookup g=none:=wK fun g' hg' e=>by
   have:=hbn g' hg'
   rw [e,hb] at this;cases this
  rw [hFo,afQ,kM,kM,e2,e3,hBo]
  by_cases hlk:sp.sig.lC=true
  ·rw [if_pos hlk,lu]
   by_cases hg:g∈c.tZ<;>simp [hg,hlk]
  ·simp [hlk]
 have aeV :∀p∈c.ren,sp.sig.aU.contains p.1=true→(wC p.1).ad=(gh p.2).ad∧(wC p.1).cap=(gh p.2).cap:=by
  intro p hp hi
  have:=(RP p.1 (by simpa using hi)).1
  have e:=(gW p hp).2.2.1
  simp only [iY,e] at this
  exact this
 generalize hbk2:(fun g=>match bk g with | some g0=>some g0 | none=>(c.ren.find? (fun (p:Nat×Nat)=>p.2==g&&sp.sig.aU.contains p.1)).map (fun (p:Nat×Nat)=>p.1))=bk2
 have aii :∀g g0,bk2 g=some g0→(g0∈sp.sig.aT∧f g0=g)∨(bk g=none∧sp.sig.aU.contains g0=true∧(g0,g)∈c.ren):=by
  intro g g0 hb
  subst hbk2
  simp only at hb
  cases h1:bk g with
  |some g1=>rw [h1] at hb;simp only [Option.some.injEq] at hb;subst hb;exact .inl (hbs g _ h1)
  |none=>
   rw [h1] at hb
   simp only [Option.map_eq_some_iff] at hb
   obtain ⟨p,hp,rfl⟩:=hb
   have q1:=List.mem_of_find?_eq_some hp
   have q2:=List.find?_some hp
   simp only [Bool.and_eq_true,beq_iff_eq] at q2
   obtain ⟨rfl,q3⟩:=q2
   exact .inr ⟨rfl,q3,q1⟩
 have hb2 :∀g∈sp.sig.aT++sp.sig.aU,bk2 (f g)=some g:=by
  intro g hg
  subst hbk2
  simp only
  rcases List.mem_append.1 hg with hg | hg
  ·rw [hbn g hg]
  ·have hi:sp.sig.aU.contains g=true:=by simpa using hg
   obtain ⟨g',hm,e⟩:=afP g hi
   rw [e,hbu g' (UG _ hm)]
   cases h1:c.ren.find? fun p=>p.2==g'&&sp.sig.aU.contains p.1 with
   |none=>
    have:=List.find?_eq_none.1 h1 _ hm
    simp at this
    exact absurd hg this
   |some p=>
    have q1:=List.mem_of_find?_eq_some h1
    have q2:=List.find?_some h1
    simp only [Bool.and_eq_true,beq_iff_eq] at q2
    obtain ⟨e2,q3⟩:=q2
    have l1:=(gW _ hm).2.2.1
    have e3:p=(g,g'):=by
     have:=kD (v:=fun p=>p) hn2 q1
     have h2:=kD (v:=fun p=>p) hn2 hm
     rw [e2] at this
     simp only at h2
     rw [this] at h2;exact Option.some.inj h2
    rw [e3];rfl
 let bD:Nat→Gh:=fun g=>match bk2 g with | some g0=>wC g0 | none=>gh g
 have hfp :∀p∈c.ren,sp.sig.aU.contains p.1=true→f p.1=p.2:=by
  intro p hp hi
  obtain ⟨g',hm,e⟩:=afP p.1 hi
  have l1:=(gW _ hm).2.2.1
  have l2:=(gW _ hp).2.2.1
  simp only at l1
  rw [l2] at l1;rw [e,←Option.some.inj l1]
 have hgb :∀g g0,bk2 g=some g0→bD g=wC g0:=fun g g0 hb=>by simp only [bD,hb]
 have hgn :∀g∈sp.sig.aT,bD (f g)=wC g:=fun g hg=>hgb _ _ (hb2 g (List.mem_append_left _ hg))
 have hgi :∀p∈c.ren,sp.sig.aU.contains p.1=true→bD p.2=wC p.1:=by
  intro p hp hi
  have:=hb2 p.1 (List.mem_append_right _ (by simpa using hi))
  rw [hfp p hp hi] at this
  exact hgb _ _ this
 have hgo :∀g,bk g=none→g∉c.ren.map (·.2)→bD g=gh g:=fun g hb hm=>by
  cases h2:bk2 g with
  |none=>simp only [bD,h2]
  |some g0=>
   rcases aii g g0 h2 with ⟨b1,b2⟩ | ⟨_,_,b3⟩
   ·rw [←b2,hbn g0 b1] at hb;cases hb
   ·exact absurd (List.mem_map.2 ⟨_,b3,rfl⟩) hm
 have hFb :∀g g0,bk2 g=some g0→Gz.o g=vO c.A c.I f (vW.o g0):=fun g g0 hb=>by
  rcases aii g g0 hb with ⟨b1,b2⟩ | ⟨_,b2,b3⟩
  ·rw [←b2];exact UH g0 b1
  ·have e:=J4 _ b3
   simp only [b2,if_true] at e
   exact e
 have YL :∀g∈sp.sig.aT++sp.sig.aU,Gz.used (f g)=true:=by
  intro g hg
  rcases List.mem_append.1 hg with hg | hg
  ·exact hFn g hg
  ·obtain ⟨g',hm,e⟩:=afP g (by simpa using hg)
   rw [e];exact hFu _ (UG _ hm)
 have hxo :∀g0,vW.o g0≠.none→∃k n',(g0,k)∈sp.sig.aI.aQ∧vW.o g0=(sJ bT n' k).1:=fun g0 hn=>by
  subst WT
  exact kC (RF hn)
 have aij :∀g0,sp.sig.aU.contains g0=true→(∃ws,(mk sp.sig.pin c.ins).o g0=.box ws)→∃ws,vW.o g0=.box ws:=by
  rintro g0 hi ⟨ws,hb⟩
  have hk:=(List.all_eq_true.1 aeU) g0 (by simpa using hi)
  cases h1:sp.sig.pin.aQ.lookup g0 with
  |none=>rw [h1] at hk;cases hk
  |some k1=>
   cases h2:sp.sig.aI.aQ.lookup g0 with
   |none=>rw [h1,h2] at hk;cases k1<;>cases hk
   |some k2=>
    rw [h1,h2] at hk
    obtain ⟨n1,e1⟩:=Me (vs:=c.ins) h1
    obtain ⟨n2,e2⟩:=Me (vs:=bT) h2
    rw [hb] at e1
    cases k1 with
    |box ks=>
     cases k2 with
     |box ks'=>subst WT;exact ⟨_,e2⟩
     |arr=>cases hk
     |it=>cases hk
     |aG=>cases hk
    |arr=>cases e1
    |it=>cases e1
    |aG=>cases e1
 have alr :∀g0 k,(g0,k)∈sp.sig.aI.aQ→k.isA=true→sp.sig.lC=true:=fun g0 k hm ha=>by
  simp only [yg.lC,Bool.or_eq_true,List.any_eq_true]
  exact .inr ⟨_,hm,ha⟩
 have als :∀t k,(t,k)∈sp.sig.aI.slots→k.isA=true→sp.sig.lC=true:=fun t k hm ha=>by
  simp only [yg.lC,Bool.or_eq_true,List.any_eq_true]
  exact .inl ⟨_,hm,ha⟩
 have hOut :∀g0,Ow (D5 c.A c.I sp.sig.lC) bk2 (fun _=>False) (vW.o g0) (vO c.A c.I f (vW.o g0))∧∀g∈(vO c.A c.I f (vW.o g0)).names,∃g1∈sp.sig.aT++sp.sig.aU,g=f g1:=by
  intro g0
  by_cases hn:vW.o g0=.none
  ·rw [hn];exact ⟨.none _,by simp [vO,O.names]⟩
  ·obtain ⟨k,n',h1,h2⟩:=hxo g0 hn
   rw [h2]
   refine aib hb2 (fun ws e => ?_) (alr g0 k h1) n'
   subst e
   have hk:=(List.all_eq_true.1 yZ) _ h1
   simp only [Bool.and_eq_true] at hk
   exact hk.1
 have UJ :∀g,(Gz.o g).bF=true→
   (∃g0,(vW.o g0).bF=true∧bD g=wC g0∧Gz.o g=vO c.A c.I f (vW.o g0)∧((g0∈sp.sig.aT∧g=f g0)∨(sp.sig.aU.contains g0=true∧(g0,g)∈c.ren)))∨
   ((stB.o g).bF=true∧bD g=gh g∧g∉c.ren.map (·.2)∧bk g=none∧Gz.o g=stB.o g):=by
  intro g ho
  cases hb:bk g with
  |some g0=>
   obtain ⟨b1,b2⟩:=hbs g g0 hb
   subst b2
   have e:=UH g0 b1
   exact .inl ⟨g0,by rw [e,JZ] at ho;exact ho,hgn g0 b1,e,.inl ⟨b1,rfl⟩⟩
  |none=>
   by_cases hm:g∈c.ren.map (·.2)
   ·obtain ⟨p,hp,e⟩:=List.mem_map.1 hm
    subst e
    have e:=J4 p hp
    cases hi:sp.sig.aU.contains p.1 with
    |false=>rw [e,hi] at ho;cases ho
    |true=>
     rw [hi,if_pos rfl] at e
     exact .inl ⟨p.1,by rw [e,JZ] at ho;exact ho,hgi p hp hi,e,.inr ⟨hi,hp⟩⟩
   ·have e:=OQ g hb hm
    exact .inr ⟨by rw [e] at ho;exact ho,hgo g hb hm,hm,by first | exact hb | rfl,e⟩
 have hsplit :∀g b,(Gz.o g).bF=true→(bD g).has b→
   (∃g0,(vW.o g0).bF=true∧(wC g0).has b∧Gz.o g=vO c.A c.I f (vW.o g0)∧((g0∈sp.sig.aT∧g=f g0)∨(sp.sig.aU.contains g0=true∧(g0,g)∈c.ren)))∨
   ((stB.o g).bF=true∧(gh g).has b∧g∉c.ren.map (·.2)∧bk g=none∧Gz.o g=stB.o g):=by
  intro g b ho had
  rcases UJ g ho with ⟨g0,q1,q2,q3⟩ | ⟨q1,q2,q3⟩
  ·exact .inl ⟨g0,q1,by rw [←q2];exact had,q3⟩
  ·exact .inr ⟨q1,by rw [←q2];exact had,q3⟩
 have YM :∀b,E'.Wr b→∃p∈c.ren,(gh p.2).has b:=fun b hb=>by subst hE';obtain ⟨p,hp,_,h1⟩:=hb;exact ⟨p,hp,h1⟩
 have hEB:E'.B0=w.heap.size:=by subst hE';rfl
 have hEw:E'.w0=w:=by subst hE';rfl
 have hframe :∀b,b<w.heap.size→¬ E'.Wr b→w'.heap[b]?=w.heap[b]?:=fun b hb hw=>by
  rw [hx.frame b (by rw [hEB];exact hb) hw,hEw]
 have afR :∀b,(∀p∈c.ren,¬ (gh p.2).has b)→¬ E'.Wr b:=fun b hb hw=>by
  obtain ⟨p,hp,e1⟩:=YM b hw
  exact hb p hp e1
 have hsize:w.heap.size≤w'.heap.size:=by rw [←hEB];exact hx.size
 have DL :∀g,st.used g=true→Gz.o g=.none∨(((bD g).ad=(gh g).ad∧(bD g).cap=(gh g).cap)∧(stB.o g).like (Gz.o g)):=by
  intro g hu
  have hb:=hbu g hu
  by_cases hm:g∈c.ren.map (·.2)
  ·obtain ⟨p,hp,e⟩:=List.mem_map.1 hm
   subst e
   cases hi:sp.sig.aU.contains p.1 with
   |false=>exact .inl (by rw [J4 p hp,hi];rfl)
   |true=>
    refine .inr ⟨by rw [hgi p hp hi];exact aeV p hp hi,?_⟩
    rw [hBr p hp,J4 p hp,hi,if_pos rfl]
    have hlk:=(RP p.1 (by simpa using hi)).2
    rw [WT] at hlk
    rcases (gW p hp).2.2.2 with ⟨_,ws,RQ,e,eb⟩ | ⟨a,i,sz,l,e,_,ea⟩ | ⟨a,i,sz,ah,l,e,_,ea⟩
    ·obtain ⟨ws',e'⟩:=aij p.1 hi ⟨_,eb⟩
     rw [e,e'];trivial
    ·rw [ea] at hlk
     rw [e]
     generalize vW.o p.1=z at hlk
     cases z with
     |none=>trivial
     |arr=>exact hlk
     |aG=>exact hlk.elim
     |box=>exact hlk.elim
     |it=>exact hlk.elim
    ·rw [ea] at hlk
     rw [e]
     generalize vW.o p.1=z at hlk
     cases z with
     |none=>trivial
     |arr=>exact hlk
     |aG=>exact hlk
     |box=>exact hlk.elim
     |it=>exact hlk.elim
  ·rw [OQ g hb hm];exact .inr ⟨by rw [hgo g hb hm];exact ⟨rfl,rfl⟩,O.eF _⟩
 have YN:Lets E stB Gz gh bD w w':=by
  refine ⟨fun a i b hb=>⟨⟨hb.1,by have:=hb.2.1;omega,fun g ho had => ?_⟩,?_⟩,fun g hu=>DL g (by rw [←hBu];exact hu)⟩
  ·rcases hsplit g b ho had with ⟨g0,o0,d0,_,_⟩ | ⟨o0,d0,_⟩
   ·have hw0:=(hx.wr g0 b o0 d0).1
    rw [hEB] at hw0
    rcases hw0 with hw0 | hw0
    ·have:=hb.2.1;omega
    ·obtain ⟨p,hp,e1⟩:=YM b hw0
     exact hb.2.2 p.2 (by rw [hBr p hp];exact (gW p hp).1) e1
   ·exact hb.2.2 g o0 d0
  ·exact hframe b hb.2.1 (afR b fun p hp e1=>hb.2.2 p.2 (by rw [hBr p hp];exact (gW p hp).1) e1)
 have aik :∀b,E'.Wr b→E.Wr b→(∀g ws,vW.o g=.box ws→(wC g).has b→sp.sig.aU.contains g=false)→c.I.2=true:=by
  intro b hb hEb hno
  obtain ⟨p,hp,e1⟩:=YM b hb
  rcases (gW p hp).2.2.2 with ⟨hi,ws,RQ,e,eb⟩ | ⟨a,i,sz,l,e,hci,_⟩ | ⟨a,i,sz,ah,l,e,hci,_⟩
  ·obtain ⟨ws',e'⟩:=aij p.1 hi ⟨_,eb⟩
   have:=hno p.1 ws' e' (by
    rcases e1 with ⟨ad,k1,k2⟩ | k1
    ·exact .inl ⟨ad,by rw [(aeV p hp hi).1];exact k1,k2⟩
    ·rw [h.ns p.2 (gW p hp).1 (by rw [e];rfl) b] at k1;cases k1)
   rw [hi] at this;cases this
  ·exact hci.2 (h.wi p.2 i b (by rw [e];rfl) e1 hEb)
  ·exact hci.2 (h.wi p.2 i b (by rw [e];rfl) e1 hEb)
 have hcls :∀{a i a' i':Bool} {A:Bool×Bool},(A.1=true→a'=true)→(A.2=true→i'=true)→∀{b:Nat},((A.1=true∧E.FA b)∨(A.2=true∧(E.FI b∨E.Wr b))∨E.B0≤b∨dR.has b)→((a'=true∧E.FA b)∨(i'=true∧(E.FI b∨E.Wr b))∨E.B0≤b∨dR.has b):=by
  intro a i a' i' A h1 h2 b hb
  rcases hb with ⟨q1,q2⟩ | ⟨q1,q2⟩ | q
  ·exact .inl ⟨h1 q1,q2⟩
  ·exact .inr (.inl ⟨h2 q1,q2⟩)
  ·exact .inr (.inr q)
 have hcast:Cast (D5 c.A c.I sp.sig.lC) bk2 (fun _=>False) E' E vW Gz wC bD w':=by
  refine ⟨fun a i a' i' b hC hb => ?_,fun g g' hm sz len ho=>⟨by rw [hgb g' g hm];exact ⟨rfl,rfl⟩,by rw [hFb g' g hm,ab4] at ho;exact ho⟩,
   fun g g' hm ws ho=>⟨by rw [hgb g' g hm],by rw [hFb g' g hm] at ho;exact ab5 ho⟩,fun g g' hm s n ho=>⟨by rw [hgb g' g hm],by rw [hFb g' g hm] at ho;exact afN ho⟩,fun g' hf=>hf.elim⟩
  obtain ⟨hC,hA⟩:=hC
  have ha':a'=((a&&c.A.1)||(i&&c.I.1)):=congrArg Prod.fst hC
  have hi':i'=((a&&c.A.2)||(i&&c.I.2)):=congrArg Prod.snd hC
  have aeW :∀g,(vW.o g).bF=true→¬ (wC g).has b:=hb.2.2
  have hcase:((a'=true∧E.FA b)∨(i'=true∧(E.FI b∨E.Wr b))∨E.B0≤b∨dR.has b)∧(∀g,(stB.o g).bF=true→g∉c.ren.map (·.2)→¬ (gh g).has b):=by
   have hb1:=hb.1
   subst hE'
   rcases hb1 with ⟨ha,hFA⟩ | ⟨hi,hFI | hWr⟩ | hge | hgl
   ·have hlk:=hA ha
    have hst:stB=st1:=by simp [stB,hlk]
    refine ⟨hcls (a:=a) (i:=i) (A:=c.A) (by intro h;simp [ha',ha,h]) (by intro h;simp [hi',ha,h]) hFA.1,fun g ho _ => ?_⟩
    rw [hst] at ho
    exact hFA.2.2 g ho
   ·refine ⟨hcls (a:=a) (i:=i) (A:=c.I) (by intro h;simp [ha',hi,h]) (by intro h;simp [hi',hi,h]) hFI.1,fun g ho _ => ?_⟩
    exact hFI.2.2 g (UF g ho)
   ·obtain ⟨p,hp,ow,e1⟩:=hWr
    refine ⟨?_,fun g ho hng had => ?_⟩
    ·rcases (h.wr p.2 b (gW p hp).1 e1).1 with q | q
     ·exact .inr (.inr (.inl q))
     ·have:=aik b ⟨p,hp,ow,e1⟩ q fun g RQ o1 d1=>absurd d1 (aeW g (by rw [o1];rfl))
      exact .inr (.inl ⟨by simp [hi',hi,this],.inr q⟩)
    ·have:=h.inj g p.2 b (UF g ho) (gW p hp).1 had e1
     exact hng (this▸List.mem_map.2 ⟨p,hp,rfl⟩)
   ·refine ⟨.inr (.inr (.inl (Nat.le_trans h.size hge))),fun g ho _ had => ?_⟩
    have:=(WU.wr g b ho had).2
    have hge:w.heap.size≤b:=hge
    omega
   ·refine ⟨.inr (.inr (.inr hgl)),fun g ho _ had => ?_⟩
    obtain ⟨g1,g2⟩:=E.Ym hgl
    rcases (WU.wr g b ho had).1 with q | q
    ·omega
    ·exact g2 q
  refine ⟨hcase.1,hb.2.1,fun g ho had => ?_⟩
  rcases hsplit g b ho had with ⟨g0,o0,d0,_,_⟩ | ⟨o0,d0,n0,_⟩
  ·exact aeW g0 o0 d0
  ·exact hcase.2 g o0 n0 d0
 have aeX :∀g0,kU E Gz bD w' (vO c.A c.I f (vW.o g0)) (wC g0):=fun g0=>hcast.Ae (hOut g0).1 (hx.aQ g0)
 have Jy:Rel E Gz bD val w':=by
  refine WU.step YN (hFs.trans hBs.symm) (fun g hg=>hFu g (by rw [←hBu];exact hg)) (fun g => ?_) (fun g1 g2 b h1 h2 k1 k2 => ?_) (fun g b ho had => ?_) (fun g i b ho had hw => ?_) (fun g ho hd b => ?_) (fun b hb hw => ?_) hsize (by rw [hx.os,hEw]) (by rw [hx.tape,hEw]) (by rw [hx.output,hEw]) (fun g g' hg' => ?_) (fun g hg => ?_)
  ·cases hb:bk g with
   |some g0=>
    obtain ⟨b1,b2⟩:=hbs g g0 hb
    subst b2
    rw [UH g0 b1,hgn g0 b1];exact aeX g0
   |none=>
    by_cases hm:g∈c.ren.map (·.2)
    ·obtain ⟨p,hp,e⟩:=List.mem_map.1 hm
     subst e
     rw [J4 p hp]
     cases hi:sp.sig.aU.contains p.1 with
     |false=>trivial
     |true=>rw [if_pos rfl,hgi p hp hi];exact aeX p.1
    ·rw [OQ g hb hm,hgo g hb hm]
     refine YN.Ae (fun ho b had=>hframe _ (WU.wr g b ho had).2 (afR _ fun p hp e1 => ?_)) (fun g' hg'=>WU.uo g g' hg') (WU.aQ g)
     have:=h.inj p.2 g b (gW p hp).1 (UF g ho) e1 had
     exact hm (this▸List.mem_map.2 ⟨p,hp,rfl⟩)
  ·have mixed :∀g1 g2 b g0,(vW.o g0).bF=true→(wC g0).has b→(stB.o g2).bF=true→(gh g2).has b→g2∉c.ren.map (·.2)→g1=g2:=by
    intro g1 g2 b g0 o1 d1 o2 d2 n2
    exfalso
    rcases (hx.wr g0 b o1 d1).1 with q | q
    ·rw [hEB] at q
     have:=(WU.wr g2 b o2 d2).2
     omega
    ·obtain ⟨p,hp,e1⟩:=YM _ q
     have:=h.inj p.2 g2 b (gW p hp).1 (UF g2 o2) e1 d2
     exact n2 (this▸List.mem_map.2 ⟨p,hp,rfl⟩)
   rcases hsplit g1 b h1 k1 with ⟨q1,o1,d1,_,l1⟩ | ⟨o1,d1,n1,_⟩<;>rcases hsplit g2 b h2 k2 with ⟨q2,o2,d2,_,l2⟩ | ⟨o2,d2,n2,_⟩
   ·have:=hx.inj q1 q2 b o1 o2 d1 d2
    subst this
    rcases l1 with ⟨m1,e1⟩ | ⟨i1,m1⟩<;>rcases l2 with ⟨m2,e2⟩ | ⟨i2,m2⟩
    ·rw [e1,e2]
    ·rw [afO q1 m1] at i2;cases i2
    ·rw [afO q1 m2] at i1;cases i1
    ·have l1:=(gW _ m1).2.2.1
     have l2:=(gW _ m2).2.2.1
     rw [l1] at l2;exact Option.some.inj l2
   ·exact mixed g1 g2 b q1 o1 d1 o2 d2 n2
   ·exact (mixed g2 g1 b q2 o2 d2 o1 d1 n1).symm
   ·exact WU.inj g1 g2 b o1 o2 d1 d2
  ·rcases hsplit g b ho had with ⟨g0,o0,d0,_,_⟩ | ⟨o0,d0,_⟩
   ·have:=hx.wr g0 b o0 d0
    refine ⟨?_,this.2⟩
    rcases this.1 with q | q
    ·rw [hEB] at q;exact .inl (Nat.le_trans h.size q)
    ·obtain ⟨p,hp,e1⟩:=YM _ q
     exact (h.wr p.2 b (gW p hp).1 e1).1
   ·have:=WU.wr g b o0 d0
    exact ⟨this.1,by omega⟩
  ·rcases hsplit g b (O.jY ho) had with ⟨g0,o0,d0,e0,l0⟩ | ⟨o0,d0,_,_,e0⟩
   ·rw [e0] at ho
    obtain ⟨a1,i1,h1,e2⟩:=WQ ho
    have hlt:b<w.heap.size:=by have:=h.wb _ hw;have:=h.size;omega
    rcases (hx.wr g0 b o0 d0).1 with q | q
    ·rw [hEB] at q;omega
    ·have hi1:=hx.wi g0 i1 b h1 d0 q
     have:=aik b q hw fun g3 ws3 o3 d3=>by
      have:=hx.inj g3 g0 b (by rw [o3];rfl) o0 d3 d0
      subst this
      rw [o3] at h1;cases h1
     rw [e2];simp [pR,hi1,this]
   ·rw [e0] at ho
    exact WU.wi g i b ho d0 hw
  ·rcases UJ g ho with ⟨g0,o0,e,e0,_⟩ | ⟨o0,e,_,_,e0⟩
   ·rw [e];exact hx.ns g0 o0 (by rw [e0,RJ] at hd;exact hd) b
   ·rw [e];exact WU.ns g o0 (by rw [e0] at hd;exact hd) b
  ·refine hframe b (Nat.lt_of_lt_of_le hb h.size) (afR b fun p hp e1 => ?_)
   rcases (h.wr p.2 b (gW p hp).1 e1).1 with q | q
   ·omega
   ·exact hw q
  ·cases hb:bk g with
   |some g0=>
    obtain ⟨b1,b2⟩:=hbs g g0 hb
    subst b2
    rw [UH g0 b1] at hg'
    obtain ⟨g1,m1,rfl⟩:=(hOut g0).2 g' hg'
    exact YL g1 m1
   |none=>
    by_cases hm:g∈c.ren.map (·.2)
    ·obtain ⟨p,hp,e⟩:=List.mem_map.1 hm
     subst e
     rw [J4 p hp] at hg'
     cases hi:sp.sig.aU.contains p.1 with
     |false=>rw [hi] at hg';simp [O.names] at hg'
     |true=>
      rw [hi,if_pos rfl] at hg'
      obtain ⟨g1,m1,rfl⟩:=(hOut p.1).2 g' hg'
      exact YL g1 m1
    ·rw [OQ g hb hm] at hg'
     exact hFu g' (by rw [←hBu];exact WU.uo g g' hg')
  ·cases hb:bk g with
   |some g0=>
    obtain ⟨b1,b2⟩:=hbs g g0 hb
    subst b2;exact hFn g0 b1
   |none=>
    by_cases hm:g∈c.ren.map (·.2)
    ·obtain ⟨p,hp,e⟩:=List.mem_map.1 hm
     subst e
     exact hFu _ (UG p hp)
    ·rw [OQ g hb hm] at hg
     exact hFu g (by rw [←hBu];exact WU.ul g hg)
 have ail :∀k,qF E Gz bD w' (Uz c.A c.I f (vW.s k)) (rs.getD k undef)∧∀g∈(Uz c.A c.I f (vW.s k)).names,∃g1∈sp.sig.aT++sp.sig.aU,g=f g1:=by
  intro k
  have hk:=hx.slots k
  subst WT
  have e0:(mk sp.sig.aI bT).s k=match (bZ bT 0 sp.sig.aI.slots).1.lookup k with | some x=>x | none=>.no:=rfl
  cases hxk:(bZ bT 0 sp.sig.aI.slots).1.lookup k with
  |none=>
   rw [e0,hxk]
   exact ⟨.one _ _ (.no _),by simp [Uz,V.names,W.names]⟩
  |some x=>
   rw [hxk] at e0
   rw [e0] at hk ⊢
   obtain ⟨kk,n',h1,h2⟩:=wI hxk
   obtain ⟨y,e,h3,h4⟩:=aia (vs:=bT) (A:=c.A) (I:=c.I) hb2 ((List.all_eq_true.1 hos) _ h1) (als k kk h1) n'
   simp only [h2,e] at hk ⊢
   cases hk with | v _ _ hk=>exact ⟨hcast.Wp h3 hk,h4⟩
 refine ⟨bD,Jy,⟨fun a i b hb => ?_,fun g hu => ?_⟩,?_,?_⟩
 ·obtain ⟨q1,q2⟩:=hLB.ok a i b hb
  exact YN.ok a i b q1
 ·rcases DL g hu with q | ⟨q1,q2⟩
  ·exact .inl q
  ·rcases hLB.names g hu with q | ⟨_,q⟩
   ·rw [q] at q2
    rcases O.Gx (x:=.none) (O.eF _) q2 with q | q
    ·exact .inl q
    ·exact .inl (O.Ci q)
   ·rcases O.Gx q q2 with q | q
    ·exact .inl q
    ·exact .inr ⟨q1,q⟩
 ·rw [aie]
  have hl:((List.range sp.sig.dA).map fun k=>Uz c.A c.I f (vW.s k)).length=rs.length:=by simp [hrl]
  have hj :∀(j:Nat) x v,((List.range sp.sig.dA).map fun k=>Uz c.A c.I f (vW.s k))[j]?=some x→rs[j]?=some v→qF E Gz bD w' x v:=by
   intro j x v hx' hv
   rw [List.getElem?_map] at hx'
   obtain ⟨k,hk,rfl⟩:=Option.map_eq_some_iff.1 hx'
   obtain ⟨hlt,hk⟩:=List.getElem?_eq_some_iff.1 hk
   simp at hk;subst hk
   have:=(ail j).1
   rwa [List.getD_eq_getElem?_getD,hv] at this
  generalize (List.range sp.sig.dA).map (fun k=>Uz c.A c.I f (vW.s k))=xs at hl hj
  unfold WH WJ
  match xs,rs,hl,hj with
  | [],[],_,hj=>exact .kT _ _ rfl hj
  | [x],[v],_,hj=>exact .v _ _ (hj 0 x v rfl rfl)
  |x::y::xs,v::u::vs,hl,hj=>exact .kT _ _ hl hj
 ·intro g hg
  have :∃k,g∈(Uz c.A c.I f (vW.s k)).names:=by
   rw [aie] at hg
   generalize hxs:(List.range sp.sig.dA).map (fun k=>Uz c.A c.I f (vW.s k))=xs at hg
   have hin :∃x∈xs,g∈x.names:=by
    unfold WH at hg
    split at hg
    ·exact ⟨_,by simp,hg⟩
    ·simpa [S.names,List.mem_flatMap] using hg
   obtain ⟨x,hx1,hx2⟩:=hin
   rw [←hxs] at hx1
   obtain ⟨k,_,rfl⟩:=List.mem_map.1 hx1
   exact ⟨k,hx2⟩
  obtain ⟨k,hk⟩:=this
  obtain ⟨g1,m1,rfl⟩:=(ail k).2 g hk
  exact YL g1 m1
theorem RS {Pg:Program} {fn:FuncId} {sp:Spec} (hs:Sound Pg fn sp) (h:Rel E st gh val w) {args:List S} {vals:List Value} (hr :∀t,cO E st gh w (args.getD t .no) (vals.getD t undef)) (hlen:vals.length=sp.sig.bM)
  {c:Jv} (hc:gy sp.sig st.o args=some c) (hf:c.fine sp.sig=true) {bT:List P} (hR:sp.R c.ins bT) (d:Nat)
  {ef:Eff} (hef:ef=gZ sp.sig d st.o c bT) (hnew :∀g∈ef.new,st.used g=false) :
  Calls Pg fn vals.toArray w fun e w' =>∃v bD,e=.returned v∧Rel E (st.aF ef.aF ef.new) bD val w'∧Lets E st (st.aF ef.aF ef.new) gh bD w w'∧cO E (st.aF ef.aF ef.new) bD w' ef.x v∧∀g∈ef.x.names,(st.aF ef.aF ef.new).used g=true:=by
 obtain ⟨E',kL,q1,q2,q3,_,q4⟩:=J3 hs.1 h hr hc hf
 refine Calls.mono (hs.2.2 E' w vals kL c.ins bT hR q1 q2 q3 hlen) fun e w' he => ?_
 obtain ⟨rs,wC,hrl,rfl,hx,RP⟩:=he
 obtain ⟨bD,r1,r2,r3,r4⟩:=q4 d bT ef hef hnew w' rs wC hrl hx RP
 exact ⟨_,bD,rfl,r1,r2,r3,r4⟩
end
end Go.Fw

namespace Go.Fw
set_option linter.unusedSectionVars false
variable [dR]
set_option linter.unusedVariables false
section
variable {o o':Nat→O}
theorem Cj {g:Nat} {x:Bool×Bool×Nat×List (List P)} (h:plainO o g=some x):(o g).names=(o g).hn∧∀d∈(o g).hn,(o d).hn=[]:=by
 obtain ⟨a,i,sz,l⟩:=x
 rcases um h with ⟨fz,h⟩ | ⟨ah,h⟩ | ⟨a0,i0,ah,l0,n,c,d,fz',a',i',sz',l',h,hd,_⟩
 ·rw [h];exact ⟨rfl,fun d hd=>by cases hd⟩
 ·rw [h];exact ⟨rfl,fun d hd=>by cases hd⟩
 ·rw [h]
  refine ⟨rfl,fun d' hd' => ?_⟩
  simp only [O.hn,dh,List.mem_singleton] at hd'
  subst hd';rw [hd];rfl
theorem MC {g:Nat} (h:Agree o o' g):aK o g=aK o' g:=by simp only [aK,Af h,h.1]
theorem OT {g d:Nat} (h:Agree o o' g) {x:Bool×Bool×Nat×List (List P)} (hp:plainO o g=some x) (hd:d∈(o g).hn):Agree o o' d:=by
 refine ⟨h.2 d hd,fun d' hd' => ?_⟩
 rw [(Cj hp).2 d hd] at hd';cases hd'
theorem Cm {x:W} (h :∀g∈x.names,Agree o o' g):x.toP o=x.toP o':=by
 cases x<;>simp only [W.toP]<;>(try rw [Af (h _ (by simp [W.names])),(h _ (by simp [W.names])).1])
theorem zx {x:W} {y:P} {a i:Bool} {gs:List Nat} (h:x.toP o=some (y,a,i,gs)) (hx :∀g∈x.names,Agree o o' g) :∀g∈gs,Agree o o' g:=by
 cases x<;>simp only [W.toP] at h
 case p=>simp only [Option.some.injEq,Prod.mk.injEq] at h;obtain ⟨_,_,_,rfl⟩:=h;simp
 case bY=>simp only [Option.some.injEq,Prod.mk.injEq] at h;obtain ⟨_,_,_,rfl⟩:=h;simp
 case own g=>
  split at h
  ·rename_i hp
   simp only [Option.some.injEq,Prod.mk.injEq] at h;obtain ⟨_,_,_,rfl⟩:=h
   have hg:=hx g (by simp [W.names])
   rw [(Cj hp).1]
   intro d hd
   rcases List.mem_append.1 hd with hd | hd
   ·exact OT hg hp hd
   ·rw [List.mem_singleton] at hd;subst hd;exact hg
  ·cases h
 case vw g lo hi=>
  split at h
  ·rename_i hp
   simp only [Option.some.injEq,Prod.mk.injEq] at h;obtain ⟨_,_,_,rfl⟩:=h
   have hg:=hx g (by simp [W.names])
   rw [(Cj hp).1]
   intro d hd
   rcases List.mem_append.1 hd with hd | hd
   ·exact OT hg hp hd
   ·rw [List.mem_singleton] at hd;subst hd;exact hg
  ·cases h
 all_goals cases h
theorem pU :∀{xs:List W},(∀x∈xs,∀g∈x.names,Agree o o' g)→rE o xs=rE o' xs
 | [],_=>rfl
 |x::xs,h=>by simp only [rE];rw [Cm (h x (by simp)),pU fun y hy=>h y (by simp [hy])]
theorem wL :∀{xs:List W} {ys:List P} {a i:Bool} {gs:List Nat},rE o xs=some (ys,a,i,gs)→(∀x∈xs,∀g∈x.names,Agree o o' g)→∀g∈gs,Agree o o' g
 | [],ys,a,i,gs,h,_=>by simp [rE] at h;obtain ⟨_,_,_,rfl⟩:=h;simp
 |x::xs,ys,a,i,gs,h,hx=>by
  simp only [rE] at h
  split at h
  ·rename_i h1 h2
   simp only [Option.some.injEq,Prod.mk.injEq] at h
   obtain ⟨_,_,_,rfl⟩:=h
   intro g hg
   rcases List.mem_append.1 hg with hg | hg
   ·exact zx h1 (hx x (by simp)) g hg
   ·exact wL h2 (fun y hy=>hx y (by simp [hy])) g hg
  ·cases h
theorem mX {gs:List Nat} (h :∀g∈gs,Agree o o' g):gs.map (aK o)=gs.map (aK o'):=
 List.map_congr_left fun g hg=>MC (h g hg)
theorem GH {sz:Nat} {x:W} (h :∀g∈x.names,o g=o' g):x.rows o sz=x.rows o' sz:=by
 cases x<;>simp only [W.rows]<;>(try rw [h _ (by simp [W.names])])
theorem D8 {x:W} (h :∀g∈x.names,o g=o' g):lenOf o x=lenOf o' x:=by
 cases x<;>simp only [lenOf]<;>(try rw [h _ (by simp [W.names])])
theorem zy {x:W} (h :∀g∈x.names,o g=o' g):x.live o=x.live o':=by
 cases x<;>simp only [W.live]<;>(try rw [h _ (by simp [W.names])])
theorem MF {tt:TT} {d:Nat} {sT:TypeId} {s x:W} (hs :∀g∈s.names,o g=o' g) (h :∀g∈x.names,o g=o' g):uf tt d o sT s x=uf tt d o' sT s x:=by
 unfold uf
 split
 ·split
  ·split
   ·rfl
   ·rw [GH h]
    split
    ·rfl
    ·cases s<;>simp only<;>(try rw [hs _ (by simp [W.names])])
  ·rfl
 ·rfl
theorem zA {place:Nat→Option (Nat×Nat)} :∀{ps:List (Nat×S)} {J5 ws:List W},lg place J5 ps=some ws→∀x∈ws,x∈J5∨∃p∈ps,∀g∈x.names,g∈p.2.names
 | [],J5,ws,h=>by simp only [lg,Option.some.injEq] at h;subst h;intro x hx;exact .inl hx
 |(n,s)::ps,J5,ws,h=>by
  cases s with
  |v y=>
   simp only [lg] at h
   split at h
   ·split at h
    ·intro x hx
     rcases zA h x hx with hx | ⟨p,hp,hg⟩
     ·unfold aH at hx
      rcases List.mem_append.1 hx with hx | hx
      ·rcases List.mem_append.1 hx with hx | hx
       ·exact .inl (List.mem_of_mem_take hx)
       ·refine .inr ⟨(n,.v y),by simp,fun g hg => ?_⟩
        cases y with
        |one y=>simp only [V.words,List.mem_singleton] at hx;subst hx;simpa [S.names,V.names] using hg
        |agg ys=>simp only [V.words] at hx;simp only [S.names,V.names,List.mem_flatMap];exact ⟨x,hx,hg⟩
      ·exact .inl (List.mem_of_mem_drop hx)
     ·exact .inr ⟨p,by simp [hp],hg⟩
    ·cases h
   ·cases h
  |kT=>simp [lg] at h
  |no=>simp [lg] at h
theorem D9 {y:V} {x:W} (h:x∈y.words) {g:Nat} (hg:g∈x.names):g∈(S.v y).names:=by
 cases y with
 |one y=>simp only [V.words,List.mem_singleton] at h;subst h;simpa [S.names,V.names] using hg
 |agg ys=>simp only [V.words] at h;simp only [S.names,V.names,List.mem_flatMap];exact ⟨x,h,hg⟩
theorem AB {tt:TT} {d:Nat} {F F':Operand→S} {op:Op} {ty:TypeId} (hF :∀x∈op.operands.toList,F x=F' x) (hO :∀x∈op.operands.toList,∀g∈(F x).names,Agree o o' g) :
  kernel tt d o F op ty=kernel tt d o' F' op ty:=by
 have ho :∀x∈op.operands.toList,∀g∈(F x).names,o g=o' g:=fun x hx g hg=>(hO x hx g hg).1
 cases op with
 |move x=>simp only [kernel,←hF x (by simp [Op.operands])]
 |assign x=>simp only [kernel,←hF x (by simp [Op.operands])]
 |pick c x y=>simp only [kernel,←hF c (by simp [Op.operands]),←hF x (by simp [Op.operands]),←hF y (by simp [Op.operands])]
 |alloc t=>rfl
 |box t x=>simp only [kernel,←hF x (by simp [Op.operands])]
 |build t ps=>
  have e:ps.toList.map (fun p=>(p.1,F p.2))=ps.toList.map (fun p=>(p.1,F' p.2)):=List.map_congr_left fun p hp=>by
   rw [hF p.2 (by simp only [Op.operands];exact List.mem_map.2 ⟨p,hp,rfl⟩)]
  simp only [kernel,←e]
 |buildSlice t n ps=>
  have e:ps.toList.map (fun p=>(p.1,F p.2))=ps.toList.map (fun p=>(p.1,F' p.2)):=List.map_congr_left fun p hp=>by
   rw [hF p.2 (by simp only [Op.operands];exact List.mem_map.2 ⟨p,hp,rfl⟩)]
  simp only [kernel,←e]
  split
  ·split
   ·rename_i ie _
    split
    ·rename_i ws hws
     have hn :∀x∈ws,∀g∈x.names,Agree o o' g:=by
      intro x hx g hg
      rcases zA hws x hx with h | ⟨p,hp,h⟩
      ·have:=qL h
       obtain ⟨v,_,rfl⟩:=List.mem_map.1 this
       rw [mP] at hg;cases hg
      ·obtain ⟨q,hq,rfl⟩:=List.mem_map.1 hp
       exact hO q.2 (by simp only [Op.operands];exact List.mem_map.2 ⟨q,hq,rfl⟩) g (h g hg)
     rw [←pU hn]
     split
     ·rename_i h
      rw [mX (wL h hn)]
     ·rfl
    ·rfl
   ·rfl
  ·rfl
 |load t x=>
  have hx:=hF x (by simp [Op.operands])
  have hn:=ho x (by simp [Op.operands])
  simp only [kernel,←hx]
  generalize F x=sx at hn
  split<;>simp_all [S.names,V.names,W.names]
 |store t x y=>
  have hx:=hF x (by simp [Op.operands])
  have hy:=hF y (by simp [Op.operands])
  have hn:=ho x (by simp [Op.operands])
  have hm:=hO y (by simp [Op.operands])
  simp only [kernel,←hx,←hy]
  generalize F x=sx at hn
  generalize F y=sy at hm
  split
  ·rename_i g off y _
   rw [hn g (by simp [S.names,V.names,W.names])]
  ·rename_i g n off y _
   rw [hn g (by simp [S.names,V.names,W.names])]
   have hw :∀x∈y.words,∀g∈x.names,Agree o o' g:=fun x hx g hg=>hm g (D9 hx hg)
   rw [←pU hw]
   cases hz:rE o y.words with
   |none=>cases o' g with | arr fz _ _ _ _=>cases fz<;>rfl | _=>rfl
   |some z=>
    obtain ⟨ps,a',i'',gs⟩:=z
    have e:=mX (wL hz hw)
    cases o' g with
    |arr fz _ _ _ _=>cases fz<;>simp only [e]
    |_=>rfl
  ·rfl
 |nilCheck x=>
  have hx:=hF x (by simp [Op.operands])
  have hn:=ho x (by simp [Op.operands])
  simp only [kernel,←hx]
  generalize F x=sx at hn
  split
  ·rw [zy fun g hg=>hn g (by simpa [S.names,V.names] using hg)]
  ·rfl
 |binOp op t x y u=>simp only [kernel,←hF x (by simp [Op.operands]),←hF y (by simp [Op.operands])]
 |unOp op t x=>simp only [kernel,←hF x (by simp [Op.operands])]
 |convert s t x=>
  have hx:=hF x (by simp [Op.operands])
  have hn:=ho x (by simp [Op.operands])
  simp only [kernel,←hx]
  generalize F x=sx at hn
  split
  ·rfl
  ·rw [GH fun g hg=>hn g (by simpa [S.names,V.names] using hg)]
  ·rfl
  ·rfl
 |makeSlice t n c=>
  simp only [kernel,←hF n (by simp [Op.operands]),←hF c (by simp [Op.operands])]
  split
  ·split
   ·rename_i ie _
    have:rE o (ie.zero.map cv)=rE o' (ie.zero.map cv):=pU fun x hx g hg=>by
     obtain ⟨v,_,rfl⟩:=List.mem_map.1 hx
     rw [mP] at hg;cases hg
    rw [this]
   ·rfl
  ·rfl
 |slice t x lo hi mx=>
  cases mx with
  |some m=>cases lo with
   |some l=>simp only [kernel]
   |none=>cases hi with
    |none=>simp only [kernel]
    |some h=>
     have hx:=hF x (by simp [Op.operands])
     have hn:=ho x (by simp [Op.operands])
     simp only [kernel,←hx,←hF h (by simp [Op.operands]),←hF m (by simp [Op.operands])]
     generalize F x=sx at hn
     unfold Ag
     split
     ·rename_i g _ _ h' _ _ m' _ _ _
      rw [hn g (by simp [S.names,V.names,W.names])]
     ·rfl
     ·rfl
  |none=>
   have hx:=hF x (by simp [Op.operands])
   have hn:=ho x (by simp [Op.operands])
   have hlo:lo.map F=lo.map F':=by
    cases lo with
    |none=>rfl
    |some l=>simp [hF l (by simp [Op.operands])]
   have hhi:hi.map F=hi.map F':=by
    cases hi with
    |none=>rfl
    |some l=>simp [hF l (by simp [Op.operands])]
   simp only [kernel,←hx,←hlo,←hhi]
   generalize F x=sx at hn
   split
   ·rename_i x _
    have hn :∀g∈x.names,o g=o' g:=fun g hg=>hn g (by simpa [S.names,V.names] using hg)
    rw [←D8 hn]
    split
    ·split
     ·split
      ·rw [hn _ (by simp [W.names])]
      all_goals rfl
     ·rfl
    ·rfl
   ·rfl
   ·rfl
 |fieldAddr t x n=>
  have hx:=hF x (by simp [Op.operands])
  have hn:=ho x (by simp [Op.operands])
  simp only [kernel,←hx]
  generalize F x=sx at hn
  split
  ·rw [zy fun g hg=>hn g (by simpa [S.names,V.names] using hg)]
  ·rfl
 |field t x n=>simp only [kernel,←hF x (by simp [Op.operands])]
 |indexAddr t x ix=>
  have hx:=hF x (by simp [Op.operands])
  have hn:=ho x (by simp [Op.operands])
  simp only [kernel,←hx,←hF ix (by simp [Op.operands])]
  generalize F x=sx at hn
  split
  ·rename_i x a i n _ _
   have hn :∀g∈x.names,o g=o' g:=fun g hg=>hn g (by simpa [S.names,V.names] using hg)
   split
   ·rw [hn _ (by simp [W.names])]
   ·rw [hn _ (by simp [W.names])]
   all_goals rfl
  ·rfl
  ·rw [zy fun g hg=>hn g (by simpa [S.names,V.names] using hg)]
  ·rfl
 |index t x ix=>simp only [kernel,←hF x (by simp [Op.operands]),←hF ix (by simp [Op.operands])]
 |extract t n=>simp only [kernel,←hF t (by simp [Op.operands])]
 |range t x=>simp only [kernel,←hF x (by simp [Op.operands])]
 |makeFunc fn first caps=>
  cases fn with
  |func g=>
   simp only [kernel]
   have hc :∀x∈caps.toList,F x=F' x:=fun x hx=>hF x (by simp [Op.operands];exact .inr (by simpa using hx))
   have :∀l:List Operand,(∀x∈l,F x=F' x)→∀(G:Option (List W)→Option E5),G (l.mapM (fun x=>match F x with | .v (.one w)=>some w | _=>none))=G (l.mapM (fun x=>match F' x with | .v (.one w)=>some w | _=>none)):=by
    intro l hl G
    congr 1
    induction l with
    |nil=>rfl
    |cons x l ih=>
     simp only [List.mapM_cons]
     rw [hl x (by simp),ih fun y hy=>hl y (by simp [hy])]
   split
   ·exact this _ hc fun z=>match z with | some ws=>some (.pure (.v (.one (.clo g ws)))) | none=>none
   ·rfl
  |_=>rfl
 |call c=>
  obtain ⟨callee,args,ts⟩:=c
  have ha :∀x∈args.toList,F x=F' x:=fun x hx=>hF x (by simp [Op.operands,Call.operands];exact .inr (by simpa using hx))
  have hb :∀x∈args.toList,∀g∈(F x).names,o g=o' g:=fun x hx=>ho x (by simp [Op.operands,Call.operands];exact .inr (by simpa using hx))
  cases callee with
  |builtin b=>
   cases b with
   |append=>
    simp only [kernel]
    split
    ·rename_i s x sT xT _ hl _
     have hs:=ha s (by rw [hl];simp)
     have hx:=ha x (by rw [hl];simp)
     have ns:=hb s (by rw [hl];simp)
     have nx:=hb x (by rw [hl];simp)
     rw [←hs,←hx]
     generalize F s=ss at ns
     generalize F x=sx at nx
     split
     ·exact MF (fun g hg=>ns g (by simpa [S.names,V.names] using hg)) (fun g hg=>nx g (by simpa [S.names,V.names] using hg))
     ·rfl
    ·rfl
   |clear=>
    simp only [kernel]
    split
    ·rename_i x t tl hl _
     have hx:=ha x (by rw [hl];simp)
     have nx:=hb x (by rw [hl];simp)
     rw [←hx]
     generalize F x=sx at nx
     unfold LC
     split
     ·rename_i e _ _ _ g lo hi _
      rw [nx g (by simp [S.names,V.names,W.names])]
      split
      ·rename_i ie _ _ _ _ _ _
       have:rE o (ie.zero.map cv)=rE o' (ie.zero.map cv):=pU fun x hx g hg=>by
        obtain ⟨v,_,rfl⟩:=List.mem_map.1 hx
        rw [mP] at hg;cases hg
       rw [this]
      ·rfl
     ·rfl
    ·rfl
   |len=>
    simp only [kernel]
    split
    ·rename_i x t hl _
     have hx:=ha x (by rw [hl];simp)
     have nx:=hb x (by rw [hl];simp)
     rw [←hx]
     generalize F x=sx at nx
     split
     ·rw [D8 fun g hg=>nx g (by simpa [S.names,V.names] using hg)]
     ·rfl
     ·rfl
    ·rfl
   |min=>
    simp only [kernel]
    split
    ·rename_i x y hl
     rw [ha x (by rw [hl];simp),ha y (by rw [hl];simp)]
    ·rename_i x y z hl
     rw [ha x (by rw [hl];simp),ha y (by rw [hl];simp),ha z (by rw [hl];simp)]
    ·rfl
   |max=>
    simp only [kernel]
    split
    ·rename_i x y hl
     rw [ha x (by rw [hl];simp),ha y (by rw [hl];simp)]
    ·rename_i x y z hl
     rw [ha x (by rw [hl];simp),ha y (by rw [hl];simp),ha z (by rw [hl];simp)]
    ·rfl
   |_=>rfl
  |_=>rfl
 |_=>rfl
theorem yh {col:Nat→Option Nat} :∀{xs:List W} {j:Nat},(∀x∈xs,∀g∈x.names,Agree o o' g)→N7 o col j xs=N7 o' col j xs
 | [],_,_=>rfl
 |x::xs,j,h=>by
  have hx:=h x (by simp)
  simp only [N7]
  rw [yh fun y hy=>h y (by simp [hy]),Cm hx]
  cases x with
  |own e=>simp only [(hx e (by simp [W.names])).1]
  |_=>rfl
theorem zB {col:Nat→Option Nat} :∀{xs:List W} {j:Nat} {ys:List P} {a i:Bool} {gs:List Nat} {es:List (Nat×Nat)},N7 o col j xs=some (ys,a,i,gs,es)→(∀x∈xs,∀g∈x.names,Agree o o' g)→∀g∈gs,Agree o o' g
 | [],j,ys,a,i,gs,es,h,_=>by simp [N7] at h;obtain ⟨_,_,_,rfl,_⟩:=h;simp
 |x::xs,j,ys,a,i,gs,es,h,hx=>by
  simp only [N7] at h
  split at h
  ·cases h
  ·rename_i ys' a' i' gs' es' h2
   have ih:=zB h2 (fun y hy=>hx y (by simp [hy]))
   split at h
   ·split at h
    ·rename_i h1
     simp only [Option.some.injEq,Prod.mk.injEq] at h
     obtain ⟨_,_,_,rfl,_⟩:=h
     intro g hg
     rcases List.mem_append.1 hg with hg | hg
     ·exact zx h1 (hx x (by simp)) g hg
     ·exact ih g hg
    ·cases h
   ·split at h
    ·simp only [Option.some.injEq,Prod.mk.injEq] at h
     obtain ⟨_,_,_,rfl,_⟩:=h
     exact ih
    ·split at h
     ·split at h
      ·simp only [Option.some.injEq,Prod.mk.injEq] at h
       obtain ⟨_,_,_,rfl,_⟩:=h
       exact ih
      ·cases h
     ·cases h
    ·cases h
theorem OU {x:W} (h :∀g∈x.names,Agree o o' g):baseD o x=baseD o' x:=by
 cases x<;>simp only [baseD]<;>(try rw [lU (h _ (by simp [W.names])),(h _ (by simp [W.names])).1])
theorem Jz {tt:TT} {dc:List (Nat×Nat)} {d:Nat} {F F':Operand→S} {op:Op} {ty:TypeId} (hF :∀x∈op.operands.toList,F x=F' x) (hO :∀x∈op.operands.toList,∀g∈(F x).names,Agree o o' g) :
  dJ tt dc d o F op ty=dJ tt dc d o' F' op ty:=by
 cases op with
 |load t x=>
  have hx:=hF x (by simp [Op.operands])
  have hn:=hO x (by simp [Op.operands])
  simp only [dJ,zi,←hx]
  generalize F x=sx at hn
  congr 1
  ·split
   ·have hg:=hn _ (by simp [S.names,V.names,W.names];rfl)
    rw [←lU hg]
   ·rfl
  ·split
   ·have hg:=hn _ (by simp [S.names,V.names,W.names];rfl)
    rw [←lU hg,←hg.1]
   ·rfl
 |slice t x lo hi mx=>
  cases lo with
  |some _=>rfl
  |none=>
  cases mx with
  |some _=>rfl
  |none=>
  have hx:=hF x (by simp [Op.operands])
  have hn:=hO x (by simp [Op.operands])
  have hh:hi.map F=hi.map F':=by
   cases hi with
   |none=>rfl
   |some y=>simp only [Option.map_some,Option.some.injEq];exact hF y (by simp [Op.operands])
  simp only [dJ,←hx,←hh]
  generalize F x=sx at hn
  split
  ·have hg:=hn _ (by simp [S.names,V.names,W.names];rfl)
   rw [←hg.1]
  ·rfl
 |store t x y=>
  have hx:=hF x (by simp [Op.operands])
  have hy:=hF y (by simp [Op.operands])
  have hn:=hO x (by simp [Op.operands])
  have hm:=hO y (by simp [Op.operands])
  simp only [dJ,←hx,←hy]
  generalize F x=sx at hn
  generalize F y=sy at hm
  split
  ·rename_i g off y _
   have hg:=hn _ (by simp [S.names,V.names,W.names];rfl)
   have hw :∀x∈y.words,∀g∈x.names,Agree o o' g:=fun x hx g hg=>hm g (D9 hx hg)
   rw [←lU hg,←hg.1]
   split
   ·rename_i a0 i0 sz ah l0 hole _
    rw [←yh hw]
    split
    ·rename_i ps a' i' gs es hz
     rw [mX (zB hz hw)]
    ·rfl
   ·rfl
  ·rfl
 |buildSlice t n ps=>
  have e:ps.toList.map (fun p=>(p.1,F p.2))=ps.toList.map (fun p=>(p.1,F' p.2)):=List.map_congr_left fun p hp=>by
   rw [hF p.2 (by simp only [Op.operands];exact List.mem_map.2 ⟨p,hp,rfl⟩)]
  simp only [dJ,←e]
  split
  ·split
   ·rename_i ie _
    split
    ·rename_i ws hws
     have hn :∀x∈ws,∀g∈x.names,Agree o o' g:=by
      intro x hx g hg
      rcases zA hws x hx with h | ⟨p,hp,h⟩
      ·have:=qL h
       obtain ⟨v,_,rfl⟩:=List.mem_map.1 this
       rw [mP] at hg;cases hg
      ·obtain ⟨q,hq,rfl⟩:=List.mem_map.1 hp
       exact hO q.2 (by simp only [Op.operands];exact List.mem_map.2 ⟨q,hq,rfl⟩) g (h g hg)
     rw [←yh hn]
     split
     ·rename_i h
      rw [mX (zB h hn)]
     ·rfl
    ·rfl
   ·rfl
  ·rfl
 |makeSlice t n c=>
  simp only [dJ,←hF n (by simp [Op.operands]),←hF c (by simp [Op.operands])]
  split
  ·split
   ·rename_i ie _
    have :∀col,N7 o col 0 (ie.zero.map cv)=N7 o' col 0 (ie.zero.map cv):=fun col=>yh fun x hx g hg=>by
     obtain ⟨v,_,rfl⟩:=List.mem_map.1 hx
     rw [mP] at hg;cases hg
    rw [this]
   ·rfl
  ·rfl
 |call c=>
  obtain ⟨callee,args,ts⟩:=c
  have ha :∀x∈args.toList,F x=F' x:=fun x hx=>hF x (by simp [Op.operands,Call.operands];exact .inr (by simpa using hx))
  have hb :∀x∈args.toList,∀g∈(F x).names,Agree o o' g:=fun x hx=>hO x (by simp [Op.operands,Call.operands];exact .inr (by simpa using hx))
  cases callee with
  |builtin b=>
   cases b with
   |append=>
    simp only [dJ]
    split
    ·rename_i s x sT xT _ hl _
     have hs:=ha s (by rw [hl];simp)
     have hx:=ha x (by rw [hl];simp)
     have ns:=hb s (by rw [hl];simp)
     have nx:=hb x (by rw [hl];simp)
     rw [←hs,←hx]
     generalize F s=ss at ns
     generalize F x=sx at nx
     split
     ·rename_i s' g2 _ _
      have hg:=nx g2 (by simp [S.names,V.names,W.names])
      rw [←OU (fun g hg=>ns g (by simpa [S.names,V.names] using hg)),←lU hg,←hg.1]
     ·rfl
    ·rfl
   |_=>rfl
  |_=>rfl
 |_=>rfl
end
end Go.Fw

namespace Go.Fw
open Go.RowKit
set_option linter.unusedSectionVars false
set_option linter.unusedVariables false
set_option linter.unusedSimpArgs false
variable [dR]
def quiet:Obj→Bool
 |.loop _=>true
 |.deferred _=>true
 |_=>false
theorem iP {o:Obj} (h:quiet o=true) :∀c e f,o≠.cells c e f:=by intro c e f e';subst e';cases h
theorem GI {o:Obj} (h:quiet o=true) :∀s k,o≠.stringIter s k:=by intro s k e';subst e';cases h
section
variable {w w':World} {b:Nat} {o:Obj}
theorem GK {a:Addr} {v:Value} (h:w.cell? a=some v) :∃c e f,w.heap[a.block]?=some (.cells c e f):=by
 obtain ⟨o,ho,hc⟩:=cells_of_cell h
 cases o<;>first | exact ⟨_,_,_,ho⟩ | cases hc
theorem bW.turn (hb:w.heap[b]?=some o) (hq:quiet o=true) (hs :∀k,k≠b→w'.heap[k]?=w.heap[k]?) {ok:Nat→Prop} {x:P} {v:Value} (r:bW w ok x v):bW w' ok x v:=by
 have ne :∀{k c e f},w.heap[k]?=some (.cells c e f)→k≠b:=fun hk e'=>by subst e';rw [hb] at hk;exact iP hq _ _ _ (Option.some.inj hk)
 induction r with
 |int k n=>exact .int k n
 |bool b=>exact .bool b
 |str s=>exact .str s
 |opq v h=>exact .opq v h
 |nil sz ao cap=>exact .nil sz ao cap
 |sl sz l a cap f hs' hok hcap hlen hc hr ih=>
  refine .sl sz l a cap f hs' hok hcap hlen (fun i x hx j y hy => ?_) (fun i x hx j y hy=>ih i x hx j y hy)
  have h0:=hc i x hx j y hy
  obtain ⟨c,e,f,hk⟩:=GK h0
  rw [←h0]
  exact World.cell?_of_block (w:=w) (hs _ (ne hk))
 |seq l v S hv hS hq'=>
  exact .seq l v S hv (fun b' hb'=>⟨(hS b' hb').1,by obtain ⟨c,e,f,hk⟩:=(hS b' hb').2;exact ⟨c,e,f,(hs _ (ne hk)).trans hk⟩⟩)
   (dR.Uu (fun b' hb'=>by obtain ⟨c,e,f,hk⟩:=(hS b' hb').2;exact hs _ (ne hk)) hq')
variable {E:Env} {st:St} {gh:Nat→Gh}
theorem uI (hz:w'.heap.size=w.heap.size) {a i:Bool}:E.ok st gh w a i=E.ok st gh w' a i:=by
 funext b;unfold Env.ok;rw [hz]
theorem dZ.turn (hb:w.heap[b]?=some o) (hq:quiet o=true) (hs :∀k,k≠b→w'.heap[k]?=w.heap[k]?) (hz:w'.heap.size=w.heap.size) {x:W} {v:Value} (r:dZ E st gh w x v):dZ E st gh w' x v:=by
 induction r with
 |p a i x v h=>exact .p a i x v (by rw [←uI hz];exact h.turn hb hq hs)
 |bY=>exact .bY
 |own g v hv h=>exact .own g v hv h
 |vw g lo hi v hv h=>exact .vw g lo hi v hv h
 |box g off v hv h=>exact .box g off v hv h
 |ep g n off v hv h=>exact .ep g n off v hv h
 |sp a i row off b' o' hb' h=>
  refine .sp a i row off b' o' (by rw [←uI hz];exact hb') fun j y hj => ?_
  obtain ⟨u,hu,hr⟩:=h j y hj
  obtain ⟨c,e,f,hk⟩:=GK hu
  refine ⟨u,?_,by rw [←uI hz];exact hr.turn hb hq hs⟩
  rw [←hu]
  refine World.cell?_of_block (w:=w) (hs _ fun e' => ?_)
  have hk:w.heap[b']?=some (.cells c e f):=hk
  have e':b'=b:=e'
  rw [e',hb] at hk;exact iP hq _ _ _ (Option.some.inj hk)
 |gl g=>exact .gl g
 |mJ g v hv h=>exact .mJ g v hv h
 |gd b x v h ih=>exact .gd b x v ih
 |clo f caps vs hl h ih=>exact .clo f caps vs hl ih
 |no v=>exact .no v
theorem qF.turn (hb:w.heap[b]?=some o) (hq:quiet o=true) (hs :∀k,k≠b→w'.heap[k]?=w.heap[k]?) (hz:w'.heap.size=w.heap.size) {x:V} {v:Value} (r:qF E st gh w x v):qF E st gh w' x v:=by
 cases r with
 |one x v h=>exact .one x v (h.turn hb hq hs hz)
 |agg xs cs hl hv h=>exact .agg xs cs hl hv fun j x v hx hv'=>(h j x v hx hv').turn hb hq hs hz
theorem cO.turn (hb:w.heap[b]?=some o) (hq:quiet o=true) (hs :∀k,k≠b→w'.heap[k]?=w.heap[k]?) (hz:w'.heap.size=w.heap.size) {x:S} {v:Value} (r:cO E st gh w x v):cO E st gh w' x v:=by
 cases r with
 |v x v h=>exact .v x v (h.turn hb hq hs hz)
 |kT xs vs hl h=>exact .kT xs vs hl fun j x v hx hv=>(h j x v hx hv).turn hb hq hs hz
 |no v=>exact .no v
theorem gY.turn (hb:w.heap[b]?=some o) (hq:quiet o=true) (hs :∀k,k≠b→w'.heap[k]?=w.heap[k]?) (hz:w'.heap.size=w.heap.size) {a i:Bool} {sz:Nat} {l:List (List P)} {G:Gh} (r:gY E st gh w a i sz l G):gY E st gh w' a i sz l G:=by
 rcases r with r | ⟨ad,c,e,h1,h2,h3,h4,h5,h6,h7⟩
 ·exact .inl r
 ·exact .inr ⟨ad,c,e,h1,h2,(hs _ fun e'=>by rw [e',hb] at h3;exact iP hq _ _ _ (Option.some.inj h3)).trans h3,h4,h5,h6,fun n x hx j y hy=>let ⟨v,q1,q2⟩:=h7 n x hx j y hy;⟨v,q1,by rw [←uI hz];exact q2.turn hb hq hs⟩⟩
theorem kU.turn (hb:w.heap[b]?=some o) (hq:quiet o=true) (hs :∀k,k≠b→w'.heap[k]?=w.heap[k]?) (hz:w'.heap.size=w.heap.size) {x:O} {G:Gh} (r:kU E st gh w x G):kU E st gh w' x G:=by
 have ne :∀{k c e f},w.heap[k]?=some (.cells c e f)→k≠b:=fun hk e'=>by subst e';rw [hb] at hk;exact iP hq _ _ _ (Option.some.inj hk)
 cases x with
 |none=>trivial
 |box ws=>
  obtain ⟨ad,c,e,h1,h2,h3,h4,h5⟩:=r
  exact ⟨ad,c,e,h1,h2,(hs _ (ne h3)).trans h3,h4,fun j x hx=>let ⟨v,q1,q2,q3⟩:=h5 j x hx;⟨v,q1,q2,q3.turn hb hq hs hz⟩⟩
 |arr fz a i sz l=>
  cases fz with
  |true=>exact (by rw [←uI hz];exact bW.turn hb hq hs r:bW w' (E.ok st gh w' a i) (.sl sz l) (.slice G.ad l.length G.cap))
  |false=>exact gY.turn hb hq hs hz r
 |aG a i sz ah l hole=>
  rcases r with r | ⟨ad,c,e,h1,h2,h3,h4,h5,h6,⟨h7,h7'⟩,h8⟩
  ·exact .inl r
  ·refine .inr ⟨ad,c,e,h1,h2,(hs _ (ne h3)).trans h3,h4,h5,h6,⟨h7,fun k hk=>let ⟨c,e,f,q⟩:=h7' k hk;⟨c,e,f,(hs _ (ne q)).trans q⟩⟩,fun n x hx j y hy => ?_⟩
   obtain ⟨v,hv,hr⟩:=h8 n x hx j y hy
   refine ⟨v,hv,?_⟩
   unfold g_ at *
   cases hc:ah.lookup j with
   |none=>rw [hc] at hr;exact (by rw [←uI hz];exact bW.turn hb hq hs hr:bW w' (E.ok st gh w' a i) y v)
   |some sz'=>
    rw [hc] at hr
    simp only at *
    cases hh:gu hole n j with
    |some d=>rw [hh] at hr;exact ⟨hr.1,hr.2.turn hb hq hs hz⟩
    |none=>
     rw [hh] at hr
     obtain ⟨l',ao,k,q1,q2,q3,q4⟩:=hr
     exact ⟨l',ao,k,q1,q2,q3.turn hb hq hs hz,q4⟩
 |it s n=>
  obtain ⟨ad,bs,k,h1,h2,h3,h4⟩:=r
  refine ⟨ad,bs,k,h1,h2,h3,(hs _ fun e' => ?_).trans h4⟩
  rw [e',hb] at h4;exact GI hq _ _ (Option.some.inj h4)
theorem Rel.turn {val:Nat→Value} (h:Rel E st gh val w) (hb:w.heap[b]?=some o) (hq:quiet o=true) (hB:E.B0≤b) (o':Obj):Rel E st gh val (w.putObj b o'):=by
 have hs :∀k,k≠b→(w.putObj b o').heap[k]?=w.heap[k]?:=fun k hk=>World.putObj_heap_other hk
 have hz:(w.putObj b o').heap.size=w.heap.size:=World.putObj_size
 exact ⟨fun t=>(h.slots t).turn hb hq hs hz,fun g=>(h.aQ g).turn hb hq hs hz,h.inj,fun g a h1 h2=>by rw [hz];exact h.wr g a h1 h2,h.wi,h.ns,h.wb,fun k hk hw=>(hs k (by omega)).trans (h.frame k hk hw),by rw [hz];exact h.size,h.os,h.tape,h.output,h.us,h.uo,h.ul⟩
omit [dR] in
structure pV (w w':World):Prop where
 size:w.heap.size≤w'.heap.size
 same :∀b,b<w.heap.size→w'.heap[b]?=w.heap[b]?
 os:w'.os=w.os
 tape:w'.tape=w.tape
 output:w'.output=w.output
theorem pV.refl (w:World):pV w w:=⟨Nat.le_refl _,fun _ _=>rfl,rfl,rfl,rfl⟩
theorem pV.trans {w w1 w2:World} (h:pV w w1) (k:pV w1 w2):pV w w2:=
 ⟨Nat.le_trans h.size k.size,fun b hb=>(k.same b (Nat.lt_of_lt_of_le hb h.size)).trans (h.same b hb),k.os.trans h.os,k.tape.trans h.tape,k.output.trans h.output⟩
theorem pV.alloc (w:World) (o:Obj):pV w (w.alloc o):=
 ⟨by simp,fun b hb=>Below.heap_alloc w o b hb,rfl,rfl,rfl⟩
theorem pV.lets (h:pV w w'):Lets E st st gh gh w w':=
 ⟨fun a i b hb=>⟨⟨hb.1,Nat.lt_of_lt_of_le hb.2.1 h.size,hb.2.2⟩,h.same b hb.2.1⟩,fun g _=>.inr ⟨⟨rfl,rfl⟩,O.eF _⟩⟩
theorem Rel.grows {val:Nat→Value} (h:Rel E st gh val w) (hg:pV w w'):Rel E st gh val w':=by
 have hl:Lets E st st gh gh w w':=hg.lets
 refine ⟨fun t=>hl.abU (h.us t) (h.slots t),fun g=>hl.Ae (fun ho ad had=>hg.same _ (h.wr g ad ho had).2) (h.uo g) (h.aQ g),h.inj,fun g a h1 h2=>⟨(h.wr g a h1 h2).1,Nat.lt_of_lt_of_le (h.wr g a h1 h2).2 hg.size⟩,h.wi,h.ns,h.wb,fun k hk hw=>(hg.same k (Nat.lt_of_lt_of_le hk h.size)).trans (h.frame k hk hw),Nat.le_trans h.size hg.size,hg.os.trans h.os,hg.tape.trans h.tape,hg.output.trans h.output,h.us,h.uo,h.ul⟩
theorem Rel.YO {val:Nat→Value} (h:Rel E st gh val w) (hb:w.heap[b]?=some o) (hq:quiet o=true) (hB:E.B0≤b) (a i:Bool):E.ok st gh w a i b:=by
 refine ⟨.inr (.inr (.inl hB)),(Array.getElem?_eq_some_iff.1 hb).1,fun g ho had => ?_⟩
 have hO:=h.aQ g
 rcases had with ⟨ad,had,e⟩ | hsub
 case inr=>
  cases hd:(st.o g).nG with
  |false=>rw [h.ns g ho hd b] at hsub;cases hsub
  |true=>
   cases hog:st.o g with
   |aG a i sz ah l hole=>
    rw [hog] at hO
    rcases hO with ⟨_,_,_,q⟩ | ⟨ad,c,e,_,_,_,_,_,_,⟨_,q⟩,_⟩
    ·rw [q b] at hsub;cases hsub
    ·obtain ⟨c,e,f,q⟩:=q b hsub
     rw [hb] at q;exact iP hq _ _ _ (Option.some.inj q)
   |_=>rw [hog] at hd;cases hd
 cases hog:st.o g with
 |none=>rw [hog] at ho;cases ho
 |box ws=>
  rw [hog] at hO
  obtain ⟨ad',c,e',q1,_,q3,_⟩:=hO
  rw [had] at q1;cases q1
  rw [e,hb] at q3;exact iP hq _ _ _ (Option.some.inj q3)
 |aG a i sz ah l hole=>
  rw [hog] at hO
  rcases hO with ⟨q1,_⟩ | ⟨ad',c,e',q1,_,q3,_⟩
  ·rw [had] at q1;cases q1
  ·rw [had] at q1;cases q1
   rw [e,hb] at q3;exact iP hq _ _ _ (Option.some.inj q3)
 |arr fz a i sz l=>
  cases fz with
  |true=>rw [hog] at ho;cases ho
  |false=>
   rw [hog] at hO
   rcases hO with ⟨q1,_⟩ | ⟨ad',c,e',q1,_,q3,_⟩
   ·rw [had] at q1;cases q1
   ·rw [had] at q1;cases q1
    rw [e,hb] at q3;exact iP hq _ _ _ (Option.some.inj q3)
 |it s n=>
  rw [hog] at hO
  obtain ⟨ad',bs,k,q1,_,_,q4⟩:=hO
  rw [had] at q1;cases q1
  rw [e,hb] at q4;exact GI hq _ _ (Option.some.inj q4)
end
end Go.Fw

namespace Go.Fw
set_option linter.unusedSectionVars false
variable [dR]
set_option linter.unusedVariables false
section
variable {E:Env} {st st':St} {gh bD:Nat→Gh} {w w':World} {a:Act}
theorem RU (v:Value):cO E st gh w (t_ v) v:=by
 unfold t_
 split
 ·rename_i cs
  split
  ·rename_i h
   have h:=List.all_eq_true.1 h
   refine .v _ _ (.agg _ cs.toList (by simp) h fun j x u hx hu => ?_)
   rw [List.getElem?_map,hu] at hx
   simp only [Option.map_some,Option.some.injEq] at hx
   subst hx
   exact Rt (h u (List.mem_of_getElem? hu))
  ·exact .no _
 ·exact .no _
 ·exact .v _ _ (.one _ _ (.clo _ [] [] rfl fun j x v hx=>by simp at hx))
 ·split
  ·rename_i h;exact .v _ _ (.one _ _ (Rt h))
  ·exact .no _
theorem MG (v:Value):(t_ v).names=[]:=by
 unfold t_
 split
 ·split
  ·simp [S.names,V.names,mP]
  ·rfl
 ·rfl
 ·simp [S.names,V.names,W.names]
 ·split
  ·simp [S.names,V.names,mP]
  ·rfl
theorem mY (h:Rel E st gh (fun t=>a.tmps.getD t undef) w) (x:Operand):cO E st gh w (st.dK x) (a.eval x):=by
 cases x with
 |tmp t=>exact h.slots t
 |const v=>exact RU v
 |global g=>
  simp only [St.dK]
  split
  ·exact .v _ _ (.one _ _ (.gl g))
  ·exact .no _
 |func f=>exact .v _ _ (.one _ _ (.clo _ [] [] rfl fun j x v hx=>by simp at hx))
theorem GL (h:Rel E st gh (fun t=>a.tmps.getD t undef) w) (x:Operand) :∀g∈(st.dK x).names,st.used g=true:=by
 cases x with
 |tmp t=>exact h.us t
 |const v=>intro g hg;simp [St.dK,MG] at hg
 |global g=>
  intro g' hg
  simp only [St.dK] at hg
  split at hg
  ·simp [S.names,V.names,W.names] at hg
  ·simp [S.names] at hg
 |func f=>intro g hg;simp [St.dK,S.names,V.names,W.names] at hg
theorem wM (dst:Option Tmp) (v:Value) (h :∀d,dst=some d→d<a.tmps.size):(fun t=>(a.put dst v).tmps.getD t undef)=wo (fun t=>a.tmps.getD t undef) dst v:=by
 cases dst with
 |none=>rfl
 |some d=>
  funext t
  have hd:=h d rfl
  simp only [Act.put,wo,Array.getD_eq_getD_getElem?]
  by_cases e:t=d
  ·subst e;simp [hd]
  ·rw [Array.getElem?_setIfInBounds_ne (Ne.symm e),if_neg e]
variable {Pg:Program} {T:Tab} {tt:TT}
theorem WV (hT :∀f sp,T f=some sp→Sound Pg f sp) (htt:gQ Pg tt) (h:Rel E st gh (fun t=>a.tmps.getD t undef) w) {o:Oper} {d:Nat} {e:Eff} (hc:iJ T tt d st o fun e'=>e'=e) (hnew :∀g∈e.new,st.used g=false)
  {K:Act→World→Prop} {Q:Exit→Act→World→Prop}
  (hK :∀v w' bD,Rel E (st.aF e.aF e.new) bD (fun t=>a.tmps.getD t undef) w'→Lets E st (st.aF e.aF e.new) gh bD w w'→cO E (st.aF e.aF e.new) bD w' e.x v→(∀g∈e.x.names,(st.aF e.aF e.new).used g=true)→K (a.put o.dst v) w') :
  o.wp Pg a w K Q:=by
 unfold iJ at hc
 split at hc
 ·rename_i f args ts ho
  split at hc
  ·rename_i fn caps hf
   split at hc
   ·rename_i sp hsp
    split at hc
    ·rename_i c hci
     obtain ⟨UK,bT,same,hR,hsame,he⟩:=hc
     simp only [Bool.and_eq_true,decide_eq_true_eq] at UK
     have hrf:=mY h f
     rw [hf] at hrf
     generalize hvf:a.eval f=vf at hrf
     cases hrf.cu with
     |clo _ _ vs hl hvs=>
     have hS:=hT fn sp hsp
     have hrun:(execOp a.eval o).run Pg w=.ok (.enter fn (args.toList.map a.eval++vs).toArray) w:=by
      have:(#[]++args.map a.eval)++vs.toArray=(args.toList.map a.eval++vs).toArray:=by
       apply Array.ext';simp
      rw [←hS.2.1 (args.toList.map a.eval++vs).toArray w,←this]
      simp only [execOp,ho,resolve,hvf,Deferred.ofValue]
      rfl
     show o.upon Pg a K Q ((execOp a.eval o).run Pg w)
     rw [hrun,Oper.upon_enter]
     have hr :∀t,cO E st gh w (((args.toList.map st.dK)++caps.map fun x=>S.v (.one x)).getD t .no) ((args.toList.map a.eval++vs).getD t undef):=by
      intro t
      simp only [List.getD_eq_getElem?_getD]
      by_cases ht:t<args.toList.length
      ·rw [List.getElem?_append_left (by simpa using ht),List.getElem?_append_left (by simpa using ht),List.getElem?_map,List.getElem?_map,List.getElem?_eq_getElem ht]
       exact mY h _
      ·rw [List.getElem?_append_right (by simpa using ht),List.getElem?_append_right (by simpa using ht)]
       simp only [List.length_map]
       rw [List.getElem?_map]
       cases hx:caps[t-args.toList.length]? with
       |none=>exact .no _
       |some x=>
        have hlt:t-args.toList.length<vs.length:=by rw [←hl];exact (List.getElem?_eq_some_iff.1 hx).1
        rw [List.getElem?_eq_getElem hlt]
        exact .v _ _ (.one _ _ (hvs _ x _ hx (List.getElem?_eq_getElem hlt)))
     have hu:=WI (st:=st) (e:=gZ sp.sig d st.o c bT) fun g hg=>(hsame g hg).2
     have hnew :∀g∈(gZ sp.sig d st.o c bT).new,st.used g=false:=fun g hg=>hnew g (by rw [←he];exact hg)
     refine Calls.mono (RS hS h hr (by simp;omega) hci UK.1 hR d rfl hnew) fun e' w' he' => ?_
     obtain ⟨v,bD,rfl,q1,q2,q3,q4⟩:=he'
     rw [←hu] at q1 q2 q3 q4
     rw [he] at q1 q2 q3 q4
     have q3:cO E (st.aF e.aF e.new) bD w' e.x v:=by rw [←he];rw [←he] at q3;exact q3
     have q4 :∀g∈e.x.names,(st.aF e.aF e.new).used g=true:=by rw [←he];rw [←he] at q4;exact q4
     exact hK v w' bD q1 q2 q3 q4
    ·cases hc
   ·cases hc
  ·cases hc
 ·rcases hc with ⟨dc,r,hk,hp,hc⟩ | hc
  ·have he:=N8.iff.1 hc
   subst he
   obtain ⟨v,w',bD,hd,q1,q2,q3,q4⟩:=Jt htt o.op E st gh _ w a.eval st.dK o d r rfl h (mY h) (GL h) hk hp hnew
   show o.upon Pg a K Q ((execOp a.eval o).run Pg w)
   rcases hd with hd | ⟨hd,rfl⟩
   ·rw [hd];exact hK v w' bD q1 q2 q3 q4
   ·rw [hd];exact hK _ w' bD q1 q2 q3 q4
  split at hc
  ·rename_i r hk
   obtain ⟨hp,hc⟩:=hc
   have he:({ x:=r.dst r.val,aF:=r.aF r.val,new:=r.new }:Eff)=e:=by
    cases hb:DY o.op with
    |true=>rw [hb] at hc;exact N8.iff.1 hc
    |false=>rw [hb] at hc;exact hc
   subst he
   obtain ⟨v,w',bD,hd,q1,q2,q3,q4⟩:=LX htt o.op E st gh _ w a.eval st.dK o d r rfl h (mY h) (GL h) hk hp hnew
   show o.upon Pg a K Q ((execOp a.eval o).run Pg w)
   rcases hd with hd | ⟨hd,rfl⟩
   ·rw [hd];exact hK v w' bD q1 q2 q3 q4
   ·rw [hd];exact hK _ w' bD q1 q2 q3 q4
  ·cases hc
def mark (D:Nat):Deferred:={ target:=.collected D,args:=#[] }
def Marks (E:Env) (a:Act) (w:World):Prop :=∃Ds:List Nat,a.defers=Ds.map mark∧Ds.Nodup∧∀D∈Ds,E.B0≤D∧w.heap[D]?=some (.deferred (some []))
theorem Marks.nil {E:Env} {a:Act} {w:World} (h:a.defers=[]):Marks E a w:=⟨[],h,List.nodup_nil,fun D hD=>by cases hD⟩
structure Good (E:Env) (N:Nat) (aU:List Nat) (oL:Nat→Gh) (st:St) (a:Act) (w:World):Prop where
 ex :∃gh,Rel E st gh (fun t=>a.tmps.getD t undef) w∧∀g∈aU,st.used g=true∧(st.o g=.none∨((gh g).ad=(oL g).ad∧(gh g).cap=(oL g).cap))
 size:a.tmps.size=N
 defers:Marks E a w
theorem wO (dst:Option Tmp) (v:Value):(a.put dst v).tmps.size=a.tmps.size:=by cases dst<;>simp [Act.put]
theorem put_defers (dst:Option Tmp) (v:Value):(a.put dst v).defers=a.defers:=by cases dst<;>rfl
theorem Marks.same {E:Env} {a:Act} {w w':World} (hm:Marks E a w) (h :∀D,E.B0≤D→w.heap[D]?=some (.deferred (some []))→w'.heap[D]?=w.heap[D]?) (dst:Option Tmp) (v:Value):Marks E (a.put dst v) w':=by
 obtain ⟨Ds,h1,h2,h3⟩:=hm
 exact ⟨Ds,(put_defers dst v).trans h1,h2,fun D hD=>⟨(h3 D hD).1,(h D (h3 D hD).1 (h3 D hD).2).trans (h3 D hD).2⟩⟩
theorem Marks.step {val:Nat→Value} (hm:Marks E a w) (hR:Rel E st gh val w) (hL:Lets E st st' gh bD w w') (dst:Option Tmp) (v:Value):Marks E (a.put dst v) w':=
 hm.same (fun D h2 h3=>(hL.ok false false D (hR.YO h3 rfl h2 _ _)).2) dst v
theorem Marks.put (hm:Marks E a w) (dst:Option Tmp) (v:Value):Marks E (a.put dst v) w:=hm.same (fun _ _ _=>rfl) dst v
def Can (T:Tab) (tt:TT) (N:Nat) (ops:Array Oper) (st:St) (o:Oper) (e:Eff):Prop:=stepW T tt N ops o st fun e'=>e'=e
theorem nM {d:Nat} {o:Oper} {K K':Eff→Prop} (hK :∀e,K e→K' e) (h:iJ T tt d st o K):iJ T tt d st o K':=by
 unfold iJ at *
 split at h
 ·split at h
  ·split at h
   ·split at h
    ·obtain ⟨h1,bT,same,h2,h4,h3⟩:=h;exact ⟨h1,bT,same,h2,h4,hK _ h3⟩
    ·exact h
   ·exact h
  ·exact h
 ·rcases h with ⟨dc,r,h1,h2,h3⟩ | h
  ·exact .inl ⟨dc,r,h1,h2,N8.iff.2 (hK _ (N8.iff.1 h3))⟩
  refine .inr ?_
  split at h
  ·refine ⟨h.1,?_⟩
   obtain ⟨_,h⟩:=h
   cases hb:DY o.op with
   |true=>rw [hb] at h;exact N8.iff.2 (hK _ (N8.iff.1 h))
   |false=>rw [hb] at h;exact hK _ h
  ·exact h
theorem CB {d:Nat} {o:Oper} {K:Eff→Prop} (h:iJ T tt d st o K) :∃e,iJ T tt d st o (fun e'=>e'=e)∧K e:=by
 unfold iJ at *
 split at h
 ·split at h
  ·split at h
   ·split at h
    ·obtain ⟨h1,bT,same,h2,h4,h3⟩:=h;exact ⟨_,⟨h1,bT,same,h2,h4,rfl⟩,h3⟩
    ·cases h
   ·cases h
  ·cases h
 ·rcases h with ⟨dc,r,h1,h2,h3⟩ | h
  ·exact ⟨_,.inl ⟨dc,r,h1,h2,N8.iff.2 rfl⟩,N8.iff.1 h3⟩
  split at h
  ·obtain ⟨hp,h⟩:=h
   cases hb:DY o.op with
   |true=>rw [hb] at h;exact ⟨_,.inr ⟨hp,N8.iff.2 rfl⟩,N8.iff.1 h⟩
   |false=>rw [hb] at h;exact ⟨_,.inr ⟨hp,rfl⟩,h⟩
  ·cases h
theorem OV {N:Nat} {ops:Array Oper} {o:Oper} {K:Eff→Prop} (h:stepW T tt N ops o st K) :∃e,Can T tt N ops st o e∧K e:=by
 unfold Can
 unfold stepW at *
 obtain ⟨hd,h⟩:=h
 split at h
 ·obtain ⟨e,h1,h2,h3⟩:=CB h
  exact ⟨e,⟨hd,nM (fun e' he=>⟨by rw [he];exact h2,he⟩) h1⟩,h3⟩
 ·split at h
  ·rename_i b hb
   cases b with
   |true=>
    simp only [cond_true] at h
    obtain ⟨e,h1,h2,h3⟩:=CB h
    refine ⟨e,⟨hd,?_⟩,h3⟩
    simp only [cond_true]
    exact nM (fun e' he=>⟨by rw [he];exact h2,he⟩) h1
   |false=>exact ⟨Eff.skip,⟨hd,rfl⟩,h⟩
  ·cases h
theorem GN {N:Nat} {aU:List Nat} {oL:Nat→Gh} (hT :∀f sp,T f=some sp→Sound Pg f sp) (htt:gQ Pg tt) {ops:Array Oper} {i:Nat} {o:Oper} (hi:ops[i]?=some o) (h:Good E N aU oL st a w) {e:Eff} (hc:Can T tt N ops st o e)
  {K:Act→World→Prop} {Q:Exit→Act→World→Prop} (hK :∀a' w',Good E N aU oL (st.eff o.dst e) a' w'→K a' w'):wpOp Pg ops Q i K a w:=by
 obtain ⟨⟨gh,hR,D7⟩,hsz,hdf⟩:=h
 unfold Can stepW at hc
 obtain ⟨hd,hc⟩:=hc
 have hd :∀d,o.dst=some d→d<a.tmps.size:=by
  intro d e
  rw [e] at hd
  rw [hsz];simpa using hd
 have run:(iJ T tt (o.dst.getD 0) st o fun e'=>e'.new.all (fun g=>!st.used g)=true∧e'=e)→o.wp Pg a w K Q:=by
  intro hc
  obtain ⟨e',h1,h2,rfl⟩:=CB hc
  have hnew :∀g∈e'.new,st.used g=false:=fun g hg=>by have:=(List.all_eq_true.1 h2) g hg;simpa using this
  refine WV hT htt hR h1 hnew fun v w' bD q1 q2 q3 q4=>hK _ _ ⟨⟨bD,?_,fun g hg => ?_⟩,by rw [wO];exact hsz,hdf.step hR q2 _ _⟩
  ·rw [wM _ _ hd]
   exact q1.put o.dst q3 q4
  ·obtain ⟨p1,p2⟩:=D7 g hg
   have ho:(st.eff o.dst e').o g=(st.aF e'.aF e'.new).o g:=by unfold St.eff St.put;cases o.dst<;>rfl
   have hu:(st.eff o.dst e').used g=(st.aF e'.aF e'.new).used g:=by unfold St.eff St.put;cases o.dst<;>rfl
   refine ⟨by rw [hu];simp [St.aF,p1],?_⟩
   rw [ho]
   rcases q2.names g p1 with q | ⟨q,qk⟩
   ·exact .inl q
   ·rcases p2 with p2 | p2
    ·rw [p2] at qk;exact .inl (O.Ci qk)
    ·exact .inr ⟨q.1.trans p2.1,q.2.trans p2.2⟩
 unfold wpOp
 rw [hi]
 simp only
 cases hg:o.guard with
 |none=>
  rw [hg] at hc
  have:Region.wanted o (yielded ops a.tmps)=true:=by simp [Region.wanted,hg]
  rw [if_pos this]
  exact .inl (run hc)
 |some p=>
  obtain ⟨j,want⟩:=p
  rw [hg] at hc
  simp only at hc
  split at hc
  ·rename_i b hb
   have hw:Region.wanted o (yielded ops a.tmps)=b:=by
    simp only [Region.wanted,hg,yielded]
    unfold guardOf at hb
    split at hb
    ·rename_i t ht
     have OW:=hR.slots t
     rw [ht]
     simp only [Option.bind_some]
     split at hb
     ·rename_i a' i' b' hs
      rw [hs] at OW
      have hv:=OW.eH.lq
      have:a.tmps[t]?=some (.bool b'):=by
       simp only [Array.getD_eq_getD_getElem?] at hv
       cases hx:a.tmps[t]? with
       |none=>rw [hx] at hv;cases hv
       |some x=>rw [hx] at hv;simp at hv;rw [hv]
      rw [this]
      simp only [Option.some.injEq] at hb
      subst hb
      cases want<;>cases b'<;>rfl
     ·rename_i hs
      rw [hs] at OW
      simp only [Option.some.injEq] at hb
      subst hb
      have hv:a.tmps.getD t undef=.tuple #[]:=by
       generalize a.tmps.getD t undef=v at OW
       cases OW with | kT _ vs hl _=>
       have:vs=[]:=by cases vs<;>simp_all
       subst this;rfl
      have:a.tmps[t]?=none∨a.tmps[t]?=some (.tuple #[]):=by
       simp only [Array.getD_eq_getD_getElem?] at hv
       cases hx:a.tmps[t]? with
       |none=>exact .inl rfl
       |some x=>rw [hx] at hv;simp at hv;rw [hv];exact .inr rfl
      rcases this with h | h<;>rw [h]<;>cases want<;>rfl
     ·cases hb
    ·cases hb
   rw [hw]
   cases b with
   |true=>exact .inl (run hc)
   |false=>
    simp only [cond_false] at hc
    subst hc
    refine hK _ _ ⟨⟨gh,?_,fun g hg => ?_⟩,by rw [wO];exact hsz,hdf.put _ _⟩
    ·rw [wM _ _ hd]
     unfold St.eff Eff.skip
     simp only [Fv]
     exact hR.put o.dst (.kT [] [] rfl fun j x v hx=>by simp at hx) (by simp [S.names])
    ·have ho:(st.eff o.dst Eff.skip).o g=st.o g:=by unfold St.eff St.put Eff.skip;cases o.dst<;>simp [St.aF]
     have hu:(st.eff o.dst Eff.skip).used g=st.used g:=by unfold St.eff St.put Eff.skip;cases o.dst<;>simp [St.aF]
     rw [ho,hu];exact D7 g hg
  ·cases hc
end
end Go.Fw

namespace Go.Fw
set_option linter.unusedSectionVars false
variable [dR]
set_option linter.unusedVariables false
section
variable {o o':Nat→O}
theorem GR {k:WS} {x:W} (h :∀g∈x.names,Agree o o' g):fA o k x=fA o' k x:=by
 cases k with
 |p a i=>simp only [fA];rw [Cm h]
 |own g'=>cases x<;>rfl
 |box g' off=>
  cases off with
  |zero=>cases x<;>first | rfl | (rename_i off;cases off<;>rfl)
  |succ off=>cases x<;>rfl
 |bY=>cases x<;>rfl
 |fn f=>cases x<;>first | rfl | (rename_i caps;cases caps<;>rfl)
 |mJ g=>cases x<;>rfl
 |no=>cases x<;>rfl
 |vw g=>cases x<;>rfl
 |ep g off=>cases x<;>rfl
theorem D_ :∀{ks:List WS} {xs:List W},(∀x∈xs,∀g∈x.names,Agree o o' g)→jh o ks xs=jh o' ks xs
 | [],[],_=>rfl
 | [],_::_,_=>rfl
 |_::_,[],_=>rfl
 |k::ks,x::xs,h=>by simp only [jh];rw [GR (h x (by simp)),D_ fun y hy=>h y (by simp [hy])]
theorem RV {k:SS} {x:S} (h :∀g∈x.names,Agree o o' g):nK o k x=nK o' k x:=by
 cases k with
 |one k=>
  cases x with
  |v x=>cases x with
   |one x=>exact GR fun g hg=>h g (by simpa [S.names,V.names] using hg)
   |agg xs=>rfl
  |kT=>rfl
  |no=>rfl
 |agg ks=>
  cases x with
  |v x=>cases x with
   |one x=>rfl
   |agg xs=>exact D_ fun x hx g hg=>h g (by simp only [S.names,V.names,List.mem_flatMap];exact ⟨x,hx,hg⟩)
  |kT=>rfl
  |no=>rfl
theorem UL {args:List S} {t:Nat}:args.getD t .no=.no∨args.getD t .no∈args:=by
 rw [List.getD_eq_getElem?_getD]
 cases h:args[t]? with
 |none=>exact .inl rfl
 |some x=>exact .inr (List.mem_of_getElem? h)
theorem wP {args:List S} (h :∀x∈args,∀g∈x.names,Agree o o' g) :∀{L:List (Nat×SS)},dW o args L=dW o' args L
 | []=>rfl
 |(t,k)::L=>by
  simp only [dW]
  rw [RV (o:=o) (o':=o') (k:=k) (x:=args.getD t .no) (fun g hg=>by
   rcases UL (args:=args) (t:=t) with e | e
   ·rw [e] at hg;simp [S.names] at hg
   ·exact h _ e g hg),wP h]
theorem AL {k:WS} {x:W} {us:List P} {c:Bool×Bool} {gs:List Nat} {r:List (Nat×Nat)} (h:fA o k x=some (us,c,gs,r)) (hx :∀g∈x.names,Agree o o' g) :∀g∈gs,Agree o o' g:=by
 cases k with
 |p a i=>
  simp only [fA] at h
  split at h
  ·rename_i ht
   simp only [Option.some.injEq,Prod.mk.injEq] at h
   obtain ⟨_,_,rfl,_⟩:=h
   exact zx ht hx
  ·cases h
 |own g'=>cases x<;>simp [fA] at h;obtain ⟨_,_,rfl,_⟩:=h;simp
 |box g' off=>
  cases off with
  |succ off=>cases x<;>simp [fA] at h
  |zero=>
   cases x with
   |box g off=>cases off<;>simp [fA] at h;obtain ⟨_,_,rfl,_⟩:=h;simp
   |_=>simp [fA] at h
 |bY=>simp [fA] at h
 |fn f gs0=>
  cases x with
  |clo f' caps=>
   simp only [fA] at h
   split at h
   ·split at h
    ·simp only [Option.some.injEq,Prod.mk.injEq] at h;obtain ⟨_,_,rfl,_⟩:=h;simp
    ·cases h
   ·cases h
  |_=>simp [fA] at h
 |mJ g=>simp [fA] at h
 |no=>simp [fA] at h
 |vw g=>simp [fA] at h
 |ep g off=>simp [fA] at h
theorem yO :∀{ks:List WS} {xs:List W} {us:List P} {c:Bool×Bool} {gs:List Nat} {r:List (Nat×Nat)},jh o ks xs=some (us,c,gs,r)→(∀x∈xs,∀g∈x.names,Agree o o' g)→∀g∈gs,Agree o o' g
 | [],xs,us,c,gs,r,h,_=>by
  cases xs<;>simp [jh] at h
  obtain ⟨_,_,rfl,_⟩:=h;simp
 |k::ks,xs,us,c,gs,r,h,hx=>by
  cases xs with
  |nil=>simp [jh] at h
  |cons x xs=>
   simp only [jh] at h
   split at h
   ·rename_i h1 h2
    simp only [Option.some.injEq,Prod.mk.injEq] at h
    obtain ⟨_,_,rfl,_⟩:=h
    intro g hg
    rcases List.mem_append.1 hg with hg | hg
    ·exact AL h1 (hx _ (by simp)) g hg
    ·exact yO h2 (fun y hy=>hx y (by simp [hy])) g hg
   ·cases h
theorem sS {args:List S} :∀{L:List (Nat×SS)} {us:List P} {c:Bool×Bool} {gs:List Nat} {r:List (Nat×Nat)},dW o args L=some (us,c,gs,r)→(∀x∈args,∀g∈x.names,Agree o o' g)→∀g∈gs,Agree o o' g
 | [],us,c,gs,r,h,_=>by simp [dW] at h;obtain ⟨_,_,rfl,_⟩:=h;simp
 |(t,k)::L,us,c,gs,r,h,hx=>by
  simp only [dW] at h
  split at h
  ·rename_i h1 h2
   simp only [Option.some.injEq,Prod.mk.injEq] at h
   obtain ⟨_,_,rfl,_⟩:=h
   intro g hg
   rcases List.mem_append.1 hg with hg | hg
   ·have hx0 :∀g∈(args.getD t .no).names,Agree o o' g:=by
     rcases UL (args:=args) (t:=t) with e | e
     ·rw [e];simp [S.names]
     ·exact hx _ e
    ·generalize args.getD t S.no=z at h1 hx0
     cases k with
     |one k=>
      cases z with
      |v z=>
       cases z with
       |one z=>exact AL h1 (fun g hg=>hx0 g (by simpa [S.names,V.names] using hg)) g hg
       |agg z=>simp [nK] at h1
      |_=>simp [nK] at h1
     |agg ks=>
      cases z with
      |v z=>
       cases z with
       |one z=>simp [nK] at h1
       |agg z=>exact yO h1 (fun x hx g hg=>hx0 g (by simp only [S.names,V.names,List.mem_flatMap];exact ⟨x,hx,hg⟩)) g hg
      |_=>simp [nK] at h1
   ·exact sS h2 hx g hg
  ·cases h
theorem nN :∀{L:List (Nat×OS)} {r r':List (Nat×Nat)} {u:List P} {c:Bool×Bool},iZ o r L=some (u,c,r')→∀p∈r,p∈r'
 | [],r,r',u,c,h=>by simp only [iZ,Option.some.injEq,Prod.mk.injEq] at h;obtain ⟨_,_,rfl⟩:=h;exact fun p hp=>hp
 |(g',k)::L,r,r',u,c,h=>by
  simp only [iZ] at h
  split at h
  ·split at h
   ·split at h
    ·split at h
     ·rename_i h2
      simp only [Option.some.injEq,Prod.mk.injEq] at h
      obtain ⟨_,_,rfl⟩:=h
      exact fun p hp=>nN h2 p (List.mem_append_left _ hp)
     ·cases h
    ·cases h
   ·split at h
    ·split at h
     ·rename_i h2
      simp only [Option.some.injEq,Prod.mk.injEq] at h
      obtain ⟨_,_,rfl⟩:=h
      exact nN h2
     ·cases h
    ·cases h
   ·split at h
    ·split at h
     ·rename_i h2
      simp only [Option.some.injEq,Prod.mk.injEq] at h
      obtain ⟨_,_,rfl⟩:=h
      exact nN h2
     ·cases h
    ·cases h
   ·cases h
  ·cases h
theorem oQ :∀{L:List (Nat×OS)} {r r':List (Nat×Nat)} {u:List P} {c:Bool×Bool},iZ o r L=some (u,c,r')→(∀p∈r',o p.2=o' p.2)→iZ o' r L=some (u,c,r')
 | [],r,r',u,c,h,_=>h
 |(g',k)::L,r,r',u,c,h,hl=>by
  simp only [iZ] at h ⊢
  split at h
  ·rename_i g hg
   have hmem:=jP hg
   have key :∀r2:List (Nat×Nat),(∀p∈r,p∈r2)→(∀p∈r2,p∈r')→o g=o' g:=fun r2 h1 h2=>hl _ (h2 _ (h1 _ hmem))
   split at h
   ·rename_i ks ws hk
    split at h
    ·rename_i r1 h1
     split at h
     ·rename_i h2
      simp only [Option.some.injEq,Prod.mk.injEq] at h
      obtain ⟨rfl,rfl,rfl⟩:=h
      have e:=key _ (fun p hp=>List.mem_append_left _ hp) (nN h2)
      simp only [←e,hk,h1,oQ h2 hl]
     ·cases h
    ·cases h
   ·rename_i a1 b1 c1 sz a i sz' l hk
    split at h
    ·rename_i hsz
     split at h
     ·rename_i h2
      simp only [Option.some.injEq,Prod.mk.injEq] at h
      obtain ⟨rfl,rfl,rfl⟩:=h
      have e:=key _ (fun p hp=>hp) (nN h2)
      simp only [←e,hk,oQ h2 hl,if_pos hsz]
     ·cases h
    ·cases h
   ·rename_i a1 b1 sz ah a i sz' jK l hk
    split at h
    ·rename_i hsz
     split at h
     ·rename_i h2
      simp only [Option.some.injEq,Prod.mk.injEq] at h
      obtain ⟨rfl,rfl,rfl⟩:=h
      have e:=key _ (fun p hp=>hp) (nN h2)
      simp only [←e,hk,oQ h2 hl,if_pos hsz]
     ·cases h
    ·cases h
   ·cases h
  ·cases h
theorem MH {s:yg} {args:List S} {c:Jv} (h:gy s o args=some c) (h1 :∀x∈args,∀g∈x.names,Agree o o' g) (h2 :∀p∈c.ren,o p.2=o' p.2):gy s o' args=some c:=by
 unfold gy at *
 rw [←wP h1]
 split at h
 ·rename_i hs
  split at h
  ·rename_i D7
   simp only [Option.some.injEq] at h
   subst h
   simp only [oQ D7 fun p hp=>h2 p (lV.2 hp)]
  ·cases h
 ·cases h
theorem GU {s:yg} {args:List S} {c:Jv} (hc:gy s o args=some c) (hx :∀x∈args,∀g∈x.names,Agree o o' g) :∀g∈c.tZ,Agree o o' g:=by
 unfold gy at hc
 split at hc
 ·rename_i hsl
  split at hc
  ·simp only [Option.some.injEq] at hc;subst hc
   exact sS hsl hx
  ·cases hc
 ·cases hc
end
def OX (T:Tab) (st:St) (o:Oper):List Nat:=
 match o.op with
 |.call { callee:=.value f,args,.. }=>match st.dK f with
  |.v (.one (.clo fn caps))=>match T fn with
   |some sp=>match gy sp.sig st.o ((args.toList.map st.dK)++caps.map fun x=>S.v (.one x)) with
    |some c=>c.ren.map (·.2)
    |none=>[]
   |none=>[]
  |_=>[]
 |_=>[]
def looks:Op→Bool
 |.move _ | .assign _ | .pick _ _ _ | .build _ _ | .extract _ _ | .field _ _ _ | .makeFunc _ _ _=>false
 |_=>true
theorem MI {o o':Nat→O} {tt:TT} {d:Nat} {F F':Operand→S} {op:Op} {ty:TypeId} (hl:looks op=false) (hF :∀x∈op.operands.toList,F x=F' x):kernel tt d o F op ty=kernel tt d o' F' op ty:=by
 refine (AB (o':=o) hF fun _ _ _ _=>⟨rfl,fun _ _=>rfl⟩).trans ?_
 cases op<;>first
  |(cases hl;done)
  |rfl
  |(rename_i fn first caps;cases fn<;>rfl)
theorem JA {o:Nat→O} {tt:TT} {dc:List (Nat×Nat)} {d:Nat} {F:Operand→S} {op:Op} {ty:TypeId} (hl:looks op=false):dJ tt dc d o F op ty=none:=by
 cases op<;>first
  |(cases hl;done)
  |rfl
def pW (T:Tab) (st:St) (o:Oper):List Nat:=(bif looks o.op then (o.op.operands.toList.flatMap fun x=>(st.dK x).names.flatMap fun g=>g::(st.o g).hn) else [])++OX T st o
section
variable {T:Tab} {tt:TT} {st st':St}
theorem OY {d:Nat} {o:Oper} {K:Eff→Prop} (h:iJ T tt d st o K) (hx :∀x∈o.op.operands.toList,st.dK x=st'.dK x) (ho :∀g∈pW T st o,st.o g=st'.o g):iJ T tt d st' o K:=by
 have hfo:looks o.op=true→∀x∈o.op.operands.toList,∀g∈(st.dK x).names,Agree st.o st'.o g:=fun hl x hm g hg=>by
  have key :∀d∈g::(st.o g).hn,st.o d=st'.o d:=fun d hd=>ho d (List.mem_append_left _ (by rw [hl];exact List.mem_flatMap.2 ⟨x,hm,List.mem_flatMap.2 ⟨g,hg,hd⟩⟩))
  exact ⟨key g (by simp),fun d hd=>key d (by simp [hd])⟩
 have gW :∀g∈OX T st o,st.o g=st'.o g:=fun g hg=>ho g (List.mem_append_right _ hg)
 unfold iJ at *
 unfold OX at gW
 split at h
 ·rename_i f args ts hop
  rw [hop] at hx hfo gW
  have hfo:=hfo rfl
  simp only at gW
  have hxf:=hx f (by simp [Op.operands,Call.operands])
  have hxa :∀x∈args.toList,st.dK x=st'.dK x:=fun x hm=>hx x (by simp [Op.operands,Call.operands];exact .inr (by simpa using hm))
  have hfa :∀x∈args.toList,∀g∈(st.dK x).names,Agree st.o st'.o g:=fun x hm=>hfo x (by simp [Op.operands,Call.operands];exact .inr (by simpa using hm))
  have hff:=hfo f (by simp [Op.operands,Call.operands])
  rw [←hxf]
  split at h
  ·rename_i fn caps hf
   rw [hf] at hff gW
   simp only at gW
   split at h
   ·rename_i sp hsp
    rw [hsp] at gW
    simp only at gW
    have hmap:args.toList.map st'.dK=args.toList.map st.dK:=List.map_congr_left fun x hm=>(hxa x hm).symm
    rw [hmap]
    split at h
    ·rename_i c hci
     rw [hci] at gW
     have hnm :∀x∈(args.toList.map st.dK)++(caps.map fun x=>S.v (.one x)),∀g∈x.names,Agree st.o st'.o g:=by
      intro x hm g hg
      rcases List.mem_append.1 hm with hm | hm
      ·obtain ⟨y,hy,rfl⟩:=List.mem_map.1 hm
       exact hfa y hy g hg
      ·obtain ⟨y,hy,rfl⟩:=List.mem_map.1 hm
       refine hff g ?_
       obtain ⟨j,hj⟩:=List.mem_iff_getElem?.1 hy
       simp only [S.names,V.names]
       exact yI hj (by simpa [S.names,V.names] using hg)
     have alu:=MH hci hnm fun p hp=>gW p.2 (List.mem_map.2 ⟨p,hp,rfl⟩)
     have afM:c.tZ.map (aK st.o)=c.tZ.map (aK st'.o):=mX (GU hci hnm)
     simp only [alu]
     obtain ⟨q1,bT,same,q2,q4,q3⟩:=h
     have:gZ sp.sig d st'.o c bT=gZ sp.sig d st.o c bT:=by simp only [gZ,afM]
     refine ⟨q1,bT,same,q2,?_,?_⟩
     ·rw [this]
      intro g hg
      obtain ⟨a1,a2⟩:=q4 g hg
      exact ⟨a1,by rw [a2,gW g a1]⟩
     ·rw [this];exact q3
    ·cases h
   ·cases h
  ·cases h
 ·rcases h with ⟨dc,r,h1,h2,h3⟩ | h
  ·refine .inl ⟨dc,r,?_,h2,h3⟩
   cases hl:looks o.op with
   |true=>rw [←Jz hx (hfo hl)];exact h1
   |false=>rw [JA hl] at h1;cases h1
  ·refine .inr ?_
   cases hl:looks o.op with
   |true=>rw [←AB hx (hfo hl)];exact h
   |false=>rw [←MI hl hx];exact h
theorem WW {N:Nat} {ops:Array Oper} {o:Oper} {e:Eff} (hc:Can T tt N ops st o e) (hs :∀t∈o.looksAt ops,st.s t=st'.s t) (ho :∀g∈pW T st o,st.o g=st'.o g) (hu :∀g∈e.new,st.used g=st'.used g):Can T tt N ops st' o e:=by
 have hx :∀x∈o.op.operands.toList,st.dK x=st'.dK x:=by
  intro x hm
  cases x with
  |tmp t=>exact hs t (List.mem_append_left _ (List.mem_filterMap.2 ⟨_,hm,rfl⟩))
  |_=>rfl
 have eff:(iJ T tt (o.dst.getD 0) st o fun e'=>e'.new.all (fun g=>!st.used g)=true∧e'=e)→(iJ T tt (o.dst.getD 0) st' o fun e'=>e'.new.all (fun g=>!st'.used g)=true∧e'=e):=by
  intro h
  refine nM (fun e' he => ?_) (OY h hx ho)
  obtain ⟨h1,rfl⟩:=he
  refine ⟨?_,rfl⟩
  rw [List.all_eq_true] at h1 ⊢
  intro g hg
  rw [←hu g hg];exact h1 g hg
 unfold Can stepW at *
 refine ⟨hc.1,?_⟩
 have hc:=hc.2
 cases hg:o.guard with
 |none=>rw [hg] at hc;exact eff hc
 |some p=>
  obtain ⟨j,want⟩:=p
  rw [hg] at hc
  simp only at hc ⊢
  have:guardOf ops st j want=guardOf ops st' j want:=by
   unfold guardOf
   cases hd:(ops[j]?).bind (·.dst) with
   |none=>rfl
   |some t=>
    simp only
    rw [hs t (List.mem_append_right _ (by simp [hg,hd]))]
  rw [←this]
  split at hc
  ·rename_i b hb
   cases b with
   |true=>exact eff hc
   |false=>exact hc
  ·cases hc
end
def J6 (o:Nat→O):S→Option (Bool→Prop)
 |.v (.one (.p _ _ (.sl _ l)))=>some fun b=>l≠[]→b=false
 |.v (.one (.own g))=>match (o g).dim with
  |some (_,l)=>some fun b=>l≠0→b=false
  |none=>none
 |.v (.one .bY)=>some fun b=>b=true
 |_=>none
def Ea (o:Nat→O):S→Option (Bool→Prop)
 |.v (.one (.box g _))=>match o g with
  |.box _=>some fun b=>b=false
  |_=>none
 |.v (.one (.p _ _ (.opq (.pointer none))))=>some fun b=>b=true
 |_=>none
def wQ (o:Nat→O) (x:S) (k:TK) (c:Value):Option (Bool→Prop):=
 match k,c with
 |.slice _,.slice none 0 0=>J6 o x
 |.ptr,.pointer none=>Ea o x
 |_,_=>none
def MJ (tt:TT) (st:St) (o:Oper):Option (Bool×(Bool→Prop)):=
 match o.guard with
 |some _=>none
 |none=>match o.op with
  |.binOp op t x (.const c) _=>match tt t with
   |some i=>match op,wQ st.o (st.dK x) i.k c with
    |.eql,some p=>some (true,p)
    |.neq,some p=>some (false,p)
    |_,_=>none
   |none=>none
  |_=>none
def OZ (s n:P):Bool:=decide (n.nat<s.bytes.size)
def YP (s n:P):P:=.int .i32 (Utf8.decode s.bytes n.nat).1
def RX (s n:P):P:=kZ (n.nat+(Utf8.decode s.bytes n.nat).2)
def MK (st:St) (o:Oper):Option (Nat×P×P):=
 match o.guard with
 |some _=>none
 |none=>match o.op with
  |.next x true=>match st.dK x with
   |.v (.one (.mJ g))=>match st.o g with
    |.it s n=>some (g,s,n)
    |_=>none
   |_=>none
  |_=>none
def GV (g:Nat) (s n:P):Eff:={ x:=.kT [.one (.p false false (.bool true)),.one (.p false false (kZ n.nat)),.one (.p false false (YP s n))],aF:=[(g,.it s (RX s n))],new:=[] }
def J7:Eff:={ x:=.kT [.one (.p false false (.bool false))],aF:=[],new:=[] }
def AO (T:Tab) (tt:TT) (N:Nat) (ops:Array Oper) (o:Oper) (st:St) (K:Eff→Prop):Prop:=
 match MJ tt st o with
 |some (pos,p)=>(match o.dst with
  |some d=>decide (d<N)
  |none=>true)=true∧∀b:Bool,p b→K { x:=scalar (.bool (bif pos then b else !b)),aF:=[],new:=[] }
 |none=>match MK st o with
  |some (g,s,n)=>(match o.dst with
   |some d=>decide (d<N)
   |none=>true)=true∧(OZ s n=true→K (GV g s n))∧(OZ s n=false→K J7)
  |none=>stepW T tt N ops o st K
def uJ (T:Tab) (tt:TT) (N:Nat) (ops:Array Oper):List Nat→St→(St→Prop)→Prop
 | [],st,K=>K st
 |i::is,st,K=>match ops[i]? with
  |some o=>AO T tt N ops o st fun e=>uJ T tt N ops is (st.eff o.dst e) K
  |none=>False
structure rX where
 rd:List Nat
 wr:List Nat
 new:List Nat
 ld:Option (Nat×Nat×Nat)
 kp:List (Nat×Nat)
 pk:Bool
 kd:List Nat
def YQ:W→W→Bool
 |.own g,.own g'=>Nat.beq g g'
 |.box g off,.box g' off'=>Nat.beq g g'&&Nat.beq off off'
 |_,_=>false
def AP (g:Nat):Nat→List W→List W→Option (List (Nat×Nat))
 |_,[],[]=>some []
 |j,x::xs,y::ys=>match AP g (j+1) xs ys with
  |some r=>some (match YQ x y with
   |true=>(g,j)::r
   |false=>r)
  |none=>none
 |_,_,_=>none
def O1 (g:Nat):O→Option O→List (Nat×Nat)
 |.box ws,some (.box ws')=>match AP g 0 ws ws' with
  |some r=>r
  |none=>[]
 |_,_=>[]
def RY (st:St) (e:Eff):List (Nat×Nat):=(e.aF.map (·.1)).flatMap fun g=>O1 g (st.o g) (e.aF.lookup g)
def rY:Op→Bool
 |.nilCheck _=>true
 |.fieldAddr _ _ _=>true
 |_=>false
def kindOf:O→Nat
 |.box _=>1
 |.arr _ _ _ _ _=>2
 |.aG _ _ _ _ _ _=>2
 |.it _ _=>3
 |.none=>0
def RZ (st:St) (e:Eff):List Nat:=(e.aF.map (·.1)).filterMap fun g=>match e.aF.lookup g with
 |some x=>bif Nat.beq (kindOf x) (kindOf (st.o g)) then some g else none
 |none=>none
def GX (tt:TT) (st:St) (o:Oper):Option (Nat×Nat×Nat):=match o.op with
 |.load t x=>match tt t,st.dK x with
  |some i,.v (.one (.box g off))=>some (g,off,i.size)
  |_,_=>none
 |_=>none
def nX (T:Tab) (tt:TT) (N:Nat) (ops:Array Oper):List Nat→St→List rX→(St→List rX→Prop)→Prop
 | [],st,fs,K=>K st fs
 |i::is,st,fs,K=>match ops[i]? with
  |some o=>stepW T tt N ops o st fun e=>nX T tt N ops is (st.eff o.dst e) (fs++[{ rd:=pW T st o,wr:=e.aF.map (·.1),new:=e.new,ld:=GX tt st o,kp:=RY st e,pk:=rY o.op,kd:=RZ st e }]) K
  |none=>False
def kN (acc:List Nat) (o:Oper):Nat:=o.after.toList.foldl (fun s e=>if Region.binds .any e=true then s ||| (2 ^ e.on) ||| acc.getD e.on 0 else s) 0
def nO:List Oper→List Nat→List Nat
 | [],acc=>acc
 |o::os,acc=>nO os (acc++[kN acc o])
def GY (x:Option Tmp) (ts:List Tmp):Bool:=match x with
 |some t=>!ts.contains t
 |none=>true
def Eb (w r:rX):Bool:=match r.ld with
 |some (g,off,n)=>(List.range n).all fun j=>w.kp.any fun p=>Nat.beq p.1 g&&Nat.beq p.2 (off+j)
 |none=>r.pk&&r.rd.all fun g=>!w.wr.contains g||w.kd.contains g
def YR (ops:Array Oper) (x y:Oper) (fx fy:rX):Bool:=
 GY x.dst (y.looksAt ops)&&GY y.dst (x.looksAt ops)&&GY x.dst y.dst.toList&&(L_ fx.wr fy.rd||Eb fx fy)&&(L_ fy.wr fx.rd||Eb fy fx)&&L_ fx.wr fy.wr&&L_ fx.new fy.new
def UM (ops:Array Oper) (fs:List rX):Bool:=
 let as:=nO ops.toList []
 (List.range ops.size).all fun j=>decide (as.getD j 0<2 ^ j)&&(List.range j).all fun i=>(as.getD j 0).testBit i||match ops[i]?,ops[j]?,fs[i]?,fs[j]? with
  |some x,some y,some fx,some fy=>YR ops x y fx fy
  |_,_,_,_=>false
def oU (T:Tab) (tt:TT) (N:Nat) (ops:Array Oper) (draw:Bool) (st:St) (K:St→Prop):Prop:=
 match draw with
 |false=>uJ T tt N ops (List.range ops.size) st K
 |true=>nX T tt N ops (List.range ops.size) st [] fun st' fs=>UM ops fs=true∧K st'
end Go.Fw

