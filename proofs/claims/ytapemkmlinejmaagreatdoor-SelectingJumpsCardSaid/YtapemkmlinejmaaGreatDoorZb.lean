/-
  The framework (a machine on plain data that answers as the program does), part 2.
-/
import Derived.RangeFuncOwn
import Derived.Orders
import Derived.Test.YtapemkmlinejmaaGreatDoorZa
set_option linter.unusedSimpArgs false
set_option linter.unusedVariables false
set_option linter.unusedSectionVars false
namespace Go.Fw
variable [eP]
def sQ:List Nat->Bool
 | []=>true
 |x::xs=>!xs.contains x&&sQ xs
def DT (xs ys:List Nat):Bool:=xs.all fun x=>!ys.contains x
def nO (aj:List (Nat×Nat)) (off n:Nat):List (Nat×Nat):=aj.filter fun c=>Nat.ble off c.1&&Nat.blt c.1 (off+n)
def jI (o:Nat->O) (g:Nat):Option (Bool×Bool×Nat×List (Nat×Nat)×List (List P)):=match o g with
 |.aO a i sz aj l hole=>match hole with
  |none=>some (a,i,sz,aj,l)
  |some (n,c,d)=>match o d with
   |.arr false a' i' sz' l'=>if aj.lookup c=some sz'/\c<sz then some (a||a',i||i',sz,aj,jf l n c (P.fP sz' l')) else none
   |_=>none
 |_=>none
def kills (gs:List Nat):List (Nat×O):=gs.map fun g=>(g,.none)
def Qc (o:Nat->O) (col:Nat->Option Nat):Nat->List W->Option (List P×Bool×Bool×List Nat×List (Nat×Nat))
 |_,[]=>some ([],false,false,[],[])
 |j,x::xs=>match Qc o col (j+1) xs with
  |none=>none
  |some (ys,a',i',gs',es)=>match col j with
   |none=>match x.toP o with
    |some (y,a,i,gs)=>some (y::ys,a||a',i||i',gs++gs',es)
    |none=>none
   |some s=>match x with
    |.dF=>some (.sl 0 []::ys,a',i',gs',es)
    |.own e=>match o e with
     |.arr false a i s' l=>if s'=s then some (P.fP s l::ys,a||a',i||i',gs',(j,e)::es) else none
     |_=>none
    |_=>none
def baseD (o:Nat->O):W->Option (Prop×Bool×Bool×List (List P)×List Nat×Option (Nat×List (Nat×Nat)))
 |.dF=>some (True,false,false,[],[],none)
 |.own g=>match jI o g with
  |some (a,i,sz,aj,l)=>some (True,a,i,l,g::(o g).hn,some (sz,aj))
  |none=>none
 |.vw g lo hi=>match jI o g with
  |some (a,i,sz,aj,l)=>some (lo=lY 0,a,i,l.take hi.nat,g::(o g).hn,some (sz,aj))
  |none=>none
 |_=>none
def hdr (l:List (List P)):P:=.sl 0 (List.replicate l.length [])
def abp:List (Nat×Nat)->Bool
 | [(0,0)]=>true
 |_=>false
def Aa (tt:TT) (o:Nat->O) (f:Operand->S) (t:TypeId) (x:Operand):Option DC:=match tt t,f x with
 |some i,.v (.one (.ep g n off))=>match jI o g with
  |some (a,i',sz,aj,l)=>match aj.lookup off with
   |some _=>if off<sz/\i.size=1/\i.agg=false then some (.pure (.v (.one (.p false false (hdr ((l.getD n.nat []).getD off default).list))))) else none
   |none=>none
  |none=>none
 |_,_=>none
def dW (tt:TT) (dc:List (Nat×Nat)) (d:Nat) (o:Nat->O) (f:Operand->S) (op:Op) (ty:TypeId):Option DC:=
 match op with
 |.load t x=>bif abp dc then Aa tt o f t x else match tt t,f x with
  |some i,.v (.one (.ep g n off))=>match o g with
   |.aO a0 i0 Ac kQ l0 hole=>if off+i.size<=Ac/\0<i.size then match nO kQ off i.size with
    | []=>some (.pure (V.gq i.agg ((List.range i.size).map fun j=>.p a0 i0 ((l0.getD n.nat []).getD (off+j) (Uy i.zero j)))))
    | [(c,s)]=>match jI o g with
     |some (a,i',sz,aj,l)=>some (.mk True (.sl sz l) (fun y=>V.gq i.agg ((List.range i.size).map fun j=>if Nat.beq (off+j) c=true then .own d else .p a i' ((y.list.getD n.nat []).getD (off+j) (Uy i.zero j))))
       (fun y=>(g,.aO a i' sz aj y.list (some (n.nat,c,d)))::(d,.arr false a i' s ((y.list.getD n.nat []).getD c default).list)::kills (o g).hn) [d])
     |none=>none
    |_=>none
    else none
   |_=>none
  |_,_=>none
 |.store t x y=>match tt t,f x,f y with
  |some i,.v (.one (.ep g n off)),.v y=>match o g with
   |.aO a0 i0 sz aj l0 hole=>match Qc o (fun j=>aj.lookup j) off y.words with
    |some (ps,a',i',gs,es)=>if off+i.size<=sz/\y.words.length=i.size/\y.solid=true/\gs.contains g=false/\sQ (es.map (·.2))=true/\DT (es.map (·.2)) gs=true then
      let res (pre:Prop) (a i:Bool) (l:List (List P)) (jd:Option (Nat×Nat×Nat)) (ks:List Nat):DC:=
       .mk pre (.sl sz (l.set n.nat (aS (l.getD n.nat []) off ps))) (fun _=>.no) (fun z=>(g,.aO (a||a') (i||i') sz aj z.list jd)::kills (es.map (·.2))++kills ks++gs.map (aU o)) []
      match nO aj off i.size with
      | []=>some (res True a0 i0 l0 hole [])
      |_::_=>match hole with
       |none=>some (res True a0 i0 l0 none [])
       |some (n0,c0,d0)=>match jI o g with
        |some (a,i1,_,_,l)=>if (es.map (·.2)).contains d0=false/\gs.contains d0=false then some (res True a i1 l none [d0])
          else if off<=c0/\c0<off+i.size then some (res (n0=n.nat) a0 i0 l0 none []) else none
        |none=>if off<=c0/\c0<off+i.size then some (res (n0=n.nat) a0 i0 l0 none []) else none
      else none
    |none=>none
   |_=>none
  |_,_,_=>none
 |.buildSlice t n parts=>match tt t,dc with
  |some { k:=.slice e,.. },_::_=>match tt e with
   |some ie=>match lZ (fun m=>if m<n then some (m*ie.size,ie.size) else none) (fQ (ie.zero.map cv) n) (parts.toList.map fun p=>(p.1,f p.2)) with
    |some ws=>match Qc o (fun j=>dc.lookup (j % ie.size)) 0 ws with
     |some (ps,a,i,gs,es)=>if n+n*ie.size<=16777216/\sQ (es.map (·.2))=true/\DT (es.map (·.2)) gs=true then
       some (.mk True (.sl ie.size (chunks ie.size n ps)) (fun _=>.v (.one (.own d)))
        (fun y=>(d,.aO a i ie.size dc y.list none)::kills (es.map (·.2))++gs.map (aU o)) [d]) else none
     |none=>none
    |none=>none
   |none=>none
  |_,_=>none
 |.makeSlice t n c=>match tt t,f n,f c,dc with
  |some { k:=.slice e,.. },.v (.one (.p _ _ n)),.v (.one (.p _ _ c)),_::_=>match tt e with
   |some ie=>match Qc o (fun j=>dc.lookup j) 0 (ie.zero.map cv) with
    |some (ps,false,false,[],[])=>if 0<ie.size then
     some (.mk (∃m k:Nat,n=.int .i64 m/\c=.int .i64 k/\m<=k/\ie.bytes*k<=281474976710656/\k<=9223372036854775807) (.sl ie.size (List.replicate n.nat ps))
      (fun _=>.v (.one (.own d))) (fun y=>[(d,.aO false false ie.size dc y.list none)]) [d]) else none
    |_=>none
   |none=>none
  |_,_,_,_=>none
 |.call { callee:=.builtin .append,args,argTypes }=>match args.toList,argTypes.toList with
  | [s,x],sT::xT::_=>match tt sT,tt xT,f s,f x with
   |some { k:=.slice e,.. },some { k:=.slice _,.. },.v (.one s),.v (.one (.own g2))=>match tt e,baseD o s,jI o g2 with
    |some ie,some (ask,a,i,old,ks,src),some (a2,i2,sz,aj,new)=>
     if ie.bytes≠0/\sz=ie.size/\(src=none\/src=some (sz,aj))/\sQ (ks++g2::(o g2).hn)=true then
      some (.mk (ask/\(old.length+new.length)*ie.bytes<=140737488355328) (.sl sz (old++new)) (fun _=>.v (.one (.own d)))
       (fun y=>(d,.aO (a||a2) (i||i2) sz aj y.list none)::kills (ks++g2::(o g2).hn)) [d]) else none
    |_,_,_=>none
   |_,_,_,_=>none
  |_,_=>none
 |.slice t x none hi none=>match tt t,f x with
  |some { k:=.slice e,.. },.v (.one (.own g))=>match tt e,o g with
   |some ie,.arr false a i sz l=>if sz=ie.size then match nK (lY l.length) (hi.map f) with
    |some hi=>some (.mk (∃k:Nat,hi=.int .i64 k/\k<=l.length) (.sl sz (l.take hi.nat)) (fun _=>.v (.one (.own d))) (fun y=>[(d,.arr false a i sz y.list),(g,.none)]) [d])
    |none=>none
    else none
   |_,_=>none
  |_,_=>none
 |_=>none
section
variable {E:Env} {st st':St} {gh bM:Nat->Gh} {w w':World} {val:Nat->Value} {Pg:Program} {tt:TT}
theorem rQ :∀{l:List Nat},sQ l=true->l.Nodup
 | [],_=>List.nodup_nil
 |x::l,h=>by
  simp only [sQ,Q6,W6,Wm,decide_eq_false_iff_not] at h;exact UB.2 ⟨h.1,rQ h.2⟩
theorem EW {xs ys:List Nat} (h:DT xs ys=true) :∀x∈xs,x∉ys:=by
 intro x hx;have:=(X2.1 h) x hx;simpa using this
theorem iw {gs:List Nat} {g:Nat}:(kills gs).lookup g=if g∈gs then some O.none else none:=by
 induction gs with
 |nil=>rfl
 |cons x gs ih=>
  simp only [kills,Qf,List.lookup,QP];by_cases e:g=x
  .subst e;simp
  .have:(g==x)=false:=by simpa using e
   rw [this];simp only [e,false_or];exact ih
theorem Ad {α:Type} {g:Nat} :∀{l r:List (Nat×α)},(l++r).lookup g=(l.lookup g).or (r.lookup g)
 | [],r=>by simp
 |(k,v)::l,r=>by
  simp only [K4,List.lookup];split
  .rfl
  .exact Ad
theorem lookup_cons {α:Type} {g k:Nat} {v:α} {r:List (Nat×α)}:((k,v)::r).lookup g=if g=k then some v else r.lookup g:=by
 simp only [List.lookup];by_cases e:g=k
 .subst e;simp
 .have:(g==k)=false:=by simpa using e
  rw [this,if_neg e]
theorem Ii {aj:List (Nat×Nat)} {off n j:Nat} (h:nO aj off n=[]) (h1:off<=j) (h2:j<off+n):aj.lookup j=none:=by
 cases hl:aj.lookup j with
 |none=>rfl
 |some s=>
  have hm:(j,s)∈aj:=by
   clear h
   induction aj with
   |nil=>cases hl
   |cons p aj ih=>
    obtain ⟨k,v⟩:=p;rw [lookup_cons] at hl;split at hl
    .rename_i e;cases hl;subst e;simp
    .exact Vi _ (ih hl)
  have:(j,s)∈nO aj off n:=vo.2 ⟨hm,by simp [h1,h2]⟩;rw [h] at this;cases this
theorem EX {α:Type} {g:Nat} {v:α} :∀{l:List (Nat×α)},l.lookup g=some v->(g,v)∈l
 | [],h=>by cases h
 |(k,x)::l,h=>by
  rw [lookup_cons] at h;split at h
  .rename_i e;cases h;subst e;simp
  .exact Vi _ (EX h)
theorem UK {aj:List (Nat×Nat)} {off n c s:Nat} (h:nO aj off n=[(c,s)]):aj.lookup c=some s/\off<=c/\c<off+n/\∀j,off<=j->j<off+n->j≠c->aj.lookup j=none:=by
 have hm:(c,s)∈nO aj off n:=by rw [h];simp
 obtain ⟨m1,m2⟩:=vo.1 hm;simp only [Q6,Nat.ble_eq,Nat.blt_eq] at m2;have key :∀j s',aj.lookup j=some s'->off<=j->j<off+n->(j,s')=(c,s):=by
  intro j s' hl h1 h2;have:(j,s')∈nO aj off n:=vo.2 ⟨EX hl,by simp [h1,h2]⟩;rw [h] at this;simpa using this
 refine ⟨?_,m2.1,m2.2,fun j h1 h2 hne => ?_⟩
 .cases hl:aj.lookup c with
  |none=>
   exfalso;clear h hm key
   induction aj with
   |nil=>cases m1
   |cons p aj ih=>
    obtain ⟨k,v⟩:=p;rw [lookup_cons] at hl;split at hl
    .cases hl
    .rename_i e;rcases QP.1 m1 with e1 | e1
     .cases e1;exact e rfl
     .exact ih e1 hl
  |some s'=>have:=key c s' hl m2.1 m2.2;cases this;rfl
 .cases hl:aj.lookup j with
  |none=>rfl
  |some s'=>have:=key j s' hl h1 h2;cases this;exact absurd rfl hne
theorem Rel.home (h:Rel E st gh val w) {g:Nat} {a i:Bool} {sz:Nat} {aj:List (Nat×Nat)} {l:List (List P)} (hh:jI st.o g=some (a,i,sz,aj,l)) :
  ∃st1 lH,Rel E st1 lH val w/\Lets E st st1 gh lH w w/\(∀x,(lH x).ad=(gh x).ad/\(lH x).cap=(gh x).cap)/\st1.s=st.s/\(∀x,st1.used x=st.used x)/\st1.o g=.aO a i sz aj l none/\
   (∀d∈(st.o g).hn,st1.o d=.none/\d≠g)/\∀g',g'≠g->g'∉(st.o g).hn->st1.o g'=st.o g':=by
 unfold jI at hh;cases ho:st.o g with
 |aO a0 i0 Ac kQ l0 hole=>
  rw [ho] at hh;simp only at hh;rcases hole with _ | ⟨n,c,d⟩
  .simp only [Q0,Q1] at hh;obtain ⟨rfl,rfl,rfl,rfl,rfl⟩:=hh;exact ⟨st,gh,h,⟨fun a i b hb=>⟨hb,rfl⟩,fun g _=>.inr ⟨⟨rfl,rfl⟩,O.fD _⟩⟩,fun _=>⟨rfl,rfl⟩,rfl,fun _=>rfl,ho,(fun d hd=>by cases hd),fun _ _ _=>rfl⟩
  .simp only at hh;cases hd:st.o d with
   |arr fz a' i' sz' l'=>
    rw [hd] at hh;cases fz with
    |true=>cases hh
    |false=>
     simp only at hh;split at hh
     .rename_i hc;simp only [Q0,Q1] at hh;obtain ⟨rfl,rfl,rfl,rfl,rfl⟩:=hh;obtain ⟨lH,h1,l1,e1⟩:=h.shut ho hd hc.1 hc.2;have hne:d≠g:=by intro e;subst e;rw [ho] at hd;cases hd
      refine ⟨_,lH,h1,l1,e1,rfl,fun x=>by simp [St.aJ],by simp [St.aJ,List.lookup],fun d' hd' => ?_,fun g' h1 h2 => ?_⟩
      .simp only [O.hn,dK,Qt] at hd';subst hd';have e1:(d'==g)=false:=by simpa using hne
       exact ⟨by simp [St.aJ,List.lookup,e1],hne⟩
      .have e1:(g'==g)=false:=by simpa using h1
       have e2:(g'==d)=false:=by simp;intro e;exact h2 (by rw [e];simp [O.hn,dK])
       simp [St.aJ,List.lookup,e1,e2]
     .cases hh
   |_=>rw [hd] at hh;cases hh
 |_=>rw [ho] at hh;cases hh
theorem oG {o:Nat->O} {g:Nat} {a i:Bool} {sz:Nat} {aj:List (Nat×Nat)} {l:List (List P)} (hh:jI o g=some (a,i,sz,aj,l)):(o g).dim=some (sz,l.length):=by
 unfold jI at hh;cases ho:o g with
 |aO a0 i0 Ac kQ l0 hole=>
  rw [ho] at hh;simp only at hh;rcases hole with _ | ⟨n,c,d⟩
  .simp only [Q0,Q1] at hh;obtain ⟨rfl,rfl,rfl,rfl,rfl⟩:=hh;rfl
  .simp only at hh;split at hh
   .split at hh
    .simp only [Q0,Q1] at hh;obtain ⟨rfl,rfl,rfl,rfl,rfl⟩:=hh;simp [O.dim,iZ]
    .cases hh
   .cases hh
 |_=>rw [ho] at hh;cases hh
theorem Ij {Q:Nat->Value->Prop} {b o n:Nat} (h :∀j,j<n->∃v,w.cell? ⟨b,o+j,none⟩=some v/\v.oneCell'=true/\Q j v) :
  ∃cs:List Value,cs.length=n/\(∀(j:Nat) u,cs[j]?=some u->w.cell? ⟨b,o+j,none⟩=some u)/\(∀c∈cs,c.oneCell'=true)/\∀(j:Nat) u,cs[j]?=some u->Q j u:=by
 have key :∀j u,((List.range n).map fun j=>(w.cell? ⟨b,o+j,none⟩).getD undef)[j]?=some u->j<n/\w.cell? ⟨b,o+j,none⟩=some u/\u.oneCell'=true/\Q j u:=by
  intro j u hu;simp only [XN,ZD] at hu;obtain ⟨k,hk,rfl⟩:=hu;obtain ⟨hlt,rfl⟩:=Q3.1 hk;simp at hlt ⊢;obtain ⟨v,hv,h1,h2⟩:=h j hlt;rw [hv];exact ⟨hlt,rfl,h1,h2⟩
 refine ⟨(List.range n).map fun j=>(w.cell? ⟨b,o+j,none⟩).getD undef,by simp,fun j u hu=>(key j u hu).2.1,fun c hc => ?_,fun j u hu=>(key j u hu).2.2.2⟩;obtain ⟨j,hj⟩:=V2.1 hc;exact (key j c hj).2.2.1
def qG (Pg:Program) (tt:TT) (dc:List (Nat×Nat)) (op:Op):Prop:=
 ∀(E:Env) (st:St) (gh:Nat->Gh) (val:Nat->Value) (w:World) (ρ:Operand->Value) (F:Operand->S) (o:Oper) (d:Nat) (r:DC),o.op=op->Rel E st gh val w->
  (∀x,dI E st gh w (F x) (ρ x))->(∀x,∀g∈(F x).names,st.used g=true)->dW tt dc d st.o F op o.type=some r->r.pre->(∀g∈r.new,st.used g=false)->
  ∃v w' bM,Does Pg (execOp ρ o) w v w'/\Rel E (st.aJ (r.aJ r.val) r.new) bM val w'/\Lets E st (st.aJ (r.aJ r.val) r.new) gh bM w w'/\dI E (st.aJ (r.aJ r.val) r.new) bM w' (r.dst r.val) v/\
   ∀g∈(r.dst r.val).names,(st.aJ (r.aJ r.val) r.new).used g=true
theorem St.DU {a b:St} (h1:a.s=b.s) (h2 :∀g,a.o g=b.o g) (h3 :∀g,a.used g=b.used g):a=b:=by
 obtain ⟨s,o,u⟩:=a;obtain ⟨s',o',u'⟩:=b;simp only at h1 h2 h3;rw [h1,funext h2,funext h3]
theorem KJ (htt:iC Pg tt) (t:TypeId) (x:Operand) {E:Env} {st:St} {gh:Nat->Gh} {val:Nat->Value} {w:World} {ρ:Operand->Value} {F:Operand->S} {o:Oper} {r:DC} (ho:o.op=.load t x) (h:Rel E st gh val w)
  (hF :∀x,dI E st gh w (F x) (ρ x)) (hk:Aa tt st.o F t x=some r) :
  ∃v w' bM,Does Pg (execOp ρ o) w v w'/\Rel E (st.aJ (r.aJ r.val) r.new) bM val w'/\Lets E st (st.aJ (r.aJ r.val) r.new) gh bM w w'/\dI E (st.aJ (r.aJ r.val) r.new) bM w' (r.dst r.val) v/\
   ∀g∈(r.dst r.val).names,(st.aJ (r.aJ r.val) r.new).used g=true:=by
 unfold Aa at hk;split at hk
 .rename_i i g n off ht hx;have rx:=hF x;rw [hx] at rx;split at hk
  .rename_i a i' sz aj l hh;split at hk
   .rename_i s afh;split at hk
    .rename_i hlt;simp only [Q0] at hk;subst hk;obtain ⟨st1,lH,h1,l1,e1,es,eu,eo,ek,en1⟩:=h.home hh;have Qz:=oG hh;obtain ⟨ad,k,had,rfl,hkl,hv⟩:=(by cases rx.dH with | ep _ _ _ _ _ hb=>exact hb _ _ Qz :∃(ad:Addr) (k:Nat),(gh g).ad=some ad/\n=.int .i64 k/\k<l.length/\ρ x=.pointer (some ⟨ad.block,ad.off+k*sz+off,none⟩));have en:(P.int .i64 (k:Int)).nat=k:=by simp [P.nat,P.num]
     have KL:(lH g).ad=some ad:=by rw [(e1 g).1];exact had
     have hD:mW E st1 lH w a i' sz aj l none (lH g):=by have:=h1.bg g;rw [eo] at this;exact this
     rcases hD with ⟨k1,_⟩ | ⟨ad0,cs0,ty,k1,k2,k3,k4,k5,k6,_,k8⟩
     .rw [KL] at k1;cases k1
     rw [KL] at k1;cases k1;have hrow:l[k]?=some l[k]:=Q2 hkl;have hrl:l[k].length=sz:=k6 _ (X1 hkl);have hoff:off<l[k].length:=by omega
     obtain ⟨v,hv0,hr⟩:=k8 k _ hrow off _ (Q2 hoff);unfold iK at hr;rw [afh] at hr;simp only [gZ] at hr;obtain ⟨l',ao,kk,hy,rfl,harr,_⟩:=hr;have hcell:w.cell? ⟨ad.block,ad.off+k*sz+off,none⟩=some (.slice ao l'.length kk):=by simp [World.cell?,k3,hv0]
     obtain ⟨v,hrun,hval⟩:=ku (Pg:=Pg) (w:=w) (htt _ _ ht) ad.block (ad.off+k*sz+off) [.slice ao l'.length kk] (by simp [hlt.2.1]) (fun j c hj=>by
      cases j with
      |zero=>simp at hj;subst hj;exact hcell
      |succ j=>simp at hj) (fun _=>by omega)
     have hvv:v=.slice ao l'.length kk:=by
      rw [hlt.2.2] at hval;exact hval _ rfl
     have hdr':hdr ((l.getD (P.int .i64 (k:Int)).nat []).getD off default).list=.sl 0 (List.replicate l'.length []):=by
      rw [en];have e2:(l.getD k []).getD off default=l[k][off]:=by
       rw [List.getD_eq_getElem?_getD,List.getD_eq_getElem?_getD,hrow];simp [Q2 hoff]
      rw [e2,hy,P.oC];rfl
     rw [hdr'];refine still h (v:=v) (by unfold execOp;rw [ho];exact gQ (by rw [hv];simpa [Instr.loadAt,Instr.sureAddr] using hrun)) (dI.ofP ?_) fun g' hg'=>by simp [DC.pure,S.names,V.names,W.names] at hg'
     rw [hvv];rcases harr with ⟨q1,q2,q3⟩ | ⟨BD,c2,e2,q1,q2,q3,q4,q5,_⟩
     .subst q3;exact .nil _ _ _
     .have q1:ao=some BD:=q1;have q5:l'.length<=kk/\kk<=9223372036854775807:=q5;rw [q1];have:=dh.sl (w:=w) (ok:=E.ok st gh w false false) 0 (List.replicate l'.length []) BD kk (fun _ _=>undef) q2 (fun h0=>absurd h0 (KM 0)) (by simpa using q5.1) (fun x hx=>by rw [Ks hx];rfl)
       (fun n x hx j y hy=>by rw [Ks (XS hx)] at hy;simp at hy) (fun n x hx j y hy=>by rw [Ks (XS hx)] at hy;simp at hy)
      simpa using this
    .cases hk
   .cases hk
  .cases hk
 .cases hk
theorem QA {dc:List (Nat×Nat)} (htt:iC Pg tt) (t:TypeId) (x:Operand):qG Pg tt dc (.load t x):=by
 intro E st gh val w ρ F o d r ho h hF hFn hk hp hd;simp only [dW] at hk;cases hhd:abp dc with
 |true=>rw [hhd] at hk;exact KJ htt t x ho h hF hk
 |false=>
 rw [hhd] at hk;simp only [cond_false] at hk;split at hk
 .rename_i i g n off ht hx;have rx:=hF x;rw [hx] at rx;split at hk
  .rename_i a0 i0 Ac kQ l0 hole hog;split at hk
   .rename_i hlt;have Qz:(st.o g).dim=some (Ac,l0.length):=by rw [hog];rfl
    obtain ⟨ad,k,had,rfl,hkl,hv⟩:=(by cases rx.dH with | ep _ _ _ _ _ hb=>exact hb _ _ Qz :∃(ad:Addr) (k:Nat),(gh g).ad=some ad/\n=.int .i64 k/\k<l0.length/\ρ x=.pointer (some ⟨ad.block,ad.off+k*Ac+off,none⟩));have en:(P.int .i64 (k:Int)).nat=k:=by simp [P.nat,P.num]
    split at hk
    .rename_i hci;simp only [Q0] at hk;subst hk;have hD:mW E st gh w a0 i0 Ac kQ l0 hole (gh g):=by have:=h.bg g;rw [hog] at this;exact this
     rcases hD with ⟨k1,_⟩ | ⟨ad0,cs0,ty,k1,k2,k3,k4,k5,k6,_,k8⟩
     .rw [had] at k1;cases k1
     rw [had] at k1;cases k1;have hrow:l0[k]?=some l0[k]:=Q2 hkl;have hrl:l0[k].length=Ac:=k6 _ (X1 hkl);have hget:l0.getD (P.int .i64 (k:Int)).nat []=l0[k]:=by rw [en,List.getD_eq_getElem?_getD,hrow];rfl
     obtain ⟨cs,hl,hcell,hone,hrep⟩:=Ij (w:=w) (b:=ad.block) (o:=ad.off+k*Ac+off) (n:=i.size) (Q:=fun j v=>dh w (E.ok st gh w a0 i0) (l0[k].getD (off+j) (Uy i.zero j)) v) fun j hj=>by
      have hlt':off+j<l0[k].length:=by omega
      obtain ⟨v,hv,hr⟩:=k8 k _ hrow (off+j) _ (Q2 hlt');simp only [iK,Ii hci (show off<=off+j by omega) (show off+j<off+i.size by omega)] at hr;have e0:ad.off+k*Ac+off+j=ad.off+k*Ac+(off+j):=by omega
      refine ⟨v,by rw [e0];simp [World.cell?,k3,hv],hr.oneCell,?_⟩;rw [List.getD_eq_getElem?_getD,Q2 hlt'];exact hr
     obtain ⟨v,hrun,hval⟩:=ku (Pg:=Pg) (w:=w) (htt _ _ ht) ad.block (ad.off+k*Ac+off) cs hl hcell (fun _=>hlt.2);rw [hget];exact still h (v:=v) (by unfold execOp;rw [ho];exact gQ (by rw [hv];simpa [Instr.loadAt,Instr.sureAddr] using hrun)) (kX (by simp [hl]) hone (fun j y u hy hu=>by
       simp only [XN,ZD] at hy;obtain ⟨q,hq,rfl⟩:=hy;obtain ⟨hlt2,rfl⟩:=Q3.1 hq;simp at hlt2 ⊢;exact .p _ _ _ _ (hrep _ u hu)) v hval)
      fun g' hg'=>by obtain ⟨y,hy,hg'⟩:=jE hg';rw [sN hy] at hg';cases hg'
    .rename_i c s hci;split at hk
     .rename_i a i' sz aj l hh;simp only [Q0] at hk;subst hk;obtain ⟨st1,lH,h1,l1,e1,es,eu,eo,ek,en1⟩:=h.home hh;have abq:=oG hh;rw [Qz] at abq;simp only [Q0,Q1] at abq;obtain ⟨rfl,hll⟩:=abq;have hcols:aj=kQ:=by
       unfold jI at hh;rw [hog] at hh;simp only at hh;split at hh
       .cases hh;rfl
       .split at hh
        .split at hh
         .cases hh;rfl
         .cases hh
        .cases hh
      subst hcols;obtain ⟨c1,c2,c3,c4⟩:=UK hci;have Gz:st.used d=false:=hd d (by simp);have KL:(lH g).ad=some ad:=by rw [(e1 g).1];exact had
      have hD:mW E st1 lH w a i' Ac aj l none (lH g):=by have:=h1.bg g;rw [eo] at this;exact this
      rcases hD with ⟨k1,_⟩ | ⟨ad0,cs0,ty,k1,k2,k3,k4,k5,k6,_,k8⟩
      .rw [KL] at k1;cases k1
      rw [KL] at k1;cases k1;have hkl':k<l.length:=by omega
      have hrow:l[k]?=some l[k]:=Q2 hkl';have hrl:l[k].length=Ac:=k6 _ (X1 hkl');have hget:l.getD (P.int .i64 (k:Int)).nat []=l[k]:=by rw [en,List.getD_eq_getElem?_getD,hrow];rfl
      have hyc:l[k][c]?=some l[k][c]:=Q2 (by omega);obtain ⟨l',ao,kc,xJ,hy,⟨BD,cs2,ty2,q1,q2,q3⟩,q4,q5,r1,r2⟩:=h1.split (d:=d) (by rw [eu];exact Gz) eo c1 hrow hyc;rw [KL] at q1;cases q1;rw [k3] at q2;cases q2;have hlist:((l.getD (P.int .i64 (k:Int)).nat []).getD c default).list=l':=by
       rw [hget,List.getD_eq_getElem?_getD,hyc];show (l[k][c]).list=l';rw [hy,P.oC]
      have hgd:g≠d:=fun e=>by rw [<-e,h.ul g (by rw [hog];simp)] at Gz;cases Gz
      have hst:st1.aJ [(g,.aO a i' Ac aj l (some (k,c,d))),(d,.arr false a i' s l')] [d]=st.aJ ((g,.aO a i' Ac aj l (some ((P.int .i64 (k:Int)).nat,c,d)))::(d,.arr false a i' s ((l.getD (P.int .i64 (k:Int)).nat []).getD c default).list)::kills (st.o g).hn) [d]:=by
       rw [hlist,en];refine St.DU es (fun x => ?_) (fun x=>by simp [St.aJ,eu]);simp only [St.aJ,lookup_cons,iw];by_cases x1:x=g
       .simp only [if_pos x1]
       .by_cases x2:x=d
        .simp only [if_neg x1,if_pos x2]
        .simp only [if_neg x1,if_neg x2];by_cases x3:x∈(st.o g).hn
         .simp only [if_pos x3];exact (ek x x3).1
         .simp only [if_neg x3];exact en1 x x1 x3
      obtain ⟨cs,hl,hcell,hone,hrep⟩:=Ij (w:=w) (b:=ad.block) (o:=ad.off+k*Ac+off) (n:=i.size) (Q:=fun j v=>if Nat.beq (off+j) c=true then v=.slice ao l'.length kc else dh w (E.ok st1 lH w a i') (l[k].getD (off+j) (Uy i.zero j)) v) fun j hj=>by
       have hlt':off+j<l[k].length:=by omega
       obtain ⟨v,hv,hr⟩:=k8 k _ hrow (off+j) _ (Q2 hlt');have e0:ad.off+k*Ac+off+j=ad.off+k*Ac+(off+j):=by omega
       refine ⟨v,by rw [e0];simp [World.cell?,k3,hv],hr.oneCell,?_⟩;by_cases hjc:off+j=c
       .rw [if_pos (by simpa using hjc)];rw [hjc] at hv;rw [hv] at q3;exact Wb q3
       .rw [if_neg (by simpa using hjc)];simp only [iK,c4 (off+j) (by omega) (by omega) hjc] at hr;rw [List.getD_eq_getElem?_getD,Q2 hlt'];exact hr
      obtain ⟨v,hrun,hval⟩:=ku (Pg:=Pg) (w:=w) (htt _ _ ht) ad.block (ad.off+k*Ac+off) cs hl hcell (fun _=>hlt.2);have hod:(st1.aJ [(g,.aO a i' Ac aj l (some (k,c,d))),(d,.arr false a i' s l')] [d]).o d=.arr false a i' s l':=by
       have:(d==g)=false:=by simpa using hgd.symm
       simp [St.aJ,List.lookup,this]
      refine ⟨v,w,xJ,.inl (by unfold execOp;rw [ho];exact gQ (by rw [hv];simpa [Instr.loadAt,Instr.sureAddr] using hrun)),?_,?_,?_,fun g' hg' => ?_⟩
      .rw [hst] at r1;exact r1
      .have:=Lets.trans l1 r2 fun g hg=>by rw [eu];exact hg
       rw [hst] at this;exact this
      .have hS:dI E (st1.aJ [(g,.aO a i' Ac aj l (some (k,c,d))),(d,.arr false a i' s l')] [d]) xJ w (V.gq i.agg ((List.range i.size).map fun j=>if Nat.beq (off+j) c=true then W.own d else W.p a i' ((l.getD (P.int .i64 (k:Int)).nat []).getD (off+j) (Uy i.zero j)))) v:=by
        rw [hget];refine kX (by simp [hl]) hone (fun j y u hy hu => ?_) v hval;simp only [XN,ZD] at hy;obtain ⟨q,hq,rfl⟩:=hy;obtain ⟨hlt2,rfl⟩:=Q3.1 hq;simp at hlt2 ⊢;have hr:=hrep _ u hu;by_cases hjc:off+j=c
        .rw [if_pos hjc];rw [if_pos (by simpa using hjc)] at hr;subst hr;exact .own d _ rfl fun sz3 ao_ hd3=>by rw [hod] at hd3;obtain ⟨_,e2⟩:=O.j_ hd3;rw [q4,q5,e2]
        .rw [if_neg hjc];rw [if_neg (by simpa using hjc)] at hr;exact .p _ _ _ _ (r2.kP (by simpa using hr))
       rw [hst] at hS;exact hS
      .have hg':g'∈(V.gq i.agg ((List.range i.size).map fun j=>if Nat.beq (off+j) c=true then W.own d else W.p a i' ((l.getD (P.int .i64 (k:Int)).nat []).getD (off+j) (Uy i.zero j)))).names:=hg';obtain ⟨y,hy,hg'⟩:=jE hg';obtain ⟨j,_,rfl⟩:=QQ.1 hy;split at hg'
       .simp only [W.names,Qt] at hg';subst hg';simp [St.aJ]
       .simp [W.names] at hg'
     .cases hk
    .cases hk
   .cases hk
  .cases hk
 .cases hk
theorem PartOf.mono {a i a' i':Bool} {es es':List (Nat×Nat)} {s j:Nat} {y:P} {u:Value} (h:PartOf st gh a i es s j y u) (ha:a=true->a'=true) (hi:i=true->i'=true) (he :∀p∈es,p∈es'):PartOf st gh a' i' es' s j y u:=by
 obtain ⟨l',h1,h2⟩:=h;refine ⟨l',h1,h2.imp id ?_⟩;rintro ⟨e,a1,i1,q1,q2,q3,q4,q5⟩;exact ⟨e,a1,i1,he _ q1,q2,fun h=>ha (q3 h),fun h=>hi (q4 h),q5⟩
theorem BM (h:Rel E st gh val w) {col:Nat->Option Nat} :∀{ws:List W} {cs:List Value} {ps:List P} {a i:Bool} {gs:List Nat} {es:List (Nat×Nat)} {j0:Nat},ws.length=cs.length->(∀(j:Nat) x u,ws[j]?=some x->cs[j]?=some u->fB E st gh w x u)->
  Qc st.o col j0 ws=some (ps,a,i,gs,es)->ps.length=ws.length/\xC st.o gs/\(∀p∈es,∃a1 i1 s l',st.o p.2=.arr false a1 i1 s l'/\(i1=true->i=true))/\
   ∀(j:Nat) y u,ps[j]?=some y->cs[j]?=some u->match col (j0+j) with
    |none =>∀st',(∀g∈gs,st'.o g=(Fw.aU st.o g).2)->Rel E st' gh val w->Lets E st st' gh gh w w->dh w (E.ok st' gh w a i) y u
    |some s=>PartOf st gh a i es s (j0+j) y u
 | [],cs,ps,a,i,gs,es,j0,hl,hr,ht=>by
  simp only [Qc,Q0,Q1] at ht;obtain ⟨rfl,rfl,rfl,rfl,rfl⟩:=ht;exact ⟨rfl,xC.nil,(fun p hp=>by cases hp),fun j y u hy=>by simp at hy⟩
 |x::ws,cs,ps,a,i,gs,es,j0,hl,hr,ht=>by
  cases cs with
  |nil=>simp at hl
  |cons c cs=>
   simp only [Qc] at ht;split at ht
   .cases ht
   .rename_i ys a' i' gs' es' h2;obtain ⟨q0,q1,qe,q2⟩:=BM h (j0:=j0+1) (by simpa using hl) (fun j a b ha hb=>hr (j+1) a b (by simpa using ha) (by simpa using hb)) h2;have rest :∀(a i:Bool) (gs:List Nat) (es:List (Nat×Nat)),(a'=true->a=true)->(i'=true->i=true)->(∀g∈gs',g∈gs)->(∀p∈es',p∈es)->∀(j:Nat) y u,ys[j]?=some y->cs[j]?=some u->match col (j0+(j+1)) with
      |none =>∀st',(∀g∈gs,st'.o g=(Fw.aU st.o g).2)->Rel E st' gh val w->Lets E st st' gh gh w w->dh w (E.ok st' gh w a i) y u
      |some s=>PartOf st gh a i es s (j0+(j+1)) y u:=by
     intro a i gs es ha hi hg he j y u hy hu;have:=q2 j y u hy hu;have e:j0+1+j=j0+(j+1):=by omega
     rw [e] at this;cases hc:col (j0+(j+1)) with
     |none=>rw [hc] at this;exact fun st' h1 h2 h3=>(this st' (fun g hg'=>h1 g (hg g hg')) h2 h3).cls ha hi
     |some s=>rw [hc] at this;exact this.mono ha hi he
    cases hc0:col j0 with
    |none=>
     rw [hc0] at ht;simp only at ht;split at ht
     .rename_i y1 a1 i1 gs1 h1;simp only [Q0,Q1] at ht;obtain ⟨rfl,rfl,rfl,rfl,rfl⟩:=ht;obtain ⟨k1,k2⟩:=NT h (hr 0 x c rfl rfl) h1;refine ⟨by simp [q0],k1.append q1,fun p hp=>let ⟨a2,i2,s2,l2,z1,z2⟩:=qe p hp;⟨a2,i2,s2,l2,z1,fun hh=>by simp [z2 hh]⟩,fun j y u hy hu => ?_⟩;cases j with
      |zero=>
       simp at hy hu;subst hy hu;rw [VM,hc0];exact fun st' hst h' hlet=>(k2 st' (fun g hg=>hst g (by simp [hg])) h' hlet).cls (by simp;exact fun h=>.inl h) (by simp;exact fun h=>.inl h)
      |succ j=>exact rest _ _ _ _ (by simp;exact fun h=>.inr h) (by simp;exact fun h=>.inr h) (fun g hg=>by simp [hg]) (fun p hp=>hp) j y u (by simpa using hy) (by simpa using hu)
     .cases ht
    |some s=>
     rw [hc0] at ht;simp only at ht;split at ht
     .simp only [Q0,Q1] at ht;obtain ⟨rfl,rfl,rfl,rfl,rfl⟩:=ht;refine ⟨by simp [q0],q1,qe,fun j y u hy hu => ?_⟩;cases j with
      |zero=>
       simp at hy hu;subst hy hu;rw [VM,hc0];have r0:=hr 0 _ _ rfl rfl;cases r0;exact ⟨[],rfl,.inl ⟨rfl,rfl⟩⟩
      |succ j=>exact rest _ _ _ _ id id (fun g hg=>hg) (fun p hp=>hp) j y u (by simpa using hy) (by simpa using hu)
     .rename_i e;split at ht
      .rename_i a1 i1 s' l1 hoe;split at ht
       .rename_i hs;subst hs;simp only [Q0,Q1] at ht;obtain ⟨rfl,rfl,rfl,rfl,rfl⟩:=ht;refine ⟨by simp [q0],q1,fun p hp => ?_,fun j y u hy hu => ?_⟩
        .rcases QP.1 hp with rfl | hp
         .exact ⟨a1,i1,s',l1,hoe,fun hh=>by simp [hh]⟩
         .obtain ⟨a2,i2,s2,l2,z1,z2⟩:=qe p hp;exact ⟨a2,i2,s2,l2,z1,fun hh=>by simp [z2 hh]⟩
        cases j with
        |zero=>
         simp at hy hu;subst hy hu;rw [VM,hc0];have r0:=hr 0 _ _ rfl rfl;refine ⟨l1,rfl,.inr ⟨e,a1,i1,by simp,hoe,by simp;exact fun h=>.inl h,by simp;exact fun h=>.inl h,?_⟩⟩;cases r0 with | own _ _ _ hb=>exact hb _ _ (O.jO hoe)
        |succ j=>exact rest _ _ _ _ (by simp;exact fun h=>.inr h) (by simp;exact fun h=>.inr h) (fun g hg=>hg) (fun p hp=>by simp [hp]) j y u (by simpa using hy) (by simpa using hu)
       .cases ht
      .cases ht
     .cases ht
theorem Ik {o:Nat->O} {g:Nat} {a0 i0:Bool} {Ac:Nat} {kQ:List (Nat×Nat)} {l0:List (List P)} {hole:Option (Nat×Nat×Nat)} {a i:Bool} {sz:Nat} {aj:List (Nat×Nat)} {l:List (List P)} (hog:o g=.aO a0 i0 Ac kQ l0 hole)
  (hh:jI o g=some (a,i,sz,aj,l)):sz=Ac/\aj=kQ/\l.length=l0.length:=by
 have h1:=oG hh;rw [hog] at h1;simp only [O.dim,Q0,Q1] at h1;refine ⟨h1.1.symm,?_,h1.2.symm⟩;unfold jI at hh;rw [hog] at hh;simp only at hh;split at hh
 .cases hh;rfl
 .split at hh
  .split at hh
   .cases hh;rfl
   .cases hh
  .cases hh
theorem vN (htt:iC Pg tt) (h:Rel E st gh val w) {o:Oper} {ρ:Operand->Value} {t:TypeId} {x y:Operand} (ho:o.op=.store t x y) {i:TI} (ht:tt t=some i) {y':V} (ry:rF E st gh w y' (ρ y)) (hys:y'.solid=true) (hyl:y'.words.length=i.size)
  {g:Nat} {a1 i1:Bool} {sz:Nat} {aj:List (Nat×Nat)} {l:List (List P)} {hole jd:Option (Nat×Nat×Nat)} {ad:Addr} {k off:Nat} (hv:ρ x=.pointer (some ⟨ad.block,ad.off+k*sz+off,none⟩)) (hsz:off+i.size<=sz) (hk:k<l.length)
  {ps:List P} {a' i':Bool} {gs:List Nat} {es:List (Nat×Nat)} (hD:Qc st.o (fun j=>aj.lookup j) off y'.words=some (ps,a',i',gs,es)) (hnd:(es.map (·.2)).Nodup) (hap :∀e∈es.map (·.2),e∉gs)
  {st1:St} {lH:Nat->Gh} (ks:List Nat) (h1:Rel E st1 lH val w) (l1:Lets E (st.aJ (gs.map (Fw.aU st.o)) []) st1 gh lH w w) (e1 :∀x,(lH x).ad=(gh x).ad/\(lH x).cap=(gh x).cap) (s1:st1.s=st.s) (u1 :∀x,st1.used x=st.used x)
  (o1:st1.o g=.aO a1 i1 sz aj l hole) (had:(gh g).ad=some ad) (ok1 :∀d∈ks,st1.o d=.none/\d≠g/\d∉es.map (·.2)) (oo1 :∀g',g'≠g->g'∉ks->st1.o g'=(st.aJ (gs.map (Fw.aU st.o)) []).o g') (hgg:g∉gs)
  (hh1 :∀m j,¬ (m=k/\off<=j/\j<off+i.size)->∀s,aj.lookup j=some s->gZ jd m j=gZ hole m j) (hh2 :∀j s,off<=j->j<off+i.size->aj.lookup j=some s->gZ jd k j=none) (hh3 :∀d∈dK jd,d∈dK hole) :
  ∃v w' bM,Does Pg (execOp ρ o) w v w'/\Rel E (st.aJ ((g,.aO (a1||a') (i1||i') sz aj (l.set k (aS (l.getD k []) off ps)) jd)::kills (es.map (·.2))++kills ks++gs.map (Fw.aU st.o)) []) bM val w'/\
   Lets E st (st.aJ ((g,.aO (a1||a') (i1||i') sz aj (l.set k (aS (l.getD k []) off ps)) jd)::kills (es.map (·.2))++kills ks++gs.map (Fw.aU st.o)) []) gh bM w w'/\
   dI E (st.aJ ((g,.aO (a1||a') (i1||i') sz aj (l.set k (aS (l.getD k []) off ps)) jd)::kills (es.map (·.2))++kills ks++gs.map (Fw.aU st.o)) []) bM w' .no v/\
   ∀g∈S.names .no,(st.aJ ((g,.aO (a1||a') (i1||i') sz aj (l.set k (aS (l.getD k []) off ps)) jd)::kills (es.map (·.2))++kills ks++gs.map (Fw.aU st.o)) []).used g=true:=by
 obtain ⟨us,hus,Ls,huo,hur⟩:=ry.cells hys;have abj:us.length=i.size:=by rw [Ls,hyl]
 obtain ⟨q0,q1,qe,q2⟩:=BM h Ls.symm hur hD;have hpl:ps.length=i.size:=by rw [q0,hyl]
 obtain ⟨f1,f2⟩:=Rel.freezes gs h q1;have KL:(lH g).ad=some ad:=by rw [(e1 g).1];exact had
 have hDA:mW E st1 lH w a1 i1 sz aj l hole (lH g):=by have:=h1.bg g;rw [o1] at this;exact this
 rcases hDA with ⟨k1,_⟩ | ⟨ad0,cs0,ty,k1,k2,k3,k4,k5,k6,_,k8⟩
 .rw [KL] at k1;cases k1
 rw [KL] at k1;cases k1;have hle:(k+1)*sz<=(lH g).cap*sz:=Z0 _ (by have:=k5.1;omega);rw [W0,K1] at hle;obtain ⟨w',c',r1,r2,r3,r4,r5,r6,r7,r8⟩:=sO (Pg:=Pg) (htt _ _ ht) ad.block (ad.off+k*sz+off) hus abj huo k3 (by omega);have hes1 :∀p∈es,st1.o p.2=st.o p.2:=by
  intro p hp;have hpm:p.2∈es.map (·.2):=QQ.2 ⟨p,hp,rfl⟩;obtain ⟨a2,i2,s2,l2,z1,_⟩:=qe p hp;by_cases e:p.2=g
  .exfalso;have hog:(st.aJ (gs.map (Fw.aU st.o)) []).o g=st.o g:=by rw [gy,if_neg hgg]
   have hlk:=l1.names g (by simp only [St.aJ,List.contains_nil,J1];exact h.ul g (by rw [<-e,z1];simp));rw [o1,hog,<-e,z1] at hlk;rcases hlk with hlk | ⟨_,hlk⟩
   .cases hlk
   .exact hlk
  .rw [oo1 _ e fun hk=>(ok1 _ hk).2.2 hpm,gy,if_neg (hap _ hpm)]
 have hm:=h1.ai8 o1 KL hk (off:=off) (ps:=ps) (us:=us) (by omega) (by omega) a' i' es jd hnd (fun p hp=>by
   obtain ⟨a2,i2,s2,l2,z1,z2⟩:=qe p hp;exact ⟨a2,i2,s2,l2,by rw [hes1 p hp];exact z1,z2⟩) (fun j y u hy hu=>by
   have:=q2 j y u hy hu;cases hc:aj.lookup (off+j) with
   |none=>rw [hc] at this;exact l1.kP (this _ (fun g hg=>by rw [gy,if_pos hg]) f1 f2)
   |some s=>
    rw [hc] at this;obtain ⟨l',z1,z2⟩:=this;refine ⟨l',z1,z2.imp id ?_⟩;rintro ⟨e,a2,i2,y1,y2,y3,y4,y5⟩;exact ⟨e,a2,i2,y1,by rw [hes1 _ y1];exact y2,y3,y4,by rw [(e1 e).1,(e1 e).2];exact y5⟩)
  (by rw [hpl];exact hh1) (by rw [hpl];exact hh2) hh3 w' r4 r5 r6 r7 r8 (fun c e hce=>by
   rw [k3] at hce;cases hce;exact ⟨c',r2,r3⟩)
 obtain ⟨bM,m1,m2⟩:=hm;have hst:st1.aJ ((g,.aO (a1||a') (i1||i') sz aj (l.set k (aS (l.getD k []) off ps)) jd)::es.map fun p=>(p.2,O.none)) [] =
   st.aJ ((g,.aO (a1||a') (i1||i') sz aj (l.set k (aS (l.getD k []) off ps)) jd)::kills (es.map (·.2))++kills ks++gs.map (Fw.aU st.o)) []:=by
  refine St.DU s1 (fun z => ?_) (fun z=>by simp [St.aJ,u1]);have ek:(es.map fun p=>(p.2,O.none))=kills (es.map (·.2)):=by simp [kills]
  rw [ek];simp only [St.aJ,K4,lookup_cons,Ad,iw];by_cases z1:z=g
  .simp only [if_pos z1]
  .simp only [if_neg z1];by_cases z2:z∈es.map (·.2)
   .simp only [if_pos z2,Option.some_or]
   .simp only [if_neg z2,Option.none_or];by_cases z3:z∈ks
    .simp only [if_pos z3,Option.some_or];exact (ok1 z z3).1
    .simp only [if_neg z3,Option.none_or];rw [oo1 z z1 z3];rfl
 rw [hst] at m1 m2;refine ⟨undef,w',bM,.inr ⟨?_,rfl⟩,m1,?_,.no _,fun g hg=>by simp [S.names] at hg⟩
 .unfold execOp;rw [ho];refine abe ?_;rw [hv];simpa [Instr.storeAt,Instr.sureAddr] using r1
 .exact Lets.trans (Lets.trans f2 l1 (fun g hg=>by simpa [St.aJ] using hg)) m2 (fun g hg=>by rw [u1];exact hg)
theorem alm {o:Nat->O} {g:Nat} {a i:Bool} {sz:Nat} {aj:List (Nat×Nat)} {l:List (List P)} {hole:Option (Nat×Nat×Nat)} (h:o g=.aO a i sz aj l hole):(o g).hn=dK hole:=by rw [h];rfl
theorem N8 {g:Nat} {gs:List Nat} (hg:g∉gs) (hn :∀d∈(st.o g).hn,d∉gs):jI (st.aJ (gs.map (Fw.aU st.o)) []).o g=jI st.o g:=by
 have e1:(st.aJ (gs.map (Fw.aU st.o)) []).o g=st.o g:=by rw [gy,if_neg hg]
 unfold jI;rw [e1];cases ho:st.o g with
 |aO a i sz aj l hole=>
  rcases hole with _ | ⟨n,c,d⟩
  .rfl
  .simp only;rw [gy,if_neg (hn d (by rw [ho];simp [O.hn,dK]))]
 |_=>rfl
theorem N9 {dc:List (Nat×Nat)} (htt:iC Pg tt) (t:TypeId) (x y:Operand):qG Pg tt dc (.store t x y):=by
 intro E st gh val w ρ F o d r ho h hF hFn hk hp hd;simp only [dW] at hk;split at hk
 .rename_i i g n off y' ht hx hy;have rx:=hF x;rw [hx] at rx;have ry:=hF y;rw [hy] at ry;split at hk
  .rename_i a0 i0 sz aj l0 hole hog;split at hk
   .rename_i ps a' i' gs es hD;split at hk
    .rename_i hc;obtain ⟨hc1,hc2,hc3,hc4,hc5,hc6⟩:=hc;have hgg:g∉gs:=fun hm=>by simp [hm] at hc4
     have hnd:=rQ hc5;have hap:=EW hc6;have Qz:(st.o g).dim=some (sz,l0.length):=by rw [hog];rfl
     obtain ⟨ad,k,had,rfl,hkl,hv⟩:=(by cases rx.dH with | ep _ _ _ _ _ hb=>exact hb _ _ Qz :∃(ad:Addr) (k:Nat),(gh g).ad=some ad/\n=.int .i64 k/\k<l0.length/\ρ x=.pointer (some ⟨ad.block,ad.off+k*sz+off,none⟩));have en:(P.int .i64 (k:Int)).nat=k:=by simp [P.nat,P.num]
     have ogf:(st.aJ (gs.map (Fw.aU st.o)) []).o g=.aO a0 i0 sz aj l0 hole:=by rw [gy,if_neg hgg];exact hog
     obtain ⟨us,hus,Ls,huo,hur⟩:=ry.NR.cells hc3;obtain ⟨_,q1,_,_⟩:=BM h Ls.symm hur hD;obtain ⟨f1,f2⟩:=Rel.freezes gs h q1;have refl:Lets E (st.aJ (gs.map (Fw.aU st.o)) []) (st.aJ (gs.map (Fw.aU st.o)) []) gh gh w w:=⟨fun a i b hb=>⟨hb,rfl⟩,fun g _=>.inr ⟨⟨rfl,rfl⟩,O.fD _⟩⟩;have home :∀(a i1:Bool) (l:List (List P)),jI st.o g=some (a,i1,sz,aj,l)->(∀d∈(st.o g).hn,d∉es.map (·.2)/\d∉gs)->
       ∃v w' bM,Does Pg (execOp ρ o) w v w'/\Rel E (st.aJ ((g,.aO (a||a') (i1||i') sz aj (l.set k (aS (l.getD k []) off ps)) none)::kills (es.map (·.2))++kills (st.o g).hn++gs.map (Fw.aU st.o)) []) bM val w'/\Lets E st (st.aJ ((g,.aO (a||a') (i1||i') sz aj (l.set k (aS (l.getD k []) off ps)) none)::kills (es.map (·.2))++kills (st.o g).hn++gs.map (Fw.aU st.o)) []) gh bM w w'/\dI E (st.aJ ((g,.aO (a||a') (i1||i') sz aj (l.set k (aS (l.getD k []) off ps)) none)::kills (es.map (·.2))++kills (st.o g).hn++gs.map (Fw.aU st.o)) []) bM w' .no v/\∀g'∈S.names .no,(st.aJ ((g,.aO (a||a') (i1||i') sz aj (l.set k (aS (l.getD k []) off ps)) none)::kills (es.map (·.2))++kills (st.o g).hn++gs.map (Fw.aU st.o)) []).used g'=true:=fun a i1 l hh hno=>by
      have hh':jI (st.aJ (gs.map (Fw.aU st.o)) []).o g=some (a,i1,sz,aj,l):=by rw [N8 hgg fun d hd=>(hno d hd).2];exact hh
      have hhn:((st.aJ (gs.map (Fw.aU st.o)) []).o g).hn=(st.o g).hn:=by rw [ogf,hog]
      obtain ⟨st1,lH,h1,l1,e1,es1,eu,eo,ek,en1⟩:=f1.home hh';rw [hhn] at ek en1;have hll:=(Ik hog hh).2.2;exact vN htt h ho ht ry.NR hc3 hc2 hv hc1 (by omega) hD hnd hap (st.o g).hn h1 l1 e1 (by rw [es1];rfl) (fun z=>by rw [eu];simp [St.aJ]) eo had
       (fun d hd=>⟨(ek d hd).1,(ek d hd).2,(hno d hd).1⟩) en1 hgg (jd:=none) (fun _ _ _ _ _=>rfl) (fun _ _ _ _ _=>rfl) (fun d hd=>by cases hd)
     have over :∀n0 c0 d0,hole=some (n0,c0,d0)->off<=c0/\c0<off+i.size->n0=k->_:=fun n0 c0 d0 hho hcr hp=>
      vN htt h ho ht ry.NR hc3 hc2 hv hc1 hkl hD hnd hap [] f1 refl (fun _=>⟨rfl,rfl⟩) rfl (fun z=>by simp [St.aJ]) ogf had (fun d hd=>by cases hd) (fun _ _ _=>rfl) hgg
       (jd:=none) (fun m j hne s hs=>by
        subst hho hp;simp only [gZ];rw [if_neg fun e=>hne ⟨e.1.symm,by omega,by omega⟩]) (fun _ _ _ _ _=>rfl) (fun d hd=>by cases hd)
     split at hk
     .rename_i hci;simp only [Q0] at hk;subst hk;have:=vN htt h ho ht ry.NR hc3 hc2 hv hc1 hkl hD hnd hap [] f1 refl (fun _=>⟨rfl,rfl⟩) rfl (fun z=>by simp [St.aJ]) ogf had (fun d hd=>by cases hd) (fun _ _ _=>rfl) hgg
       (jd:=hole) (fun _ _ _ _ _=>rfl) (fun j s h1 h2 h3=>by rw [Ii hci h1 h2] at h3;cases h3) (fun d hd=>hd)
      rw [en];exact this
     .split at hk
      .simp only [Q0] at hk;subst hk;have:=vN htt h ho ht ry.NR hc3 hc2 hv hc1 hkl hD hnd hap [] f1 refl (fun _=>⟨rfl,rfl⟩) rfl (fun z=>by simp [St.aJ]) ogf had (fun d hd=>by cases hd) (fun _ _ _=>rfl) hgg
        (jd:=none) (fun _ _ _ _ _=>rfl) (fun _ _ _ _ _=>rfl) (fun d hd=>hd)
       rw [en];exact this
      .rename_i n0 c0 d0;split at hk
       .rename_i a i1 _ _ l hh;split at hk
        .rename_i hcc;simp only [Q0] at hk;subst hk;obtain ⟨e1,e2,e3⟩:=Ik hog hh;subst e1 e2;have hhn:(st.o g).hn=[d0]:=by rw [alm hog];rfl
         have:=home a i1 l hh (fun d hd=>by
          rw [hhn,Qt] at hd;subst hd;exact ⟨fun hm=>by have:=hcc.1;simp only [Wm,decide_eq_false_iff_not] at this;exact this hm,fun hm=>by have:=hcc.2;simp [hm] at this⟩)
         rw [hhn] at this;rw [en];exact this
        .split at hk
         .rename_i hcr;simp only [Q0] at hk;subst hk;have hp:n0=(P.int .i64 (k:Int)).nat:=hp;rw [en] at hp;rw [en];exact over n0 c0 d0 rfl hcr hp
         .cases hk
       .split at hk
        .rename_i hcr;simp only [Q0] at hk;subst hk;have hp:n0=(P.int .i64 (k:Int)).nat:=hp;rw [en] at hp;rw [en];exact over n0 c0 d0 rfl hcr hp
        .cases hk
    .cases hk
   .cases hk
  .cases hk
 .cases hk
theorem Rel.abr (h:Rel E st gh val w) {d:Nat} (hd:st.used d=false) (a i:Bool) (sz:Nat) (aj:List (Nat×Nat)) (l:List (List P)) (c:Array Value) (t:TypeId) (cap:Nat) (hcap:l.length<=cap/\cap<=9223372036854775807) (hc:cap*sz<=c.size) (hrow :∀x∈l,x.length=sz)
  (es:List (Nat×Nat)) (hnd:(es.map (·.2)).Nodup) (hes :∀p∈es,∃a1 i1 s l',st.o p.2=.arr false a1 i1 s l'/\(i1=true->i=true))
  (hcell :∀(n:Nat) x,l[n]?=some x->∀(j:Nat) y,x[j]?=some y->∃v,c[n*sz+j]?=some v/\match aj.lookup j with
   |none=>dh w (E.ok st gh w a i) y v
   |some s=>PartOf st gh a i es s (n*sz+j) y v) :
  ∃bM,Rel E (st.aJ ((d,.aO a i sz aj l none)::kills (es.map (·.2))) [d]) bM val { w with heap:=w.heap.push (.cells c t) }/\Lets E st (st.aJ ((d,.aO a i sz aj l none)::kills (es.map (·.2))) [d]) gh bM w { w with heap:=w.heap.push (.cells c t) }/\
   (bM d).ad=some ⟨w.heap.size,0,none⟩ /\(bM d).cap=cap:=by
 have heo :∀p∈es,(st.o p.2).bP=true:=fun p hp=>by obtain ⟨_,_,_,_,e,_⟩:=hes p hp;rw [e];rfl
 have hde:d∉es.map (·.2):=fun hm=>by
  obtain ⟨p,hp,e⟩:=QQ.1 hm;have:=h.ul p.2 (O.qB (heo p hp));rw [e,hd] at this;cases this
 let G:Gh:=⟨some ⟨w.heap.size,0,none⟩,cap,fun b=>(whose gh es b).map fun p=>(p.1/sz,p.1 % sz)⟩
 have hwb :∀b,(G.sub b).isSome=true->∃p∈es,∃ad,(gh p.2).ad=some ad/\ad.block=b:=fun b hb=>by
  cases hx:whose gh es b with
  |none=>simp [G,hx] at hb
  |some p=>exact ⟨p,vM hx⟩
 have hm:=h.gather (fun g=>g∈es.map (·.2)) hd a i sz aj l G (st.aJ ((d,.aO a i sz aj l none)::kills (es.map (·.2))) [d]) { w with heap:=w.heap.push (.cells c t) } rfl (by simp [St.aJ,lookup_cons])
  (fun g hg e=>by simp only [St.aJ,lookup_cons,if_neg e,iw,if_pos hg]) (fun g hg e=>by simp only [St.aJ,lookup_cons,if_neg e,iw,if_neg hg]) (fun g hg=>by simp [St.aJ,hg]) (by simp [St.aJ])
  (ad:=⟨w.heap.size,0,none⟩) (c:=c) (ty:=t) rfl rfl (by simp) (by simpa [G] using hc) hcap hrow (by
   cases hx:G.sub w.heap.size with
   |none=>rfl
   |some p=>
    obtain ⟨p,hp,ad,q1,q2⟩:=hwb w.heap.size (by rw [hx];rfl);have:=(h.wr p.2 w.heap.size (heo p hp) (.inl ⟨ad,q1,q2⟩)).2;omega) (fun b hb=>by
   obtain ⟨p,hp,ad,q1,q2⟩:=hwb b hb;refine ⟨⟨p.2,QQ.2 ⟨p,hp,rfl⟩,heo p hp,.inl ⟨ad,q1,q2⟩⟩,?_⟩;obtain ⟨_,_,_,_,e,_⟩:=hes p hp;have hA:=h.bg p.2;rw [e] at hA;rcases hA with ⟨q3,_⟩ | ⟨BD,c2,e2,q3,_,q4,_⟩
   .rw [q1] at q3;cases q3
   .rw [q1] at q3;cases q3;rw [<-q2];exact ⟨_,_,_,q4⟩)
  (.inr ⟨Ys _,by simp⟩) (fun b hb _=>vG w _ b hb) (by simp) rfl rfl rfl (fun g i1 hg e1 hi=>by
   obtain ⟨p,hp,rfl⟩:=QQ.1 hg;obtain ⟨_,i2,_,_,e,hi2⟩:=hes p hp;rw [e] at e1;cases e1;exact hi2 hi) (fun g hg _=>by
   obtain ⟨p,hp,rfl⟩:=QQ.1 hg;obtain ⟨_,i2,_,_,e,hi2⟩:=hes p hp;exact ⟨i2,by rw [e];rfl⟩) (fun n x hx j y hy=>by
   obtain ⟨v,hv,hr⟩:=hcell n x hx j y hy;refine ⟨v,by simpa using hv,?_⟩;cases hcj:aj.lookup j with
   |none=>rw [hcj] at hr;exact hr
   |some s=>
    rw [hcj] at hr;have hjs:j<sz:=by have:=(Q3.1 hy).1;have:=hrow x (XS hx);omega
    refine PartOf.alj h hr fun p hp e ad had => ?_;have:=LC h hnd heo hp had;simp only [G,this,Z3,e];have e1:(n*sz+j)/sz=n:=by rw [Kn,Nat.mul_add_div (by omega),Nat.div_eq_of_lt hjs,VM]
    have e2:(n*sz+j) % sz=j:=by rw [Kn,qz,Kc hjs]
    rw [e1,e2])
 exact ⟨_,hm.1,hm.2,by simp [fE,G],by simp [fE,G]⟩
theorem DV {dc:List (Nat×Nat)} (htt:iC Pg tt) (t:TypeId) (n c:Operand):qG Pg tt dc (.makeSlice t n c):=by
 intro E st gh val w ρ F o d r ho h hF hFn hk hp hd;simp only [dW] at hk;split at hk
 .rename_i e _ _ _ _ _ n' _ _ c' zJ DW ht hn hc;split at hk
  .rename_i ie he;split at hk
   .rename_i ps hps;split at hk
    .rename_i hpos;simp only [Q0] at hk;subst hk;obtain ⟨m,k,rfl,rfl,hmk,hby,hkm⟩:=hp;have hu:=(htt _ _ ht).kind;simp only [oD] at hu;have rn:=hF n;rw [hn] at rn;have rc:=hF c;rw [hc] at rc;obtain ⟨x,z,g1,g2,g3,g4,g5,g6⟩:=(htt _ _ he).info;obtain ⟨hone,hl,hr⟩:=qC (E:=E) (st:=st) (gh:=gh) (w:=w) (htt _ _ he);have hzl:=(htt _ _ he).len;obtain ⟨q0,q1,_,q2⟩:=BM h hl hr hps;have Gz:st.used d=false:=hd d (by simp);have hpl:ps.length=ie.size:=by rw [q0,hl,hzl]
     have e1:(P.int .i64 (m:Int)).nat=m:=by simp [P.nat,P.num]
     obtain ⟨bM,m1,m2,m3,m4⟩:=h.abr Gz false false ie.size (zJ::DW) (List.replicate m ps) (fQ ie.zero k).toArray e k ⟨by simpa using hmk,by omega⟩ (by simp [dN,hzl]) (fun x hx=>by
       rw [List.mem_replicate] at hx;rw [hx.2,hpl]) [] List.nodup_nil (fun p hp=>by cases hp) (fun q x hx j y hy=>by
       rw [vh] at hx;split at hx
       .rename_i hq;simp only [Q0] at hx;subst hx;have hj:j<ie.size:=by have:=(Q3.1 hy).1;omega
        have hlt:q*ie.size+j<k*ie.zero.length:=by
         rw [hzl];have:(q+1)*ie.size<=k*ie.size:=Z0 _ (by omega);rw [W0] at this;omega
        have hz':ie.zero[j]?=some ie.zero[j]:=Q2 (by omega);refine ⟨ie.zero[j],?_,?_⟩
        .simp only [JS];have hmod:(q*ie.size+j) % ie.zero.length=j:=by rw [hzl,Kn,qz,Kc hj]
         rw [iE _ _ _ hlt,hmod];exact hz'
        .have:=q2 j y _ hy hz';rw [WD] at this;cases hcj:(zJ::DW).lookup j with
         |none=>rw [hcj] at this;exact this st (by simp) h ⟨fun a i b hb=>⟨hb,rfl⟩,fun g _=>.inr ⟨⟨rfl,rfl⟩,O.fD _⟩⟩
         |some s=>
          rw [hcj] at this;obtain ⟨l',z1,z2⟩:=this;rcases z2 with z2 | ⟨_,_,_,z3,_⟩
          .exact ⟨l',z1,.inl z2⟩
          .cases z3
       .cases hx)
     refine ⟨.slice (some ⟨w.heap.size,0,none⟩) m k,_,bM,.inl ?_,by simpa [e1,P.list,kills] using m1,by simpa [e1,P.list,kills] using m2,dI.H6 (.own d _ rfl fun sz' len' ho' => ?_),fun g hg => ?_⟩
     .unfold execOp;rw [ho];refine gQ ?_;have hrun:=run_make (P:=Pg) w t e x z hu g1 g4 .i64 .i64 (m:Int) (k:Int) (by omega) (by omega) (by rw [g3];omega) (by omega);rw [rn.fF.eU,rc.fF.eU,hrun];have:=nN g5 k (by rw [hzl];exact hpos);rw [hzl] at this;simp only [QR,g2,madeCells,this]
     .rw [e1] at ho';have UG:(some (ie.size,m):Option (Nat×Nat))=some (sz',len'):=by
       rw [<-ho'];simp [St.aJ,List.lookup,O.dim,P.list]
      cases UG;rw [m3,m4]
     .have hg:g∈(S.v (.one (.own d))).names:=hg;rw [dR] at hg;simp only [W.names,Qt] at hg;subst hg;simp [St.aJ]
    .cases hk
   .cases hk
  .cases hk
 .cases hk
theorem BN {dc:List (Nat×Nat)} (htt:iC Pg tt) (t:TypeId) (n:Nat) (parts:Array (Nat×Operand)):qG Pg tt dc (.buildSlice t n parts):=by
 intro E st gh val w ρ F o d r ho h hF hFn hk hp hd;simp only [dW] at hk;split at hk
 .rename_i e _ _ _ zJ DW ht;split at hk
  .rename_i ie he;split at hk
   .rename_i ws Lu;split at hk
    .rename_i ps a i gs es hps;split at hk
     .rename_i hcc;obtain ⟨hcap0,hnd,hap⟩:=hcc;have hnd:=rQ hnd;have hap:=EW hap;have hcap:n*ie.size<=16777216:=by omega
      simp only [Q0] at hk;subst hk;have hu:=(htt _ _ ht).kind;simp only [oD] at hu;obtain ⟨z,hz,hzc,_⟩:=kW (Pg:=Pg) (w:=w) (htt _ _ he);obtain ⟨hone,hl,hr⟩:=qC (E:=E) (st:=st) (gh:=gh) (w:=w) (htt _ _ he);have hzl:=(htt _ _ he).len;have hparts:(parts.map fun (p:Nat×Operand)=>(p.1,ρ p.2)).toList=parts.toList.map fun p=>(p.1,ρ p.2):=by simp
      obtain ⟨cs',h1,h2,h3,h4,h5⟩:=BH (E:=E) (st:=st) (gh:=gh) (w:=w) (place':=fun i=>some (i*ie.size,ie.size)) (fun m p hpm=>by split at hpm;exact hpm;cases hpm) _ (parts.toList.map fun p=>(p.1,ρ p.2)) _ _
       (fQ ie.zero n) (by simp) (fun j x v hx hv=>DL hF _ j x v hx hv) (by rw [dN,dN,hl]) (fun c hc=>by
        obtain ⟨j,hj⟩:=V2.1 hc;have hlt:j<n*ie.zero.length:=by have:=(Q3.1 hj).1;rwa [dN] at this
        rw [iE _ _ _ hlt] at hj;exact hone c (XS hj)) (fun j x u hx hu=>by
        have hlt:j<n*ie.zero.length:=by have:=(Q3.1 hu).1;rwa [dN] at this
        rw [iE _ _ _ hlt] at hu;rw [iE _ _ _ (by rw [hl];exact hlt),hl] at hx;exact hr _ _ _ hx hu) Lu
      obtain ⟨q0,q1,qe,q2⟩:=BM h h2 h4 hps;obtain ⟨f1,f2⟩:=Rel.freezes gs h q1;have Gz:st.used d=false:=hd d (by simp);have hws:ws.length=n*ie.size:=by rw [h5,dN,hl,hzl]
      have ai4:ps.length=n*ie.size:=by rw [q0,hws]
      have hfe :∀p∈es,(st.aJ (gs.map (Fw.aU st.o)) []).o p.2=st.o p.2:=fun p hp=>by rw [gy,if_neg (hap _ (QQ.2 ⟨p,hp,rfl⟩))]
      obtain ⟨bM,m1,m2,m3,m4⟩:=f1.abr (d:=d) (by simpa [St.aJ] using Gz) a i ie.size (zJ::DW) (chunks ie.size n ps) cs'.toArray e n ⟨by rw [iq];exact Ys _,by omega⟩ (by simp;omega) (fun x hx=>by
        obtain ⟨m,hm⟩:=V2.1 hx;have hlt:m<n:=by have:=(Q3.1 hm).1;rwa [iq] at this
        rw [qE _ _ _ _ hlt] at hm;simp only [Q0] at hm;subst hm;simp [ai4];have:(m+1)*ie.size<=n*ie.size:=Z0 _ hlt;rw [W0] at this;omega) es hnd (fun p hp=>by
        obtain ⟨a2,i2,s2,l2,z1,z2⟩:=qe p hp;exact ⟨a2,i2,s2,l2,by rw [hfe p hp];exact z1,z2⟩) (fun m x hx j y hy=>by
        have hlt:m<n:=by have:=(Q3.1 hx).1;rwa [iq] at this
        rw [qE _ _ _ _ hlt] at hx;simp only [Q0] at hx;subst hx;rw [Z2] at hy;split at hy
        .rename_i hj;rw [W5] at hy;have hlt2:m*ie.size+j<cs'.length:=by
          have:=(Q3.1 hy).1;omega
         refine ⟨cs'[m*ie.size+j],by simp,?_⟩;have:=q2 _ y _ hy (Q2 hlt2);have em:(0+(m*ie.size+j)) % ie.size=j:=by rw [WD,Kn,qz,Kc hj]
         rw [em,WD] at this;cases hcj:(zJ::DW).lookup j with
         |none=>rw [hcj] at this;exact this _ (fun g hg=>by rw [gy,if_pos hg]) f1 f2
         |some s=>
          rw [hcj] at this;obtain ⟨l',z1,z2⟩:=this;refine ⟨l',z1,z2.imp id ?_⟩;rintro ⟨e,a2,i2,y1,y2,y3,y4,y5⟩;exact ⟨e,a2,i2,y1,by rw [hfe _ y1];exact y2,y3,y4,y5⟩
        .cases hy)
      have hst:(st.aJ (gs.map (Fw.aU st.o)) []).aJ ((d,.aO a i ie.size (zJ::DW) (chunks ie.size n ps) none)::kills (es.map (·.2))) [d]=st.aJ ((d,.aO a i ie.size (zJ::DW) (chunks ie.size n ps) none)::kills (es.map (·.2))++gs.map (Fw.aU st.o)) [d]:=by
       refine St.DU rfl (fun z => ?_) (fun z=>by simp [St.aJ]);simp only [St.aJ,K4,lookup_cons,Ad,iw];by_cases z1:z=d
       .simp only [if_pos z1]
       .simp only [if_neg z1];by_cases z2:z∈es.map (·.2)
        .simp only [if_pos z2,Option.some_or]
        .simp only [if_neg z2,Option.none_or]
      rw [hst] at m1 m2;refine ⟨.slice (some ⟨w.heap.size,0,none⟩) n n,_,bM,.inl ?_,m1,Lets.trans f2 m2 (fun g hg=>by simpa [St.aJ] using hg),dI.H6 (.own d _ rfl fun sz' len' ho' => ?_),fun g hg => ?_⟩
      .unfold execOp;rw [ho];refine gQ ?_;have hle:¬ n*ie.size>2 ^ 24:=by omega
       have fin :∀Z:Array Value,(Array.range (n*ie.size)).map (fun i=>Z[i % Z.size]!)=(fQ ie.zero n).toArray->
         Instr.fill (fun i=>some (i*ie.size,ie.size)) ((Array.range (n*ie.size)).map fun i=>Z[i % Z.size]!) (parts.map fun (p:Nat×Operand)=>(p.1,ρ p.2)).toList=some cs'.toArray:=by
        intro Z hZ;rw [hZ,hparts,h1]
       by_cases h0:n*ie.size=0
       .have e0:fQ ie.zero n=[]:=WP (by rw [dN,hzl,h0]);have e1:=fin #[] (by rw [h0,e0];simp);simp only [Instr.buildSlice,Sem.run_bind,eF hu,Result.andThen_ok,dY (htt _ _ he),if_neg hle,if_pos h0,Sem.run_pure];simp only [e1];simp [newRow]
       .have hpos:0<ie.zero.length:=by rw [hzl];rcases qa ie.size with h | h;(rw [h] at h0;simp at h0);exact h
        have e1:=fin z.cells (by have:=nN hzc n hpos;rw [hzl] at this;exact this);simp only [Instr.buildSlice,Sem.run_bind,eF hu,Result.andThen_ok,dY (htt _ _ he),if_neg hle,if_neg h0,hz,Sem.run_pure];simp only [e1];simp [newRow]
      .have UG:(some (ie.size,n):Option (Nat×Nat))=some (sz',len'):=by
        rw [<-ho'];simp [St.aJ,List.lookup,O.dim,P.list,iq]
       cases UG;rw [m3,m4]
      .have hg:g∈(S.v (.one (.own d))).names:=hg;rw [dR] at hg;simp only [W.names,Qt] at hg;subst hg;simp [St.aJ]
     .cases hk
    .cases hk
   .cases hk
  .cases hk
 .cases hk
def y8 (gh:Nat->Gh):Option Nat->Nat->Option (Nat×Nat)
 |some g,b=>(gh g).sub b
 |none,_=>none
theorem QB (h:Rel E st gh val w) {d g2:Nat} (hd:st.used d=false) {a i a2 i2:Bool} {sz:Nat} {aj:List (Nat×Nat)} {old new:List (List P)} {base:Option Nat} {bad:Option Addr} {vO m:Nat}
  (hb:(base=none/\bad=none/\vO=0/\m=0/\old=[])\/∃g l,base=some g/\st.o g=.aO a i sz aj l none/\bad=(gh g).ad/\(m<=vO/\vO<=(gh g).cap)/\m<=l.length/\old=l.take m/\g≠g2)
  (ho2:st.o g2=.aO a2 i2 sz aj new none)
  {ts:Array TypeId} {ty sT xT e e':TypeId} {ie:TI} (h0:ts[0]?=some sT) (h1:ts[1]?=some xT) (hs:Pg.underlying sT=some (.slice e)) (hxt:Pg.underlying xT=some (.slice e')) (he:pU Pg e ie) (hsz:sz=ie.size)
  (hbb:(m+new.length)*ie.bytes<=140737488355328) (hb0:ie.bytes≠0) :
  ∃v w' bM,(Builtin.append_ ts ty #[.slice bad m vO,.slice (gh g2).ad new.length (gh g2).cap]).run Pg w=.ok v w'/\Rel E (st.aJ ((d,.aO (a||a2) (i||i2) sz aj (old++new) none)::kills (base.toList++[g2])) [d]) bM val w'/\
   Lets E st (st.aJ ((d,.aO (a||a2) (i||i2) sz aj (old++new) none)::kills (base.toList++[g2])) [d]) gh bM w w'/\v=.slice (bM d).ad (old++new).length (bM d).cap:=by
 subst hsz;have ca:a=true->(a||a2)=true:=by simp;exact fun h=>.inl h
 have ci:i=true->(i||i2)=true:=by simp;exact fun h=>.inl h
 have ca2:a2=true->(a||a2)=true:=by simp;exact fun h=>.inr h
 have ci2:i2=true->(i||i2)=true:=by simp;exact fun h=>.inr h
 have hnd :∀g,st.o g≠.none->g≠d:=fun g hg e=>by rw [<-e,h.ul g hg] at hd;cases hd
 have apj:g2≠d:=hnd g2 (by rw [ho2];simp);have afi:(st.o g2).bP=true:=by rw [ho2];rfl
 have hol:old.length=m:=by
  rcases hb with ⟨_,_,_,rfl,rfl⟩ | ⟨g,l,_,_,_,_,hm,rfl,_⟩
  .rfl
  .simp;omega
 have hlen:(old++new).length=m+new.length:=by rw [YY,hol]
 have hbS :∀g,g∈base.toList++[g2]->g≠d/\(st.o g).bP=true/\∃a0 i0 l0,st.o g=.aO a0 i0 ie.size aj l0 none/\(i0=true->(i||i2)=true):=by
  intro g hg;rcases Xs.1 hg with hg | hg
  .rcases hb with ⟨rfl,_⟩ | ⟨g',l,rfl,hog,_⟩
   .simp at hg
   .simp at hg;subst hg;exact ⟨hnd g (by rw [hog];simp),by rw [hog];rfl,a,i,l,hog,ci⟩
  .rw [Qt] at hg;subst hg;exact ⟨apj,afi,a2,i2,new,ho2,ci2⟩
 let sub:Nat->Option (Nat×Nat):=fun b=>match (gh g2).sub b with
  |some (n,j)=>some (n+m,j)
  |none=>y8 gh base b
 have aln :∀b,(y8 gh base b).isSome=true->(gh g2).has b->False:=fun b h1 h2=>by
  rcases hb with ⟨rfl,_⟩ | ⟨g,l,rfl,hog,_,_,_,_,hne⟩
  .cases h1
  .exact hne (h.inj g g2 b (by rw [hog];rfl) afi (.inr h1) h2)
 have hsub :∀b,(sub b).isSome=true->(∃g,g∈base.toList++[g2]/\(st.o g).bP=true/\((gh g).sub b).isSome=true):=fun b hbs=>by
  cases hx:(gh g2).sub b with
  |some p=>exact ⟨g2,by simp,afi,by rw [hx];rfl⟩
  |none=>
   simp only [sub,hx] at hbs;rcases hb with ⟨rfl,_⟩ | ⟨g,l,rfl,hog,_⟩
   .cases hbs
   .exact ⟨g,by simp,by rw [hog];rfl,hbs⟩
 have abt :∀g,g∈base.toList++[g2]->∀b,((gh g).sub b).isSome=true->∃c e f,w.heap[b]?=some (.cells c e f):=fun g hg b hbs=>by
  obtain ⟨_,_,a0,i0,l0,hog,_⟩:=hbS g hg;have hD:=h.bg g;rw [hog] at hD;rcases hD with ⟨_,_,_,q⟩ | ⟨_,_,_,_,_,_,_,_,_,⟨_,q⟩,_⟩
  .rw [q b] at hbs;cases hbs
  .exact q b hbs
 have alo :∀(G:Gh),G.sub=sub->∀n j y u,iK E st gh w a2 i2 (gh g2) aj none n j y u->match aj.lookup j with
   |none=>dh w (E.ok st gh w (a||a2) (i||i2)) y u
   |some s=>zD E st gh w (a||a2) (i||i2) G s (n+m) j y u:=by
  intro G hG n j y u hr;unfold iK at hr;cases hc:aj.lookup j with
  |none=>rw [hc] at hr;exact hr.cls ca2 ci2
  |some s=>
   rw [hc] at hr;simp only [gZ] at hr;obtain ⟨l',ao,k,q1,q2,q3,q4⟩:=hr.cls ca2 ci2;exact ⟨l',ao,k,q1,q2,q3,fun ad had=>by rw [hG];simp only [sub,q4 ad had]⟩
 have alp :∀(G:Gh),G.sub=sub->∀g,base=some g->∀n j y u,iK E st gh w a i (gh g) aj none n j y u->match aj.lookup j with
   |none=>dh w (E.ok st gh w (a||a2) (i||i2)) y u
   |some s=>zD E st gh w (a||a2) (i||i2) G s n j y u:=by
  intro G hG g hgb n j y u hr;unfold iK at hr;cases hc:aj.lookup j with
  |none=>rw [hc] at hr;exact hr.cls ca ci
  |some s=>
   rw [hc] at hr;simp only [gZ] at hr;obtain ⟨l',ao,k,q1,q2,q3,q4⟩:=hr.cls ca ci;refine ⟨l',ao,k,q1,q2,q3,fun ad had => ?_⟩;have hq:=q4 ad had;have hb1:(y8 gh base ad.block).isSome=true:=by rw [hgb];simp only [y8,hq];rfl
   rw [hG];cases hx:(gh g2).sub ad.block with
   |some p=>exact (aln ad.block hb1 (.inr (by rw [hx];rfl))).elim
   |none=>simp only [sub,hx,hgb,y8];exact hq
 have hD2:mW E st gh w a2 i2 ie.size aj new none (gh g2):=by have:=h.bg g2;rw [ho2] at this;exact this
 have alq :∀X:O,∀g,g∈base.toList++[g2]->g≠d->(st.aJ ((d,X)::kills (base.toList++[g2])) [d]).o g=.none:=fun X g hg e=>by simp only [St.aJ,lookup_cons,if_neg e,iw,if_pos hg]
 have alr :∀X:O,∀g,¬ g∈base.toList++[g2]->g≠d->(st.aJ ((d,X)::kills (base.toList++[g2])) [d]).o g=st.o g:=fun X g hg e=>by simp only [St.aJ,lookup_cons,if_neg e,iw,if_neg hg]
 by_cases rO:m+new.length<=vO
 .obtain ⟨c2,hc2,hl2,alu,hr2,hcell2⟩:=z_ (Pg:=Pg) hD2 new.length (Ys _);rcases hb with ⟨rfl,rfl,rfl,rfl,rfl⟩ | ⟨g,l,rfl,hog,rfl,hbc,hm,rfl,alv⟩
  .have hn0:new=[]:=WP (by omega);subst hn0;have hk:=h.kill g2;have hmk:=Rel.NJ hk.1 d (by simpa [St.aJ] using hd) (.aO (a||a2) (i||i2) ie.size aj [] none) (.inl ⟨rfl,rfl,rfl,fun _=>rfl⟩) (fun g hg=>by simp [O.names,dK] at hg);have hst:(st.aJ [(g2,.none)] []).aJ [(d,.aO (a||a2) (i||i2) ie.size aj [] none)] [d]=st.aJ ((d,.aO (a||a2) (i||i2) ie.size aj ([]++[]) none)::kills ((none:Option Nat).toList++[g2])) [d]:=by
    refine St.DU rfl (fun z => ?_) (fun z=>by simp [St.aJ]);simp only [St.aJ,lookup_cons,iw,Option.toList,KV,Qt,List.lookup_nil];by_cases z1:z=d
    .simp only [if_pos z1]
    .simp only [if_neg z1]
   rw [hst] at hmk;refine ⟨.slice none (0+0) 0,w,_,kL h0 h1 hs hxt he hc2 (by simp) (fun a ha=>by cases ha) (fun _=>rfl),hmk.1,Lets.trans hk.2 hmk.2 (fun g hg=>by simpa [St.aJ] using hg),by simp [fE,Gh.nil]⟩
  .have hD:mW E st gh w a i ie.size aj l none (gh g):=by have:=h.bg g;rw [hog] at this;exact this
   have hgo:(st.o g).bP=true:=by rw [hog];rfl
   rcases hD with ⟨z1,z2,z3,z4⟩ | ⟨ad,c,e0,z1,z2,z3,z4,z5,z6,⟨z7,z7'⟩,z8⟩
   .subst z3;have hm0:m=0:=by simpa using hm
    subst hm0;have hn0:new=[]:=WP (by omega);subst hn0;have hk:=h.kill g;have hk2:=hk.1.kill g2;have hmk:=Rel.NJ hk2.1 d (by simpa [St.aJ] using hd) (.aO (a||a2) (i||i2) ie.size aj [] none) (.inl ⟨rfl,rfl,rfl,fun _=>rfl⟩) (fun g hg=>by simp [O.names,dK] at hg);have hst:((st.aJ [(g,.none)] []).aJ [(g2,.none)] []).aJ [(d,.aO (a||a2) (i||i2) ie.size aj [] none)] [d]=st.aJ ((d,.aO (a||a2) (i||i2) ie.size aj (([]:List (List P)).take 0++[]) none)::kills ((some g:Option Nat).toList++[g2])) [d]:=by
     refine St.DU rfl (fun z => ?_) (fun z=>by simp [St.aJ]);simp only [St.aJ,lookup_cons,iw,Option.toList,K4,KV,QP,List.not_mem_nil,or_false,List.lookup_nil];by_cases z1:z=d
     .simp only [if_pos z1];rfl
     .simp only [if_neg z1];by_cases z2:z=g2
      .simp [z2]
      .simp only [if_neg z2];by_cases z3:z=g
       .simp [z3]
       .simp [z2,z3]
    rw [hst] at hmk;have ai7:vO=0:=by omega
    subst ai7;refine ⟨.slice none (0+0) 0,w,_,by rw [z1];exact kL h0 h1 hs hxt he hc2 (by simp) (fun a ha=>by cases ha) (fun _=>rfl),hmk.1,Lets.trans (Lets.trans hk.2 hk2.2 (fun g hg=>by simpa [St.aJ] using hg)) hmk.2 (fun g hg=>by simpa [St.aJ] using hg),by simp [fE,Gh.nil]⟩
   .have apd:m*ie.size+new.length*ie.size<=(gh g).cap*ie.size:=by rw [<-W0];exact Z0 _ (UI rO hbc.2)
    have hbz:vO*ie.size<=(gh g).cap*ie.size:=Z0 _ hbc.2;obtain ⟨b0,o0,sp0⟩:=ad;simp only at z2 z3 z4 z7 z8;subst z2;obtain ⟨w',c',s1,s2,s3,s4,s5,s6,s7,s8⟩:=kF (Pg:=Pg) b0 (o0+m*ie.size) e0 c2 0 w c z3 alu (by omega);have xK:c'.size=c.size:=by
     have:=congrArg List.length s3;rw [dS (by simp;omega)] at this;simpa using this
    let G:Gh:=⟨some ⟨b0,o0,none⟩,vO,sub⟩
    have hn2:¬ (gh g2).has b0:=fun hb=>alv (h.inj g g2 b0 hgo afi (Gh.jS z1) hb);have hget :∀q:Nat,c'[q]?=(aS c.toList (o0+m*ie.size) c2)[q]?:=fun q=>by rw [<-Wo,s3,VM]
    have hga:=h.gather (fun g'=>g'∈(some g:Option Nat).toList++[g2]) hd (a||a2) (i||i2) ie.size aj (l.take m++new) G (st.aJ ((d,.aO (a||a2) (i||i2) ie.size aj (l.take m++new) none)::kills ((some g:Option Nat).toList++[g2])) [d]) w' rfl (by simp [St.aJ,lookup_cons])
     (alq _) (alr _) (fun g hg=>by simp [St.aJ,hg]) (by simp [St.aJ]) (ad:=⟨b0,o0,none⟩) (c:=c') (ty:=e0) rfl rfl s2 (by rw [xK];simp only [G];omega) ⟨by rw [hlen];exact rO,by simp only [G];have:=z5.2;omega⟩ (fun x hx=>by
      rcases Xs.1 hx with hx | hx
      .exact z6 x (W8 hx)
      .exact hr2 x hx) (by
      show sub b0=none;cases hx:(gh g2).sub b0 with
      |some p=>exact (hn2 (.inr (by rw [hx];rfl))).elim
      |none=>simp only [sub,hx,y8];exact z7) (fun b hb=>by
      obtain ⟨g',q1,q2,q3⟩:=hsub b hb;exact ⟨⟨g',q1,q2,.inr q3⟩,abt g' q1 b q3⟩) (.inl ⟨g,by simp,hgo,Gh.jS z1⟩) (fun b _ hne=>s4 b hne) (by omega) s6 s7 s8
     (fun g' i1 hg' e1 hi=>by obtain ⟨_,_,a0,i0,l0,hq,hi0⟩:=hbS g' hg';rw [hq] at e1;cases e1;exact hi0 hi) (fun g' hg' _=>by obtain ⟨_,_,a0,i0,l0,hq,_⟩:=hbS g' hg';exact ⟨i0,by rw [hq];rfl⟩)
     (fun n x hx j y hy=>by
      rw [K2] at hx;split at hx
      .rename_i hn;have hnm:n<m:=by simp at hn;omega
       rw [Z2,if_pos hnm] at hx;obtain ⟨v,hv,hvr⟩:=z8 n x hx j y hy;have hj:j<ie.size:=by have:=(Q3.1 hy).1;have:=z6 x (XS hx);omega
       have:(n+1)*ie.size<=m*ie.size:=Z0 _ hnm;rw [W0,K1] at this;exact ⟨v,by rw [hget,dZ (by simp;omega),if_neg (by show ¬ (_/\_);simp only;omega)];simpa using hv,alp G rfl g rfl n j y v hvr⟩
      .rename_i hn;have hlm:(l.take m).length=m:=by simp;omega
       rw [hlm] at hx hn;obtain ⟨u,hu,hur⟩:=hcell2 _ x (by have:=(Q3.1 hx).1;omega) hx j y hy;have Ls:=(Q3.1 hu).1;have hnm:n*ie.size=m*ie.size+(n-m)*ie.size:=by rw [<-W0];congr 1;omega
       refine ⟨u,?_,?_⟩
       .have e1:o0+n*ie.size+j-(o0+m*ie.size)=(n-m)*ie.size+j:=by omega
        rw [hget,dZ (by simp;omega),if_pos (by simp only;omega),e1];exact hu
       .have:=alo G rfl (n-m) j y u hur;have e2:n-m+m=n:=by omega
        rw [e2] at this;exact this)
    refine ⟨_,w',_,kL h0 h1 hs hxt he hc2 rO (fun a ha => ?_) (fun hn=>by rw [z1] at hn;cases hn),hga.1,hga.2,by rw [hlen];simp [fE,G,z1]⟩;rw [z1] at ha;cases ha;rw [Addr.iD];simpa using s1
 .have hd1:=h.drew (w.drawn+1);have hl1:Lets E st st gh gh w { w with drawn:=w.drawn+1 }:=Rel.DR _;have apk:mW E st gh { w with drawn:=w.drawn+1 } a2 i2 ie.size aj new none (gh g2):=by have:=hd1.bg g2;rw [ho2] at this;exact this
  obtain ⟨c2,hc2,hl2,alu,hr2,hcell2⟩:=z_ (Pg:=Pg) apk new.length (Ys _);have hbase :∃c1:List Value,(Builtin.firstCells ie.size m (.slice bad m vO)).run Pg { w with drawn:=w.drawn+1 }=.ok c1.toArray { w with drawn:=w.drawn+1 }/\c1.length=m*ie.size/\(∀x∈old,x.length=ie.size)/\
    ∀(n:Nat) x,old[n]?=some x->∀(j:Nat) y,x[j]?=some y->∃u,c1[n*ie.size+j]?=some u/\∃g,base=some g/\iK E st gh { w with drawn:=w.drawn+1 } a i (gh g) aj none n j y u:=by
   rcases hb with ⟨rfl,rfl,rfl,rfl,rfl⟩ | ⟨g,l,rfl,hog,rfl,hbc,hm,rfl,alv⟩
   .exact ⟨[],by simp [Builtin.firstCells],by simp,by simp,by simp⟩
   .have hD:mW E st gh { w with drawn:=w.drawn+1 } a i ie.size aj l none (gh g):=by have:=hd1.bg g;rw [hog] at this;exact this
    obtain ⟨c1,k1,k2,k3,k4,k5⟩:=z_ (Pg:=Pg) hD m hm;rw [xM _ _ _ _ _ vO] at k1;refine ⟨c1,k1,k2,fun x hx=>k4 x (W8 hx),fun n x hx j y hy => ?_⟩;rw [Z2] at hx;split at hx
    .rename_i hn;obtain ⟨u,q1,q2⟩:=k5 n x hn hx j y hy;exact ⟨u,q1,g,rfl,q2⟩
    .cases hx
  obtain ⟨c1,hc1,abm,hr1,hcell1⟩:=hbase;have hback:Lets E st st gh gh { w with drawn:=w.drawn+1 } w:=⟨fun a i b hb=>⟨hb,rfl⟩,fun g _=>.inr ⟨⟨rfl,rfl⟩,O.fD _⟩⟩;obtain ⟨rest,newCap,k1,k2,k3⟩:=qF (ty:=ty) h0 h1 hs hxt he hc2 hc1 rO hbb hb0
  let G:Gh:=⟨some ⟨w.heap.size,0,none⟩,newCap,sub⟩
  have hga:=h.gather (fun g'=>g'∈base.toList++[g2]) hd (a||a2) (i||i2) ie.size aj (old++new) G (st.aJ ((d,.aO (a||a2) (i||i2) ie.size aj (old++new) none)::kills (base.toList++[g2])) [d])
   { w with drawn:=w.drawn+1,heap:=w.heap.push (.cells (c1.toArray++c2.toArray++rest) e) } rfl (by simp [St.aJ,lookup_cons])
   (alq _) (alr _) (fun g hg=>by simp [St.aJ,hg]) (by simp [St.aJ]) (ad:=⟨w.heap.size,0,none⟩) (c:=c1.toArray++c2.toArray++rest) (ty:=e) rfl rfl (by simp) (by
    simp only [vi,Kj,abm,hl2,k2,G];rw [<-W0,<-W0,WD];exact Z0 _ (by omega)) ⟨by rw [hlen];exact k1.1,k1.2⟩ (fun x hx=>by
    rcases Xs.1 hx with hx | hx
    .exact hr1 x hx
    .exact hr2 x hx) (by
    show sub w.heap.size=none;cases hx:sub w.heap.size with
    |none=>rfl
    |some p=>
     obtain ⟨g',q1,q2,q3⟩:=hsub w.heap.size (by rw [hx];rfl);have:=(h.wr g' _ q2 (.inr q3)).2;omega) (fun b hb=>by
    obtain ⟨g',q1,q2,q3⟩:=hsub b hb;exact ⟨⟨g',q1,q2,.inr q3⟩,abt g' q1 b q3⟩) (.inr ⟨Ys _,by simp⟩) (fun b hb _=>vG w _ b hb) (by simp) rfl rfl rfl
   (fun g' i1 hg' e1 hi=>by obtain ⟨_,_,a0,i0,l0,hq,hi0⟩:=hbS g' hg';rw [hq] at e1;cases e1;exact hi0 hi) (fun g' hg' _=>by obtain ⟨_,_,a0,i0,l0,hq,_⟩:=hbS g' hg';exact ⟨i0,by rw [hq];rfl⟩)
   (fun n x hx j y hy=>by
    rw [K2] at hx;split at hx
    .rename_i hn;obtain ⟨u,q1,g,q2,q3⟩:=hcell1 n x hx j y hy;have hlt:=(Q3.1 q1).1;refine ⟨u,?_,alp G rfl g q2 n j y u (hback.abd (fun _ _=>rfl) (fun g hg=>by cases hg) q3)⟩;rw [WD,JP (by simp;omega),JP (by simpa using hlt)];simpa using q1
    .rename_i hn;rw [hol] at hx hn;obtain ⟨u,hu,hur⟩:=hcell2 _ x (by have:=(Q3.1 hx).1;omega) hx j y hy;have Ls:=(Q3.1 hu).1;have hnm:n*ie.size=m*ie.size+(n-m)*ie.size:=by rw [<-W0];congr 1;omega
     refine ⟨u,?_,?_⟩
     .rw [WD,JP (by simp;omega),Array.getElem?_append_right (by simp;omega)];simp only [Kj,JS];have e1:n*ie.size+j-c1.length=(n-m)*ie.size+j:=by omega
      rw [e1];exact hu
     .have:=alo G rfl (n-m) j y u (hback.abd (fun _ _=>rfl) (fun g hg=>by cases hg) hur);have e2:n-m+m=n:=by omega
      rw [e2] at this;exact this)
  exact ⟨_,_,_,k3,hga.1,hga.2,by rw [hlen];simp [fE,G]⟩
theorem ng {o o':Nat->O} {g:Nat} (h:Agree o o' g):jI o g=jI o' g:=by
 obtain ⟨h1,h2⟩:=h;unfold jI;rw [<-h1];cases ho:o g with
 |aO a i sz aj l hole=>
  rcases hole with _ | ⟨n,c,d⟩
  .rfl
  .simp only;rw [h2 d (by rw [ho];simp [O.hn,dK])]
 |_=>rfl
theorem xP (htt:iC Pg tt) (h:Rel E st gh val w) {o:Oper} {ρ:Operand->Value} {s x:Operand} {ts:Array TypeId} (ho:o.op=.call { callee:=.builtin .append,args:=#[s,x],argTypes:=ts }) {d g2:Nat} (hd:st.used d=false)
  {sT xT e e':TypeId} {ie:TI} (h0:ts[0]?=some sT) (h1:ts[1]?=some xT) (hs:Pg.underlying sT=some (.slice e)) (hxt:Pg.underlying xT=some (.slice e')) (he:pU Pg e ie) (hb0:ie.bytes≠0)
  {a i a2 i2:Bool} {sz:Nat} {aj:List (Nat×Nat)} {old new:List (List P)} {base:Option Nat} {bad:Option Addr} {vO m:Nat} (hsz:sz=ie.size)
  {st1:St} {lH:Nat->Gh} (ks:List Nat) (h1':Rel E st1 lH val w) (l1:Lets E st st1 gh lH w w) (e1 :∀x,(lH x).ad=(gh x).ad/\(lH x).cap=(gh x).cap) (s1:st1.s=st.s) (u1 :∀x,st1.used x=st.used x)
  (hb:(base=none/\bad=none/\vO=0/\m=0/\old=[]/\ks=[])\/∃g l,base=some g/\st1.o g=.aO a i sz aj l none/\bad=(gh g).ad/\(m<=vO/\vO<=(gh g).cap)/\m<=l.length/\old=l.take m/\ks=g::(st.o g).hn)
  (ok1 :∀x∈ks,(∀g,base=some g->x≠g)->st1.o x=.none) (oo1 :∀x,x∉ks->st1.o x=st.o x) (hnd:(ks++g2::(st.o g2).hn).Nodup)
  (h2:jI st.o g2=some (a2,i2,sz,aj,new)) (hvs:ρ s=.slice bad m vO) (hvx:ρ x=.slice (gh g2).ad new.length (gh g2).cap) (hbb:(m+new.length)*ie.bytes<=140737488355328) :
  ∃v w' bM,Does Pg (execOp ρ o) w v w'/\Rel E (st.aJ ((d,.aO (a||a2) (i||i2) sz aj (old++new) none)::kills (ks++g2::(st.o g2).hn)) [d]) bM val w'/\
   Lets E st (st.aJ ((d,.aO (a||a2) (i||i2) sz aj (old++new) none)::kills (ks++g2::(st.o g2).hn)) [d]) gh bM w w'/\
   dI E (st.aJ ((d,.aO (a||a2) (i||i2) sz aj (old++new) none)::kills (ks++g2::(st.o g2).hn)) [d]) bM w' (.v (.one (.own d))) v/\
   ∀g∈(S.v (.one (.own d))).names,(st.aJ ((d,.aO (a||a2) (i||i2) sz aj (old++new) none)::kills (ks++g2::(st.o g2).hn)) [d]).used g=true:=by
 have hdis :∀x∈ks,x∉g2::(st.o g2).hn:=fun x hx hx'=>by
  have:=(List.nodup_append.1 hnd).2.2 x hx x hx';exact this rfl
 have hag:Agree st.o st1.o g2:=⟨(oo1 g2 fun hm=>hdis g2 hm (by simp)).symm,fun d' hd'=>(oo1 d' fun hm=>hdis d' hm (by simp [hd'])).symm⟩;have h2':jI st1.o g2=some (a2,i2,sz,aj,new):=by rw [<-ng hag];exact h2
 obtain ⟨st2,xJ,r2,l2,e2,s2,u2,o2,ok2,oo2⟩:=h1'.home h2';rw [<-hag.1] at ok2 oo2;have hb2:(base=none/\bad=none/\vO=0/\m=0/\old=[])\/∃g l,base=some g/\st2.o g=.aO a i sz aj l none/\bad=(xJ g).ad/\(m<=vO/\vO<=(xJ g).cap)/\m<=l.length/\old=l.take m/\g≠g2:=by
  rcases hb with ⟨q1,q2,q3,q4,q5,_⟩ | ⟨g,l,q1,q2,q3,q4,q5,q6,q7⟩
  .exact .inl ⟨q1,q2,q3,q4,q5⟩
  .have hgk:=hdis g (by rw [q7];simp);have hg2:g≠g2:=fun e=>hgk (by rw [e];simp);refine .inr ⟨g,l,q1,?_,by rw [(e2 g).1,(e1 g).1];exact q3,by rw [(e2 g).2,(e1 g).2];exact q4,q5,q6,hg2⟩;rw [oo2 g hg2 fun hm=>hgk (by simp [hm])];exact q2
 obtain ⟨v,w',bM,k1,k2,k3,k4⟩:=QB (d:=d) (ty:=o.type) r2 (by rw [u2,u1];exact hd) hb2 o2 h0 h1 hs hxt he hsz hbb hb0;have hst:st2.aJ ((d,.aO (a||a2) (i||i2) sz aj (old++new) none)::kills (base.toList++[g2])) [d]=st.aJ ((d,.aO (a||a2) (i||i2) sz aj (old++new) none)::kills (ks++g2::(st.o g2).hn)) [d]:=by
  refine St.DU (s2.trans s1) (fun z => ?_) (fun z=>by simp [St.aJ,u2,u1]);simp only [St.aJ,lookup_cons,iw];by_cases z1:z=d
  .simp only [if_pos z1]
  .simp only [if_neg z1];by_cases z2:z∈base.toList++[g2]
   .have:z∈ks++g2::(st.o g2).hn:=by
     rcases Xs.1 z2 with z2 | z2
     .rcases hb with ⟨q1,_⟩ | ⟨g,l,q1,_,_,_,_,_,q7⟩
      .rw [q1] at z2;simp at z2
      .rw [q1] at z2;simp at z2;subst z2;rw [q7];simp
     .simp at z2;subst z2;simp
    simp only [if_pos z2,if_pos this]
   .by_cases z3:z∈ks++g2::(st.o g2).hn
    .simp only [if_neg z2,if_pos z3];have hzg:z≠g2:=fun e=>z2 (by simp [e]);by_cases z4:z∈(st.o g2).hn
     .exact (ok2 z z4).1
     .rw [oo2 z hzg z4];rcases Xs.1 z3 with z5 | z5
      .exact ok1 z z5 fun g hg e=>z2 (by rw [hg,e];simp)
      .rcases QP.1 z5 with z5 | z5
       .exact absurd z5 hzg
       .exact absurd z5 z4
    .simp only [if_neg z2,if_neg z3];simp only [Xs,QP,not_or] at z3;rw [oo2 z z3.2.1 z3.2.2,oo1 z z3.1]
 rw [hst] at k2 k3;have hod:(st.aJ ((d,.aO (a||a2) (i||i2) sz aj (old++new) none)::kills (ks++g2::(st.o g2).hn)) [d]).o d=.aO (a||a2) (i||i2) sz aj (old++new) none:=by simp [St.aJ,lookup_cons]
 refine ⟨v,w',bM,.inl (jv ho ?_),k2,Lets.trans (Lets.trans l1 l2 (fun g hg=>by rw [u1];exact hg)) k3 (fun g hg=>by rw [u2,u1];exact hg),dI.H6 (.own d v (by rw [k4];rfl) fun sz1 len1 ho1 => ?_),fun g hg => ?_⟩
 .rw [(e2 g2).1,(e1 g2).1,(e2 g2).2,(e1 g2).2] at k1;simp [builtin,hvs,hvx,k1]
 .rw [hod] at ho1;simp only [O.dim,Q0,Q1] at ho1;obtain ⟨_,rfl⟩:=ho1;exact k4
 .rw [dR] at hg;simp only [W.names,Qt] at hg;subst hg;simp [St.aJ]
theorem KN {dc:List (Nat×Nat)} (htt:iC Pg tt) (args:Array Operand) (ts:Array TypeId):qG Pg tt dc (.call { callee:=.builtin .append,args:=args,argTypes:=ts }):=by
 intro E st gh val w ρ F o d r ho h hF hFn hk hp hd;simp only [dW] at hk;split at hk
 .rename_i s x sT xT tl ha hts;obtain rfl:=vH ha;have h0:ts[0]?=some sT:=by rw [<-Wo,hts];rfl
  have h1:ts[1]?=some xT:=by rw [<-Wo,hts];rfl
  split at hk
  .rename_i e _ _ _ e' _ _ _ s' g2 hsT hxT hs hx;have rs:=hF s;rw [hs] at rs;have rx:=hF x;rw [hx] at rx;have huS:=(htt _ _ hsT).kind;have huX:=(htt _ _ hxT).kind;simp only [oD] at huS huX;split at hk
   .rename_i ie ask a i old ks src a2 i2 sz aj new he hbD hh2;split at hk
    .rename_i hc;obtain ⟨hb0,hsz,hsrc,hnd⟩:=hc;have hnd:=rQ hnd;simp only [Q0] at hk;subst hk;obtain ⟨hask,hbb⟩:=hp;have Gz:st.used d=false:=hd d (by simp);have hvx:ρ x=.slice (gh g2).ad new.length (gh g2).cap:=by cases rx.dH with | own _ _ _ hb=>exact hb _ _ (oG hh2)
     have refl:Lets E st st gh gh w w:=⟨fun a i b hb=>⟨hb,rfl⟩,fun g _=>.inr ⟨⟨rfl,rfl⟩,O.fD _⟩⟩;cases s' with
     |dF=>
      simp only [baseD,Q0,Q1] at hbD;obtain ⟨rfl,rfl,rfl,rfl,rfl,rfl⟩:=hbD;have hv:ρ s=.slice none 0 0:=by generalize hz:ρ s=z at rs;cases rs.dH;rfl
      exact xP htt h ho Gz h0 h1 huS huX (htt _ _ he) hb0 (base:=none) (bad:=none) (vO:=0) (m:=0) hsz [] h refl (fun _=>⟨rfl,rfl⟩) rfl (fun _=>rfl) (.inl ⟨rfl,rfl,rfl,rfl,rfl,rfl⟩) (fun x hx=>by cases hx) (fun _ _=>rfl) hnd hh2 hv hvx (by simpa using hbb)
     |own g=>
      simp only [baseD] at hbD;split at hbD
      .rename_i a0 i0 Ac kQ l0 hh;simp only [Q0,Q1] at hbD;obtain ⟨rfl,rfl,rfl,rfl,rfl,rfl⟩:=hbD;have hsc:Ac=sz/\kQ=aj:=by rcases hsrc with e | e;cases e;simpa using e
       obtain ⟨rfl,rfl⟩:=hsc;obtain ⟨st1,lH,r1,l1,e1,s1,u1,o1,ok1,oo1⟩:=h.home hh;have hv:ρ s=.slice (gh g).ad l0.length (gh g).cap:=by cases rs.dH with | own _ _ _ hb=>exact hb _ _ (oG hh)
       exact xP htt h ho Gz h0 h1 huS huX (htt _ _ he) hb0 (base:=some g) hsz (g::(st.o g).hn) r1 l1 e1 s1 u1 (.inr ⟨g,l0,rfl,o1,rfl,⟨(vI (h.bg g) (oG hh)).1,Ys _⟩,Ys _,by rw [JN],rfl⟩)
        (fun x hx hxg=>by
         rcases QP.1 hx with e | e
         .exact absurd e (hxg g rfl)
         .exact (ok1 x e).1)
        (fun x hx=>by simp only [QP,not_or] at hx;exact oo1 x hx.1 hx.2) hnd hh2 hv hvx hbb
      .cases hbD
     |vw g lo hi=>
      simp only [baseD] at hbD;split at hbD
      .rename_i a0 i0 Ac kQ l0 hh;simp only [Q0,Q1] at hbD;obtain ⟨rfl,rfl,rfl,rfl,rfl,rfl⟩:=hbD;have hsc:Ac=sz/\kQ=aj:=by rcases hsrc with e | e;cases e;simpa using e
       obtain ⟨rfl,rfl⟩:=hsc;obtain ⟨st1,lH,r1,l1,e1,s1,u1,o1,ok1,oo1⟩:=h.home hh;obtain ⟨n,m,vc,h4,rfl,h5,h6,hvc,hv⟩:=(by cases rs.dH with | vw _ _ _ _ _ hb=>exact hb _ _ (oG hh) :∃n m c:Nat,lo=.int .i64 n/\hi=.int .i64 m/\n<=m/\m<=l0.length/\(m-n<=c/\n+c<=(gh g).cap)/\
        ρ s=.slice (if (gh g).cap=n then (gh g).ad else (gh g).ad.map (·.add (n*Ac))) (m-n) c)
       have hn0:n=0:=by rw [hask] at h4;simp [lY] at h4;omega
       subst hn0;have hadd:(gh g).ad.map (·.add (0*Ac))=(gh g).ad:=by
        cases (gh g).ad with
        |none=>rfl
        |some a=>simp [Addr.add]
       rw [hadd] at hv;simp only [ite_self,Nat.sub_zero] at hv;have em:(P.int .i64 (m:Int)).nat=m:=by simp [P.nat,P.num]
       rw [em] at hbb ⊢;have apl:(m+new.length)*ie.bytes<=140737488355328:=by rw [UP,vn h6] at hbb;exact hbb
       exact xP htt h ho Gz h0 h1 huS huX (htt _ _ he) hb0 (base:=some g) hsz (g::(st.o g).hn) r1 l1 e1 s1 u1 (.inr ⟨g,l0,rfl,o1,rfl,by omega,h6,rfl,rfl⟩)
        (fun x hx hxg=>by
         rcases QP.1 hx with e | e
         .exact absurd e (hxg g rfl)
         .exact (ok1 x e).1)
        (fun x hx=>by simp only [QP,not_or] at hx;exact oo1 x hx.1 hx.2) hnd hh2 hv hvx apl
      .cases hbD
     |_=>simp [baseD] at hbD
    .cases hk
   .cases hk
  .cases hk
 .cases hk
theorem N_ {dc:List (Nat×Nat)} (htt:iC Pg tt) (t:TypeId) (x:Operand) (lo hi mx:Option Operand):qG Pg tt dc (.slice t x lo hi mx):=by
 intro E st gh val w ρ F o d r ho h hF hFn hk hp hd;cases lo with
 |some _=>simp [dW] at hk
 |none=>
 cases mx with
 |some _=>simp [dW] at hk
 |none=>
 simp only [dW] at hk;split at hk
 .rename_i e _ _ _ g ht hx;have rx:=hF x;rw [hx] at rx;have hu:=(htt _ _ ht).kind;simp only [oD] at hu;split at hk
  .rename_i ie a i sz l he hog;split at hk
   .rename_i hsz;split at hk
    .rename_i hi' hhi;simp only [Q0] at hk;subst hk;obtain ⟨k,hk,hkl⟩:=hp;have hd:=hd d (by simp);have Qz:(st.o g).dim=some (sz,l.length):=by rw [hog];rfl
     have hv:=(by cases rx.dH with | own _ _ _ hb=>exact hb _ _ Qz:ρ x=.slice (gh g).ad l.length (gh g).cap);have hob:=h.bg g;rw [hog] at hob;have hcap:l.length<=(gh g).cap:=NP hob;have zZ:(hi.map ρ=none/\k=l.length)\/∃kd,hi.map ρ=some (.int kd k):=(iP hF hhi hk).imp (fun ⟨a,b⟩=>⟨a,by simp [lY] at b;omega⟩) id;have hrun:(execOp ρ o).run Pg w=.ok (.value (.slice (gh g).ad k (gh g).cap)) w:=by
      have hs:=t_ (Pg:=Pg) (w:=w) (len:=l.length) (lo:=(none:Option Value)) (hi:=hi.map ρ) (m:=0) (k:=k) (cap:=(gh g).cap) (.inl ⟨rfl,rfl⟩) zZ (Nat.zero_le _) (by omega);have key:(execOp ρ o).run Pg w=.ok (.value (.slice (if (gh g).cap=0 then (gh g).ad else (gh g).ad.map (·.add (0*ie.size))) (k-0) ((gh g).cap-0))) w:=by
       unfold execOp;rw [ho];refine gQ ?_;simp only [Kf];simp [Instr.sliceAt,eF hu,Instr.slice,hv,hs,dY (htt _ _ he)]
      rw [key];congr 3;rcases hob with ⟨q1,q2,_⟩ | ⟨ad,c,e',q1,q2,_⟩
      .rw [q1,q2];rfl
      .rw [q1];obtain ⟨b0,o0,sp0⟩:=ad;simp only at q2;subst q2;split
       .rfl
       .rw [Z3,Addr.iD];simp
     have hgo:(st.o g).bP=true:=by rw [hog];rfl
     have hgu:st.used g=true:=h.ul g (O.qB hgo);have hgd:g≠d:=by intro e;subst e;rw [hd] at hgu;cases hgu
     have e0:(P.list (P.sl sz (l.take hi'.nat)))=l.take k:=by rw [hk];simp [P.list,P.nat,P.num]
     have apm :∀st',st'=st.aJ [(d,.arr false a i sz (l.take k)),(g,.none)] [d]->
       ∃bM,Rel E st' bM val w/\Lets E st st' gh bM w w/\dI E st' bM w (.v (.one (.own d))) (.slice (gh g).ad k (gh g).cap):=by
      intro st' hst;have hod:st'.o d=.arr false a i sz (l.take k):=by rw [hst];simp [St.aJ,List.lookup]
      have hm:=h.merge (fun g'=>g'=g) d (.arr false a i sz (l.take k)) (gh g) st' w (by rw [hst];rfl) hod (fun g' e1 e2=>by
        rw [hst,e1];have:(g==d)=false:=by simpa using hgd
        simp [St.aJ,List.lookup,this]) (fun g' e1 e2=>by
        rw [hst];have q1:(g'==d)=false:=by simpa using e2
        have q2:(g'==g)=false:=by simpa using e1
        simp [St.aJ,List.lookup,q1,q2]) (fun g' hg'=>by rw [hst];simp [St.aJ,hg']) (by rw [hst];simp [St.aJ]) (fun hu=>by rw [hd] at hu;cases hu)
       (fun b hb=>.inl ⟨g,.inl rfl,hgo,hb⟩) (fun b _ _=>rfl) (Ys _) rfl rfl rfl
       (fun i1 b e1 hb hwr=>by cases e1;exact h.wi g i b (by rw [hog];rfl) hb hwr) (fun _ _=>h.ns g hgo (by rw [hog];rfl)) (fun hl => ?_) (fun g' hg'=>by simp [O.names] at hg')
      .refine ⟨_,hm.1,hm.2,dI.H6 (.own d _ rfl fun sz' len' hd' => ?_)⟩;rw [hod] at hd';obtain ⟨rfl,rfl⟩:=O.j_ hd';have e1:fE gh d (gh g) d=gh g:=by simp [fE]
       rw [e1,UP,vn hkl]
      .show iI E st' _ w a i sz (l.take k) (gh g);have hold:iI E st gh w a i sz l (gh g):=hob;rcases hold with ⟨q1,q2,q3⟩ | ⟨ad,c,e',q1,q2,q3,q4,q5,q6,q7⟩
       .exact .inl ⟨q1,q2,by rw [q3];simp⟩
       .refine .inr ⟨ad,c,e',q1,q2,q3,q4,⟨by rw [UP];omega,q5.2⟩,fun x hx=>q6 x (W8 hx),fun n x hx j y hy => ?_⟩;rw [Z2] at hx;split at hx
        .obtain ⟨v,hv,hr⟩:=q7 n x hx j y hy;exact ⟨v,hv,hl.kP hr⟩
        .cases hx
     show∃v w' bM,Does Pg (execOp ρ o) w v w'/\Rel E (st.aJ [(d,.arr false a i sz (P.list (P.sl sz (l.take hi'.nat)))),(g,.none)] [d]) bM val w'/\_;rw [e0];obtain ⟨bM,m1,m2,m3⟩:=apm _ rfl;refine ⟨_,w,bM,.inl hrun,m1,?_,?_,fun g' hg' => ?_⟩
     .show Lets E st (st.aJ [(d,.arr false a i sz (P.list (P.sl sz (l.take hi'.nat)))),(g,.none)] [d]) gh bM w w;rw [e0];exact m2
     .show dI E (st.aJ [(d,.arr false a i sz (P.list (P.sl sz (l.take hi'.nat)))),(g,.none)] [d]) bM w _ _;rw [e0];exact m3
     .have hg':g'∈(S.v (.one (.own d))).names:=hg';have:g'=d:=by simpa [S.names,V.names,W.names] using hg'
      subst this;simp [St.aJ]
    .cases hk
   .cases hk
  .cases hk
 .cases hk
theorem KO {dc:List (Nat×Nat)} (htt:iC Pg tt) (op:Op):qG Pg tt dc op:=by
 cases op with
 |load t x=>exact QA htt t x
 |store t x y=>exact N9 htt t x y
 |buildSlice t n ps=>exact BN htt t n ps
 |makeSlice t n c=>exact DV htt t n c
 |slice t x lo hi mx=>exact N_ htt t x lo hi mx
 |call c=>
  obtain ⟨callee,args,ts⟩:=c;cases callee with
  |builtin b=>
   cases b with
   |append=>exact KN htt args ts
   |_=>intro E st gh val w ρ F o d r ho h hF hFn hk;simp [dW] at hk
  |_=>intro E st gh val w ρ F o d r ho h hF hFn hk;simp [dW] at hk
 |_=>intro E st gh val w ρ F o d r ho h hF hFn hk;simp [dW] at hk
end
end Go.Fw

namespace Go.Fw
variable [eP]
def P.flat:P->Bool
 |.sl _ _=>false
 |.seq _=>false
 |_=>true
theorem dh.flat {w:World} {ok ok':Nat->Prop} {x:P} {v:Value} (hx:x.flat=true) (r:dh w ok x v):dh w ok' x v:=by
 cases r with
 |int k n=>exact .int k n
 |bool b=>exact .bool b
 |str s=>exact .str s
 |opq v h=>exact .opq v h
 |_=>cases hx
inductive Ww (C:Bool->Bool->Bool->Bool->Prop) (m:Nat->Option Nat) (nil:Nat->Prop):W->W->Prop where
 |no (x:W):Ww C m nil x .no
 |p {a i a' i':Bool} (x:P) (hc:C a i a' i'):Ww C m nil (.p a i x) (.p a' i' x)
 |flat {a i a' i':Bool} (x:P) (hx:x.flat=true):Ww C m nil (.p a i x) (.p a' i' x)
 |dF:Ww C m nil .dF .dF
 |ai9 (a i:Bool) (sz:Nat):Ww C m nil .dF (.p a i (.sl sz []))
 |alx {g':Nat} (h:m g'=none) (hn:nil g'):Ww C m nil .dF (.own g')
 |own {g g':Nat} (h:m g'=some g):Ww C m nil (.own g) (.own g')
 |vw {g g':Nat} (lo hi:P) (h:m g'=some g):Ww C m nil (.vw g lo hi) (.vw g' lo hi)
 |box {g g' off:Nat} (h:m g'=some g):Ww C m nil (.box g off) (.box g' off)
 |ep {g g':Nat} (n:P) (off:Nat) (h:m g'=some g):Ww C m nil (.ep g n off) (.ep g' n off)
 |nH {g g':Nat} (h:m g'=some g):Ww C m nil (.nH g) (.nH g')
 |sp {a i a' i':Bool} (row:List P) (off:Nat) (hc:C a i a' i'):Ww C m nil (.sp a i row off) (.sp a' i' row off)
 |gd (b:Bool) {x y:W} (h:Ww C m nil x y):Ww C m nil (.gd b x) (.gd b y)
 |clo (f:FuncId) (xs ys:List W) (hl:xs.length=ys.length) (h :∀(j:Nat) x y,xs[j]?=some x->ys[j]?=some y->Ww C m nil x y):Ww C m nil (.clo f xs) (.clo f ys)
inductive Vw (C:Bool->Bool->Bool->Bool->Prop) (m:Nat->Option Nat) (nil:Nat->Prop):V->V->Prop where
 |one {x y:W} (h:Ww C m nil x y):Vw C m nil (.one x) (.one y)
 |agg (xs ys:List W) (hl:xs.length=ys.length) (h :∀(j:Nat) x y,xs[j]?=some x->ys[j]?=some y->Ww C m nil x y):Vw C m nil (.agg xs) (.agg ys)
inductive Sw (C:Bool->Bool->Bool->Bool->Prop) (m:Nat->Option Nat) (nil:Nat->Prop):S->S->Prop where
 |no (x:S):Sw C m nil x .no
 |v {x y:V} (h:Vw C m nil x y):Sw C m nil (.v x) (.v y)
 |jM (xs ys:List V) (hl:xs.length=ys.length) (h :∀(j:Nat) x y,xs[j]?=some x->ys[j]?=some y->Vw C m nil x y):Sw C m nil (.jM xs) (.jM ys)
inductive Ow (C:Bool->Bool->Bool->Bool->Prop) (m:Nat->Option Nat) (nil:Nat->Prop):O->O->Prop where
 |none (x:O):Ow C m nil x .none
 |box (xs ys:List W) (hl:xs.length=ys.length) (h :∀(j:Nat) x y,xs[j]?=some x->ys[j]?=some y->Ww C m nil x y):Ow C m nil (.box xs) (.box ys)
 |arr (fz:Bool) {a i a' i':Bool} (sz:Nat) (l:List (List P)) (hc:C a i a' i'):Ow C m nil (.arr fz a i sz l) (.arr fz a' i' sz l)
 |aO {a i a' i':Bool} (sz:Nat) (aj:List (Nat×Nat)) (l:List (List P)) (hc:C a i a' i'):Ow C m nil (.aO a i sz aj l Option.none) (.aO a' i' sz aj l Option.none)
 |it (s n:P):Ow C m nil (.it s n) (.it s n)
def O.nilA (o:O):Prop:=(∃a i sz,o=.arr false a i sz [])\/∃a i sz aj,o=.aO a i sz aj [] Option.none
theorem Ow.dim {C:Bool->Bool->Bool->Bool->Prop} {m:Nat->Option Nat} {nil:Nat->Prop} {x y:O} (h:Ow C m nil x y) {d:Nat×Nat} (hd:y.dim=some d):x.dim=some d:=by
 cases h with
 |none=>cases hd
 |box=>cases hd
 |arr=>exact hd
 |aO=>exact hd
 |it=>cases hd
theorem Ow.bP {C:Bool->Bool->Bool->Bool->Prop} {m:Nat->Option Nat} {nil:Nat->Prop} {x y:O} (h:Ow C m nil x y) (hy:y.bP=true):x.bP=true/\x.oz=y.oz:=by
 cases h with
 |none=>cases hy
 |box=>exact ⟨rfl,rfl⟩
 |arr=>exact ⟨hy,rfl⟩
 |aO=>exact ⟨rfl,rfl⟩
 |it=>exact ⟨rfl,rfl⟩
theorem Ow.inner {C:Bool->Bool->Bool->Bool->Prop} {m:Nat->Option Nat} {nil:Nat->Prop} {x y:O} (h:Ow C m nil x y) {i:Bool} (hy:y.inner=some i) :∃a' a i',C a' i' a i/\x.inner=some i':=by
 cases h with
 |none=>cases hy
 |box=>cases hy
 |arr fz sz l hc=>
  cases fz with
  |false=>cases hy;exact ⟨_,_,_,hc,rfl⟩
  |true=>cases hy
 |aO sz aj l hc=>cases hy;exact ⟨_,_,_,hc,rfl⟩
 |it=>cases hy
structure Cast (C:Bool->Bool->Bool->Bool->Prop) (m:Nat->Option Nat) (nil:Nat->Prop) (E E':Env) (st st':St) (gh bM:Nat->Gh) (w:World):Prop where
 ok :∀a i a' i' b,C a i a' i'->E.ok st gh w a i b->E'.ok st' bM w a' i' b
 arr :∀g g',m g'=some g->∀sz len,(st'.o g').dim=some (sz,len)->((bM g').ad=(gh g).ad/\(bM g').cap=(gh g).cap)/\(st.o g).dim=some (sz,len)
 box :∀g g',m g'=some g->∀ws,st'.o g'=.box ws->(bM g').ad=(gh g).ad/\∃ws',st.o g=.box ws'
 it :∀g g',m g'=some g->∀s n,st'.o g'=.it s n->(bM g').ad=(gh g).ad/\∃s' n',st.o g=.it s' n'
 nil :∀g',nil g'->m g'=none->∀sz len,(st'.o g').dim=some (sz,len)->len=0/\(bM g').ad=none/\(bM g').cap=0
section
variable {C:Bool->Bool->Bool->Bool->Prop} {E E':Env} {st st':St} {gh bM:Nat->Gh} {w:World} {val:Nat->Value} {m:Nat->Option Nat} {nil:Nat->Prop}
theorem Cast.kP (r:Cast C m nil E E' st st' gh bM w) {a i a' i':Bool} (hc:C a i a' i') {x:P} {v:Value} (h:dh w (E.ok st gh w a i) x v):dh w (E'.ok st' bM w a' i') x v:=
 h.mono fun b hb=>⟨r.ok _ _ _ _ b hc hb,rfl⟩
theorem Cast.zU (r:Cast C m nil E E' st st' gh bM w) {x y:W} (hxy:Ww C m nil x y) {v:Value} (h:fB E st gh w x v):fB E' st' bM w y v:=by
 induction hxy generalizing v with
 |no x=>exact .no v
 |p x hc=>cases h with | p _ _ _ _ h=>exact .p _ _ _ _ (r.kP hc h)
 |flat x hx=>cases h with | p _ _ _ _ h=>exact .p _ _ _ _ (h.flat hx)
 |dF=>cases h;exact .dF
 |ai9 a i sz=>cases h;exact .p _ _ _ _ (.nil _ _ _)
 |alx hm hn=>
  cases h;refine .own _ _ rfl fun sz len ho => ?_;obtain ⟨h1,h2,h3⟩:=r.nil _ hn hm _ _ ho;rw [h1,h2,h3]
 |own hm=>
  cases h with | own _ _ hv hx=>
  refine .own _ _ hv fun sz len ho => ?_;obtain ⟨hg,e⟩:=r.arr _ _ hm _ _ ho;rw [hg.1,hg.2];exact hx _ _ e
 |vw lo hi hm=>
  cases h with | vw _ _ _ _ hv hx=>
  refine .vw _ _ _ _ hv fun sz len ho => ?_;obtain ⟨hg,e⟩:=r.arr _ _ hm _ _ ho;rw [hg.1,hg.2];exact hx _ _ e
 |box hm=>
  cases h with | box _ _ _ hv hx=>
  refine .box _ _ _ hv fun ws ho => ?_;obtain ⟨hg,ws',e⟩:=r.box _ _ hm _ ho;rw [hg];exact hx _ e
 |ep n off hm=>
  cases h with | ep _ _ _ _ hv hx=>
  refine .ep _ _ _ _ hv fun sz len ho => ?_;obtain ⟨hg,e⟩:=r.arr _ _ hm _ _ ho;rw [hg.1];exact hx _ _ e
 |nH hm=>
  cases h with | nH _ _ hv hx=>
  refine .nH _ _ hv fun s n ho => ?_;obtain ⟨hg,s',n',e⟩:=r.it _ _ hm _ _ ho;rw [hg];exact hx _ _ e
 |sp row off hc=>
  cases h with | sp _ _ _ _ b o hb hr=>exact .sp _ _ _ _ b o (fun h0=>r.ok _ _ _ _ b hc (hb h0)) fun j y hj=>let ⟨u,hu,Qw⟩:=hr j y hj;⟨u,hu,r.kP hc Qw⟩
 |gd b hxy ih=>cases h with | gd _ _ _ h=>exact .gd _ _ _ fun hb=>ih (h hb)
 |clo f xs ys hl hxy ih=>
  cases h with | clo _ _ vs hl' h=>
  exact .clo f ys vs (by omega) fun j y v hy hv=>by
   have hlt:j<xs.length:=by have:=(Q3.1 hy).1;omega
   exact ih j _ y (Q2 hlt) hy (h j _ v (Q2 hlt) hv)
theorem Cast.Y1 (r:Cast C m nil E E' st st' gh bM w) {x y:V} (hxy:Vw C m nil x y) {v:Value} (h:rF E st gh w x v):rF E' st' bM w y v:=by
 cases hxy with
 |one hxy=>cases h with | one _ _ h=>exact .one _ _ (r.zU hxy h)
 |agg xs ys hl hxy=>
  cases h with | agg _ cs hl' hv h=>
  exact .agg ys cs (by omega) hv fun j y v hy hv=>by
   have hlt:j<xs.length:=by have:=(Q3.1 hy).1;omega
   exact r.zU (hxy j _ y (Q2 hlt) hy) (h j _ v (Q2 hlt) hv)
theorem Cast.afb (r:Cast C m nil E E' st st' gh bM w) {x y:S} (hxy:Sw C m nil x y) {v:Value} (h:dI E st gh w x v):dI E' st' bM w y v:=by
 cases hxy with
 |no x=>exact .no v
 |v hxy=>cases h with | v _ _ h=>exact .v _ _ (r.Y1 hxy h)
 |jM xs ys hl hxy=>
  cases h with | jM _ vs hl' h=>
  exact .jM ys vs (by omega) fun j y v hy hv=>by
   have hlt:j<xs.length:=by have:=(Q3.1 hy).1;omega
   exact r.Y1 (hxy j _ y (Q2 hlt) hy) (h j _ v (Q2 hlt) hv)
theorem Cast.Bv (r:Cast C m nil E E' st st' gh bM w) {x y:O} (hxy:Ow C m nil x y) {G:Gh} (h:lU E st gh w x G):lU E' st' bM w y G:=by
 cases hxy with
 |none x=>trivial
 |box xs ys hl hxy=>
  obtain ⟨ad,c,e,h1,h2,h3,h4,h5⟩:=h;refine ⟨ad,c,e,h1,h2,h3,by omega,fun j y hy => ?_⟩;have hlt:j<xs.length:=by have:=(Q3.1 hy).1;omega
  obtain ⟨v,hv,ho,hr⟩:=h5 j _ (Q2 hlt);exact ⟨v,hv,ho,r.zU (hxy j _ y (Q2 hlt) hy) hr⟩
 |arr fz sz l hc=>
  cases fz with
  |false=>
   rcases h with hO | ⟨ad,c,e,h1,h2,h3,h4,h5,h6,h7⟩
   .exact .inl hO
   .exact .inr ⟨ad,c,e,h1,h2,h3,h4,h5,h6,fun n x hx j y hy=>let ⟨v,hv,hr⟩:=h7 n x hx j y hy;⟨v,hv,r.kP hc hr⟩⟩
  |true=>exact r.kP hc h
 |aO sz aj l hc=>
  rcases h with hO | ⟨ad,c,e,h1,h2,h3,h4,h5,h6,h7,h8⟩
  .exact .inl hO
  .refine .inr ⟨ad,c,e,h1,h2,h3,h4,h5,h6,h7,fun n x hx j y hy => ?_⟩;obtain ⟨v,hv,hr⟩:=h8 n x hx j y hy;refine ⟨v,hv,?_⟩;unfold iK at *;cases hcl:aj.lookup j with
   |none=>rw [hcl] at hr;exact r.kP hc hr
   |some sz'=>
    rw [hcl] at hr;simp only [gZ] at *;obtain ⟨l',ao,k,k1,k2,k3,k4⟩:=hr;refine ⟨l',ao,k,k1,k2,?_,k4⟩;rcases k3 with k3 | ⟨ad,c,e,h1,h2,h3,h4,h5,h6,h7⟩
    .exact .inl k3
    .exact .inr ⟨ad,c,e,h1,h2,h3,h4,h5,h6,fun n x hx j y hy=>let ⟨v,hv,hr⟩:=h7 n x hx j y hy;⟨v,hv,r.kP hc hr⟩⟩
 |it s n=>exact h
end
def Cle (a i a' i':Bool):Prop:=(a=true->a'=true)/\(i=true->i'=true)
structure sS (C:Bool->Bool->Bool->Bool->Prop) (m:Nat->Option Nat) (st st':St):Prop where
 slots :∀t,Sw C m (fun g=>(st'.o g).nilA) (st.s t) (st'.s t)
 bg :∀g' g,m g'=some g->Ow C m (fun g=>(st'.o g).nilA) (st.o g) (st'.o g')
 aV :∀g',m g'=none->st'.o g'=.none\/(st'.o g').nilA
 inj :∀g1 g2 g,(st'.o g1).bP=true->(st'.o g2).bP=true->m g1=some g->m g2=some g->g1=g2
 us :∀t,∀g∈(st'.s t).names,st'.used g=true
 uo :∀g,∀g'∈(st'.o g).names,st'.used g'=true
 ul :∀g,st'.o g≠.none->st'.used g=true
section
variable {C:Bool->Bool->Bool->Bool->Prop} {E E':Env} {st st':St} {gh:Nat->Gh} {w:World} {val:Nat->Value} {m:Nat->Option Nat}
def jF (gh:Nat->Gh) (m:Nat->Option Nat):Nat->Gh:=fun g'=>match m g' with
 |some g=>gh g
 |none=>Gh.nil
theorem sS.bP (r:sS C m st st') {g':Nat} (h:(st'.o g').bP=true) {b:Nat} (had:(jF gh m g').has b) :∃g,m g'=some g/\(st.o g).bP=true/\(gh g).has b:=by
 unfold jF at had;cases hm:m g' with
 |none=>rw [hm] at had;exact (Gh.not_nil had).elim
 |some g=>
  rw [hm] at had;exact ⟨g,rfl,((r.bg g' g hm).bP h).1,had⟩
theorem sS.cast (r:sS C m st st') (hok :∀a i a' i' b,C a i a' i'->E.ok st gh w a i b->E'.ok st' (jF gh m) w a' i' b) :
  Cast C m (fun g=>(st'.o g).nilA) E E' st st' gh (jF gh m) w:=by
 refine ⟨hok,fun g g' hm sz len ho=>⟨by simp [jF,hm],(r.bg g' g hm).dim ho⟩,fun g g' hm ws ho=>⟨by simp [jF,hm],?_⟩,fun g g' hm s n ho=>⟨by simp [jF,hm],?_⟩,fun g' hn hm sz len ho=>⟨?_,by simp [jF,hm,Gh.nil],by simp [jF,hm,Gh.nil]⟩⟩
 .have:=r.bg g' g hm;rw [ho] at this;generalize st.o g=x at this;cases this;exact ⟨_,rfl⟩
 .have:=r.bg g' g hm;rw [ho] at this;generalize st.o g=x at this;cases this;exact ⟨_,_,rfl⟩
 .rcases hn with ⟨a',i',sz',hn⟩ | ⟨a',i',sz',aj,hn⟩
  .rw [hn] at ho;cases ho;rfl
  .rw [hn] at ho;cases ho;rfl
theorem sS.ok (r:sS Cle m st st') :∀a i a' i' b,Cle a i a' i'->E.ok st gh w a i b->E.ok st' (jF gh m) w a' i' b:=by
 intro a i a' i' b hc h;have:=Env.pq hc.1 hc.2 h;refine ⟨this.1,this.2.1,fun g' ho had => ?_⟩;obtain ⟨g,_,h1,h2⟩:=r.bP ho had;exact h.2.2 g h1 h2
theorem sS.Bv (r:sS C m st st') (c:Cast C m (fun g=>(st'.o g).nilA) E E' st st' gh (jF gh m) w) (h :∀g,lU E st gh w (st.o g) (gh g)) (g':Nat):lU E' st' (jF gh m) w (st'.o g') (jF gh m g'):=by
 cases hm:m g' with
 |none=>
  rcases r.aV g' hm with e | ⟨a,i,sz,e⟩ | ⟨a,i,sz,aj,e⟩
  .rw [e];trivial
  .rw [e];exact .inl ⟨by simp [jF,hm,Gh.nil],by simp [jF,hm,Gh.nil],rfl⟩
  .rw [e];exact .inl ⟨by simp [jF,hm,Gh.nil],by simp [jF,hm,Gh.nil],rfl,fun b=>by simp [jF,hm,Gh.nil]⟩
 |some g=>
  have hg:jF gh m g'=gh g:=by simp [jF,hm]
  rw [hg];exact c.Bv (r.bg g' g hm) (h g)
theorem Rel.UL (h:Rel E st gh val w) (r:sS Cle m st st'):Rel E st' (jF gh m) val w:=by
 have c:=r.cast (E:=E) (E':=E) (gh:=gh) (w:=w) r.ok;refine ⟨fun t=>c.afb (r.slots t) (h.slots t),r.Bv c h.bg,fun g1 g2 b h1 h2 k1 k2 => ?_,fun g' b ho had => ?_,fun g' i b ho had hw => ?_,fun g' ho hd b => ?_,h.wb,h.frame,h.size,h.os,h.tape,h.output,r.us,r.uo,r.ul⟩
 .obtain ⟨q1,m1,o1,d1⟩:=r.bP h1 k1;obtain ⟨q2,m2,o2,d2⟩:=r.bP h2 k2;have:=h.inj q1 q2 b o1 o2 d1 d2;subst this;exact r.inj g1 g2 q1 h1 h2 m1 m2
 .obtain ⟨g,_,h1,h2⟩:=r.bP ho had;exact h.wr g b h1 h2
 .obtain ⟨g,hm,h1,h2⟩:=r.bP (gh:=gh) (g':=g') (O.kV ho) had;obtain ⟨a',a,i',hc,q⟩:=(r.bg g' g hm).inner ho;exact hc.2 (h.wi g i' b q h2 hw)
 .cases hm:m g' with
  |none=>simp [jF,hm,Gh.nil]
  |some g=>
   have hg:jF gh m g'=gh g:=by simp [jF,hm]
   rw [hg];obtain ⟨q1,q2⟩:=(r.bg g' g hm).bP ho;exact h.ns g q1 (by rw [q2];exact hd) b
end
end Go.Fw

namespace Go.Fw
variable [eP]
inductive WS where
 |p (a i:Bool)
 |dF
 |own (g:Nat)
 |box (g off:Nat)
 |fn (f:FuncId) (gs:List Nat)
 |nH (g:Nat)
 |no
 |vw (g:Nat)
 |ep (g off:Nat)
inductive SS where
 |one (x:WS)
 |agg (xs:List WS)
inductive OS where
 |box (ws:List WS)
 |arr (fz a i:Bool) (sz:Nat)
 |it
 |aO (a i:Bool) (sz:Nat) (aj:List (Nat×Nat))
structure Shape where
 slots:List (Nat×SS)
 bg:List (Nat×OS)
abbrev Ren:=List (Nat×Option Nat)
def imp (a b:Bool):Bool:=!a||b
def nodupB:List Nat->Bool
 | []=>true
 |x::xs=>!xs.contains x&&nodupB xs
def sU (m:Ren):List Nat->List W->Bool
 | [],[]=>true
 |g'::gs,.box g off::cs=>decide (m.lookup g'=some (some g))&&(Nat.beq off 0&&sU m gs cs)
 |_,_=>false
def gI:List Nat->List W
 | []=>[]
 |g::gs=>.box g 0::gI gs
def KD (m:Ren):WS->W->Option (List P)
 |.p a i,.p a' i' x=>if ((imp a' a&&imp i' i)||x.flat)=true then some [x] else none
 |.p _ _,.dF=>some [.sl 0 []]
 |.dF,.dF=>some []
 |.own g',.own g=>if m.lookup g'=some (some g) then some [] else none
 |.own g',.dF=>if m.lookup g'=some none then some [] else none
 |.box g' off,.box g off'=>if m.lookup g'=some (some g)/\off=off' then some [] else none
 |.fn f gs,.clo f' caps=>if f=f'/\sU m gs caps=true then some [] else none
 |.nH g',.nH g=>if m.lookup g'=some (some g) then some [] else none
 |.no,_=>some []
 |.vw g',.vw g lo hi=>if m.lookup g'=some (some g) then some [lo,hi] else none
 |.ep g' off,.ep g n off'=>if m.lookup g'=some (some g)/\off=off' then some [n] else none
 |_,_=>none
def KP (m:Ren):List WS->List W->Option (List P)
 | [],[]=>some []
 |k::ks,x::xs=>match KD m k x,KP m ks xs with
  |some u,some v=>some (u++v)
  |_,_=>none
 |_,_=>none
def coS (m:Ren):SS->S->Option (List P)
 |.one k,.v (.one x)=>KD m k x
 |.agg ks,.v (.agg xs)=>KP m ks xs
 |_,_=>none
def coO (m:Ren):OS->O->Option (List P)
 |.box ks,.box xs=>KP m ks xs
 |.arr fz a i sz,.arr fz' a' i' sz' l=>if fz=fz'/\sz=sz'/\(imp a' a&&imp i' i)=true then some [P.fP sz l] else none
 |.it,.it s n=>some [s,n]
 |.aO a i sz aj,.aO a' i' sz' kG l Option.none=>if sz=sz'/\aj=kG/\(imp a' a&&imp i' i)=true then some [P.fP sz l] else none
 |_,_=>none
def rU (m:Ren) (s:Nat->S):List (Nat×SS)->Option (List P)
 | []=>some []
 |(t,k)::rest=>match coS m k (s t),rU m s rest with
  |some u,some v=>some (u++v)
  |_,_=>none
def vP (m:Ren) (o:Nat->O):List (Nat×OS)->Option (List P)
 | []=>some []
 |(g',k)::rest=>match (match m.lookup g' with
   |some (some g)=>coO m k (o g)
   |some none=>(match k with
    |.arr false _ _ _=>some [.sl 0 []]
    |.aO _ _ _ _=>some [.sl 0 []]
    |_=>none)
   |none=>none),vP m o rest with
  |some u,some v=>some (u++v)
  |_,_=>none
def WS.names:WS->List Nat
 |.own g | .box g _ | .nH g | .vw g | .ep g _=>[g]
 |.fn _ gs=>gs
 |_=>[]
def SS.names:SS->List Nat
 |.one x=>x.names
 |.agg xs=>xs.flatMap WS.names
def OS.names:OS->List Nat
 |.box ws=>ws.flatMap WS.names
 |_=>[]
def Shape.nms (j:Shape):List Nat:=j.bg.map (·.1)
def Shape.ok (j:Shape):Bool:=nodupB j.nms&&j.slots.all (fun p=>p.2.names.all fun g=>j.nms.contains g)&&j.bg.all (fun p=>p.2.names.all fun g=>j.nms.contains g)
def ahK (j:Shape) (m:Ren):Bool:=nodupB (j.nms.filterMap fun g=>(m.lookup g).join)
def coerce (j:Shape) (m:Ren) (st:St):Option (List P):=
 if (j.ok&&ahK j m)=true then match rU m st.s j.slots,vP m st.o j.bg with
  |some u,some v=>some (u++v)
  |_,_=>none
 else none
def qo (vs:List P) (n:Nat):WS->W×Nat
 |.p a i=>(.p a i (vs.getD n default),n+1)
 |.dF=>(.dF,n)
 |.own g=>(.own g,n)
 |.box g off=>(.box g off,n)
 |.fn f gs=>(.clo f (gI gs),n)
 |.nH g=>(.nH g,n)
 |.no=>(.no,n)
 |.vw g=>(.vw g (vs.getD n default) (vs.getD (n+1) default),n+2)
 |.ep g off=>(.ep g (vs.getD n default) off,n+1)
def kY (vs:List P):Nat->List WS->List W×Nat
 |n,[]=>([],n)
 |n,k::ks=>((qo vs n k).1::(kY vs (qo vs n k).2 ks).1,(kY vs (qo vs n k).2 ks).2)
def mkS (vs:List P) (n:Nat):SS->S×Nat
 |.one k=>(.v (.one (qo vs n k).1),(qo vs n k).2)
 |.agg ks=>(.v (.agg (kY vs n ks).1),(kY vs n ks).2)
def ug (vs:List P) (n:Nat):OS->O×Nat
 |.box ks=>(.box (kY vs n ks).1,(kY vs n ks).2)
 |.arr fz a i sz=>(.arr fz a i sz (vs.getD n default).list,n+1)
 |.it=>(.it (vs.getD n default) (vs.getD (n+1) default),n+2)
 |.aO a i sz aj=>(.aO a i sz aj (vs.getD n default).list Option.none,n+1)
def dG (vs:List P):Nat->List (Nat×SS)->List (Nat×S)×Nat
 |n,[]=>([],n)
 |n,(t,k)::rest=>((t,(mkS vs n k).1)::(dG vs (mkS vs n k).2 rest).1,(dG vs (mkS vs n k).2 rest).2)
def gJ (vs:List P):Nat->List (Nat×OS)->List (Nat×O)×Nat
 |n,[]=>([],n)
 |n,(g,k)::rest=>((g,(ug vs n k).1)::(gJ vs (ug vs n k).2 rest).1,(gJ vs (ug vs n k).2 rest).2)
def mk (j:Shape) (vs:List P):St:=
 { s:=fun t=>match (dG vs 0 j.slots).1.lookup t with | some x=>x | none=>.no,o:=fun g=>match (gJ vs (dG vs 0 j.slots).2 j.bg).1.lookup g with | some x=>x | none=>.none,used:=fun g=>j.nms.contains g }
def BO (j:Shape) (m:Ren) (g':Nat):Option Nat:=if j.nms.contains g' then (m.lookup g').join else none
def At (vs:List P) (n:Nat) (us:List P):Prop :=∀k y,us[k]?=some y->vs[n+k]?=some y
theorem At.left {vs us1 us2:List P} {n:Nat} (h:At vs n (us1++us2)):At vs n us1:=fun k y hk=>h k y (by rw [Wc (Q3.1 hk).1];exact hk)
theorem At.right {vs us1 us2:List P} {n:Nat} (h:At vs n (us1++us2)):At vs (n+us1.length) us2:=fun k y hk=>by
 have:=h (us1.length+k) y (by rw [W7 (by omega),KK];exact hk);rw [<-this];congr 1;omega
theorem At.head {vs:List P} {n:Nat} {x:P} (h:At vs n [x]):vs.getD n default=x:=by
 have:=h 0 x rfl;rw [List.getD_eq_getElem?_getD];rw [VM] at this;rw [this];rfl
theorem uh {a b:Bool} (h:imp a b=true):a=true->b=true:=by
 cases a<;>cases b<;>simp_all [imp]
section
variable {vs:List P} {m:Ren} {F:Nat->Option Nat} {nil:Nat->Prop}
theorem vS :∀(gs:List Nat),(gI gs).flatMap W.names=gs
 | []=>rfl
 |g::gs=>by simp [gI,W.names,vS gs]
theorem uj (f:FuncId) (caps:List W):(W.clo f caps).names=caps.flatMap W.names:=by
 have :∀(l:List W) (q :∀x∈l,x∈caps),(l.attach.flatMap fun (x:{x // x∈l})=>x.1.names)=l.flatMap W.names:=fun l _=>by
  rw [List.flatMap_def,List.flatMap_def,List.map_attach_eq_pmap,List.pmap_eq_map]
 rw [W.names];exact this caps fun x hx=>hx
theorem LD :∀{gs:List Nat} {caps:List W},(∀g∈gs,F g=(m.lookup g).join)->sU m gs caps=true->caps.length=(gI gs).length/\∀(j:Nat) x y,caps[j]?=some x->(gI gs)[j]?=some y->Ww Cle F nil x y
 | [],[],_,_=>⟨rfl,fun j x y hx=>by simp at hx⟩
 | [],_::_,_,h=>by simp [sU] at h
 |_::_,[],_,h=>by simp [sU] at h
 |g'::gs,c::cs,hF,h=>by
  cases c with
  |box g off=>
   simp only [sU,Q6,decide_eq_true_eq] at h;obtain ⟨h1,h2,h3⟩:=h;have h2:=Q4 h2;subst h2;obtain ⟨e1,e2⟩:=LD (fun g hg=>hF g (by simp [hg])) h3;refine ⟨by simp [gI,e1],fun j x y hx hy => ?_⟩;cases j with
   |zero=>
    simp [gI] at hx hy;subst hx hy;exact .box (by rw [hF g' (by simp),h1];rfl)
   |succ j=>simp [gI] at hx hy;exact e2 j x y hx hy
  |_=>simp [sU] at h
theorem abv {k:WS} {x:W} {us:List P} {n:Nat} (hF :∀g∈k.names,F g=(m.lookup g).join) (hnil :∀g∈k.names,m.lookup g=some none->nil g) (h:KD m k x=some us) (ha:At vs n us) :
  Ww Cle F nil x (qo vs n k).1/\(qo vs n k).2=n+us.length/\(qo vs n k).1.names=k.names:=by
 cases k with
 |p a i=>
  cases x with
  |p a' i' y=>
   simp only [KD] at h;split at h
   .rename_i hc;simp only [Q0] at h;subst h;simp only [UX,Q6] at hc;refine ⟨?_,rfl,by simp [qo,W.names,WS.names]⟩;simp only [qo,ha.head];rcases hc with hc | hc
    .exact .p y ⟨uh hc.1,uh hc.2⟩
    .exact .flat y hc
   .cases h
  |dF=>
   simp only [KD,Q0] at h;subst h;refine ⟨?_,rfl,by simp [qo,W.names,WS.names]⟩;simp only [qo,ha.head];exact .ai9 _ _ _
  |_=>simp [KD] at h
 |dF=>cases x<;>simp [KD] at h;subst h;exact ⟨.dF,rfl,by simp [qo,W.names,WS.names]⟩
 |own g'=>
  cases x with
  |own g=>
   simp only [KD] at h;split at h
   .rename_i hc;simp only [Q0] at h;subst h;exact ⟨.own (by rw [hF g' (by simp [WS.names]),hc];rfl),rfl,by simp [qo,W.names,WS.names]⟩
   .cases h
  |dF=>
   simp only [KD] at h;split at h
   .rename_i hc;simp only [Q0] at h;subst h;exact ⟨.alx (by rw [hF g' (by simp [WS.names]),hc];rfl) (hnil g' (by simp [WS.names]) hc),rfl,by simp [qo,W.names,WS.names]⟩
   .cases h
  |_=>simp [KD] at h
 |box g' off=>
  cases x with
  |box g off'=>
   simp only [KD] at h;split at h
   .rename_i hc;simp only [Q0] at h;subst h;obtain ⟨hc,rfl⟩:=hc;exact ⟨.box (by rw [hF g' (by simp [WS.names]),hc];rfl),rfl,by simp [qo,W.names,WS.names]⟩
   .cases h
  |_=>simp [KD] at h
 |fn f gs=>
  cases x with
  |clo f' caps=>
   simp only [KD] at h;split at h
   .rename_i hc;simp only [Q0] at h;subst h;obtain ⟨rfl,hc⟩:=hc;obtain ⟨e1,e2⟩:=LD (nil:=nil) hF hc;exact ⟨.clo f caps (gI gs) e1 e2,rfl,by simp only [qo,uj,vS,WS.names]⟩
   .cases h
  |_=>simp [KD] at h
 |nH g'=>
  cases x with
  |nH g=>
   simp only [KD] at h;split at h
   .rename_i hc;simp only [Q0] at h;subst h;exact ⟨.nH (by rw [hF g' (by simp [WS.names]),hc];rfl),rfl,by simp [qo,W.names,WS.names]⟩
   .cases h
  |_=>simp [KD] at h
 |no=>simp [KD] at h;subst h;exact ⟨.no _,rfl,by simp [qo,W.names,WS.names]⟩
 |vw g'=>
  cases x with
  |vw g lo hi=>
   simp only [KD] at h;split at h
   .rename_i hc;simp only [Q0] at h;subst h;have h0:vs.getD n default=lo:=At.head (At.left (us1:=[lo]) (us2:=[hi]) ha);have h1:vs.getD (n+1) default=hi:=At.head (At.right (us1:=[lo]) (us2:=[hi]) ha);refine ⟨?_,rfl,by simp [qo,W.names,WS.names]⟩;simp only [qo,h0,h1];exact .vw lo hi (by rw [hF g' (by simp [WS.names]),hc];rfl)
   .cases h
  |_=>simp [KD] at h
 |ep g' off=>
  cases x with
  |ep g q off'=>
   simp only [KD] at h;split at h
   .rename_i hc;simp only [Q0] at h;subst h;obtain ⟨hc,rfl⟩:=hc;refine ⟨?_,rfl,by simp [qo,W.names,WS.names]⟩;simp only [qo,ha.head];exact .ep q off (by rw [hF g' (by simp [WS.names]),hc];rfl)
   .cases h
  |_=>simp [KD] at h
theorem Oa :∀{ks:List WS} {xs:List W} {us:List P} {n:Nat},(∀k∈ks,∀g∈k.names,F g=(m.lookup g).join)->(∀k∈ks,∀g∈k.names,m.lookup g=some none->nil g)->KP m ks xs=some us->At vs n us->
  xs.length=(kY vs n ks).1.length/\(∀(j:Nat) x y,xs[j]?=some x->(kY vs n ks).1[j]?=some y->Ww Cle F nil x y)/\(kY vs n ks).2=n+us.length/\(kY vs n ks).1.flatMap W.names=ks.flatMap WS.names
 | [],xs,us,n,hF,hn,h,ha=>by
  cases xs with
  |nil=>simp [KP] at h;subst h;exact ⟨rfl,fun j x y hx=>by simp at hx,rfl,rfl⟩
  |cons x xs=>simp [KP] at h
 |k::ks,xs,us,n,hF,hn,h,ha=>by
  cases xs with
  |nil=>simp [KP] at h
  |cons x xs=>
   simp only [KP] at h;split at h
   .rename_i u v hu hv;simp only [Q0] at h;subst h;obtain ⟨a1,a2,a3⟩:=abv (hF k (by simp)) (hn k (by simp)) hu ha.left;have ih:=Oa (n:=n+u.length) (fun k hk=>hF k (by simp [hk])) (fun k hk=>hn k (by simp [hk])) hv ha.right;simp only [kY,a2];refine ⟨by simp [ih.1],fun j x' y' hx hy => ?_,by rw [ih.2.2.1];simp;omega,by simp [a3,ih.2.2.2]⟩;cases j with
    |zero=>simp at hx hy;subst hx hy;exact a1
    |succ j=>simp at hx hy;exact ih.2.1 j x' y' hx hy
   .cases h
theorem ai_ {k:SS} {x:S} {us:List P} {n:Nat} (hF :∀g∈k.names,F g=(m.lookup g).join) (hnil :∀g∈k.names,m.lookup g=some none->nil g) (h:coS m k x=some us) (ha:At vs n us) :
  Sw Cle F nil x (mkS vs n k).1/\(mkS vs n k).2=n+us.length/\(mkS vs n k).1.names=k.names:=by
 cases k with
 |one k=>
  cases x with
  |v x=>
   cases x with
   |one x=>
    obtain ⟨a1,a2,a3⟩:=abv hF hnil h ha;exact ⟨.v (.one a1),a2,by simpa [mkS,S.names,V.names,SS.names] using a3⟩
   |agg xs=>simp [coS] at h
  |_=>simp [coS] at h
 |agg ks=>
  cases x with
  |v x=>
   cases x with
   |one x=>simp [coS] at h
   |agg xs=>
    obtain ⟨a0,a1,a2,a3⟩:=Oa (fun k hk g hg=>hF g (by simp only [SS.names,Z1];exact ⟨k,hk,hg⟩)) (fun k hk g hg=>hnil g (by simp only [SS.names,Z1];exact ⟨k,hk,hg⟩)) h ha;exact ⟨.v (.agg _ _ a0 a1),a2,by simpa [mkS,S.names,V.names,SS.names] using a3⟩
  |_=>simp [coS] at h
theorem Il {s:Nat->S} :∀{L:List (Nat×SS)} {us:List P} {n:Nat},(∀p∈L,∀g∈p.2.names,F g=(m.lookup g).join)->(∀p∈L,∀g∈p.2.names,m.lookup g=some none->nil g)->rU m s L=some us->At vs n us->
  (∀t x,(dG vs n L).1.lookup t=some x->Sw Cle F nil (s t) x/\∀g∈x.names,∃p∈L,g∈p.2.names)/\(dG vs n L).2=n+us.length
 | [],us,n,hF,hn,h,ha=>by simp [rU] at h;subst h;exact ⟨fun t x hx=>by simp [dG] at hx,rfl⟩
 |(t0,k)::L,us,n,hF,hn,h,ha=>by
  simp only [rU] at h;split at h
  .rename_i u v hu hv;simp only [Q0] at h;subst h;obtain ⟨a1,a2,a3⟩:=ai_ (hF (t0,k) (by simp)) (hn (t0,k) (by simp)) hu ha.left;have ih:=Il (n:=n+u.length) (fun p hp=>hF p (by simp [hp])) (fun p hp=>hn p (by simp [hp])) hv ha.right;simp only [dG,a2];refine ⟨fun t x hx => ?_,by rw [ih.2];simp;omega⟩;simp only [List.lookup] at hx;split at hx
   .rename_i he;have he:t=t0:=by simpa using he
    subst he;simp only [Q0] at hx;subst hx;exact ⟨a1,fun g hg=>⟨(t,k),by simp,by rw [a3] at hg;exact hg⟩⟩
   .obtain ⟨b1,b2⟩:=ih.1 t x hx;exact ⟨b1,fun g hg=>let ⟨p,hp,hg⟩:=b2 g hg;⟨p,by simp [hp],hg⟩⟩
  .cases h
theorem aja {k:OS} {x:O} {us:List P} {n:Nat} (hF :∀g∈k.names,F g=(m.lookup g).join) (hnil :∀g∈k.names,m.lookup g=some none->nil g) (h:coO m k x=some us) (ha:At vs n us) :
  Ow Cle F nil x (ug vs n k).1/\(ug vs n k).2=n+us.length/\(ug vs n k).1.names=k.names:=by
 cases k with
 |box ks=>
  cases x with
  |box xs=>
   obtain ⟨a0,a1,a2,a3⟩:=Oa (fun k hk g hg=>hF g (by simp only [OS.names,Z1];exact ⟨k,hk,hg⟩)) (fun k hk g hg=>hnil g (by simp only [OS.names,Z1];exact ⟨k,hk,hg⟩)) h ha;exact ⟨.box _ _ a0 a1,a2,by simpa [ug,O.names,OS.names] using a3⟩
  |_=>simp [coO] at h
 |arr fz a i sz=>
  cases x with
  |arr fz' a' i' sz' l=>
   simp only [coO] at h;split at h
   .rename_i hc;simp only [Q0] at h;subst h;obtain ⟨rfl,rfl,hc⟩:=hc;simp only [Q6] at hc;refine ⟨?_,rfl,rfl⟩;simp only [ug,ha.head,P.oC];exact .arr fz sz l ⟨uh hc.1,uh hc.2⟩
   .cases h
  |_=>simp [coO] at h
 |it=>
  cases x with
  |it s p=>
   simp only [coO,Q0] at h;subst h;refine ⟨?_,rfl,rfl⟩;have h0:vs.getD n default=s:=At.head (At.left (us1:=[s]) (us2:=[p]) ha);have h1:vs.getD (n+1) default=p:=At.head (At.right (us1:=[s]) (us2:=[p]) ha);simp only [ug,h0,h1];exact .it s p
  |_=>simp [coO] at h
 |aO a i sz aj=>
  cases x with
  |aO a' i' sz' kG l hole=>
   cases hole with
   |some q=>simp [coO] at h
   |none=>
    simp only [coO] at h;split at h
    .rename_i hc;simp only [Q0] at h;subst h;obtain ⟨rfl,rfl,hc⟩:=hc;simp only [Q6] at hc;refine ⟨?_,rfl,rfl⟩;simp only [ug,ha.head,P.oC];exact .aO sz aj l ⟨uh hc.1,uh hc.2⟩
    .cases h
  |_=>simp [coO] at h
end
theorem jw :∀{l:List Nat},nodupB l=true->l.Nodup
 | [],_=>List.nodup_nil
 |x::l,h=>by
  simp only [nodupB,Q6,W6,Wm,decide_eq_false_iff_not] at h;exact UB.2 ⟨h.1,jw h.2⟩
theorem LG {vs:List P} {m:Ren} {F:Nat->Option Nat} {nil:Nat->Prop} {o:Nat->O} :∀{L:List (Nat×OS)} {us:List P} {n:Nat},(∀p∈L,∀g∈p.2.names,F g=(m.lookup g).join)->(∀p∈L,∀g∈p.2.names,m.lookup g=some none->nil g)->
  (L.map (·.1)).Nodup->vP m o L=some us->At vs n us->
  (∀g' x,(gJ vs n L).1.lookup g'=some x->(g'∈L.map (·.1))/\(∀g∈x.names,∃p∈L,g∈p.2.names)/\((∃g,m.lookup g'=some (some g)/\Ow Cle F nil (o g) x)\/(m.lookup g'=some none/\x.nilA)))/\
  (∀g'∈L.map (·.1),∃x,(gJ vs n L).1.lookup g'=some x)
 | [],us,n,hF,hn,hd,h,ha=>⟨fun g x hx=>by simp [gJ] at hx,fun g hg=>by simp at hg⟩
 |(g0,k)::L,us,n,hF,hn,hd,h,ha=>by
  simp only [vP] at h;split at h
  .rename_i u v hu hv;simp only [Q0] at h;subst h;simp only [Qf,UB] at hd;have key:(ug vs n k).2=n+u.length/\(ug vs n k).1.names=k.names/\((∃g,m.lookup g0=some (some g)/\Ow Cle F nil (o g) (ug vs n k).1)\/(m.lookup g0=some none/\(ug vs n k).1.nilA)):=by
    split at hu
    .rename_i g hg;obtain ⟨a1,a2,a3⟩:=aja (hF (g0,k) (by simp)) (hn (g0,k) (by simp)) hu ha.left;exact ⟨a2,a3,.inl ⟨g,hg,a1⟩⟩
    .rename_i hg;split at hu
     .rename_i a i sz;simp only [Q0] at hu;subst hu;refine ⟨rfl,rfl,.inr ⟨hg,.inl ⟨a,i,sz,?_⟩⟩⟩;simp only [ug,ha.left.head];rfl
     .rename_i a i sz aj;simp only [Q0] at hu;subst hu;refine ⟨rfl,rfl,.inr ⟨hg,.inr ⟨a,i,sz,aj,?_⟩⟩⟩;simp only [ug,ha.left.head];rfl
     .cases hu
    .cases hu
   obtain ⟨a2,a3,a1⟩:=key;have ih:=LG (n:=n+u.length) (fun p hp=>hF p (by simp [hp])) (fun p hp=>hn p (by simp [hp])) hd.2 hv ha.right;simp only [gJ,a2];refine ⟨fun g' x hx => ?_,fun g' hg' => ?_⟩
   .simp only [List.lookup] at hx;split at hx
    .rename_i he;have he:g'=g0:=by simpa using he
     subst he;simp only [Q0] at hx;subst hx;exact ⟨by simp,fun g hg=>⟨(g',k),by simp,by rw [a3] at hg;exact hg⟩,a1⟩
    .obtain ⟨b0,b1,b2⟩:=ih.1 g' x hx;exact ⟨by simp [b0],fun g hg=>let ⟨p,hp,hg⟩:=b1 g hg;⟨p,by simp [hp],hg⟩,b2⟩
   .simp only [List.lookup];by_cases he:g'=g0
    .subst he;simp
    .have:(g'==g0)=false:=by simpa using he
     rw [this];exact ih.2 g' (by simpa [he] using hg')
  .cases h
theorem zK {f:Nat->Option Nat} {g1 g2 g:Nat} :∀{L:List Nat},L.Nodup->(L.filterMap f).Nodup->g1∈L->g2∈L->f g1=some g->f g2=some g->g1=g2
 | [],_,_,n1,_,_,_=>by cases n1
 |y::L,hnd,iH,n1,n2,m1,m2=>by
  simp only [UB] at hnd;simp only [List.filterMap_cons] at iH;have hsub :∀{z},z∈L->f z=some g->g∈L.filterMap f:=fun hz he=>qd.2 ⟨_,hz,he⟩;rcases QP.1 n1 with e1 | e1<;>rcases QP.1 n2 with e2 | e2
  .rw [e1,e2]
  .subst e1;rw [m1] at iH;simp only [UB] at iH;exact absurd (hsub e2 m2) iH.1
  .subst e2;rw [m2] at iH;simp only [UB] at iH;exact absurd (hsub e1 m1) iH.1
  .refine zK hnd.2 ?_ e1 e2 m1 m2;split at iH
   .exact iH
   .exact (UB.1 iH).2
theorem sV {j:Shape} {m:Ren} {st:St} {vs:List P} (h:coerce j m st=some vs):sS Cle (BO j m) st (mk j vs):=by
 unfold coerce at h;split at h
 .rename_i hok;split at h
  .rename_i u v hu hv;simp only [Q0] at h;subst h;simp only [Q6,Shape.ok,X2,Wm,decide_eq_true_eq] at hok;obtain ⟨⟨⟨hnd,hsl⟩,hob⟩,iH⟩:=hok;have hnd':=jw hnd;have hAt:At (u++v) 0 (u++v):=fun k y hk=>by rw [WD];exact hk
   have hF :∀g∈j.nms,BO j m g=(m.lookup g).join:=fun g hg=>by simp [BO,hg]
   have DF:=fun nil (hnil :∀p∈j.bg,∀g∈p.2.names,m.lookup g=some none->nil g)=>LG (vs:=u++v) (F:=BO j m) (nil:=nil) (n:=u.length) (fun p hp g hg=>hF g (hob p hp g hg)) hnil hnd' hv (by
    have:=hAt.right;rwa [WD] at this)
   have sZ:=fun nil (hnil :∀p∈j.slots,∀g∈p.2.names,m.lookup g=some none->nil g)=>Il (vs:=u++v) (F:=BO j m) (nil:=nil) (n:=0) (fun p hp g hg=>hF g (hsl p hp g hg)) hnil hu hAt.left;have hlen:(dG (u++v) 0 j.slots).2=u.length:=by have:=(sZ (fun _=>True) (fun _ _ _ _ _=>trivial)).2;omega
   have hnil :∀g∈j.nms,m.lookup g=some none->((mk j (u++v)).o g).nilA:=by
    intro g hg hm;have hO:=DF (fun _=>True) (fun _ _ _ _ _=>trivial);obtain ⟨x,hx⟩:=hO.2 g hg;rcases (hO.1 g x hx).2.2 with ⟨g2,h2,_⟩ | ⟨_,e⟩
    .rw [hm] at h2;cases h2
    .show O.nilA (match (gJ (u++v) (dG (u++v) 0 j.slots).2 j.bg).1.lookup g with | some x=>x | none=>.none);rw [hlen,hx];exact e
   have hO:=DF (fun g=>((mk j (u++v)).o g).nilA) (fun p hp g hg hm=>hnil g (hob p hp g hg) hm);have hS:=sZ (fun g=>((mk j (u++v)).o g).nilA) (fun p hp g hg hm=>hnil g (hsl p hp g hg) hm);have zV :∀g x,(mk j (u++v)).o g=x->x≠.none->(gJ (u++v) u.length j.bg).1.lookup g=some x:=by
    intro g x hx hne;have hx:(match (gJ (u++v) (dG (u++v) 0 j.slots).2 j.bg).1.lookup g with | some x=>x | none=>.none)=x:=hx;rw [hlen] at hx;cases hz:(gJ (u++v) u.length j.bg).1.lookup g with
    |none=>rw [hz] at hx;exact absurd hx.symm hne
    |some y=>rw [hz] at hx;rw [<-hx]
   refine ⟨fun t => ?_,fun g' g hm => ?_,fun g' hm => ?_,fun g1 g2 g h1 h2 m1 m2 => ?_,fun t g hg => ?_,fun g0 g hg => ?_,fun g hg => ?_⟩
   .show Sw _ _ _ (st.s t) (match (dG (u++v) 0 j.slots).1.lookup t with | some x=>x | none=>.no);cases hx:(dG (u++v) 0 j.slots).1.lookup t with
    |none=>exact .no _
    |some x=>exact (hS.1 t x hx).1
   .by_cases hne:(mk j (u++v)).o g'=.none
    .rw [hne];exact .none _
    .have hx:=zV g' _ rfl hne;obtain ⟨b0,b1,b2⟩:=hO.1 g' _ hx;rw [hF g' b0] at hm;rcases b2 with ⟨g3,h3,h4⟩ | ⟨h3,_⟩
     .rw [h3] at hm;cases hm;exact h4
     .rw [h3] at hm;cases hm
   .by_cases hne:(mk j (u++v)).o g'=.none
    .exact .inl hne
    .have hx:=zV g' _ rfl hne;obtain ⟨b0,b1,b2⟩:=hO.1 g' _ hx;rw [hF g' b0] at hm;rcases b2 with ⟨g3,h3,h4⟩ | ⟨h3,e⟩
     .rw [h3] at hm;cases hm
     .exact .inr e
   .have n1:g1∈j.nms:=by have:=hO.1 g1 _ (zV g1 _ rfl (by intro e;rw [e] at h1;cases h1));exact this.1
    have n2:g2∈j.nms:=by have:=hO.1 g2 _ (zV g2 _ rfl (by intro e;rw [e] at h2;cases h2));exact this.1
    rw [hF g1 n1] at m1;rw [hF g2 n2] at m2;exact zK hnd' (jw iH) n1 n2 m1 m2
   .have hg:g∈(match (dG (u++v) 0 j.slots).1.lookup t with | some x=>x | none=>S.no).names:=hg;cases hx:(dG (u++v) 0 j.slots).1.lookup t with
    |none=>rw [hx] at hg;simp [S.names] at hg
    |some x=>
     rw [hx] at hg;obtain ⟨p,hp,hg⟩:=(hS.1 t x hx).2 g hg;simpa [mk] using hsl p hp g hg
   .by_cases hne:(mk j (u++v)).o g0=.none
    .rw [hne] at hg;simp [O.names] at hg
    .obtain ⟨b0,b1,b2⟩:=hO.1 g0 _ (zV g0 _ rfl hne);obtain ⟨p,hp,hg⟩:=b1 g hg;simpa [mk] using hob p hp g hg
   .have:=(hO.1 g _ (zV g _ rfl hg)).1;simpa [mk,Shape.nms] using this
  .cases h
 .cases h
end Go.Fw

namespace Go.Fw
variable [eP]
structure y9 where
 bD:Nat
 pin:Shape
 aQ:Shape
 dA:Nat
 aY:List Nat
 aV:List Nat
structure Spec where
 sig:y9
 R:List P->List P->Prop
abbrev Tab:=FuncId->Option Spec
def xg (x y:Bool×Bool):Bool×Bool:=(x.1||y.1,x.2||y.2)
def Ob (xs ys:List Nat):Bool:=xs.all fun x=>!ys.contains x
def WS.flags (a i:Bool):WS->Bool
 |.p a' i'=>(a==a')&&(i==i')
 |.own _=>true
 |.box _ off=>off==0
 |.dF=>false
 |.fn _ _=>true
 |.nH _=>false
 |.no=>false
 |.vw _=>false
 |.ep _ _=>false
def SS.flags (a i:Bool):SS->Bool
 |.one x=>x.flags a i
 |.agg xs=>xs.all (WS.flags a i)
def WS.bW (aV:List Nat):WS->Bool
 |.p _ _=>true
 |.own g=>aV.contains g
 |.box g _=>aV.contains g
 |.dF=>true
 |.fn _ gs=>gs.all fun g=>aV.contains g
 |_=>false
def SS.bW (aV:List Nat):SS->Bool
 |.one x=>x.bW aV
 |.agg xs=>xs.all (WS.bW aV)
def WS.isA:WS->Bool
 |.p a _=>a
 |_=>false
def SS.isA:SS->Bool
 |.one x=>x.isA
 |.agg xs=>xs.any WS.isA
def OS.isA:OS->Bool
 |.box ws=>ws.any WS.isA
 |.arr _ a _ _=>a
 |.it=>false
 |.aO a _ _ _=>a
def y9.mF (s:y9):Bool:=s.aQ.slots.any (·.2.isA)||s.aQ.bg.any (·.2.isA)
def OS.kin:Option OS->Option OS->Bool
 |some (.box _),some (.box _)=>true
 |some (.arr _ _ _ sz),some (.arr _ _ _ sz')=>Nat.beq sz sz'
 |some (.aO _ _ sz _),some (.aO _ _ sz' _)=>Nat.beq sz sz'
 |_,_=>false
def OS.abw:Option OS->Bool
 |some (.box _)=>true
 |_=>false
def y9.ok (s:y9):Bool:=
 s.pin.ok&&s.aQ.ok&&s.pin.slots.all (fun p=>p.2.flags true false&&decide (p.1<s.bD)) &&
 s.pin.bg.all (fun p=>match p.2 with
  |.box ws=>ws.all (fun k=>k.flags false true)&&s.aY.contains p.1
  |.arr fz a i _=>!fz&&!a&&i
  |.aO a i _ _=>!a&&i
  |.it=>false) &&
 s.aQ.slots.all (fun p=>p.2.bW (s.aV++s.aY)) &&
 s.aQ.bg.all (fun p=>match p.2 with
  |.box ws=>ws.all (WS.bW (s.aV++s.aY))&&((s.aY.contains p.1&&s.pin.nms.contains p.1)||s.aV.contains p.1)
  |.arr fz _ _ _=>!fz&&(s.aV.contains p.1||s.aY.contains p.1)
  |.aO _ _ _ _=>s.aV.contains p.1||s.aY.contains p.1
  |.it=>false) &&
 Ob s.aY s.aV&&nodupB s.aV&&s.aY.all (fun g=>OS.kin (s.pin.bg.lookup g) (s.aQ.bg.lookup g))
def y9.abx (s:y9):Bool:=s.aY.all fun g=>OS.abw (s.pin.bg.lookup g)&&OS.abw (s.aQ.bg.lookup g)
structure KQ where
 ins:List P
 A:Bool×Bool
 I:Bool×Bool
 u_:List Nat
 ren:List (Nat×Nat)
def nP:List Nat->List W->Option (List (Nat×Nat))
 | [],[]=>some []
 |g'::gs,.box g 0::cs=>match nP gs cs with
  |some r=>some ((g',g)::r)
  |none=>none
 |_,_=>none
def fK (o:Nat->O):WS->W->Option (List P×(Bool×Bool)×List Nat×List (Nat×Nat))
 |.p _ _,x=>match x.toP o with
  |some (y,a,i,gs)=>some ([y],(a,i),gs,[])
  |none=>none
 |.own g',.own g=>some ([],(false,false),[],[(g',g)])
 |.box g' 0,.box g 0=>some ([],(false,false),[],[(g',g)])
 |.fn f gs,.clo f' caps=>if f=f' then match nP gs caps with
  |some r=>some ([],(false,false),[],r)
  |none=>none
  else none
 |_,_=>none
def jJ (o:Nat->O):List WS->List W->Option (List P×(Bool×Bool)×List Nat×List (Nat×Nat))
 | [],[]=>some ([],(false,false),[],[])
 |k::ks,x::xs=>match fK o k x,jJ o ks xs with
  |some (u,c,g,r),some (u',c',g',r')=>some (u++u',xg c c',g++g',r++r')
  |_,_=>none
 |_,_=>none
def oH (o:Nat->O):SS->S->Option (List P×(Bool×Bool)×List Nat×List (Nat×Nat))
 |.one k,.v (.one x)=>fK o k x
 |.agg ks,.v (.agg xs)=>jJ o ks xs
 |_,_=>none
def eY (o:Nat->O) (args:List S):List (Nat×SS)->Option (List P×(Bool×Bool)×List Nat×List (Nat×Nat))
 | []=>some ([],(false,false),[],[])
 |(t,k)::rest=>match oH o k (args.getD t .no),eY o args rest with
  |some (u,c,g,r),some (u',c',g',r')=>some (u++u',xg c c',g++g',r++r')
  |_,_=>none
def Ur:WS->W->Option (List P×(Bool×Bool)×List (Nat×Nat))
 |.p _ _,.p a i x=>some ([x],(a,i),[])
 |.p _ _,.dF=>some ([.sl 0 []],(false,false),[])
 |.own g',.own g=>some ([],(false,false),[(g',g)])
 |.box g' 0,.box g 0=>some ([],(false,false),[(g',g)])
 |.fn f gs,.clo f' caps=>if f=f' then match nP gs caps with
  |some r=>some ([],(false,false),r)
  |none=>none
  else none
 |_,_=>none
def Oc:List WS->List W->Option (List P×(Bool×Bool)×List (Nat×Nat))
 | [],[]=>some ([],(false,false),[])
 |k::ks,x::xs=>match Ur k x,Oc ks xs with
  |some (u,c,r),some (u',c',r')=>some (u++u',xg c c',r++r')
  |_,_=>none
 |_,_=>none
def jG (o:Nat->O):List (Nat×Nat)->List (Nat×OS)->Option (List P×(Bool×Bool)×List (Nat×Nat))
 |ren,[]=>some ([],(false,false),ren)
 |ren,(g',k)::rest=>match ren.lookup g' with
  |some g=>match k,o g with
   |.box ks,.box ws=>match Oc ks ws with
    |some (u,c,r)=>match jG o (ren++r) rest with
     |some (u',c',r')=>some (u++u',xg c c',r')
     |none=>none
    |none=>none
   |.arr _ _ _ sz,.arr false a i sz' l=>if sz=sz' then match jG o ren rest with
    |some (u',c',r')=>some (P.fP sz l::u',xg (a,i) c',r')
    |none=>none
    else none
   |.aO _ _ sz aj,.aO a i sz' kG l Option.none=>if sz=sz'/\aj=kG then match jG o ren rest with
    |some (u',c',r')=>some (P.fP sz l::u',xg (a,i) c',r')
    |none=>none
    else none
   |_,_=>none
  |none=>none
def jT:List (Nat×Nat)->List (Nat×Nat)
 | []=>[]
 |p::r=>match r.any fun q=>Nat.beq q.1 p.1&&Nat.beq q.2 p.2 with
  |true=>jT r
  |false=>p::jT r
def g_ (s:y9) (o:Nat->O) (args:List S):Option KQ:=
 match eY o args s.pin.slots with
 |some (u,A,gs,r)=>match jG o r s.pin.bg with
  |some (u',I,r')=>some { ins:=u++u',A,I,u_:=gs,ren:=jT r' }
  |none=>none
 |none=>none
def KQ.fine (c:KQ) (s:y9):Bool:=nodupB (c.ren.map (·.2))&&nodupB (c.ren.map (·.1))&&Ob (c.ren.map (·.2)) c.u_&&(c.ren.map (·.1)).all (fun g=>s.pin.nms.contains g)
def qH (A I:Bool×Bool) (a i:Bool):Bool×Bool:=((a&&A.1)||(i&&I.1),(a&&A.2)||(i&&I.2))
def kR (f:Nat->Nat):List W->List W
 | []=>[]
 |.box g off::r=>.box (f g) off::kR f r
 |_::r=>.no::kR f r
def Us (A I:Bool×Bool) (f:Nat->Nat):W->W
 |.p a i x=>.p (qH A I a i).1 (qH A I a i).2 x
 |.dF=>.dF
 |.own g=>.own (f g)
 |.box g off=>.box (f g) off
 |.clo fn caps=>.clo fn (kR f caps)
 |_=>.no
def reV (A I:Bool×Bool) (f:Nat->Nat):V->V
 |.one x=>.one (Us A I f x)
 |.agg xs=>.agg (xs.map (Us A I f))
def WR (A I:Bool×Bool) (f:Nat->Nat):S->V
 |.v x=>reV A I f x
 |_=>.one .no
def xk (A I:Bool×Bool) (f:Nat->Nat):O->O
 |.none=>.none
 |.box ws=>.box (ws.map (Us A I f))
 |.arr fz a i sz l=>.arr fz (qH A I a i).1 (qH A I a i).2 sz l
 |.it s n=>.it s n
 |.aO a i sz aj l _=>.aO (qH A I a i).1 (qH A I a i).2 sz aj l Option.none
def newName (d:Nat) (aV:List Nat) (g:Nat):Nat:=d+1000*aV.idxOf g
def callName (d:Nat) (s:y9) (ren:List (Nat×Nat)) (g:Nat):Nat:=match s.aY.contains g with
 |true=>match ren.lookup g with
  |some g'=>g'
  |none=>g
 |false=>newName d s.aV g
structure Eff where
 x:S
 aJ:List (Nat×O)
 new:List Nat
def Zb (vs:List V):S:=match vs with
 | [x]=>.v x
 |xs=>.jM xs
def iJ (s:y9) (d:Nat) (o:Nat->O) (c:KQ) (bW:List P):Eff:=
 let x:=mk s.aQ bW
 let f:=callName d s c.ren
 { x:=Zb ((List.range s.dA).map fun k=>WR c.A c.I f (x.s k)),aJ:=(if s.mF then c.u_.map (aU o) else [])++c.ren.map (fun p=>(p.2,if s.aY.contains p.1 then xk c.A c.I f (x.o p.1) else .none))++s.aV.map (fun g=>(f g,xk c.A c.I f (x.o g))),new:=s.aV.map f }
def BP (same:List Nat) (e:Eff):Eff:={ e with aJ:=e.aJ.filter fun p=>!same.contains p.1 }
theorem tq {α:Type} {same:List Nat} {g:Nat} (hg:g∉same) :∀(l:List (Nat×α)),(l.filter fun p=>!same.contains p.1).lookup g=l.lookup g
 | []=>rfl
 |(k,x)::l=>by
  simp only [vl];cases hk:same.contains k with
  |true=>
   have:(g==k)=false:=by
    cases hb:g==k with
    |false=>rfl
    |true=>
     have:g=k:=by simpa using hb
     subst this;simp only [Wm,decide_eq_true_eq] at hk;exact absurd hk hg
   simp only [Bool.not_true,W4,if_false,List.lookup,this];exact tq hg l
  |false=>
   simp only [ve,if_true,List.lookup];rw [tq hg l]
theorem mY {α:Type} {same:List Nat} {g:Nat} (hg:g∈same) :∀(l:List (Nat×α)),(l.filter fun p=>!same.contains p.1).lookup g=none
 | []=>rfl
 |(k,x)::l=>by
  simp only [vl];cases hk:same.contains k with
  |true=>
   simp only [Bool.not_true,W4,if_false];exact mY hg l
  |false=>
   have:(g==k)=false:=by
    cases hb:g==k with
    |false=>rfl
    |true=>
     have:g=k:=by simpa using hb
     subst this;simp only [Wm,decide_eq_false_iff_not] at hk;exact absurd hg hk
   simp only [ve,if_true,List.lookup,this];exact mY hg l
theorem Zc {st:St} {same:List Nat} {e:Eff} (h :∀g∈same,e.aJ.lookup g=some (st.o g)):st.aJ (BP same e).aJ (BP same e).new=st.aJ e.aJ e.new:=by
 unfold St.aJ BP;congr 1;funext g;by_cases hg:g∈same
 .simp only [mY hg,h g hg]
 .simp only [tq hg]
inductive Qd (x:P) (K:P->Prop):Prop where
 |mk (h :∀z,z=x->K z)
theorem Qd.iff {x:P} {K:P->Prop}:Qd x K↔K x:=⟨fun ⟨h⟩=>h x rfl,fun h=>⟨fun z e=>e▸h⟩⟩
def EY:Op->Bool
 |.pick .. | .binOp .. | .unOp .. | .convert .. | .index .. | .call .. | .makeSlice .. | .store .. | .buildSlice .. | .slice .. => true
 |_=>false
def guardOf (ops:Array Oper) (st:St) (j:Nat) (want:Bool):Option Bool:=
 match (ops[j]?).bind (·.dst) with
 |some t=>match st.s t with
  |.v (.one (.p _ _ (.bool b)))=>some (bif want then b else !b)
  |.jM []=>some false
  |_=>none
 |none=>none
def Eff.skip:Eff:={ x:=.jM [],aJ:=[],new:=[] }
def alz:S->Option Nat
 |.v (.one (.clo g _))=>some g
 |_=>none
def WT:List S->Option Nat
 | []=>none
 |x::l=>match alz x with
  |some g=>some g
  |none=>WT l
def QC (fn:Nat) (l:List S):Nat:=match WT l with
 |some g=>fn+1000000*(g+1)
 |none=>fn
def pick (T:Tab) (fn:Nat) (l:List S):Option Spec:=match Nat.blt fn 1000000 with
 |true=>match T (QC fn l) with
  |some sp=>some sp
  |none=>T fn
 |false=>none
theorem afj {T:Tab} {fn:Nat} {l:List S} {sp:Spec} {p:Nat->Spec->Prop} (hT :∀f sp,T f=some sp->p (f % 1000000) sp) (h:pick T fn l=some sp):p fn sp:=by
 unfold pick at h;split at h
 .rename_i hb;have hlt:fn<1000000:=W3 hb;split at h
  .rename_i sp' h';cases h;have:=hT _ _ h';have e:QC fn l % 1000000=fn:=by unfold QC;split<;>omega
   rwa [e] at this
  .have:=hT _ _ h
   rwa [Kc hlt] at this
 .cases h
def jk (T:Tab) (tt:TT) (d:Nat) (st:St) (o:Oper) (K:Eff->Prop):Prop:=
 match o.op with
 |.call { callee:=.value f,args,.. }=>match st.dJ f with
  |.v (.one (.clo fn caps))=>match pick T fn (args.toList.map st.dJ) with
   |some sp=>match g_ sp.sig st.o ((args.toList.map st.dJ)++caps.map fun x=>S.v (.one x)) with
    |some c=>(c.fine sp.sig&&decide (args.size+caps.length=sp.sig.bD))=true/\∃(bW:List P) (same:List Nat),sp.R c.ins bW/\(∀g∈same,g∈c.ren.map (·.2)/\(iJ sp.sig d st.o c bW).aJ.lookup g=some (st.o g))/\K (BP same (iJ sp.sig d st.o c bW))
    |none=>False
   |none=>False
  |_=>False
 |op=>(∃dc r,dW tt dc d st.o st.dJ op o.type=some r/\r.pre/\Qd r.val fun z=>K { x:=r.dst z,aJ:=r.aJ z,new:=r.new })\/match kernel tt d st.o st.dJ op o.type with
  |some r=>r.pre/\bif EY op then Qd r.val fun z=>K { x:=r.dst z,aJ:=r.aJ z,new:=r.new } else K { x:=r.dst r.val,aJ:=r.aJ r.val,new:=r.new }
  |none=>False
def St.eff (st:St) (dst:Option Tmp) (e:Eff):St:=(st.aJ e.aJ e.new).put dst e.x
def stepW (T:Tab) (tt:TT) (N:Nat) (ops:Array Oper) (o:Oper) (st:St) (K:Eff->Prop):Prop:=
 (match o.dst with
  |some d=>decide (d<N)
  |none=>true)=true/\
 match o.guard with
 |none=>jk T tt (o.dst.getD 0) st o fun e=>e.new.all (fun g=>!st.used g)=true/\K e
 |some (j,want)=>match guardOf ops st j want with
  |some b=>bif b then jk T tt (o.dst.getD 0) st o fun e=>e.new.all (fun g=>!st.used g)=true/\K e else K Eff.skip
  |none=>False
end Go.Fw

namespace Go.Fw
variable [eP]
theorem mG {α:Type} :∀{l:List (Nat×α)},(l.map (·.1)).Nodup->∀{k:Nat} {v:α},(k,v)∈l->l.lookup k=some v
 | [],_,k,v,h=>by cases h
 |(k0,v0)::l,hn,k,v,h=>by
  simp only [Qf,UB] at hn;simp only [List.lookup];rcases QP.1 h with e | e
  .cases e;simp
  .have hne:(k==k0)=false:=by
    have:k∈l.map (·.1):=QQ.2 ⟨(k,v),e,rfl⟩;have:k≠k0:=fun e=>hn.1 (by rw [<-e];exact this);simpa using this
   rw [hne];exact mG hn.2 e
theorem kM {α:Type} :∀{l:List (Nat×α)} {k:Nat} {v:α},l.lookup k=some v->(k,v)∈l
 | [],k,v,h=>by simp at h
 |(k0,v0)::l,k,v,h=>by
  simp only [List.lookup] at h;split at h
  .rename_i he;have he:k=k0:=by simpa using he
   simp only [Q0] at h;subst he h;simp
  .exact Vi _ (kM h)
def cin (c d:Bool×Bool):Prop:=(c.1=true->d.1=true)/\(c.2=true->d.2=true)
theorem Io (c:Bool×Bool):cin c c:=⟨id,id⟩
theorem um {c c' d:Bool×Bool} (h:cin (xg c c') d):cin c d:=⟨fun e=>h.1 (by simp [xg,e]),fun e=>h.2 (by simp [xg,e])⟩
theorem qp {c c' d:Bool×Bool} (h:cin (xg c c') d):cin c' d:=⟨fun e=>h.1 (by simp [xg,e]),fun e=>h.2 (by simp [xg,e])⟩
def Cio (I:Bool×Bool) (a i a' i':Bool):Prop:=a'=false/\i'=true/\cin (a,i) I
section
variable {o:Nat->O} {ins:List P} {m:Nat->Option Nat} {nil:Nat->Prop} {I:Bool×Bool}
theorem WU {a i:Bool} {a' i':Bool} (h:(WS.p a' i').flags a i=true):a'=a/\i'=i:=by
 simp only [WS.flags,Q6,beq_iff_eq] at h;exact ⟨h.1.symm,h.2.symm⟩
theorem Ae {C:Bool->Bool->Bool->Bool->Prop} :∀{gs:List Nat} {caps:List W} {r:List (Nat×Nat)},nP gs caps=some r->(∀p∈r,m p.1=some p.2)->caps.length=(gI gs).length/\∀(j:Nat) x y,caps[j]?=some x->(gI gs)[j]?=some y->Ww C m nil x y
 | [],[],r,_,_=>⟨rfl,fun j x y hx=>by simp at hx⟩
 | [],_::_,r,h,_=>by simp [nP] at h
 |_::_,[],r,h,_=>by simp [nP] at h
 |g'::gs,c::cs,r,h,hm=>by
  cases c with
  |box g off=>
   cases off with
   |succ off=>simp [nP] at h
   |zero=>
    simp only [nP] at h;split at h
    .rename_i r' hr';simp only [Q0] at h;subst h;obtain ⟨e1,e2⟩:=Ae (C:=C) hr' (fun p hp=>hm p (by simp [hp]));refine ⟨by simp [gI,e1],fun j x y hx hy => ?_⟩;cases j with
     |zero=>
      simp [gI] at hx hy;subst hx hy;exact .box (hm (g',g) (by simp))
     |succ j=>simp [gI] at hx hy;exact e2 j x y hx hy
    .cases h
  |_=>simp [nP] at h
theorem ajc {k:WS} {x:W} {us:List P} {c:Bool×Bool} {r:List (Nat×Nat)} {n:Nat} (h:Ur k x=some (us,c,r)) (hk:k.flags false true=true) (hc:cin c I) (hm :∀p∈r,m p.1=some p.2) (ha:At ins n us) :
  Ww (Cio I) m nil x (qo ins n k).1/\(qo ins n k).2=n+us.length:=by
 cases k with
 |p a' i'=>
  obtain ⟨rfl,rfl⟩:=WU hk;cases x with
  |p a i y=>
   simp only [Ur,Q0,Q1] at h;obtain ⟨rfl,rfl,rfl⟩:=h;exact ⟨by simp only [qo,ha.head];exact .p y ⟨rfl,rfl,hc⟩,rfl⟩
  |dF=>
   simp only [Ur,Q0,Q1] at h;obtain ⟨rfl,rfl,rfl⟩:=h;exact ⟨by simp only [qo,ha.head];exact .ai9 _ _ _,rfl⟩
  |_=>simp [Ur] at h
 |own g'=>
  cases x with
  |own g=>
   simp only [Ur,Q0,Q1] at h;obtain ⟨rfl,rfl,rfl⟩:=h;exact ⟨.own (hm (g',g) (by simp)),rfl⟩
  |_=>simp [Ur] at h
 |box g' off'=>
  cases x with
  |box g off=>
   cases off' with
   |succ n=>simp [Ur] at h
   |zero=>
    cases off with
    |succ n=>simp [Ur] at h
    |zero=>
     simp only [Ur,Q0,Q1] at h;obtain ⟨rfl,rfl,rfl⟩:=h;exact ⟨.box (hm (g',g) (by simp)),rfl⟩
  |_=>simp [Ur] at h
 |fn f gs=>
  cases x with
  |clo f' caps=>
   simp only [Ur] at h;split at h
   .rename_i hf;subst hf;split at h
    .rename_i r' hr';simp only [Q0,Q1] at h;obtain ⟨rfl,rfl,rfl⟩:=h;obtain ⟨e1,e2⟩:=Ae (C:=Cio I) (nil:=nil) hr' hm;exact ⟨.clo f caps (gI gs) e1 e2,rfl⟩
    .cases h
   .cases h
  |_=>simp [Ur] at h
 |_=>simp [Ur] at h
theorem WV :∀{ks:List WS} {xs:List W} {us:List P} {c:Bool×Bool} {r:List (Nat×Nat)} {n:Nat},Oc ks xs=some (us,c,r)->(∀k∈ks,k.flags false true=true)->cin c I->(∀p∈r,m p.1=some p.2)->At ins n us->
  xs.length=(kY ins n ks).1.length/\(∀(j:Nat) x y,xs[j]?=some x->(kY ins n ks).1[j]?=some y->Ww (Cio I) m nil x y)/\(kY ins n ks).2=n+us.length
 | [],xs,us,c,r,n,h,hk,hc,hm,ha=>by
  cases xs with
  |nil=>simp [Oc] at h;obtain ⟨rfl,_⟩:=h;exact ⟨rfl,fun j x y hx=>by simp at hx,rfl⟩
  |cons x xs=>simp [Oc] at h
 |k::ks,xs,us,c,r,n,h,hk,hc,hm,ha=>by
  cases xs with
  |nil=>simp [Oc] at h
  |cons x xs=>
   simp only [Oc] at h;split at h
   .rename_i u c1 r1 u' c2 r2 h1 h2;simp only [Q0,Q1] at h;obtain ⟨rfl,rfl,rfl⟩:=h;obtain ⟨a1,a2⟩:=ajc (nil:=nil) h1 (hk k (by simp)) (um hc) (fun p hp=>hm p (by simp [hp])) ha.left;have ih:=WV (n:=n+u.length) h2 (fun k hk'=>hk k (by simp [hk'])) (qp hc) (fun p hp=>hm p (by simp [hp])) ha.right;simp only [kY,a2];refine ⟨by simp [ih.1],fun j x' y' hx hy => ?_,by rw [ih.2.2];simp;omega⟩;cases j with
    |zero=>simp at hx hy;subst hx hy;exact a1
    |succ j=>simp at hx hy;exact ih.2.1 j x' y' hx hy
   .cases h
theorem uq :∀{L:List (Nat×OS)} {ren ren':List (Nat×Nat)} {us:List P} {c:Bool×Bool} {n:Nat},jG o ren L=some (us,c,ren')->
  (∀p∈L,match p.2 with | .box ws =>∀k∈ws,k.flags false true=true | .arr fz a i _=>fz=false/\a=false/\i=true | .aO a i _ _=>a=false/\i=true | .it=>False)->cin c I->(∀p∈ren',m p.1=some p.2)->At ins n us->
  (∃r,ren'=ren++r)/\∀g' x,(gJ ins n L).1.lookup g'=some x->∃g,m g'=some g/\Ow (Cio I) m nil (o g) x/\(g',g)∈ren'/\(o g).bP=true/\((∃ws,x=.box ws)\/(∃l sz,x=.arr false false true sz l)\/∃l sz aj,x=.aO false true sz aj l Option.none)
 | [],ren,ren',us,c,n,h,hk,hc,hm,ha=>by
  simp only [jG,Q0,Q1] at h;obtain ⟨rfl,rfl,rfl⟩:=h;exact ⟨⟨[],by simp⟩,fun g' x hx=>by simp [gJ] at hx⟩
 |(g0,k)::L,ren,ren',us,c,n,h,hk,hc,hm,ha=>by
  simp only [jG] at h;split at h
  .rename_i g hg;split at h
   .rename_i ks ws hog;split at h
    .rename_i u c1 r1 h1;split at h
     .rename_i u' c2 r2 h2;simp only [Q0,Q1] at h;obtain ⟨rfl,rfl,rfl⟩:=h;have hk0:=hk (g0,.box ks) (by simp);have ih:=fun hm'=>uq (n:=n+u.length) h2 (fun p hp=>hk p (by simp [hp])) (qp hc) hm' ha.right;obtain ⟨⟨r,hr⟩,ih⟩:=ih hm;obtain ⟨b0,b1,b2⟩:=WV (nil:=nil) h1 hk0 (um hc) (fun p hp=>hm p (by rw [hr];simp [hp])) ha.left;simp only [gJ,ug,b2];refine ⟨⟨r1++r,by rw [hr,Wf]⟩,fun g' x hx => ?_⟩;simp only [List.lookup] at hx;split at hx
      .rename_i he;have he:g'=g0:=by simpa using he
       subst he;simp only [Q0] at hx;subst hx;have hmem:(g',g)∈r2:=by rw [hr,Wf];exact ZZ _ (kM hg)
       exact ⟨g,hm _ hmem,by rw [hog];exact .box _ _ b0 b1,hmem,by rw [hog];rfl,.inl ⟨_,rfl⟩⟩
      .exact ih g' x hx
     .cases h
    .cases h
   .rename_i fz0 a0 i0 sz a i sz' l hog;split at h
    .rename_i hsz;split at h
     .rename_i u' c2 r2 h2;simp only [Q0,Q1] at h;obtain ⟨rfl,rfl,rfl⟩:=h;subst hsz;have hk0:=hk (g0,.arr fz0 a0 i0 sz) (by simp);obtain ⟨rfl,rfl,rfl⟩:=hk0;have hhead:At ins n [P.fP sz l]:=fun k y hk=>ha k y (by cases k with | zero=>simpa using hk | succ k=>simp at hk);have htail:At ins (n+1) u':=fun k y hk=>by
       have:=ha (k+1) y (by simpa using hk);rw [<-this];congr 1;omega
      obtain ⟨⟨r,hr⟩,ih⟩:=uq (n:=n+1) h2 (fun p hp=>hk p (by simp [hp])) (qp hc) hm htail;simp only [gJ,ug,hhead.head,P.oC];refine ⟨⟨r,hr⟩,fun g' x hx => ?_⟩;simp only [List.lookup] at hx;split at hx
      .rename_i he;have he:g'=g0:=by simpa using he
       subst he;simp only [Q0] at hx;subst hx;have hmem:(g',g)∈r2:=by rw [hr];exact ZZ _ (kM hg)
       exact ⟨g,hm _ hmem,by rw [hog];exact .arr false sz l ⟨rfl,rfl,um hc⟩,hmem,by rw [hog];rfl,.inr (.inl ⟨_,_,rfl⟩)⟩
      .exact ih g' x hx
     .cases h
    .cases h
   .rename_i a0 i0 sz aj a i sz' kG l hog;split at h
    .rename_i hsz;obtain ⟨rfl,rfl⟩:=hsz;split at h
     .rename_i u' c2 r2 h2;simp only [Q0,Q1] at h;obtain ⟨rfl,rfl,rfl⟩:=h;have hk0:=hk (g0,.aO a0 i0 sz aj) (by simp);obtain ⟨rfl,rfl⟩:=hk0;have hhead:At ins n [P.fP sz l]:=fun k y hk=>ha k y (by cases k with | zero=>simpa using hk | succ k=>simp at hk);have htail:At ins (n+1) u':=fun k y hk=>by
       have:=ha (k+1) y (by simpa using hk);rw [<-this];congr 1;omega
      obtain ⟨⟨r,hr⟩,ih⟩:=uq (n:=n+1) h2 (fun p hp=>hk p (by simp [hp])) (qp hc) hm htail;simp only [gJ,ug,hhead.head,P.oC];refine ⟨⟨r,hr⟩,fun g' x hx => ?_⟩;simp only [List.lookup] at hx;split at hx
      .rename_i he;have he:g'=g0:=by simpa using he
       subst he;simp only [Q0] at hx;subst hx;have hmem:(g',g)∈r2:=by rw [hr];exact ZZ _ (kM hg)
       exact ⟨g,hm _ hmem,by rw [hog];exact .aO sz aj l ⟨rfl,rfl,um hc⟩,hmem,by rw [hog];rfl,.inr (.inr ⟨_,_,_,rfl⟩)⟩
      .exact ih g' x hx
     .cases h
    .cases h
   .cases h
  .cases h
end
section
variable {E E':Env} {st est:St} {gh lH:Nat->Gh} {w:World} {ins:List P} {A:Bool×Bool} {u_:List Nat} {m:Nat->Option Nat} {nil:Nat->Prop} {C:Bool->Bool->Bool->Bool->Prop}
theorem QD (hP :∀x v y a i gs,fB E st gh w x v->x.toP st.o=some (y,a,i,gs)->cin (a,i) A->(∀g∈gs,g∈u_)->dh w (E'.ok est lH w true false) y v) (hC:Cast C m nil E E' st est gh lH w)
  {k:WS} {x:W} {v:Value} {us:List P} {c:Bool×Bool} {gs:List Nat} {r:List (Nat×Nat)} {n:Nat} (h:fK st.o k x=some (us,c,gs,r)) (hk:k.flags true false=true) (hc:cin c A) (hgs :∀g∈gs,g∈u_)
  (hm :∀p∈r,m p.1=some p.2) (ha:At ins n us) (hr:fB E st gh w x v):fB E' est lH w (qo ins n k).1 v/\(qo ins n k).2=n+us.length:=by
 cases k with
 |p a' i'=>
  obtain ⟨rfl,rfl⟩:=WU hk;simp only [fK] at h;split at h
  .rename_i y a i gs' ht;simp only [Q0,Q1] at h;obtain ⟨rfl,rfl,rfl,rfl⟩:=h;exact ⟨by simp only [qo,ha.head];exact .p _ _ _ _ (hP _ _ _ _ _ _ hr ht hc hgs),rfl⟩
  .cases h
 |own g'=>
  cases x with
  |own g=>
   simp only [fK,Q0,Q1] at h;obtain ⟨rfl,rfl,rfl,rfl⟩:=h;exact ⟨hC.zU (.own (hm (g',g) (by simp))) hr,rfl⟩
  |_=>simp [fK] at h
 |box g' off=>
  cases x with
  |box g off'=>
   cases off with
   |succ off=>simp [fK] at h
   |zero=>
    cases off' with
    |succ off'=>simp [fK] at h
    |zero=>
     simp only [fK,Q0,Q1] at h;obtain ⟨rfl,rfl,rfl,rfl⟩:=h;exact ⟨hC.zU (.box (hm (g',g) (by simp))) hr,rfl⟩
  |_=>cases off<;>simp [fK] at h
 |fn f gs0=>
  cases x with
  |clo f' caps=>
   simp only [fK] at h;split at h
   .rename_i hf;subst hf;split at h
    .rename_i r' hr';simp only [Q0,Q1] at h;obtain ⟨rfl,rfl,rfl,rfl⟩:=h;obtain ⟨e1,e2⟩:=Ae (C:=C) (nil:=nil) hr' hm;exact ⟨hC.zU (.clo f caps (gI gs0) e1 e2) hr,rfl⟩
    .cases h
   .cases h
  |_=>simp [fK] at h
 |_=>simp [fK] at h
theorem LH (hP :∀x v y a i gs,fB E st gh w x v->x.toP st.o=some (y,a,i,gs)->cin (a,i) A->(∀g∈gs,g∈u_)->dh w (E'.ok est lH w true false) y v) (hC:Cast C m nil E E' st est gh lH w) :
  ∀{ks:List WS} {xs:List W} {cs:List Value} {us:List P} {c:Bool×Bool} {gs:List Nat} {r:List (Nat×Nat)} {n:Nat},jJ st.o ks xs=some (us,c,gs,r)->(∀k∈ks,k.flags true false=true)->cin c A->(∀g∈gs,g∈u_)->
   (∀p∈r,m p.1=some p.2)->At ins n us->xs.length=cs.length->(∀(j:Nat) x v,xs[j]?=some x->cs[j]?=some v->fB E st gh w x v)->
   (kY ins n ks).1.length=cs.length/\(∀(j:Nat) x v,(kY ins n ks).1[j]?=some x->cs[j]?=some v->fB E' est lH w x v)/\(kY ins n ks).2=n+us.length
 | [],xs,cs,us,c,gs,r,n,h,hk,hc,hgs,hm,ha,hl,hr=>by
  cases xs with
  |nil=>simp [jJ] at h;obtain ⟨rfl,_⟩:=h;exact ⟨hl,fun j x v hx=>by simp [kY] at hx,rfl⟩
  |cons x xs=>simp [jJ] at h
 |k::ks,xs,cs,us,c,gs,r,n,h,hk,hc,hgs,hm,ha,hl,hr=>by
  cases xs with
  |nil=>simp [jJ] at h
  |cons x xs=>
   cases cs with
   |nil=>simp at hl
   |cons v cs=>
    simp only [jJ] at h;split at h
    .rename_i u c1 g1 r1 u' c2 g2 r2 h1 h2;simp only [Q0,Q1] at h;obtain ⟨rfl,rfl,rfl,rfl⟩:=h;obtain ⟨a1,a2⟩:=QD hP hC h1 (hk k (by simp)) (um hc) (fun g hg=>hgs g (by simp [hg])) (fun p hp=>hm p (by simp [hp])) ha.left (hr 0 x v rfl rfl);have ih:=LH hP hC (n:=n+u.length) h2 (fun k hk'=>hk k (by simp [hk'])) (qp hc) (fun g hg=>hgs g (by simp [hg])) (fun p hp=>hm p (by simp [hp])) ha.right (by simpa using hl)
      (fun j a b ha hb=>hr (j+1) a b (by simpa using ha) (by simpa using hb))
     simp only [kY,a2];refine ⟨by simp [ih.1],fun j x' v' hx hv => ?_,by rw [ih.2.2];simp;omega⟩;cases j with
     |zero=>simp at hx hv;subst hx hv;exact a1
     |succ j=>simp at hx hv;exact ih.2.1 j x' v' hx hv
    .cases h
theorem aby (hP :∀x v y a i gs,fB E st gh w x v->x.toP st.o=some (y,a,i,gs)->cin (a,i) A->(∀g∈gs,g∈u_)->dh w (E'.ok est lH w true false) y v) (hC:Cast C m nil E E' st est gh lH w)
  {k:SS} {x:S} {v:Value} {us:List P} {c:Bool×Bool} {gs:List Nat} {r:List (Nat×Nat)} {n:Nat} (h:oH st.o k x=some (us,c,gs,r)) (hk:k.flags true false=true) (hc:cin c A) (hgs :∀g∈gs,g∈u_)
  (hm :∀p∈r,m p.1=some p.2) (ha:At ins n us) (hr:dI E st gh w x v):dI E' est lH w (mkS ins n k).1 v/\(mkS ins n k).2=n+us.length:=by
 cases k with
 |one k=>
  cases x with
  |v x=>
   cases x with
   |one x=>
    obtain ⟨a1,a2⟩:=QD hP hC h hk hc hgs hm ha hr.dH;exact ⟨dI.H6 a1,a2⟩
   |agg xs=>simp [oH] at h
  |_=>simp [oH] at h
 |agg ks=>
  cases x with
  |v x=>
   cases x with
   |one x=>simp [oH] at h
   |agg xs=>
    obtain ⟨cs,hv,hl,hone,hrr⟩:=hr.Gx;simp only [SS.flags,X2] at hk;obtain ⟨a0,a1,a2⟩:=LH hP hC h hk hc hgs hm ha hl hrr;subst hv;exact ⟨.v _ _ (.agg _ cs a0 hone a1),a2⟩
  |_=>simp [oH] at h
theorem BQ (hP :∀x v y a i gs,fB E st gh w x v->x.toP st.o=some (y,a,i,gs)->cin (a,i) A->(∀g∈gs,g∈u_)->dh w (E'.ok est lH w true false) y v) (hC:Cast C m nil E E' st est gh lH w) {args:List S} {vals:Nat->Value}
  (hr :∀t,dI E st gh w (args.getD t .no) (vals t)) :
  ∀{L:List (Nat×SS)} {us:List P} {c:Bool×Bool} {gs:List Nat} {r:List (Nat×Nat)} {n:Nat},eY st.o args L=some (us,c,gs,r)->(∀p∈L,p.2.flags true false=true)->cin c A->(∀g∈gs,g∈u_)->
   (∀p∈r,m p.1=some p.2)->At ins n us->(∀t x,(dG ins n L).1.lookup t=some x->dI E' est lH w x (vals t))/\(dG ins n L).2=n+us.length
 | [],us,c,gs,r,n,h,hk,hc,hgs,hm,ha=>by
  simp [eY] at h;obtain ⟨rfl,_⟩:=h;exact ⟨fun t x hx=>by simp [dG] at hx,rfl⟩
 |(t0,k)::L,us,c,gs,r,n,h,hk,hc,hgs,hm,ha=>by
  simp only [eY] at h;split at h
  .rename_i u c1 g1 r1 u' c2 g2 r2 h1 h2;simp only [Q0,Q1] at h;obtain ⟨rfl,rfl,rfl,rfl⟩:=h;obtain ⟨a1,a2⟩:=aby hP hC h1 (hk (t0,k) (by simp)) (um hc) (fun g hg=>hgs g (by simp [hg])) (fun p hp=>hm p (by simp [hp])) ha.left (hr t0);have ih:=BQ hP hC hr (n:=n+u.length) h2 (fun p hp=>hk p (by simp [hp])) (qp hc) (fun g hg=>hgs g (by simp [hg])) (fun p hp=>hm p (by simp [hp])) ha.right;simp only [dG,a2];refine ⟨fun t x hx => ?_,by rw [ih.2];simp;omega⟩;simp only [List.lookup] at hx;split at hx
   .rename_i he;have he:t=t0:=by simpa using he
    subst he;simp only [Q0] at hx;subst hx;exact a1
   .exact ih.1 t x hx
  .cases h
end
end Go.Fw

namespace Go.Fw
variable [eP]
def Enters (Pg:Program) (f:FuncId):Prop :=∀(args:Array Value) (w:World),(callFunc f args).run Pg w=.ok (.enter f args) w
def Zd (rs:List Value):Value:=match rs with
 | [v]=>v
 |vs=>.tuple vs.toArray
def Sound (Pg:Program) (f:FuncId) (sp:Spec):Prop:=sp.sig.ok=true/\Enters Pg f/\
 ∀(E:Env) (w:World) (vals:List Value) (gh:Nat->Gh) (ins bW:List P),sp.R ins bW->E.B0=w.heap.size->E.w0=w->Rel E (mk sp.sig.pin ins) gh (fun k=>vals.getD k undef) w->vals.length=sp.sig.bD->
  Calls Pg f vals.toArray w fun e w' =>∃(rs:List Value) (bM:Nat->Gh),rs.length=sp.sig.dA/\e=.returned (Zd rs)/\Rel E (mk sp.sig.aQ bW) bM (fun k=>rs.getD k undef) w'/\∀g∈sp.sig.aY,((bM g).ad=(gh g).ad/\(bM g).cap=(gh g).cap)/\((mk sp.sig.pin ins).o g).like ((mk sp.sig.aQ bW).o g)
theorem afk {o:Nat->O} {x:W} {y:P} {a i:Bool} {gs:List Nat} (h:x.toP o=some (y,a,i,gs)):xC o gs:=by
 cases x<;>simp only [W.toP] at h
 case p=>simp only [Q0,Q1] at h;obtain ⟨_,_,_,rfl⟩:=h;exact xC.nil
 case dF=>simp only [Q0,Q1] at h;obtain ⟨_,_,_,rfl⟩:=h;exact xC.nil
 case own g=>
  split at h
  .rename_i ho;simp only [Q0,Q1] at h;obtain ⟨_,_,_,rfl⟩:=h;exact vK ho
  .cases h
 case vw g lo hi=>
  split at h
  .rename_i ho;simp only [Q0,Q1] at h;obtain ⟨_,_,_,rfl⟩:=h;exact vK ho
  .cases h
 all_goals cases h
theorem QE {o:Nat->O} {k:WS} {x:W} {us:List P} {c:Bool×Bool} {gs:List Nat} {r:List (Nat×Nat)} (h:fK o k x=some (us,c,gs,r)):xC o gs:=by
 cases k with
 |p a i=>
  simp only [fK] at h;split at h
  .rename_i ht;simp only [Q0,Q1] at h;obtain ⟨_,_,rfl,_⟩:=h;exact afk ht
  .cases h
 |own g'=>cases x<;>simp [fK] at h;obtain ⟨_,_,rfl,_⟩:=h;exact xC.nil
 |box g' off=>
  cases off with
  |succ off=>cases x<;>simp [fK] at h
  |zero=>
   cases x with
   |box g off=>cases off<;>simp [fK] at h;obtain ⟨_,_,rfl,_⟩:=h;exact xC.nil
   |_=>simp [fK] at h
 |dF=>simp [fK] at h
 |fn f gs0=>
  cases x with
  |clo f' caps=>
   simp only [fK] at h;split at h
   .split at h
    .simp only [Q0,Q1] at h;obtain ⟨_,_,rfl,_⟩:=h;exact xC.nil
    .cases h
   .cases h
  |_=>simp [fK] at h
 |nH g'=>simp [fK] at h
 |no=>simp [fK] at h
 |vw g'=>simp [fK] at h
 |ep g' off=>simp [fK] at h
theorem LJ {o:Nat->O} :∀{ks:List WS} {xs:List W} {us:List P} {c:Bool×Bool} {gs:List Nat} {r:List (Nat×Nat)},jJ o ks xs=some (us,c,gs,r)->xC o gs
 | [],xs,us,c,gs,r,h=>by
  cases xs<;>simp [jJ] at h;obtain ⟨_,_,rfl,_⟩:=h;exact xC.nil
 |k::ks,xs,us,c,gs,r,h=>by
  cases xs with
  |nil=>simp [jJ] at h
  |cons x xs=>
   simp only [jJ] at h;split at h
   .rename_i h1 h2;simp only [Q0,Q1] at h;obtain ⟨_,_,rfl,_⟩:=h;exact (QE h1).append (LJ h2)
   .cases h
theorem vT {o:Nat->O} {args:List S} :∀{L:List (Nat×SS)} {us:List P} {c:Bool×Bool} {gs:List Nat} {r:List (Nat×Nat)},eY o args L=some (us,c,gs,r)->xC o gs
 | [],us,c,gs,r,h=>by simp [eY] at h;obtain ⟨_,_,rfl,_⟩:=h;exact xC.nil
 |(t,k)::L,us,c,gs,r,h=>by
  simp only [eY] at h;split at h
  .rename_i h1 h2;simp only [Q0,Q1] at h;obtain ⟨_,_,rfl,_⟩:=h;refine xC.append ?_ (vT h2)
   .cases k with
    |one k=>
     generalize args.getD t S.no=z at h1;cases z with
     |v z=>
      cases z with
      |one z=>exact QE h1
      |agg z=>simp [oH] at h1
     |_=>simp [oH] at h1
    |agg ks=>
     generalize args.getD t S.no=z at h1;cases z with
     |v z=>
      cases z with
      |one z=>simp [oH] at h1
      |agg z=>exact LJ h1
     |_=>simp [oH] at h1
  .cases h
theorem vU {vs:List P} :∀{L:List (Nat×OS)} {n g:Nat},g∈L.map (·.1)->∃x,(gJ vs n L).1.lookup g=some x
 | [],n,g,h=>by simp at h
 |(g0,k)::L,n,g,h=>by
  simp only [gJ,List.lookup];by_cases e:g=g0
  .subst e;simp
  .have:(g==g0)=false:=by simpa using e
   rw [this];exact vU (by simpa [e] using h)
theorem kZ {vs:List P} :∀{L:List (Nat×OS)} {n g:Nat} {x:O},(gJ vs n L).1.lookup g=some x->∃k n',(g,k)∈L/\x=(ug vs n' k).1
 | [],n,g,x,h=>by simp [gJ] at h
 |(g0,k)::L,n,g,x,h=>by
  simp only [gJ,List.lookup] at h;split at h
  .rename_i e;have e:g=g0:=by simpa using e
   subst e;simp only [Q0] at h;exact ⟨k,n,by simp,h.symm⟩
  .obtain ⟨k',n',h1,h2⟩:=kZ h;exact ⟨k',n',by simp [h1],h2⟩
theorem xQ {vs:List P} :∀{L:List (Nat×SS)} {n t:Nat} {x:S},(dG vs n L).1.lookup t=some x->∃k n',(t,k)∈L/\x=(mkS vs n' k).1
 | [],n,t,x,h=>by simp [dG] at h
 |(t0,k)::L,n,t,x,h=>by
  simp only [dG,List.lookup] at h;split at h
  .rename_i e;have e:t=t0:=by simpa using e
   subst e;simp only [Q0] at h;exact ⟨k,n,by simp,h.symm⟩
  .obtain ⟨k',n',h1,h2⟩:=xQ h;exact ⟨k',n',by simp [h1],h2⟩
theorem LK (vs:List P) (n:Nat) (k:WS):(qo vs n k).1.names=k.names:=by
 cases k with
 |fn f gs=>simp only [qo,uj,vS,WS.names]
 |_=>simp [qo,W.names,WS.names]
theorem Af (vs:List P) :∀(n:Nat) (ks:List WS),(kY vs n ks).1.flatMap W.names=ks.flatMap WS.names
 |n,[]=>rfl
 |n,k::ks=>by simp [kY,LK,Af vs _ ks]
theorem Ze (vs:List P) (n:Nat) (k:SS):(mkS vs n k).1.names=k.names:=by
 cases k with
 |one k=>simpa [mkS,S.names,V.names,SS.names] using LK vs n k
 |agg ks=>simpa [mkS,S.names,V.names,SS.names] using Af vs n ks
theorem Zf (vs:List P) (n:Nat) (k:OS):(ug vs n k).1.names=k.names:=by
 cases k with
 |box ks=>simpa [ug,O.names,OS.names] using Af vs n ks
 |arr=>simp [ug,O.names,OS.names]
 |it=>simp [ug,O.names,OS.names]
 |aO=>simp [ug,O.names,OS.names,dK]
theorem UM {j:Shape} {vs:List P} {g:Nat} (h:(mk j vs).o g≠.none):(gJ vs (dG vs 0 j.slots).2 j.bg).1.lookup g=some ((mk j vs).o g):=by
 unfold mk at h ⊢;simp only at h ⊢;split at h
 .rename_i x hx;rw [hx]
 .exact absurd rfl h
theorem LM {j:Shape} {vs:List P} {g:Nat} (h:g∉j.nms):(mk j vs).o g=.none:=by
 by_cases hn:(mk j vs).o g=.none
 .exact hn
 .obtain ⟨k,n',h1,h2⟩:=kZ (UM hn);exact absurd (QQ.2 ⟨_,h1,rfl⟩) h
theorem ahM {j:Shape} (hj:j.ok=true) (vs:List P):(∀t,∀g∈((mk j vs).s t).names,(mk j vs).used g=true)/\(∀g,∀g'∈((mk j vs).o g).names,(mk j vs).used g'=true)/\∀g,(mk j vs).o g≠.none->(mk j vs).used g=true:=by
 simp only [Q6,Shape.ok,X2,Wm,decide_eq_true_eq] at hj;refine ⟨fun t g hg => ?_,fun g g' hg' => ?_,fun g hg => ?_⟩
 .have hg:g∈(match (dG vs 0 j.slots).1.lookup t with | some x=>x | none=>S.no).names:=hg;cases hx:(dG vs 0 j.slots).1.lookup t with
  |none=>rw [hx] at hg;simp [S.names] at hg
  |some x=>
   rw [hx] at hg;obtain ⟨k,n',h1,h2⟩:=xQ hx;subst h2;simp only at hg;rw [Ze] at hg;simpa [mk] using hj.1.2 _ h1 g hg
 .by_cases hn:(mk j vs).o g=.none
  .rw [hn] at hg';simp [O.names] at hg'
  .obtain ⟨k,n',h1,h2⟩:=kZ (UM hn);rw [h2,Zf] at hg';simpa [mk] using hj.2 _ h1 g' hg'
 .obtain ⟨k,n',h1,h2⟩:=kZ (UM hg);simp only [mk,Wm,decide_eq_true_eq,Shape.nms];exact QQ.2 ⟨_,h1,rfl⟩
section
variable {E:Env} {st:St} {gh:Nat->Gh} {w:World} {val:Nat->Value}
def WW (h:Rel E st gh val w) (st1:St) (c:KQ):Env where
 FA:=fun b=>E.ok st1 gh w c.A.1 c.A.2 b
 FI:=fun b=>E.ok st gh w c.I.1 c.I.2 b
 B0:=w.heap.size
 w0:=w
 Wr:=fun b =>∃p∈c.ren,(st.o p.2).bP=true/\(gh p.2).has b
 hg:=fun g sz rows hg=>by
  obtain ⟨g1,g2,g3⟩:=E.hg g sz rows hg;refine ⟨Wz g1 h.size,?_,fun n x hx=>⟨(g3 n x hx).1,fun j y hy => ?_⟩⟩
  .rintro ⟨p,hp,ho,h1⟩;rcases (h.wr p.2 g ho h1).1 with q | q
   .omega
   .exact g2 q
  .obtain ⟨u,hu1,hu2⟩:=(g3 n x hx).2 j y hy;exact ⟨u,(World.cell?_of_block (w:=E.w0) (h.frame g g1 g2)).trans hu1,hu2.mono fun _ f=>f.elim⟩
theorem EZ {vs:List P} :∀{L:List (Nat×OS)} {n:Nat} {g:Nat} {k:OS},L.lookup g=some k->∃n',(gJ vs n L).1.lookup g=some (ug vs n' k).1
 | [],n,g,k,h=>by cases h
 |(g0,k0)::L,n,g,k,h=>by
  simp only [gJ,List.lookup] at h ⊢;split at h
  .cases h;exact ⟨_,rfl⟩
  .exact EZ h
theorem Oe {j:Shape} {vs:List P} {g:Nat} {k:OS} (h:j.bg.lookup g=some k) :∃n',(mk j vs).o g=(ug vs n' k).1:=by
 obtain ⟨n',h1⟩:=EZ (vs:=vs) (n:=(dG vs 0 j.slots).2) h;refine ⟨n',?_⟩;show (match (gJ vs (dG vs 0 j.slots).2 j.bg).1.lookup g with | some x=>x | none=>O.none)=_;rw [h1]
theorem QF {j:Shape} {vs:List P} {g:Nat} (h:OS.abw (j.bg.lookup g)=true) :∃ws,(mk j vs).o g=.box ws:=by
 cases hl:j.bg.lookup g with
 |none=>rw [hl] at h;cases h
 |some k=>
  rw [hl] at h;cases k with
  |box ks=>obtain ⟨n',h1⟩:=Oe (vs:=vs) hl;exact ⟨_,h1⟩
  |arr=>cases h
  |it=>cases h
  |aO=>cases h
theorem y9.LP {s:y9} (h:s.abx=true) {ins bW:List P} :∀g∈s.aY,((Fw.mk s.pin ins).o g).like ((Fw.mk s.aQ bW).o g):=fun g hg=>by
 have:=(X2.1 h) g hg;simp only [Q6] at this;obtain ⟨ws,e1⟩:=QF (vs:=ins) this.1;obtain ⟨ws',e2⟩:=QF (vs:=bW) this.2;rw [e1,e2];trivial
theorem ni {p:Nat×Nat} :∀{r:List (Nat×Nat)},p∈jT r↔p∈r
 | []=>Iff.rfl
 |q::r=>by
  simp only [jT];cases h:(r.any fun x=>Nat.beq x.1 q.1&&Nat.beq x.2 q.2) with
  |true=>
   simp only [ni (r:=r),QP];refine ⟨.inr,fun hp => ?_⟩;rcases hp with rfl | hp
   .obtain ⟨x,hx,e⟩:=Kx.1 h;simp only [Q6] at e;have e1:=Q4 e.1;have e2:=Q4 e.2;have:x=p:=Prod.ext e1 e2;rw [<-this];exact hx
   .exact hp
  |false=>simp only [QP,ni (r:=r)]
def rV:O->O
 |.arr fz _ _ sz l=>.arr fz false false sz l
 |.aO _ _ sz aj l hole=>.aO false false sz aj l hole
 |x=>x
def tu:O->Bool×Bool
 |.arr _ a i _ _=>(a,i)
 |.aO a i _ _ _ _=>(a,i)
 |_=>(false,false)
def UN:O->Bool
 |.arr _ _ _ _ _=>true
 |.aO _ _ _ _ _ _=>true
 |_=>false
theorem UO {x y:O} (h:rV x=rV y) (hf:tu x=tu y) (ha:UN x=true):x=y:=by
 cases x<;>simp only [UN,W4] at ha<;>cases y<;>simp only [rV,tu,O.arr.injEq,O.aO.injEq,Q1,reduceCtorEq] at h hf
 .obtain ⟨rfl,_,_,rfl,rfl⟩:=h;obtain ⟨rfl,rfl⟩:=hf;rfl
 .obtain ⟨_,_,rfl,rfl,rfl,rfl⟩:=h;obtain ⟨rfl,rfl⟩:=hf;rfl
theorem Zg {s:y9} (hok:s.ok=true) {o:Nat->O} {args:List S} {c:KQ} (hc:g_ s o args=some c) (hf:c.fine s=true) :∀p∈c.ren,UN (o p.2)=true->rV ((mk s.pin c.ins).o p.1)=rV (o p.2):=by
 unfold g_ at hc;split at hc
 .rename_i u A gs r hsl;split at hc
  .rename_i u' I r' hob;simp only [Q0] at hc;subst hc;simp only [KQ.fine,Q6,X2,Ob,Wm,decide_eq_true_eq,W6,decide_eq_false_iff_not,QQ,forall_exists_index,and_imp,forall_apply_eq_imp_iff₂] at hf;obtain ⟨⟨⟨hn2,hn1⟩,hdisj⟩,hkeys⟩:=hf;have hn1:=jw hn1;have hok':=hok;simp only [y9.ok,Q6] at hok';obtain ⟨⟨⟨⟨⟨⟨⟨⟨abz,WY⟩,hps⟩,hpo⟩,_⟩,_⟩,_⟩,_⟩,_⟩:=hok';have hm :∀p∈r',(fun g'=>(jT r').lookup g') p.1=some p.2:=fun p hp=>mG hn1 (ni.2 hp);have hAt:At (u++u') 0 (u++u'):=fun k y hk=>by rw [WD];exact hk
   have ajd :∀p∈s.pin.bg,match p.2 with | .box ws =>∀k∈ws,k.flags false true=true | .arr fz a i _=>fz=false/\a=false/\i=true | .aO a i _ _=>a=false/\i=true | .it=>False:=by
    intro p hp;have:=(X2.1 hpo) p hp;obtain ⟨g,k⟩:=p;cases k with
    |box ws=>
     simp only [Q6,X2] at this;exact fun k hk=>this.1 k hk
    |arr fz a i sz=>
     simp only [Q6,W6] at this;exact ⟨this.1.1,this.1.2,this.2⟩
    |aO a i sz aj=>
     simp only [Q6,W6] at this;exact this
    |it=>simp at this
   have QG:(dG (u++u') 0 s.pin.slots).2=u.length:=by
    have :∀{L:List (Nat×SS)} {us:List P} {c:Bool×Bool} {gs:List Nat} {r:List (Nat×Nat)} {n:Nat} (vs:List P),eY o args L=some (us,c,gs,r)->(∀p∈L,p.2.flags true false=true)->(dG vs n L).2=n+us.length:=by
     intro L
     induction L with
     |nil=>intro us c gs r n vs h _;simp [eY] at h;obtain ⟨rfl,_⟩:=h;rfl
     |cons p L ih=>
      intro us c gs r n vs h hk;obtain ⟨t0,k⟩:=p;simp only [eY] at h;split at h
      .rename_i u c1 g1 r1 u' c2 g2 r2 h1 h2;simp only [Q0,Q1] at h;obtain ⟨rfl,rfl,rfl,rfl⟩:=h;have e1:(mkS vs n k).2=n+u.length:=by
        have hkk:=hk (t0,k) (by simp);have one :∀(k:WS) (x:W) (us:List P) (c:Bool×Bool) (gs:List Nat) (r:List (Nat×Nat)) (n:Nat),fK o k x=some (us,c,gs,r)->(qo vs n k).2=n+us.length:=by
         intro k x us c gs r n h;cases k with
         |p a i=>
          simp only [fK] at h;split at h
          .simp only [Q0,Q1] at h;obtain ⟨rfl,_⟩:=h;rfl
          .cases h
         |own g'=>cases x<;>simp [fK] at h;obtain ⟨rfl,_⟩:=h;rfl
         |box g' off=>
          cases off with
          |succ off=>cases x<;>simp [fK] at h
          |zero=>
           cases x with
           |box g off=>cases off<;>simp [fK] at h;obtain ⟨rfl,_⟩:=h;rfl
           |_=>simp [fK] at h
         |dF=>simp [fK] at h
         |fn f gs0=>
          cases x with
          |clo f' caps=>
           simp only [fK] at h;split at h
           .split at h
            .simp only [Q0,Q1] at h;obtain ⟨rfl,_⟩:=h;rfl
            .cases h
           .cases h
          |_=>simp [fK] at h
         |nH g'=>simp [fK] at h
         |no=>simp [fK] at h
         |vw g'=>simp [fK] at h
         |ep g' off=>simp [fK] at h
        cases k with
        |one k=>
         generalize args.getD t0 S.no=z at h1;cases z with
         |v z=>
          cases z with
          |one z=>exact one k z _ _ _ _ n h1
          |agg z=>simp [oH] at h1
         |_=>simp [oH] at h1
        |agg ks=>
         generalize args.getD t0 S.no=z at h1;cases z with
         |v z=>
          cases z with
          |one z=>simp [oH] at h1
          |agg z=>
           have :∀(ks:List WS) (z:List W) (us:List P) (c:Bool×Bool) (gs:List Nat) (r:List (Nat×Nat)) (n:Nat),jJ o ks z=some (us,c,gs,r)->(kY vs n ks).2=n+us.length:=by
            intro ks
            induction ks with
            |nil=>intro z us c gs r n h;cases z<;>simp [jJ] at h;obtain ⟨rfl,_⟩:=h;rfl
            |cons k ks ih=>
             intro z us c gs r n h;cases z with
             |nil=>simp [jJ] at h
             |cons x xs=>
              simp only [jJ] at h;split at h
              .rename_i u c1 g1 r1 u' c2 g2 r2 h1 h2;simp only [Q0,Q1] at h;obtain ⟨rfl,rfl,rfl,rfl⟩:=h;simp only [kY];rw [one k x _ _ _ _ n h1,ih _ _ _ _ _ _ h2];simp;omega
              .cases h
           exact this ks z _ _ _ _ n h1
         |_=>simp [oH] at h1
       simp only [dG];rw [e1,ih vs h2 (fun p hp=>hk p (by simp [hp]))];simp;omega
      .cases h
    have:=this (n:=0) (u++u') hsl (fun p hp=>by have:=(X2.1 hps) p hp;simp only [Q6] at this;exact this.1);omega
   obtain ⟨⟨r0,hr0⟩,QH⟩:=uq (m:=fun g'=>(jT r').lookup g') (nil:=fun _=>False) (I:=I) (ins:=u++u') (n:=u.length) hob ajd (Io I) hm (by have:=hAt.right;rwa [WD] at this);have DF :∀g' x,(mk s.pin (u++u')).o g'=x->x≠.none->∃g,(jT r').lookup g'=some g/\Ow (Cio I) (fun g'=>(jT r').lookup g') (fun _=>False) (o g) x/\(g',g)∈jT r'/\(o g).bP=true/\((∃ws,x=.box ws)\/(∃l sz,x=.arr false false true sz l)\/∃l sz aj,x=.aO false true sz aj l none):=by
    intro g' x hx hne;have:=UM (j:=s.pin) (vs:=u++u') (g:=g') (by rw [hx];exact hne);rw [QG,hx] at this;obtain ⟨g,k1,k2,k3,k4⟩:=QH g' x this;exact ⟨g,k1,k2,ni.2 k3,k4⟩
   intro p hp ha;have hkey:p.1∈s.pin.bg.map (·.1):=hkeys p hp;obtain ⟨x,hx⟩:=vU (vs:=u++u') (n:=u.length) hkey;obtain ⟨g,hg,how,hmem,hown,hsh⟩:=QH p.1 x hx;have hl:=mG hn1 hp;have:g=p.2:=by have hg':(jT r').lookup p.1=some g:=hg;rw [hl] at hg';exact (Wb hg').symm
   subst this;have hmk:(mk s.pin (u++u')).o p.1=x:=by
    show (match (gJ (u++u') (dG (u++u') 0 s.pin.slots).2 s.pin.bg).1.lookup p.1 with | some x=>x | none=>O.none)=x;rw [QG,hx]
   rw [hmk];generalize hz:o p.2=z at how ha;rcases hsh with ⟨ws,rfl⟩ | ⟨l,sz,rfl⟩ | ⟨l,sz,aj,rfl⟩
   .cases how;cases ha
   .cases how;rfl
   .cases how;rfl
  .cases hc
 .cases hc
theorem UQ (h:Rel E st gh val w) {s:y9} (hok:s.ok=true) {args:List S} {vals:Nat->Value} (hr :∀t,dI E st gh w (args.getD t .no) (vals t)) {c:KQ} (hc:g_ s st.o args=some c) (hf:c.fine s=true)
  (st1:St) (hst1:st1=st.aJ (c.u_.map (Fw.aU st.o)) []) (E':Env) (hE':E'=WW h st1 c) :
  Rel E st1 gh val w/\Lets E st st1 gh gh w w/\Rel E' (mk s.pin c.ins) (jF gh fun g'=>c.ren.lookup g') vals w/\
  (∀p∈c.ren,(st.o p.2).bP=true/\p.2∉c.u_/\c.ren.lookup p.1=some p.2/\((s.aY.contains p.1=true/\∃ws ws',st.o p.2=.box ws/\(mk s.pin c.ins).o p.1=.box ws')\/(∃a i sz l,st.o p.2=.arr false a i sz l/\cin (a,i) c.I/\(mk s.pin c.ins).o p.1=.arr false false true sz l)\/(∃a i sz aj l,st.o p.2=.aO a i sz aj l none/\cin (a,i) c.I/\(mk s.pin c.ins).o p.1=.aO false true sz aj l none))):=by
 unfold g_ at hc;split at hc
 .rename_i u A gs r hsl;split at hc
  .rename_i u' I r' hob;simp only [Q0] at hc;subst hc;simp only [KQ.fine,Q6,X2,Ob,Wm,decide_eq_true_eq,W6,decide_eq_false_iff_not,QQ,forall_exists_index,and_imp,forall_apply_eq_imp_iff₂] at hf;obtain ⟨⟨⟨hn2,hn1⟩,hdisj⟩,hkeys⟩:=hf;have hn1:=jw hn1;have hok':=hok;simp only [y9.ok,Q6] at hok';obtain ⟨⟨⟨⟨⟨⟨⟨⟨abz,WY⟩,hps⟩,hpo⟩,_⟩,_⟩,_⟩,_⟩,_⟩:=hok';have aje:=vT hsl;obtain ⟨f1,f2⟩:=Rel.freezes gs h aje;subst hst1;have hm :∀p∈r',(fun g'=>(jT r').lookup g') p.1=some p.2:=fun p hp=>mG hn1 (ni.2 hp);have hAt:At (u++u') 0 (u++u'):=fun k y hk=>by rw [WD];exact hk
   have ajd :∀p∈s.pin.bg,match p.2 with | .box ws =>∀k∈ws,k.flags false true=true | .arr fz a i _=>fz=false/\a=false/\i=true | .aO a i _ _=>a=false/\i=true | .it=>False:=by
    intro p hp;have:=(X2.1 hpo) p hp;obtain ⟨g,k⟩:=p;cases k with
    |box ws=>
     simp only [Q6,X2] at this;exact fun k hk=>this.1 k hk
    |arr fz a i sz=>
     simp only [Q6,W6] at this;exact ⟨this.1.1,this.1.2,this.2⟩
    |aO a i sz aj=>
     simp only [Q6,W6] at this;exact this
    |it=>simp at this
   have QG:(dG (u++u') 0 s.pin.slots).2=u.length:=by
    have :∀{L:List (Nat×SS)} {us:List P} {c:Bool×Bool} {gs:List Nat} {r:List (Nat×Nat)} {n:Nat} (vs:List P),eY st.o args L=some (us,c,gs,r)->(∀p∈L,p.2.flags true false=true)->(dG vs n L).2=n+us.length:=by
     intro L
     induction L with
     |nil=>intro us c gs r n vs h _;simp [eY] at h;obtain ⟨rfl,_⟩:=h;rfl
     |cons p L ih=>
      intro us c gs r n vs h hk;obtain ⟨t0,k⟩:=p;simp only [eY] at h;split at h
      .rename_i u c1 g1 r1 u' c2 g2 r2 h1 h2;simp only [Q0,Q1] at h;obtain ⟨rfl,rfl,rfl,rfl⟩:=h;have e1:(mkS vs n k).2=n+u.length:=by
        have hkk:=hk (t0,k) (by simp);have one :∀(k:WS) (x:W) (us:List P) (c:Bool×Bool) (gs:List Nat) (r:List (Nat×Nat)) (n:Nat),fK st.o k x=some (us,c,gs,r)->(qo vs n k).2=n+us.length:=by
         intro k x us c gs r n h;cases k with
         |p a i=>
          simp only [fK] at h;split at h
          .simp only [Q0,Q1] at h;obtain ⟨rfl,_⟩:=h;rfl
          .cases h
         |own g'=>cases x<;>simp [fK] at h;obtain ⟨rfl,_⟩:=h;rfl
         |box g' off=>
          cases off with
          |succ off=>cases x<;>simp [fK] at h
          |zero=>
           cases x with
           |box g off=>cases off<;>simp [fK] at h;obtain ⟨rfl,_⟩:=h;rfl
           |_=>simp [fK] at h
         |dF=>simp [fK] at h
         |fn f gs0=>
          cases x with
          |clo f' caps=>
           simp only [fK] at h;split at h
           .split at h
            .simp only [Q0,Q1] at h;obtain ⟨rfl,_⟩:=h;rfl
            .cases h
           .cases h
          |_=>simp [fK] at h
         |nH g'=>simp [fK] at h
         |no=>simp [fK] at h
         |vw g'=>simp [fK] at h
         |ep g' off=>simp [fK] at h
        cases k with
        |one k=>
         generalize args.getD t0 S.no=z at h1;cases z with
         |v z=>
          cases z with
          |one z=>exact one k z _ _ _ _ n h1
          |agg z=>simp [oH] at h1
         |_=>simp [oH] at h1
        |agg ks=>
         generalize args.getD t0 S.no=z at h1;cases z with
         |v z=>
          cases z with
          |one z=>simp [oH] at h1
          |agg z=>
           have :∀(ks:List WS) (z:List W) (us:List P) (c:Bool×Bool) (gs:List Nat) (r:List (Nat×Nat)) (n:Nat),jJ st.o ks z=some (us,c,gs,r)->(kY vs n ks).2=n+us.length:=by
            intro ks
            induction ks with
            |nil=>intro z us c gs r n h;cases z<;>simp [jJ] at h;obtain ⟨rfl,_⟩:=h;rfl
            |cons k ks ih=>
             intro z us c gs r n h;cases z with
             |nil=>simp [jJ] at h
             |cons x xs=>
              simp only [jJ] at h;split at h
              .rename_i u c1 g1 r1 u' c2 g2 r2 h1 h2;simp only [Q0,Q1] at h;obtain ⟨rfl,rfl,rfl,rfl⟩:=h;simp only [kY];rw [one k x _ _ _ _ n h1,ih _ _ _ _ _ _ h2];simp;omega
              .cases h
           exact this ks z _ _ _ _ n h1
         |_=>simp [oH] at h1
       simp only [dG];rw [e1,ih vs h2 (fun p hp=>hk p (by simp [hp]))];simp;omega
      .cases h
    have:=this (n:=0) (u++u') hsl (fun p hp=>by have:=(X2.1 hps) p hp;simp only [Q6] at this;exact this.1);omega
   obtain ⟨⟨r0,hr0⟩,QH⟩:=uq (m:=fun g'=>(jT r').lookup g') (nil:=fun _=>False) (I:=I) (ins:=u++u') (n:=u.length) hob ajd (Io I) hm (by have:=hAt.right;rwa [WD] at this);have DF :∀g' x,(mk s.pin (u++u')).o g'=x->x≠.none->∃g,(jT r').lookup g'=some g/\Ow (Cio I) (fun g'=>(jT r').lookup g') (fun _=>False) (st.o g) x/\(g',g)∈jT r'/\(st.o g).bP=true/\((∃ws,x=.box ws)\/(∃l sz,x=.arr false false true sz l)\/∃l sz aj,x=.aO false true sz aj l none):=by
    intro g' x hx hne;have:=UM (j:=s.pin) (vs:=u++u') (g:=g') (by rw [hx];exact hne);rw [QG,hx] at this;obtain ⟨g,k1,k2,k3,k4⟩:=QH g' x this;exact ⟨g,k1,k2,ni.2 k3,k4⟩
   have iH :∀p∈jT r',(st.o p.2).bP=true/\p.2∉gs/\(jT r').lookup p.1=some p.2/\((s.aY.contains p.1=true/\∃ws ws',st.o p.2=.box ws/\(mk s.pin (u++u')).o p.1=.box ws')\/(∃a i sz l,st.o p.2=.arr false a i sz l/\cin (a,i) I/\(mk s.pin (u++u')).o p.1=.arr false false true sz l)\/(∃a i sz aj l,st.o p.2=.aO a i sz aj l none/\cin (a,i) I/\(mk s.pin (u++u')).o p.1=.aO false true sz aj l none)):=by
    intro p hp;have hkey:p.1∈s.pin.bg.map (·.1):=hkeys p hp;obtain ⟨x,hx⟩:=vU (vs:=u++u') (n:=u.length) hkey;obtain ⟨g,hg,how,hmem,hown,_⟩:=QH p.1 x hx;have hl:=mG hn1 hp;have:g=p.2:=by have hg':(jT r').lookup p.1=some g:=hg;rw [hl] at hg';exact (Wb hg').symm
    subst this;refine ⟨hown,hdisj p hp,hl,?_⟩;have hmk:(mk s.pin (u++u')).o p.1=x:=by
     show (match (gJ (u++u') (dG (u++u') 0 s.pin.slots).2 s.pin.bg).1.lookup p.1 with | some x=>x | none=>O.none)=x;rw [QG,hx]
    obtain ⟨k,n',h1,h2⟩:=kZ hx;have hk:=(X2.1 hpo) _ h1;rw [hmk];subst h2;cases k with
    |box ws=>
     simp only [Q6] at hk;generalize hz:st.o p.2=z at how;cases how;exact .inl ⟨hk.2,_,_,rfl,rfl⟩
    |arr fz a i sz=>
     simp only [Q6,W6] at hk;obtain ⟨⟨rfl,rfl⟩,rfl⟩:=hk;generalize hz:st.o p.2=z at how;refine .inr (.inl ?_);cases how with | arr _ _ _ hc=>exact ⟨_,_,_,_,rfl,hc.2.2,rfl⟩
    |aO a i sz aj=>
     simp only [Q6,W6] at hk;obtain ⟨rfl,rfl⟩:=hk;generalize hz:st.o p.2=z at how;refine .inr (.inr ?_);cases how with | aO _ _ _ hc=>exact ⟨_,_,_,_,_,rfl,hc.2.2,rfl⟩
    |it=>simp at hk
   have pR :∀g' b,((mk s.pin (u++u')).o g').bP=true->(jF gh (fun g'=>(jT r').lookup g') g').has b->∃g,(g',g)∈jT r'/\(st.o g).bP=true/\(gh g).has b/\g∉gs:=by
    intro g' b ho had;obtain ⟨g,hg,_,hmem,hown,_⟩:=DF g' _ rfl (by intro e;rw [e] at ho;cases ho);refine ⟨g,hmem,hown,?_,(iH _ hmem).2.1⟩;simpa [jF,hg] using had
   have alA :∀g,g∉gs->(st.aJ (gs.map (Fw.aU st.o)) []).o g=st.o g:=by
    intro g hg;rw [gy,if_neg hg]
   have hcast:Cast (Cio I) (fun g'=>(jT r').lookup g') (fun _=>False) E E' st (mk s.pin (u++u')) gh (jF gh fun g'=>(jT r').lookup g') w:=by
    refine ⟨fun a i a' i' b hC hb => ?_,fun g g' hg sz len ho=>⟨by simp only [jF,hg];exact ⟨trivial,trivial⟩,?_⟩,fun g g' hg ws ho=>⟨by simp only [jF,hg],?_⟩,fun g g' hg s n ho=>⟨by simp only [jF,hg],?_⟩,fun g' hf=>hf.elim⟩
    .obtain ⟨rfl,rfl,hci⟩:=hC;subst hE';refine ⟨.inr (.inl ⟨rfl,.inl (Env.pq hci.1 hci.2 hb)⟩),hb.2.1,fun g' ho had => ?_⟩;obtain ⟨g,_,h1,h2,_⟩:=pR g' b ho had;exact hb.2.2 g h1 h2
    .obtain ⟨g2,hg2,how,_⟩:=DF g' _ rfl (by intro e;rw [e] at ho;cases ho);rw [hg] at hg2;cases hg2;exact how.dim ho
    .obtain ⟨g2,hg2,how,_⟩:=DF g' _ ho (by simp);rw [hg] at hg2;cases hg2;generalize st.o g=z at how;cases how;exact ⟨_,rfl⟩
    .obtain ⟨g2,hg2,how,_⟩:=DF g' _ ho (by simp);rw [hg] at hg2;cases hg2;generalize st.o g=z at how;cases how;exact ⟨_,_,rfl⟩
   have hP :∀x v y a i gs',fB E st gh w x v->x.toP st.o=some (y,a,i,gs')->cin (a,i) A->(∀g∈gs',g∈gs)->dh w (E'.ok (mk s.pin (u++u')) (jF gh fun g'=>(jT r').lookup g') w true false) y v:=by
    intro x v y a i gs' hrx ht hci hsub;have:=(NT h hrx ht).2 _ (fun g hg=>by rw [gy,if_pos (hsub g hg)]) f1 f2;refine this.mono fun b hb=>⟨?_,rfl⟩;subst hE';refine ⟨.inl ⟨rfl,Env.pq hci.1 hci.2 hb⟩,hb.2.1,fun g' ho had => ?_⟩;obtain ⟨g,_,h1,h2,h3⟩:=pR g' b ho had;exact hb.2.2 g (by rw [alA g h3];exact h1) h2
   have apn :∀p∈s.pin.slots,p.2.flags true false=true:=fun p hp=>by have:=(X2.1 hps) p hp;simp only [Q6] at this;exact this.1
   have sZ:=(BQ hP hcast hr (n:=0) hsl apn (Io A) (fun g hg=>hg) (fun p hp=>hm p (by rw [hr0];exact ZZ _ hp)) hAt.left).1;have hus:=ahM abz (u++u');refine ⟨f1,f2,⟨fun t => ?_,fun g' => ?_,fun g1 g2 b h1 h2 k1 k2 => ?_,fun g' b ho had => ?_,fun g' i b ho had hw => ?_,fun g' ho hd b => ?_,fun b hb => ?_,fun b _ _ => ?_,?_,?_,?_,?_,hus.1,hus.2.1,hus.2.2⟩,iH⟩
   .show dI _ _ _ _ (match (dG (u++u') 0 s.pin.slots).1.lookup t with | some x=>x | none=>.no) _;cases hx:(dG (u++u') 0 s.pin.slots).1.lookup t with
    |none=>exact .no _
    |some x=>exact sZ t x hx
   .by_cases hne:(mk s.pin (u++u')).o g'=.none
    .rw [hne];trivial
    .obtain ⟨g,hg,how,_⟩:=DF g' _ rfl hne;have:jF gh (fun g'=>(jT r').lookup g') g'=gh g:=by simp only [jF,hg]
     rw [this];exact hcast.Bv how (h.bg g)
   .obtain ⟨q1,m1,o1,d1,_⟩:=pR g1 b h1 k1;obtain ⟨q2,m2,o2,d2,_⟩:=pR g2 b h2 k2;have:=h.inj q1 q2 b o1 o2 d1 d2;subst this;have hn2:=jw hn2;have key :∀{l:List (Nat×Nat)},(l.map (·.2)).Nodup->(g1,q1)∈l->(g2,q1)∈l->g1=g2:=by
     intro l
     induction l with
     |nil=>intro _ h;cases h
     |cons p l ih=>
      intro hn e1 e2;simp only [Qf,UB] at hn;rcases QP.1 e1 with f1 | f1<;>rcases QP.1 e2 with f2 | f2
      .rw [<-f1] at f2;cases f2;rfl
      .have:q1∈l.map (·.2):=QQ.2 ⟨(g2,q1),f2,rfl⟩;rw [<-f1] at hn;exact absurd this hn.1
      .have:q1∈l.map (·.2):=QQ.2 ⟨(g1,q1),f1,rfl⟩;rw [<-f2] at hn;exact absurd this hn.1
      .exact ih hn.2 f1 f2
    exact key hn2 m1 m2
   .obtain ⟨g,hmem,h1,h2,_⟩:=pR g' b ho had;subst hE';exact ⟨.inr ⟨(g',g),hmem,h1,h2⟩,(h.wr g b h1 h2).2⟩
   .obtain ⟨g,hg,how,hmem,hown,hsh⟩:=DF g' _ rfl (by intro e;rw [e] at ho;cases ho);rcases hsh with ⟨ws,e⟩ | ⟨l',sz',e⟩ | ⟨l',sz',aj,e⟩
    .rw [e] at ho;cases ho
    .rw [e] at ho;cases ho;rfl
    .rw [e] at ho;cases ho;rfl
   .obtain ⟨g,hg,how,hmem,hown,hsh⟩:=DF g' _ rfl (by intro e;rw [e] at ho;cases ho);have e:jF gh (fun g'=>(jT r').lookup g') g'=gh g:=by simp only [jF,hg]
    rw [e];exact h.ns g hown (by rw [(how.bP ho).2];exact hd) b
   .subst hE';obtain ⟨p,hp,_,h1⟩:=hb;exact (h.wr p.2 b (iH p hp).1 h1).2
   .subst hE';rfl
   .subst hE';exact Ys _
   .subst hE';rfl
   .subst hE';rfl
   .subst hE';rfl
  .cases hc
 .cases hc
end
end Go.Fw

namespace Go.Fw
variable [eP]
def E5 (A I:Bool×Bool) (lk:Bool) (a i a' i':Bool):Prop:=(a',i')=qH A I a i/\(a=true->lk=true)
section
variable {A I:Bool×Bool} {lk:Bool} {m:Nat->Option Nat} {f:Nat->Nat} {aV:List Nat} {vs:List P}
theorem ahN (hm :∀g∈aV,m (f g)=some g) {k:WS} (hk:k.bW aV=true) (hl:k.isA=true->lk=true) (n:Nat) :
  Ww (E5 A I lk) m (fun _=>False) (qo vs n k).1 (Us A I f (qo vs n k).1)/\∀g∈(Us A I f (qo vs n k).1).names,∃g0∈aV,g=f g0:=by
 cases k with
 |p a i=>exact ⟨.p _ ⟨rfl,hl⟩,by simp [qo,Us,W.names]⟩
 |own g=>
  simp only [WS.bW,Wm,decide_eq_true_eq] at hk;exact ⟨.own (hm g hk),fun g' hg'=>⟨g,hk,by simpa [qo,Us,W.names] using hg'⟩⟩
 |dF=>exact ⟨.dF,by simp [qo,Us,W.names]⟩
 |box g off=>
  simp only [WS.bW,Wm,decide_eq_true_eq] at hk;exact ⟨.box (hm g hk),fun g' hg'=>⟨g,hk,by simpa [qo,Us,W.names] using hg'⟩⟩
 |fn fn gs=>
  have hk :∀g∈gs,g∈aV:=by simpa [WS.bW,X2] using hk
  have key :∀(gs:List Nat),(∀g∈gs,g∈aV)->(gI gs).length=(kR f (gI gs)).length/\(∀(j:Nat) x y,(gI gs)[j]?=some x->(kR f (gI gs))[j]?=some y->Ww (E5 A I lk) m (fun _=>False) x y)/\∀g∈(kR f (gI gs)).flatMap W.names,∃g0∈aV,g=f g0:=by
   intro gs
   induction gs with
   |nil=>intro _;exact ⟨rfl,fun j x y hx=>(by simp [gI] at hx),by simp [gI,kR]⟩
   |cons g gs ih=>
    intro h;obtain ⟨e1,e2,e3⟩:=ih fun g hg=>h g (by simp [hg]);refine ⟨by simp [gI,kR,e1],fun j x y hx hy => ?_,fun g' hg' => ?_⟩
    .cases j with
     |zero=>
      simp [gI,kR] at hx hy;subst hx hy;exact .box (hm g (h g (by simp)))
     |succ j=>simp [gI,kR] at hx hy;exact e2 j x y hx hy
    .simp only [gI,kR,Z6,Xs] at hg';rcases hg' with hg' | hg'
     .exact ⟨g,h g (by simp),by simpa [W.names] using hg'⟩
     .exact e3 g' hg'
  obtain ⟨e1,e2,e3⟩:=key gs hk;exact ⟨.clo fn _ _ e1 e2,fun g hg=>by
   have hg:g∈(W.clo fn (kR f (gI gs))).names:=hg;rw [uj] at hg;exact e3 g hg⟩
 |nH g=>cases hk
 |no=>cases hk
 |vw g=>cases hk
 |ep g off=>cases hk
theorem QI :∀{ks:List WS} {n:Nat} {x:W},x∈(kY vs n ks).1->∃k∈ks,∃n',x=(qo vs n' k).1
 | [],n,x,h=>by simp [kY] at h
 |k::ks,n,x,h=>by
  simp only [kY,QP] at h;rcases h with h | h
  .exact ⟨k,by simp,n,h⟩
  .obtain ⟨k',h1,h2⟩:=QI h;exact ⟨k',by simp [h1],h2⟩
theorem abA (hm :∀g∈aV,m (f g)=some g) {ks:List WS} (hk:ks.all (WS.bW aV)=true) (hl:ks.any WS.isA=true->lk=true) (n:Nat) :
  (∀(j:Nat) x y,(kY vs n ks).1[j]?=some x->((kY vs n ks).1.map (Us A I f))[j]?=some y->Ww (E5 A I lk) m (fun _=>False) x y)/\
  ∀g∈((kY vs n ks).1.map (Us A I f)).flatMap W.names,∃g0∈aV,g=f g0:=by
 have key :∀x∈(kY vs n ks).1,Ww (E5 A I lk) m (fun _=>False) x (Us A I f x)/\∀g∈(Us A I f x).names,∃g0∈aV,g=f g0:=by
  intro x hx;obtain ⟨k,h1,n',rfl⟩:=QI hx;exact ahN hm ((X2.1 hk) k h1) (fun h=>hl (Kx.2 ⟨k,h1,h⟩)) n'
 refine ⟨fun j x y hx hy => ?_,fun g hg => ?_⟩
 .rw [XN,hx] at hy;simp only [Z3,Q0] at hy;subst hy;exact (key x (XS hx)).1
 .simp only [Z1,QQ] at hg;obtain ⟨_,⟨x,hx,rfl⟩,hg⟩:=hg;exact (key x hx).2 g hg
theorem alB (hm :∀g∈aV,m (f g)=some g) {k:SS} (hk:k.bW aV=true) (hl:k.isA=true->lk=true) (n:Nat) :
  ∃x,(mkS vs n k).1=.v x/\Vw (E5 A I lk) m (fun _=>False) x (reV A I f x)/\∀g∈(reV A I f x).names,∃g0∈aV,g=f g0:=by
 cases k with
 |one k=>
  obtain ⟨h1,h2⟩:=ahN (vs:=vs) (A:=A) (I:=I) hm hk hl n;exact ⟨_,rfl,.one h1,h2⟩
 |agg ks=>
  obtain ⟨h1,h2⟩:=abA (vs:=vs) (A:=A) (I:=I) hm hk hl n;exact ⟨_,rfl,.agg _ _ (by simp) h1,h2⟩
theorem alC (hm :∀g∈aV,m (f g)=some g) {k:OS} (hk :∀ws,k=.box ws->ws.all (WS.bW aV)=true) (hl:k.isA=true->lk=true) (n:Nat) :
  Ow (E5 A I lk) m (fun _=>False) (ug vs n k).1 (xk A I f (ug vs n k).1)/\∀g∈(xk A I f (ug vs n k).1).names,∃g0∈aV,g=f g0:=by
 cases k with
 |box ks=>
  obtain ⟨h1,h2⟩:=abA (vs:=vs) (A:=A) (I:=I) hm (hk ks rfl) hl n;exact ⟨.box _ _ (by simp) h1,h2⟩
 |arr fz a i sz=>exact ⟨.arr _ _ _ ⟨rfl,hl⟩,by simp [ug,xk,O.names]⟩
 |it=>exact ⟨.it _ _,by simp [ug,xk,O.names]⟩
 |aO a i sz aj=>exact ⟨.aO _ _ _ ⟨rfl,hl⟩,by simp [ug,xk,O.names,dK]⟩
end
theorem LQ {A I:Bool×Bool} {f:Nat->Nat} (x:O):(xk A I f x).bP=x.bP:=by cases x<;>rfl
theorem UR {A I:Bool×Bool} {f:Nat->Nat} (x:O):(xk A I f x).oz=x.oz:=by cases x<;>rfl
theorem afl {A I:Bool×Bool} {f:Nat->Nat} (x:O):(xk A I f x).dim=x.dim:=by cases x<;>rfl
theorem Zh {A I:Bool×Bool} {f:Nat->Nat} {x:O} {i:Bool} (h:(xk A I f x).inner=some i) :∃a i0,x.inner=some i0/\i=(qH A I a i0).2:=by
 cases x with
 |arr fz a i0 sz l=>
  cases fz with
  |false=>cases h;exact ⟨a,i0,rfl,rfl⟩
  |true=>cases h
 |aO a i0 sz aj l hole=>cases h;exact ⟨a,i0,rfl,rfl⟩
 |_=>cases h
theorem afm {A I:Bool×Bool} {f:Nat->Nat} {x:O} {ws:List W} (h:xk A I f x=.box ws) :∃ws',x=.box ws':=by cases x<;>first | exact ⟨_,rfl⟩ | cases h
theorem ajf {A I:Bool×Bool} {f:Nat->Nat} {x:O} {s n:P} (h:xk A I f x=.it s n) :∃s' n',x=.it s' n':=by cases x<;>first | exact ⟨_,_,rfl⟩ | cases h
theorem E8 {d:Nat} {aV:List Nat} {g g':Nat} (hg:g∈aV) (h:newName d aV g=newName d aV g'):g=g':=by
 unfold newName at h;have e:aV.idxOf g=aV.idxOf g':=by omega
 have h1:aV.idxOf g<aV.length:=List.idxOf_lt_length_of_mem hg;have h2:aV.idxOf g'<aV.length:=by omega
 have a1:=List.getElem_idxOf h1;have a2:=List.getElem_idxOf h2;rw [<-a1,<-a2];congr 1
def xR (d:Nat) (aV:List Nat) (g:Nat):Option Nat:=aV.find? fun g0=>newName d aV g0==g
theorem Og {d:Nat} {aV:List Nat} {g:Nat} (hg:g∈aV):xR d aV (newName d aV g)=some g:=by
 unfold xR;cases h:aV.find? fun g0=>newName d aV g0==newName d aV g with
 |none=>have:=List.find?_eq_none.1 h g hg;simp at this
 |some g'=>
  have h1:=qD h;simp only [beq_iff_eq] at h1;rw [E8 (K7 h) h1]
theorem KR {d:Nat} {aV:List Nat} {g g0:Nat} (h:xR d aV g=some g0):g0∈aV/\newName d aV g0=g:=by
 unfold xR at h;exact ⟨K7 h,by simpa using qD h⟩
theorem lI {α:Type} {g:Nat} :∀{l r:List (Nat×α)},(l++r).lookup g=(l.lookup g).or (r.lookup g)
 | [],r=>by simp
 |(k,v)::l,r=>by
  simp only [K4,List.lookup];split
  .rfl
  .exact lI
theorem xU {α:Type} {k:Nat->Nat} {v:Nat->α} {g:Nat} :∀{l:List Nat},(∀g'∈l,k g'≠g)->(l.map fun x=>(k x,v x)).lookup g=none
 | [],_=>rfl
 |x::l,h=>by
  have:(g==k x)=false:=by have:=h x (by simp);simp;exact fun e=>this e.symm
  simp only [Qf,List.lookup,this];exact xU fun g' hg'=>h g' (by simp [hg'])
theorem wP {α:Type} {k:Nat->Nat} {v:Nat->α} {g0:Nat} :∀{l:List Nat},g0∈l->(∀g'∈l,k g'=k g0->g'=g0)->(l.map fun x=>(k x,v x)).lookup (k g0)=some (v g0)
 | [],h,_=>by cases h
 |x::l,h,hi=>by
  simp only [Qf,List.lookup];by_cases e:k x=k g0
  .have:=hi x (by simp) e;subst this;simp
  .have:(k g0==k x)=false:=by simp;exact fun h=>e h.symm
   rw [this];rcases QP.1 h with h | h
   .subst h;exact absurd rfl e
   .exact wP h fun g' hg'=>hi g' (by simp [hg'])
theorem lg {α:Type} {v:Nat×Nat->α} {p:Nat×Nat} :∀{l:List (Nat×Nat)},(l.map (·.2)).Nodup->p∈l->(l.map fun p=>(p.2,v p)).lookup p.2=some (v p)
 | [],_,h=>by cases h
 |x::l,hn,h=>by
  simp only [Qf,UB] at hn;simp only [Qf,List.lookup];rcases QP.1 h with h | h
  .subst h;simp
  .have:(p.2==x.2)=false:=by
    simp only [beq_eq_false_iff_ne];intro e;exact hn.1 (e▸QQ.2 ⟨p,h,rfl⟩)
   rw [this];exact lg hn.2 h
theorem lV {α:Type} {v:Nat×Nat->α} {g:Nat} :∀{l:List (Nat×Nat)},g∉l.map (·.2)->(l.map fun p=>(p.2,v p)).lookup g=none
 | [],_=>rfl
 |x::l,h=>by
  simp only [Qf,QP,not_or] at h;have:(g==x.2)=false:=by simpa using h.1
  simp only [Qf,List.lookup,this];exact lV h.2
theorem O.DX {z:O} (h:O.none.like z):z=.none:=by cases z<;>first | rfl | exact h.elim
theorem O.Ip {x y z:O} (h1:x.like y) (h2:y.like z):z=.none\/x.like z:=.inr (O.like.trans h1 h2)
theorem UU {s:y9} {o:Nat->O} {args:List S} {c:KQ} (hc:g_ s o args=some c):xC o c.u_:=by
 unfold g_ at hc;split at hc
 .rename_i hsl;split at hc
  .simp only [Q0] at hc;subst hc;exact vT hsl
  .cases hc
 .cases hc
theorem Ag {α:Type} {g:Nat} {v:α} :∀{l:List (Nat×α)},l.lookup g=some v->(g,v)∈l
 | [],h=>by cases h
 |(k,x)::l,h=>by
  simp only [List.lookup] at h;split at h
  .rename_i e;simp only [beq_iff_eq] at e;cases h;subst e;simp
  .exact Vi _ (Ag h)
theorem rW {o:Nat->O} :∀{L:List (Nat×OS)} {r r':List (Nat×Nat)} {u:List P} {c:Bool×Bool},jG o r L=some (u,c,r')->(∀p∈r,p∈r')/\∀p∈L,∃q∈r',q.1=p.1
 | [],r,r',u,c,h=>by simp only [jG,Q0,Q1] at h;obtain ⟨_,_,rfl⟩:=h;exact ⟨fun p hp=>hp,fun p hp=>by cases hp⟩
 |(g',k)::rest,r,r',u,c,h=>by
  simp only [jG] at h;split at h
  .rename_i g hg;have hmem:=Ag hg;have fin :∀{r1:List (Nat×Nat)},(∀p∈r,p∈r1)->((∀p∈r1,p∈r')/\∀p∈rest,∃q∈r',q.1=p.1)->(∀p∈r,p∈r')/\∀p∈(g',k)::rest,∃q∈r',q.1=p.1:=by
    intro r1 h1 ⟨h2,h3⟩;refine ⟨fun p hp=>h2 p (h1 p hp),fun p hp => ?_⟩;rcases QP.1 hp with rfl | hp
    .exact ⟨_,h2 _ (h1 _ hmem),rfl⟩
    .exact h3 p hp
   split at h
   .split at h
    .split at h
     .rename_i h2;simp only [Q0,Q1] at h;obtain ⟨_,_,rfl⟩:=h;exact fin (fun p hp=>ZZ _ hp) (rW h2)
     .cases h
    .cases h
   .split at h
    .split at h
     .rename_i h2;simp only [Q0,Q1] at h;obtain ⟨_,_,rfl⟩:=h;exact fin (fun p hp=>hp) (rW h2)
     .cases h
    .cases h
   .split at h
    .split at h
     .rename_i h2;simp only [Q0,Q1] at h;obtain ⟨_,_,rfl⟩:=h;exact fin (fun p hp=>hp) (rW h2)
     .cases h
    .cases h
   .cases h
  .cases h
theorem afn {j:Shape} {vs:List P} {g:Nat} {a i:Bool} {sz:Nat} {aj:List (Nat×Nat)} {l:List (List P)} {hole:Option (Nat×Nat×Nat)} (h:(mk j vs).o g=.aO a i sz aj l hole):hole=none:=by
 have h1:=UM (j:=j) (vs:=vs) (g:=g) (by rw [h];simp);obtain ⟨k,n',_,h2⟩:=kZ h1;rw [h] at h2;cases k<;>simp [ug] at h2;exact h2.2.2.2.2.2
theorem Iq {s:y9} {d:Nat} {o:Nat->O} {c:KQ} {bW:List P} (hf:c.fine s=true) {p:Nat×Nat} (hp:p∈c.ren) (E_:s.aY.contains p.1=true) :
  (iJ s d o c bW).aJ.lookup p.2=some (xk c.A c.I (callName d s c.ren) ((mk s.aQ bW).o p.1)):=by
 simp only [KQ.fine,Q6] at hf;obtain ⟨⟨⟨hn2,hn1⟩,hdisj⟩,hkeys⟩:=hf;have hnb:p.2∉c.u_:=by
  have:=(X2.1 hdisj) p.2 (QQ.2 ⟨p,hp,rfl⟩);simpa using this
 have h1:(if s.mF=true then c.u_.map (aU o) else []).lookup p.2=none:=by
  split
  .have :∀(l:List Nat),p.2∉l->(l.map (aU o)).lookup p.2=none:=by
    intro l
    induction l with
    |nil=>intro _;rfl
    |cons g l ih=>
     intro hl;simp only [QP,not_or] at hl;have e:(p.2==(aU o g).1)=false:=by
      have:(aU o g).1=g:=rfl;rw [this];simpa using hl.1
     simp only [Qf,List.lookup,e];exact ih hl.2
   exact this _ hnb
  .rfl
 have h2:=lg (v:=fun p=>if s.aY.contains p.1=true then xk c.A c.I (callName d s c.ren) ((mk s.aQ bW).o p.1) else .none) (jw hn2) hp;rw [if_pos E_] at h2;show (((if s.mF=true then c.u_.map (aU o) else [])++c.ren.map _)++s.aV.map _).lookup p.2=_;rw [lI,lI,h1,h2];rfl
theorem Zi {s:y9} (hok:s.ok=true) {d:Nat} {o:Nat->O} {args:List S} {c:KQ} (hc:g_ s o args=some c) (hf:c.fine s=true) {bW:List P} {p:Nat×Nat} (hp:p∈c.ren) (E_:s.aY.contains p.1=true)
  (hk:rV ((mk s.aQ bW).o p.1)=rV ((mk s.pin c.ins).o p.1)) (ha:UN (o p.2)=true) (hfl:tu (xk c.A c.I (callName d s c.ren) ((mk s.aQ bW).o p.1))=tu (o p.2)) :
  (iJ s d o c bW).aJ.lookup p.2=some (o p.2):=by
 rw [Iq hf hp E_];have hcore:=hk.trans (Zg hok hc hf p hp ha);have hm:=fun {a i:Bool} {sz:Nat} {aj:List (Nat×Nat)} {l:List (List P)} {hole:Option (Nat×Nat×Nat)}=>afn (j:=s.aQ) (vs:=bW) (g:=p.1) (a:=a) (i:=i) (sz:=sz) (aj:=aj) (l:=l) (hole:=hole);congr 1;generalize (mk s.aQ bW).o p.1=x at hcore hfl hm;have e:rV (xk c.A c.I (callName d s c.ren) x)=rV (o p.2):=by
  rw [<-hcore];cases x with
  |aO a i sz aj l hole=>have:=hm rfl;subst this;rfl
  |arr fz a i sz l=>rfl
  |_=>
   generalize o p.2=z at hcore ha;cases z<;>first | (cases ha;done) | (simp [rV] at hcore;done)
 exact (UO e.symm hfl.symm ha).symm
theorem QJ {s:y9} {o:Nat->O} {args:List S} {c:KQ} (hc:g_ s o args=some c) :∀p∈s.pin.bg,∃q∈c.ren,q.1=p.1:=by
 unfold g_ at hc;split at hc
 .split at hc
  .rename_i E_;simp only [Q0] at hc;subst hc;exact fun p hp=>let ⟨q,h1,h2⟩:=(rW E_).2 p hp;⟨q,ni.2 h1,h2⟩
  .cases hc
 .cases hc
section
variable {E:Env} {st:St} {gh:Nat->Gh} {w:World} {val:Nat->Value}
theorem LU {sp:Spec} (hok:sp.sig.ok=true) (h:Rel E st gh val w) {args:List S} {vals:List Value} (hr :∀t,dI E st gh w (args.getD t .no) (vals.getD t undef))
  {c:KQ} (hc:g_ sp.sig st.o args=some c) (hf:c.fine sp.sig=true) :
  ∃(E':Env) (lH:Nat->Gh),E'.B0=w.heap.size/\E'.w0=w/\Rel E' (mk sp.sig.pin c.ins) lH (fun k=>vals.getD k undef) w/\(∀b,E'.Wr b->∃c e f,w.heap[b]?=some (.cells c e f))/\
  ∀(d:Nat) (bW:List P) (ef:Eff),ef=iJ sp.sig d st.o c bW->(∀g∈ef.new,st.used g=false)->∀(w':World) (rs:List Value) (xJ:Nat->Gh),rs.length=sp.sig.dA->Rel E' (mk sp.sig.aQ bW) xJ (fun k=>rs.getD k undef) w'->(∀g∈sp.sig.aY,((xJ g).ad=(lH g).ad/\(xJ g).cap=(lH g).cap)/\((mk sp.sig.pin c.ins).o g).like ((mk sp.sig.aQ bW).o g))->
   ∃bM,Rel E (st.aJ ef.aJ ef.new) bM val w'/\Lets E st (st.aJ ef.aJ ef.new) gh bM w w'/\dI E (st.aJ ef.aJ ef.new) bM w' ef.x (Zd rs)/\∀g∈ef.x.names,(st.aJ ef.aJ ef.new).used g=true:=by
 have hrr :∀t,dI E st gh w (args.getD t .no) ((fun k=>vals.getD k undef) t):=hr;obtain ⟨h1,hL1,hE,iH⟩:=UQ h hok hrr hc hf _ rfl _ rfl;refine ⟨_,_,rfl,rfl,hE,fun b hb => ?_,fun d bW ef hef hnew w' rs xJ hrl hx UW => ?_⟩
 .obtain ⟨p,hp,ow,e1⟩:=hb;have hO:=h.bg p.2;rcases (iH p hp).2.2.2 with ⟨_,ws,_,e,_⟩ | ⟨a,i,sz,l,e,_⟩ | ⟨a,i,sz,aj,l,e,_⟩
  .rw [e] at hO;obtain ⟨ad',c,e',q1,_,q3,_⟩:=hO;rcases e1 with ⟨ad,k1,k2⟩ | k1
   .rw [k1] at q1;cases q1;rw [<-k2];exact ⟨_,_,_,q3⟩
   .rw [h.ns p.2 ow (by rw [e];rfl) b] at k1;cases k1
  .rw [e] at hO;rcases e1 with ⟨ad,k1,k2⟩ | k1
   .rcases hO with ⟨q1,_⟩ | ⟨ad',c,e',q1,_,q3,_⟩
    .rw [k1] at q1;cases q1
    .rw [k1] at q1;cases q1;rw [<-k2];exact ⟨_,_,_,q3⟩
   .rw [h.ns p.2 ow (by rw [e];rfl) b] at k1;cases k1
  .rw [e] at hO;rcases hO with ⟨q1,_,_,q2⟩ | ⟨ad',c,e',q1,_,q3,_,_,_,⟨_,q4⟩,_⟩
   .rcases e1 with ⟨ad,k1,k2⟩ | k1
    .rw [k1] at q1;cases q1
    .rw [q2 b] at k1;cases k1
   .rcases e1 with ⟨ad,k1,k2⟩ | k1
    .rw [k1] at q1;cases q1;rw [<-k2];exact ⟨_,_,_,q3⟩
    .exact q4 b k1
 generalize hst1:st.aJ (c.u_.map (Fw.aU st.o)) []=st1 at h1 hL1 hE hx;generalize hE':WW h st1 c=E' at hE hx;generalize Zj:mk sp.sig.aQ bW=xA at hx;have hok':=hok;simp only [y9.ok,Q6] at hok';obtain ⟨⟨⟨⟨⟨⟨⟨⟨abz,WY⟩,hps⟩,hpo⟩,hos⟩,zV⟩,hdisj⟩,hnn⟩,ahO⟩:=hok';have hnn:=jw hnn;simp only [KQ.fine,Q6] at hf;have hn2:=jw hf.1.1.1;have ajg :∀g∈sp.sig.aV,sp.sig.aY.contains g=false:=by
  intro g hg;cases hi:sp.sig.aY.contains g with
  |false=>rfl
  |true=>
   have:=(X2.1 hdisj) g (by simpa using hi);simp [hg] at this
 generalize hfn:callName d sp.sig c.ren=f;have QK :∀g∈sp.sig.aV,f g=newName d sp.sig.aV g:=fun g hg=>by subst hfn;unfold callName;rw [ajg g hg]
 have aso:sp.sig.aV.map f=sp.sig.aV.map (newName d sp.sig.aV):=Wa QK;have ajh :∀g,sp.sig.aY.contains g=true->∃g',(g,g')∈c.ren/\f g=g':=by
  intro g hi;have alD:=(X2.1 ahO) g (by simpa using hi);cases h1:sp.sig.pin.bg.lookup g with
  |none=>rw [h1] at alD;cases alD
  |some k1=>
   obtain ⟨q,hq,e⟩:=QJ hc _ (Ag h1);obtain ⟨q1,q2⟩:=q;simp only at e;subst e;refine ⟨q2,hq,?_⟩;subst hfn;unfold callName;rw [hi,(iH _ hq).2.2.1]
 generalize hbk:xR d sp.sig.aV=bk;have hbn :∀g∈sp.sig.aV,bk (f g)=some g:=fun g hg=>by rw [QK g hg];subst hbk;exact Og hg
 have hbs :∀g g0,bk g=some g0->g0∈sp.sig.aV/\f g0=g:=fun g g0 hb=>by subst hbk;obtain ⟨b1,b2⟩:=KR hb;exact ⟨b1,by rw [QK g0 b1];exact b2⟩
 have hfi :∀g∈sp.sig.aV,∀g'∈sp.sig.aV,f g=f g'->g=g':=fun g hg g' hg' e=>by rw [QK g hg,QK g' hg'] at e;exact E8 hg e
 have afo:ef.new=sp.sig.aV.map f:=by subst hef;subst hfn;rfl
 have aji:ef.aJ=(if sp.sig.mF then c.u_.map (Fw.aU st.o) else [])++c.ren.map (fun p=>(p.2,if sp.sig.aY.contains p.1 then xk c.A c.I f (xA.o p.1) else .none))++sp.sig.aV.map (fun g=>(f g,xk c.A c.I f (xA.o g))):=by
  subst hef;subst hfn;subst Zj;rfl
 have alE:ef.x=Zb ((List.range sp.sig.dA).map fun k=>WR c.A c.I f (xA.s k)):=by subst hef;subst hfn;subst Zj;rfl
 have atf :∀g,bk g=none->g∉ef.new:=fun g hb hm=>by
  rw [afo] at hm;obtain ⟨g0,h1,rfl⟩:=QQ.1 hm;rw [hbn g0 h1] at hb;cases hb
 have hbu :∀g,st.used g=true->bk g=none:=fun g hu=>by
  cases hb:bk g with
  |none=>rfl
  |some g0=>
   obtain ⟨h1,h2⟩:=hbs g g0 hb;have:=hnew g (by rw [afo];exact QQ.2 ⟨g0,h1,h2⟩);rw [hu] at this;cases this
 let stB:St:=if sp.sig.mF then st1 else st
 have hB:Rel E stB gh val w/\Lets E st stB gh gh w w:=by
  by_cases hlk:sp.sig.mF=true
  .have:stB=st1:=by simp [stB,hlk]
   rw [this];exact ⟨h1,hL1⟩
  .have:stB=st:=by simp [stB,hlk]
   rw [this];exact ⟨h,⟨fun a i b hb=>⟨hb,rfl⟩,fun g _=>.inr ⟨⟨rfl,rfl⟩,O.fD _⟩⟩⟩
 obtain ⟨Zk,hLB⟩:=hB;have hBs:stB.s=st.s:=by
  by_cases hlk:sp.sig.mF=true
  .have:stB=st1:=by simp [stB,hlk]
   rw [this,<-hst1];rfl
  .have:stB=st:=by simp [stB,hlk]
   rw [this]
 have hBu:stB.used=st.used:=by
  by_cases hlk:sp.sig.mF=true
  .have:stB=st1:=by simp [stB,hlk]
   rw [this,<-hst1];rfl
  .have:stB=st:=by simp [stB,hlk]
   rw [this]
 have hBo :∀g,stB.o g=(if g∈c.u_/\sp.sig.mF=true then (Fw.aU st.o g).2 else st.o g):=by
  intro g;by_cases hlk:sp.sig.mF=true
  .have:stB=st1:=by simp [stB,hlk]
   rw [this,<-hst1,gy];by_cases hg:g∈c.u_<;>simp [hg,hlk]
  .have:stB=st:=by simp [stB,hlk]
   rw [this];simp [hlk]
 have WZ :∀g,(stB.o g).bP=true->(st.o g).bP=true:=by
  intro g hg;rw [hBo] at hg;split at hg
  .cases hp:plainO st.o g with
   |none=>simpa [Fw.aU,hp] using hg
   |some x=>
    obtain ⟨a,i,sz,l⟩:=x;rw [m_ hp] at hg;cases hg
  .exact hg
 have hBr :∀p∈c.ren,stB.o p.2=st.o p.2:=by
  intro p hp;rw [hBo,if_neg fun h=>(iH p hp).2.1 h.1]
 generalize afp:st.aJ ef.aJ ef.new=Ir;have hFs:Ir.s=st.s:=by subst afp;rfl
 have hFu :∀g,st.used g=true->Ir.used g=true:=fun g hg=>by subst afp;simp [St.aJ,hg]
 have hFn :∀g∈sp.sig.aV,Ir.used (f g)=true:=fun g hg=>by
  subst afp;have:f g∈ef.new:=by rw [afo];exact QQ.2 ⟨g,hg,rfl⟩
  simp [St.aJ,this]
 have W9 :∀p∈c.ren,st.used p.2=true:=fun p hp=>h.ul p.2 (by intro e;have:=(iH p hp).1;rw [e] at this;cases this);have asr :∀g∈c.u_,st.used g=true\/st.o g=.none:=fun g hg=>by
  by_cases hn:st.o g=.none
  .exact .inr hn
  .exact .inl (h.ul g hn)
 have hFo :∀g,Ir.o g=match ef.aJ.lookup g with | some x=>x | none=>st.o g:=fun g=>by subst afp;rfl
 have W_ :∀g∈sp.sig.aV,Ir.o (f g)=xk c.A c.I f (xA.o g):=by
  intro g hg;have hfu:st.used (f g)=false:=hnew _ (by rw [afo];exact QQ.2 ⟨g,hg,rfl⟩);have e2:(c.ren.map (fun p=>(p.2,if sp.sig.aY.contains p.1 then xk c.A c.I f (xA.o p.1) else .none))).lookup (f g)=none:=lV fun hm=>by
   obtain ⟨p,hp,e⟩:=QQ.1 hm;rw [<-e,W9 p hp] at hfu;cases hfu
  have e3:=wP (k:=f) (v:=fun g=>xk c.A c.I f (xA.o g)) hg fun g' hg' e=>hfi g' hg' g hg e;have e1:(if sp.sig.mF then c.u_.map (Fw.aU st.o) else []).lookup (f g)=none:=by
   split
   .rw [mD,if_neg];intro hm;have:=xC.used h (UU hc) hm;rw [this] at hfu;cases hfu
   .rfl
  rw [hFo,aji,lI,lI,e1,e2,e3];rfl
 have LV :∀p∈c.ren,Ir.o p.2=if sp.sig.aY.contains p.1 then xk c.A c.I f (xA.o p.1) else .none:=by
  intro p hp;have e1:(if sp.sig.mF then c.u_.map (Fw.aU st.o) else []).lookup p.2=none:=by
   split
   .rw [mD,if_neg (iH p hp).2.1]
   .rfl
  have e2:=lg (v:=fun p=>if sp.sig.aY.contains p.1 then xk c.A c.I f (xA.o p.1) else O.none) hn2 hp;rw [hFo,aji,lI,lI,e1,e2];rfl
 have QL :∀g,bk g=none->g∉c.ren.map (·.2)->Ir.o g=stB.o g:=by
  intro g hb hg;have e2:=lV (v:=fun p=>if sp.sig.aY.contains p.1 then xk c.A c.I f (xA.o p.1) else O.none) hg;have e3:(sp.sig.aV.map (fun g=>(f g,xk c.A c.I f (xA.o g)))).lookup g=none:=xU fun g' hg' e=>by
   have:=hbn g' hg';rw [e,hb] at this;cases this
  rw [hFo,aji,lI,lI,e2,e3,hBo];by_cases hlk:sp.sig.mF=true
  .rw [if_pos hlk,mD];by_cases hg:g∈c.u_<;>simp [hg,hlk]
  .simp [hlk]
 have ahP :∀p∈c.ren,sp.sig.aY.contains p.1=true->(xJ p.1).ad=(gh p.2).ad/\(xJ p.1).cap=(gh p.2).cap:=by
  intro p hp hi;have:=(UW p.1 (by simpa using hi)).1;have e:=(iH p hp).2.2.1;simp only [jF,e] at this;exact this
 generalize hbk2:(fun g=>match bk g with | some g0=>some g0 | none=>(c.ren.find? (fun (p:Nat×Nat)=>p.2==g&&sp.sig.aY.contains p.1)).map (fun (p:Nat×Nat)=>p.1))=bk2;have alG :∀g g0,bk2 g=some g0->(g0∈sp.sig.aV/\f g0=g)\/(bk g=none/\sp.sig.aY.contains g0=true/\(g0,g)∈c.ren):=by
  intro g g0 hb;subst hbk2;simp only at hb;cases h1:bk g with
  |some g1=>rw [h1] at hb;simp only [Q0] at hb;subst hb;exact .inl (hbs g _ h1)
  |none=>
   rw [h1] at hb;simp only [ZD] at hb;obtain ⟨p,hp,rfl⟩:=hb;have q1:=K7 hp;have q2:=qD hp;simp only [Q6,beq_iff_eq] at q2;obtain ⟨rfl,q3⟩:=q2;exact .inr ⟨rfl,q3,q1⟩
 have hb2 :∀g∈sp.sig.aV++sp.sig.aY,bk2 (f g)=some g:=by
  intro g hg;subst hbk2;simp only;rcases Xs.1 hg with hg | hg
  .rw [hbn g hg]
  .have hi:sp.sig.aY.contains g=true:=by simpa using hg
   obtain ⟨g',hm,e⟩:=ajh g hi;rw [e,hbu g' (W9 _ hm)];cases h1:c.ren.find? fun p=>p.2==g'&&sp.sig.aY.contains p.1 with
   |none=>
    have:=List.find?_eq_none.1 h1 _ hm;simp at this;exact absurd hg this
   |some p=>
    have q1:=K7 h1;have q2:=qD h1;simp only [Q6,beq_iff_eq] at q2;obtain ⟨e2,q3⟩:=q2;have l1:=(iH _ hm).2.2.1;have e3:p=(g,g'):=by
     have:=lg (v:=fun p=>p) hn2 q1;have h2:=lg (v:=fun p=>p) hn2 hm;rw [e2] at this;simp only at h2;rw [this] at h2;exact Wb h2
    rw [e3];rfl
 let bM:Nat->Gh:=fun g=>match bk2 g with | some g0=>xJ g0 | none=>gh g
 have hfp :∀p∈c.ren,sp.sig.aY.contains p.1=true->f p.1=p.2:=by
  intro p hp hi;obtain ⟨g',hm,e⟩:=ajh p.1 hi;have l1:=(iH _ hm).2.2.1;have l2:=(iH _ hp).2.2.1;simp only at l1;rw [l2] at l1;rw [e,<-Wb l1]
 have hgb :∀g g0,bk2 g=some g0->bM g=xJ g0:=fun g g0 hb=>by simp only [bM,hb]
 have hgn :∀g∈sp.sig.aV,bM (f g)=xJ g:=fun g hg=>hgb _ _ (hb2 g (ZZ _ hg));have hgi :∀p∈c.ren,sp.sig.aY.contains p.1=true->bM p.2=xJ p.1:=by
  intro p hp hi;have:=hb2 p.1 (US _ (by simpa using hi));rw [hfp p hp hi] at this;exact hgb _ _ this
 have hgo :∀g,bk g=none->g∉c.ren.map (·.2)->bM g=gh g:=fun g hb hm=>by
  cases h2:bk2 g with
  |none=>simp only [bM,h2]
  |some g0=>
   rcases alG g g0 h2 with ⟨b1,b2⟩ | ⟨_,_,b3⟩
   .rw [<-b2,hbn g0 b1] at hb;cases hb
   .exact absurd (QQ.2 ⟨_,b3,rfl⟩) hm
 have hFb :∀g g0,bk2 g=some g0->Ir.o g=xk c.A c.I f (xA.o g0):=fun g g0 hb=>by
  rcases alG g g0 hb with ⟨b1,b2⟩ | ⟨_,b2,b3⟩
  .rw [<-b2];exact W_ g0 b1
  .have e:=LV _ b3;simp only [b2,if_true] at e;exact e
 have abB :∀g∈sp.sig.aV++sp.sig.aY,Ir.used (f g)=true:=by
  intro g hg;rcases Xs.1 hg with hg | hg
  .exact hFn g hg
  .obtain ⟨g',hm,e⟩:=ajh g (by simpa using hg);rw [e];exact hFu _ (W9 _ hm)
 have hxo :∀g0,xA.o g0≠.none->∃k n',(g0,k)∈sp.sig.aQ.bg/\xA.o g0=(ug bW n' k).1:=fun g0 hn=>by
  subst Zj;exact kZ (UM hn)
 have alH :∀g0,sp.sig.aY.contains g0=true->(∃ws,(mk sp.sig.pin c.ins).o g0=.box ws)->∃ws,xA.o g0=.box ws:=by
  rintro g0 hi ⟨ws,hb⟩;have hk:=(X2.1 ahO) g0 (by simpa using hi);cases h1:sp.sig.pin.bg.lookup g0 with
  |none=>rw [h1] at hk;cases hk
  |some k1=>
   cases h2:sp.sig.aQ.bg.lookup g0 with
   |none=>rw [h1,h2] at hk;cases k1<;>cases hk
   |some k2=>
    rw [h1,h2] at hk;obtain ⟨n1,e1⟩:=Oe (vs:=c.ins) h1;obtain ⟨n2,e2⟩:=Oe (vs:=bW) h2;rw [hb] at e1;cases k1 with
    |box ks=>
     cases k2 with
     |box ks'=>subst Zj;exact ⟨_,e2⟩
     |arr=>cases hk
     |it=>cases hk
     |aO=>cases hk
    |arr=>cases e1
    |it=>cases e1
    |aO=>cases e1
 have aps :∀g0 k,(g0,k)∈sp.sig.aQ.bg->k.isA=true->sp.sig.mF=true:=fun g0 k hm ha=>by
  simp only [y9.mF,UX,Kx];exact .inr ⟨_,hm,ha⟩
 have apt :∀t k,(t,k)∈sp.sig.aQ.slots->k.isA=true->sp.sig.mF=true:=fun t k hm ha=>by
  simp only [y9.mF,UX,Kx];exact .inl ⟨_,hm,ha⟩
 have hOut :∀g0,Ow (E5 c.A c.I sp.sig.mF) bk2 (fun _=>False) (xA.o g0) (xk c.A c.I f (xA.o g0))/\∀g∈(xk c.A c.I f (xA.o g0)).names,∃g1∈sp.sig.aV++sp.sig.aY,g=f g1:=by
  intro g0;by_cases hn:xA.o g0=.none
  .rw [hn];exact ⟨.none _,by simp [xk,O.names]⟩
  .obtain ⟨k,n',h1,h2⟩:=hxo g0 hn;rw [h2];refine alC hb2 (fun ws e => ?_) (aps g0 k h1) n';subst e;have hk:=(X2.1 zV) _ h1;simp only [Q6] at hk;exact hk.1
 have Xa :∀g,(Ir.o g).bP=true->
   (∃g0,(xA.o g0).bP=true/\bM g=xJ g0/\Ir.o g=xk c.A c.I f (xA.o g0)/\((g0∈sp.sig.aV/\g=f g0)\/(sp.sig.aY.contains g0=true/\(g0,g)∈c.ren)))\/
   ((stB.o g).bP=true/\bM g=gh g/\g∉c.ren.map (·.2)/\bk g=none/\Ir.o g=stB.o g):=by
  intro g ho;cases hb:bk g with
  |some g0=>
   obtain ⟨b1,b2⟩:=hbs g g0 hb;subst b2;have e:=W_ g0 b1;exact .inl ⟨g0,by rw [e,LQ] at ho;exact ho,hgn g0 b1,e,.inl ⟨b1,rfl⟩⟩
  |none=>
   by_cases hm:g∈c.ren.map (·.2)
   .obtain ⟨p,hp,e⟩:=QQ.1 hm;subst e;have e:=LV p hp;cases hi:sp.sig.aY.contains p.1 with
    |false=>rw [e,hi] at ho;cases ho
    |true=>
     rw [hi,if_pos rfl] at e;exact .inl ⟨p.1,by rw [e,LQ] at ho;exact ho,hgi p hp hi,e,.inr ⟨hi,hp⟩⟩
   .have e:=QL g hb hm;exact .inr ⟨by rw [e] at ho;exact ho,hgo g hb hm,hm,by first | exact hb | rfl,e⟩
 have hsplit :∀g b,(Ir.o g).bP=true->(bM g).has b->
   (∃g0,(xA.o g0).bP=true/\(xJ g0).has b/\Ir.o g=xk c.A c.I f (xA.o g0)/\((g0∈sp.sig.aV/\g=f g0)\/(sp.sig.aY.contains g0=true/\(g0,g)∈c.ren)))\/
   ((stB.o g).bP=true/\(gh g).has b/\g∉c.ren.map (·.2)/\bk g=none/\Ir.o g=stB.o g):=by
  intro g b ho had;rcases Xa g ho with ⟨g0,q1,q2,q3⟩ | ⟨q1,q2,q3⟩
  .exact .inl ⟨g0,q1,by rw [<-q2];exact had,q3⟩
  .exact .inr ⟨q1,by rw [<-q2];exact had,q3⟩
 have abC :∀b,E'.Wr b->∃p∈c.ren,(gh p.2).has b:=fun b hb=>by subst hE';obtain ⟨p,hp,_,h1⟩:=hb;exact ⟨p,hp,h1⟩
 have hEB:E'.B0=w.heap.size:=by subst hE';rfl
 have hEw:E'.w0=w:=by subst hE';rfl
 have hframe :∀b,b<w.heap.size->¬ E'.Wr b->w'.heap[b]?=w.heap[b]?:=fun b hb hw=>by
  rw [hx.frame b (by rw [hEB];exact hb) hw,hEw]
 have ajj :∀b,(∀p∈c.ren,¬ (gh p.2).has b)->¬ E'.Wr b:=fun b hb hw=>by
  obtain ⟨p,hp,e1⟩:=abC b hw;exact hb p hp e1
 have hsize:w.heap.size<=w'.heap.size:=by rw [<-hEB];exact hx.size
 have EO :∀g,st.used g=true->Ir.o g=.none\/(((bM g).ad=(gh g).ad/\(bM g).cap=(gh g).cap)/\(stB.o g).like (Ir.o g)):=by
  intro g hu;have hb:=hbu g hu;by_cases hm:g∈c.ren.map (·.2)
  .obtain ⟨p,hp,e⟩:=QQ.1 hm;subst e;cases hi:sp.sig.aY.contains p.1 with
   |false=>exact .inl (by rw [LV p hp,hi];rfl)
   |true=>
    refine .inr ⟨by rw [hgi p hp hi];exact ahP p hp hi,?_⟩;rw [hBr p hp,LV p hp,hi,if_pos rfl];have hlk:=(UW p.1 (by simpa using hi)).2;rw [Zj] at hlk;rcases (iH p hp).2.2.2 with ⟨_,ws,ws1,e,eb⟩ | ⟨a,i,sz,l,e,_,ea⟩ | ⟨a,i,sz,aj,l,e,_,ea⟩
    .obtain ⟨ws',e'⟩:=alH p.1 hi ⟨_,eb⟩;rw [e,e'];trivial
    .rw [ea] at hlk;rw [e];generalize xA.o p.1=z at hlk;cases z with
     |none=>trivial
     |arr=>exact hlk
     |aO=>exact hlk.elim
     |box=>exact hlk.elim
     |it=>exact hlk.elim
    .rw [ea] at hlk;rw [e];generalize xA.o p.1=z at hlk;cases z with
     |none=>trivial
     |arr=>exact hlk
     |aO=>exact hlk
     |box=>exact hlk.elim
     |it=>exact hlk.elim
  .rw [QL g hb hm];exact .inr ⟨by rw [hgo g hb hm];exact ⟨rfl,rfl⟩,O.fD _⟩
 have abD:Lets E stB Ir gh bM w w':=by
  refine ⟨fun a i b hb=>⟨⟨hb.1,by have:=hb.2.1;omega,fun g ho had => ?_⟩,?_⟩,fun g hu=>EO g (by rw [<-hBu];exact hu)⟩
  .rcases hsplit g b ho had with ⟨g0,o0,d0,_,_⟩ | ⟨o0,d0,_⟩
   .have hw0:=(hx.wr g0 b o0 d0).1;rw [hEB] at hw0;rcases hw0 with hw0 | hw0
    .have:=hb.2.1;omega
    .obtain ⟨p,hp,e1⟩:=abC b hw0;exact hb.2.2 p.2 (by rw [hBr p hp];exact (iH p hp).1) e1
   .exact hb.2.2 g o0 d0
  .exact hframe b hb.2.1 (ajj b fun p hp e1=>hb.2.2 p.2 (by rw [hBr p hp];exact (iH p hp).1) e1)
 have alI :∀b,E'.Wr b->E.Wr b->(∀g ws,xA.o g=.box ws->(xJ g).has b->sp.sig.aY.contains g=false)->c.I.2=true:=by
  intro b hb hEb hno;obtain ⟨p,hp,e1⟩:=abC b hb;rcases (iH p hp).2.2.2 with ⟨hi,ws,ws1,e,eb⟩ | ⟨a,i,sz,l,e,hci,_⟩ | ⟨a,i,sz,aj,l,e,hci,_⟩
  .obtain ⟨ws',e'⟩:=alH p.1 hi ⟨_,eb⟩;have:=hno p.1 ws' e' (by
    rcases e1 with ⟨ad,k1,k2⟩ | k1
    .exact .inl ⟨ad,by rw [(ahP p hp hi).1];exact k1,k2⟩
    .rw [h.ns p.2 (iH p hp).1 (by rw [e];rfl) b] at k1;cases k1)
   rw [hi] at this;cases this
  .exact hci.2 (h.wi p.2 i b (by rw [e];rfl) e1 hEb)
  .exact hci.2 (h.wi p.2 i b (by rw [e];rfl) e1 hEb)
 have hcls :∀{a i a' i':Bool} {A:Bool×Bool},(A.1=true->a'=true)->(A.2=true->i'=true)->∀{b:Nat},((A.1=true/\E.FA b)\/(A.2=true/\(E.FI b\/E.Wr b))\/E.B0<=b\/eP.has b)->((a'=true/\E.FA b)\/(i'=true/\(E.FI b\/E.Wr b))\/E.B0<=b\/eP.has b):=by
  intro a i a' i' A h1 h2 b hb;rcases hb with ⟨q1,q2⟩ | ⟨q1,q2⟩ | q
  .exact .inl ⟨h1 q1,q2⟩
  .exact .inr (.inl ⟨h2 q1,q2⟩)
  .exact .inr (.inr q)
 have hcast:Cast (E5 c.A c.I sp.sig.mF) bk2 (fun _=>False) E' E xA Ir xJ bM w':=by
  refine ⟨fun a i a' i' b hC hb => ?_,fun g g' hm sz len ho=>⟨by rw [hgb g' g hm];exact ⟨rfl,rfl⟩,by rw [hFb g' g hm,afl] at ho;exact ho⟩,
   fun g g' hm ws ho=>⟨by rw [hgb g' g hm],by rw [hFb g' g hm] at ho;exact afm ho⟩,fun g g' hm s n ho=>⟨by rw [hgb g' g hm],by rw [hFb g' g hm] at ho;exact ajf ho⟩,fun g' hf=>hf.elim⟩
  obtain ⟨hC,hA⟩:=hC;have ha':a'=((a&&c.A.1)||(i&&c.I.1)):=congrArg Prod.fst hC;have hi':i'=((a&&c.A.2)||(i&&c.I.2)):=congrArg Prod.snd hC;have ahQ :∀g,(xA.o g).bP=true->¬ (xJ g).has b:=hb.2.2;have hcase:((a'=true/\E.FA b)\/(i'=true/\(E.FI b\/E.Wr b))\/E.B0<=b\/eP.has b)/\(∀g,(stB.o g).bP=true->g∉c.ren.map (·.2)->¬ (gh g).has b):=by
   have hb1:=hb.1;subst hE';rcases hb1 with ⟨ha,hFA⟩ | ⟨hi,hFI | hWr⟩ | hge | hgl
   .have hlk:=hA ha;have hst:stB=st1:=by simp [stB,hlk]
    refine ⟨hcls (a:=a) (i:=i) (A:=c.A) (by intro h;simp [ha',ha,h]) (by intro h;simp [hi',ha,h]) hFA.1,fun g ho _ => ?_⟩;rw [hst] at ho;exact hFA.2.2 g ho
   .refine ⟨hcls (a:=a) (i:=i) (A:=c.I) (by intro h;simp [ha',hi,h]) (by intro h;simp [hi',hi,h]) hFI.1,fun g ho _ => ?_⟩;exact hFI.2.2 g (WZ g ho)
   .obtain ⟨p,hp,ow,e1⟩:=hWr;refine ⟨?_,fun g ho hng had => ?_⟩
    .rcases (h.wr p.2 b (iH p hp).1 e1).1 with q | q
     .exact .inr (.inr (.inl q))
     .have:=alI b ⟨p,hp,ow,e1⟩ q fun g ws1 o1 d1=>absurd d1 (ahQ g (by rw [o1];rfl));exact .inr (.inl ⟨by simp [hi',hi,this],.inr q⟩)
    .have:=h.inj g p.2 b (WZ g ho) (iH p hp).1 had e1;exact hng (this▸QQ.2 ⟨p,hp,rfl⟩)
   .refine ⟨.inr (.inr (.inl (UI h.size hge))),fun g ho _ had => ?_⟩;have:=(Zk.wr g b ho had).2;have hge:w.heap.size<=b:=hge;omega
   .refine ⟨.inr (.inr (.inr hgl)),fun g ho _ had => ?_⟩;obtain ⟨g1,g2⟩:=E.aa_ hgl;rcases (Zk.wr g b ho had).1 with q | q
    .omega
    .exact g2 q
  refine ⟨hcase.1,hb.2.1,fun g ho had => ?_⟩;rcases hsplit g b ho had with ⟨g0,o0,d0,_,_⟩ | ⟨o0,d0,n0,_⟩
  .exact ahQ g0 o0 d0
  .exact hcase.2 g o0 n0 d0
 have ahR :∀g0,lU E Ir bM w' (xk c.A c.I f (xA.o g0)) (xJ g0):=fun g0=>hcast.Bv (hOut g0).1 (hx.bg g0);have KT:Rel E Ir bM val w':=by
  refine Zk.step abD (hFs.trans hBs.symm) (fun g hg=>hFu g (by rw [<-hBu];exact hg)) (fun g => ?_) (fun g1 g2 b h1 h2 k1 k2 => ?_) (fun g b ho had => ?_) (fun g i b ho had hw => ?_) (fun g ho hd b => ?_) (fun b hb hw => ?_) hsize (by rw [hx.os,hEw]) (by rw [hx.tape,hEw]) (by rw [hx.output,hEw]) (fun g g' hg' => ?_) (fun g hg => ?_)
  .cases hb:bk g with
   |some g0=>
    obtain ⟨b1,b2⟩:=hbs g g0 hb;subst b2;rw [W_ g0 b1,hgn g0 b1];exact ahR g0
   |none=>
    by_cases hm:g∈c.ren.map (·.2)
    .obtain ⟨p,hp,e⟩:=QQ.1 hm;subst e;rw [LV p hp];cases hi:sp.sig.aY.contains p.1 with
     |false=>trivial
     |true=>rw [if_pos rfl,hgi p hp hi];exact ahR p.1
    .rw [QL g hb hm,hgo g hb hm];refine abD.Bv (fun ho b had=>hframe _ (Zk.wr g b ho had).2 (ajj _ fun p hp e1 => ?_)) (fun g' hg'=>Zk.uo g g' hg') (Zk.bg g);have:=h.inj p.2 g b (iH p hp).1 (WZ g ho) e1 had;exact hm (this▸QQ.2 ⟨p,hp,rfl⟩)
  .have mixed :∀g1 g2 b g0,(xA.o g0).bP=true->(xJ g0).has b->(stB.o g2).bP=true->(gh g2).has b->g2∉c.ren.map (·.2)->g1=g2:=by
    intro g1 g2 b g0 o1 d1 o2 d2 n2;exfalso;rcases (hx.wr g0 b o1 d1).1 with q | q
    .rw [hEB] at q;have:=(Zk.wr g2 b o2 d2).2;omega
    .obtain ⟨p,hp,e1⟩:=abC _ q;have:=h.inj p.2 g2 b (iH p hp).1 (WZ g2 o2) e1 d2;exact n2 (this▸QQ.2 ⟨p,hp,rfl⟩)
   rcases hsplit g1 b h1 k1 with ⟨q1,o1,d1,_,l1⟩ | ⟨o1,d1,n1,_⟩<;>rcases hsplit g2 b h2 k2 with ⟨q2,o2,d2,_,l2⟩ | ⟨o2,d2,n2,_⟩
   .have:=hx.inj q1 q2 b o1 o2 d1 d2;subst this;rcases l1 with ⟨m1,e1⟩ | ⟨i1,m1⟩<;>rcases l2 with ⟨m2,e2⟩ | ⟨i2,m2⟩
    .rw [e1,e2]
    .rw [ajg q1 m1] at i2;cases i2
    .rw [ajg q1 m2] at i1;cases i1
    .have l1:=(iH _ m1).2.2.1;have l2:=(iH _ m2).2.2.1;rw [l1] at l2;exact Wb l2
   .exact mixed g1 g2 b q1 o1 d1 o2 d2 n2
   .exact (mixed g2 g1 b q2 o2 d2 o1 d1 n1).symm
   .exact Zk.inj g1 g2 b o1 o2 d1 d2
  .rcases hsplit g b ho had with ⟨g0,o0,d0,_,_⟩ | ⟨o0,d0,_⟩
   .have:=hx.wr g0 b o0 d0;refine ⟨?_,this.2⟩;rcases this.1 with q | q
    .rw [hEB] at q;exact .inl (UI h.size q)
    .obtain ⟨p,hp,e1⟩:=abC _ q;exact (h.wr p.2 b (iH p hp).1 e1).1
   .have:=Zk.wr g b o0 d0;exact ⟨this.1,by omega⟩
  .rcases hsplit g b (O.kV ho) had with ⟨g0,o0,d0,e0,l0⟩ | ⟨o0,d0,_,_,e0⟩
   .rw [e0] at ho;obtain ⟨a1,i1,h1,e2⟩:=Zh ho;have hlt:b<w.heap.size:=by have:=h.wb _ hw;have:=h.size;omega
    rcases (hx.wr g0 b o0 d0).1 with q | q
    .rw [hEB] at q;omega
    .have hi1:=hx.wi g0 i1 b h1 d0 q;have:=alI b q hw fun g3 ws3 o3 d3=>by
      have:=hx.inj g3 g0 b (by rw [o3];rfl) o0 d3 d0;subst this;rw [o3] at h1;cases h1
     rw [e2];simp [qH,hi1,this]
   .rw [e0] at ho;exact Zk.wi g i b ho d0 hw
  .rcases Xa g ho with ⟨g0,o0,e,e0,_⟩ | ⟨o0,e,_,_,e0⟩
   .rw [e];exact hx.ns g0 o0 (by rw [e0,UR] at hd;exact hd) b
   .rw [e];exact Zk.ns g o0 (by rw [e0] at hd;exact hd) b
  .refine hframe b (Wz hb h.size) (ajj b fun p hp e1 => ?_);rcases (h.wr p.2 b (iH p hp).1 e1).1 with q | q
   .omega
   .exact hw q
  .cases hb:bk g with
   |some g0=>
    obtain ⟨b1,b2⟩:=hbs g g0 hb;subst b2;rw [W_ g0 b1] at hg';obtain ⟨g1,m1,rfl⟩:=(hOut g0).2 g' hg';exact abB g1 m1
   |none=>
    by_cases hm:g∈c.ren.map (·.2)
    .obtain ⟨p,hp,e⟩:=QQ.1 hm;subst e;rw [LV p hp] at hg';cases hi:sp.sig.aY.contains p.1 with
     |false=>rw [hi] at hg';simp [O.names] at hg'
     |true=>
      rw [hi,if_pos rfl] at hg';obtain ⟨g1,m1,rfl⟩:=(hOut p.1).2 g' hg';exact abB g1 m1
    .rw [QL g hb hm] at hg';exact hFu g' (by rw [<-hBu];exact Zk.uo g g' hg')
  .cases hb:bk g with
   |some g0=>
    obtain ⟨b1,b2⟩:=hbs g g0 hb;subst b2;exact hFn g0 b1
   |none=>
    by_cases hm:g∈c.ren.map (·.2)
    .obtain ⟨p,hp,e⟩:=QQ.1 hm;subst e;exact hFu _ (W9 p hp)
    .rw [QL g hb hm] at hg;exact hFu g (by rw [<-hBu];exact Zk.ul g hg)
 have alJ :∀k,rF E Ir bM w' (WR c.A c.I f (xA.s k)) (rs.getD k undef)/\∀g∈(WR c.A c.I f (xA.s k)).names,∃g1∈sp.sig.aV++sp.sig.aY,g=f g1:=by
  intro k;have hk:=hx.slots k;subst Zj;have e0:(mk sp.sig.aQ bW).s k=match (dG bW 0 sp.sig.aQ.slots).1.lookup k with | some x=>x | none=>.no:=rfl
  cases hxk:(dG bW 0 sp.sig.aQ.slots).1.lookup k with
  |none=>
   rw [e0,hxk];exact ⟨.one _ _ (.no _),by simp [WR,V.names,W.names]⟩
  |some x=>
   rw [hxk] at e0;rw [e0] at hk ⊢;obtain ⟨kk,n',h1,h2⟩:=xQ hxk;obtain ⟨y,e,h3,h4⟩:=alB (vs:=bW) (A:=c.A) (I:=c.I) hb2 ((X2.1 hos) _ h1) (apt k kk h1) n';simp only [h2,e] at hk ⊢;cases hk with | v _ _ hk=>exact ⟨hcast.Y1 h3 hk,h4⟩
 refine ⟨bM,KT,⟨fun a i b hb => ?_,fun g hu => ?_⟩,?_,?_⟩
 .obtain ⟨q1,q2⟩:=hLB.ok a i b hb;exact abD.ok a i b q1
 .rcases EO g hu with q | ⟨q1,q2⟩
  .exact .inl q
  .rcases hLB.names g hu with q | ⟨_,q⟩
   .rw [q] at q2;rcases O.Ip (x:=.none) (O.fD _) q2 with q | q
    .exact .inl q
    .exact .inl (O.DX q)
   .rcases O.Ip q q2 with q | q
    .exact .inl q
    .exact .inr ⟨q1,q⟩
 .rw [alE];have hl:((List.range sp.sig.dA).map fun k=>WR c.A c.I f (xA.s k)).length=rs.length:=by simp [hrl]
  have hj :∀(j:Nat) x v,((List.range sp.sig.dA).map fun k=>WR c.A c.I f (xA.s k))[j]?=some x->rs[j]?=some v->rF E Ir bM w' x v:=by
   intro j x v hx' hv;rw [XN] at hx';obtain ⟨k,hk,rfl⟩:=ZD.1 hx';obtain ⟨hlt,hk⟩:=Q3.1 hk;simp at hk;subst hk;have:=(alJ j).1
   rwa [List.getD_eq_getElem?_getD,hv] at this
  generalize (List.range sp.sig.dA).map (fun k=>WR c.A c.I f (xA.s k))=xs at hl hj;unfold Zb Zd
  match xs,rs,hl,hj with
  | [],[],_,hj=>exact .jM _ _ rfl hj
  | [x],[v],_,hj=>exact .v _ _ (hj 0 x v rfl rfl)
  |x::y::xs,v::u::vs,hl,hj=>exact .jM _ _ hl hj
 .intro g hg;have :∃k,g∈(WR c.A c.I f (xA.s k)).names:=by
   rw [alE] at hg;generalize hxs:(List.range sp.sig.dA).map (fun k=>WR c.A c.I f (xA.s k))=xs at hg;have hin :∃x∈xs,g∈x.names:=by
    unfold Zb at hg;split at hg
    .exact ⟨_,by simp,hg⟩
    .simpa [S.names,Z1] using hg
   obtain ⟨x,hx1,hx2⟩:=hin;rw [<-hxs] at hx1;obtain ⟨k,_,rfl⟩:=QQ.1 hx1;exact ⟨k,hx2⟩
  obtain ⟨k,hk⟩:=this;obtain ⟨g1,m1,rfl⟩:=(alJ k).2 g hk;exact abB g1 m1
theorem UY {Pg:Program} {fn:FuncId} {sp:Spec} (hs:Sound Pg fn sp) (h:Rel E st gh val w) {args:List S} {vals:List Value} (hr :∀t,dI E st gh w (args.getD t .no) (vals.getD t undef)) (hlen:vals.length=sp.sig.bD)
  {c:KQ} (hc:g_ sp.sig st.o args=some c) (hf:c.fine sp.sig=true) {bW:List P} (hR:sp.R c.ins bW) (d:Nat)
  {ef:Eff} (hef:ef=iJ sp.sig d st.o c bW) (hnew :∀g∈ef.new,st.used g=false) :
  Calls Pg fn vals.toArray w fun e w' =>∃v bM,e=.returned v/\Rel E (st.aJ ef.aJ ef.new) bM val w'/\Lets E st (st.aJ ef.aJ ef.new) gh bM w w'/\dI E (st.aJ ef.aJ ef.new) bM w' ef.x v/\∀g∈ef.x.names,(st.aJ ef.aJ ef.new).used g=true:=by
 obtain ⟨E',lH,q1,q2,q3,_,q4⟩:=LU hs.1 h hr hc hf;refine Calls.mono (hs.2.2 E' w vals lH c.ins bW hR q1 q2 q3 hlen) fun e w' he => ?_;obtain ⟨rs,xJ,hrl,rfl,hx,UW⟩:=he;obtain ⟨bM,r1,r2,r3,r4⟩:=q4 d bW ef hef hnew w' rs xJ hrl hx UW;exact ⟨_,bM,rfl,r1,r2,r3,r4⟩
end
end Go.Fw

namespace Go.Fw
variable [eP]
section
variable {o o':Nat->O}
theorem DY {g:Nat} {x:Bool×Bool×Nat×List (List P)} (h:plainO o g=some x):(o g).names=(o g).hn/\∀d∈(o g).hn,(o d).hn=[]:=by
 obtain ⟨a,i,sz,l⟩:=x;rcases vJ h with ⟨fz,h⟩ | ⟨aj,h⟩ | ⟨a0,i0,aj,l0,n,c,d,fz',a',i',sz',l',h,hd,_⟩
 .rw [h];exact ⟨rfl,fun d hd=>by cases hd⟩
 .rw [h];exact ⟨rfl,fun d hd=>by cases hd⟩
 .rw [h];refine ⟨rfl,fun d' hd' => ?_⟩;simp only [O.hn,dK,Qt] at hd';subst hd';rw [hd];rfl
theorem Oh {g:Nat} (h:Agree o o' g):aU o g=aU o' g:=by simp only [aU,Bz h,h.1]
theorem QM {g d:Nat} (h:Agree o o' g) {x:Bool×Bool×Nat×List (List P)} (hp:plainO o g=some x) (hd:d∈(o g).hn):Agree o o' d:=by
 refine ⟨h.2 d hd,fun d' hd' => ?_⟩;rw [(DY hp).2 d hd] at hd';cases hd'
theorem DZ {x:W} (h :∀g∈x.names,Agree o o' g):x.toP o=x.toP o':=by
 cases x<;>simp only [W.toP]<;>(try rw [Bz (h _ (by simp [W.names])),(h _ (by simp [W.names])).1])
theorem Ah {x:W} {y:P} {a i:Bool} {gs:List Nat} (h:x.toP o=some (y,a,i,gs)) (hx :∀g∈x.names,Agree o o' g) :∀g∈gs,Agree o o' g:=by
 cases x<;>simp only [W.toP] at h
 case p=>simp only [Q0,Q1] at h;obtain ⟨_,_,_,rfl⟩:=h;simp
 case dF=>simp only [Q0,Q1] at h;obtain ⟨_,_,_,rfl⟩:=h;simp
 case own g=>
  split at h
  .rename_i hp;simp only [Q0,Q1] at h;obtain ⟨_,_,_,rfl⟩:=h;have hg:=hx g (by simp [W.names]);rw [(DY hp).1];intro d hd;rcases Xs.1 hd with hd | hd
   .exact QM hg hp hd
   .rw [Qt] at hd;subst hd;exact hg
  .cases h
 case vw g lo hi=>
  split at h
  .rename_i hp;simp only [Q0,Q1] at h;obtain ⟨_,_,_,rfl⟩:=h;have hg:=hx g (by simp [W.names]);rw [(DY hp).1];intro d hd;rcases Xs.1 hd with hd | hd
   .exact QM hg hp hd
   .rw [Qt] at hd;subst hd;exact hg
  .cases h
 all_goals cases h
theorem qI :∀{xs:List W},(∀x∈xs,∀g∈x.names,Agree o o' g)->sH o xs=sH o' xs
 | [],_=>rfl
 |x::xs,h=>by simp only [sH];rw [DZ (h x (by simp)),qI fun y hy=>h y (by simp [hy])]
theorem xW :∀{xs:List W} {ys:List P} {a i:Bool} {gs:List Nat},sH o xs=some (ys,a,i,gs)->(∀x∈xs,∀g∈x.names,Agree o o' g)->∀g∈gs,Agree o o' g
 | [],ys,a,i,gs,h,_=>by simp [sH] at h;obtain ⟨_,_,_,rfl⟩:=h;simp
 |x::xs,ys,a,i,gs,h,hx=>by
  simp only [sH] at h;split at h
  .rename_i h1 h2;simp only [Q0,Q1] at h;obtain ⟨_,_,_,rfl⟩:=h;intro g hg;rcases Xs.1 hg with hg | hg
   .exact Ah h1 (hx x (by simp)) g hg
   .exact xW h2 (fun y hy=>hx y (by simp [hy])) g hg
  .cases h
theorem nR {gs:List Nat} (h :∀g∈gs,Agree o o' g):gs.map (aU o)=gs.map (aU o'):=
 Wa fun g hg=>Oh (h g hg)
theorem Iu {sz:Nat} {x:W} (h :∀g∈x.names,o g=o' g):x.rows o sz=x.rows o' sz:=by
 cases x<;>simp only [W.rows]<;>(try rw [h _ (by simp [W.names])])
theorem Fa {x:W} (h :∀g∈x.names,o g=o' g):lenOf o x=lenOf o' x:=by
 cases x<;>simp only [lenOf]<;>(try rw [h _ (by simp [W.names])])
theorem Ai {x:W} (h :∀g∈x.names,o g=o' g):x.live o=x.live o':=by
 cases x<;>simp only [W.live]<;>(try rw [h _ (by simp [W.names])])
theorem Oi {tt:TT} {d:Nat} {sT:TypeId} {s x:W} (hs :∀g∈s.names,o g=o' g) (h :∀g∈x.names,o g=o' g):vF tt d o sT s x=vF tt d o' sT s x:=by
 unfold vF;split
 .split
  .split
   .rfl
   .rw [Iu h];split
    .rfl
    .cases s<;>simp only<;>(try rw [hs _ (by simp [W.names])])
  .rfl
 .rfl
theorem Aj {place:Nat->Option (Nat×Nat)} :∀{ps:List (Nat×S)} {Xb ws:List W},lZ place Xb ps=some ws->∀x∈ws,x∈Xb\/∃p∈ps,∀g∈x.names,g∈p.2.names
 | [],Xb,ws,h=>by simp only [lZ,Q0] at h;subst h;intro x hx;exact .inl hx
 |(n,s)::ps,Xb,ws,h=>by
  cases s with
  |v y=>
   simp only [lZ] at h;split at h
   .split at h
    .intro x hx;rcases Aj h x hx with hx | ⟨p,hp,hg⟩
     .unfold aS at hx;rcases Xs.1 hx with hx | hx
      .rcases Xs.1 hx with hx | hx
       .exact .inl (W8 hx)
       .refine .inr ⟨(n,.v y),by simp,fun g hg => ?_⟩;cases y with
        |one y=>simp only [V.words,Qt] at hx;subst hx;simpa [S.names,V.names] using hg
        |agg ys=>simp only [V.words] at hx;simp only [S.names,V.names,Z1];exact ⟨x,hx,hg⟩
      .exact .inl (V0 hx)
     .exact .inr ⟨p,by simp [hp],hg⟩
    .cases h
   .cases h
  |jM=>simp [lZ] at h
  |no=>simp [lZ] at h
theorem Fb {y:V} {x:W} (h:x∈y.words) {g:Nat} (hg:g∈x.names):g∈(S.v y).names:=by
 cases y with
 |one y=>simp only [V.words,Qt] at h;subst h;simpa [S.names,V.names] using hg
 |agg ys=>simp only [V.words] at h;simp only [S.names,V.names,Z1];exact ⟨x,h,hg⟩
theorem BR {tt:TT} {d:Nat} {F F':Operand->S} {op:Op} {ty:TypeId} (hF :∀x∈op.operands.toList,F x=F' x) (hO :∀x∈op.operands.toList,∀g∈(F x).names,Agree o o' g) :
  kernel tt d o F op ty=kernel tt d o' F' op ty:=by
 have ho :∀x∈op.operands.toList,∀g∈(F x).names,o g=o' g:=fun x hx g hg=>(hO x hx g hg).1;cases op with
 |move x=>simp only [kernel,<-hF x (by simp [Op.operands])]
 |assign x=>simp only [kernel,<-hF x (by simp [Op.operands])]
 |pick c x y=>simp only [kernel,<-hF c (by simp [Op.operands]),<-hF x (by simp [Op.operands]),<-hF y (by simp [Op.operands])]
 |alloc t=>rfl
 |box t x=>simp only [kernel,<-hF x (by simp [Op.operands])]
 |build t ps=>
  have e:ps.toList.map (fun p=>(p.1,F p.2))=ps.toList.map (fun p=>(p.1,F' p.2)):=Wa fun p hp=>by
   rw [hF p.2 (by simp only [Op.operands];exact QQ.2 ⟨p,hp,rfl⟩)]
  simp only [kernel,<-e]
 |buildSlice t n ps=>
  have e:ps.toList.map (fun p=>(p.1,F p.2))=ps.toList.map (fun p=>(p.1,F' p.2)):=Wa fun p hp=>by
   rw [hF p.2 (by simp only [Op.operands];exact QQ.2 ⟨p,hp,rfl⟩)]
  simp only [kernel,<-e];split
  .split
   .rename_i ie _;split
    .rename_i ws hws;have hn :∀x∈ws,∀g∈x.names,Agree o o' g:=by
      intro x hx g hg;rcases Aj hws x hx with h | ⟨p,hp,h⟩
      .have:=rP h;obtain ⟨v,_,rfl⟩:=QQ.1 this;rw [nM] at hg;cases hg
      .obtain ⟨q,hq,rfl⟩:=QQ.1 hp;exact hO q.2 (by simp only [Op.operands];exact QQ.2 ⟨q,hq,rfl⟩) g (h g hg)
     rw [<-qI hn];split
     .rename_i h;rw [nR (xW h hn)]
     .rfl
    .rfl
   .rfl
  .rfl
 |load t x=>
  have hx:=hF x (by simp [Op.operands]);have hn:=ho x (by simp [Op.operands]);simp only [kernel,<-hx];generalize F x=sx at hn;split<;>simp_all [S.names,V.names,W.names]
 |store t x y=>
  have hx:=hF x (by simp [Op.operands]);have hy:=hF y (by simp [Op.operands]);have hn:=ho x (by simp [Op.operands]);have hm:=hO y (by simp [Op.operands]);simp only [kernel,<-hx,<-hy];generalize F x=sx at hn;generalize F y=sy at hm;split
  .rename_i g off y _;rw [hn g (by simp [S.names,V.names,W.names])]
  .rename_i g n off y _;rw [hn g (by simp [S.names,V.names,W.names])];have hw :∀x∈y.words,∀g∈x.names,Agree o o' g:=fun x hx g hg=>hm g (Fb hx hg);rw [<-qI hw];cases hz:sH o y.words with
   |none=>cases o' g with | arr fz _ _ _ _=>cases fz<;>rfl | _=>rfl
   |some z=>
    obtain ⟨ps,a',i'',gs⟩:=z;have e:=nR (xW hz hw);cases o' g with
    |arr fz _ _ _ _=>cases fz<;>simp only [e]
    |_=>rfl
  .rfl
 |nilCheck x=>
  have hx:=hF x (by simp [Op.operands]);have hn:=ho x (by simp [Op.operands]);simp only [kernel,<-hx];generalize F x=sx at hn;split
  .rw [Ai fun g hg=>hn g (by simpa [S.names,V.names] using hg)]
  .rfl
 |binOp op t x y u=>simp only [kernel,<-hF x (by simp [Op.operands]),<-hF y (by simp [Op.operands])]
 |unOp op t x=>simp only [kernel,<-hF x (by simp [Op.operands])]
 |convert s t x=>
  have hx:=hF x (by simp [Op.operands]);have hn:=ho x (by simp [Op.operands]);simp only [kernel,<-hx];generalize F x=sx at hn;split
  .rfl
  .rw [Iu fun g hg=>hn g (by simpa [S.names,V.names] using hg)]
  .rfl
  .rfl
 |makeSlice t n c=>
  simp only [kernel,<-hF n (by simp [Op.operands]),<-hF c (by simp [Op.operands])];split
  .split
   .rename_i ie _;have:sH o (ie.zero.map cv)=sH o' (ie.zero.map cv):=qI fun x hx g hg=>by
     obtain ⟨v,_,rfl⟩:=QQ.1 hx;rw [nM] at hg;cases hg
    rw [this]
   .rfl
  .rfl
 |slice t x lo hi mx=>
  cases mx with
  |some m=>cases lo with
   |some l=>simp only [kernel]
   |none=>cases hi with
    |none=>simp only [kernel]
    |some h=>
     have hx:=hF x (by simp [Op.operands]);have hn:=ho x (by simp [Op.operands]);simp only [kernel,<-hx,<-hF h (by simp [Op.operands]),<-hF m (by simp [Op.operands])];generalize F x=sx at hn;unfold BA;split
     .rename_i g _ _ h' _ _ m' _ _ _;rw [hn g (by simp [S.names,V.names,W.names])]
     .rfl
     .rfl
  |none=>
   have hx:=hF x (by simp [Op.operands]);have hn:=ho x (by simp [Op.operands]);have hlo:lo.map F=lo.map F':=by
    cases lo with
    |none=>rfl
    |some l=>simp [hF l (by simp [Op.operands])]
   have hhi:hi.map F=hi.map F':=by
    cases hi with
    |none=>rfl
    |some l=>simp [hF l (by simp [Op.operands])]
   simp only [kernel,<-hx,<-hlo,<-hhi];generalize F x=sx at hn;split
   .rename_i x _;have hn :∀g∈x.names,o g=o' g:=fun g hg=>hn g (by simpa [S.names,V.names] using hg);rw [<-Fa hn];split
    .split
     .split
      .rw [hn _ (by simp [W.names])]
      all_goals rfl
     .rfl
    .rfl
   .rfl
   .rfl
 |fieldAddr t x n=>
  have hx:=hF x (by simp [Op.operands]);have hn:=ho x (by simp [Op.operands]);simp only [kernel,<-hx];generalize F x=sx at hn;split
  .rw [Ai fun g hg=>hn g (by simpa [S.names,V.names] using hg)]
  .rfl
 |field t x n=>simp only [kernel,<-hF x (by simp [Op.operands])]
 |indexAddr t x ix=>
  have hx:=hF x (by simp [Op.operands]);have hn:=ho x (by simp [Op.operands]);simp only [kernel,<-hx,<-hF ix (by simp [Op.operands])];generalize F x=sx at hn;split
  .rename_i x a i n _ _;have hn :∀g∈x.names,o g=o' g:=fun g hg=>hn g (by simpa [S.names,V.names] using hg);split
   .rw [hn _ (by simp [W.names])]
   .rw [hn _ (by simp [W.names])]
   all_goals rfl
  .rfl
  .rw [Ai fun g hg=>hn g (by simpa [S.names,V.names] using hg)]
  .rfl
 |index t x ix=>simp only [kernel,<-hF x (by simp [Op.operands]),<-hF ix (by simp [Op.operands])]
 |extract t n=>simp only [kernel,<-hF t (by simp [Op.operands])]
 |range t x=>simp only [kernel,<-hF x (by simp [Op.operands])]
 |makeFunc fn first caps=>
  cases fn with
  |func g=>
   simp only [kernel];have hc :∀x∈caps.toList,F x=F' x:=fun x hx=>hF x (by simp [Op.operands];exact .inr (by simpa using hx));have :∀l:List Operand,(∀x∈l,F x=F' x)->∀(G:Option (List W)->Option DC),G (l.mapM (fun x=>match F x with | .v (.one w)=>some w | _=>none))=G (l.mapM (fun x=>match F' x with | .v (.one w)=>some w | _=>none)):=by
    intro l hl G;congr 1
    induction l with
    |nil=>rfl
    |cons x l ih=>
     simp only [vd];rw [hl x (by simp),ih fun y hy=>hl y (by simp [hy])]
   split
   .exact this _ hc fun z=>match z with | some ws=>some (.pure (.v (.one (.clo g ws)))) | none=>none
   .rfl
  |_=>rfl
 |call c=>
  obtain ⟨callee,args,ts⟩:=c;have ha :∀x∈args.toList,F x=F' x:=fun x hx=>hF x (by simp [Op.operands,Call.operands];exact .inr (by simpa using hx));have hb :∀x∈args.toList,∀g∈(F x).names,o g=o' g:=fun x hx=>ho x (by simp [Op.operands,Call.operands];exact .inr (by simpa using hx));cases callee with
  |builtin b=>
   cases b with
   |append=>
    simp only [kernel];split
    .rename_i s x sT xT _ hl _;have hs:=ha s (by rw [hl];simp);have hx:=ha x (by rw [hl];simp);have ns:=hb s (by rw [hl];simp);have nx:=hb x (by rw [hl];simp);rw [<-hs,<-hx];generalize F s=ss at ns;generalize F x=sx at nx;split
     .exact Oi (fun g hg=>ns g (by simpa [S.names,V.names] using hg)) (fun g hg=>nx g (by simpa [S.names,V.names] using hg))
     .rfl
    .rfl
   |clear=>
    simp only [kernel];split
    .rename_i x t tl hl _;have hx:=ha x (by rw [hl];simp);have nx:=hb x (by rw [hl];simp);rw [<-hx];generalize F x=sx at nx;unfold NI;split
     .rename_i e _ _ _ g lo hi _;rw [nx g (by simp [S.names,V.names,W.names])];split
      .rename_i ie _ _ _ _ _ _;have:sH o (ie.zero.map cv)=sH o' (ie.zero.map cv):=qI fun x hx g hg=>by
        obtain ⟨v,_,rfl⟩:=QQ.1 hx;rw [nM] at hg;cases hg
       rw [this]
      .rfl
     .rfl
    .rfl
   |len=>
    simp only [kernel];split
    .rename_i x t hl _;have hx:=ha x (by rw [hl];simp);have nx:=hb x (by rw [hl];simp);rw [<-hx];generalize F x=sx at nx;split
     .rw [Fa fun g hg=>nx g (by simpa [S.names,V.names] using hg)]
     .rfl
     .rfl
    .rfl
   |min=>
    simp only [kernel];split
    .rename_i x y hl;rw [ha x (by rw [hl];simp),ha y (by rw [hl];simp)]
    .rename_i x y z hl;rw [ha x (by rw [hl];simp),ha y (by rw [hl];simp),ha z (by rw [hl];simp)]
    .rfl
   |max=>
    simp only [kernel];split
    .rename_i x y hl;rw [ha x (by rw [hl];simp),ha y (by rw [hl];simp)]
    .rename_i x y z hl;rw [ha x (by rw [hl];simp),ha y (by rw [hl];simp),ha z (by rw [hl];simp)]
    .rfl
   |_=>rfl
  |_=>rfl
 |_=>rfl
theorem zf {col:Nat->Option Nat} :∀{xs:List W} {j:Nat},(∀x∈xs,∀g∈x.names,Agree o o' g)->Qc o col j xs=Qc o' col j xs
 | [],_,_=>rfl
 |x::xs,j,h=>by
  have hx:=h x (by simp);simp only [Qc];rw [zf fun y hy=>h y (by simp [hy]),DZ hx];cases x with
  |own e=>simp only [(hx e (by simp [W.names])).1]
  |_=>rfl
theorem Ak {col:Nat->Option Nat} :∀{xs:List W} {j:Nat} {ys:List P} {a i:Bool} {gs:List Nat} {es:List (Nat×Nat)},Qc o col j xs=some (ys,a,i,gs,es)->(∀x∈xs,∀g∈x.names,Agree o o' g)->∀g∈gs,Agree o o' g
 | [],j,ys,a,i,gs,es,h,_=>by simp [Qc] at h;obtain ⟨_,_,_,rfl,_⟩:=h;simp
 |x::xs,j,ys,a,i,gs,es,h,hx=>by
  simp only [Qc] at h;split at h
  .cases h
  .rename_i ys' a' i' gs' es' h2;have ih:=Ak h2 (fun y hy=>hx y (by simp [hy]));split at h
   .split at h
    .rename_i h1;simp only [Q0,Q1] at h;obtain ⟨_,_,_,rfl,_⟩:=h;intro g hg;rcases Xs.1 hg with hg | hg
     .exact Ah h1 (hx x (by simp)) g hg
     .exact ih g hg
    .cases h
   .split at h
    .simp only [Q0,Q1] at h;obtain ⟨_,_,_,rfl,_⟩:=h;exact ih
    .split at h
     .split at h
      .simp only [Q0,Q1] at h;obtain ⟨_,_,_,rfl,_⟩:=h;exact ih
      .cases h
     .cases h
    .cases h
theorem QN {x:W} (h :∀g∈x.names,Agree o o' g):baseD o x=baseD o' x:=by
 cases x<;>simp only [baseD]<;>(try rw [ng (h _ (by simp [W.names])),(h _ (by simp [W.names])).1])
theorem KU {tt:TT} {dc:List (Nat×Nat)} {d:Nat} {F F':Operand->S} {op:Op} {ty:TypeId} (hF :∀x∈op.operands.toList,F x=F' x) (hO :∀x∈op.operands.toList,∀g∈(F x).names,Agree o o' g) :
  dW tt dc d o F op ty=dW tt dc d o' F' op ty:=by
 cases op with
 |load t x=>
  have hx:=hF x (by simp [Op.operands]);have hn:=hO x (by simp [Op.operands]);simp only [dW,Aa,<-hx];generalize F x=sx at hn;congr 1
  .split
   .have hg:=hn _ (by simp [S.names,V.names,W.names];rfl);rw [<-ng hg]
   .rfl
  .split
   .have hg:=hn _ (by simp [S.names,V.names,W.names];rfl);rw [<-ng hg,<-hg.1]
   .rfl
 |slice t x lo hi mx=>
  cases lo with
  |some _=>rfl
  |none=>
  cases mx with
  |some _=>rfl
  |none=>
  have hx:=hF x (by simp [Op.operands]);have hn:=hO x (by simp [Op.operands]);have hh:hi.map F=hi.map F':=by
   cases hi with
   |none=>rfl
   |some y=>simp only [Z3,Q0];exact hF y (by simp [Op.operands])
  simp only [dW,<-hx,<-hh];generalize F x=sx at hn;split
  .have hg:=hn _ (by simp [S.names,V.names,W.names];rfl);rw [<-hg.1]
  .rfl
 |store t x y=>
  have hx:=hF x (by simp [Op.operands]);have hy:=hF y (by simp [Op.operands]);have hn:=hO x (by simp [Op.operands]);have hm:=hO y (by simp [Op.operands]);simp only [dW,<-hx,<-hy];generalize F x=sx at hn;generalize F y=sy at hm;split
  .rename_i g off y _;have hg:=hn _ (by simp [S.names,V.names,W.names];rfl);have hw :∀x∈y.words,∀g∈x.names,Agree o o' g:=fun x hx g hg=>hm g (Fb hx hg);rw [<-ng hg,<-hg.1];split
   .rename_i a0 i0 sz aj l0 hole _;rw [<-zf hw];split
    .rename_i ps a' i' gs es hz;rw [nR (Ak hz hw)]
    .rfl
   .rfl
  .rfl
 |buildSlice t n ps=>
  have e:ps.toList.map (fun p=>(p.1,F p.2))=ps.toList.map (fun p=>(p.1,F' p.2)):=Wa fun p hp=>by
   rw [hF p.2 (by simp only [Op.operands];exact QQ.2 ⟨p,hp,rfl⟩)]
  simp only [dW,<-e];split
  .split
   .rename_i ie _;split
    .rename_i ws hws;have hn :∀x∈ws,∀g∈x.names,Agree o o' g:=by
      intro x hx g hg;rcases Aj hws x hx with h | ⟨p,hp,h⟩
      .have:=rP h;obtain ⟨v,_,rfl⟩:=QQ.1 this;rw [nM] at hg;cases hg
      .obtain ⟨q,hq,rfl⟩:=QQ.1 hp;exact hO q.2 (by simp only [Op.operands];exact QQ.2 ⟨q,hq,rfl⟩) g (h g hg)
     rw [<-zf hn];split
     .rename_i h;rw [nR (Ak h hn)]
     .rfl
    .rfl
   .rfl
  .rfl
 |makeSlice t n c=>
  simp only [dW,<-hF n (by simp [Op.operands]),<-hF c (by simp [Op.operands])];split
  .split
   .rename_i ie _;have :∀col,Qc o col 0 (ie.zero.map cv)=Qc o' col 0 (ie.zero.map cv):=fun col=>zf fun x hx g hg=>by
     obtain ⟨v,_,rfl⟩:=QQ.1 hx;rw [nM] at hg;cases hg
    rw [this]
   .rfl
  .rfl
 |call c=>
  obtain ⟨callee,args,ts⟩:=c;have ha :∀x∈args.toList,F x=F' x:=fun x hx=>hF x (by simp [Op.operands,Call.operands];exact .inr (by simpa using hx));have hb :∀x∈args.toList,∀g∈(F x).names,Agree o o' g:=fun x hx=>hO x (by simp [Op.operands,Call.operands];exact .inr (by simpa using hx));cases callee with
  |builtin b=>
   cases b with
   |append=>
    simp only [dW];split
    .rename_i s x sT xT _ hl _;have hs:=ha s (by rw [hl];simp);have hx:=ha x (by rw [hl];simp);have ns:=hb s (by rw [hl];simp);have nx:=hb x (by rw [hl];simp);rw [<-hs,<-hx];generalize F s=ss at ns;generalize F x=sx at nx;split
     .rename_i s' g2 _ _;have hg:=nx g2 (by simp [S.names,V.names,W.names]);rw [<-QN (fun g hg=>ns g (by simpa [S.names,V.names] using hg)),<-ng hg,<-hg.1]
     .rfl
    .rfl
   |_=>rfl
  |_=>rfl
 |_=>rfl
end
end Go.Fw

namespace Go.Fw
open Go.RowKit
variable [eP]
def quiet:Obj->Bool
 |.loop _=>true
 |.deferred _=>true
 |_=>false
theorem jy {o:Obj} (h:quiet o=true) :∀c e f,o≠.cells c e f:=by intro c e f e';subst e';cases h
theorem Iw {o:Obj} (h:quiet o=true) :∀s k,o≠.stringIter s k:=by intro s k e';subst e';cases h
section
variable {w w':World} {b:Nat} {o:Obj}
theorem Iy {a:Addr} {v:Value} (h:w.cell? a=some v) :∃c e f,w.heap[a.block]?=some (.cells c e f):=by
 obtain ⟨o,ho,hc⟩:=cells_of_cell h;cases o<;>first | exact ⟨_,_,_,ho⟩ | cases hc
theorem dh.turn (hb:w.heap[b]?=some o) (hq:quiet o=true) (hs :∀k,k≠b->w'.heap[k]?=w.heap[k]?) {ok:Nat->Prop} {x:P} {v:Value} (r:dh w ok x v):dh w' ok x v:=by
 have ne :∀{k c e f},w.heap[k]?=some (.cells c e f)->k≠b:=fun hk e'=>by subst e';rw [hb] at hk;exact jy hq _ _ _ (Wb hk)
 induction r with
 |int k n=>exact .int k n
 |bool b=>exact .bool b
 |str s=>exact .str s
 |opq v h=>exact .opq v h
 |nil sz ao cap=>exact .nil sz ao cap
 |sl sz l a cap f hs' hok hcap hlen hc hr ih=>
  refine .sl sz l a cap f hs' hok hcap hlen (fun i x hx j y hy => ?_) (fun i x hx j y hy=>ih i x hx j y hy);have h0:=hc i x hx j y hy;obtain ⟨c,e,f,hk⟩:=Iy h0;rw [<-h0];exact World.cell?_of_block (w:=w) (hs _ (ne hk))
 |seq l v S hv hS hq'=>
  exact .seq l v S hv (fun b' hb'=>⟨(hS b' hb').1,by obtain ⟨c,e,f,hk⟩:=(hS b' hb').2;exact ⟨c,e,f,(hs _ (ne hk)).trans hk⟩⟩)
   (eP.WL (fun b' hb'=>by obtain ⟨c,e,f,hk⟩:=(hS b' hb').2;exact hs _ (ne hk)) hq')
variable {E:Env} {st:St} {gh:Nat->Gh}
theorem vV (hz:w'.heap.size=w.heap.size) {a i:Bool}:E.ok st gh w a i=E.ok st gh w' a i:=by
 funext b;unfold Env.ok;rw [hz]
theorem fB.turn (hb:w.heap[b]?=some o) (hq:quiet o=true) (hs :∀k,k≠b->w'.heap[k]?=w.heap[k]?) (hz:w'.heap.size=w.heap.size) {x:W} {v:Value} (r:fB E st gh w x v):fB E st gh w' x v:=by
 induction r with
 |p a i x v h=>exact .p a i x v (by rw [<-vV hz];exact h.turn hb hq hs)
 |dF=>exact .dF
 |own g v hv h=>exact .own g v hv h
 |vw g lo hi v hv h=>exact .vw g lo hi v hv h
 |box g off v hv h=>exact .box g off v hv h
 |ep g n off v hv h=>exact .ep g n off v hv h
 |sp a i row off b' o' hb' h=>
  refine .sp a i row off b' o' (by rw [<-vV hz];exact hb') fun j y hj => ?_;obtain ⟨u,hu,hr⟩:=h j y hj;obtain ⟨c,e,f,hk⟩:=Iy hu;refine ⟨u,?_,by rw [<-vV hz];exact hr.turn hb hq hs⟩;rw [<-hu];refine World.cell?_of_block (w:=w) (hs _ fun e' => ?_);have hk:w.heap[b']?=some (.cells c e f):=hk;have e':b'=b:=e';rw [e',hb] at hk;exact jy hq _ _ _ (Wb hk)
 |gl g=>exact .gl g
 |nH g v hv h=>exact .nH g v hv h
 |gd b x v h ih=>exact .gd b x v ih
 |clo f caps vs hl h ih=>exact .clo f caps vs hl ih
 |no v=>exact .no v
theorem rF.turn (hb:w.heap[b]?=some o) (hq:quiet o=true) (hs :∀k,k≠b->w'.heap[k]?=w.heap[k]?) (hz:w'.heap.size=w.heap.size) {x:V} {v:Value} (r:rF E st gh w x v):rF E st gh w' x v:=by
 cases r with
 |one x v h=>exact .one x v (h.turn hb hq hs hz)
 |agg xs cs hl hv h=>exact .agg xs cs hl hv fun j x v hx hv'=>(h j x v hx hv').turn hb hq hs hz
theorem dI.turn (hb:w.heap[b]?=some o) (hq:quiet o=true) (hs :∀k,k≠b->w'.heap[k]?=w.heap[k]?) (hz:w'.heap.size=w.heap.size) {x:S} {v:Value} (r:dI E st gh w x v):dI E st gh w' x v:=by
 cases r with
 |v x v h=>exact .v x v (h.turn hb hq hs hz)
 |jM xs vs hl h=>exact .jM xs vs hl fun j x v hx hv=>(h j x v hx hv).turn hb hq hs hz
 |no v=>exact .no v
theorem iI.turn (hb:w.heap[b]?=some o) (hq:quiet o=true) (hs :∀k,k≠b->w'.heap[k]?=w.heap[k]?) (hz:w'.heap.size=w.heap.size) {a i:Bool} {sz:Nat} {l:List (List P)} {G:Gh} (r:iI E st gh w a i sz l G):iI E st gh w' a i sz l G:=by
 rcases r with r | ⟨ad,c,e,h1,h2,h3,h4,h5,h6,h7⟩
 .exact .inl r
 .exact .inr ⟨ad,c,e,h1,h2,(hs _ fun e'=>by rw [e',hb] at h3;exact jy hq _ _ _ (Wb h3)).trans h3,h4,h5,h6,fun n x hx j y hy=>let ⟨v,q1,q2⟩:=h7 n x hx j y hy;⟨v,q1,by rw [<-vV hz];exact q2.turn hb hq hs⟩⟩
theorem lU.turn (hb:w.heap[b]?=some o) (hq:quiet o=true) (hs :∀k,k≠b->w'.heap[k]?=w.heap[k]?) (hz:w'.heap.size=w.heap.size) {x:O} {G:Gh} (r:lU E st gh w x G):lU E st gh w' x G:=by
 have ne :∀{k c e f},w.heap[k]?=some (.cells c e f)->k≠b:=fun hk e'=>by subst e';rw [hb] at hk;exact jy hq _ _ _ (Wb hk)
 cases x with
 |none=>trivial
 |box ws=>
  obtain ⟨ad,c,e,h1,h2,h3,h4,h5⟩:=r;exact ⟨ad,c,e,h1,h2,(hs _ (ne h3)).trans h3,h4,fun j x hx=>let ⟨v,q1,q2,q3⟩:=h5 j x hx;⟨v,q1,q2,q3.turn hb hq hs hz⟩⟩
 |arr fz a i sz l=>
  cases fz with
  |true=>exact (by rw [<-vV hz];exact dh.turn hb hq hs r:dh w' (E.ok st gh w' a i) (.sl sz l) (.slice G.ad l.length G.cap))
  |false=>exact iI.turn hb hq hs hz r
 |aO a i sz aj l hole=>
  rcases r with r | ⟨ad,c,e,h1,h2,h3,h4,h5,h6,⟨h7,h7'⟩,h8⟩
  .exact .inl r
  .refine .inr ⟨ad,c,e,h1,h2,(hs _ (ne h3)).trans h3,h4,h5,h6,⟨h7,fun k hk=>let ⟨c,e,f,q⟩:=h7' k hk;⟨c,e,f,(hs _ (ne q)).trans q⟩⟩,fun n x hx j y hy => ?_⟩;obtain ⟨v,hv,hr⟩:=h8 n x hx j y hy;refine ⟨v,hv,?_⟩;unfold iK at *;cases hc:aj.lookup j with
   |none=>rw [hc] at hr;exact (by rw [<-vV hz];exact dh.turn hb hq hs hr:dh w' (E.ok st gh w' a i) y v)
   |some sz'=>
    rw [hc] at hr;simp only at *;cases hh:gZ hole n j with
    |some d=>rw [hh] at hr;exact ⟨hr.1,hr.2.turn hb hq hs hz⟩
    |none=>
     rw [hh] at hr;obtain ⟨l',ao,k,q1,q2,q3,q4⟩:=hr;exact ⟨l',ao,k,q1,q2,q3.turn hb hq hs hz,q4⟩
 |it s n=>
  obtain ⟨ad,bs,k,h1,h2,h3,h4⟩:=r;refine ⟨ad,bs,k,h1,h2,h3,(hs _ fun e' => ?_).trans h4⟩;rw [e',hb] at h4;exact Iw hq _ _ (Wb h4)
theorem Rel.turn {val:Nat->Value} (h:Rel E st gh val w) (hb:w.heap[b]?=some o) (hq:quiet o=true) (hB:E.B0<=b) (o':Obj):Rel E st gh val (w.putObj b o'):=by
 have hs :∀k,k≠b->(w.putObj b o').heap[k]?=w.heap[k]?:=fun k hk=>World.putObj_heap_other hk;have hz:(w.putObj b o').heap.size=w.heap.size:=World.putObj_size;exact ⟨fun t=>(h.slots t).turn hb hq hs hz,fun g=>(h.bg g).turn hb hq hs hz,h.inj,fun g a h1 h2=>by rw [hz];exact h.wr g a h1 h2,h.wi,h.ns,h.wb,fun k hk hw=>(hs k (by omega)).trans (h.frame k hk hw),by rw [hz];exact h.size,h.os,h.tape,h.output,h.us,h.uo,h.ul⟩
omit [eP] in
structure BU (w w':World):Prop where
 size:w.heap.size<=w'.heap.size
 same :∀b,b<w.heap.size->w'.heap[b]?=w.heap[b]?
 os:w'.os=w.os
 tape:w'.tape=w.tape
 output:w'.output=w.output
theorem BU.alloc (w:World) (o:Obj):BU w (w.alloc o):=
 ⟨by simp,fun b hb=>Below.heap_alloc w o b hb,rfl,rfl,rfl⟩
theorem BU.lets (h:BU w w'):Lets E st st gh gh w w':=
 ⟨fun a i b hb=>⟨⟨hb.1,Wz hb.2.1 h.size,hb.2.2⟩,h.same b hb.2.1⟩,fun g _=>.inr ⟨⟨rfl,rfl⟩,O.fD _⟩⟩
theorem Rel.grows {val:Nat->Value} (h:Rel E st gh val w) (hg:BU w w'):Rel E st gh val w':=by
 have hl:Lets E st st gh gh w w':=hg.lets;refine ⟨fun t=>hl.afb (h.us t) (h.slots t),fun g=>hl.Bv (fun ho ad had=>hg.same _ (h.wr g ad ho had).2) (h.uo g) (h.bg g),h.inj,fun g a h1 h2=>⟨(h.wr g a h1 h2).1,Wz (h.wr g a h1 h2).2 hg.size⟩,h.wi,h.ns,h.wb,fun k hk hw=>(hg.same k (Wz hk h.size)).trans (h.frame k hk hw),UI h.size hg.size,hg.os.trans h.os,hg.tape.trans h.tape,hg.output.trans h.output,h.us,h.uo,h.ul⟩
theorem Rel.abE {val:Nat->Value} (h:Rel E st gh val w) (hb:w.heap[b]?=some o) (hq:quiet o=true) (hB:E.B0<=b) (a i:Bool):E.ok st gh w a i b:=by
 refine ⟨.inr (.inr (.inl hB)),(Wg.1 hb).1,fun g ho had => ?_⟩;have hO:=h.bg g;rcases had with ⟨ad,had,e⟩ | hsub
 case inr=>
  cases hd:(st.o g).oz with
  |false=>rw [h.ns g ho hd b] at hsub;cases hsub
  |true=>
   cases hog:st.o g with
   |aO a i sz aj l hole=>
    rw [hog] at hO;rcases hO with ⟨_,_,_,q⟩ | ⟨ad,c,e,_,_,_,_,_,_,⟨_,q⟩,_⟩
    .rw [q b] at hsub;cases hsub
    .obtain ⟨c,e,f,q⟩:=q b hsub;rw [hb] at q;exact jy hq _ _ _ (Wb q)
   |_=>rw [hog] at hd;cases hd
 cases hog:st.o g with
 |none=>rw [hog] at ho;cases ho
 |box ws=>
  rw [hog] at hO;obtain ⟨ad',c,e',q1,_,q3,_⟩:=hO;rw [had] at q1;cases q1;rw [e,hb] at q3;exact jy hq _ _ _ (Wb q3)
 |aO a i sz aj l hole=>
  rw [hog] at hO;rcases hO with ⟨q1,_⟩ | ⟨ad',c,e',q1,_,q3,_⟩
  .rw [had] at q1;cases q1
  .rw [had] at q1;cases q1;rw [e,hb] at q3;exact jy hq _ _ _ (Wb q3)
 |arr fz a i sz l=>
  cases fz with
  |true=>rw [hog] at ho;cases ho
  |false=>
   rw [hog] at hO;rcases hO with ⟨q1,_⟩ | ⟨ad',c,e',q1,_,q3,_⟩
   .rw [had] at q1;cases q1
   .rw [had] at q1;cases q1;rw [e,hb] at q3;exact jy hq _ _ _ (Wb q3)
 |it s n=>
  rw [hog] at hO;obtain ⟨ad',bs,k,q1,_,_,q4⟩:=hO;rw [had] at q1;cases q1;rw [e,hb] at q4;exact Iw hq _ _ (Wb q4)
end
end Go.Fw

namespace Go.Fw
variable [eP]
section
variable {E:Env} {st st':St} {gh bM:Nat->Gh} {w w':World} {a:Act}
theorem UZ (v:Value):dI E st gh w (vC v) v:=by
 unfold vC;split
 .rename_i cs;split
  .rename_i h;have h:=X2.1 h;refine .v _ _ (.agg _ cs.toList (by simp) h fun j x u hx hu => ?_);rw [XN,hu] at hx;simp only [Z3,Q0] at hx;subst hx;exact UE (h u (XS hu))
  .exact .no _
 .exact .no _
 .exact .v _ _ (.one _ _ (.clo _ [] [] rfl fun j x v hx=>by simp at hx))
 .split
  .rename_i h;exact .v _ _ (.one _ _ (UE h))
  .exact .no _
theorem Oj (v:Value):(vC v).names=[]:=by
 unfold vC;split
 .split
  .simp [S.names,V.names,nM]
  .rfl
 .rfl
 .simp [S.names,V.names,W.names]
 .split
  .simp [S.names,V.names,nM]
  .rfl
theorem nS (h:Rel E st gh (fun t=>a.tmps.getD t undef) w) (x:Operand):dI E st gh w (st.dJ x) (a.eval x):=by
 cases x with
 |tmp t=>exact h.slots t
 |const v=>exact UZ v
 |global g=>
  simp only [St.dJ];split
  .exact .v _ _ (.one _ _ (.gl g))
  .exact .no _
 |func f=>exact .v _ _ (.one _ _ (.clo _ [] [] rfl fun j x v hx=>by simp at hx))
theorem Iz (h:Rel E st gh (fun t=>a.tmps.getD t undef) w) (x:Operand) :∀g∈(st.dJ x).names,st.used g=true:=by
 cases x with
 |tmp t=>exact h.us t
 |const v=>intro g hg;simp [St.dJ,Oj] at hg
 |global g=>
  intro g' hg;simp only [St.dJ] at hg;split at hg
  .simp [S.names,V.names,W.names] at hg
  .simp [S.names] at hg
 |func f=>intro g hg;simp [St.dJ,S.names,V.names,W.names] at hg
theorem xX (dst:Option Tmp) (v:Value) (h :∀d,dst=some d->d<a.tmps.size):(fun t=>(a.put dst v).tmps.getD t undef)=xE (fun t=>a.tmps.getD t undef) dst v:=by
 cases dst with
 |none=>rfl
 |some d=>
  funext t;have hd:=h d rfl;simp only [Act.put,xE,ZS];by_cases e:t=d
  .subst e;simp [hd]
  .rw [KB (Ne.symm e),if_neg e]
variable {Pg:Program} {T:Tab} {tt:TT}
theorem Zl (hT :∀f sp,T f=some sp->Sound Pg (f % 1000000) sp) (htt:iC Pg tt) (h:Rel E st gh (fun t=>a.tmps.getD t undef) w) {o:Oper} {d:Nat} {e:Eff} (hc:jk T tt d st o fun e'=>e'=e) (hnew :∀g∈e.new,st.used g=false)
  {K:Act->World->Prop} {Q:Exit->Act->World->Prop}
  (hK :∀v w' bM,Rel E (st.aJ e.aJ e.new) bM (fun t=>a.tmps.getD t undef) w'->Lets E st (st.aJ e.aJ e.new) gh bM w w'->dI E (st.aJ e.aJ e.new) bM w' e.x v->(∀g∈e.x.names,(st.aJ e.aJ e.new).used g=true)->K (a.put o.dst v) w') :
  o.wp Pg a w K Q:=by
 unfold jk at hc;split at hc
 .rename_i f args ts ho;split at hc
  .rename_i fn caps hf;split at hc
   .rename_i sp hsp;split at hc
    .rename_i c hci;obtain ⟨Xc,bW,same,hR,hsame,he⟩:=hc;simp only [Q6,decide_eq_true_eq] at Xc;have hrf:=nS h f;rw [hf] at hrf;generalize hvf:a.eval f=vf at hrf;cases hrf.dH with
     |clo _ _ vs hl hvs=>
     have hS:=afj (p:=Sound Pg) hT hsp;have hrun:(execOp a.eval o).run Pg w=.ok (.enter fn (args.toList.map a.eval++vs).toArray) w:=by
      have:(#[]++args.map a.eval)++vs.toArray=(args.toList.map a.eval++vs).toArray:=by
       apply Array.ext';simp
      rw [<-hS.2.1 (args.toList.map a.eval++vs).toArray w,<-this];simp only [execOp,ho,resolve,hvf,Deferred.ofValue];rfl
     show o.upon Pg a K Q ((execOp a.eval o).run Pg w);rw [hrun,Oper.upon_enter];have hr :∀t,dI E st gh w (((args.toList.map st.dJ)++caps.map fun x=>S.v (.one x)).getD t .no) ((args.toList.map a.eval++vs).getD t undef):=by
      intro t;simp only [List.getD_eq_getElem?_getD];by_cases ht:t<args.toList.length
      .rw [Wc (by simpa using ht),Wc (by simpa using ht),XN,XN,Q2 ht];exact nS h _
      .rw [W7 (by simpa using ht),W7 (by simpa using ht)];simp only [W2];rw [XN];cases hx:caps[t-args.toList.length]? with
       |none=>exact .no _
       |some x=>
        have hlt:t-args.toList.length<vs.length:=by rw [<-hl];exact (Q3.1 hx).1
        rw [Q2 hlt];exact .v _ _ (.one _ _ (hvs _ x _ hx (Q2 hlt)))
     have hu:=Zc (st:=st) (e:=iJ sp.sig d st.o c bW) fun g hg=>(hsame g hg).2;have hnew :∀g∈(iJ sp.sig d st.o c bW).new,st.used g=false:=fun g hg=>hnew g (by rw [<-he];exact hg);refine Calls.mono (UY hS h hr (by simp;omega) hci Xc.1 hR d rfl hnew) fun e' w' he' => ?_;obtain ⟨v,bM,rfl,q1,q2,q3,q4⟩:=he';rw [<-hu] at q1 q2 q3 q4;rw [he] at q1 q2 q3 q4;have q3:dI E (st.aJ e.aJ e.new) bM w' e.x v:=by rw [<-he];rw [<-he] at q3;exact q3
     have q4 :∀g∈e.x.names,(st.aJ e.aJ e.new).used g=true:=by rw [<-he];rw [<-he] at q4;exact q4
     exact hK v w' bM q1 q2 q3 q4
    .cases hc
   .cases hc
  .cases hc
 .rcases hc with ⟨dc,r,hk,hp,hc⟩ | hc
  .have he:=Qd.iff.1 hc;subst he;obtain ⟨v,w',bM,hd,q1,q2,q3,q4⟩:=KO htt o.op E st gh _ w a.eval st.dJ o d r rfl h (nS h) (Iz h) hk hp hnew;show o.upon Pg a K Q ((execOp a.eval o).run Pg w);rcases hd with hd | ⟨hd,rfl⟩
   .rw [hd];exact hK v w' bM q1 q2 q3 q4
   .rw [hd];exact hK _ w' bM q1 q2 q3 q4
  split at hc
  .rename_i r hk;obtain ⟨hp,hc⟩:=hc;have he:({ x:=r.dst r.val,aJ:=r.aJ r.val,new:=r.new }:Eff)=e:=by
    cases hb:EY o.op with
    |true=>rw [hb] at hc;exact Qd.iff.1 hc
    |false=>rw [hb] at hc;exact hc
   subst he;obtain ⟨v,w',bM,hd,q1,q2,q3,q4⟩:=NZ htt o.op E st gh _ w a.eval st.dJ o d r rfl h (nS h) (Iz h) hk hp hnew;show o.upon Pg a K Q ((execOp a.eval o).run Pg w);rcases hd with hd | ⟨hd,rfl⟩
   .rw [hd];exact hK v w' bM q1 q2 q3 q4
   .rw [hd];exact hK _ w' bM q1 q2 q3 q4
  .cases hc
def mark (D:Nat):Deferred:={ target:=.collected D,args:=#[] }
def Marks (E:Env) (a:Act) (w:World):Prop :=∃Ds:List Nat,a.defers=Ds.map mark/\Ds.Nodup/\∀D∈Ds,E.B0<=D/\w.heap[D]?=some (.deferred (some []))
theorem Marks.nil {E:Env} {a:Act} {w:World} (h:a.defers=[]):Marks E a w:=⟨[],h,List.nodup_nil,fun D hD=>by cases hD⟩
structure Good (E:Env) (N:Nat) (aY:List Nat) (pW:Nat->Gh) (st:St) (a:Act) (w:World):Prop where
 ex :∃gh,Rel E st gh (fun t=>a.tmps.getD t undef) w/\∀g∈aY,st.used g=true/\(st.o g=.none\/((gh g).ad=(pW g).ad/\(gh g).cap=(pW g).cap))
 size:a.tmps.size=N
 defers:Marks E a w
theorem xY (dst:Option Tmp) (v:Value):(a.put dst v).tmps.size=a.tmps.size:=by cases dst<;>simp [Act.put]
theorem put_defers (dst:Option Tmp) (v:Value):(a.put dst v).defers=a.defers:=by cases dst<;>rfl
theorem Marks.same {E:Env} {a:Act} {w w':World} (hm:Marks E a w) (h :∀D,E.B0<=D->w.heap[D]?=some (.deferred (some []))->w'.heap[D]?=w.heap[D]?) (dst:Option Tmp) (v:Value):Marks E (a.put dst v) w':=by
 obtain ⟨Ds,h1,h2,h3⟩:=hm;exact ⟨Ds,(put_defers dst v).trans h1,h2,fun D hD=>⟨(h3 D hD).1,(h D (h3 D hD).1 (h3 D hD).2).trans (h3 D hD).2⟩⟩
theorem Marks.step {val:Nat->Value} (hm:Marks E a w) (hR:Rel E st gh val w) (hL:Lets E st st' gh bM w w') (dst:Option Tmp) (v:Value):Marks E (a.put dst v) w':=
 hm.same (fun D h2 h3=>(hL.ok false false D (hR.abE h3 rfl h2 _ _)).2) dst v
theorem Marks.put (hm:Marks E a w) (dst:Option Tmp) (v:Value):Marks E (a.put dst v) w:=hm.same (fun _ _ _=>rfl) dst v
def Can (T:Tab) (tt:TT) (N:Nat) (ops:Array Oper) (st:St) (o:Oper) (e:Eff):Prop:=stepW T tt N ops o st fun e'=>e'=e
theorem oI {d:Nat} {o:Oper} {K K':Eff->Prop} (hK :∀e,K e->K' e) (h:jk T tt d st o K):jk T tt d st o K':=by
 unfold jk at *;split at h
 .split at h
  .split at h
   .split at h
    .obtain ⟨h1,bW,same,h2,h4,h3⟩:=h;exact ⟨h1,bW,same,h2,h4,hK _ h3⟩
    .exact h
   .exact h
  .exact h
 .rcases h with ⟨dc,r,h1,h2,h3⟩ | h
  .exact .inl ⟨dc,r,h1,h2,Qd.iff.2 (hK _ (Qd.iff.1 h3))⟩
  refine .inr ?_;split at h
  .refine ⟨h.1,?_⟩;obtain ⟨_,h⟩:=h;cases hb:EY o.op with
   |true=>rw [hb] at h;exact Qd.iff.2 (hK _ (Qd.iff.1 h))
   |false=>rw [hb] at h;exact hK _ h
  .exact h
theorem D5 {d:Nat} {o:Oper} {K:Eff->Prop} (h:jk T tt d st o K) :∃e,jk T tt d st o (fun e'=>e'=e)/\K e:=by
 unfold jk at *;split at h
 .split at h
  .split at h
   .split at h
    .obtain ⟨h1,bW,same,h2,h4,h3⟩:=h;exact ⟨_,⟨h1,bW,same,h2,h4,rfl⟩,h3⟩
    .cases h
   .cases h
  .cases h
 .rcases h with ⟨dc,r,h1,h2,h3⟩ | h
  .exact ⟨_,.inl ⟨dc,r,h1,h2,Qd.iff.2 rfl⟩,Qd.iff.1 h3⟩
  split at h
  .obtain ⟨hp,h⟩:=h;cases hb:EY o.op with
   |true=>rw [hb] at h;exact ⟨_,.inr ⟨hp,Qd.iff.2 rfl⟩,Qd.iff.1 h⟩
   |false=>rw [hb] at h;exact ⟨_,.inr ⟨hp,rfl⟩,h⟩
  .cases h
theorem QO {N:Nat} {ops:Array Oper} {o:Oper} {K:Eff->Prop} (h:stepW T tt N ops o st K) :∃e,Can T tt N ops st o e/\K e:=by
 unfold Can;unfold stepW at *;obtain ⟨hd,h⟩:=h;split at h
 .obtain ⟨e,h1,h2,h3⟩:=D5 h;exact ⟨e,⟨hd,oI (fun e' he=>⟨by rw [he];exact h2,he⟩) h1⟩,h3⟩
 .split at h
  .rename_i b hb;cases b with
   |true=>
    simp only [cond_true] at h;obtain ⟨e,h1,h2,h3⟩:=D5 h;refine ⟨e,⟨hd,?_⟩,h3⟩;simp only [cond_true];exact oI (fun e' he=>⟨by rw [he];exact h2,he⟩) h1
   |false=>exact ⟨Eff.skip,⟨hd,rfl⟩,h⟩
  .cases h
theorem IB {N:Nat} {aY:List Nat} {pW:Nat->Gh} (hT :∀f sp,T f=some sp->Sound Pg (f % 1000000) sp) (htt:iC Pg tt) {ops:Array Oper} {i:Nat} {o:Oper} (hi:ops[i]?=some o) (h:Good E N aY pW st a w) {e:Eff} (hc:Can T tt N ops st o e)
  {K:Act->World->Prop} {Q:Exit->Act->World->Prop} (hK :∀a' w',Good E N aY pW (st.eff o.dst e) a' w'->K a' w'):wpOp Pg ops Q i K a w:=by
 obtain ⟨⟨gh,hR,E_⟩,hsz,hdf⟩:=h;unfold Can stepW at hc;obtain ⟨hd,hc⟩:=hc;have hd :∀d,o.dst=some d->d<a.tmps.size:=by
  intro d e;rw [e] at hd;rw [hsz];simpa using hd
 have run:(jk T tt (o.dst.getD 0) st o fun e'=>e'.new.all (fun g=>!st.used g)=true/\e'=e)->o.wp Pg a w K Q:=by
  intro hc;obtain ⟨e',h1,h2,rfl⟩:=D5 hc;have hnew :∀g∈e'.new,st.used g=false:=fun g hg=>by have:=(X2.1 h2) g hg;simpa using this
  refine Zl hT htt hR h1 hnew fun v w' bM q1 q2 q3 q4=>hK _ _ ⟨⟨bM,?_,fun g hg => ?_⟩,by rw [xY];exact hsz,hdf.step hR q2 _ _⟩
  .rw [xX _ _ hd];exact q1.put o.dst q3 q4
  .obtain ⟨p1,p2⟩:=E_ g hg;have ho:(st.eff o.dst e').o g=(st.aJ e'.aJ e'.new).o g:=by unfold St.eff St.put;cases o.dst<;>rfl
   have hu:(st.eff o.dst e').used g=(st.aJ e'.aJ e'.new).used g:=by unfold St.eff St.put;cases o.dst<;>rfl
   refine ⟨by rw [hu];simp [St.aJ,p1],?_⟩;rw [ho];rcases q2.names g p1 with q | ⟨q,qk⟩
   .exact .inl q
   .rcases p2 with p2 | p2
    .rw [p2] at qk;exact .inl (O.DX qk)
    .exact .inr ⟨q.1.trans p2.1,q.2.trans p2.2⟩
 unfold wpOp;rw [hi];simp only;cases hg:o.guard with
 |none=>
  rw [hg] at hc;have:Region.wanted o (yielded ops a.tmps)=true:=by simp [Region.wanted,hg]
  rw [if_pos this];exact .inl (run hc)
 |some p=>
  obtain ⟨j,want⟩:=p;rw [hg] at hc;simp only at hc;split at hc
  .rename_i b hb;have hw:Region.wanted o (yielded ops a.tmps)=b:=by
    simp only [Region.wanted,hg,yielded];unfold guardOf at hb;split at hb
    .rename_i t ht;have QT:=hR.slots t;rw [ht];simp only [Option.bind_some];split at hb
     .rename_i a' i' b' hs;rw [hs] at QT;have hv:=QT.fF.mg;have:a.tmps[t]?=some (.bool b'):=by
       simp only [ZS] at hv;cases hx:a.tmps[t]? with
       |none=>rw [hx] at hv;cases hv
       |some x=>rw [hx] at hv;simp at hv;rw [hv]
      rw [this];simp only [Q0] at hb;subst hb;cases want<;>cases b'<;>rfl
     .rename_i hs;rw [hs] at QT;simp only [Q0] at hb;subst hb;have hv:a.tmps.getD t undef=.tuple #[]:=by
       generalize a.tmps.getD t undef=v at QT;cases QT with | jM _ vs hl _=>
       have:vs=[]:=by cases vs<;>simp_all
       subst this;rfl
      have:a.tmps[t]?=none\/a.tmps[t]?=some (.tuple #[]):=by
       simp only [ZS] at hv;cases hx:a.tmps[t]? with
       |none=>exact .inl rfl
       |some x=>rw [hx] at hv;simp at hv;rw [hv];exact .inr rfl
      rcases this with h | h<;>rw [h]<;>cases want<;>rfl
     .cases hb
    .cases hb
   rw [hw];cases b with
   |true=>exact .inl (run hc)
   |false=>
    simp only [cond_false] at hc;subst hc;refine hK _ _ ⟨⟨gh,?_,fun g hg => ?_⟩,by rw [xY];exact hsz,hdf.put _ _⟩
    .rw [xX _ _ hd];unfold St.eff Eff.skip;simp only [Gy];exact hR.put o.dst (.jM [] [] rfl fun j x v hx=>by simp at hx) (by simp [S.names])
    .have ho:(st.eff o.dst Eff.skip).o g=st.o g:=by unfold St.eff St.put Eff.skip;cases o.dst<;>simp [St.aJ]
     have hu:(st.eff o.dst Eff.skip).used g=st.used g:=by unfold St.eff St.put Eff.skip;cases o.dst<;>simp [St.aJ]
     rw [ho,hu];exact E_ g hg
  .cases hc
end
end Go.Fw

namespace Go.Fw
variable [eP]
section
variable {o o':Nat->O}
theorem IC {k:WS} {x:W} (h :∀g∈x.names,Agree o o' g):fK o k x=fK o' k x:=by
 cases k with
 |p a i=>simp only [fK];rw [DZ h]
 |own g'=>cases x<;>rfl
 |box g' off=>
  cases off with
  |zero=>cases x<;>first | rfl | (rename_i off;cases off<;>rfl)
  |succ off=>cases x<;>rfl
 |dF=>cases x<;>rfl
 |fn f=>cases x<;>first | rfl | (rename_i caps;cases caps<;>rfl)
 |nH g=>cases x<;>rfl
 |no=>cases x<;>rfl
 |vw g=>cases x<;>rfl
 |ep g off=>cases x<;>rfl
theorem Fe :∀{ks:List WS} {xs:List W},(∀x∈xs,∀g∈x.names,Agree o o' g)->jJ o ks xs=jJ o' ks xs
 | [],[],_=>rfl
 | [],_::_,_=>rfl
 |_::_,[],_=>rfl
 |k::ks,x::xs,h=>by simp only [jJ];rw [IC (h x (by simp)),Fe fun y hy=>h y (by simp [hy])]
theorem U0 {k:SS} {x:S} (h :∀g∈x.names,Agree o o' g):oH o k x=oH o' k x:=by
 cases k with
 |one k=>
  cases x with
  |v x=>cases x with
   |one x=>exact IC fun g hg=>h g (by simpa [S.names,V.names] using hg)
   |agg xs=>rfl
  |jM=>rfl
  |no=>rfl
 |agg ks=>
  cases x with
  |v x=>cases x with
   |one x=>rfl
   |agg xs=>exact Fe fun x hx g hg=>h g (by simp only [S.names,V.names,Z1];exact ⟨x,hx,hg⟩)
  |jM=>rfl
  |no=>rfl
theorem Xd {args:List S} {t:Nat}:args.getD t .no=.no\/args.getD t .no∈args:=by
 rw [List.getD_eq_getElem?_getD];cases h:args[t]? with
 |none=>exact .inl rfl
 |some x=>exact .inr (XS h)
theorem xZ {args:List S} (h :∀x∈args,∀g∈x.names,Agree o o' g) :∀{L:List (Nat×SS)},eY o args L=eY o' args L
 | []=>rfl
 |(t,k)::L=>by
  simp only [eY];rw [U0 (o:=o) (o':=o') (k:=k) (x:=args.getD t .no) (fun g hg=>by
   rcases Xd (args:=args) (t:=t) with e | e
   .rw [e] at hg;simp [S.names] at hg
   .exact h _ e g hg),xZ h]
theorem BZ {k:WS} {x:W} {us:List P} {c:Bool×Bool} {gs:List Nat} {r:List (Nat×Nat)} (h:fK o k x=some (us,c,gs,r)) (hx :∀g∈x.names,Agree o o' g) :∀g∈gs,Agree o o' g:=by
 cases k with
 |p a i=>
  simp only [fK] at h;split at h
  .rename_i ht;simp only [Q0,Q1] at h;obtain ⟨_,_,rfl,_⟩:=h;exact Ah ht hx
  .cases h
 |own g'=>cases x<;>simp [fK] at h;obtain ⟨_,_,rfl,_⟩:=h;simp
 |box g' off=>
  cases off with
  |succ off=>cases x<;>simp [fK] at h
  |zero=>
   cases x with
   |box g off=>cases off<;>simp [fK] at h;obtain ⟨_,_,rfl,_⟩:=h;simp
   |_=>simp [fK] at h
 |dF=>simp [fK] at h
 |fn f gs0=>
  cases x with
  |clo f' caps=>
   simp only [fK] at h;split at h
   .split at h
    .simp only [Q0,Q1] at h;obtain ⟨_,_,rfl,_⟩:=h;simp
    .cases h
   .cases h
  |_=>simp [fK] at h
 |nH g=>simp [fK] at h
 |no=>simp [fK] at h
 |vw g=>simp [fK] at h
 |ep g off=>simp [fK] at h
theorem zL :∀{ks:List WS} {xs:List W} {us:List P} {c:Bool×Bool} {gs:List Nat} {r:List (Nat×Nat)},jJ o ks xs=some (us,c,gs,r)->(∀x∈xs,∀g∈x.names,Agree o o' g)->∀g∈gs,Agree o o' g
 | [],xs,us,c,gs,r,h,_=>by
  cases xs<;>simp [jJ] at h;obtain ⟨_,_,rfl,_⟩:=h;simp
 |k::ks,xs,us,c,gs,r,h,hx=>by
  cases xs with
  |nil=>simp [jJ] at h
  |cons x xs=>
   simp only [jJ] at h;split at h
   .rename_i h1 h2;simp only [Q0,Q1] at h;obtain ⟨_,_,rfl,_⟩:=h;intro g hg;rcases Xs.1 hg with hg | hg
    .exact BZ h1 (hx _ (by simp)) g hg
    .exact zL h2 (fun y hy=>hx y (by simp [hy])) g hg
   .cases h
theorem uw {args:List S} :∀{L:List (Nat×SS)} {us:List P} {c:Bool×Bool} {gs:List Nat} {r:List (Nat×Nat)},eY o args L=some (us,c,gs,r)->(∀x∈args,∀g∈x.names,Agree o o' g)->∀g∈gs,Agree o o' g
 | [],us,c,gs,r,h,_=>by simp [eY] at h;obtain ⟨_,_,rfl,_⟩:=h;simp
 |(t,k)::L,us,c,gs,r,h,hx=>by
  simp only [eY] at h;split at h
  .rename_i h1 h2;simp only [Q0,Q1] at h;obtain ⟨_,_,rfl,_⟩:=h;intro g hg;rcases Xs.1 hg with hg | hg
   .have hx0 :∀g∈(args.getD t .no).names,Agree o o' g:=by
     rcases Xd (args:=args) (t:=t) with e | e
     .rw [e];simp [S.names]
     .exact hx _ e
    .generalize args.getD t S.no=z at h1 hx0;cases k with
     |one k=>
      cases z with
      |v z=>
       cases z with
       |one z=>exact BZ h1 (fun g hg=>hx0 g (by simpa [S.names,V.names] using hg)) g hg
       |agg z=>simp [oH] at h1
      |_=>simp [oH] at h1
     |agg ks=>
      cases z with
      |v z=>
       cases z with
       |one z=>simp [oH] at h1
       |agg z=>exact zL h1 (fun x hx g hg=>hx0 g (by simp only [S.names,V.names,Z1];exact ⟨x,hx,hg⟩)) g hg
      |_=>simp [oH] at h1
   .exact uw h2 hx g hg
  .cases h
theorem oJ :∀{L:List (Nat×OS)} {r r':List (Nat×Nat)} {u:List P} {c:Bool×Bool},jG o r L=some (u,c,r')->∀p∈r,p∈r'
 | [],r,r',u,c,h=>by simp only [jG,Q0,Q1] at h;obtain ⟨_,_,rfl⟩:=h;exact fun p hp=>hp
 |(g',k)::L,r,r',u,c,h=>by
  simp only [jG] at h;split at h
  .split at h
   .split at h
    .split at h
     .rename_i h2;simp only [Q0,Q1] at h;obtain ⟨_,_,rfl⟩:=h;exact fun p hp=>oJ h2 p (ZZ _ hp)
     .cases h
    .cases h
   .split at h
    .split at h
     .rename_i h2;simp only [Q0,Q1] at h;obtain ⟨_,_,rfl⟩:=h;exact oJ h2
     .cases h
    .cases h
   .split at h
    .split at h
     .rename_i h2;simp only [Q0,Q1] at h;obtain ⟨_,_,rfl⟩:=h;exact oJ h2
     .cases h
    .cases h
   .cases h
  .cases h
theorem qg :∀{L:List (Nat×OS)} {r r':List (Nat×Nat)} {u:List P} {c:Bool×Bool},jG o r L=some (u,c,r')->(∀p∈r',o p.2=o' p.2)->jG o' r L=some (u,c,r')
 | [],r,r',u,c,h,_=>h
 |(g',k)::L,r,r',u,c,h,hl=>by
  simp only [jG] at h ⊢;split at h
  .rename_i g hg;have hmem:=kM hg;have key :∀r2:List (Nat×Nat),(∀p∈r,p∈r2)->(∀p∈r2,p∈r')->o g=o' g:=fun r2 h1 h2=>hl _ (h2 _ (h1 _ hmem));split at h
   .rename_i ks ws hk;split at h
    .rename_i r1 h1;split at h
     .rename_i h2;simp only [Q0,Q1] at h;obtain ⟨rfl,rfl,rfl⟩:=h;have e:=key _ (fun p hp=>ZZ _ hp) (oJ h2);simp only [<-e,hk,h1,qg h2 hl]
     .cases h
    .cases h
   .rename_i a1 b1 c1 sz a i sz' l hk;split at h
    .rename_i hsz;split at h
     .rename_i h2;simp only [Q0,Q1] at h;obtain ⟨rfl,rfl,rfl⟩:=h;have e:=key _ (fun p hp=>hp) (oJ h2);simp only [<-e,hk,qg h2 hl,if_pos hsz]
     .cases h
    .cases h
   .rename_i a1 b1 sz aj a i sz' kG l hk;split at h
    .rename_i hsz;split at h
     .rename_i h2;simp only [Q0,Q1] at h;obtain ⟨rfl,rfl,rfl⟩:=h;have e:=key _ (fun p hp=>hp) (oJ h2);simp only [<-e,hk,qg h2 hl,if_pos hsz]
     .cases h
    .cases h
   .cases h
  .cases h
theorem Ol {s:y9} {args:List S} {c:KQ} (h:g_ s o args=some c) (h1 :∀x∈args,∀g∈x.names,Agree o o' g) (h2 :∀p∈c.ren,o p.2=o' p.2):g_ s o' args=some c:=by
 unfold g_ at *;rw [<-xZ h1];split at h
 .rename_i hs;split at h
  .rename_i E_;simp only [Q0] at h;subst h;simp only [qg E_ fun p hp=>h2 p (ni.2 hp)]
  .cases h
 .cases h
theorem IE {s:y9} {args:List S} {c:KQ} (hc:g_ s o args=some c) (hx :∀x∈args,∀g∈x.names,Agree o o' g) :∀g∈c.u_,Agree o o' g:=by
 unfold g_ at hc;split at hc
 .rename_i hsl;split at hc
  .simp only [Q0] at hc;subst hc;exact uw hsl hx
  .cases hc
 .cases hc
end
def QU (T:Tab) (st:St) (o:Oper):List Nat:=
 match o.op with
 |.call { callee:=.value f,args,.. }=>match st.dJ f with
  |.v (.one (.clo fn caps))=>match pick T fn (args.toList.map st.dJ) with
   |some sp=>match g_ sp.sig st.o ((args.toList.map st.dJ)++caps.map fun x=>S.v (.one x)) with
    |some c=>c.ren.map (·.2)
    |none=>[]
   |none=>[]
  |_=>[]
 |_=>[]
def looks:Op->Bool
 |.move _ | .assign _ | .pick _ _ _ | .build _ _ | .extract _ _ | .field _ _ _ | .makeFunc _ _ _=>false
 |_=>true
theorem Om {o o':Nat->O} {tt:TT} {d:Nat} {F F':Operand->S} {op:Op} {ty:TypeId} (hl:looks op=false) (hF :∀x∈op.operands.toList,F x=F' x):kernel tt d o F op ty=kernel tt d o' F' op ty:=by
 refine (BR (o':=o) hF fun _ _ _ _=>⟨rfl,fun _ _=>rfl⟩).trans ?_;cases op<;>first
  |(cases hl;done)
  |rfl
  |(rename_i fn first caps;cases fn<;>rfl)
theorem KW {o:Nat->O} {tt:TT} {dc:List (Nat×Nat)} {d:Nat} {F:Operand->S} {op:Op} {ty:TypeId} (hl:looks op=false):dW tt dc d o F op ty=none:=by
 cases op<;>first
  |(cases hl;done)
  |rfl
def qJ (T:Tab) (st:St) (o:Oper):List Nat:=(bif looks o.op then (o.op.operands.toList.flatMap fun x=>(st.dJ x).names.flatMap fun g=>g::(st.o g).hn) else [])++QU T st o
section
variable {T:Tab} {tt:TT} {st st':St}
theorem QV {d:Nat} {o:Oper} {K:Eff->Prop} (h:jk T tt d st o K) (hx :∀x∈o.op.operands.toList,st.dJ x=st'.dJ x) (ho :∀g∈qJ T st o,st.o g=st'.o g):jk T tt d st' o K:=by
 have hfo:looks o.op=true->∀x∈o.op.operands.toList,∀g∈(st.dJ x).names,Agree st.o st'.o g:=fun hl x hm g hg=>by
  have key :∀d∈g::(st.o g).hn,st.o d=st'.o d:=fun d hd=>ho d (ZZ _ (by rw [hl];exact Z1.2 ⟨x,hm,Z1.2 ⟨g,hg,hd⟩⟩));exact ⟨key g (by simp),fun d hd=>key d (by simp [hd])⟩
 have iH :∀g∈QU T st o,st.o g=st'.o g:=fun g hg=>ho g (US _ hg);unfold jk at *;unfold QU at iH;split at h
 .rename_i f args ts hop;rw [hop] at hx hfo iH;have hfo:=hfo rfl;simp only at iH;have hxf:=hx f (by simp [Op.operands,Call.operands]);have hxa :∀x∈args.toList,st.dJ x=st'.dJ x:=fun x hm=>hx x (by simp [Op.operands,Call.operands];exact .inr (by simpa using hm));have hfa :∀x∈args.toList,∀g∈(st.dJ x).names,Agree st.o st'.o g:=fun x hm=>hfo x (by simp [Op.operands,Call.operands];exact .inr (by simpa using hm));have hff:=hfo f (by simp [Op.operands,Call.operands]);rw [<-hxf];split at h
  .rename_i fn caps hf;rw [hf] at hff iH;simp only at iH;split at h
   .rename_i sp hsp;rw [hsp] at iH;simp only at iH;have hmap:args.toList.map st'.dJ=args.toList.map st.dJ:=Wa fun x hm=>(hxa x hm).symm;rw [hmap];split at h
    .rename_i c hci;rw [hci] at iH;have hnm :∀x∈(args.toList.map st.dJ)++(caps.map fun x=>S.v (.one x)),∀g∈x.names,Agree st.o st'.o g:=by
      intro x hm g hg;rcases Xs.1 hm with hm | hm
      .obtain ⟨y,hy,rfl⟩:=QQ.1 hm;exact hfa y hy g hg
      .obtain ⟨y,hy,rfl⟩:=QQ.1 hm;refine hff g ?_;obtain ⟨j,hj⟩:=V2.1 hy;simp only [S.names,V.names];exact zF hj (by simpa [S.names,V.names] using hg)
     have apu:=Ol hci hnm fun p hp=>iH p.2 (QQ.2 ⟨p,hp,rfl⟩);have aje:c.u_.map (aU st.o)=c.u_.map (aU st'.o):=nR (IE hci hnm);simp only [hsp,apu];obtain ⟨q1,bW,same,q2,q4,q3⟩:=h;have:iJ sp.sig d st'.o c bW=iJ sp.sig d st.o c bW:=by simp only [iJ,aje]
     refine ⟨q1,bW,same,q2,?_,?_⟩
     .rw [this];intro g hg;obtain ⟨a1,a2⟩:=q4 g hg;exact ⟨a1,by rw [a2,iH g a1]⟩
     .rw [this];exact q3
    .cases h
   .cases h
  .cases h
 .rcases h with ⟨dc,r,h1,h2,h3⟩ | h
  .refine .inl ⟨dc,r,?_,h2,h3⟩;cases hl:looks o.op with
   |true=>rw [<-KU hx (hfo hl)];exact h1
   |false=>rw [KW hl] at h1;cases h1
  .refine .inr ?_;cases hl:looks o.op with
   |true=>rw [<-BR hx (hfo hl)];exact h
   |false=>rw [<-Om hl hx];exact h
theorem Zm {N:Nat} {ops:Array Oper} {o:Oper} {e:Eff} (hc:Can T tt N ops st o e) (hs :∀t∈o.looksAt ops,st.s t=st'.s t) (ho :∀g∈qJ T st o,st.o g=st'.o g) (hu :∀g∈e.new,st.used g=st'.used g):Can T tt N ops st' o e:=by
 have hx :∀x∈o.op.operands.toList,st.dJ x=st'.dJ x:=by
  intro x hm;cases x with
  |tmp t=>exact hs t (ZZ _ (qd.2 ⟨_,hm,rfl⟩))
  |_=>rfl
 have eff:(jk T tt (o.dst.getD 0) st o fun e'=>e'.new.all (fun g=>!st.used g)=true/\e'=e)->(jk T tt (o.dst.getD 0) st' o fun e'=>e'.new.all (fun g=>!st'.used g)=true/\e'=e):=by
  intro h;refine oI (fun e' he => ?_) (QV h hx ho);obtain ⟨h1,rfl⟩:=he;refine ⟨?_,rfl⟩;rw [X2] at h1 ⊢;intro g hg;rw [<-hu g hg];exact h1 g hg
 unfold Can stepW at *;refine ⟨hc.1,?_⟩;have hc:=hc.2;cases hg:o.guard with
 |none=>rw [hg] at hc;exact eff hc
 |some p=>
  obtain ⟨j,want⟩:=p;rw [hg] at hc;simp only at hc ⊢;have:guardOf ops st j want=guardOf ops st' j want:=by
   unfold guardOf;cases hd:(ops[j]?).bind (·.dst) with
   |none=>rfl
   |some t=>
    simp only;rw [hs t (US _ (by simp [hg,hd]))]
  rw [<-this];split at hc
  .rename_i b hb;cases b with
   |true=>exact eff hc
   |false=>exact hc
  .cases hc
end
def LW (o:Nat->O):S->Option (Bool->Prop)
 |.v (.one (.p _ _ (.sl _ l)))=>some fun b=>l≠[]->b=false
 |.v (.one (.own g))=>match (o g).dim with
  |some (_,l)=>some fun b=>l≠0->b=false
  |none=>none
 |.v (.one .dF)=>some fun b=>b=true
 |_=>none
def Fh (o:Nat->O):S->Option (Bool->Prop)
 |.v (.one (.box g _))=>match o g with
  |.box _=>some fun b=>b=false
  |_=>none
 |.v (.one (.p _ _ (.opq (.pointer none))))=>some fun b=>b=true
 |_=>none
def x9 (o:Nat->O) (x:S) (k:TK) (c:Value):Option (Bool->Prop):=
 match k,c with
 |.slice _,.slice none 0 0=>LW o x
 |.ptr,.pointer none=>Fh o x
 |_,_=>none
def Oo (tt:TT) (st:St) (o:Oper):Option (Bool×(Bool->Prop)):=
 match o.guard with
 |some _=>none
 |none=>match o.op with
  |.binOp op t x (.const c) _=>match tt t with
   |some i=>match op,x9 st.o (st.dJ x) i.k c with
    |.eql,some p=>some (true,p)
    |.neq,some p=>some (false,p)
    |_,_=>none
   |none=>none
  |_=>none
def QW (s n:P):Bool:=decide (n.nat<s.bytes.size)
def abG (s n:P):P:=.int .i32 (Utf8.decode s.bytes n.nat).1
def U1 (s n:P):P:=lY (n.nat+(Utf8.decode s.bytes n.nat).2)
def Oq (st:St) (o:Oper):Option (Nat×P×P):=
 match o.guard with
 |some _=>none
 |none=>match o.op with
  |.next x true=>match st.dJ x with
   |.v (.one (.nH g))=>match st.o g with
    |.it s n=>some (g,s,n)
    |_=>none
   |_=>none
  |_=>none
def IG (g:Nat) (s n:P):Eff:={ x:=.jM [.one (.p false false (.bool true)),.one (.p false false (lY n.nat)),.one (.p false false (abG s n))],aJ:=[(g,.it s (U1 s n))],new:=[] }
def LX:Eff:={ x:=.jM [.one (.p false false (.bool false))],aJ:=[],new:=[] }
def B_ (T:Tab) (tt:TT) (N:Nat) (ops:Array Oper) (o:Oper) (st:St) (K:Eff->Prop):Prop:=
 match Oo tt st o with
 |some (pos,p)=>(match o.dst with
  |some d=>decide (d<N)
  |none=>true)=true/\∀b:Bool,p b->K { x:=scalar (.bool (bif pos then b else !b)),aJ:=[],new:=[] }
 |none=>match Oq st o with
  |some (g,s,n)=>(match o.dst with
   |some d=>decide (d<N)
   |none=>true)=true/\(QW s n=true->K (IG g s n))/\(QW s n=false->K LX)
  |none=>stepW T tt N ops o st K
def vW (T:Tab) (tt:TT) (N:Nat) (ops:Array Oper):List Nat->St->(St->Prop)->Prop
 | [],st,K=>K st
 |i::is,st,K=>match ops[i]? with
  |some o=>B_ T tt N ops o st fun e=>vW T tt N ops is (st.eff o.dst e) K
  |none=>False
structure tC where
 rd:List Nat
 wr:List Nat
 new:List Nat
 ld:Option (Nat×Nat×Nat)
 kp:List (Nat×Nat)
 pk:Bool
 kd:List Nat
def abH:W->W->Bool
 |.own g,.own g'=>Nat.beq g g'
 |.box g off,.box g' off'=>Nat.beq g g'&&Nat.beq off off'
 |_,_=>false
def Cb (g:Nat):Nat->List W->List W->Option (List (Nat×Nat))
 |_,[],[]=>some []
 |j,x::xs,y::ys=>match Cb g (j+1) xs ys with
  |some r=>some (match abH x y with
   |true=>(g,j)::r
   |false=>r)
  |none=>none
 |_,_,_=>none
def QY (g:Nat):O->Option O->List (Nat×Nat)
 |.box ws,some (.box ws')=>match Cb g 0 ws ws' with
  |some r=>r
  |none=>[]
 |_,_=>[]
def U2 (st:St) (e:Eff):List (Nat×Nat):=(e.aJ.map (·.1)).flatMap fun g=>QY g (st.o g) (e.aJ.lookup g)
def tH:Op->Bool
 |.nilCheck _=>true
 |.fieldAddr _ _ _=>true
 |_=>false
def kindOf:O->Nat
 |.box _=>1
 |.arr _ _ _ _ _=>2
 |.aO _ _ _ _ _ _=>2
 |.it _ _=>3
 |.none=>0
def U3 (st:St) (e:Eff):List Nat:=(e.aJ.map (·.1)).filterMap fun g=>match e.aJ.lookup g with
 |some x=>bif Nat.beq (kindOf x) (kindOf (st.o g)) then some g else none
 |none=>none
def II (tt:TT) (st:St) (o:Oper):Option (Nat×Nat×Nat):=match o.op with
 |.load t x=>match tt t,st.dJ x with
  |some i,.v (.one (.box g off))=>some (g,off,i.size)
  |_,_=>none
 |_=>none
def oZ (T:Tab) (tt:TT) (N:Nat) (ops:Array Oper):List Nat->St->List tC->(St->List tC->Prop)->Prop
 | [],st,fs,K=>K st fs
 |i::is,st,fs,K=>match ops[i]? with
  |some o=>stepW T tt N ops o st fun e=>oZ T tt N ops is (st.eff o.dst e) (fs++[{ rd:=qJ T st o,wr:=e.aJ.map (·.1),new:=e.new,ld:=II tt st o,kp:=U2 st e,pk:=tH o.op,kd:=U3 st e }]) K
  |none=>False
def lJ (acc:List Nat) (o:Oper):Nat:=o.after.toList.foldl (fun s e=>if Region.binds .any e=true then s ||| (2 ^ e.on) ||| acc.getD e.on 0 else s) 0
def oK:List Oper->List Nat->List Nat
 | [],acc=>acc
 |o::os,acc=>oK os (acc++[lJ acc o])
def IJ (x:Option Tmp) (ts:List Tmp):Bool:=match x with
 |some t=>!ts.contains t
 |none=>true
def Fj (w r:tC):Bool:=match r.ld with
 |some (g,off,n)=>(List.range n).all fun j=>w.kp.any fun p=>Nat.beq p.1 g&&Nat.beq p.2 (off+j)
 |none=>r.pk&&r.rd.all fun g=>!w.wr.contains g||w.kd.contains g
def abI (ops:Array Oper) (x y:Oper) (fx fy:tC):Bool:=
 IJ x.dst (y.looksAt ops)&&IJ y.dst (x.looksAt ops)&&IJ x.dst y.dst.toList&&(Ob fx.wr fy.rd||Fj fx fy)&&(Ob fy.wr fx.rd||Fj fy fx)&&Ob fx.wr fy.wr&&Ob fx.new fy.new
def Xe (ops:Array Oper) (fs:List tC):Bool:=
 let as:=oK ops.toList []
 (List.range ops.size).all fun j=>decide (as.getD j 0<2 ^ j)&&(List.range j).all fun i=>(as.getD j 0).testBit i||match ops[i]?,ops[j]?,fs[i]?,fs[j]? with
  |some x,some y,some fx,some fy=>abI ops x y fx fy
  |_,_,_,_=>false
def qh (T:Tab) (tt:TT) (N:Nat) (ops:Array Oper) (draw:Bool) (st:St) (K:St->Prop):Prop:=
 match draw with
 |false=>vW T tt N ops (List.range ops.size) st K
 |true=>oZ T tt N ops (List.range ops.size) st [] fun st' fs=>Xe ops fs=true/\K st'
end Go.Fw

