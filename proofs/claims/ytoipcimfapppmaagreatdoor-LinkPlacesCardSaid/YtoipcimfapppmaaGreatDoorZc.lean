/-
  The framework (a machine on plain data that answers as the program does), part 3.
-/
import Derived.RangeFuncLeaves
import Derived.RangeFuncCalls
import Derived.OrdersIn
import Derived.LoopNIn
import Derived.LoopN
import Derived.Tactics
import Derived.Laws.Strings
import Derived.Test.YtoipcimfapppmaaGreatDoorZb
set_option linter.unusedSimpArgs false
set_option linter.unusedVariables false
set_option linter.unusedSectionVars false
namespace Go.Fw
variable [eY]
theorem Nr(st:St)(dst:Option Tmp)(e:Eff)(t:Nat):(st.eff dst e).s t=if dst=some t then e.x else st.s t:=by
 cases dst with
 |none=>simp [St.eff,St.put,St.aJ]
 |some d=>
  simp only [St.eff,St.put,St.aJ,Q0];by_cases h:t=d
  .subst h;simp
  .have h1:Nat.beq t d=false:=by cases hb:Nat.beq t d with | false=>rfl | true=>exact absurd (Q4 hb) h
   rw [h1,if_neg (λe=>h e.symm)];rfl
theorem yu(st:St)(dst:Option Tmp)(e:Eff)(g:Nat):(st.eff dst e).o g=match e.aJ.lookup g with | some x=>x | none=>st.o g:=by
 cases dst<;>rfl
theorem uy(st:St)(dst:Option Tmp)(e:Eff)(g:Nat):(st.eff dst e).used g=(e.new.contains g||st.used g):=by
 cases dst<;>rfl
theorem ku{α:Type}{g:Nat} :∀{l:List (Nat×α)},g∉l.map (·.1)->l.lookup g=none
 | [],_=>rfl
 |(k,v)::l,h=>by
  simp only [Q6,QQ,not_or] at h;have:(g==k)=false:=by simpa using h.1
  simp only [List.lookup,this];exact ku h.2
theorem St.ext'{a b:St}(h1 :∀t,a.s t=b.s t)(h2 :∀g,a.o g=b.o g)(h3 :∀g,a.used g=b.used g):a=b:=by
 obtain ⟨s,o,u⟩:=a;obtain ⟨s',o',u'⟩:=b;simp only at h1 h2 h3;rw [funext h1,funext h2,funext h3]
section
variable {ops:Array Oper} {es es':Nat->Eff} {st:St} {D D':Nat->Bool}
def SD(ops:Array Oper)(es:Nat->Eff)(st:St)(D:Nat->Bool):Nat->St
 |0=>st
 |k+1=>if D k=true then (SD ops es st D k).eff ((ops[k]?).bind (·.dst)) (es k) else SD ops es st D k
theorem Jt :∀{n:Nat},(∀k<n,es k=es' k)->SD ops es st D n=SD ops es' st D n
 |0,_=>rfl
 |n+1,h=>by simp only [SD];rw [Jt λk hk=>h k (by omega),h n (by omega)]
theorem Eo :∀{n:Nat},(∀k<n,D k=D' k)->SD ops es st D n=SD ops es st D' n
 |0,_=>rfl
 |n+1,h=>by simp only [SD];rw [Eo λk hk=>h k (by omega),h n (by omega)]
theorem akq{t:Nat} :∀{n:Nat},(∀k<n,D k≠D' k->(ops[k]?).bind (·.dst)≠some t)->(SD ops es st D n).s t=(SD ops es st D' n).s t
 |0,_=>rfl
 |n+1,h=>by
  have ih:=akq (n:=n) λk hk=>h k (by omega);have hn:=h n (by omega);simp only [SD];cases h1:D n<;>cases h2:D' n
  .simpa using ih
  .have:=hn (by rw [h1,h2];simp);simp only [if_true,Nr,if_neg this];simpa using ih
  .have:=hn (by rw [h1,h2];simp);simp only [if_true,Nr,if_neg this];simpa using ih
  .simp only [if_true,Nr,ih]
theorem akr{g:Nat} :∀{n:Nat},(∀k<n,D k≠D' k->g∉(es k).aJ.map (·.1))->(SD ops es st D n).o g=(SD ops es st D' n).o g
 |0,_=>rfl
 |n+1,h=>by
  have ih:=akr (n:=n) λk hk=>h k (by omega);have hn:=h n (by omega);simp only [SD];cases h1:D n<;>cases h2:D' n
  .simpa using ih
  .have:=ku (hn (by rw [h1,h2];simp));simp only [if_true,yu,this];simpa using ih
  .have:=ku (hn (by rw [h1,h2];simp));simp only [if_true,yu,this];simpa using ih
  .simp only [if_true,yu,ih]
theorem Px{g:Nat} :∀{n:Nat},(∀k<n,D k≠D' k->g∉(es k).new)->(SD ops es st D n).used g=(SD ops es st D' n).used g
 |0,_=>rfl
 |n+1,h=>by
  have ih:=Px (n:=n) λk hk=>h k (by omega);have hn:=h n (by omega);simp only [SD];cases h1:D n<;>cases h2:D' n
  .simpa using ih
  .have:=hn (by rw [h1,h2];simp);have:(es n).new.contains g=false:=by simpa using this
   simp only [if_true,uy,this,J0];simpa using ih
  .have:=hn (by rw [h1,h2];simp);have:(es n).new.contains g=false:=by simpa using this
   simp only [if_true,uy,this,J0];simpa using ih
  .simp only [if_true,uy,ih]
theorem Ns{t i:Nat}(hi:D i=true)(hd:(ops[i]?).bind (·.dst)=some t) :∀{n:Nat},i<n->(∀k,i<k->k<n->D k=true->(ops[k]?).bind (·.dst)≠some t)->(SD ops es st D n).s t=(es i).x
 |0,h,_=>by omega
 |n+1,hin,h=>by
  simp only [SD];by_cases e:n=i
  .subst e;simp [hi,Nr,hd]
  .have ih:=Ns hi hd (n:=n) (by omega) λk h1 h2=>h k h1 (by omega);cases hn:D n with
   |false=>simpa using ih
   |true=>
    have:=h n (by omega) (by omega) hn;simp only [if_true,Nr,if_neg this,ih]
theorem Nu{g i:Nat}{x:O}(hi:D i=true)(hd:(es i).aJ.lookup g=some x) :∀{n:Nat},i<n->(∀k,i<k->k<n->D k=true->g∉(es k).aJ.map (·.1))->(SD ops es st D n).o g=x
 |0,h,_=>by omega
 |n+1,hin,h=>by
  simp only [SD];by_cases e:n=i
  .subst e;simp [hi,yu,hd]
  .have ih:=Nu hi hd (n:=n) (by omega) λk h1 h2=>h k h1 (by omega);cases hn:D n with
   |false=>simpa using ih
   |true=>
    have:=ku (h n (by omega) (by omega) hn);simp only [if_true,yu,this,ih]
theorem Gg{g i:Nat}(hi:D i=true)(hd:g∈(es i).new) :∀{n:Nat},i<n->(SD ops es st D n).used g=true
 |0,h=>by omega
 |n+1,hin=>by
  simp only [SD];by_cases e:n=i
  .subst e;simp [hi,uy,hd]
  .have ih:=Gg hi hd (n:=n) (by omega);cases hn:D n with
   |false=>simpa using ih
   |true=>simp only [if_true,uy,ih,Bool.or_true]
structure Apart(ops:Array Oper)(x y:Oper)(fx fy:tV):Prop where
 dy :∀t,x.dst=some t->t∉y.looksAt ops
 dx :∀t,y.dst=some t->t∉x.looksAt ops
 dd :∀t,x.dst=some t->y.dst≠some t
 wr:(∀g∈fx.wr,g∉fy.rd)\/Gf fx fy=true
 rw:(∀g∈fy.wr,g∉fx.rd)\/Gf fy fx=true
 ww :∀g∈fx.wr,g∉fy.wr
 nn :∀g∈fx.new,g∉fy.new
theorem yw{x:Option Tmp}{ts:List Tmp}(h:Js x ts=true) :∀t,x=some t->t∉ts:=by
 intro t e;subst e;simpa [Js] using h
theorem zo{xs ys:List Nat}(h:O5 xs ys=true) :∀x∈xs,x∉ys:=by
 intro x hx;have:=(Z0.1 h) x hx;simpa using this
theorem V5{x y:Oper}{fx fy:tV}(h:acW ops x y fx fy=true):Apart ops x y fx fy:=by
 simp only [acW,Qf,JN] at h;obtain ⟨⟨⟨⟨⟨⟨h1,h2⟩,h3⟩,h4⟩,h5⟩,h6⟩,h7⟩:=h;exact ⟨yw h1,yw h2,λt e e'=>yw h3 t e (by simp [e']),h4.imp zo id,h5.imp zo id,zo h6,zo h7⟩
theorem Nv{acc:List Nat}{i:Nat} :∀{l:List Edge} {s:Nat},(l.foldl (λs e=>if Region.binds .any e=true then s ||| (2 ^ e.on) ||| acc.getD e.on 0 else s) s).testBit i=true↔
  s.testBit i=true\/∃e∈l,Region.binds .any e=true/\(e.on=i\/(acc.getD e.on 0).testBit i=true)
 | [],s=>by simp
 |e::l,s=>by
  simp only [vo];rw [Nv];by_cases hb:Region.binds .any e=true
  .simp only [hb,if_true,Nat.testBit_or,JN,Nat.testBit_two_pow,decide_eq_true_eq,QQ];constructor
   .rintro (((h | h) | h) | ⟨e',h1,h2⟩)
    .exact .inl h
    .exact .inr ⟨e,.inl rfl,hb,.inl h⟩
    .exact .inr ⟨e,.inl rfl,hb,.inr h⟩
    .exact .inr ⟨e',.inr h1,h2⟩
   .rintro (h | ⟨e',h1 | h1,h2,h3 | h3⟩)
    .exact .inl (.inl (.inl h))
    .subst h1;exact .inl (.inl (.inr h3))
    .subst h1;exact .inl (.inr h3)
    .exact .inr ⟨e',h1,h2,.inl h3⟩
    .exact .inr ⟨e',h1,h2,.inr h3⟩
  .simp only [hb,QQ];constructor
   .rintro (h | ⟨e',h1,h2⟩)
    .exact .inl (by simpa using h)
    .exact .inr ⟨e',.inr h1,h2⟩
   .rintro (h | ⟨e',h1 | h1,h2,h3⟩)
    .exact .inl (by simpa using h)
    .subst h1;exact absurd h2 hb
    .exact .inr ⟨e',h1,h2,h3⟩
theorem Ju :∀{os:List Oper} {acc:List Nat},∃t,oJ os acc=acc++t
 | [],acc=>⟨[],by simp [oJ]⟩
 |o::os,acc=>by
  obtain ⟨t,h⟩:=Ju (os:=os) (acc:=acc++[lQ acc o]);exact ⟨lQ acc o::t,by simp [oJ,h]⟩
theorem Jv :∀{os:List Oper} {acc:List Nat} {j:Nat} {o:Oper},os[j]?=some o->∃acc',(∃t,oJ os acc=acc'++lQ acc' o::t)/\acc'.length=acc.length+j
 | [],acc,j,o,h=>by simp at h
 |o'::os,acc,0,o,h=>by
  simp only [UT,Q0] at h;subst h;obtain ⟨t,h⟩:=Ju (os:=os) (acc:=acc++[lQ acc o']);exact ⟨acc,⟨t,by simp [oJ,h]⟩,rfl⟩
 |o'::os,acc,j+1,o,h=>by
  simp only [VV] at h;obtain ⟨acc',h1,h2⟩:=Jv (acc:=acc++[lQ acc o']) h;exact ⟨acc',h1,by simp at h2;omega⟩
def Down(ops:Array Oper)(D:Nat->Bool):Prop :=∀(j:Nat) o,ops[j]?=some o->D j=true->∀e∈o.after,Region.binds .any e=true->D e.on=true
theorem Jw{j:Nat}{o:Oper}(ho:ops[j]?=some o){i:Nat}:((oJ ops.toList []).getD j 0).testBit i=true↔
  ∃e∈o.after,Region.binds .any e=true/\(e.on=i\/(e.on<j/\((oJ ops.toList []).getD e.on 0).testBit i=true)):=by
 have hl:ops.toList[j]?=some o:=by simpa using ho
 obtain ⟨acc,⟨t,h1⟩,h2⟩:=Jv (acc:=[]) hl;simp only [K1,Wo] at h2;rw [h1];have e1:(acc++lQ acc o::t).getD j 0=lQ acc o:=by
  rw [List.getD_eq_getElem?_getD,W6 (by omega),h2];simp
 have e2 :∀k,(acc++lQ acc o::t).getD k 0=if k<j then acc.getD k 0 else (acc++lQ acc o::t).getD k 0:=by
  intro k;split
  .rename_i hk;rw [List.getD_eq_getElem?_getD,Wa (by omega),<-List.getD_eq_getElem?_getD]
  .rfl
 rw [e1];unfold lQ;rw [Nv];simp only [Nat.zero_testBit,W4,false_or,Array.mem_toList_iff];constructor
 .rintro ⟨e,q1,q2,q3⟩;refine ⟨e,q1,q2,q3.imp id λq=>?_⟩;by_cases hk:e.on<j
  .refine ⟨hk,?_⟩;have:=e2 e.on;rw [if_pos hk] at this;unfold lQ at this;rw [this];exact q
  .have:acc.getD e.on 0=0:=by rw [List.getD_eq_getElem?_getD,WK (by omega)];rfl
   rw [this] at q;simp at q
 .rintro ⟨e,q1,q2,q3⟩;refine ⟨e,q1,q2,q3.imp id λ⟨hk,q⟩=>?_⟩;have:=e2 e.on;rw [if_pos hk] at this;unfold lQ at this;rw [this] at q;exact q
theorem yx(hD:Down ops D) :∀(j:Nat) {o:Oper},ops[j]?=some o->D j=true->∀i,((oJ ops.toList []).getD j 0).testBit i=true->D i=true:=by
 intro j
 induction j using Nat.strongRecOn with
 |_ j ih=>
  intro o ho hj i hb;obtain ⟨e,h1,h2,h3 | ⟨h3,h4⟩⟩:=(Jw ho).1 hb
  .rw [<-h3];exact hD j o ho hj e h1 h2
  .have hlt:j<ops.size:=(Vi.1 ho).1;have hlt':e.on<ops.size:=by omega
   exact ih e.on h3 (Kn hlt') (hD j o ho hj e h1 h2) i h4
theorem SG{j:Nat}{o:Oper}(ho:ops[j]?=some o)(h:(oJ ops.toList []).getD j 0<2 ^ j){e:Edge}(he:e∈o.after)(hb:Region.binds .any e=true):e.on<j:=by
 have:=(Jw ho (i:=e.on)).2 ⟨e,he,hb,.inl rfl⟩;by_cases hk:e.on<j
 .exact hk
 .rw [Nat.testBit_lt_two_pow (WN h (Nat.pow_le_pow_right (by omega) (by omega)))] at this;cases this
end
section
variable {E:Env} {N:Nat} {bg:List Nat} {xK:Nat->Gh} {st:St} {a:Act} {w:World} {Pg:Program} {T:Tab} {tt:TT} {ops:Array Oper} {Q:Exit->Act->World->Prop}
theorem SH{gh:Nat->Gh}(h:Rel E st gh (λt=>a.tmps.getD t undef) w){x:S}{v:Value}(hx:dJ E st gh w x v){i:TI}{t:TypeId}(ht:pX Pg t i){c:Value}{p:Bool->Prop}(hp:yt st.o x i.k c=some p) :
  ∃b,(Op.equal t v c).run Pg w=.ok b w/\p b:=by
 unfold yt at hp;split at hp
 .rename_i e hk;have hu:=ht.kind;rw [hk] at hu;have hu:Pg.underlying t=some (.slice e):=hu;have eqs :∀ao n cap,(Op.equal t (.slice ao n cap) (.slice none 0 0)).run Pg w=.ok ao.isNone w:=by
   intro ao n cap;unfold Op.equal Op.maxDepth;show (Op.equalIn (9999+1) t _ _).run Pg w=_;unfold Op.equalIn;cases ao<;>simp [dY hu]
  unfold Np at hp;split at hp
  .simp only [Q0] at hp;subst hp;have r:=hx.fH;generalize hl:(P.sl _ _)=y at r;cases r with
   |nil sz ao cap=>cases hl;exact ⟨_,eqs _ _ _,λh=>absurd rfl h⟩
   |sl sz l ad cap f _ _ _ _ _ _=>cases hl;exact ⟨_,eqs _ _ _,λ_=>rfl⟩
   |_=>cases hl
  .rename_i g;split at hp
   .rename_i sz l ho;simp only [Q0] at hp;subst hp;cases hx.dK with
    |own _ _ _ hb=>
     rw [hb _ _ ho];refine ⟨_,eqs _ _ _,λhl=>?_⟩;obtain ⟨ad,had,_⟩:=(vN (h.aZ g) ho).2 (by omega);rw [had];rfl
   .cases hp
  .simp only [Q0] at hp;subst hp;cases hx.dK;exact ⟨_,eqs _ _ _,rfl⟩
  .cases hp
 .rename_i hk;have hu:=ht.kind;rw [hk] at hu;obtain ⟨e,hu⟩:=(hu :∃e,Pg.underlying t=some (.pointer e));have eqp :∀ao,(Op.equal t (.pointer ao) (.pointer none)).run Pg w=.ok ao.isNone w:=by
   intro ao;unfold Op.equal Op.maxDepth;show (Op.equalIn (9999+1) t _ _).run Pg w=_;unfold Op.equalIn;cases ao<;>simp [dY hu]
  unfold F9 at hp;split at hp
  .rename_i g off;split at hp
   .rename_i ws ho;simp only [Q0] at hp;subst hp;cases hx.dK with
    |box _ _ _ _ hb=>
     obtain ⟨ad,_,rfl⟩:=hb ws ho;exact ⟨_,eqp _,rfl⟩
   .cases hp
  .simp only [Q0] at hp;subst hp;cases hx.fH with
   |opq _ _=>exact ⟨_,eqp _,rfl⟩
  .cases hp
 .cases hp
theorem SI(hT :∀f sp,T f=some sp->Sound Pg (f % 1000000) sp)(htt:iR Pg tt){i:Nat}{o:Oper}(hi:ops[i]?=some o)(hg:Good E N bg xK st a w){K':Eff->Prop}(h:CU T tt N ops o st K')
  {K:Act->World->Prop} (hK :∀e a' w',K' e->Good E N bg xK (st.eff o.dst e) a' w'->K a' w'):wpOp Pg ops Q i K a w:=by
 unfold CU at h;split at h
 .rename_i pos p hn;obtain ⟨hd,h⟩:=h;have hd :∀d,o.dst=some d->d<a.tmps.size:=by
   intro d e;rw [e] at hd;rw [hg.size];simpa using hd
  unfold Po at hn;split at hn
  .cases hn
  .rename_i hgd;split at hn
   .rename_i op t x c u hop;split at hn
    .rename_i ti ht;obtain ⟨gh,hR,LG⟩:=hg.ex;have hx:=qP hR x;have key :∀p',yt st.o (st.dh x) ti.k c=some p'->∃b,(Op.equal t (a.eval x) c).run Pg w=.ok b w/\p' b:=λp' hp=>SH hR hx (htt _ _ ht) hp;have fin :∀b,(execOp a.eval o).run Pg w=.ok (.value (.bool (bif pos then b else !b))) w->p b->wpOp Pg ops Q i K a w:=by
      intro b hrun hb;unfold wpOp;rw [hi];simp only;have:Region.wanted o (yielded ops a.tmps)=true:=by simp [Region.wanted,hgd]
      rw [if_pos this];left;show o.upon Pg a K Q ((execOp a.eval o).run Pg w);rw [hrun];refine hK _ _ _ (h b hb) ⟨⟨gh,?_,λg hg'=>?_⟩,by rw [CO];exact hg.size,hg.defers.put _ _⟩
      .rw [CJ _ _ hd];unfold St.eff;simp only [Hy];exact hR.put o.dst (dJ.ofP (.bool _)) (by simp [scalar,S.names,V.names,W.names])
      .have ho:(st.eff o.dst { x:=scalar (.bool (bif pos then b else !b)),aJ:=[],new:=[] }).o g=st.o g:=by unfold St.eff St.put;cases o.dst<;>simp [St.aJ]
       have hu:(st.eff o.dst { x:=scalar (.bool (bif pos then b else !b)),aJ:=[],new:=[] }).used g=st.used g:=by unfold St.eff St.put;cases o.dst<;>simp [St.aJ]
       rw [ho,hu];exact LG g hg'
     have hcv :∀b,(Op.equal t (a.eval x) c).run Pg w=.ok b w->(c=.slice none 0 0\/c=.pointer none)/\True->(eqGuard op t x (.const c) (a.eval x) c).run Pg w=.ok () w:=by
      intro b _ hc;unfold eqGuard;rcases hc.1 with rfl | rfl
      .cases op<;>first | rfl | (simp only;split<;>first | rfl | simp_all)
      .cases op<;>first | rfl | (simp only;split<;>first | rfl | simp_all)
     have hcc :∀p',yt st.o (st.dh x) ti.k c=some p'->c=.slice none 0 0\/c=.pointer none:=by
      intro p' hp;unfold yt at hp;split at hp
      .exact .inl rfl
      .exact .inr rfl
      .cases hp
     split at hn
     .rename_i p' hp;simp only [Q0,Q1] at hn;obtain ⟨rfl,rfl⟩:=hn;obtain ⟨b,hb1,hb2⟩:=key _ hp;refine fin b ?_ hb2;have hge:=hcv b hb1 ⟨hcc _ hp,trivial⟩;unfold execOp;rw [hop];refine gW ?_;show (eqGuard _ t x (.const c) (a.eval x) c >>= λ_=>binOp _ t (a.eval x) c).run Pg w=_;rw [Sem.run_bind,hge];rcases hcc _ hp with rfl | rfl<;>simp [binOp,hb1]
     .rename_i p' hp;simp only [Q0,Q1] at hn;obtain ⟨rfl,rfl⟩:=hn;obtain ⟨b,hb1,hb2⟩:=key _ hp;refine fin b ?_ hb2;have hge:=hcv b hb1 ⟨hcc _ hp,trivial⟩;unfold execOp;rw [hop];refine gW ?_;show (eqGuard _ t x (.const c) (a.eval x) c >>= λ_=>binOp _ t (a.eval x) c).run Pg w=_;rw [Sem.run_bind,hge];rcases hcc _ hp with rfl | rfl<;>simp [binOp,hb1]
     .cases hn
    .cases hn
   .cases hn
 .split at h
  .rename_i g s n hn;obtain ⟨hd,h1,h2⟩:=h;have hd :∀d,o.dst=some d->d<a.tmps.size:=by
    intro d e;rw [e] at hd;rw [hg.size];simpa using hd
   unfold Pq at hn;split at hn
   .cases hn
   .rename_i hgd;split at hn
    .rename_i x hop;split at hn
     .rename_i g' hx;split at hn
      .rename_i s' n' hog;simp only [Q0,Q1] at hn;obtain ⟨rfl,rfl,rfl⟩:=hn;obtain ⟨gh,hR,LG⟩:=hg.ex;have hrx:=qP hR x;rw [hx] at hrx;obtain ⟨ad,had,hv⟩ :∃ad,(gh g').ad=some ad/\a.eval x=.pointer (some ⟨ad.block,0,none⟩):=by
        have:=hrx.dK;generalize a.eval x=z at this;cases this with | nJ _ _ _ hb=>exact hb _ _ hog
       have hO:=hR.aZ g';rw [hog] at hO;obtain ⟨ad',bs,k,q1,rfl,rfl,q4⟩:=hO;rw [had] at q1;cases q1;have hlt:ad.block<w.heap.size:=(hR.wr g' ad.block (by rw [hog];rfl) (Gh.jY had)).2;have hkn:(P.int .i64 (k:Int)).nat=k:=by simp [P.nat,P.num]
       have hget:(getObj ad.block).run Pg w=.ok (.stringIter bs k) w:=by simp [getObj,Sem.run,q4]
       have fin :∀(v:Value) (w':World) (e:Eff),(∀b,b≠ad.block->w'.heap[b]?=w.heap[b]?)->(Instr.next (a.eval x) true o.type).run Pg w=.ok v w'->K' e->Rel E (st.aJ e.aJ e.new) gh (λt=>a.tmps.getD t undef) w'->dJ E (st.aJ e.aJ e.new) gh w' e.x v->(∀g∈e.x.names,(st.aJ e.aJ e.new).used g=true)->
         (∀g,st.used g=true->(st.aJ e.aJ e.new).used g=true)->(∀g,((st.aJ e.aJ e.new).o g=.none\/True)/\(st.o g=.none->(st.aJ e.aJ e.new).o g=.none))->wpOp Pg ops Q i K a w:=by
        intro v w' e hmm hrun hke hR' hx' hn' hu' ho';unfold wpOp;rw [hi];simp only;have:Region.wanted o (yielded ops a.tmps)=true:=by simp [Region.wanted,hgd]
        rw [if_pos this];left;show o.upon Pg a K Q ((execOp a.eval o).run Pg w);have:(execOp a.eval o).run Pg w=.ok (.value v) w':=by
         unfold execOp;rw [hop];exact gW hrun
        rw [this];refine hK e _ _ hke ⟨⟨gh,?_,λg hg'=>?_⟩,by rw [CO];exact hg.size,hg.defers.same (λD _ h3=>hmm D λe'=>by rw [e',q4] at h3;cases h3) _ _⟩
        .rw [CJ _ _ hd];exact hR'.put o.dst hx' hn'
        .obtain ⟨p1,p2⟩:=LG g hg';have ho2:(st.eff o.dst e).o g=(st.aJ e.aJ e.new).o g:=by unfold St.eff St.put;cases o.dst<;>rfl
         have hu2:(st.eff o.dst e).used g=(st.aJ e.aJ e.new).used g:=by unfold St.eff St.put;cases o.dst<;>rfl
         refine ⟨by rw [hu2];exact hu' g p1,?_⟩;rw [ho2];rcases p2 with p2 | p2
         .exact .inl ((ho' g).2 p2)
         .exact .inr p2
       cases hb:SC (.str bs) (.int .i64 k) with
       |true=>
        have hkb:k<bs.size:=by
         have:=of_decide_eq_true hb;rw [hkn] at this;exact this
        have hrun:(Instr.next (a.eval x) true o.type).run Pg w=.ok (.tuple #[.bool true,.int .i64 k,.int .i32 (Utf8.decode bs k).1]) { w with heap:=w.heap.setIfInBounds ad.block (.stringIter bs (k+(Utf8.decode bs k).2)) }:=by
         rw [hv];simp only [Instr.next,Sem.run_bind,hget,Result.andThen_ok];rw [if_pos hkb];have hset:(setObj ad.block (.stringIter bs (k+(Utf8.decode bs k).2))).run Pg w=.ok () { w with heap:=w.heap.setIfInBounds ad.block (.stringIter bs (k+(Utf8.decode bs k).2)) }:=by
          simp [setObj,Sem.run,q4]
         simp only [Sem.run_bind,hset,Result.andThen_ok,Sem.run_pure];rfl
        obtain ⟨w1,w2⟩:=hR.write g' ad (by rw [hog];rfl) had (.it (.str bs) (V3 (.str bs) (.int .i64 k))) (by rw [hog];trivial) { w with heap:=w.heap.setIfInBounds ad.block (.stringIter bs (k+(Utf8.decode bs k).2)) }
         (λb hb=>by simp [Kf,Ne.symm hb]) (by simp) rfl rfl rfl rfl (λ_ e=>by cases e) (λ_=>by rw [hog];rfl)
         (λ_=>⟨ad,bs,k+(Utf8.decode bs k).2,had,rfl,by simp only [V3,kY,hkn];rfl,by simp [hlt]⟩) (λg hg=>by simp [O.names] at hg)
        have hold :∀g,g≠g'->(st.aJ (Jq g' (.str bs) (.int .i64 k)).aJ (Jq g' (.str bs) (.int .i64 k)).new).o g=st.o g:=by
         intro g hne;have:(g==g')=false:=by simpa using hne
         simp [Jq,St.aJ,List.lookup,this]
        refine fin _ _ (Jq g' (.str bs) (.int .i64 k)) (λb hb=>by simp [Kf,Ne.symm hb]) hrun (h1 hb) w1 ?_ ?_ ?_ ?_
        .refine .jD _ _ rfl λj x v hx hv=>?_
         match j,hx,hv with
         |0,hx,hv=>cases hx;cases hv;exact .one _ _ (.p _ _ _ _ (.bool _))
         |1,hx,hv=>cases hx;cases hv;exact .one _ _ (.p _ _ _ _ (by rw [hkn];exact .int _ _))
         |2,hx,hv=>cases hx;cases hv;exact .one _ _ (.p _ _ _ _ (by simp only [acU,hkn];exact .int _ _))
         |j+3,hx,_=>cases hx
        .intro g hg';simp [Jq,S.names,V.names,W.names] at hg'
        .intro g hg';simp [St.aJ,hg']
        .intro g;refine ⟨.inr trivial,λh0=>?_⟩;by_cases e:g=g'
         .subst e;rw [hog] at h0;cases h0
         .rw [hold g e];exact h0
       |false=>
        have hkb:¬ k<bs.size:=by
         have:=of_decide_eq_false hb;rw [hkn] at this;exact this
        have hrun:(Instr.next (a.eval x) true o.type).run Pg w=.ok (.tuple #[.bool false]) w:=by
         rw [hv];simp only [Instr.next,Sem.run_bind,hget,Result.andThen_ok];rw [if_neg hkb];rfl
        refine fin _ _ Nq (λ_ _=>rfl) hrun (h2 hb) (by rw [show Nq.aJ=[] from rfl,show Nq.new=[] from rfl,Hy];exact hR) ?_ ?_ ?_ ?_
        .refine .jD _ _ rfl λj x v hx hv=>?_
         match j,hx,hv with
         |0,hx,hv=>cases hx;cases hv;exact .one _ _ (.p _ _ _ _ (.bool _))
         |j+1,hx,_=>cases hx
        .intro g hg';simp [Nq,S.names,V.names,W.names] at hg'
        .intro g hg';simp [St.aJ,hg']
        .intro g;exact ⟨.inr trivial,λh0=>by simpa [Nq,St.aJ] using h0⟩
      .cases hn
     .cases hn
    .cases hn
  .obtain ⟨e,hc,h⟩:=Sr h;exact Jm hT htt hi hg hc λa' w' hg'=>hK e a' w' h hg'
theorem CW(hT :∀f sp,T f=some sp->Sound Pg (f % 1000000) sp)(htt:iR Pg tt){K:St->Prop}(hK :∀st' a' w',K st'->Good E N bg xK st' a' w'->Q .normal a' w') :
  ∀(is:List Nat) {st:St} {a:Act} {w:World},wz T tt N ops is st K->Good E N bg xK st a w->wpOps Pg ops Q is a w
 | [],st,a,w,h,hg=>hK st a w h hg
 |i::is,st,a,w,h,hg=>by
  simp only [wz] at h;split at h
  .rename_i o ho;rw [wpOps_cons];exact SI hT htt ho hg h λe a' w' h hg'=>CW hT htt hK is h hg'
  .cases h
theorem Gi{K:St->List tV->Prop} :∀(m k:Nat) (es:Nat->Eff) (fs:List tV),fs.length=k->oV T tt N ops (List.range' k m) (SD ops es st (λ_=>true) k) fs K->
  ∃(es':Nat->Eff) (fs':List tV),(∀i<k,es' i=es i)/\(∀i<k,fs'[i]?=fs[i]?)/\K (SD ops es' st (λ_=>true) (k+m)) fs'/\
   ∀i,k<=i->i<k+m->∃o,ops[i]?=some o/\Can T tt N ops (SD ops es' st (λ_=>true) i) o (es' i)/\fs'[i]?=some { rd:=tN T (SD ops es' st (λ_=>true) i) o,wr:=(es' i).aJ.map (·.1),new:=(es' i).new,ld:=Me tt (SD ops es' st (λ_=>true) i) o,kp:=Pv (SD ops es' st (λ_=>true) i) o (es' i),pk:=m_ o.op,kd:=V4 (SD ops es' st (λ_=>true) i) (es' i) }
 |0,k,es,fs,hl,h=>⟨es,fs,λ_ _=>rfl,λ_ _=>rfl,h,λi h1 h2=>by omega⟩
 |m+1,k,es,fs,hl,h=>by
  simp only [Kx,oV] at h;split at h
  .rename_i o ho;obtain ⟨e,hc,h⟩:=Sr h
   let es1:Nat->Eff:=λi=>if i=k then e else es i
   have e1:SD ops es1 st (λ_=>true) k=SD ops es st (λ_=>true) k:=Jt λi hi=>by simp only [es1];rw [if_neg (by omega)]
   have e2:SD ops es1 st (λ_=>true) (k+1)=(SD ops es st (λ_=>true) k).eff o.dst e:=by
    simp only [SD,if_true];rw [e1,ho];simp [es1]
   rw [<-e2] at h;obtain ⟨es',fs',q1,q2,q3,q4⟩:=Gi m (k+1) es1 _ (by simp [hl]) h;have e3:SD ops es' st (λ_=>true) k=SD ops es st (λ_=>true) k:=(Jt λi hi=>q1 i (by omega)).trans e1;refine ⟨es',fs',λi hi=>?_,λi hi=>?_,by rw [show k+(m+1)=k+1+m by omega];exact q3,λi h1 h2=>?_⟩
   .rw [q1 i (by omega)];simp only [es1];rw [if_neg (by omega)]
   .rw [q2 i (by omega),Wa (by omega)]
   .by_cases e:i=k
    .subst e;have hei:es' i=e:=by rw [q1 i (by omega)];simp [es1]
     refine ⟨o,ho,by rw [e3,hei];exact hc,?_⟩;rw [q2 i (by omega),W6 (by omega),e3,hei];simp [hl]
    .exact q4 i (by omega) (by omega)
  .cases h
def Rng(ws:List W)(off n:Nat)(x:O):Prop :=∃wc,x=.box wc/\wc.length=ws.length/\∀off',off<=off'->off'<off+n->wc[off']?=ws[off']?
theorem Jy{g:Nat} :∀{j:Nat} {xs ys:List W} {r:List (Nat×Nat)},CV g j xs ys=some r->xs.length=ys.length/\∀p∈r,p.1=g/\j<=p.2/\xs[p.2-j]?=ys[p.2-j]?
 |j,[],[],r,h=>by simp only [CV,Q0] at h;subst h;exact ⟨rfl,λp hp=>by cases hp⟩
 |j,[],y::ys,r,h=>by simp [CV] at h
 |j,x::xs,[],r,h=>by simp [CV] at h
 |j,x::xs,y::ys,r,h=>by
  simp only [CV] at h;split at h
  .rename_i r' hr;obtain ⟨h1,h2⟩:=Jy hr;have old :∀p∈r',p.1=g/\j<=p.2/\(x::xs)[p.2-j]?=(y::ys)[p.2-j]?:=λp hp=>by
    obtain ⟨a1,a2,a3⟩:=h2 p hp;refine ⟨a1,by omega,?_⟩;rw [show p.2-j=(p.2-(j+1))+1 by omega,VV,VV];exact a3
   simp only [Q0] at h;refine ⟨by simp [h1],λp hp=>?_⟩;rw [<-h] at hp;split at hp
   .rename_i hs;rcases QQ.1 hp with rfl | hp
    .refine ⟨rfl,XS _,?_⟩;have:x=y:=by
      cases x<;>cases y<;>simp only [acV] at hs<;>first | (cases hs) | skip
      .rw [Q4 hs]
      .simp only [Qf] at hs;rw [Q4 hs.1,Q4 hs.2]
     simp [this]
    .exact old p hp
   .exact old p hp
  .cases h
theorem AO{st:St}{o:Oper}{g off n:Nat}(h:Me tt st o=some (g,off,n)):(∃t x i,o.op=.load t x/\tt t=some i/\i.size=n/\st.dh x=.v (.one (.box g off)))\/
  ((off=5000000/\n=1)/\∃t x i m off' a0 i0 sz ak l hole,o.op=.load t x/\tt t=some i/\st.dh x=.v (.one (.ep g m off'))/\st.o g=.aN a0 i0 sz ak l hole/\jg ak off' i.size=[]):=by
 unfold Me at h;split at h
 .rename_i t x hop;split at h
  .rename_i i g' off' ht hx;simp only [Q0,Q1] at h;obtain ⟨rfl,rfl,rfl⟩:=h;exact .inl ⟨t,x,i,hop,ht,rfl,hx⟩
  .rename_i i g' m off' ht hx;split at h
   .rename_i a0 i0 sz ak l hole ho;cases hc:jg ak off' i.size with
    |nil=>
     rw [hc] at h;have h:some (g',5000000,1)=some (g,off,n):=h;simp only [Q0,Q1] at h;obtain ⟨rfl,rfl,rfl⟩:=h;exact .inr ⟨⟨rfl,rfl⟩,t,x,i,m,off',a0,i0,sz,ak,l,hole,hop,ht,hx,ho,hc⟩
    |cons q qs=>
     rw [hc] at h;have h:(none:Option (Nat×Nat×Nat))=some (g,off,n):=h;cases h
   .cases h
  .cases h
 .cases h
theorem qA{st:St}{o:Oper}(h:Jr o.op=true\/m_ o.op=true):ji st o=[]:=by
 refine VJ ?_;unfold argNames;split
 .rename_i f args ts hop;rw [hop] at h;rcases h with h | h<;>cases h
 .rename_i hop;rw [hop] at h;rcases h with h | h<;>cases h
 .rfl
theorem aaC{st:St}{o:Oper}{g off n:Nat}(h:Me tt st o=some (g,off,n)):g∈tN T st o:=by
 rcases AO h with ⟨t,x,i,h1,_,_,h4⟩ | ⟨_,t,x,i,m,off',a0,i0,sz,ak,l,hole,h1,_,h4,_⟩
 all_goals
  refine Zs _ ?_;rw [qA (.inl (by rw [h1];rfl))];unfold CS;rw [h1];show g∈(bif _ then _ else _)++_;refine Zs _ (YY.2 ⟨x,by simp [Op.operands],YY.2 ⟨g,?_,by simp⟩⟩);show g∈(st.dh x).names;rw [h4];simp [S.names,V.names,W.names]
theorem SK{es:Nat->Eff}{D:Nat->Bool}{g:Nat} :∀(n:Nat),∃m,(∀k,m<=k->k<n->D k=true->g∉(es k).aJ.map (·.1))/\(SD ops es st D n).o g=(SD ops es st (λ_=>true) m).o g/\(m=0\/∃k,m=k+1/\k<n/\D k=true/\g∈(es k).aJ.map (·.1))
 |0=>⟨0,λk _ h=>by omega,rfl,.inl rfl⟩
 |n+1=>by
  obtain ⟨m,h1,h2,h3⟩:=SK (D:=D) (g:=g) n;by_cases hw:D n=true/\g∈(es n).aJ.map (·.1)
  .obtain ⟨hd,hg⟩:=hw;refine ⟨n+1,λk a b=>by omega,?_,.inr ⟨n,rfl,by omega,hd,hg⟩⟩;simp only [SD,hd,if_true,yu];cases hl:(es n).aJ.lookup g with
   |some x=>rfl
   |none=>
    exfalso;obtain ⟨p,hp,e⟩:=QR.1 hg;have :∀{l:List (Nat×O)},p∈l->l.lookup p.1≠none:=by
     intro l
     induction l with
     |nil=>intro h;cases h
     |cons q l ih=>
      intro h hn;simp only [List.lookup] at hn;split at hn
      .cases hn
      .rename_i hb;rcases QQ.1 h with h | h
       .subst h;simp at hb
       .exact ih h hn
    exact this hp (by rw [e];exact hl)
  .refine ⟨m,λk a b hd hg=>?_,?_,h3.imp id λ⟨k,a,b,c⟩=>⟨k,a,by omega,c⟩⟩
   .by_cases e:k=n
    .subst e;exact hw ⟨hd,hg⟩
    .exact h1 k a (by omega) hd hg
   .cases hd:D n with
    |false=>simp only [SD,hd,W4,if_false];exact h2
    |true=>
     have hg:g∉(es n).aJ.map (·.1):=λhg=>hw ⟨hd,hg⟩;simp only [SD,hd,if_true,yu,ku hg];exact h2
theorem AP{st:St}{o:Oper}{d:Nat}{t:TypeId}{x:Operand}{i:TI}{g off:Nat}(h1:o.op=.load t x)(h2:tt t=some i)(h4:st.dh x=.v (.one (.box g off))){K:Eff->Prop} :
  jk T tt d st o K↔∃ws,st.o g=.box ws/\(off+i.size<=ws.length/\0<i.size)/\K { x:=V.fK i.agg ((ws.drop off).take i.size),aJ:=[],new:=[] }:=by
 have hD :∀dc,dN tt dc d st.o st.dh (.load t x) o.type=none:=λdc=>by
  simp only [dN,tq,h2,h4];cases RD dc<;>rfl
 have e:jk T tt d st o K↔(match kernel tt d st.o st.dh (.load t x) o.type with
   |some r=>r.pre/\K { x:=r.dst r.val,aJ:=r.aJ r.val,new:=r.new }
   |none=>False):=by
  rw [rV (qA (.inl (by rw [h1];rfl)))];unfold kJ;rw [h1];simp only [hD,reduceCtorEq,false_and,exists_false,false_or,FU,cond_false];cases kernel tt d st.o st.dh (.load t x) o.type<;>rfl
 rw [e];simp only [kernel,h2,h4];cases ho:st.o g with
 |box ws=>
  simp only;by_cases hs:off+i.size<=ws.length/\0<i.size
  .rw [if_pos hs];simp only [BL.pure,true_and];constructor
   .intro h;exact ⟨ws,rfl,hs,h⟩
   .rintro ⟨ws',e',_,h⟩;cases e';exact h
  .rw [if_neg hs];simp only [false_iff];rintro ⟨ws',e',h,_⟩;cases e';exact hs h
 |_=>
  simp only [false_iff];rintro ⟨ws',e',_⟩;cases e'
theorem Ye{st:St}{o:Oper}{e:Eff}(hc:Can T tt N ops st o e){Q:Eff->Prop}(hs:Q Eff.skip)(key :∀{d:Nat},(jk T tt d st o λe'=>e'.new.all (λg=>!st.used g)=true/\e'=e)->Q e):Q e:=by
 unfold Can stepW at hc;obtain ⟨_,hc⟩:=hc;split at hc
 .exact key hc
 .split at hc
  .rename_i b _;cases b with
   |true=>exact key hc
   |false=>have hc:Eff.skip=e:=hc;rw [<-hc];exact hs
  .cases hc
theorem Jz{st:St}{o:Oper}{d:Nat}{t:TypeId}{x:Operand}{i:TI}{g off sz:Nat}{m:P}{a0 i0:Bool}{ak:List (Nat×Nat)}{l:List (List P)}{hole:Option (Nat×Nat×Nat)}(h1:o.op=.load t x)(h2:tt t=some i)(h4:st.dh x=.v (.one (.ep g m off)))
  (h5:st.o g=.aN a0 i0 sz ak l hole) (h6:jg ak off i.size=[]) {K:Eff->Prop} :
  jk T tt d st o K↔(off+i.size<=sz/\0<i.size)/\K { x:=V.fK i.agg ((List.range i.size).map λj=>.p a0 i0 ((l.getD m.nat []).getD (off+j) (Q8 i.zero j))),aJ:=[],new:=[] }:=by
 have hK:kernel tt d st.o st.dh (.load t x) o.type=none:=by simp only [kernel,h2,h4,h5]
 have hH:tq tt st.o st.dh t x=none:=by
  unfold tq;simp only [h2,h4];cases hh:jh st.o g with
  |none=>rfl
  |some q=>
   obtain ⟨a,i',sz',iE,l'⟩:=q;simp only;have hcols:iE=ak:=by
    unfold jh at hh;rw [h5] at hh;simp only at hh;split at hh
    .simp only [Q0,Q1] at hh;exact hh.2.2.2.1.symm
    .split at hh
     .split at hh
      .simp only [Q0,Q1] at hh;exact hh.2.2.2.1.symm
      .cases hh
     .cases hh
   subst hcols;cases hl:iE.lookup off with
   |none=>rfl
   |some s=>
    simp only;rw [if_neg];rintro ⟨_,h1',_⟩;have hm:(off,s)∈iE:=jM hl;have:(off,s)∈jg iE off i.size:=by
     unfold jg;rw [qi];exact ⟨hm,by rw [h1'];simp⟩
    rw [h6] at this;cases this
 rw [rV (qA (.inl (by rw [h1];rfl)))];unfold kJ;rw [h1];simp only [hK,or_false];constructor
 .rintro ⟨dc,r,hk,hp,hb⟩;simp only [dN] at hk;cases hd:RD dc with
  |true=>rw [hd] at hk;simp only [cond_true,hH] at hk;cases hk
  |false=>
   rw [hd] at hk;simp only [cond_false,h2,h4,h5,h6] at hk;split at hk
   .rename_i hc;simp only [Q0] at hk;subst hk;exact ⟨hc,L6.iff.1 hb⟩
   .cases hk
 .rintro ⟨hc,hK'⟩;refine ⟨[],.pure (V.fK i.agg ((List.range i.size).map λj=>.p a0 i0 ((l.getD m.nat []).getD (off+j) (Q8 i.zero j)))),?_,trivial,L6.iff.2 hK'⟩;simp only [dN,RD,cond_false,h2,h4,h5,h6];rw [if_pos hc]
theorem SL{st:St}{o:Oper}{e:Eff}{g off n:Nat}(hc:Can T tt N ops st o e)(hl:Me tt st o=some (g,off,n)):e.aJ=[]:=by
 refine Ye (Q:=λe=>e.aJ=[]) hc rfl λ{d} h=>?_;rcases AO hl with ⟨t,x,i,h1,h2,h3,h4⟩ | ⟨_,t,x,i,m,off',a0,i0,sz,ak,l,hole,h1,h2,h4,h5,h6⟩
 .obtain ⟨ws,_,_,_,rfl⟩:=(AP h1 h2 h4).1 h;rfl
 .obtain ⟨_,_,rfl⟩:=(Jz h1 h2 h4 h5 h6).1 h;rfl
theorem aaD{st:St}{o:Oper}{e:Eff}{g:Nat}{t:TypeId}{x:Operand}{a i:Bool}{sz:Nat}{ak:List (Nat×Nat)}{l:List (List P)}(hc:Can T tt N ops st o e)(h1:o.op=.load t x)(ho:st.o g=.aN a i sz ak l none){a' i':Bool}{sz':Nat}{iE:List (Nat×Nat)}{l':List (List P)}{gX:Option (Nat×Nat×Nat)}
  (hl:e.aJ.lookup g=some (.aN a' i' sz' iE l' gX)):(O.aN a' i' sz' iE l' gX).core=(O.aN a i sz ak l none).core:=by
 refine Ye (Q:=λe=>e.aJ.lookup g=some (.aN a' i' sz' iE l' gX)->_) hc (λh=>by cases h) (λ{d} h hl=>?_) hl;rw [rV (qA (.inl (by rw [h1];rfl)))] at h;unfold kJ at h;rw [h1] at h;simp only at h;rcases h with ⟨dc,r,hk,hp,hb⟩ | h
 .have hb:=(L6.iff.1 hb).2;rw [<-hb] at hl;simp only at hl;simp only [dN] at hk;cases hd:RD dc with
  |true=>
   rw [hd] at hk;simp only [cond_true] at hk;unfold tq at hk
   repeat' split at hk
   all_goals first | (cases hk;done) | skip
   simp only [Q0] at hk;subst hk;simp [BL.pure,qH] at hl
  |false=>
   rw [hd] at hk;simp only [cond_false] at hk;split at hk
   .rename_i i1 g1 n1 off1 _ _;split at hk
    .rename_i a1 i2 sz1 atH l1 atI ho1;split at hk
     .split at hk
      .simp only [Q0] at hk;subst hk;simp [BL.pure,qH] at hl
      .rename_i c s _;split at hk
       .rename_i a2 i3 sz2 am7 l2 hh;simp only [Q0] at hk;subst hk;simp only [List.lookup] at hl;cases hg:g==g1 with
        |true=>
         have e1:g=g1:=by simpa using hg
         subst e1;rw [hg] at hl;simp only [Q0] at hl;rw [ho] at ho1;cases ho1;unfold jh at hh;rw [ho] at hh;simp only [Q0,Q1] at hh;obtain ⟨rfl,rfl,rfl,rfl,rfl⟩:=hh;rw [<-hl];rfl
        |false=>
         rw [hg] at hl;simp only at hl;cases hg2:g==d with
         |true=>rw [hg2] at hl;cases hl
         |false=>
          rw [hg2] at hl;simp only at hl;exfalso;have :∀gs:List Nat,(kills gs).lookup g≠some (.aN a' i' sz' iE l' gX):=λgs=>by
           induction gs with
           |nil=>intro h;cases h
           |cons q qs ih=>
            intro h;simp only [kills,Q6,List.lookup] at h;split at h
            .cases h
            .exact ih h
          exact this _ hl
       .cases hk
      .cases hk
     .cases hk
    .cases hk
   .cases hk
 .split at h
  .rename_i r hr;obtain ⟨_,h⟩:=h;have h:(_:Prop)/\({ x:=r.dst r.val,aJ:=r.aJ r.val,new:=r.new }:Eff)=e:=h;rw [<-h.2] at hl;have:r.aJ r.val=[]:=by
    simp only [kernel] at hr
    repeat' split at hr
    all_goals first | (cases hr;done) | (simp only [Q0] at hr;subst hr;rfl)
   simp only [this] at hl;cases hl
  .cases h
theorem Ep{st:St}{o:Oper}{e:Eff}{p:Nat×Nat}(hc:Can T tt N ops st o e)(h:p∈Pv st o e):m_ o.op=true\/(∃wa wb,st.o p.1=.box wa/\e.aJ.lookup p.1=some (.box wb)/\wa.length=wb.length/\wa[p.2]?=wb[p.2]?)\/
  ∃x,e.aJ.lookup p.1=some x/\x.core=(st.o p.1).core/\(st.o p.1).core≠none:=by
 unfold Pv at h;rcases Xs.1 h with h | h
 .cases hp:m_ o.op with
  |true=>exact .inl rfl
  |false=>rw [hp] at h;cases h
 obtain ⟨g,_,hp⟩:=YY.1 h;rcases Xs.1 hp with hp | hp
 .refine .inr (.inl ?_);cases ho:st.o g with
  |box ws=>
   cases hl:e.aJ.lookup g with
   |none=>rw [ho,hl] at hp;cases hp
   |some x=>
    cases x with
    |box ws'=>
     rw [ho,hl] at hp;simp only [SE] at hp;split at hp
     .rename_i r hr;obtain ⟨h1,h2⟩:=Jy hr;obtain ⟨rfl,_,a3⟩:=h2 p hp;exact ⟨ws,ws',ho,hl,h1,by simpa using a3⟩
     .cases hp
    |_=>rw [ho,hl] at hp;cases hp
  |_=>rw [ho] at hp;cases hp
 .refine .inr (.inr ?_);cases hop:o.op with
  |load t x=>
   rw [hop] at hp;simp only [Jr,cond_true] at hp;cases ho:st.o g with
   |aN a i sz ak l hole=>
    cases hole with
    |some q=>rw [ho] at hp;revert hp;cases e.aJ.lookup g with
     |none=>intro hp;cases hp
     |some y=>cases y<;>intro hp<;>cases hp
    |none=>
     cases hl:e.aJ.lookup g with
     |none=>rw [ho,hl] at hp;cases hp
     |some y=>
      cases y with
      |aN a' i' sz' iE l' gX=>
       rw [ho,hl] at hp;have hp:p∈[(g,5000000)]:=hp;rw [QP] at hp;subst hp;exact ⟨_,hl,by rw [ho];exact aaD hc hop ho hl,by rw [ho];simp [O.core]⟩
      |_=>rw [ho,hl] at hp;cases hp
   |_=>rw [ho] at hp;cases hp
  |_=>rw [hop] at hp;cases hp
theorem aaE{st:St}{e:Eff}{g:Nat}(h:g∈V4 st e) :∃x,e.aJ.lookup g=some x/\kindOf x=kindOf (st.o g):=by
 unfold V4 at h;obtain ⟨g',_,hp⟩:=Ki.1 h;cases hl:e.aJ.lookup g' with
 |none=>rw [hl] at hp;cases hp
 |some x=>
  rw [hl] at hp;simp only at hp;cases hb:Nat.beq (kindOf x) (kindOf (st.o g')) with
  |false=>rw [hb] at hp;cases hp
  |true=>
   rw [hb] at hp;cases hp;exact ⟨x,hl,Q4 hb⟩
theorem Nw{o o':Nat->O}{x:W}(h :∀g∈x.names,kindOf (o g)=kindOf (o' g)):x.live o=x.live o':=by
 cases x<;>simp only [W.live]<;>first | rfl | skip
 .rename_i g off;have:=h g (by simp [W.names]);cases h1:o g<;>cases h2:o' g<;>rw [h1,h2] at this<;>first | rfl | cases this
 .rename_i g n off;have:=h g (by simp [W.names]);cases h1:o g<;>cases h2:o' g<;>rw [h1,h2] at this<;>first | rfl | cases this
theorem SN{o o':Nat->O}{d:Nat}{F F':Operand->S}{op:Op}{ty:TypeId}(hp:m_ op=true)(hF :∀x∈op.operands.toList,F x=F' x)(ho :∀x∈op.operands.toList,∀g∈(F x).names,kindOf (o g)=kindOf (o' g)) :
  kernel tt d o F op ty=kernel tt d o' F' op ty:=by
 cases op<;>first | (cases hp;done) | skip
 .rename_i x;have h1:=hF x (by simp [Op.operands]);have h2:=ho x (by simp [Op.operands]);simp only [kernel,<-h1];generalize F x=z at h2;split
  .rename_i x;rw [Nw (o':=o') λg hg=>h2 g (by simpa [S.names,V.names] using hg)]
  .rfl
 .rename_i t x n;have h1:=hF x (by simp [Op.operands]);have h2:=ho x (by simp [Op.operands]);simp only [kernel,<-h1];generalize F x=z at h2;split
  .rename_i x _ _;rw [Nw (o':=o') λg hg=>h2 g (by simpa [S.names,V.names] using hg)]
  .rfl
theorem AQ{st:St}{o:Oper}{d:Nat}(hp:m_ o.op=true){K:Eff->Prop} :
  jk T tt d st o K↔(match kernel tt d st.o st.dh o.op o.type with
   |some r=>r.pre/\K { x:=r.dst r.val,aJ:=r.aJ r.val,new:=r.new }
   |none=>False):=by
 rw [rV (qA (.inr hp))];unfold kJ;cases hop:o.op<;>rw [hop] at hp<;>first | (cases hp;done) | skip
 all_goals
  simp only [dN,reduceCtorEq,false_and,exists_false,false_or,FU,cond_false];generalize kernel tt d st.o st.dh _ o.type=z;cases z<;>rfl
theorem aaF{o:Nat->O}{F:Operand->S}{d:Nat}{op:Op}{ty:TypeId}{r:BL}(hp:m_ op=true)(h:kernel tt d o F op ty=some r):r.aJ r.val=[]:=by
 cases op<;>first | (cases hp;done) | skip
 all_goals
  simp only [kernel] at h;split at h
  .split at h
   .simp only [Q0] at h;subst h;rfl
   .cases h
  .cases h
theorem CX{st:St}{o:Oper}{e:Eff}(hc:Can T tt N ops st o e)(hp:m_ o.op=true):e.aJ=[]:=by
 have key :∀{d:Nat},(jk T tt d st o λe'=>e'.new.all (λg=>!st.used g)=true/\e'=e)->e.aJ=[]:=by
  intro d h;have h:=(AQ hp).1 h;split at h
  .rename_i r hr;obtain ⟨_,_,rfl⟩:=h;exact aaF hp hr
  .cases h
 unfold Can stepW at hc;obtain ⟨_,hc⟩:=hc;split at hc
 .exact key hc
 .split at hc
  .rename_i b _;cases b with
   |true=>exact key hc
   |false=>have hc:Eff.skip=e:=hc;rw [<-hc];rfl
  .cases hc
theorem acX{st st':St}{o:Oper}{e:Eff}(hc:Can T tt N ops st o e)(hp:m_ o.op=true)(hs :∀t∈o.looksAt ops,st.s t=st'.s t)(ho :∀x∈o.op.operands.toList,∀g∈(st.dh x).names,kindOf (st.o g)=kindOf (st'.o g))(hu :∀g∈e.new,st.used g=st'.used g):Can T tt N ops st' o e:=by
 have hx :∀x∈o.op.operands.toList,st.dh x=st'.dh x:=by
  intro x hm;cases x with
  |tmp t=>exact hs t (Zs _ (Ki.2 ⟨_,hm,rfl⟩))
  |_=>rfl
 have hk:kernel tt (o.dst.getD 0) st.o st.dh o.op o.type=kernel tt (o.dst.getD 0) st'.o st'.dh o.op o.type:=
  SN hp hx ho
 have eff:(jk T tt (o.dst.getD 0) st o λe'=>e'.new.all (λg=>!st.used g)=true/\e'=e)->(jk T tt (o.dst.getD 0) st' o λe'=>e'.new.all (λg=>!st'.used g)=true/\e'=e):=by
  intro h;have h:=(AQ hp).1 h;refine (AQ hp).2 ?_;rw [<-hk];split at h
  .obtain ⟨q1,q2,rfl⟩:=h;refine ⟨q1,?_,rfl⟩;rw [Z0] at q2 ⊢;intro g hg;rw [<-hu g hg];exact q2 g hg
  .cases h
 unfold Can stepW at *;refine ⟨hc.1,?_⟩;have hc:=hc.2;cases hg:o.guard with
 |none=>rw [hg] at hc;exact eff hc
 |some p=>
  obtain ⟨j,want⟩:=p;rw [hg] at hc;simp only at hc ⊢;have:guardOf ops st j want=guardOf ops st' j want:=by
   unfold guardOf;cases hd:(ops[j]?).bind (·.dst) with
   |none=>rfl
   |some t=>
    simp only;rw [hs t (Vn _ (by simp [hg,hd]))]
  rw [<-this];split at hc
  .rename_i b hb;cases b with
   |true=>exact eff hc
   |false=>exact hc
  .cases hc
theorem acY{st st':St}{o:Oper}{e:Eff}{g off n:Nat}(hc:Can T tt N ops st o e)(hs :∀t∈o.looksAt ops,st.s t=st'.s t){t:TypeId}{x:Operand}{i:TI}(h1:o.op=.load t x)(h2:tt t=some i)(h3:i.size=n)(h4:st.dh x=.v (.one (.box g off)))
  (H:0<n->∀ws,st.o g=.box ws->Rng ws off n (st'.o g)) (hu :∀g∈e.new,st.used g=st'.used g):Can T tt N ops st' o e:=by
 have hx:st'.dh x=.v (.one (.box g off)):=by
  rw [<-h4];cases x with
  |tmp t=>exact (hs t (Zs _ (Ki.2 ⟨.tmp t,by simp [h1,Op.operands],rfl⟩))).symm
  |_=>rfl
 have eff:(jk T tt (o.dst.getD 0) st o λe'=>e'.new.all (λg=>!st.used g)=true/\e'=e)->(jk T tt (o.dst.getD 0) st' o λe'=>e'.new.all (λg=>!st'.used g)=true/\e'=e):=by
  intro h;obtain ⟨ws,ho,⟨q1,q2⟩,q3,rfl⟩:=(AP h1 h2 h4).1 h;obtain ⟨wc,r1,r2,r3⟩:=H (by omega) ws ho;refine (AP h1 h2 hx).2 ⟨wc,r1,⟨by omega,q2⟩,rfl,?_⟩;have key:(wc.drop off).take i.size=(ws.drop off).take i.size:=by
   refine Kl λk=>?_;rw [Z3,Z3];split
   .rw [W5,W5];exact r3 _ (by omega) (by omega)
   .rfl
  rw [key]
 unfold Can stepW at *;refine ⟨hc.1,?_⟩;have hc:=hc.2;cases hg:o.guard with
 |none=>rw [hg] at hc;exact eff hc
 |some p=>
  obtain ⟨j,want⟩:=p;rw [hg] at hc;simp only at hc ⊢;have:guardOf ops st j want=guardOf ops st' j want:=by
   unfold guardOf;cases hd:(ops[j]?).bind (·.dst) with
   |none=>rfl
   |some t=>
    simp only;rw [hs t (Vn _ (by simp [hg,hd]))]
  rw [<-this];split at hc
  .rename_i b hb;cases b with
   |true=>exact eff hc
   |false=>exact hc
  .cases hc
theorem aks{st st':St}{o:Oper}{e:Eff}{g off:Nat}(hc:Can T tt N ops st o e)(hs :∀t∈o.looksAt ops,st.s t=st'.s t){t:TypeId}{x:Operand}{i:TI}{m:P}{a0 i0:Bool}{sz:Nat}{ak:List (Nat×Nat)}{l:List (List P)}{hole:Option (Nat×Nat×Nat)}(h1:o.op=.load t x)(h2:tt t=some i)(h4:st.dh x=.v (.one (.ep g m off)))
  (h5:st.o g=.aN a0 i0 sz ak l hole) (h6:jg ak off i.size=[]) (H:(st'.o g).core=(st.o g).core) (hu :∀g∈e.new,st.used g=st'.used g):Can T tt N ops st' o e:=by
 have hx:st'.dh x=.v (.one (.ep g m off)):=by
  rw [<-h4];cases x with
  |tmp t=>exact (hs t (Zs _ (Ki.2 ⟨.tmp t,by simp [h1,Op.operands],rfl⟩))).symm
  |_=>rfl
 have eff:(jk T tt (o.dst.getD 0) st o λe'=>e'.new.all (λg=>!st.used g)=true/\e'=e)->(jk T tt (o.dst.getD 0) st' o λe'=>e'.new.all (λg=>!st'.used g)=true/\e'=e):=by
  intro h;obtain ⟨q1,_,rfl⟩:=(Jz h1 h2 h4 h5 h6).1 h;rw [h5] at H;obtain ⟨gX,h5'⟩ :∃gX,st'.o g=.aN a0 i0 sz ak l gX:=by
   cases ho:st'.o g with
   |aN a i2 sz2 am7 l2 atJ=>
    rw [ho] at H;simp only [O.core,Q0,Q1] at H;obtain ⟨rfl,rfl,rfl,rfl,rfl⟩:=H;exact ⟨_,rfl⟩
   |_=>rw [ho] at H;cases H
  exact (Jz h1 h2 hx h5' h6).2 ⟨q1,rfl,rfl⟩
 unfold Can stepW at *;refine ⟨hc.1,?_⟩;have hc:=hc.2;cases hg:o.guard with
 |none=>rw [hg] at hc;exact eff hc
 |some p=>
  obtain ⟨j,want⟩:=p;rw [hg] at hc;simp only at hc ⊢;have:guardOf ops st j want=guardOf ops st' j want:=by
   unfold guardOf;cases hd:(ops[j]?).bind (·.dst) with
   |none=>rfl
   |some t=>
    simp only;rw [hs t (Vn _ (by simp [hg,hd]))]
  rw [<-this];split at hc
  .rename_i b hb;cases b with
   |true=>exact eff hc
   |false=>exact hc
  .cases hc
theorem aaG(hT :∀f sp,T f=some sp->Sound Pg (f % 1000000) sp)(htt:iR Pg tt){es:Nat->Eff}{fs:List tV}(hfree:Yd ops fs=true)
  (hcan :∀i,i<ops.size->∃o,ops[i]?=some o/\Can T tt N ops (SD ops es st (λ_=>true) i) o (es i)/\fs[i]?=some { rd:=tN T (SD ops es st (λ_=>true) i) o,wr:=(es i).aJ.map (·.1),new:=(es i).new,ld:=Me tt (SD ops es st (λ_=>true) i) o,kp:=Pv (SD ops es st (λ_=>true) i) o (es i),pk:=m_ o.op,kd:=V4 (SD ops es st (λ_=>true) i) (es i) })
  (hQ :∀a' w',Good E N bg xK (SD ops es st (λ_=>true) ops.size) a' w'->Q .normal a' w') :
  ∀(fuel:Nat) (listed:Array Bool) (a:Act) (w:World),listed.size=ops.size->Down ops (λk=>listed.getD k false)->(List.range ops.size).countP (λk=>!listed.getD k false)<=fuel->
   Good E N bg xK (SD ops es st (λk=>listed.getD k false) ops.size) a w->wpAny Pg .any ops Q fuel listed a w:=by
 have hf :∀j,j<ops.size->(oJ ops.toList []).getD j 0<2 ^ j/\∀i,i<j->((oJ ops.toList []).getD j 0).testBit i=true\/∃x y fx fy,ops[i]?=some x/\ops[j]?=some y/\fs[i]?=some fx/\fs[j]?=some fy/\Apart ops x y fx fy:=by
  intro j hj;have:=(Z0.1 hfree) j (Uq.2 hj);simp only [Qf,decide_eq_true_eq,Z0,Uq,JN] at this;refine ⟨this.1,λi hi=>?_⟩;rcases this.2 i hi with h | h
  .exact .inl h
  .right;split at h
   .rename_i x y fx fy h1 h2 h3 h4;exact ⟨x,y,fx,fy,h1,h2,h3,h4,V5 h⟩
   .cases h
 have done :∀(listed:Array Bool),listed.size=ops.size->Down ops (λk=>listed.getD k false)->Region.ready .any ops listed=[]->∀k,k<ops.size->listed.getD k false=true:=by
  intro listed hsz hD hr k
  induction k using Nat.strongRecOn with
  |_ k ih=>
   intro hk;obtain ⟨o,ho,_,_⟩:=hcan k hk;by_cases hl:listed.getD k false=true
   .exact hl
   .exfalso;have:k∈Region.ready .any ops listed:=mem_ready.2 ⟨by
     have hl:listed.getD k false=false:=by simpa using hl
     rw [We] at hl ⊢;rw [Kn (by omega)] at hl ⊢;exact hl,o,ho,λe he hb=>ih e.on (SG ho (hf k hk).1 he hb) (by have:=SG ho (hf k hk).1 he hb;omega)⟩
    rw [hr] at this;cases this
 have final :∀(listed:Array Bool) (a:Act) (w:World),listed.size=ops.size->Down ops (λk=>listed.getD k false)->Region.ready .any ops listed=[]->Good E N bg xK (SD ops es st (λk=>listed.getD k false) ops.size) a w->Q .normal a w:=by
  intro listed a w hsz hD hr hg;have h:=done listed hsz hD hr;rw [Eo (D':=λ_=>true) λk hk=>h k hk] at hg;exact hQ a w hg
 intro fuel
 induction fuel with
 |zero=>
  intro listed a w hsz hD hcnt hg;have hr:Region.ready .any ops listed=[]:=by
   cases hr:Region.ready .any ops listed with
   |nil=>rfl
   |cons k ks=>
    exfalso;have hk:k∈Region.ready .any ops listed:=by rw [hr];simp
    obtain ⟨h1,o,ho,_⟩:=mem_ready.1 hk;have hlt:=(Vi.1 ho).1;have:0<(List.range ops.size).countP (λk=>!listed.getD k false):=by
     rw [List.countP_pos_iff];refine ⟨k,Uq.2 hlt,?_⟩;rw [We] at h1 ⊢;rw [Kn (by omega)] at h1 ⊢;simpa using h1
    omega
  exact ⟨hr,final listed a w hsz hD hr hg⟩
 |succ fuel ih=>
  intro listed a w hsz hD hcnt hg;refine ⟨λhr=>final listed a w hsz hD hr hg,λi hi=>?_⟩;obtain ⟨hni,oi,hoi,hpre⟩:=mem_ready.1 hi;have hlt:i<ops.size:=(Vi.1 hoi).1;have hDi:listed.getD i false=false:=by
   rw [We] at hni ⊢;rw [Kn (by omega)] at hni ⊢;exact hni
  obtain ⟨o,ho,hc,hfi⟩:=hcan i hlt;rw [hoi] at ho;cases ho;have hset :∀k,(listed.setIfInBounds i true).getD k false=if k=i then true else listed.getD k false:=by
   intro k;by_cases e:k=i
   .subst e;rw [if_pos rfl,We,Array.getElem?_setIfInBounds_self];simp [show k<listed.size by omega]
   .rw [if_neg e,We,Array.getElem?_setIfInBounds_ne (Ne.symm e),<-We]
  have hD':Down ops (λk=>(listed.setIfInBounds i true).getD k false):=by
   intro j o' ho' hj e he hb;simp only [hset] at hj ⊢;by_cases ej:j=i
   .subst ej;rw [hoi] at ho';cases ho';have:=hpre e he hb;rw [this];simp
   .rw [if_neg ej] at hj;have:=hD j o' ho' hj e he hb;simp only at this;rw [this];simp
  have hap :∀k,k<ops.size->k≠i->((k<i/\listed.getD k false=false)\/(i<k/\listed.getD k false=true))->∃y fy,ops[k]?=some y/\fs[k]?=some fy/\
    (∀t,y.dst=some t->t∉oi.looksAt ops)/\(∀t,oi.dst=some t->y.dst≠some t)/\((∀g∈fy.wr,g∉tN T (SD ops es st (λ_=>true) i) oi)\/∃fi,fs[i]?=some fi/\Gf fy fi=true)/\(∀g∈fy.wr,g∉(es i).aJ.map (·.1))/\(∀g∈fy.new,g∉(es i).new)/\fy.wr=(es k).aJ.map (·.1)/\fy.new=(es k).new:=by
   intro k hk hne hcase;obtain ⟨y0,hy0,_,hfk⟩:=hcan k hk;rcases hcase with ⟨hlt',hfalse⟩ | ⟨hlt',am8⟩
   .rcases (hf i hlt).2 k hlt' with hb | ⟨x,y,fx,fy,h1,h2,h3,h4,ap⟩
    .have:=yx hD' i hoi (by simp [hset]) k hb;simp only [hset,if_neg hne] at this;rw [hfalse] at this;cases this
    .rw [hoi] at h2;cases h2;rw [hfi] at h4;cases h4;rw [hfk] at h3;cases h3;exact ⟨x,_,h1,hfk,ap.dy,λt e e'=>ap.dd t e' e,ap.wr.imp id (λh=>⟨_,hfi,h⟩),ap.ww,ap.nn,rfl,rfl⟩
   .rcases (hf k hk).2 i hlt' with hb | ⟨x,y,fx,fy,h1,h2,h3,h4,ap⟩
    .have:=yx hD k hy0 am8 i hb;rw [hDi] at this;cases this
    .rw [hoi] at h1;cases h1;rw [hfi] at h3;cases h3;rw [hfk] at h4;cases h4;exact ⟨y,_,h2,hfk,ap.dx,ap.dd,ap.rw.imp id (λh=>⟨_,hfi,h⟩),λg hg hg'=>ap.ww g hg' hg,λg hg hg'=>ap.nn g hg' hg,rfl,rfl⟩
  have Py:SD ops es st (λ_=>true) i=SD ops es st (λk=>decide (k<i)) ops.size:=by
   have :∀m,i+m<=ops.size->SD ops es st (λk=>decide (k<i)) (i+m)=SD ops es st (λ_=>true) i:=by
    intro m
    induction m with
    |zero=>intro _;exact Eo λk hk=>by simp [show k<i by omega]
    |succ m ih=>
     intro hm;rw [<-US];simp only [SD,show ¬ (i+m<i) by omega,decide_false,W4,if_false];exact ih (by omega)
   have:=this (ops.size-i) (by omega);rw [show i+(ops.size-i)=ops.size by omega] at this;exact this.symm
  have hdiff :∀k,k<ops.size->decide (k<i)≠listed.getD k false->k≠i/\((k<i/\listed.getD k false=false)\/(i<k/\listed.getD k false=true)):=by
   intro k hk hne;by_cases e:k=i
   .subst e;rw [hDi] at hne;simp at hne
   .refine ⟨e,?_⟩;by_cases hki:k<i
    .exact .inl ⟨hki,by simpa [hki] using hne⟩
    .refine .inr ⟨by omega,?_⟩;cases hl:listed.getD k false with
     |true=>rfl
     |false=>rw [hl] at hne;simp [hki] at hne
  have hdst :∀(k:Nat) (y:Oper),ops[k]?=some y->(ops[k]?).bind (·.dst)=y.dst:=λk y h=>by rw [h];rfl
  have hc':Can T tt N ops (SD ops es st (λk=>listed.getD k false) ops.size) oi (es i):=by
   have qM :∀t∈oi.looksAt ops,(SD ops es st (λ_=>true) i).s t=(SD ops es st (λk=>listed.getD k false) ops.size).s t:=λt ht=>by
    rw [Py];refine akq λk hk hne=>?_;obtain ⟨h1,h2⟩:=hdiff k hk hne;obtain ⟨y,fy,h3,_,h4,_⟩:=hap k hk h1 h2;rw [hdst k y h3];exact λe=>h4 t e ht
   have MR :∀g∈(es i).new,(SD ops es st (λ_=>true) i).used g=(SD ops es st (λk=>listed.getD k false) ops.size).used g:=λg hg=>by
    rw [Py];refine Px λk hk hne=>?_;obtain ⟨h1,h2⟩:=hdiff k hk hne;obtain ⟨y,fy,h3,_,_,_,_,_,h4,_,h5⟩:=hap k hk h1 h2;rw [<-h5];exact λe=>h4 g e hg
   have travel :∀(g:Nat) (Pr:O->Prop),g∉(es i).aJ.map (·.1)->(∀k,k<ops.size->k≠i->((k<i/\listed.getD k false=false)\/(i<k/\listed.getD k false=true))->g∈(es k).aJ.map (·.1)->
     (Pr ((SD ops es st (λ_=>true) k).o g)↔Pr ((SD ops es st (λ_=>true) (k+1)).o g)))->Pr ((SD ops es st (λ_=>true) i).o g)->Pr ((SD ops es st (λk=>listed.getD k false) ops.size).o g):=by
    intro g Pr hgi hkeep hP0;have hstep :∀k,k<ops.size->(g∈(es k).aJ.map (·.1)->(Pr ((SD ops es st (λ_=>true) k).o g)↔Pr ((SD ops es st (λ_=>true) (k+1)).o g)))->
      (Pr ((SD ops es st (λ_=>true) k).o g)↔Pr ((SD ops es st (λ_=>true) (k+1)).o g)):=by
     intro k hk hw;by_cases hg:g∈(es k).aJ.map (·.1)
     .exact hw hg
     .have:(SD ops es st (λ_=>true) (k+1)).o g=(SD ops es st (λ_=>true) k).o g:=by
       simp only [SD,if_true,yu,ku hg]
      rw [this]
    obtain ⟨m',hm',hlast,hafter⟩:=SK (ops:=ops) (es:=es) (st:=st) (D:=λk=>listed.getD k false) (g:=g) ops.size;rw [hlast];rcases va i m' with him | him
    .-- forward
     have :∀d,i+d<=m'->Pr ((SD ops es st (λ_=>true) (i+d)).o g):=by
      intro d
      induction d with
      |zero=>intro _;exact hP0
      |succ d ihd=>
       intro hd;have hk:i+d<ops.size:=by
        rcases hafter with e | ⟨k1,e,h2,_⟩<;>omega
       rw [<-US];refine (hstep (i+d) hk (λhg=>?_)).1 (ihd (by omega));by_cases e0:d=0
       .exfalso;subst e0;exact hgi hg
       .have hin:listed.getD (i+d) false=true:=by
         rcases hafter with e | ⟨k1,rfl,am9,hk1,hg1⟩
         .omega
         .by_cases e1:i+d=k1
          .rw [e1];exact hk1
          .obtain ⟨y1,hy1,_,hf1⟩:=hcan k1 am9;rcases (hf k1 am9).2 (i+d) (by omega) with hb | ⟨x2,y2,fx,fy,h1,h2,h3,h4,ap⟩
           .exact yx hD k1 hy1 hk1 _ hb
           .exfalso;obtain ⟨y0,_,_,hfk⟩:=hcan (i+d) hk;rw [hfk] at h3;cases h3;rw [hf1] at h4;cases h4;exact ap.ww g hg hg1
        exact hkeep (i+d) hk (by omega) (.inr ⟨by omega,hin⟩) hg
     have:=this (m'-i) (by omega)
     rwa [show i+(m'-i)=m' by omega] at this
    .-- backward
     have :∀d,d<=i-m'->Pr ((SD ops es st (λ_=>true) (i-d)).o g):=by
      intro d
      induction d with
      |zero=>intro _;exact hP0
      |succ d ihd=>
       intro hd;have hk:i-(d+1)<ops.size:=by omega
       have e1:i-(d+1)+1=i-d:=by omega
       refine (hstep (i-(d+1)) hk (λhg=>?_)).2 (by rw [e1];exact ihd (by omega));have hout:listed.getD (i-(d+1)) false=false:=by
        cases hl:listed.getD (i-(d+1)) false with
        |false=>rfl
        |true=>exact absurd hg (hm' (i-(d+1)) (by omega) hk hl)
       exact hkeep (i-(d+1)) hk (by omega) (.inl ⟨by omega,hout⟩) hg
     have:=this (i-m') (XS _)
     rwa [show i-(i-m')=m' by omega] at this
   cases hld:Me tt (SD ops es st (λ_=>true) i) oi with
   |none=>
    by_cases hpk:m_ oi.op=true
    .refine acX hc hpk qM (λx0 hx0 g hg=>?_) MR;have hgf:g∈tN T (SD ops es st (λ_=>true) i) oi:=by
      have hl:looks oi.op=true:=by cases hop:oi.op<;>rw [hop] at hpk<;>first | rfl | cases hpk
      refine Zs _ ?_;rw [qA (.inr hpk)];exact Zs _ (by rw [hl];exact YY.2 ⟨x0,hx0,YY.2 ⟨g,hg,by simp⟩⟩)
     have aqP:(g,0)∈Pv (SD ops es st (λ_=>true) i) oi (es i):=Zs _ (by rw [hpk];exact QR.2 ⟨g,YY.2 ⟨x0,hx0,hg⟩,rfl⟩);refine (travel g (λx=>kindOf ((SD ops es st (λ_=>true) i).o g)=kindOf x) (by rw [CX hc hpk];simp) (λk hk hne hcase hgk=>?_) rfl);obtain ⟨y,fy,h3,hfk,_,_,h4,_,_,h5,_⟩:=hap k hk hne hcase;rcases h4 with h4 | ⟨fi,SQ,hs⟩
     .exfalso;rw [<-h5] at hgk;exact h4 g hgk hgf
     .rw [hfi] at SQ;cases SQ;simp only [Gf,hld,hpk,Bool.true_and,Z0,JN,Wg,Wm,decide_eq_true_eq,decide_eq_false_iff_not] at hs;rw [h5] at hs;rcases hs (g,0) aqP with hs | hs
      .exact absurd hgk hs
      .obtain ⟨o',ho',_,acZ⟩:=hcan k hk;rw [hfk] at acZ;cases acZ;obtain ⟨x,q1,q2⟩:=aaE hs;have:(SD ops es st (λ_=>true) (k+1)).o g=x:=by simp only [SD,if_true,yu,q1]
       rw [this,q2]
    .refine aaB hc qM (λg hg=>?_) MR;rw [Py] at hg ⊢;refine akr λk hk hne=>?_;obtain ⟨h1,h2⟩:=hdiff k hk hne;obtain ⟨y,fy,h3,_,_,_,h4,_,_,h5,_⟩:=hap k hk h1 h2;rw [<-h5];rcases h4 with h4 | ⟨fi,SQ,hs⟩
     .rw [Py] at h4;exact λe=>h4 g e hg
     .rw [hfi] at SQ;cases SQ;simp only [Gf,hld,hpk,Bool.false_and] at hs;cases hs
   |some q=>
    obtain ⟨g,off,n⟩:=q;have aiT :∀k,k<ops.size->k≠i->((k<i/\listed.getD k false=false)\/(i<k/\listed.getD k false=true))->g∈(es k).aJ.map (·.1)->∃o',Can T tt N ops (SD ops es st (λ_=>true) k) o' (es k)/\
      ∀off',off<=off'->off'<off+n->(g,off')∈Pv (SD ops es st (λ_=>true) k) o' (es k):=by
     intro k hk hne hcase hg;obtain ⟨y,fy,h3,hfk,_,_,h4,_,_,h5,_⟩:=hap k hk hne hcase;rcases h4 with h4 | ⟨fi,SQ,hs⟩
     .exfalso;rw [<-h5] at hg;exact h4 g hg (aaC hld)
     .rw [hfi] at SQ;cases SQ;simp only [Gf,hld,Z0,Uq] at hs;obtain ⟨o',ho',hck,acZ⟩:=hcan k hk;rw [hfk] at acZ;cases acZ;refine ⟨o',hck,λoff' h1' h2'=>?_⟩;obtain ⟨p,hp,he⟩:=KM.1 (hs (off'-off) (by omega));simp only [Qf] at he;have e1:=Q4 he.1;have e2:=Q4 he.2;have:p=(g,off'):=Prod.ext e1 (by simp only;omega)
      rwa [this] at hp
    have RI :∀{k x},(es k).aJ.lookup g=some x->(SD ops es st (λ_=>true) (k+1)).o g=x:=λh=>by simp only [SD,if_true,yu,h]
    rcases AO hld with ⟨t,x,ti,h1,h2,h3,h4⟩ | ⟨⟨rfl,rfl⟩,t,x,ti,m,off',a0,i0,sz,ak,l,hole,h1,h2,h4,h5,h6⟩
    .refine acY hc qM h1 h2 h3 h4 (λhn ws hws=>?_) MR;refine travel g (Rng ws off n) (by rw [SL hc hld];simp) (λk hk hne hcase hg=>?_) ⟨ws,hws,rfl,λ_ _ _=>rfl⟩;obtain ⟨o',hck,hs⟩:=aiT k hk hne hcase hg;have aiU :∀{y:O},y.core≠none->¬ Rng ws off n y:=λhy ⟨wc,e,_⟩=>by subst e;exact hy rfl
     rcases Ep hck (hs off (XS _) (by omega)) with hp | ⟨wa,wb,q1,q2,q3,_⟩ | ⟨y,q1,q2,q3⟩
     .rw [CX hck hp] at hg;cases hg
     .simp only at q1 q2;rw [RI q2,q1];have hall :∀off',off<=off'->off'<off+n->wa[off']?=wb[off']?:=λoff' a1 a2=>by
       rcases Ep hck (hs off' a1 a2) with hp | ⟨wa',wb',r1,r2,_,r4⟩ | ⟨y,r1,r2,r3⟩
       .rw [CX hck hp] at hg;cases hg
       .simp only at r1 r2;rw [q1] at r1;rw [q2] at r2;cases r1;cases r2;exact r4
       .simp only at r3;rw [q1] at r3;exact absurd rfl r3
      constructor
      .rintro ⟨wc,hc,hl,hr⟩;cases hc;exact ⟨wb,rfl,by omega,λoff' a1 a2=>by rw [<-hall off' a1 a2];exact hr off' a1 a2⟩
      .rintro ⟨wc,hc,hl,hr⟩;cases hc;exact ⟨wa,rfl,by omega,λoff' a1 a2=>by rw [hall off' a1 a2];exact hr off' a1 a2⟩
     .simp only at q1 q2 q3;rw [RI q1];exact ⟨λh=>absurd h (aiU q3),λh=>absurd h (aiU (by rw [q2];exact q3))⟩
    .refine aks hc qM h1 h2 h4 h5 h6 ?_ MR;refine travel g (λy=>y.core=((SD ops es st (λ_=>true) i).o g).core) (by rw [SL hc hld];simp) (λk hk hne hcase hg=>?_) rfl;obtain ⟨o',hck,hs⟩:=aiT k hk hne hcase hg;rcases Ep hck (hs _ (XS _) (by omega)) with hp | ⟨wa,wb,q1,q2,q3,_⟩ | ⟨y,q1,q2,q3⟩
     .rw [CX hck hp] at hg;cases hg
     .simp only at q1 q2;rw [RI q2,q1];exact ⟨λh=>h,λh=>h⟩
     .simp only at q1 q2;rw [RI q1,q2]
  have hins:SD ops es st (λk=>(listed.setIfInBounds i true).getD k false) ops.size=(SD ops es st (λk=>listed.getD k false) ops.size).eff oi.dst (es i):=by
   have hDs :∀k,(λk=>(listed.setIfInBounds i true).getD k false) k=if k=i then true else listed.getD k false:=hset
   have hne :∀k,(λk=>(listed.setIfInBounds i true).getD k false) k≠(λk=>listed.getD k false) k->k=i:=by
    intro k h;simp only [hset] at h;by_cases e:k=i
    .exact e
    .rw [if_neg e] at h;exact absurd rfl h
   have ac0 :∀k,i<k->k<ops.size->(λk=>(listed.setIfInBounds i true).getD k false) k=true->listed.getD k false=true:=by
    intro k h1 h2 h3;simp only [hset,if_neg (show k≠i by omega)] at h3;exact h3
   refine St.ext' (λt=>?_) (λg=>?_) (λg=>?_)
   .rw [Nr];by_cases hd:oi.dst=some t
    .rw [if_pos hd];refine Ns (by simp [hset]) ((hdst i oi hoi).trans hd) hlt λk h1 h2 h3=>?_;obtain ⟨y,fy,q1,_,_,q2,_⟩:=hap k h2 (by omega) (.inr ⟨h1,ac0 k h1 h2 h3⟩);rw [hdst k y q1];exact q2 t hd
    .rw [if_neg hd];refine akq λk hk hk'=>?_;rw [hne k hk',hdst i oi hoi];exact hd
   .rw [yu];cases hu:(es i).aJ.lookup g with
    |some x=>
     refine Nu (by simp [hset]) hu hlt λk h1 h2 h3=>?_;obtain ⟨y,fy,q1,_,_,_,_,q2,_,q3,_⟩:=hap k h2 (by omega) (.inr ⟨h1,ac0 k h1 h2 h3⟩);rw [<-q3];exact λe=>q2 g e (QR.2 ⟨(g,x),jM hu,rfl⟩)
    |none=>
     refine akr λk hk hk'=>?_;rw [hne k hk'];intro hm;obtain ⟨p,hp,rfl⟩:=QR.1 hm;have :∀{l:List (Nat×O)},p∈l->l.lookup p.1≠none:=by
      intro l
      induction l with
      |nil=>intro h;cases h
      |cons q l ih=>
       intro h hn;simp only [List.lookup] at hn;split at hn
       .cases hn
       .rename_i hb;rcases QQ.1 h with h | h
        .subst h;simp at hb
        .exact ih h hn
     exact this hp hu
   .rw [uy];by_cases hn:g∈(es i).new
    .rw [Gg (by simp [hset]) hn hlt];simp [hn]
    .have:(es i).new.contains g=false:=by simpa using hn
     rw [this,J0];refine Px λk hk hk'=>?_;rw [hne k hk'];exact hn
  refine Jm hT htt hoi hg hc' λa' w' hg'=>ih _ a' w' (by simp [hsz]) hD' ?_ (by rw [hins];exact hg');have hlt2:(List.range ops.size).countP (λk=>!(listed.setIfInBounds i true).getD k false)<(List.range ops.size).countP (λk=>!listed.getD k false):=by
   have gen :∀l:List Nat,i∈l->l.countP (λk=>!(listed.setIfInBounds i true).getD k false)<l.countP (λk=>!listed.getD k false):=by
    intro l;have hle :∀l:List Nat,l.countP (λk=>!(listed.setIfInBounds i true).getD k false)<=l.countP (λk=>!listed.getD k false):=λl=>List.countP_mono_left λk _ h=>by
     simp only [hset] at h;by_cases e:k=i
     .simp [e] at h
     .simpa [e] using h
    induction l with
    |nil=>intro h;cases h
    |cons k l ihl=>
     intro h;simp only [List.countP_cons];by_cases e:k=i
     .subst e;have h1:(!(listed.setIfInBounds k true).getD k false)=false:=by simp [hset]
      have h2:(!listed.getD k false)=true:=by simp [hDi]
      rw [h1,h2];exact Nat.lt_succ_of_le (hle l)
     .have:=ihl (by rcases QQ.1 h with h | h;exact absurd h.symm e;exact h);have e1:(!(listed.setIfInBounds i true).getD k false)=(!listed.getD k false):=by rw [hset,if_neg e]
      rw [e1];omega
   exact gen _ (Uq.2 hlt)
  omega
theorem V6(hT :∀f sp,T f=some sp->Sound Pg (f % 1000000) sp)(htt:iR Pg tt){draw:Bool}{K:St->Prop}(h:rZ T tt N ops draw st K)(hg:Good E N bg xK st a w)
  (hK :∀st' a' w',K st'->Good E N bg xK st' a' w'->Q .normal a' w'):(draw=false/\wpOps Pg ops Q (List.range ops.size) a w)\/(draw=true/\wpAny Pg .any ops Q ops.size (Array.replicate ops.size false) a { w with drawn:=w.drawn+1 }):=by
 cases draw with
 |false=>exact .inl ⟨rfl,CW hT htt hK _ h hg⟩
 |true=>
  have h:oV T tt N ops (List.range ops.size) st [] (λst' fs=>Yd ops fs=true/\K st'):=h;rw [qr] at h;obtain ⟨es,fs,_,_,⟨h1,h2⟩,h3⟩:=Gi (st:=st) ops.size 0 (λ_=>Eff.skip) [] rfl h;rw [Wo] at h2;refine .inr ⟨rfl,?_⟩;refine aaG hT htt h1 (λi hi=>h3 i (by omega) (by omega)) (λa' w' hg'=>hK _ a' w' h2 hg') ops.size _ a _ (by simp) ?_ ?_ ?_
  .intro j o _ hj;simp only [We] at hj;rw [vd] at hj;split at hj<;>cases hj
  .refine J2 List.countP_le_length ?_;simp
  .obtain ⟨⟨gh,hR,LG⟩,hsz,hdf⟩:=hg;have e:SD ops es st (λk=>(Array.replicate ops.size false).getD k false) ops.size=st:=by
    have :∀n,SD ops es st (λk=>(Array.replicate ops.size false).getD k false) n=st:=by
     intro n
     induction n with
     |zero=>rfl
     |succ n ih=>
      have:(Array.replicate ops.size false).getD n false=false:=by
       rw [We,vd];split<;>rfl
      simp only [SD,this,W4,if_false];exact ih
    exact this _
   rw [e];exact ⟨⟨gh,hR.drew _,LG⟩,hsz,hdf⟩
theorem Pz(hT :∀f sp,T f=some sp->Sound Pg (f % 1000000) sp)(htt:iR Pg tt)(hm:Pg.follows .mixedOrders=true){id:Nat}{draw:Bool}{K:St->Prop}(h:rZ T tt N ops draw st K)(hg:Good E N bg xK st a w)
  (hK :∀st' a' w',K st'->Good E N bg xK st' a' w'->Q .normal a' w'):(Code.region id ops draw).wp Pg Q a w:=by
 rcases V6 hT htt h hg hK with ⟨e,h2⟩ | ⟨e,h2⟩
 .rw [e];exact wp_region h2
 .rw [e];exact wp_region_any hm h2
end
end Go.Fw

namespace Go.Fw
variable [eY]
def Yf(gs:List Nat)(o:Nat->O):W->W
 |.own g=>if gs.contains g=true then match plainO o g with
  |some (a,i,sz,l)=>.p a i (P.fU sz l)
  |none=>.own g
  else .own g
 |.vw g lo hi=>if gs.contains g=true then match plainO o g with
  |some (a,i,sz,l)=>.p a i (P.fU sz ((l.take hi.nat).drop lo.nat))
  |none=>.vw g lo hi
  else .vw g lo hi
 |x=>x
def plV(gs:List Nat)(o:Nat->O):V->V
 |.one x=>.one (Yf gs o x)
 |.agg xs=>.agg (xs.map (Yf gs o))
def plS(gs:List Nat)(o:Nat->O):S->S
 |.v x=>.v (plV gs o x)
 |.jD xs=>.jD (xs.map (plV gs o))
 |.no=>.no
def plO(gs:List Nat)(o:Nat->O)(g:Nat):O:=match o g with
 |.box ws=>.box (ws.map (Yf gs o))
 |x=>if gs.contains g=true then (Fw.aU o g).2 else x
def fB(gs:List Nat)(st:St):St:={ s:=λt=>plS gs st.o (st.s t),o:=λg=>plO gs st.o g,used:=st.used }
def agC(o:Nat->O)(gs:List Nat):Bool:=gs.all λg=>(plainO o g).isSome&&(o g).names.all λd=>gs.contains d
theorem aaH{o:Nat->O}{gs:List Nat}(h:agC o gs=true):xO o gs:=λg hg=>by
 have:=(Z0.1 h) g hg;simp only [Qf,Z0,Wm,decide_eq_true_eq] at this;exact this
section
variable {E:Env} {st:St} {gh:Nat->Gh} {w:World} {val:Nat->Value}
theorem Es{gs:List Nat}{o:Nat->O}{x:W}{g:Nat}(h:g∈(Yf gs o x).names):g∈x.names:=by
 unfold Yf at h;split at h
 .split at h
  .split at h
   .simp [W.names] at h
   .exact h
  .exact h
 .split at h
  .split at h
   .simp [W.names] at h
   .exact h
  .exact h
 .exact h
theorem Ny{gs:List Nat}{o:Nat->O}{x:V}{g:Nat}(h:g∈(plV gs o x).names):g∈x.names:=by
 cases x with
 |one x=>exact Es h
 |agg xs=>
  simp only [plV,V.names,YY,QR] at h ⊢;obtain ⟨_,⟨x,hx,rfl⟩,hg⟩:=h;exact ⟨x,hx,Es hg⟩
theorem aaI{gs:List Nat}{o:Nat->O}{x:S}{g:Nat}(h:g∈(plS gs o x).names):g∈x.names:=by
 cases x with
 |v x=>exact Ny h
 |jD xs=>
  simp only [plS,S.names,YY,QR] at h ⊢;obtain ⟨_,⟨x,hx,rfl⟩,hg⟩:=h;exact ⟨x,hx,Ny hg⟩
 |no=>exact h
theorem JA(gs:List Nat)(st:St)(g:Nat):((fB gs st).o g=(st.aJ (gs.map (Fw.aU st.o)) []).o g/\∀ws,st.o g≠.box ws)\/
  ∃ws,st.o g=.box ws/\(st.aJ (gs.map (Fw.aU st.o)) []).o g=.box ws/\(fB gs st).o g=.box (ws.map (Yf gs st.o)):=by
 rw [gJ];cases ho:st.o g with
 |box ws=>
  refine .inr ⟨ws,rfl,?_,by simp only [fB,plO,ho]⟩;split
  .simp [Fw.aU,plainO,ho]
  .rfl
 |_=>
  refine .inl ⟨?_,λws e=>by cases e⟩;simp only [fB,plO,ho];simp only [Wm,decide_eq_true_eq]
theorem zY{gs:List Nat}{st:St}{g:Nat}(h:st.o g=.none):(fB gs st).o g=.none:=by
 simp only [fB,plO,h];split
 .simp [Fw.aU,plainO,h]
 .rfl
theorem Rel.plain(h:Rel E st gh val w)(gs:List Nat)(hgs:xO st.o gs):Rel E (fB gs st) gh val w:=by
 have h1:=(h.freezes gs hgs).1;have hss:(st.aJ (gs.map (Fw.aU st.o)) []).s=st.s:=rfl;have hun :∀g,(st.aJ (gs.map (Fw.aU st.o)) []).used g=st.used g:=λg=>by simp [St.aJ]
 have key:=JA gs st;have hfr:=λg=>gJ (st:=st) gs g;generalize hst1:st.aJ (gs.map (Fw.aU st.o)) []=st1 at h1 hss hun key hfr;have own :∀g,((fB gs st).o g).bP=(st1.o g).bP:=λg=>by
  rcases key g with ⟨e,_⟩ | ⟨ws,_,e1,e2⟩
  .rw [e]
  .rw [e1,e2];rfl
 have dim :∀g,((fB gs st).o g).dim=(st1.o g).dim:=λg=>by
  rcases key g with ⟨e,_⟩ | ⟨ws,_,e1,e2⟩
  .rw [e]
  .rw [e1,e2];rfl
 have inner :∀g,((fB gs st).o g).inner=(st1.o g).inner:=λg=>by
  rcases key g with ⟨e,_⟩ | ⟨ws,_,e1,e2⟩
  .rw [e]
  .rw [e1,e2];rfl
 have isd :∀g,((fB gs st).o g).oh=(st1.o g).oh:=λg=>by
  rcases key g with ⟨e,_⟩ | ⟨ws,_,e1,e2⟩
  .rw [e]
  .rw [e1,e2];rfl
 have aqQ :∀g ws,(fB gs st).o g=.box ws->∃ws',st1.o g=.box ws':=λg ws hg=>by
  rcases key g with ⟨e,_⟩ | ⟨ws',_,e1,e2⟩
  .rw [e] at hg;exact ⟨ws,hg⟩
  .exact ⟨ws',e1⟩
 have oit :∀g s n,(fB gs st).o g=.it s n->st1.o g=.it s n:=λg s n hg=>by
  rcases key g with ⟨e,_⟩ | ⟨ws',_,e1,e2⟩
  .rw [e] at hg;exact hg
  .rw [e2] at hg;cases hg
 have hok:E.ok (fB gs st) gh w=E.ok st1 gh w:=by funext a i b;simp only [Env.ok,own]
 have hp :∀{g a i sz l},gs.contains g=true->plainO st.o g=some (a,i,sz,l)->st1.o g=.arr true a i sz l:=λ{g a i sz l} hc hpl=>by
  rw [hfr,if_pos (by simpa using hc),ni hpl]
 have same :∀{x:W} {v:Value},fD E st1 gh w x v->fD E (fB gs st) gh w x v:=by
  intro x v r
  induction r with
  |p a i x v hx=>exact .p a i x v (by rw [hok];exact hx)
  |dw=>exact .dw
  |own g v hv hx=>exact .own g v hv λsz len hg=>hx sz len (by rw [<-dim];exact hg)
  |vw g lo hi v hv hx=>exact .vw g lo hi v hv λsz len hg=>hx sz len (by rw [<-dim];exact hg)
  |box g off v hv hx=>exact .box g off v hv λws hg=>by obtain ⟨ws',e⟩:=aqQ g ws hg;exact hx ws' e
  |ep g n off v hv hx=>exact .ep g n off v hv λsz len hg=>hx sz len (by rw [<-dim];exact hg)
  |sp a i row off b o hb hx=>exact .sp a i row off b o (by rw [hok];exact hb) (by rw [hok];exact hx)
  |gl g=>exact .gl g
  |nJ g v hv hx=>exact .nJ g v hv λs n hg=>hx s n (oit g s n hg)
  |gd b x v hx ih=>exact .gd b x v ih
  |clo f caps vs hl hx ih=>exact .clo f caps vs hl ih
  |no v=>exact .no v
 have aiV :∀{a i:Bool} {sz:Nat} {l:List (List P)} {G:Gh},iQ E st1 gh w a i sz l G->iQ E (fB gs st) gh w a i sz l G:=by
  intro a i sz l G r;simpa only [iQ,hok] using r
 have wd :∀{x:W} {v:Value},fD E st1 gh w x v->fD E (fB gs st) gh w (Yf gs st.o x) v:=by
  intro x v r;unfold Yf;split
  .rename_i g;split
   .rename_i hc;split
    .rename_i a i sz l hpl;have ho1:=hp hc hpl;cases r with
     |own _ _ hv hx=>
      have hv:=hx _ _ (O.jV ho1);have hO:=h1.aZ g;rw [ho1] at hO;rw [hv];exact .p a i _ _ (by rw [hok];exact cO.fU hO)
    .exact same r
   .exact same r
  .rename_i g lo hi;split
   .rename_i hc;split
    .rename_i a i sz l hpl;have ho1:=hp hc hpl;cases r with
     |vw _ _ _ _ hv hx=>
      obtain ⟨n,m,c,rfl,rfl,q1,q2,qc,he⟩:=hx _ _ (O.jV ho1);have hO:=h1.aZ g;rw [ho1] at hO;rw [he];have e1:(P.int .i64 (n:Int)).nat=n:=by simp [P.nat,P.num]
      have e2:(P.int .i64 (m:Int)).nat=m:=by simp [P.nat,P.num]
      rw [e1,e2];exact .p a i _ _ (by rw [hok];exact cO.fU ((cO.sub hO q1 q2).aiI (by simp;omega)))
    .exact same r
   .exact same r
  .exact same r
 have wV :∀{x:V} {v:Value},rG E st1 gh w x v->rG E (fB gs st) gh w (plV gs st.o x) v:=by
  intro x v r;cases r with
  |one x v r=>exact .one _ _ (wd r)
  |agg xs cs hl hv hr=>
   refine .agg _ cs (by simpa using hl) hv λj x v hx hv=>?_;simp only [Ys,W0] at hx;obtain ⟨y,hy,rfl⟩:=hx;exact wd (hr j y v hy hv)
 refine ⟨λt=>?_,λg=>?_,?_,?_,?_,?_,h1.wb,h1.frame,h1.size,h1.os,h1.tape,h1.output,?_,?_,?_⟩
 .have hs:=h1.slots t;rw [hss] at hs;show dJ E _ gh w (plS gs st.o (st.s t)) (val t);cases hs':st.s t with
  |v x=>rw [hs'] at hs;cases hs with | v _ _ r=>exact .v _ _ (wV r)
  |jD xs=>
   rw [hs'] at hs;generalize hval:val t=vt at hs;cases hs with
   |jD _ vs hl hr=>
    refine .jD _ vs (by simpa using hl) λj x v hx hv=>?_;simp only [Ys,W0] at hx;obtain ⟨y,hy,rfl⟩:=hx;exact wV (hr j y v hy hv)
  |no=>exact .no _
 .have hO:=h1.aZ g;rcases key g with ⟨e,_⟩ | ⟨ws',_,e1,e2⟩
  .rw [e];generalize st1.o g=x at hO;cases x with
   |none=>trivial
   |box ws=>
    obtain ⟨ad,c,ty,a1,a2,a3,a4,a5⟩:=hO;exact ⟨ad,c,ty,a1,a2,a3,a4,λj x hx=>let ⟨v,b1,b2,b3⟩:=a5 j x hx;⟨v,b1,b2,same b3⟩⟩
   |arr fz a i sz l=>
    cases fz with
    |false=>exact aiV hO
    |true=>simpa only [mD,hok] using hO
   |aN a i sz ak l hole=>
    rcases hO with hO | ⟨ad,c,ty,a1,a2,a3,a4,a5,a6,a7,a8⟩
    .exact .inl hO
    .refine .inr ⟨ad,c,ty,a1,a2,a3,a4,a5,a6,a7,λn x hx j y hy=>?_⟩;obtain ⟨v,hv,hr⟩:=a8 n x hx j y hy;refine ⟨v,hv,?_⟩;unfold iV at *;cases hcj:ak.lookup j with
     |none=>rw [hcj] at hr;exact (by rw [hok];exact hr:cO w (E.ok (fB gs st) gh w a i) y v)
     |some sz'=>
      rw [hcj] at hr;simp only at *;cases hh:iw hole n j with
      |some d=>rw [hh] at hr;exact ⟨hr.1,same hr.2⟩
      |none=>
       rw [hh] at hr;obtain ⟨l',ao,k,q1,q2,q3,q4⟩:=hr;exact ⟨l',ao,k,q1,q2,aiV q3,q4⟩
   |it s n=>exact hO
  .rw [e2];rw [e1] at hO;obtain ⟨ad,c,ty,a1,a2,a3,a4,a5⟩:=hO;refine ⟨ad,c,ty,a1,a2,a3,by simpa using a4,λj x hx=>?_⟩;simp only [Ys,W0] at hx;obtain ⟨y,hy,rfl⟩:=hx;obtain ⟨v,b1,b2,b3⟩:=a5 j y hy;exact ⟨v,b1,b2,wd b3⟩
 .intro g g' b ha ha';rw [own] at ha ha';exact h1.inj g g' b ha ha'
 .intro g b ha;rw [own] at ha;exact h1.wr g b ha
 .intro g i b hg;rw [inner] at hg;exact h1.wi g i b hg
 .intro g ho hd;rw [own] at ho;rw [isd] at hd;exact h1.ns g ho hd
 .intro t g hg;exact h.us t g (aaI hg)
 .intro g g' hg;rcases key g with ⟨e,_⟩ | ⟨ws',e0,e1,e2⟩
  .rw [e] at hg;have:=h1.uo g g' hg;rw [hun] at this;exact this
  .rw [e2] at hg;simp only [O.names,YY,QR] at hg;obtain ⟨_,⟨x,hx,rfl⟩,hg⟩:=hg;exact h.uo g g' (by rw [e0];simp only [O.names,YY];exact ⟨x,hx,Es hg⟩)
 .intro g hg;exact h.ul g λe=>hg (zY e)
theorem ac3{gs:List Nat}{w:World}{gh:Nat->Gh}{st:St}{E:Env}{a i:Bool}{b:Nat}(h:E.ok st gh w a i b):E.ok (fB gs st) gh w a i b:=by
 refine ⟨h.1,h.2.1,λg ho had=>h.2.2 g ?_ had⟩;rcases JA gs st g with ⟨e,_⟩ | ⟨ws,e,_⟩
 .rw [e,gJ] at ho;split at ho
  .cases hp:plainO st.o g with
   |none=>simpa [Fw.aU,hp] using ho
   |some x=>obtain ⟨a,i,sz,l⟩:=x;rw [ni hp] at ho;cases ho
  .exact ho
 .rw [e];rfl
theorem Rel.norm(h:Rel E st gh val w)(hs gs:List Nat)(hgs:agC (Fw.shuts hs st).o gs=true) :
  ∃bH,Rel E (fB gs (Fw.shuts hs st)) bH val w/\(∀x,(bH x).ad=(gh x).ad/\(bH x).cap=(gh x).cap)/\(∀a i b,E.ok st gh w a i b->E.ok (fB gs (Fw.shuts hs st)) bH w a i b)/\
   ∀g,st.o g=.none->(fB gs (Fw.shuts hs st)).o g=.none:=by
 obtain ⟨bH,h1,l1,e1⟩:=h.shuts hs;exact ⟨bH,h1.plain gs (aaH hgs),e1,λa i b hb=>ac3 (l1.ok a i b hb).1,λg hg=>zY (I8 hs hg)⟩
end
end Go.Fw

namespace Go.Fw
open Go.RowKit
variable [eY]
def FR(ro:Option Nat):Fence:={ Fence.wide with round:=ro }
section
variable {Pg:Program} {ro:Option Nat} {n:Nat} {ops:Array Oper} {Q:Exit->Act->World->Prop}
theorem V7{f:FuncId}{args:Array Value}{w:World}{R:Ending->World->Prop}(h:Calls Pg f args w R):CallsIn (FR ro) n Pg f args w R:=callsIn_wide.2 h
theorem aaJ{row:String}{args:Array Value}{w:World}{R:Value->World->Prop}(h:Rows Pg row args w R):RowsIn (FR ro) n Pg row args w R:=by
 intro c cs _;obtain ⟨v,w',h1,h2⟩:=h c cs;exact ⟨v,w',h1,stepsIn_wide.2 h2⟩
theorem aqR{o:Oper}(ho :∀c,o.op≠.defer c){a:Act}{w:World}{K K':Act->World->Prop}(hK :∀a w,K a w->K' a w)(h:o.wp Pg a w K Q):o.wpIn (FR ro) n Pg a w K' Q:=by
 refine ⟨λ_ _=>trivial,?_⟩;rw [Oper.semAt_eq _ _ _ ho];unfold Oper.wp at h;have hd:(FR ro).depth.isSome=true->1<=n:=λe=>absurd e (by simp [FR,Fence.wide]);generalize (execOp a.eval o).run Pg w=r at *;cases r with
 |ok x w'=>
  cases x<;>simp only [Oper.upon] at h<;>simp only [Oper.uponIn]
  all_goals first
   |exact hK _ _ h
   |exact ⟨hd,V7 (Calls.mono h λe w'' he=>by cases e<;>first | exact hK _ _ he | exact he)⟩
   |exact ⟨hd,aaJ (Rows.mono h λv w'' he=>hK _ _ he)⟩
 |halt x w'=>cases x<;>simp only [Oper.upon] at h<;>simp only [Oper.uponIn]<;>exact h
theorem ac4(ho :∀o∈ops.toList,∀c,o.op≠.defer c)(hlo:¬ LetsOut Q){i:Nat}{a:Act}{w:World}{K K':Act->World->Prop}(hK :∀a w,K a w->K' a w)(h:wpOp Pg ops Q i K a w):wpOpIn (FR ro) n Pg ops Q i K' a w:=by
 unfold wpOp at h;unfold wpOpIn;cases hi:ops[i]? with
 |none=>rw [hi] at h;exact hK _ _ h
 |some o=>
  rw [hi] at h;simp only at h ⊢;split
  .rename_i hw;rw [if_pos hw] at h;rcases h with h | h
   .exact aqR (ho o (by have:=(Vi.1 hi).2;rw [<-this];simp)) hK h
   .exact absurd h.2 hlo
  .rename_i hw;rw [if_neg hw] at h;exact ⟨λ_ _=>trivial,hK _ _ h⟩
theorem am_(ho :∀o∈ops.toList,∀c,o.op≠.defer c)(hlo:¬ LetsOut Q) :∀(is:List Nat) (a:Act) (w:World),wpOps Pg ops Q is a w->wpOpsIn (FR ro) n Pg ops Q is a w
 | [],a,w,h=>h
 |i::is,a,w,h=>by
  rw [wpOps_cons] at h;rw [wpOpsIn_cons];exact ac4 ho hlo (λa w=>am_ ho hlo is a w) h
theorem ana{md:Region.Mode}(ho :∀o∈ops.toList,∀c,o.op≠.defer c)(hlo:¬ LetsOut Q) :∀(fuel:Nat) (listed:Array Bool) (a:Act) (w:World),wpAny Pg md ops Q fuel listed a w->wpAnyIn (FR ro) n Pg md ops Q fuel listed a w
 |0,listed,a,w,h=>h
 |fuel+1,listed,a,w,h=>⟨h.1,λi hi=>ac4 ho hlo (λa w=>ana ho hlo fuel _ a w) (h.2 i hi)⟩
end
omit [eY] in
def P.lv:P->Value
 |.int k n=>.int k n
 |.bool b=>.bool b
 |.str s=>.string s
 |_=>undef
def P.lit:P->Bool
 |.int _ _=>true
 |.bool _=>true
 |.str _=>true
 |_=>false
theorem P.apS{w:World}{ok:Nat->Prop}{x:P}(h:x.lit=true):cO w ok x x.lv:=by
 cases x<;>first | exact .int _ _ | exact .bool _ | exact .str _ | cases h
omit [eY] in
def ac5(Pg:Program)(w:World)(S:List Nat)(rows:List (List P))(v:Value):Prop:=
 ∃gf lb,v=.func (.func gf) #[] lb/\(∀(args:Array Value) (w:World),(callFunc gf args).run Pg w=.ok (.enter gf args) w)/\
  ∀(l:Nat) (J:Nat->List Nat->World->Prop) (W:World),(∀k D A,J k D A->∀b∈S,A.heap[b]?=w.heap[b]?)->(∀k D A B D',J k D A->CB A B->(∀b∈D',b∈D\/(A.heap.size<=b/\b<B.heap.size))->J k D' B)->
   (∀k row D A,rows[k]?=some row->J k D A->YieldAt Fence.wide 0 Pg l (row.map P.lv).toArray A λe B=>e=.returned (.bool true)/\J (k+1) D B/\∀b∈D,B.heap[b]?=A.heap[b]?)->
   J 0 [] W->Calls Pg gf (#[.func (.yield l) #[] #[]]++lb) W λe B=>(∃v,e=.returned v)/\∃D,J rows.length D B
section
variable {Pg:Program}
theorem anb{g:Operand}{ps:Array Tmp}{x y:Code}{Q:Exit->Act->World->Prop}{a:Act}{w:World}{S:List Nat}{rows:List (List P)}(hit:ac5 Pg w S rows (a.eval g))(hlen :∀row∈rows,row.length=ps.size)
  (J:Nat->List Nat->World->Prop) (hS :∀k D A,J k D A->∀b∈S,A.heap[b]?=w.heap[b]?) (hgrow :∀k D A B D',J k D A->CB A B->(∀b∈D',b∈D\/(A.heap.size<=b/\b<B.heap.size))->J k D' B)
  (hturn :∀k D A b o o',w.heap.size<=b->b∉D->J k D A->A.heap[b]?=some o->quiet o=true->J k D (A.putObj b o')) (h0:J 0 [] w)
  (akt :∀k row D A,rows[k]?=some row->J k D A->∀l,∃a₁,(∀(K:Act->World->Prop) W,K a₁ W->x.wpIn (FR (some l)) 0 Pg (Exit.then K (λ_ _ _=>False)) { tmps:=(ps.zip (row.map P.lv).toArray).foldl (λt (p,v)=>t.setIfInBounds p v) a.tmps,defers:=[] } W)/\
   y.wpIn (FR (some l)) 0 Pg (λe _ B=>e=.normal/\J (k+1) D B/\(∀b∈D,B.heap[b]?=A.heap[b]?)/\∀b o,A.heap[b]?=some o->quiet o=true->w.heap.size<=b->B.heap[b]?=some o) a₁ A)
  (hdone :∀D B D',w.heap.size<=D->J rows.length D' B->B.heap[D]?=some (.deferred (some []))->Q .normal { a with defers:={ target:=.collected D,args:=#[] }::a.defers } B) :
  (Code.rangeFunc g ps x y).wp Pg Q a w:=by
 obtain ⟨gf,lb,hg,eg,hseq⟩:=hit;rw [<-wpIn_wide (n:=1)];refine wpIn_rangeFunc ?_;intro fn hfn;obtain ⟨rec,hrec⟩ :∃rec:LoopState->Option Code->Loop,rec=λst pe=>{ state:=st,pending:=pe,fn,tmps:=a.tmps,params:=ps,assign:=x,body:=y,defers:=w.heap.size }:=⟨_,rfl⟩;obtain ⟨W1,hW1⟩ :∃W1,(w.alloc (.deferred (some []))).alloc (.loop (rec .ready none))=W1:=⟨_,rfl⟩;have hL1:W1.heap[w.heap.size+1]?=some (.loop (rec .ready none)):=by
  rw [<-hW1];have:=World.alloc_heap_new (w.alloc (.deferred (some []))) (.loop (rec .ready none));rwa [World.size_alloc] at this
 have hK1:W1.heap[w.heap.size]?=some (.deferred (some [])):=by
  rw [<-hW1];exact (Below.heap_alloc _ _ _ (by simp)).trans (World.alloc_heap_new w _)
 have hJ1:J 0 [] W1:=by rw [<-hW1];exact hgrow _ _ _ _ [] (hgrow _ _ _ _ [] h0 (CB.alloc _ _) (λb hb=>by cases hb)) (CB.alloc _ _) (λb hb=>by cases hb)
 refine ⟨w.heap.size+1,[{ target:=.collected w.heap.size,args:=#[] }],W1,{ target:=.fn (.func gf) lb,args:=#[.func (.yield (w.heap.size+1)) #[] #[]] },W1,gf,
  #[.func (.yield (w.heap.size+1)) #[] #[]]++lb,W1,?_,?_,λ_ _=>trivial,?_,λ_=>XS _,?_⟩
 .rw [<-hW1,hrec];exact run_enterLoop_outer _ _ _ _ _
 .simp only [resolve,hg];simp [go_sem]
 .simp [invoke,go_sem,eg]
 refine callsIn_wide.2 (Calls.mono (hseq (w.heap.size+1)
   (λk D A=>J k D A/\A.heap[w.heap.size+1]?=some (.loop (rec .ready none))/\A.heap[w.heap.size]?=some (.deferred (some []))/\∀b∈D,w.heap.size+1<b)
   W1 (λk D A h=>hS k D A h.1) (λk D A B D' h hg hD=>?_) ?_ ⟨hJ1,hL1,hK1,λb hb=>by cases hb⟩) ?_)
 .have lt :∀{i o},A.heap[i]?=some o->i<A.heap.size:=λh=>(Vi.1 h).1;refine ⟨hgrow k D A B D' h.1 hg hD,(hg.same _ (lt h.2.1)).trans h.2.1,(hg.same _ (lt h.2.2.1)).trans h.2.2.1,λb hb=>?_⟩;rcases hD b hb with hb | hb
  .exact h.2.2.2 b hb
  .exact WN (lt h.2.1) hb.1
 .rintro k row D A hrow ⟨hj,hl,hk,hD⟩;have hy:=run_yield (P:=Pg) (args:=(row.map P.lv).toArray) hl (by rw [hrec];simpa using hlen row (XX hrow));rw [hrec] at hy;have hlt:w.heap.size+1<A.heap.size:=(Vi.1 hl).1;have hnD:w.heap.size+1∉D:=λhm=>qd _ (hD _ hm);have anc :∀b∈D,b≠w.heap.size+1:=λb hb e=>hnD (e▸hb);have hj2:J k D (A.putObj (w.heap.size+1) (.loop { rec .ready none with state:=.busy })):=hturn _ _ _ _ _ _ (by omega) hnD hj hl rfl;obtain ⟨a₁,hx,hbody⟩:=akt k row D _ hrow hj2 (w.heap.size+1);refine ⟨fn,_,x,y,hy,roundIn_of_wpIn hfn (hx _ _ ⟨_,run_beginRound hl (by rw [hrec]),wpIn_mono hbody ?_⟩)⟩;rintro e a3 B ⟨rfl,hj3,hkD,hkeep⟩;have hl2:(A.putObj (w.heap.size+1) (.loop { rec .ready none with state:=.busy })).heap[w.heap.size+1]?=some (.loop { rec .ready none with state:=.busy }):=World.putObj_heap_same hlt;have hk2:(A.putObj (w.heap.size+1) (.loop { rec .ready none with state:=.busy })).heap[w.heap.size]?=some (.deferred (some [])):=(World.putObj_heap_other (by omega)).trans hk;have hl3:=hkeep _ _ hl2 rfl (by omega);have hk3:=hkeep _ _ hk2 rfl (by omega);have hr:=run_endRound (P:=Pg) none hl3;refine ⟨_,_,hr,rfl,⟨hturn _ _ _ _ _ _ (by omega) hnD hj3 hl3 rfl,?_,(World.putObj_heap_other (by omega)).trans hk3,hD⟩,λb hb=>?_⟩
  .rw [World.putObj_heap_same (Vi.1 hl3).1,hrec];rfl
  .rw [World.putObj_heap_other (anc b hb),hkD b hb,World.putObj_heap_other (anc b hb)]
 .rintro e B ⟨⟨v,rfl⟩,D,hj,hl,hk,hD⟩;have hnD:w.heap.size+1∉D:=λhm=>qd _ (hD _ hm);refine ⟨none,_,by have:=run_endLoop (P:=Pg) hl (by rw [hrec];simp);rw [hrec] at this;exact this,hdone _ _ D (XS _) (hturn _ _ _ _ _ _ (by omega) hnD hj hl rfl) ((World.putObj_heap_other (by omega)).trans hk)⟩
end
end Go.Fw

namespace Go.Fw
open Go.RowKit
variable [eY]
structure CY where
 n:St->Prop
 x:Nat->St->Prop
 r:St->Prop
def keeps(bg:List Nat)(j:Shape)(m:Ren):Bool:=bg.all λg=>j.nms.contains g&&(match m.lookup g with
 |some (some g')=>Nat.beq g' g
 |_=>false)
inductive Back(bg:List Nat)(j:Shape)(st:St)(G:List P->Prop):Prop where
 |mk (hs gs:List Nat) (m:Ren) (vs:List P) (hgs:agC (Fw.shuts hs st).o gs=true) (hm:keeps bg j m=true) (h:coerce j m (fB gs (Fw.shuts hs st))=some vs) (hG:G vs)
inductive aiW(bg:List Nat)(body:St->CY->Prop)(st:St)(K:CY):Prop where
 |mk (j:Shape) (I:List P->Prop) (μ:List P->Nat) (h0:Back bg j st I) (round :∀us,I us->body (Fw.mk j us) { n:=λst'=>Back bg j st' λvs=>I vs/\μ vs<μ us,x:=K.x,r:=K.r })
inductive Wk(bg:List Nat)(K:St->Prop)(st:St):Prop where
 |now (h:K st)
 |back (j:Shape) (h:Back bg j st λvs=>K (Fw.mk j vs))
def exec(T:Tab)(tt:TT)(N:Nat)(bg:List Nat):Code->St->CY->Prop
 |.skip,st,K=>K.n st
 |.region _ ops draw,st,K=>rZ T tt N ops draw st (Wk bg K.n)
 |.seq x y,st,K=>exec T tt N bg x st { n:=λst'=>exec T tt N bg y st' K,x:=K.x,r:=K.r }
 |.cond c x y,st,K=>match st.dh c with
  |.v (.one (.p _ _ (.bool b)))=>bif b then exec T tt N bg x st { n:=Wk bg K.n,x:=K.x,r:=K.r } else exec T tt N bg y st { n:=Wk bg K.n,x:=K.x,r:=K.r }
  |_=>False
 |.block id c,st,K=>exec T tt N bg c st { n:=Wk bg K.n,x:=λid' st'=>bif Nat.beq id' id then Wk bg K.n st' else K.x id' st',r:=K.r }
 |.loop c,st,K=>aiW bg (exec T tt N bg c) st K
 |.exit id,st,K=>K.x id st
 |.ret,st,K=>K.r st
 |.label _,st,K=>K.n st
 |.scope c,st,K=>exec T tt N bg c st K
 |_,_,_=>False
structure Fit(Pg:Program):Prop where
 mixed:Pg.follows .mixedOrders=true
 sq :∀w S l v,eY.sq w S l v->ac5 Pg w S l v
section
variable {E:Env} {N:Nat} {bg:List Nat} {xK:Nat->Gh} {Pg:Program} {T:Tab} {tt:TT}
structure Knt(E:Env)(N:Nat)(bg:List Nat)(xK:Nat->Gh)(K:CY)(Q:Exit->Act->World->Prop):Prop where
 n :∀st a w,K.n st->Good E N bg xK st a w->Q .normal a w
 x :∀id st a w,K.x id st->Good E N bg xK st a w->Q (.exit id) a w
 r :∀st a w,K.r st->Good E N bg xK st a w->Q .ret a w
theorem Back.good{j:Shape}{st:St}{G:List P->Prop}(h:Back bg j st G){a:Act}{w:World}(hg:Good E N bg xK st a w) :∃vs,G vs/\Good E N bg xK (Fw.mk j vs) a w:=by
 obtain ⟨hs,gs,m,vs,hgs,hm,h,hG⟩:=h;obtain ⟨⟨gh,hR,LG⟩,hsz,hdf⟩:=hg;obtain ⟨bH,hR,e1,_,e3⟩:=hR.norm hs gs hgs;have hr:=zU h;refine ⟨vs,hG,⟨jZ bH (Jb j m),hR.acI hr,λg hg=>?_⟩,hsz,hdf⟩;have:=(Z0.1 hm) g hg;simp only [Qf] at this;obtain ⟨h1,h2⟩:=this;refine ⟨h1,?_⟩;have hF:Jb j m g=some g:=by
  unfold Jb;rw [if_pos h1];split at h2
  .rename_i g' hl;rw [hl,Q4 h2];rfl
  .cases h2
 have ho:=hr.aZ g g hF;rcases (LG g hg).2 with e | e
 .have e:=e3 g e;rw [e] at ho;generalize (Fw.mk j vs).o g=z at ho;cases ho;exact .inl rfl
 .exact .inr (by simp only [jZ,hF];exact ⟨(e1 g).1.trans e.1,(e1 g).2.trans e.2⟩)
theorem Wk.good{K:St->Prop}{st:St}(h:Wk bg K st){a:Act}{w:World}(hg:Good E N bg xK st a w) :∃st',K st'/\Good E N bg xK st' a w:=by
 cases h with
 |now h=>exact ⟨st,h,hg⟩
 |back j h=>
  obtain ⟨vs,h1,h2⟩:=h.good hg;exact ⟨_,h1,h2⟩
theorem Knt.wk{K:CY}{Q:Exit->Act->World->Prop}(h:Knt E N bg xK K Q):Knt E N bg xK { n:=Wk bg K.n,x:=K.x,r:=K.r } Q:=
 ⟨λst a w hk hg=>let ⟨st',h1,h2⟩:=hk.good hg;h.n st' a w h1 h2,h.x,h.r⟩
theorem ac6{sp:zV}{st:St}{dG:List P}{ny:Nat->Gh}{rs:Nat->Value}{w':World}(hfin:Rel E st ny rs w')(aku :∀g∈sp.bg,st.used g=true/\(st.o g=.none\/((ny g).ad=(xK g).ad/\(ny g).cap=(xK g).cap)))
  (hBk:Back sp.bg sp.aT st λvs=>vs=dG) :∃bH,Rel E (Fw.mk sp.aT dG) bH rs w'/\∀g∈sp.bg,(bH g).ad=(xK g).ad/\(bH g).cap=(xK g).cap:=by
 obtain ⟨hs,gs,m,vs,hgs,hkm,hco,rfl⟩:=hBk;obtain ⟨zO,hfin,e1,_,e3⟩:=hfin.norm hs gs hgs;have hr:=zU hco;refine ⟨jZ zO (Jb sp.aT m),hfin.acI hr,λg hg=>?_⟩;have:=(Z0.1 hkm) g hg;simp only [Qf] at this;obtain ⟨h1,h2⟩:=this;have hF:Jb sp.aT m g=some g:=by
  unfold Jb;rw [if_pos h1];split at h2
  .rename_i g' hl;rw [hl,Q4 h2];rfl
  .cases h2
 have ho:=hr.aZ g g hF;have hbox:(Fw.mk sp.aT vs).o g≠.none:=by
  have hm:g∈sp.aT.aZ.map (·.1):=by simpa [Shape.nms] using h1
  obtain ⟨x,hxx⟩:=wu (vs:=vs) (n:=(dI vs 0 sp.aT.slots).2) hm;have e:(Fw.mk sp.aT vs).o g=x:=by
   show (match (gV vs (dI vs 0 sp.aT.slots).2 sp.aT.aZ).1.lookup g with | some x=>x | none=>O.none)=x;rw [hxx]
  obtain ⟨k,n',_,h2⟩:=lC hxx;rw [e,h2];cases k<;>simp [ug]
 rcases (aku g hg).2 with e | e
 .exfalso;have e:=e3 g e;rw [e] at ho;generalize (Fw.mk sp.aT vs).o g=z at ho hbox;cases ho;exact hbox rfl
 .simp only [jZ,hF];exact ⟨(e1 g).1.trans e.1,(e1 g).2.trans e.2⟩
theorem V8(hT :∀f sp,T f=some sp->Sound Pg (f % 1000000) sp)(htt:iR Pg tt)(hm:Fit Pg) :∀(c:Code) {st:St} {K:CY} {Q:Exit->Act->World->Prop} {a:Act} {w:World},
  exec T tt N bg c st K->Good E N bg xK st a w->Knt E N bg xK K Q->c.wp Pg Q a w:=by
 intro c
 induction c with
 |skip=>intro st K Q a w h hg hK;exact wp_skip (hK.n _ _ _ h hg)
 |region id ops draw=>intro st K Q a w h hg hK;exact Pz hT htt hm.mixed h hg λst' a' w' q hg'=>hK.wk.n _ _ _ q hg'
 |seq x y Yg ihy=>
  intro st K Q a w h hg hK;refine wp_seq (Yg h hg ⟨λst' a' w' q hg'=>ihy q hg' hK,λid st' a' w' q hg'=>hK.x _ _ _ _ q hg',λst' a' w' q hg'=>hK.r _ _ _ q hg'⟩)
 |cond c x y Yg ihy=>
  intro st K Q a w h hg hK;simp only [exec] at h;split at h
  .rename_i a1 i1 b hc;obtain ⟨gh,hR,_⟩:=hg.ex;have hv:=qP hR c;rw [hc] at hv;have hv:=hv.fH.nM;refine wp_cond_split hv (λhb=>?_) (λhb=>?_)
   .subst hb;exact Yg h hg hK.wk
   .subst hb;exact ihy h hg hK.wk
  .cases h
 |block id c ih=>
  intro st K Q a w h hg hK;refine wp_block (ih h hg ⟨λst' a' w' q hg'=>hK.wk.n _ _ _ q hg',λid' st' a' w' q hg'=>?_,λst' a' w' q hg'=>hK.r _ _ _ q hg'⟩);simp only [Exit.inBlock];by_cases e:id'=id
  .subst e;rw [if_pos rfl];have:Nat.beq id' id'=true:=by simp
   simp only [this] at q;exact hK.wk.n _ _ _ q hg'
  .rw [if_neg e];have:Nat.beq id' id=false:=by cases hb:Nat.beq id' id with | false=>rfl | true=>exact absurd (Q4 hb) e
   simp only [this] at q;exact hK.x _ _ _ _ q hg'
 |loop c ih=>
  intro st K Q a w h hg hK;obtain ⟨j,I,μ,h0,round⟩:=(show aiW bg (exec T tt N bg c) st K from h);obtain ⟨us,hI,hg0⟩:=h0.good hg;refine wp_loop_rounds (μ us+1) ?_;have key :∀n us,I us->μ us<n->∀a w,Good E N bg xK (Fw.mk j us) a w->Code.rounds Pg c Q n a w:=by
   intro n
   induction n with
   |zero=>intro us _ h;omega
   |succ n ihn=>
    intro us hI hlt a w hg;refine ih (round us hI) hg ⟨λst' a' w' q hg'=>?_,λid st' a' w' q hg'=>hK.x _ _ _ _ q hg',λst' a' w' q hg'=>hK.r _ _ _ q hg'⟩;obtain ⟨vs,⟨h1,h2⟩,h3⟩:=Back.good q hg';exact ihn vs h1 (by omega) _ _ h3
  exact key _ us hI (by omega) a w hg0
 |exit id=>intro st K Q a w h hg hK;exact wp_exit (hK.x _ _ _ _ h hg)
 |ret=>intro st K Q a w h hg hK;exact wp_ret (hK.r _ _ _ h hg)
 |label l=>intro st K Q a w h hg hK;exact wp_label (hK.n _ _ _ h hg)
 |scope c ih=>intro st K Q a w h hg hK;exact wp_scope_straight (ih h hg ⟨λst' a' w' q hg'=>hK.n _ _ _ q hg',λid st' a' w' q hg'=>hK.x _ _ _ _ q hg',λst' a' w' q hg'=>hK.r _ _ _ q hg'⟩)
 |_=>intro st K Q a w h;exact absurd h (by simp [exec])
def aaK(tt:TT)(st:St):ResultVar->Option S
 |.tmp t=>some (st.s t)
 |.cell a t=>match tt t,st.s a with
  |some i,.v (.one (.box g off))=>match st.o g with
   |.box ws=>if off+i.size<=ws.length/\0<i.size then some (V.fK i.agg ((ws.drop off).take i.size)) else none
   |_=>none
  |_,_=>none
def Gj(tt:TT)(st:St):List ResultVar->Option (List S)
 | []=>some []
 |r::rs=>match aaK tt st r,Gj tt st rs with
  |some x,some xs=>some (x::xs)
  |_,_=>none
def SV(xs:List S)(st:St):St:={ s:=λk=>xs.getD k .no,o:=st.o,used:=st.used }
def Fin(tt:TT)(sp:zV)(ts:List ResultVar)(dG:List P)(st:St):Prop:=match Gj tt st ts with
 |some xs=>Back sp.bg sp.aT (SV xs st) λvs=>vs=dG
 |none=>False
def akv(tt:TT)(sp:zV)(ts:List ResultVar)(dG:List P):CY:={ n:=Fin tt sp ts dG,x:=λ_ _=>False,r:=Fin tt sp ts dG }
def Et(tmps:Array Value)(r:ResultVar):Sem Value:=match r with
 |.tmp t=>pure (tmps.getD t undef)
 |.cell a t=>do loadVar t (<-asAddr (tmps.getD a undef))
theorem V9{fn:Func}{ts:List ResultVar}(hr:fn.results=ts.toArray)(tmps:Array Value):results fn tmps=(do
  let vs <-List.toArray <$> ts.mapM (Et tmps)
  pure (if h:vs.size=1 then vs[0] else .tuple vs)):=by
 unfold results;rw [hr,List.mapM_toArray];have :∀F:ResultVar->Sem Value,(∀r,F r=Et tmps r)->ts.mapM F=ts.mapM (Et tmps):=λF hF=>by rw [funext hF]
 rw [this _ λr=>by cases r<;>rfl]
theorem V_(htt:iR Pg tt){st:St}{gh:Nat->Gh}{a:Act}{w:World}(h:Rel E st gh (λt=>a.tmps.getD t undef) w){r:ResultVar}{x:S}(hx:aaK tt st r=some x) :
  ∃v,(Et a.tmps r).run Pg w=.ok v w/\dJ E st gh w x v/\∀g∈x.names,st.used g=true:=by
 cases r with
 |tmp t=>
  simp only [aaK,Q0] at hx;subst hx;exact ⟨_,rfl,h.slots t,h.us t⟩
 |cell ad t=>
  simp only [aaK] at hx;split at hx
  .rename_i i g off ht hs;have rx:=h.slots ad;rw [hs] at rx;split at hx
   .rename_i ws hog;split at hx
    .rename_i hlt;simp only [Q0] at hx;subst hx;have hO:=h.aZ g;rw [hog] at hO;obtain ⟨ad',had,cs,hl,hone,hcell,hrep⟩:=zJ.cells hO;obtain ⟨auJ,OH,hv⟩:=(by cases rx.dK with | box _ _ _ _ hb=>exact hb ws hog :∃ad',(gh g).ad=some ad'/\a.tmps.getD ad undef=.pointer (some ⟨ad'.block,ad'.off+off,none⟩));rw [had] at OH;cases OH;have hl':((cs.drop off).take i.size).length=i.size:=by simp;omega
     obtain ⟨v,hrun,hval⟩:=kH (Pg:=Pg) (w:=w) (htt _ _ ht) ad'.block (ad'.off+off) ((cs.drop off).take i.size) hl' (λj u hu=>by
      have hj:j<i.size:=by have:=(Q3.1 hu).1;omega
      rw [Z3,if_pos hj,W5] at hu;rw [US];exact hcell _ _ hu) (λ_=>hlt.2)
     refine ⟨v,by simp only [Et];rw [hv];simpa [asAddr] using hrun,lq (cs:=(cs.drop off).take i.size) (by simp;omega) (λc hc=>hone c (V0 (ZZ hc)))
      (λj y u hy hu=>?_) v hval,λg' hg'=>?_⟩
     .have hj:j<i.size:=by have:=(Q3.1 hu).1;omega
      rw [Z3,if_pos hj,W5] at hy hu;exact hrep _ _ _ hy hu
     .obtain ⟨x,hx,hg'⟩:=jK hg';exact h.uo g g' (by rw [hog];simp only [O.names,YY];exact ⟨x,V0 (ZZ hx),hg'⟩)
    .cases hx
   .cases hx
  .cases hx
theorem Gl(htt:iR Pg tt){st:St}{gh:Nat->Gh}{a:Act}{w:World}(h:Rel E st gh (λt=>a.tmps.getD t undef) w) :∀{rs:List ResultVar} {xs:List S},Gj tt st rs=some xs->
  ∃vs:List Value,(rs.mapM (Et a.tmps)).run Pg w=.ok vs w/\vs.length=rs.length/\
   ∀k,dJ E st gh w (xs.getD k .no) (vs.getD k undef)/\∀g∈(xs.getD k .no).names,st.used g=true
 | [],xs,hx=>by
  simp only [Gj,Q0] at hx;subst hx;exact ⟨[],rfl,rfl,λk=>⟨.no _,by simp [S.names]⟩⟩
 |r::rs,xs,hx=>by
  simp only [Gj] at hx;split at hx
  .rename_i x xs h1 h2;simp only [Q0] at hx;subst hx;obtain ⟨v,q1,q2,q3⟩:=V_ htt h h1;obtain ⟨vs,p1,p2,p3⟩:=Gl htt h h2;refine ⟨v::vs,?_,by simp [p2],λk=>?_⟩
   .rw [ve,Sem.run_bind,q1];show Sem.run Pg _ w=_;rw [Sem.run_bind,p1];rfl
   .cases k with
    |zero=>exact ⟨q2,q3⟩
    |succ k=>simpa using p3 k
  .cases hx
theorem MB(htt:iR Pg tt){st:St}{gh:Nat->Gh}{a:Act}{w:World}(h:Rel E st gh (λt=>a.tmps.getD t undef) w){fn:Func}{ts:List ResultVar}(hr:fn.results=ts.toArray){xs:List S}(hx:Gj tt st ts=some xs) :
  ∃vs:List Value,(results fn a.tmps).run Pg w=.ok (aan vs) w/\vs.length=ts.length/\∀k,dJ E st gh w (xs.getD k .no) (vs.getD k undef)/\∀g∈(xs.getD k .no).names,st.used g=true:=by
 obtain ⟨vs,q1,q2,q3⟩:=Gl htt h hx;refine ⟨vs,?_,q2,q3⟩;rw [V9 hr,Sem.run_bind,Sem.run_map,q1]
 match vs with
 | []=>rfl
 | [v]=>rfl
 |v::u::vs=>simp [aan]
theorem ac7{f:FuncId}{fn:Func}{c:Code}{sp:Spec}(ts:List ResultVar)(hf:Pg.funcs[f]?=some fn)(hb:fn.body=some c)(hname:(fn.name == "runtime.NumGoroutine")=false)(hres:fn.results=ts.toArray)
  (hok:sp.sig.ok=true) (LG:(sp.sig.bg.all λg=>sp.sig.pin.nms.contains g)=true) (hlk :∀ins dG,sp.R ins dG->∀g∈sp.sig.bg,((Fw.mk sp.sig.pin ins).o g).like ((Fw.mk sp.sig.aT dG).o g)) (hn:sp.sig.bn<=fn.ntmps) (hnr:ts.length=sp.sig.dD)
  (hT :∀f sp,T f=some sp->Sound Pg (f % 1000000) sp) (htt:iR Pg tt) (hm:Fit Pg)
  (h :∀ins dG,sp.R ins dG->exec T tt fn.ntmps sp.sig.bg c (Fw.mk sp.sig.pin ins) (akv tt sp.sig ts dG)):Sound Pg f sp:=by
 refine ⟨hok,λargs w=>?_,λE w vals gh ins dG hR hB hw0 L9 hlen=>?_⟩
 .have hname':¬ fn.name = "runtime.NumGoroutine" := by simpa using hname
  simp [callFunc,hf,hname',hb]
 .have hsz:vals.toArray.size<=fn.ntmps:=by simp;omega
  refine callsIn_wide.1 (callsIn_of_wp_marks (n:=0) hf hb trivial (wpIn_wide.2 (V8 (E:=E) (N:=fn.ntmps) (bg:=sp.sig.bg) (xK:=gh) hT htt hm c (h ins dG hR) ⟨⟨gh,?_,λg hg=>⟨?_,.inr ⟨rfl,rfl⟩⟩⟩,by simp;omega,Marks.nil rfl⟩ ?_)) rfl)
  .have e:(λt=>(vals.toArray++Array.replicate (fn.ntmps-vals.toArray.size) undef).getD t undef)=λk=>vals.getD k undef:=by
    funext t;rw [We,List.getD_eq_getElem?_getD,Array.getElem?_append];split
    .simp
    .rename_i ht;have ht:vals.length<=t:=by simpa using ht
     rw [WK ht,vd];split<;>rfl
   rw [e];exact L9
  .exact (Z0.1 LG) g hg
  .have fin :∀st a w',Fin tt sp.sig ts dG st->Good E fn.ntmps sp.sig.bg gh st a w'->LeavesInM Fence.wide 0 Pg fn a.tmps (λe w' =>∃(rs:List Value) (bH:Nat->Gh),rs.length=sp.sig.dD/\e=.returned (aan rs)/\Rel E (Fw.mk sp.sig.aT dG) bH (λk=>rs.getD k undef) w'/\∀g∈sp.sig.bg,((bH g).ad=(gh g).ad/\(bH g).cap=(gh g).cap)/\((Fw.mk sp.sig.pin ins).o g).like ((Fw.mk sp.sig.aT dG).o g)) a.defers .returning w':=by
    intro st a w' hBk hg;unfold Fin at hBk;split at hBk
    rotate_left
    .cases hBk
    rename_i xs hxs;obtain ⟨⟨ny,hR1,aku⟩,_,Ds,hd1,hd2,hd3⟩:=hg;rw [hd1];clear hd1
    induction Ds generalizing w' with
    |nil=>
     obtain ⟨rs,hrun,hrl,hrs⟩:=MB htt hR1 hres hxs;refine ⟨_,hrun,rs,?_⟩;have hfin:Rel E (SV xs st) ny (λk=>rs.getD k undef) w':=by
      refine ⟨λk=>?_,λg=>mD.congr (st:=st) (st':=SV xs st) rfl (hR1.aZ g),hR1.inj,hR1.wr,hR1.wi,hR1.ns,hR1.wb,hR1.frame,hR1.size,hR1.os,hR1.tape,hR1.output,λk g hg=>(hrs k).2 g hg,hR1.uo,hR1.ul⟩;exact dJ.congr (st:=st) (st':=SV xs st) rfl (hrs k).1
     obtain ⟨bH,r1,r2⟩:=ac6 hfin aku hBk;exact ⟨bH,by omega,rfl,r1,λg hg=>⟨r2 g hg,hlk ins dG hR g hg⟩⟩
    |cons D Ds ih=>
     obtain ⟨h1,h2⟩:=hd3 D (by simp);have hnd:=UV.1 hd2;refine ⟨by simp,.inl ⟨D,_,rfl,run_takeDeferred h2,ih _ (hR1.turn h2 rfl h1 _) hnd.2 λD' hD'=>?_⟩⟩;obtain ⟨q1,q2⟩:=hd3 D' (by simp [hD']);exact ⟨q1,(World.putObj_heap_other (λe:D'=D=>hnd.1 (by rw [<-e];exact hD'))).trans q2⟩
   exact ⟨λst a w' hk hg=>fin st a w' hk hg,λid st a w' hk=>hk.elim,λst a w' hk hg=>fin st a w' hk hg⟩
end
end Go.Fw

namespace Go.Fg
open Go.Fw
inductive Ty where
 |int (k:IntKind)
 |bool
 |str
 |sl (e:Ty)
 |prod (a b:Ty)
 |st (n:Nat)
 |opq
 |sq (e:Ty)
def ac8:(a b:IntKind)->Option (PLift (a=b))
 |.i8,.i8=>some ⟨rfl⟩
 |.i16,.i16=>some ⟨rfl⟩
 |.i32,.i32=>some ⟨rfl⟩
 |.i64,.i64=>some ⟨rfl⟩
 |.u8,.u8=>some ⟨rfl⟩
 |.u16,.u16=>some ⟨rfl⟩
 |.u32,.u32=>some ⟨rfl⟩
 |.u64,.u64=>some ⟨rfl⟩
 |_,_=>none
def ac9(a b:Nat):Option (PLift (a=b)):=match h:Nat.beq a b with
 |true=>some ⟨Q4 h⟩
 |false=>none
def Ty.eq:(a b:Ty)->Option (PLift (a=b))
 |.int k,.int k'=>match ac8 k k' with
  |some ⟨h⟩=>some ⟨h▸rfl⟩
  |none=>none
 |.bool,.bool=>some ⟨rfl⟩
 |.str,.str=>some ⟨rfl⟩
 |.opq,.opq=>some ⟨rfl⟩
 |.sl a,.sl b=>match Ty.eq a b with
  |some ⟨h⟩=>some ⟨h▸rfl⟩
  |none=>none
 |.sq a,.sq b=>match Ty.eq a b with
  |some ⟨h⟩=>some ⟨h▸rfl⟩
  |none=>none
 |.prod a b,.prod a' b'=>match Ty.eq a a',Ty.eq b b' with
  |some ⟨h⟩,some ⟨h'⟩=>some ⟨h▸h'▸rfl⟩
  |_,_=>none
 |.st n,.st m=>match ac9 n m with
  |some ⟨h⟩=>some ⟨h▸rfl⟩
  |none=>none
 |_,_=>none
def Ty.word:Ty->Bool
 |.prod _ _=>false
 |.st _=>false
 |_=>true
def Ty.flat:Ty->Bool
 |.int _=>true
 |.bool=>true
 |.str=>true
 |.opq=>true
 |_=>false
def D(C:Nat->Type):Ty->Type
 |.int _=>Int
 |.bool=>Bool
 |.str=>List UInt8
 |.sl e=>List (D C e)
 |.prod a b=>D C a×D C b
 |.st n=>C n
 |.opq=>Value
 |.sq e=>List (D C e)
structure TP(C:Nat->Type) where
 t:Ty
 x:D C t
def TP.get{C:Nat->Type}(t:Ty)(d:D C t)(ws:List (TP C))(n:Nat):D C t:=match ws[n]? with
 |some w=>match Ty.eq w.t t with
  |some ⟨h⟩=>h▸w.x
  |none=>d
 |none=>d
theorem aP{C:Nat->Type}{ws:List (TP C)}{t:Ty}{ts:List Ty}(h:ws.map (·.t)=t::ts) :∃x ws',ws=⟨t,x⟩::ws'/\ws'.map (·.t)=ts:=by
 cases ws with
 |nil=>cases h
 |cons w ws=>
  obtain ⟨t',x⟩:=w;simp only [Q6,List.cons.injEq] at h;obtain ⟨rfl,h⟩:=h;exact ⟨x,ws,rfl,h⟩
theorem dM{C:Nat->Type}{ws:List (TP C)}(h:ws.map (·.t)=[]):ws=[]:=by simpa using h
def JB{C:Nat->Type}(size:Ty->Nat)(lF:(t:Ty)->D C t->List P):(t:Ty)->D C t->P
 |.int k,x=>.int k x
 |.bool,b=>.bool b
 |.str,s=>.str ⟨s.toArray⟩
 |.sl e,l=>P.fU (size e) (List.map (lF e) l)
 |.opq,v=>.opq v
 |.sq e,l=>.seq (List.map (lF e) l)
 |.prod _ _,_=>default
 |.st _,_=>default
def pG{C:Nat->Type}(F:Nat->List Ty)(er:(n:Nat)->C n->List P)(size:Ty->Nat):(t:Ty)->D C t->List P
 |.int k,x=>[.int k x]
 |.bool,b=>[.bool b]
 |.str,s=>[.str ⟨s.toArray⟩]
 |.sl e,l=>[P.fU (size e) (List.map (pG F er size e) l)]
 |.opq,v=>[.opq v]
 |.sq e,l=>[.seq (List.map (pG F er size e) l)]
 |.prod a b,x=>pG F er size a x.1++pG F er size b x.2
 |.st n,x=>er n x
def jG(F:Nat->List Ty):Ty->Nat
 |.prod a b=>jG F a+jG F b
 |.st n=>(F n).length
 |_=>1
class RE where
 C:Nat->Type
 F:Nat->List Ty
 dflt:(n:Nat)->C n
 un:(n:Nat)->C n->List (TP C)
 ro:(n:Nat)->List (TP C)->C n
 er:(n:Nat)->C n->List P
 Fwd :∀n,(F n).all Ty.word=true
 aiX :∀n x,(un n x).map (·.t)=F n
 aiY :∀n ws,ws.map (·.t)=F n->un n (ro n ws)=ws
 aiZ :∀n x,er n x=(un n x).map λw=>JB (jG F) (pG F er (jG F)) w.t w.x
 hd:Nat:=999999
 hdF:F hd=[]:=by rfl
 G:Nat->Option ((e:Ty)×List (D C e)):=λ_=>none
 Q:World->List Nat->List (List P)->Value->Prop:=λ_ _ _ _=>False
 akw :∀{w w':World} {S:List Nat} {l:List (List P)} {v:Value},(∀b∈S,w'.heap[b]?=w.heap[b]?)->Q w S l v->Q w' S l v:=by intro _ _ _ _ _ _ h;exact h
section
variable [RE]
abbrev Dt(t:Ty):Type:=D RE.C t
abbrev Wd:=TP RE.C
def size:Ty->Nat:=jG RE.F
def lF:(t:Ty)->Dt t->List P:=pG RE.F RE.er (jG RE.F)
instance:eY:=⟨λg=>(RE.G g).map λx=>(size x.1,List.map (lF x.1) x.2),RE.Q,RE.akw⟩
theorem ai0(g:Nat):eY.gt g=(RE.G g).map λx=>(size x.1,List.map (lF x.1) x.2):=rfl
def dn(w:Wd):P:=JB (jG RE.F) (pG RE.F RE.er (jG RE.F)) w.t w.x
def dflt:(t:Ty)->Dt t
 |.int _=>(0:Int)
 |.bool=>false
 |.str=>([]:List UInt8)
 |.sl e=>([]:List (Dt e))
 |.prod a b=>(dflt a,dflt b)
 |.st n=>RE.dflt n
 |.opq=>Value.nilFunc
 |.sq e=>([]:List (Dt e))
def TP.BG(t:Ty)(w:Wd):Option (Dt t):=match Ty.eq w.t t with
 |some ⟨h⟩=>some (h▸w.x)
 |none=>none
def TP.as(t:Ty)(w:Wd):Dt t:=match Ty.eq w.t t with
 |some ⟨h⟩=>h▸w.x
 |none=>dflt t
def fZ:(t:Ty)->Dt t->List Wd
 |.prod a b,x=>fZ a x.1++fZ b x.2
 |.st n,x=>RE.un n x
 |.int k,x=>[⟨.int k,x⟩]
 |.bool,x=>[⟨.bool,x⟩]
 |.str,x=>[⟨.str,x⟩]
 |.sl e,x=>[⟨.sl e,x⟩]
 |.opq,x=>[⟨.opq,x⟩]
 |.sq e,x=>[⟨.sq e,x⟩]
def jw:Ty->List Ty
 |.prod a b=>jw a++jw b
 |.st n=>RE.F n
 |t=>[t]
def kP:(t:Ty)->List Wd->Dt t
 |.prod a b,ws=>(kP a (ws.take (size a)),kP b (ws.drop (size a)))
 |.st n,ws=>RE.ro n ws
 |.int k,ws=>match ws with
  |w::_=>w.as (.int k)
  | []=>dflt (.int k)
 |.bool,ws=>match ws with
  |w::_=>w.as .bool
  | []=>dflt .bool
 |.str,ws=>match ws with
  |w::_=>w.as .str
  | []=>dflt .str
 |.sl e,ws=>match ws with
  |w::_=>w.as (.sl e)
  | []=>dflt (.sl e)
 |.opq,ws=>match ws with
  |w::_=>w.as .opq
  | []=>dflt .opq
 |.sq e,ws=>match ws with
  |w::_=>w.as (.sq e)
  | []=>dflt (.sq e)
theorem Ty.eq_self :∀(t:Ty),∃h,Ty.eq t t=some ⟨h⟩:=by
 intro t
 induction t with
 |int k=>cases k<;>exact ⟨rfl,rfl⟩
 |bool=>exact ⟨rfl,rfl⟩
 |str=>exact ⟨rfl,rfl⟩
 |opq=>exact ⟨rfl,rfl⟩
 |sl e ih=>obtain ⟨h,ih⟩:=ih;exact ⟨rfl,by simp [Ty.eq,ih]⟩
 |sq e ih=>obtain ⟨h,ih⟩:=ih;exact ⟨rfl,by simp [Ty.eq,ih]⟩
 |prod a b iha ihb=>obtain ⟨h,iha⟩:=iha;obtain ⟨h',ihb⟩:=ihb;exact ⟨rfl,by simp [Ty.eq,iha,ihb]⟩
 |st n=>
  refine ⟨rfl,?_⟩;have:ac9 n n=some ⟨rfl⟩:=by
   unfold ac9;split
   .rfl
   .rename_i h;simp at h
  simp [Ty.eq,this]
theorem r_(t:Ty)(x:Dt t):TP.as t ⟨t,x⟩=x:=by
 obtain ⟨h,e⟩:=Ty.eq_self t;simp [TP.as,e]
theorem xg{t:Ty}{w:Wd}(h:w.t=t):(⟨t,w.as t⟩:Wd)=w:=by
 obtain ⟨t',x⟩:=w;simp only at h;subst h;rw [r_]
theorem h_{t:Ty}{w:Wd}{x:Dt t}(h:w.BG t=some x):w=⟨t,x⟩:=by
 obtain ⟨t',y⟩:=w;unfold TP.BG at h;split at h
 .rename_i e he;simp only at e;subst e;simp only [Q0] at h;subst h;rfl
 .cases h
theorem akx{t:Ty}{w:Wd}{x:Dt t}(h:w.BG t=some x):w.t=t:=by rw [h_ h]
theorem kC :∀(t:Ty),(jw t).length=size t
 |.prod a b=>by
  have h1:=kC a;have h2:=kC b;simp only [size] at h1 h2;simp [jw,size,jG,h1,h2]
 |.st n=>by simp [jw,size,jG]
 |.int k=>rfl
 |.bool=>rfl
 |.str=>rfl
 |.sl e=>rfl
 |.opq=>rfl
 |.sq e=>rfl
theorem uz :∀(t:Ty) (x:Dt t),(fZ t x).map (·.t)=jw t
 |.prod a b,x=>by simp [fZ,jw,uz a,uz b]
 |.st n,x=>by simp [fZ,jw];exact RE.aiX n x
 |.int k,x=>rfl
 |.bool,x=>rfl
 |.str,x=>rfl
 |.sl e,x=>rfl
 |.opq,x=>rfl
 |.sq e,x=>rfl
theorem qB(t:Ty)(x:Dt t):(fZ t x).length=size t:=by
 rw [<-kC,<-uz t x,W7]
theorem iy :∀(t:Ty) (x:Dt t),lF t x=(fZ t x).map dn
 |.prod a b,x=>by
  show lF a x.1++lF b x.2=_;rw [iy a x.1,iy b x.2];simp [fZ]
 |.st n,x=>RE.aiZ n x
 |.int k,x=>rfl
 |.bool,x=>rfl
 |.str,x=>rfl
 |.sl e,x=>rfl
 |.opq,x=>rfl
 |.sq e,x=>rfl
theorem SX(t:Ty)(x:Dt t):(lF t x).length=size t:=by rw [iy,W7,qB]
theorem wC{ws:List Wd}{t:Ty}(h:ws.map (·.t)=[t]) :∃w,ws=[w]/\w.t=t:=by
 match ws with
 | []=>cases h
 | [w]=>exact ⟨w,rfl,by simpa using h⟩
 |w::u::ws=>simp at h
theorem JC :∀(t:Ty) (ws:List Wd),ws.map (·.t)=jw t->fZ t (kP t ws)=ws
 |.prod a b,ws,h=>by
  have h1:(ws.take (size a)).map (·.t)=jw a:=by rw [V1,h];simp [jw,<-kC]
  have h2:(ws.drop (size a)).map (·.t)=jw b:=by rw [Wt,h];simp [jw,<-kC]
  show fZ a (kP a (ws.take (size a)))++fZ b (kP b (ws.drop (size a)))=ws;rw [JC a _ h1,JC b _ h2,Jx]
 |.st n,ws,h=>RE.aiY n ws h
 |.int k,ws,h=>by
  obtain ⟨w,rfl,hw⟩:=wC (t:=(.int k)) h;show [(⟨.int k,w.as (.int k)⟩:Wd)]=[w];rw [xg hw]
 |.bool,ws,h=>by
  obtain ⟨w,rfl,hw⟩:=wC (t:=.bool) h;show [(⟨.bool,w.as .bool⟩:Wd)]=[w];rw [xg hw]
 |.str,ws,h=>by
  obtain ⟨w,rfl,hw⟩:=wC (t:=.str) h;show [(⟨.str,w.as .str⟩:Wd)]=[w];rw [xg hw]
 |.sl e,ws,h=>by
  obtain ⟨w,rfl,hw⟩:=wC (t:=(.sl e)) h;show [(⟨.sl e,w.as (.sl e)⟩:Wd)]=[w];rw [xg hw]
 |.opq,ws,h=>by
  obtain ⟨w,rfl,hw⟩:=wC (t:=.opq) h;show [(⟨.opq,w.as .opq⟩:Wd)]=[w];rw [xg hw]
 |.sq e,ws,h=>by
  obtain ⟨w,rfl,hw⟩:=wC (t:=(.sq e)) h;show [(⟨.sq e,w.as (.sq e)⟩:Wd)]=[w];rw [xg hw]
theorem su{t:Ty}{ws:List Wd}(h:ws.map (·.t)=jw t):lF t (kP t ws)=ws.map dn:=by rw [iy,JC t ws h]
def aH(e:Ty)(l:List (Dt e)):List (List P):=List.map (lF e) l
theorem H6(e:Ty)(l:List (Dt e)):dn ⟨.sl e,l⟩=P.fU (size e) (aH e l):=rfl
theorem jB(e:Ty)(l:List (Dt e)):(dn ⟨.sl e,l⟩).list=aH e l:=by rw [H6,P.oq]
theorem aaL{w:Wd}(h:w.t.flat=true):(dn w).flat=true:=by
 obtain ⟨t,x⟩:=w;cases t<;>simp [Ty.flat] at h<;>rfl
end
end Go.Fg

namespace Go.Fg
open Go.Fw
section
variable [RE]
inductive TW where
 |p (a i:Bool) (w:Wd)
 |dw
 |own (g:Nat)
 |vw (g:Nat) (lo hi:Int)
 |box (g off:Nat)
 |ep (g:Nat) (n:Int) (off:Nat)
 |sp (a i:Bool) (t:Ty) (x:Dt t) (off:Nat)
 |clo (f:FuncId) (caps:List TW)
 |gl (g:Nat)
 |nJ (g:Nat)
 |no
inductive TV where
 |one (x:TW)
 |agg (xs:List TW)
inductive TS where
 |v (x:TV)
 |jD (xs:List TV)
 |no
inductive TO where
 |none
 |box (ws:List TW)
 |arr (fz a i:Bool) (e:Ty) (l:List (Dt e))
 |it (s:List UInt8) (n:Int)
 |aN (a i:Bool) (e:Ty) (ak:List (Nat×Ty)) (l:List (Dt e)) (hole:Option (Nat×Nat×Nat))
mutual
def bV:TW->W
 |.p a i w=>.p a i (dn w)
 |.dw=>.dw
 |.own g=>.own g
 |.vw g lo hi=>.vw g (.int .i64 lo) (.int .i64 hi)
 |.box g off=>.box g off
 |.ep g n off=>.ep g (.int .i64 n) off
 |.sp a i t x off=>.sp a i (lF t x) off
 |.clo f caps=>.clo f (nS caps)
 |.gl g=>.gl g
 |.nJ g=>.nJ g
 |.no=>.no
def nS:List TW->List W
 | []=>[]
 |x::xs=>bV x::nS xs
end
theorem zq :∀(l:List TW),nS l=l.map bV
 | []=>rfl
 |x::xs=>by simp [nS,zq xs]
def jS:TV->V
 |.one x=>.one (bV x)
 |.agg xs=>.agg (xs.map bV)
def bf:TS->S
 |.v x=>.v (jS x)
 |.jD xs=>.jD (xs.map jS)
 |.no=>.no
def iL(ak:List (Nat×Ty)):List (Nat×Nat):=ak.map λc=>(c.1,size c.2)
def dU:TO->O
 |.none=>.none
 |.box ws=>.box (ws.map bV)
 |.arr fz a i e l=>.arr fz a i (size e) (aH e l)
 |.it s n=>.it (.str ⟨s.toArray⟩) (.int .i64 n)
 |.aN a i e ak l hole=>.aN a i (size e) (iL ak) (aH e l) hole
def jO{α:Type}(d:α):List (Nat×α)->Nat->α
 | [],_=>d
 |(k,v)::r,t=>bif Nat.beq t k then v else jO d r t
def yA{α:Type}(k:Nat)(v:α):List (Nat×α)->List (Nat×α)
 | []=>[(k,v)]
 |(k',v')::r=>bif Nat.beq k k' then (k,v)::r else (k',v')::yA k v r
def fJ(g:Nat):List Nat->Bool
 | []=>false
 |x::xs=>Nat.beq g x||fJ g xs
structure jl where
 s:List (Nat×TS)
 o:List (Nat×TO)
 u:List Nat
def jl.gs(st:jl)(t:Nat):TS:=jO .no st.s t
def jl.go(st:jl)(g:Nat):TO:=jO .none st.o g
def aV(st:jl):St:={ s:=λt=>bf (st.gs t),o:=λg=>dU (st.go g),used:=λg=>fJ g st.u }
def bU(o:Nat->TO):Nat->O:=λg=>dU (o g)
def iY(k:IntKind)(x:Int):Wd:=⟨.int k,x⟩
def je(x:Bool):Wd:=⟨.bool,x⟩
def SY(x:List UInt8):Wd:=⟨.str,x⟩
def uD(e:Ty)(x:List (Dt e)):Wd:=⟨.sl e,x⟩
def aqS(x:Value):Wd:=⟨.opq,x⟩
def cvT:Value->TW
 |.int k n=>.p false false (iY k n)
 |.bool b=>.p false false (je b)
 |.string s=>.p false false (SY s.data.toList)
 |.slice none 0 0=>.dw
 |v=>.p false false (aqS v)
def Wi:Value->TS
 |.agg cs=>bif cs.toList.all Value.oneCell' then .v (.agg (cs.toList.map cvT)) else .no
 |.tuple _=>.no
 |.func (.func f) ⟨[]⟩ ⟨[]⟩=>.v (.one (.clo f []))
 |v=>bif v.oneCell' then .v (.one (cvT v)) else .no
def jl.dh(st:jl):Operand->TS
 |.tmp t=>st.gs t
 |.const v=>Wi v
 |.func f=>.v (.one (.clo f []))
 |.global g=>match RE.G g with
  |some _=>.v (.one (.gl g))
  |none=>.no
structure rH where
 pre:Bool
 t:Ty
 val:Dt t
 dst:Dt t->TS
 aJ:Dt t->List (Nat×TO)
 new:List Nat
def rH.pure(x:TS):rH:={ pre:=true,t:=.bool,val:=false,dst:=λ_=>x,aJ:=λ_=>[],new:=[] }
def Yh(w:Wd):TS:=.v (.one (.p false false w))
def rH.calc(pre:Bool)(t:Ty)(x:Dt t):rH:={ pre,t,val:=x,dst:=λz=>Yh ⟨t,z⟩,aJ:=λ_=>[],new:=[] }
structure TA where
 a:Bool
 i:Bool
 e:Ty
 l:List (Dt e)
structure TH where
 a:Bool
 i:Bool
 e:Ty
 ak:List (Nat×Ty)
 l:List (Dt e)
def tyB(a b:Ty):Bool:=match Ty.eq a b with
 |some _=>true
 |none=>false
def uF(c:Nat):List (Nat×Ty)->Option Ty
 | []=>none
 |(k,t)::r=>bif Nat.beq c k then some t else uF c r
def aaN(e:Ty)(ak:List (Nat×Ty))(c:Nat)(e':Ty):Bool:=(match uF c ak with
 |some t=>tyB t e'
 |none=>false)&&(match (jw e)[c]? with
 |some (.sl t)=>tyB t e'
 |_=>false)
def MC(e:Ty)(whole:Bool)(x:Dt e)(off:Nat)(ps:List Wd):Dt e:=match whole with
 |true=>kP e ps
 |false=>kP e (aS (fZ e x) off ps)
def putRow(e:Ty)(l:List (Dt e))(n c:Nat)(w:Wd):List (Dt e):=List.set l n (MC e (Nat.beq 1 (size e)) (l.getD n (dflt e)) c [w])
def nT(o:Nat->TO)(g:Nat):Option TA:=match o g with
 |.arr _ a i e l=>some ⟨a,i,e,l⟩
 |.aN a i e ak l hole=>match hole with
  |none=>some ⟨a,i,e,l⟩
  |some (n,c,d)=>match o d with
   |.arr _ a' i' e' l'=>match aaN e ak c e' with
    |true=>some ⟨a||a',i||i',e,putRow e l n c (uD e' l')⟩
    |false=>none
   |_=>none
 |_=>none
def iZ:TO->List Nat
 |.aN _ _ _ _ _ hole=>match hole with
  |some (_,_,d)=>[d]
  |none=>[]
 |_=>[]
def MF(o:Nat->TO)(g:Nat):Option (Ty×Nat):=match o g with
 |.arr _ _ _ e l=>some (e,l.length)
 |.aN _ _ e _ l _=>some (e,l.length)
 |_=>none
def TW.toP(o:Nat->TO)(t:Ty):TW->Option (Dt t×Bool×Bool×List Nat)
 |.p a i w=>match w.BG t with
  |some x=>some (x,a,i,[])
  |none=>none
 |.dw=>match t with
  |.sl e=>some (([]:List (Dt e)),false,false,[])
  |_=>none
 |.own g=>match nT o g with
  |some ⟨a,i,e,l⟩=>match (uD e l).BG t with
   |some x=>some (x,a,i,iZ (o g)++[g])
   |none=>none
  |none=>none
 |.vw g lo hi=>match nT o g with
  |some ⟨a,i,e,l⟩=>match (uD e ((l.take hi.toNat).drop lo.toNat)).BG t with
   |some x=>some (x,a,i,iZ (o g)++[g])
   |none=>none
  |none=>none
 |_=>none
def qQ(o:Nat->TO):List Ty->List TW->Option (List Wd×Bool×Bool×List Nat)
 | [],[]=>some ([],false,false,[])
 |t::ts,x::xs=>match x.toP o t,qQ o ts xs with
  |some (y,a,i,gs),some (ys,a',i',gs')=>some (⟨t,y⟩::ys,a||a',i||i',gs++gs')
  |_,_=>none
 |_,_=>none
def TV.words:TV->List TW
 |.one x=>[x]
 |.agg xs=>xs
def lT(o:Nat->TO)(g:Nat):Nat×TO:=
 (g,match nT o g with
  |some ⟨a,i,e,l⟩=>.arr true a i e l
  |none=>o g)
def TV.fK(agg:Bool)(ws:List TW):TS:=match agg with
 |true=>.v (.agg ws)
 |false=>match ws with
  | [x]=>.v (.one x)
  |_=>.no
def TW.solid:TW->Bool
 |.no=>false
 |_=>true
def TV.solid:TV->Bool
 |.one x=>x.solid
 |.agg _=>true
def CZ(place:Nat->Option (Nat×Nat))(ws:List TW):List (Nat×TS)->Option (List TW)
 | []=>some ws
 |(n,.v x)::rest=>match place n with
  |some (off,size)=>bif Nat.beq x.words.length size&&Nat.ble (off+size) ws.length&&x.solid then CZ place (aS ws off x.words) rest else none
  |none=>none
 |_=>none
def TW.rows(o:Nat->TO)(e:Ty):TW->Option (List (Dt e)×Bool×Bool)
 |.p a i w=>match w.BG (.sl e) with
  |some l=>some (l,a,i)
  |none=>none
 |.dw=>some ([],false,false)
 |.own g=>match o g with
  |.arr _ a i e' l=>match (uD e' l).BG (.sl e) with
   |some l=>some (l,a,i)
   |none=>none
  |_=>none
 |.vw g lo hi=>match o g with
  |.arr _ a i e' l=>match (uD e' ((l.take hi.toNat).drop lo.toNat)).BG (.sl e) with
   |some l=>some (l,a,i)
   |none=>none
  |_=>none
 |_=>none
def S9(o:Nat->TO):TW->Option Int
 |.p _ _ ⟨.sl e,l⟩=>some (List.length (α:=Dt e) l)
 |.dw=>some 0
 |.own g=>match MF o g with
  |some (_,n)=>some n
  |none=>none
 |.vw g lo hi=>match MF o g with
  |some _=>some (hi.toNat-lo.toNat:Nat)
  |none=>none
 |_=>none
def TW.live(o:Nat->TO):TW->Bool
 |.box g _=>match o g with
  |.box _=>true
  |_=>false
 |.ep g _ _=>match MF o g with
  |some _=>true
  |none=>false
 |.sp _ _ _ _ _=>true
 |_=>false
def TW.shift(n:Nat):TW->TW
 |.box g off=>.box g (off+n)
 |.ep g k off=>.ep g k (off+n)
 |.sp a i t x off=>.sp a i t x (off+n)
 |x=>x
def lU(dflt:Int):Option TS->Option Int
 |none=>some dflt
 |some (.v (.one (.p _ _ ⟨.int .i64,x⟩)))=>some x
 |_=>none
def aqT(n:Int):Int:=0-n
def eqI(a b:Int):Bool:=decide (a=b)
def inB(n:Int)(len:Nat):Bool:=decide (0<=n)&&decide (n<len)
def Hf(lo hi:Int)(len:Nat):Bool:=decide (0<=lo)&&decide (lo<=hi)&&decide (hi<=(len:Int))
def JD(bytes:Nat)(n c:Int):Bool:=decide (0<=n)&&decide (n<=c)&&decide (bytes*c<=281474976710656)&&decide (c<=9223372036854775807)
def strOf(l:List Int):List UInt8:=l.map λn=>UInt8.ofNat n.toNat
def ane{α:Type}(lo hi:Int)(z:α)(l:List α):List α:=List.take lo.toNat l++List.replicate (hi.toNat-lo.toNat) z++List.drop (lo.toNat+(List.replicate (hi.toNat-lo.toNat) z).length) l
def akz(s:List UInt8):List Int:=s.map λb=>(b.toNat:Int)
def aaO(a b:Int):Int:=if b<a then b else a
def Eu(a b:Int):Int:=if b>a then b else a
def Wj(op:BinOp)(k k':IntKind)(a b:Int):Option (Bool×Wd):=
 match op with
 |.shl=>some (decide (0<=b),iY k (k.wrap (a*2 ^ min b.toNat k.bits)))
 |.shr=>some (decide (0<=b),iY k (a.fdiv (2 ^ min b.toNat k.bits)))
 |_=>match ac8 k k' with
  |none=>none
  |some _=>match op with
   |.add=>some (true,iY k (k.wrap (a+b)))
   |.sub=>some (true,iY k (k.wrap (a-b)))
   |.mul=>some (true,iY k (k.wrap (a*b)))
   |.quo=>some (!(decide (b=0)),iY k (k.wrap (a.tdiv b)))
   |.rem=>some (!(decide (b=0)),iY k (a.tmod b))
   |.and=>some (true,iY k (bits .and k a b))
   |.or=>some (true,iY k (bits .or k a b))
   |.xor=>some (true,iY k (bits .xor k a b))
   |.andNot=>some (true,iY k (bits .andNot k a b))
   |.eql=>some (true,je (decide (a=b)))
   |.neq=>some (true,je (!(decide (a=b))))
   |.lss=>some (true,je (decide (a<b)))
   |.leq=>some (true,je (decide (a<=b)))
   |.gtr=>some (true,je (decide (b<a)))
   |.geq=>some (true,je (decide (b<=a)))
   |_=>none
def C9(n m:Nat):Bool:=Nat.ble n (9223372036854775807-m)&&Nat.ble m 9223372036854775807
theorem oK{n m:Nat}:C9 n m=true↔n+m<=9223372036854775807:=by
 unfold C9;rw [Qf,Nat.ble_eq,Nat.ble_eq];omega
def Wn(op:BinOp)(a b:List UInt8):Option (Bool×Wd):=
 match op with
 |.add=>some (C9 a.length b.length,SY (a++b))
 |.eql=>some (true,je (a==b))
 |.neq=>some (true,je (!(a==b)))
 |.lss=>some (true,je (Op.bytesLess a b))
 |.leq=>some (true,je (Op.bytesLess a b||a==b))
 |.gtr=>some (true,je (!(Op.bytesLess a b||a==b)))
 |.geq=>some (true,je (!Op.bytesLess a b))
 |_=>none
def PD(op:BinOp)(a b:Bool):Option (Bool×Wd):=
 match op with
 |.eql=>some (true,je (a==b))
 |.neq=>some (true,je (a != b))
 |_=>none
def anf(k:TK)(op:BinOp)(x y:Wd):Option (Bool×Wd):=
 match k,x,y with
 |.int _,⟨.int k,a⟩,⟨.int k',b⟩=>Wj op k k' a b
 |.str,⟨.str,a⟩,⟨.str,b⟩=>Wn op a b
 |.bool,⟨.bool,a⟩,⟨.bool,b⟩=>PD op a b
 |_,_,_=>none
def unT(op:UnOp)(x:Wd):Option Wd:=
 match op,x with
 |.neg,⟨.int k,n⟩=>some (iY k (k.wrap (aqT n)))
 |.not,⟨.bool,b⟩=>some (je (!b))
 |_,_=>none
def ai2(k k':IntKind)(m n:Int):Option Bool:=
 match ac8 k k' with
 |some _=>some (decide (m=n))
 |none=>none
def eqStr(a b:List UInt8):Option Bool:=some (a==b)
def ang(a b:Bool):Option Bool:=some (a==b)
def akA(k:TK)(x y:Wd):Option Bool:=
 match k,x,y with
 |.int _,⟨.int a,m⟩,⟨.int b,n⟩=>ai2 a b m n
 |.str,⟨.str,a⟩,⟨.str,b⟩=>eqStr a b
 |.bool,⟨.bool,a⟩,⟨.bool,b⟩=>ang a b
 |_,_,_=>none
def Hg(tt:TT):Nat->List (Nat×TypeId)->List TW->List TW->Option Bool
 |_,[],[],[]=>some true
 |n,(off,t)::fs,.p _ _ x::xs,.p _ _ y::ys=>match tt t with
  |some i=>bif Nat.beq off n&&i.k.flat&&Nat.beq i.size 1 then match akA i.k x y,Hg tt (n+1) fs xs ys with
   |some b,some c=>some (b&&c)
   |_,_=>none
   else none
  |none=>none
 |_,_,_,_=>none
def rH.oL(c:Bool×Wd):rH:=.calc c.1 c.2.t c.2.x
def ac_:Wd->Value->Bool
 |⟨.int k,n⟩,.int k' n'=>(match ac8 k k' with | some _=>true | none=>false)&&eqI n n'
 |⟨.bool,b⟩,.bool b'=>BEq.beq (α:=Bool) b b'
 |⟨.str,s⟩,.string s'=>List.isEmpty (α:=UInt8) s&&s'.data.toList.isEmpty
 |⟨.sl e,l⟩,.slice none 0 0=>List.isEmpty (α:=Dt e) l
 |_,_=>false
def tX:List Wd->List Value->Bool
 | [],[]=>true
 |w::ws,v::vs=>ac_ w v&&tX ws vs
 |_,_=>false
def tpw(a i:Bool)(ws:List Wd):List TW:=ws.map (TW.p a i)
def PI(tt:TT)(ety:TypeId->Option Ty)(d:Nat)(o:Nat->TO)(sT:TypeId)(s x:TW):Option rH:=
 match tt sT with
 |some { k:=.slice e,.. }=>match tt e,ety e with
  |some ie,some et=>bif Nat.beq ie.bytes 0||!Nat.beq (size et) ie.size then none else match x.rows o et with
   |none=>none
   |some (new,a',i')=>
    let res (pre:Bool) (old:List (Dt et)) (a i:Bool) (kill:List (Nat×TO)):rH:=
     { pre:=pre&&decide ((old.length+new.length)*ie.bytes<=140737488355328),t:=.sl et,val:=List.append old new,dst:=λ_=>.v (.one (.own d)),aJ:=λy=>kill++[(d,.arr false (a||a') (i||i') et y)],new:=[d] }
    match s with
    |.dw=>some (res true [] false false [])
    |.own g=>match o g with
     |.arr false a i e' l=>match (uD e' l).BG (.sl et) with
      |some l=>bif Nat.beq g d then none else some (res true l a i [(g,.none)])
      |none=>none
     |_=>none
    |.vw g lo hi=>match o g with
     |.arr false a i e' l=>match (uD e' (l.take hi.toNat)).BG (.sl et) with
      |some l=>bif Nat.beq g d then none else some (res (decide (lo=0)) l a i [(g,.none)])
      |none=>none
     |_=>none
    |_=>none
  |_,_=>none
 |_=>none
def C_(e:Ty):Nat->List Wd->List (Dt e)
 |0,_=>[]
 |n+1,l=>kP e (l.take (size e))::C_ e n (l.drop (size e))
def JE{α:Type}(l:List α):Nat->List α
 |0=>[]
 |n+1=>l++JE l n
def Yi(tt:TT)(o:Nat->TO)(t:TypeId)(x h m:TS):Option rH:=
 match tt t,x,h,m with
 |some { k:=.slice e,.. },.v (.one (.own g)),.v (.one (.p _ _ ⟨.int .i64,h⟩)),.v (.one (.p _ _ ⟨.int .i64,m⟩))=>match tt e,o g with
  |some ie,.arr false _ _ e' l=>bif Nat.beq (size e') ie.size then some { pre:=Hf h m l.length,t:=.bool,val:=false,dst:=λ_=>.v (.one (.vw g 0 h)),aJ:=λ_=>[],new:=[] } else none
  |_,_=>none
 |some { k:=.slice e,.. },.v (.one .dw),.v (.one (.p _ _ ⟨.int .i64,h⟩)),.v (.one (.p _ _ ⟨.int .i64,m⟩))=>match tt e with
  |some _=>some { pre:=Hf h m 0,t:=.bool,val:=false,dst:=λ_=>.v (.one .dw),aJ:=λ_=>[],new:=[] }
  |none=>none
 |_,_,_,_=>none
def ada(tt:TT)(o:Nat->TO)(t:TypeId)(x:TS):Option rH:=
 match tt t,x with
 |some { k:=.slice e,.. },.v (.one (.vw g lo hi))=>match tt e,o g with
  |some ie,.arr false a i et l=>bif Nat.beq (size et) ie.size&&Nat.blt 0 ie.size then match qQ o (jw et) (ie.zero.map cvT) with
   |some (ps,false,false,[])=>some { pre:=Nat.blt lo.toNat hi.toNat,t:=.sl et,val:=ane lo hi (kP et ps) l,dst:=λ_=>.no,aJ:=λy=>[(g,.arr false a i et y)],new:=[] }
   |_=>none
   else none
  |_,_=>none
 |_,_=>none
def dS(tt:TT)(ety:TypeId->Option Ty)(d:Nat)(o:Nat->TO)(f:Operand->TS)(op:Op)(ty:TypeId):Option rH:=
 match op with
 |.move x | .assign x=>match f x with
  |.no=>none
  |s=>some (.pure s)
 |.pick c x y=>match f c with
  |.v (.one (.p _ _ ⟨.bool,b⟩))=>match f x,f y with
   |.v (.one (.p a i w)),.v (.one (.p a' i' w'))=>match w'.BG w.t with
    |some z=>some { pre:=true,t:=w.t,val:=bif b then w.x else z,dst:=λz=>.v (.one (.p (a||a') (i||i') ⟨w.t,z⟩)),aJ:=λ_=>[],new:=[] }
    |none=>none
   |x,y=>match (bif b then x else y) with
    |.no=>none
    |s=>some (.pure s)
  |_=>none
 |.alloc t=>match tt t with
  |some i=>some { pre:=true,t:=.bool,val:=false,dst:=λ_=>.v (.one (.box d 0)),aJ:=λ_=>[(d,.box (i.zero.map cvT))],new:=[d] }
  |none=>none
 |.box t x=>match tt t,f x with
  |some i,.v x=>bif Nat.beq x.words.length i.size&&x.solid then some { pre:=true,t:=.bool,val:=false,dst:=λ_=>.v (.one (.box d 0)),aJ:=λ_=>[(d,.box x.words)],new:=[d] } else none
  |_,_=>none
 |.build t parts=>match tt t with
  |some i=>bif i.known tt then match CZ (placeOf tt t) (i.zero.map cvT) (parts.toList.map λp=>(p.1,f p.2)) with
   |some ws=>some (.pure (.v (.agg ws)))
   |none=>none
   else none
  |none=>none
 |.buildSlice t n parts=>match tt t with
  |some { k:=.slice e,.. }=>match tt e,ety e with
   |some ie,some et=>match CZ (λm=>if m<n then some (m*ie.size,ie.size) else none) (JE (ie.zero.map cvT) n) (parts.toList.map λp=>(p.1,f p.2)) with
    |some ws=>match qQ o (JE (jw et) n) ws with
     |some (ps,a,i,gs)=>bif Nat.ble (n+n*ie.size) 16777216&&Nat.beq (size et) ie.size then
       some { pre:=true,t:=.sl et,val:=C_ et n ps,dst:=λ_=>.v (.one (.own d)),aJ:=λy=>gs.map (lT o)++[(d,.arr false a i et y)],new:=[d] } else none
     |none=>none
    |none=>none
   |_,_=>none
  |_=>none
 |.load t x=>match tt t,f x with
  |some i,.v (.one (.box g off))=>match o g with
   |.box ws=>bif Nat.ble (off+i.size) ws.length&&Nat.blt 0 i.size then some (.pure (TV.fK i.agg ((ws.drop off).take i.size))) else none
   |_=>none
  |some i,.v (.one (.ep g n off))=>match o g with
   |.arr _ a i' e l=>bif Nat.ble (off+i.size) (size e)&&Nat.blt 0 i.size&&tX (((fZ e (dflt e)).drop off).take i.size) i.zero then
     some { pre:=true,t:=e,val:=l.getD n.toNat (dflt e),dst:=λz=>TV.fK i.agg (tpw a i' (((fZ e z).drop off).take i.size)),aJ:=λ_=>[],new:=[] } else none
   |_=>none
  |some i,.v (.one (.sp a i' e x off))=>bif Nat.blt 0 i.size&&Nat.ble (off+i.size) (size e) then
    some (.pure (TV.fK i.agg (tpw a i' (((fZ e x).drop off).take i.size)))) else none
  |_,_=>none
 |.store t x y=>match tt t,f x,f y with
  |some i,.v (.one (.box g off)),.v y=>match o g with
   |.box ws=>bif Nat.ble (off+i.size) ws.length&&Nat.beq y.words.length i.size&&y.solid then
     some { pre:=true,t:=.bool,val:=false,dst:=λ_=>.no,aJ:=λ_=>[(g,.box (aS ws off y.words))],new:=[] } else none
   |_=>none
  |some i,.v (.one (.ep g n off)),.v y=>match o g with
   |.arr false a i' e l=>match qQ o (((jw e).drop off).take i.size) y.words with
    |some (ps,a',i'',gs)=>bif Nat.ble (off+i.size) (size e)&&Nat.beq y.words.length i.size&&y.solid&&!fJ g gs then
     some { pre:=true,t:=.sl e,val:=List.set l n.toNat (MC e (Nat.beq i.size (size e)) (l.getD n.toNat (dflt e)) off ps),dst:=λ_=>.no,aJ:=λz=>gs.map (lT o)++[(g,.arr false (a||a') (i'||i'') e z)],new:=[] } else none
    |none=>none
   |_=>none
  |_,_,_=>none
 |.nilCheck x=>match f x with
  |.v (.one x)=>bif x.live o then some (.pure (.v (.one x))) else none
  |_=>none
 |.binOp op t x y _=>match f x,f y with
  |.v (.one (.p _ _ x)),.v (.one (.p _ _ y))=>match tt t with
   |some i=>match anf i.k op x y with
    |some c=>some (.oL c)
    |none=>none
   |none=>none
  |.v (.agg xs),.v (.agg ys)=>match tt t with
   |some i=>match Hg tt 0 i.k.parts xs ys,agm op with
    |some b,some true=>bif i.eq then some (.oL (true,je b)) else none
    |some b,some false=>bif i.eq then some (.oL (true,je (!b))) else none
    |_,_=>none
   |none=>none
  |_,_=>none
 |.unOp op _ x=>match f x with
  |.v (.one (.p _ _ x))=>match unT op x with
   |some c=>some (.oL (true,c))
   |none=>none
  |_=>none
 |.convert s t x=>match tt s,tt t,f x with
  |some { k:=.int _,.. },some { k:=.int k,.. },.v (.one (.p _ _ ⟨.int _,x⟩))=>some (.calc true (.int k) (k.wrap x))
  |some { k:=.slice e,.. },some { k:=.str,.. },.v (.one x)=>match tt e with
   |some { k:=.int .u8,.. }=>match x.rows o (.int .u8) with
    |some (l,_,_)=>some (.calc true .str (strOf l))
    |none=>none
   |_=>none
  |some { k:=.str,.. },some { k:=.slice e,.. },.v (.one (.p _ _ ⟨.str,x⟩))=>match tt e with
   |some { k:=.int .u8,.. }=>some (.calc true (.sl (.int .u8)) (akz x))
   |_=>none
  |_,_,_=>none
 |.makeSlice t n c=>match tt t,f n,f c with
  |some { k:=.slice e,.. },.v (.one (.p _ _ ⟨.int .i64,n⟩)),.v (.one (.p _ _ ⟨.int .i64,c⟩))=>match tt e,ety e with
   |some ie,some et=>match qQ o (jw et) (ie.zero.map cvT) with
    |some (ps,false,false,[])=>bif Nat.blt 0 ie.size&&Nat.beq (size et) ie.size then
     some { pre:=JD ie.bytes n c,t:=.sl et,val:=List.replicate (Int.toNat n) (kP et ps),dst:=λ_=>.v (.one (.own d)),aJ:=λy=>[(d,.arr false false false et y)],new:=[d] } else none
    |_=>none
   |_,_=>none
  |_,_,_=>none
 |.slice t x lo hi none=>match tt t,f x with
  |some { k:=.slice e,.. },.v (.one x)=>match tt e,ety e,S9 o x with
   |some ie,some et,some len=>match lU 0 (lo.map f),lU len (hi.map f) with
    |some lo,some hi=>match x with
     |.own g=>match MF o g with
      |some (e',l)=>bif Nat.beq (size e') ie.size then
        some { pre:=Hf lo hi l,t:=.bool,val:=false,dst:=λ_=>.v (.one (.vw g lo hi)),aJ:=λ_=>[],new:=[] } else none
      |none=>none
     |.p a i w=>match w.BG (.sl et) with
      |some l=>bif Nat.beq (size et) ie.size then some { pre:=Hf lo hi (List.length (α:=Dt et) l),t:=.sl et,val:=List.drop lo.toNat (List.take (α:=Dt et) hi.toNat l),dst:=λz=>.v (.one (.p a i ⟨.sl et,z⟩)),aJ:=λ_=>[],new:=[] } else none
      |none=>none
     |.dw=>some { pre:=decide (lo=0)&&decide (hi=0),t:=.bool,val:=false,dst:=λ_=>.v (.one .dw),aJ:=λ_=>[],new:=[] }
     |_=>none
    |_,_=>none
   |_,_,_=>none
  |some { k:=.str,.. },.v (.one (.p _ _ ⟨.str,y⟩))=>match lU 0 (lo.map f),lU (List.length (α:=UInt8) y) (hi.map f) with
   |some lo,some hi=>some (.calc (Hf lo hi (List.length (α:=UInt8) y)) .str (List.drop lo.toNat (List.take (α:=UInt8) hi.toNat y)))
   |_,_=>none
  |_,_=>none
 |.slice t x none (some hi) (some mx)=>Yi tt o t (f x) (f hi) (f mx)
 |.fieldAddr t x n=>match tt t,placeOf tt t n,f x with
  |some { k:=.struct _,.. },some (off',sz'),.v (.one x)=>bif Nat.blt 0 sz'&&x.live o then some (.pure (.v (.one (x.shift off')))) else none
  |_,_,_=>none
 |.field t x n=>match tt t,f x with
  |some { k:=.struct fs,.. },.v (.agg ws)=>match fs[n]? with
   |some (off,u)=>match tt u with
    |some iu=>bif Nat.ble (off+iu.size) ws.length&&Nat.blt 0 iu.size then some (.pure (TV.fK iu.agg ((ws.drop off).take iu.size))) else none
    |none=>none
   |none=>none
  |_,_=>none
 |.indexAddr t x ix=>match tt t,f x,f ix with
  |some { k:=.slice e,.. },.v (.one x),.v (.one (.p _ _ ⟨.int _,n⟩))=>match tt e,ety e,x with
   |some ie,some et,.own g=>match MF o g with
    |some (e',l)=>bif Nat.beq (size e') ie.size then
      some { pre:=inB n l,t:=.bool,val:=false,dst:=λ_=>.v (.one (.ep g (Int.toNat n:Nat) 0)),aJ:=λ_=>[],new:=[] } else none
    |none=>none
   |some ie,some et,.vw g lo hi=>match MF o g with
    |some (e',_)=>bif Nat.beq (size e') ie.size then
      some { pre:=inB n (hi.toNat-lo.toNat),t:=.bool,val:=false,dst:=λ_=>.v (.one (.ep g (lo.toNat+Int.toNat n:Nat) 0)),aJ:=λ_=>[],new:=[] } else none
    |none=>none
   |some ie,some et,.p a i w=>match w.BG (.sl et) with
    |some l=>bif Nat.beq (size et) ie.size then some { pre:=inB n (List.length (α:=Dt et) l),t:=et,val:=List.getD (α:=Dt et) l (Int.toNat n) (dflt et),dst:=λz=>.v (.one (.sp a i et z 0)),aJ:=λ_=>[],new:=[] } else none
    |none=>none
   |_,_,_=>none
  |some { k:=.arr m e,.. },.v (.one (.gl g)),.v (.one (.p _ _ ⟨.int _,n⟩))=>match tt e,RE.G g with
   |some ie,some ⟨et,l⟩=>bif Nat.beq (size et) ie.size&&Nat.beq (List.length (α:=Dt et) l) m then some { pre:=inB n m,t:=et,val:=List.getD (α:=Dt et) l (Int.toNat n) (dflt et),dst:=λz=>.v (.one (.sp false false et z 0)),aJ:=λ_=>[],new:=[] } else none
   |_,_=>none
  |some { k:=.arr m e,.. },.v (.one x),.v (.one (.p _ _ ⟨.int _,n⟩))=>match tt e with
   |some ie=>bif inB n m&&x.live o then some (.pure (.v (.one (x.shift (Int.toNat n*ie.size))))) else none
   |none=>none
  |_,_,_=>none
 |.index t x ix=>match tt t,f x,f ix with
  |some { k:=.str,.. },.v (.one (.p _ _ ⟨.str,s⟩)),.v (.one (.p _ _ ⟨.int _,n⟩))=>
    some (.calc (inB n (List.length (α:=UInt8) s)) (.int .u8) ((List.getD (α:=UInt8) s (Int.toNat n) 0).toNat:Int))
  |_,_,_=>none
 |.range t x=>match tt t,f x with
  |some { k:=.str,.. },.v (.one (.p _ _ ⟨.str,s⟩))=>some { pre:=true,t:=.str,val:=s,dst:=λ_=>.v (.one (.nJ d)),aJ:=λz=>[(d,.it z 0)],new:=[d] }
  |_,_=>none
 |.extract t n=>match f t with
  |.jD xs=>match xs[n]? with
   |some x=>some (.pure (.v x))
   |none=>none
  |_=>none
 |.makeFunc (.func g) first caps=>bif Nat.beq first.size 0 then
   match caps.toList.mapM (λx=>match f x with | .v (.one w)=>some w | _=>none) with
   |some ws=>some (.pure (.v (.one (.clo g ws))))
   |none=>none
   else none
 |.call { callee:=.builtin .len,args,argTypes }=>match args.toList,argTypes.toList with
  | [x],[t]=>match tt t,f x with
   |some { k:=.slice _,.. },.v (.one x)=>match S9 o x with
    |some n=>some (.calc true (.int .i64) n)
    |none=>none
   |some { k:=.str,.. },.v (.one (.p _ _ ⟨.str,s⟩))=>some (.calc true (.int .i64) (List.length (α:=UInt8) s:Int))
   |_,_=>none
  |_,_=>none
 |.call { callee:=.builtin .append,args,argTypes }=>match args.toList,argTypes.toList with
  | [s,x],sT::xT::_=>match tt xT,f s,f x with
   |some { k:=.slice _,.. },.v (.one s),.v (.one x)=>PI tt ety d o sT s x
   |_,_,_=>none
  |_,_=>none
 |.call { callee:=.builtin .clear,args,argTypes }=>match args.toList,argTypes.toList with
  | [x],t::_=>ada tt o t (f x)
  |_,_=>none
 |.call { callee:=.builtin .min,args,.. }=>match args.toList with
  | [x,y]=>match f x,f y with
   |.v (.one (.p _ _ ⟨.int k,x⟩)),.v (.one (.p _ _ ⟨.int _,y⟩))=>some (.calc true (.int k) (aaO x y))
   |_,_=>none
  | [x,y,z]=>match f x,f y,f z with
   |.v (.one (.p _ _ ⟨.int k,x⟩)),.v (.one (.p _ _ ⟨.int _,y⟩)),.v (.one (.p _ _ ⟨.int _,z⟩))=>some (.calc true (.int k) (aaO (aaO x y) z))
   |_,_,_=>none
  |_=>none
 |.call { callee:=.builtin .max,args,.. }=>match args.toList with
  | [x,y]=>match f x,f y with
   |.v (.one (.p _ _ ⟨.int k,x⟩)),.v (.one (.p _ _ ⟨.int _,y⟩))=>some (.calc true (.int k) (Eu x y))
   |_,_=>none
  | [x,y,z]=>match f x,f y,f z with
   |.v (.one (.p _ _ ⟨.int k,x⟩)),.v (.one (.p _ _ ⟨.int _,y⟩)),.v (.one (.p _ _ ⟨.int _,z⟩))=>some (.calc true (.int k) (Eu (Eu x y) z))
   |_,_,_=>none
  |_=>none
 |_=>none
end
end Go.Fg

namespace Go.Fg
open Go.Fw
section
variable [RE] {o:Nat->TO} {tt:TT} {ety:TypeId->Option Ty}
theorem eU(e:Ty)(l:List (Dt e)):(aH e l).length=l.length:=by simp [aH]
theorem sD(e:Ty)(l:List (Dt e))(lo hi:Int):((aH e l).take (P.nat (.int .i64 hi))).drop (P.nat (.int .i64 lo))=aH e ((l.take hi.toNat).drop lo.toNat):=by
 simp [aH,P.nat,P.num,V1,Wt]
theorem qm(e:Ty)(l:List (Dt e))(hi:Int):(aH e l).take (P.nat (.int .i64 hi))=aH e (l.take hi.toNat):=by
 simp [aH,P.nat,P.num,V1]
theorem iC{g:Nat}{fz a i:Bool}{e:Ty}{l:List (Dt e)}(h:o g=.arr fz a i e l):bU o g=.arr fz a i (size e) (aH e l):=by simp [bU,h,dU]
theorem oM{g:Nat}{ws:List TW}(h:o g=.box ws):bU o g=.box (ws.map bV):=by simp [bU,h,dU]
theorem pI{g n:Nat}{e:Ty}(h:MF o g=some (e,n)):(bU o g).dim=some (size e,n):=by
 unfold MF at h;unfold bU;cases ho:o g with
 |arr fz a i e l=>rw [ho] at h;cases h;simp [dU,O.dim,aH]
 |aN a i e ak l hole=>rw [ho] at h;cases h;simp [dU,O.dim,aH]
 |_=>rw [ho] at h;cases h
theorem yB{a b:Ty}(h:tyB a b=true):a=b:=by
 unfold tyB at h;split at h
 .rename_i p _;exact p.down
 .cases h
theorem Ew{c:Nat} :∀{ak:List (Nat×Ty)} {t:Ty},uF c ak=some t->(iL ak).lookup c=some (size t)
 | [],t,h=>by cases h
 |(k,u)::r,t,h=>by
  simp only [uF] at h;simp only [iL,Q6,List.lookup];by_cases e:c=k
  .subst e;have:Nat.beq c c=true:=by simp
   rw [this] at h;simp only [cond_true,Q0] at h;subst h;simp
  .have e1:Nat.beq c k=false:=by cases hb:Nat.beq c k with | false=>rfl | true=>exact absurd (Q4 hb) e
   have e2:(c==k)=false:=by simpa using e
   rw [e1] at h;rw [e2];exact Ew h
theorem JG{c:Nat} :∀{ak:List (Nat×Ty)},uF c ak=none->(iL ak).lookup c=none
 | [],h=>rfl
 |(k,u)::r,h=>by
  simp only [uF] at h;simp only [iL,Q6,List.lookup];by_cases e:c=k
  .subst e;have:Nat.beq c c=true:=by simp
   rw [this] at h;cases h
  .have e1:Nat.beq c k=false:=by cases hb:Nat.beq c k with | false=>rfl | true=>exact absurd (Q4 hb) e
   have e2:(c==k)=false:=by simpa using e
   rw [e1] at h;rw [e2];exact JG h
theorem uG{e e':Ty}{ak:List (Nat×Ty)}{c:Nat}(h:aaN e ak c e'=true):(iL ak).lookup c=some (size e')/\(jw e)[c]?=some (.sl e')/\c<size e:=by
 simp only [aaN,Qf] at h;obtain ⟨h1,h2⟩:=h;have k1:uF c ak=some e':=by
  split at h1
  .rename_i t ht;rw [ht,yB h1]
  .cases h1
 have k2:(jw e)[c]?=some (.sl e'):=by
  split at h2
  .rename_i t ht;rw [ht,yB h2]
  .cases h2
 exact ⟨Ew k1,k2,by have:=(Q3.1 k2).1;rwa [kC] at this⟩
theorem zZ{α β:Type}(f:α->β)(l:List α)(off:Nat)(new:List α):(aS l off new).map f=aS (l.map f) off (new.map f):=by
 simp [aS,V1,Wt]
theorem adb{e:Ty}{x:Dt e}{off:Nat}{ps:List Wd}(hty:ps.map (·.t)=((jw e).drop off).take ps.length)(hlt:off+ps.length<=size e):lF e (MC e (Nat.beq ps.length (size e)) x off ps)=aS (lF e x) off (ps.map dn):=by
 have hty':(aS (fZ e x) off ps).map (·.t)=jw e:=by
  have e0:jw e=(jw e).take off++(((jw e).drop off).take ps.length++(jw e).drop (off+ps.length)):=by
   rw [<-List.drop_drop,Jx,Jx]
  simp only [aS,X2,V1,Wt,uz,hty,Wb];exact e0.symm
 unfold MC;cases hc:Nat.beq ps.length (size e) with
 |true=>
  have hc:=Q4 hc;have h0:off=0:=by omega
  subst h0;have e2:aS (fZ e x) 0 ps=ps:=by
   simp only [aS,List.take_zero,Kj,Wo];rw [List.drop_of_length_le (by rw [qB];omega),K7]
  have e3:aS (lF e x) 0 (ps.map dn)=ps.map dn:=by rw [iy,<-zZ,e2]
  rw [e2] at hty';rw [e3];exact su hty'
 |false=>
  simp only;rw [su hty',zZ,<-iy]
theorem Gm{e:Ty}{l:List (Dt e)}{n off:Nat}{ps:List Wd}(hty:ps.map (·.t)=((jw e).drop off).take ps.length)(hlt:off+ps.length<=size e) :
  aH e (List.set l n (MC e (Nat.beq ps.length (size e)) (l.getD n (dflt e)) off ps))=(aH e l).set n (aS ((aH e l).getD n []) off (ps.map dn)):=by
 have e0 :∀x,aH e (List.set l n x)=(aH e l).set n (lF e x):=λx=>by simp [aH,List.map_set]
 rw [e0];by_cases hn:n<l.length
 .have e1:(aH e l).getD n []=lF e (l.getD n (dflt e)):=by simp [aH,List.getD_eq_getElem?_getD,hn]
  rw [e1,adb hty hlt]
 .have e1 :∀z,(aH e l).set n z=aH e l:=λz=>List.set_eq_of_length_le (by rw [eU];omega);rw [e1,e1]
theorem AU{e e':Ty}{l:List (Dt e)}{n c:Nat}{l':List (Dt e')}(hc:(jw e)[c]?=some (.sl e')):aH e (putRow e l n c (uD e' l'))=jo (aH e l) n c (P.fU (size e') (aH e' l')):=by
 have hlt:c<size e:=by have:=(Q3.1 hc).1;rwa [kC] at this
 have:=Gm (e:=e) (l:=l) (n:=n) (off:=c) (ps:=[uD e' l']) (by
  show [Ty.sl e']=((jw e).drop c).take 1;have hlt':c<(jw e).length:=by rw [kC];exact hlt
  rw [v8 hlt'];rw [Q2 hlt'] at hc;simp only [Q0] at hc;rw [hc];rfl) (by simp only [ZD];omega)
 exact this
theorem oN{g:Nat}{a i:Bool}{e:Ty}{l:List (Dt e)}(h:nT o g=some ⟨a,i,e,l⟩):plainO (bU o) g=some (a,i,size e,aH e l)/\(bU o g).names=iZ (o g):=by
 unfold nT at h;cases ho:o g with
 |arr fz a' i' e' l'=>
  rw [ho] at h;cases h;have:=iC ho;exact ⟨by simp [plainO,this],by rw [this];rfl⟩
 |aN a0 i0 e0 ak l0 hole=>
  rw [ho] at h;have hg:bU o g=.aN a0 i0 (size e0) (iL ak) (aH e0 l0) hole:=by simp [bU,ho,dU]
  rcases hole with _ | ⟨n,c,d⟩
  .cases h;exact ⟨by simp [plainO,hg],by rw [hg];rfl⟩
  .simp only at h;cases hd:o d with
   |arr fz a' i' e' l'=>
    rw [hd] at h;simp only at h;split at h
    .rename_i hc;cases h;obtain ⟨k1,k2,k3⟩:=uG hc;refine ⟨?_,by rw [hg];rfl⟩;simp only [plainO,hg,iC hd];rw [if_pos ⟨k1,k3⟩,AU k2]
    .cases h
   |_=>rw [hd] at h;cases h
 |_=>rw [ho] at h;cases h
theorem oO{e:Ty}{l:List (Dt e)}{t:Ty}{x:Dt t}(h:(uD e l).BG t=some x) :∃h:Ty.sl e=t,x=h▸l:=by
 have:=h_ h;unfold uD at this;cases this;exact ⟨rfl,rfl⟩
theorem PK{t:Ty}{x:TW}{y:Dt t}{a i:Bool}{gs:List Nat}(h:x.toP o t=some (y,a,i,gs)):(bV x).toP (bU o)=some (dn ⟨t,y⟩,a,i,gs):=by
 cases x with
 |p a' i' w=>
  simp only [TW.toP] at h;split at h
  .rename_i x hx;simp only [Q0,Q1] at h;obtain ⟨rfl,rfl,rfl,rfl⟩:=h;rw [h_ hx];rfl
  .cases h
 |dw=>
  simp only [TW.toP] at h;split at h
  .simp only [Q0,Q1] at h;obtain ⟨rfl,rfl,rfl,rfl⟩:=h;rfl
  .cases h
 |own g=>
  simp only [TW.toP] at h;split at h
  .rename_i a' i' e l hg;split at h
   .rename_i z hz;simp only [Q0,Q1] at h;obtain ⟨rfl,rfl,rfl,rfl⟩:=h;rw [<-h_ hz];obtain ⟨k1,k2⟩:=oN hg;simp only [bV,W.toP,k1,k2];rfl
   .cases h
  .cases h
 |vw g lo hi=>
  simp only [TW.toP] at h;split at h
  .rename_i a' i' e l hg;split at h
   .rename_i z hz;simp only [Q0,Q1] at h;obtain ⟨rfl,rfl,rfl,rfl⟩:=h;rw [<-h_ hz];obtain ⟨k1,k2⟩:=oN hg;simp only [bV,W.toP,k1,k2,sD];rfl
   .cases h
  .cases h
 |_=>simp [TW.toP] at h
theorem yC :∀{ts:List Ty} {xs:List TW} {ys:List Wd} {a i:Bool} {gs:List Nat},qQ o ts xs=some (ys,a,i,gs)->sO (bU o) (xs.map bV)=some (ys.map dn,a,i,gs)/\ys.map (·.t)=ts
 | [],[],ys,a,i,gs,h=>by
  simp only [qQ,Q0,Q1] at h;obtain ⟨rfl,rfl,rfl,rfl⟩:=h;exact ⟨rfl,rfl⟩
 | [],x::xs,ys,a,i,gs,h=>by simp [qQ] at h
 |t::ts,[],ys,a,i,gs,h=>by simp [qQ] at h
 |t::ts,x::xs,ys,a,i,gs,h=>by
  simp only [qQ] at h;split at h
  .rename_i h1 h2;simp only [Q0,Q1] at h;obtain ⟨rfl,rfl,rfl,rfl⟩:=h;obtain ⟨k1,k2⟩:=yC h2;refine ⟨?_,by simp only [Q6,k2]⟩;simp only [Q6,sO,PK h1,k1]
  .cases h
def iI(l:List (Nat×TO)):List (Nat×O):=l.map λp=>(p.1,dU p.2)
def Pl(o:Nat->TO)(gs:List Nat):Prop :=∀g∈gs,∃p,nT o g=some p
theorem Pl.append{a b:List Nat}(h:Pl o a)(h':Pl o b):Pl o (a++b):=λg hg=>by
 rcases Xs.1 hg with x | x
 .exact h g x
 .exact h' g x
theorem Pl.nil:Pl o []:=λg hg=>by cases hg
theorem Nz{g:Nat}{p:TA}(h:nT o g=some p):Pl o (iZ (o g)++[g]):=by
 refine Pl.append (λd hd=>?_) (λg' hg'=>by rw [QP] at hg';subst hg';exact ⟨p,h⟩);unfold nT at h;cases ho:o g with
 |aN a i e ak l hole=>
  rw [ho] at h hd;rcases hole with _ | ⟨n,c,d'⟩
  .cases hd
  .simp only [iZ,QP] at hd;subst hd;simp only at h;cases hod:o d with
   |arr fz a' i' e' l'=>exact ⟨⟨a',i',e',l'⟩,by simp only [nT,hod]⟩
   |_=>rw [hod] at h;cases h
 |_=>rw [ho] at hd;cases hd
theorem Wp{t:Ty}{x:TW}{y:Dt t}{a i:Bool}{gs:List Nat}(h:x.toP o t=some (y,a,i,gs)):Pl o gs:=by
 cases x with
 |p a' i' w=>
  simp only [TW.toP] at h;split at h
  .simp only [Q0,Q1] at h;obtain ⟨_,_,_,rfl⟩:=h;exact Pl.nil
  .cases h
 |dw=>
  simp only [TW.toP] at h;split at h
  .simp only [Q0,Q1] at h;obtain ⟨_,_,_,rfl⟩:=h;exact Pl.nil
  .cases h
 |own g=>
  simp only [TW.toP] at h;split at h
  .rename_i hg;split at h
   .simp only [Q0,Q1] at h;obtain ⟨_,_,_,rfl⟩:=h;exact Nz hg
   .cases h
  .cases h
 |vw g lo hi=>
  simp only [TW.toP] at h;split at h
  .rename_i hg;split at h
   .simp only [Q0,Q1] at h;obtain ⟨_,_,_,rfl⟩:=h;exact Nz hg
   .cases h
  .cases h
 |_=>simp [TW.toP] at h
theorem PO :∀{ts:List Ty} {xs:List TW} {ys:List Wd} {a i:Bool} {gs:List Nat},qQ o ts xs=some (ys,a,i,gs)->Pl o gs
 | [],[],ys,a,i,gs,h=>by simp only [qQ,Q0,Q1] at h;obtain ⟨_,_,_,rfl⟩:=h;exact Pl.nil
 | [],x::xs,ys,a,i,gs,h=>by simp [qQ] at h
 |t::ts,[],ys,a,i,gs,h=>by simp [qQ] at h
 |t::ts,x::xs,ys,a,i,gs,h=>by
  simp only [qQ] at h;split at h
  .rename_i h1 h2;simp only [Q0,Q1] at h;obtain ⟨_,_,_,rfl⟩:=h;exact (Wp h1).append (PO h2)
  .cases h
theorem JH{g:Nat}(h :∃p,nT o g=some p):Fw.aU (bU o) g=((lT o g).1,dU (lT o g).2):=by
 obtain ⟨⟨a,i,e,l⟩,hp⟩:=h;simp only [Fw.aU,lT,hp,(oN hp).1];rfl
theorem pJ{gs:List Nat}(h:Pl o gs):gs.map (Fw.aU (bU o))=iI (gs.map (lT o)):=by
 simp only [iI,UI];exact ZS λg hg=>JH (h g hg)
theorem uH(x:TV):(jS x).words=x.words.map bV:=by cases x<;>rfl
theorem uI(x:TV)(h:x.solid=true):(jS x).solid=true:=by
 cases x with
 |one x=>cases x<;>first | rfl | (simp [TV.solid,TW.solid] at h)
 |agg xs=>rfl
theorem lG(agg:Bool)(ws:List TW):bf (TV.fK agg ws)=V.fK agg (ws.map bV):=by
 cases agg with
 |true=>rfl
 |false=>
  match ws with
  | []=>rfl
  | [x]=>rfl
  |x::y::ws=>rfl
theorem qo{α β:Type}(f:α->β)(l:List α)(off:Nat)(new:List α):(aS l off new).map f=aS (l.map f) off (new.map f):=by
 simp [aS,V1,Wt]
theorem Dc{place:Nat->Option (Nat×Nat)} :∀{ps:List (Nat×TS)} {ws r:List TW},CZ place ws ps=some r->mF place (ws.map bV) (ps.map λp=>(p.1,bf p.2))=some (r.map bV)
 | [],ws,r,h=>by simp only [CZ,Q0] at h;subst h;rfl
 |(n,.v x)::ps,ws,r,h=>by
  simp only [CZ] at h;split at h
  .rename_i off size hp;cases hb:(Nat.beq x.words.length size&&Nat.ble (off+size) ws.length&&x.solid) with
   |false=>rw [hb] at h;cases h
   |true=>
    rw [hb,cond_true] at h;simp only [Qf] at hb;have h1:=Q4 hb.1.1;have h2:=W3 hb.1.2;have ih:=Dc h;rw [qo] at ih;simp only [Q6,bf,mF,hp,uH,W7];rw [if_pos ⟨h1,h2,uI x hb.2⟩];exact ih
  .cases h
 |(n,.jD xs)::ps,ws,r,h=>by simp [CZ] at h
 |(n,.no)::ps,ws,r,h=>by simp [CZ] at h
theorem agD(sz:Nat)(l:List (List P)):(P.fU sz l).Vx sz:=by cases l<;>simp [P.fU,P.Vx]
theorem JI(e:Ty)(l:List (Dt e)):(dn ⟨.sl e,l⟩).Vx (size e):=agD _ _
theorem S_{e:Ty}{x:TW}{l:List (Dt e)}{a i:Bool}(h:x.rows o e=some (l,a,i)) :∃ask,(bV x).rows (bU o) (size e)=some (ask,aH e l,a,i)/\ask:=by
 cases x with
 |p a' i' w=>
  simp only [TW.rows] at h;split at h
  .rename_i y hy;simp only [Q0,Q1] at h;obtain ⟨rfl,rfl,rfl⟩:=h;rw [h_ hy];exact ⟨(dn ⟨.sl e,l⟩).Vx (size e),by simp only [bV,W.rows,jB],JI _ _⟩
  .cases h
 |dw=>
  simp only [TW.rows,Q0,Q1] at h;obtain ⟨rfl,rfl,rfl⟩:=h;exact ⟨_,rfl,trivial⟩
 |own g=>
  simp only [TW.rows] at h;split at h
  .rename_i fz a' i' e' l' hg;split at h
   .rename_i z hz;simp only [Q0,Q1] at h;obtain ⟨rfl,rfl,rfl⟩:=h;obtain ⟨he,hz⟩:=oO hz;cases he;subst hz;exact ⟨True,by simp only [bV,W.rows,iC hg,if_true],trivial⟩
   .cases h
  .cases h
 |vw g lo hi=>
  simp only [TW.rows] at h;split at h
  .rename_i fz a' i' e' l' hg;split at h
   .rename_i z hz;simp only [Q0,Q1] at h;obtain ⟨rfl,rfl,rfl⟩:=h;obtain ⟨he,hz⟩:=oO hz;cases he;subst hz;exact ⟨True,by simp only [bV,W.rows,iC hg,if_true,sD],trivial⟩
   .cases h
  .cases h
 |_=>simp [TW.rows] at h
theorem Wq(sz:Nat)(l:List (List P)):(P.fU sz l).isSlice:=by cases l<;>simp [P.fU,P.isSlice]
theorem akB(sz:Nat)(l:List (List P)):(P.fU sz l).len=.int .i64 l.length:=by cases l<;>rfl
theorem agE(e:Ty)(l:List (Dt e)):(dn ⟨.sl e,l⟩).len=.int .i64 l.length:=by rw [H6,akB,eU]
theorem Yj{x:TW}{n:Int}(h:S9 o x=some n) :∃ask,lenOf (bU o) (bV x)=some (ask,.int .i64 n)/\ask:=by
 cases x with
 |p a i w=>
  obtain ⟨t,x⟩:=w;cases t<;>simp only [S9] at h<;>try (cases h;done)
  rename_i e;simp only [Q0] at h;subst h;refine ⟨(dn ⟨.sl e,x⟩).isSlice,?_,Wq _ _⟩;have e1:(dn ⟨.sl e,x⟩).len=.int .i64 (List.length (α:=Dt e) x):=agE e x;simp only [bV,lenOf];rw [e1]
 |dw=>simp only [S9,Q0] at h;subst h;exact ⟨_,rfl,trivial⟩
 |own g=>
  simp only [S9] at h;split at h
  .rename_i hg;simp only [Q0] at h;subst h;exact ⟨True,by simp only [bV,lenOf,pI hg],trivial⟩
  .cases h
 |vw g lo hi=>
  simp only [S9] at h;split at h
  .rename_i hg;simp only [Q0] at h;subst h;rename_i x;obtain ⟨e,n⟩:=x;exact ⟨True,by simp only [bV,lenOf,pI hg,P.nat,P.num],trivial⟩
  .cases h
 |_=>simp [S9] at h
theorem JJ{x:TW}(h:x.live o=true):(bV x).live (bU o)=true:=by
 cases x with
 |box g off=>
  simp only [TW.live] at h;split at h
  .rename_i hg;simp only [bV,W.live,oM hg]
  .cases h
 |ep g n off=>
  simp only [TW.live] at h;split at h
  .rename_i x hg;obtain ⟨e,n⟩:=x;simp only [bV,W.live,pI hg];rfl
  .cases h
 |sp=>rfl
 |_=>simp [TW.live] at h
theorem NC(n:Nat)(x:TW):bV (x.shift n)=(bV x).shift n:=by cases x<;>simp [TW.shift,bV,W.shift]
theorem ade(v:Value):bV (cvT v)=cv v:=by
 unfold cvT;split
 .rfl
 .rfl
 .rfl
 .rfl
 .rename_i x h1 h2 h3 h4;show W.p false false (P.opq v)=cv v;unfold cv;split
  .exact (h1 _ _ rfl).elim
  .exact (h2 _ rfl).elim
  .exact (h3 _ rfl).elim
  .exact (h4 rfl).elim
  .rfl
theorem sF(l:List Value):(l.map cvT).map bV=l.map cv:=by
 rw [UI];exact ZS λv _=>ade v
theorem aaP(v:Value):bf (Wi v)=vI v:=by
 unfold Wi;split
 .rename_i cs;unfold vI;have e:(cs.toList.map cvT).map bV=cs.toList.map cv:=sF _;cases h:cs.toList.all Value.oneCell'
  .simp only [h,cond_false,W4,if_false];rfl
  .simp only [h,cond_true,if_true,bf,jS,e]
 .rfl
 .simp only [bf,jS,bV,nS];rfl
 .rename_i x h1 h2 h3;have e:vI v=if v.oneCell'=true then .v (.one (cv v)) else .no:=by
   unfold vI;split
   .exact (h1 _ rfl).elim
   .exact (h2 _ rfl).elim
   .exact (h3 _ rfl).elim
   .rfl
  rw [e];cases h:v.oneCell'
  .simp only [cond_false,W4,if_false];rfl
  .simp only [cond_true,if_true,bf,jS,ade]
theorem lH(st:jl)(x:Operand):(aV st).dh x=bf (st.dh x):=by
 cases x with
 |tmp t=>rfl
 |const v=>exact (aaP v).symm
 |func f=>simp [St.dh,jl.dh,bf,jS,bV,nS]
 |global g=>
  simp only [Fw.St.dh,jl.dh,ai0];cases RE.G g<;>rfl
end
end Go.Fg

namespace Go.Fg
open Go.Fw
section
variable [RE] {o:Nat->TO} {tt:TT} {ety:TypeId->Option Ty} {d:Nat} {f:Operand->TS} {ty:TypeId}
structure fO(r:rH)(r':BL):Prop where
 pre:r.pre=true->r'.pre
 dst:r'.dst r'.val=bf (r.dst r.val)
 aJ:r'.aJ r'.val=iI (r.aJ r.val)
 new:r'.new=r.new
def ig(tt:TT)(ety:TypeId->Option Ty)(d:Nat)(o:Nat->TO)(f:Operand->TS)(op:Op)(ty:TypeId):Prop:=
 ∀r,dS tt ety d o f op ty=some r->∃r',kernel tt d (bU o) (λx=>bf (f x)) op ty=some r'/\fO r r'
def anh(r:rH)(r':BL):Prop:=(r.pre=true->fO r r')/\r'.new=r.new
theorem fO.toC{r:rH}{r':BL}(h:fO r r'):anh r r':=⟨λ_=>h,h.new⟩
def adf(tt:TT)(ety:TypeId->Option Ty)(d:Nat)(o:Nat->TO)(f:Operand->TS)(op:Op)(ty:TypeId):Prop:=
 ∀r,dS tt ety d o f op ty=some r->∃r',kernel tt d (bU o) (λx=>bf (f x)) op ty=some r'/\anh r r'
theorem ig.toC{tt:TT}{ety:TypeId->Option Ty}{d:Nat}{o:Nat->TO}{f:Operand->TS}{op:Op}{ty:TypeId}(h:ig tt ety d o f op ty):adf tt ety d o f op ty:=λr hr=>
 let ⟨r',h1,h2⟩:=h r hr
 ⟨r',h1,h2.toC⟩
theorem fO.pure(x:TS):fO (.pure x) (.pure (bf x)):=⟨λ_=>trivial,rfl,rfl,rfl⟩
theorem PU{x:TS}(h:bf x=.no):x=.no:=by cases x<;>first | rfl | cases h
theorem agF(x:Operand):ig tt ety d o f (.move x) ty:=by
 intro r h;simp only [dS] at h;split at h
 .cases h
 .rename_i s hs;simp only [Q0] at h;subst h;refine ⟨.pure (bf (f x)),?_,fO.pure _⟩;simp only [kernel];split
  .rename_i e;exact (hs (PU e)).elim
  .rfl
theorem aaQ(x:Operand):ig tt ety d o f (.assign x) ty:=by
 intro r h;simp only [dS] at h;split at h
 .cases h
 .rename_i s hs;simp only [Q0] at h;subst h;refine ⟨.pure (bf (f x)),?_,fO.pure _⟩;simp only [kernel];split
  .rename_i e;exact (hs (PU e)).elim
  .rfl
theorem adg{x:TS}{a i:Bool}{y:P}(h:bf x=.v (.one (.p a i y))) :∃w,x=.v (.one (.p a i w))/\dn w=y:=by
 cases x with
 |v x=>cases x with
  |one x=>cases x<;>simp [bf,jS,bV] at h<;>exact ⟨_,by rw [h.1,h.2.1],h.2.2⟩
  |agg xs=>cases h
 |_=>cases h
theorem agG(c x y:Operand):ig tt ety d o f (.pick c x y) ty:=by
 intro r h;simp only [dS] at h;split at h
 .rename_i a0 i0 b hc;change Bool at b;have hc':bf (f c)=.v (.one (.p a0 i0 (.bool b))):=by rw [hc];rfl
  split at h
  .rename_i a i w a' i' w' hx hy;split at h
   .rename_i z hz;simp only [Q0] at h;subst h;have hx':bf (f x)=.v (.one (.p a i (dn w))):=by rw [hx];rfl
    have hy':bf (f y)=.v (.one (.p a' i' (dn w'))):=by rw [hy];rfl
    simp only [kernel,hc',hx',hy'];refine ⟨_,rfl,⟨λ_=>trivial,?_,rfl,rfl⟩⟩;have e:=h_ hz;rw [e];cases b<;>rfl
   .cases h
  .rename_i hno;have eb:(bif b then bf (f x) else bf (f y))=bf (bif b then f x else f y):=by cases b<;>rfl
   split at h
   .cases h
   .rename_i s hs;simp only [Q0] at h;subst h;refine ⟨.pure (bf (bif b then f x else f y)),?_,fO.pure _⟩;simp only [kernel,hc'];split
    .rename_i a1 i1 x1 a2 i2 y1 h1 h2;obtain ⟨w1,e1,_⟩:=adg h1;obtain ⟨w2,e2,_⟩:=adg h2;exact (hno _ _ _ _ _ _ e1 e2).elim
    .rw [eb];split
     .rename_i e;exact (hs (PU e)).elim
     .rfl
 .cases h
theorem bM{α:Type}{b:Bool}{x:Option α}{y:α}(h:(bif b then x else none)=some y):b=true/\x=some y:=by
 cases b
 .cases h
 .exact ⟨rfl,h⟩
theorem adh(t:TypeId):ig tt ety d o f (.alloc t) ty:=by
 intro r h;simp only [dS] at h;split at h
 .rename_i i hi;simp only [Q0] at h;subst h;simp only [kernel,hi];refine ⟨_,rfl,⟨λ_=>trivial,rfl,?_,rfl⟩⟩;simp only [iI,Q6,WF,dU,sF]
 .cases h
theorem akC(t:TypeId)(x:Operand):ig tt ety d o f (.box t x) ty:=by
 intro r h;simp only [dS] at h;split at h
 .rename_i i x' hi hx;obtain ⟨hb,h⟩:=bM h;simp only [Q0] at h;subst h;simp only [Qf] at hb;simp only [kernel,hi,hx,bf,uH,W7];rw [if_pos ⟨Q4 hb.1,uI _ hb.2⟩];exact ⟨_,rfl,⟨λ_=>trivial,rfl,rfl,rfl⟩⟩
 .cases h
theorem Ey(ps:List (Nat×Operand)):(ps.map λp=>(p.1,bf (f p.2)))=(ps.map λp=>(p.1,f p.2)).map λp=>(p.1,bf p.2):=by
 rw [UI];rfl
theorem adi(t:TypeId)(ps:Array (Nat×Operand)):ig tt ety d o f (.build t ps) ty:=by
 intro r h;simp only [dS] at h;split at h
 .rename_i i hi;obtain ⟨hb,h⟩:=bM h;split at h
  .rename_i ws hw;simp only [Q0] at h;subst h;have:=Dc hw;rw [sF] at this;simp only [kernel,hi,hb,if_true,Ey,this];exact ⟨_,rfl,fO.pure _⟩
  .cases h
 .cases h
theorem JK{α β:Type}(g:α->β)(l:List α) :∀n,(JE l n).map g=fV (l.map g) n
 |0=>rfl
 |n+1=>by simp [JE,fV,JK g l n]
theorem AV(e:Ty) :∀(n:Nat) (ws:List Wd),ws.map (·.t)=JE (jw e) n->aH e (C_ e n ws)=chunks (size e) n (ws.map dn)
 |0,ws,h=>rfl
 |n+1,ws,h=>by
  have h1:(ws.take (size e)).map (·.t)=jw e:=by
   rw [V1,h,JE,<-kC,Ka]
  have h2:(ws.drop (size e)).map (·.t)=JE (jw e) n:=by
   rw [Wt,h,JE,<-kC,UP]
  simp only [C_,aH,Q6,chunks];rw [su h1,V1];congr 1;rw [<-Wt];exact AV e n _ h2
theorem lI(a b:List (Nat×TO)):iI (a++b)=iI a++iI b:=by simp [iI]
theorem MG(t:TypeId)(n:Nat)(ps:Array (Nat×Operand)):ig tt ety d o f (.buildSlice t n ps) ty:=by
 intro r h;simp only [dS] at h;split at h
 .rename_i e i1 i2 i3 ht;split at h
  .rename_i ie et he het;split at h
   .rename_i ws hw;split at h
    .rename_i qs a i gs hp;obtain ⟨hb,h⟩:=bM h;simp only [Q0] at h;subst h;simp only [Qf] at hb;have hsz:=Q4 hb.2;have:=Dc hw;rw [JK,sF] at this;obtain ⟨k1,k2⟩:=yC hp;simp only [kernel,ht,he,Ey,this,k1];rw [if_pos (W3 hb.1)];refine ⟨_,rfl,⟨λ_=>trivial,rfl,?_,rfl⟩⟩;simp only [lI,<-pJ (PO hp)];congr 1;simp only [P.list,iI,Q6,WF,dU,AV et n qs k2,hsz]
    .cases h
   .cases h
  .cases h
 .cases h
end
end Go.Fg

namespace Go.Fg
open Go.Fw
section
variable [RE] {o:Nat->TO} {tt:TT} {ety:TypeId->Option Ty} {d:Nat} {f:Operand->TS} {ty:TypeId}
theorem iM{a b:Bool}(h:(a&&b)=true):a=true/\b=true:=by simpa using h
theorem agH(a i:Bool)(ws:List Wd):(tpw a i ws).map bV=ws.map λw=>W.p a i (dn w):=by
 simp only [tpw,UI];rfl
theorem yD(e:Ty)(x:Dt e)(a i:Bool)(off n:Nat)(h:off+n<=size e)(df:Nat->P) :
  ((List.range n).map λj=>W.p a i ((lF e x).getD (off+j) (df j)))=(tpw a i (((fZ e x).drop off).take n)).map bV:=by
 rw [agH,iy];apply Kl;intro j;simp only [Ys,Z3,W5];by_cases hj:j<n
 .have hlt:off+j<(fZ e x).length:=by rw [qB];omega
  rw [KV hj,if_pos hj];simp [List.getD_eq_getElem?_getD,Q2 hlt]
 .rw [WK (by simp;omega),if_neg hj];rfl
theorem JL{n:Nat}(h:Nat.blt 0 n=true):0<n:=W3 h
theorem adk{w:Wd}{v:Value}(h:ac_ w v=true):dn w=Q8 [v] 0:=by
 unfold ac_ at h;split at h
 .rename_i k n k' n';change Int at n;simp only [Qf,eqI,decide_eq_true_eq] at h;obtain ⟨h1,h2⟩:=h;cases hk:ac8 k k' with
  |none=>rw [hk] at h1;cases h1
  |some p=>have e:=p.down;subst e;subst h2;rfl
 .rename_i b b';change Bool at b;have h:b=b':=LawfulBEq.eq_of_beq h;subst h;rfl
 .rename_i s s';change List UInt8 at s;simp only [Qf,List.isEmpty_iff] at h;obtain ⟨h1,h2⟩:=h;subst h1;obtain ⟨⟨l⟩⟩:=s';simp only at h2;subst h2;rfl
 .rename_i e l;change List (Dt e) at l;have hl:l=[]:=by simpa using h
  subst hl;rfl
 .cases h
theorem Ez :∀{ws:List Wd} {vs:List Value},tX ws vs=true->∀j,(ws.map dn)[j]?=if j<vs.length then some (Q8 vs j) else none
 | [],[],h,j=>by simp
 |w::ws,[],h,j=>by simp [tX] at h
 | [],v::vs,h,j=>by simp [tX] at h
 |w::ws,v::vs,h,j=>by
  obtain ⟨h1,h2⟩:=iM h;cases j with
  |zero=>simp only [Q6,UT,Wl,Nat.zero_lt_succ,if_true,adk h1];rfl
  |succ j=>
   have:=Ez h2 j;simp only [Q6,VV,Wl,this,Nat.succ_lt_succ_iff];rfl
theorem PY(e:Ty)(l:List (Dt e))(n off size':Nat)(z:List Value)(h:off+size'<=size e)(hz:tX (((fZ e (dflt e)).drop off).take size') z=true)(a i:Bool) :
  ((List.range size').map λj=>W.p a i (((aH e l).getD n []).getD (off+j) (Q8 z j)))=(tpw a i (((fZ e (l.getD n (dflt e))).drop off).take size')).map bV:=by
 by_cases hn:n<l.length
 .have e1:(aH e l).getD n []=lF e (l.getD n (dflt e)):=by simp [aH,List.getD_eq_getElem?_getD,hn]
  rw [e1];exact yD e _ a i off size' h _
 .have e1:(aH e l).getD n []=[]:=by simp [aH,List.getD_eq_getElem?_getD,WK (qt hn)]
  have e2:l.getD n (dflt e)=dflt e:=by simp [List.getD_eq_getElem?_getD,WK (qt hn)]
  rw [e1,e2,<-yD e _ a i off size' h (Q8 z)];refine ZS λj hj=>?_;have hj:j<size':=Uq.1 hj;have:=Ez hz j;rw [V1,Wt,Z3,if_pos hj,W5,<-iy] at this;have hlen:off+j<(lF e (dflt e)).length:=by rw [SX];omega
  rw [List.getD_eq_getElem?_getD,List.getD_eq_getElem?_getD,this];split
  .rfl
  .rfl
theorem agI(t:TypeId)(x:Operand):ig tt ety d o f (.load t x) ty:=by
 intro r h;simp only [dS] at h;split at h
 .rename_i i g off ht hx;have hx':bf (f x)=.v (.one (.box g off)):=by rw [hx];rfl
  split at h
  .rename_i ws hg;obtain ⟨hb,h⟩:=bM h;simp only [Q0] at h;subst h;obtain ⟨h1,h2⟩:=iM hb;simp only [kernel,ht,hx',oM hg,W7];rw [if_pos ⟨W3 h1,JL h2⟩];refine ⟨_,rfl,?_⟩;have:=fO.pure (TV.fK i.agg ((ws.drop off).take i.size));rw [lG,V1,Wt] at this;exact this
  .cases h
 .rename_i i g n off ht hx;have hx':bf (f x)=.v (.one (.ep g (.int .i64 n) off)):=by rw [hx];rfl
  split at h
  .rename_i fz a i' e l hg;obtain ⟨hb,h⟩:=bM h;simp only [Q0] at h;subst h;obtain ⟨hb,h3⟩:=iM hb;obtain ⟨h1,h2⟩:=iM hb;have h1:=W3 h1;simp only [kernel,ht,hx',iC hg];rw [if_pos ⟨h1,JL h2⟩];refine ⟨_,rfl,⟨λ_=>trivial,?_,rfl,rfl⟩⟩;simp only [BL.pure,lG];congr 1;have en:(P.int .i64 n).nat=n.toNat:=rfl;rw [en];exact PY e l n.toNat off i.size i.zero h1 h3 a i'
  .cases h
 .rename_i i a i' e x' off ht hx;have hx':bf (f x)=.v (.one (.sp a i' (lF e x') off)):=by rw [hx];rfl
  obtain ⟨hb,h⟩:=bM h;simp only [Q0] at h;subst h;obtain ⟨h1,h2⟩:=iM hb;have h2:=W3 h2;simp only [kernel,ht,hx'];rw [if_pos (JL h1)];refine ⟨_,rfl,⟨λ_=>by rw [SX];exact h2,?_,rfl,rfl⟩⟩;simp only [rH.pure,lG];congr 1;exact yD e x' a i' off i.size h2 λ_=>default
 .cases h
theorem bJ(g:Nat) :∀(l:List Nat),fJ g l=l.contains g
 | []=>rfl
 |x::xs=>by
  simp only [fJ,List.contains_cons,bJ g xs];congr 1;rw [Bool.eq_iff_iff];simp
theorem agJ(e:Ty)(l:List (Dt e))(n:Nat)(x:Dt e):aH e (l.set n x)=(aH e l).set n (lF e x):=by simp [aH,List.map_set]
theorem adl(t:TypeId)(x y:Operand):ig tt ety d o f (.store t x y) ty:=by
 intro r h;simp only [dS] at h;split at h
 .rename_i i g off y' ht hx hy;have hx':bf (f x)=.v (.one (.box g off)):=by rw [hx];rfl
  have hy':bf (f y)=.v (jS y'):=by rw [hy];rfl
  split at h
  .rename_i ws hg;obtain ⟨hb,h⟩:=bM h;simp only [Q0] at h;subst h;obtain ⟨hb,h3⟩:=iM hb;obtain ⟨h1,h2⟩:=iM hb;simp only [kernel,ht,hx',hy',oM hg,W7,uH];rw [if_pos ⟨W3 h1,Q4 h2,uI _ h3⟩];refine ⟨_,rfl,⟨λ_=>trivial,rfl,?_,rfl⟩⟩;simp only [iI,Q6,WF,dU,qo]
  .cases h
 .rename_i i g n off y' ht hx hy;have hx':bf (f x)=.v (.one (.ep g (.int .i64 n) off)):=by rw [hx];rfl
  have hy':bf (f y)=.v (jS y'):=by rw [hy];rfl
  split at h
  .rename_i a i' e l hg;split at h
   .rename_i ps a' i'' gs hp;obtain ⟨hb,h⟩:=bM h;simp only [Q0] at h;subst h;obtain ⟨hb,h4⟩:=iM hb;obtain ⟨hb,h3⟩:=iM hb;obtain ⟨h1,h2⟩:=iM hb;have h1:=W3 h1;have h2:=Q4 h2;obtain ⟨k1,k2⟩:=yC hp;have hl:ps.length=i.size:=by
     have:=congrArg List.length k2;simp [kC] at this;omega
    simp only [kernel,ht,hx',hy',iC hg,uH,k1,W7];rw [if_pos ⟨h1,hl,h2,uI _ h3,by simpa [bJ] using h4⟩];refine ⟨_,rfl,⟨λ_=>trivial,rfl,?_,rfl⟩⟩;simp only [lI,<-pJ (PO hp)];congr 1;simp only [P.list,iI,Q6,WF,dU,agJ];have en:(P.int .i64 n).nat=n.toNat:=rfl;rw [en];by_cases hn:n.toNat<l.length
    .have e1:(aH e l).getD n.toNat []=lF e (l.getD n.toNat (dflt e)):=by simp [aH,List.getD_eq_getElem?_getD,hn]
     have hty:(aS (fZ e (l.getD n.toNat (dflt e))) off ps).map (·.t)=jw e:=by
      have e0:jw e=(jw e).take off++(((jw e).drop off).take i.size++(jw e).drop (off+i.size)):=by
       rw [<-List.drop_drop,Jx,Jx]
      simp only [aS,X2,V1,Wt,uz,k2,hl,Wb];exact e0.symm
     have key:lF e (MC e (Nat.beq i.size (size e)) (l.getD n.toNat (dflt e)) off ps)=aS ((aH e l).getD n.toNat []) off (ps.map dn):=by
      rw [e1];unfold MC;cases hc:Nat.beq i.size (size e) with
      |true=>
       have hc:=Q4 hc;have h0:off=0:=by omega
       subst h0;have e2:aS (fZ e (l.getD n.toNat (dflt e))) 0 ps=ps:=by
        simp only [aS,List.take_zero,Kj,Wo];rw [List.drop_of_length_le (by rw [qB];omega),K7]
       have e3:aS (lF e (l.getD n.toNat (dflt e))) 0 (ps.map dn)=ps.map dn:=by
        rw [iy,<-qo,e2]
       rw [e2] at hty;rw [e3];exact su hty
      |false=>
       simp only;rw [su hty,qo,<-iy]
     rw [key]
    .have e1 :∀z,(aH e l).set n.toNat z=aH e l:=λz=>List.set_eq_of_length_le (by rw [eU];omega);rw [e1,e1]
   .cases h
  .cases h
 .cases h
theorem Tc(x:Operand):ig tt ety d o f (.nilCheck x) ty:=by
 intro r h;simp only [dS] at h;split at h
 .rename_i x' hx;obtain ⟨hb,h⟩:=bM h;simp only [Q0] at h;subst h;have hx':bf (f x)=.v (.one (bV x')):=by rw [hx];rfl
  simp only [kernel,hx'];rw [if_pos (JJ hb)];exact ⟨_,rfl,fO.pure _⟩
 .cases h
theorem Ws{op:BinOp}{k k':IntKind}{a b:Int}{c:Bool×Wd}(h:Wj op k k' a b=some c):(c.1=true->P.Q7 op (.int k a) (.int k' b))/\P.bin op (.int k a) (.int k' b)=dn c.2:=by
 unfold Wj at h;cases op<;>simp only at h
 case shl=>simp only [Q0] at h;subst h;exact ⟨λh=>(by simpa using h:0<=b),rfl⟩
 case shr=>simp only [Q0] at h;subst h;exact ⟨λh=>(by simpa using h:0<=b),rfl⟩
 all_goals
  split at h
  .cases h
  .rename_i p hp;obtain ⟨e⟩:=p;subst e;simp only [Q0] at h
   first
    |(cases h;done)
    |(
      
      subst h;refine ⟨λh=>?_,?_⟩
      .first
       |exact rfl
       |(simp at h;exact ⟨rfl,h⟩)
      .first
       |rfl
       |(simp only [P.bin,je,ani];congr 1))
theorem aaR(a b:List UInt8):(⟨a.toArray⟩++⟨b.toArray⟩:ByteArray)=⟨(a++b).toArray⟩:=by
 apply ByteArray.ext;simp [ByteArray.data_append]
theorem EC(a:List UInt8):(⟨a.toArray⟩:ByteArray).toList=a:=by rw [ByteArray.toList_eq]
theorem Wu{op:BinOp}{a b:List UInt8}{c:Bool×Wd}(h:Wn op a b=some c):(c.1=true->P.Q7 op (.str ⟨a.toArray⟩) (.str ⟨b.toArray⟩))/\P.bin op (.str ⟨a.toArray⟩) (.str ⟨b.toArray⟩)=dn c.2:=by
 unfold Wn at h;cases op<;>simp only [Q0] at h<;>try (cases h;done)
 all_goals subst h
 case add=>
  refine ⟨λh=>?_,?_⟩
  .simp only [oK] at h;show a.toArray.size+b.toArray.size<=_;simp only [Km];omega
  .simp only [P.bin,aaR];rfl
 all_goals exact ⟨λ_=>trivial,by simp only [P.bin,EC];rfl⟩
theorem Td{op:BinOp}{a b:Bool}{c:Bool×Wd}(h:PD op a b=some c):(c.1=true->P.OA op (.bool a) (.bool b))/\P.bin op (.bool a) (.bool b)=dn c.2:=by
 unfold PD at h;cases op<;>simp only [Q0] at h<;>try (cases h;done)
 all_goals subst h
 .exact ⟨λ_=>.inl rfl,rfl⟩
 .exact ⟨λ_=>.inr rfl,rfl⟩
theorem fO.oL{c:Bool×Wd}{pre:Prop}{x:P}(h:c.1=true->pre)(hx:x=dn c.2):fO (.oL c) (.calc pre x):=by
 subst hx;obtain ⟨c1,t,y⟩:=c;exact ⟨h,rfl,rfl,rfl⟩
theorem agK(a b:List UInt8):P.eqB (.str ⟨a.toArray⟩) (.str ⟨b.toArray⟩)=(a==b):=by
 show ((⟨a.toArray⟩:ByteArray)==⟨b.toArray⟩)=_;rw [beq_toListBytes,EC,EC]
theorem adn{k:TK}{x y:Wd}{b:Bool}(h:akA k x y=some b):XW k (dn x) (dn y)/\P.eqB (dn x) (dn y)=b:=by
 unfold akA at h;split at h
 .unfold ai2 at h;split at h
  .rename_i p hp;obtain ⟨e⟩:=p;subst e;simp only [Q0] at h;subst h;exact ⟨rfl,rfl⟩
  .cases h
 .rename_i a b';simp only [eqStr,Q0] at h;subst h;exact ⟨trivial,agK a b'⟩
 .simp only [ang,Q0] at h;subst h;exact ⟨trivial,rfl⟩
 .cases h
theorem Tf{tt:TT} :∀(fs:List (Nat×TypeId)) (n:Nat) (xs ys:List TW) (b:Bool),Hg tt n fs xs ys=some b->∃c,nK tt n fs (xs.map bV) (ys.map bV)=some c/\c.1/\c.2=b
 | [],n,[],[],b,h=>by
  simp only [Hg,Q0] at h;subst h;exact ⟨(True,true),rfl,trivial,rfl⟩
 |(off,t)::fs,n,x::xs,y::ys,b,h=>by
  cases x with
  |p a1 i1 x=>cases y with
   |p a2 i2 y=>
    simp only [Hg] at h;split at h
    .rename_i i hi;cases hb:(Nat.beq off n&&i.k.flat&&Nat.beq i.size 1) with
     |false=>rw [hb] at h;cases h
     |true=>
      rw [hb] at h;simp only [cond_true] at h;split at h
      .rename_i b1 b2 h1 h2;simp only [Q0] at h;subst h;obtain ⟨c,e1,e2,e3⟩:=Tf fs (n+1) xs ys b2 h2;obtain ⟨q1,q2⟩:=adn h1;simp only [Qf] at hb;have hoff:off=n/\i.k.flat=true/\i.size=1:=⟨Q4 hb.1.1,hb.1.2,Q4 hb.2⟩;refine ⟨(XW i.k (dn x) (dn y)/\c.1,P.eqB (dn x) (dn y)&&c.2),?_,⟨q1,e2⟩,by rw [q2,e3]⟩;simp only [Q6,bV,nK,hi];rw [if_pos hoff,e1]
      .cases h
    .cases h
   |_=>simp [Hg] at h
  |_=>simp [Hg] at h
 | [],n,_::_,_,b,h=>by simp [Hg] at h
 | [],n,[],_::_,b,h=>by simp [Hg] at h
 |_::_,n,[],_,b,h=>by simp [Hg] at h
 |_::_,n,x::xs,[],b,h=>by cases x<;>simp [Hg] at h
theorem ado(op:BinOp)(t:TypeId)(x y:Operand)(u:TypeId):ig tt ety d o f (.binOp op t x y u) ty:=by
 intro r h;simp only [dS] at h;split at h
 .rename_i a1 i1 x' a2 i2 y' hx hy;have hx':bf (f x)=.v (.one (.p a1 i1 (dn x'))):=by rw [hx];rfl
  have hy':bf (f y)=.v (.one (.p a2 i2 (dn y'))):=by rw [hy];rfl
  split at h
  .rename_i i ht;split at h
   .rename_i c hc;simp only [Q0] at h;subst h;obtain ⟨ik,isz,ib,iz⟩:=i;simp only at hc;unfold anf at hc;split at hc
    .obtain ⟨k1,k2⟩:=Ws hc;simp only [kernel,hx',hy',ht];exact ⟨_,rfl,fO.oL k1 k2⟩
    .obtain ⟨k1,k2⟩:=Wu hc;simp only [kernel,hx',hy',ht];exact ⟨_,rfl,fO.oL k1 k2⟩
    .obtain ⟨k1,k2⟩:=Td hc;simp only [kernel,hx',hy',ht];exact ⟨_,rfl,fO.oL k1 k2⟩
    .cases hc
   .cases h
  .cases h
 .rename_i xs ys hx hy;have hx':bf (f x)=.v (.agg (xs.map bV)):=by rw [hx];rfl
  have hy':bf (f y)=.v (.agg (ys.map bV)):=by rw [hy];rfl
  split at h
  .rename_i i ht;have key :∀{b q:Bool} {v:Bool},Hg tt 0 i.k.parts xs ys=some b->agm op=some q->i.eq=true->v=(b==q)->∃r',kernel tt d (bU o) (λa=>bf (f a)) (.binOp op t x y u) ty=some r'/\fO (.oL (true,je v)) r':=by
    intro b q v h1 h2 h3 h4;obtain ⟨c,e1,e2,e3⟩:=Tf _ _ _ _ _ h1;simp only [kernel,hx',hy',ht,e1,h2];rw [if_pos h3];exact ⟨_,rfl,fO.oL (λ_=>e2) (by rw [e3,h4];rfl)⟩
   split at h
   .rename_i b h1 h2;cases h3:i.eq with
    |false=>rw [h3] at h;cases h
    |true=>
     rw [h3] at h;simp only [cond_true,Q0] at h;subst h;exact key (v:=b) h1 h2 h3 (by cases b<;>rfl)
   .rename_i b h1 h2;cases h3:i.eq with
    |false=>rw [h3] at h;cases h
    |true=>
     rw [h3] at h;simp only [cond_true,Q0] at h;subst h;exact key (v:=!b) h1 h2 h3 (by cases b<;>rfl)
   .cases h
  .cases h
 .cases h
theorem agL(op:UnOp)(t:TypeId)(x:Operand):ig tt ety d o f (.unOp op t x) ty:=by
 intro r h;simp only [dS] at h;split at h
 .rename_i a1 i1 x' hx;have hx':bf (f x)=.v (.one (.p a1 i1 (dn x'))):=by rw [hx];rfl
  split at h
  .rename_i c hc;simp only [Q0] at h;subst h;simp only [kernel,hx'];unfold unT at hc;split at hc
   .simp only [Q0] at hc;subst hc;exact ⟨_,rfl,fO.oL (λ_=>trivial) rfl⟩
   .simp only [Q0] at hc;subst hc;exact ⟨_,rfl,fO.oL (λ_=>trivial) rfl⟩
   .cases hc
  .cases h
 .cases h
theorem Wv(s t:TypeId)(x:Operand):ig tt ety d o f (.convert s t x) ty:=by
 intro r h;simp only [dS] at h;split at h
 .rename_i k0 s0 b0 z0 k s1 b1 z1 a1 i1 k2 x' hs ht hx;have hx':bf (f x)=.v (.one (.p a1 i1 (.int k2 x'))):=by rw [hx];rfl
  simp only [Q0] at h;subst h;simp only [kernel,hs,ht,hx'];exact ⟨_,rfl,⟨λ_=>trivial,rfl,rfl,rfl⟩⟩
 .rename_i e s0 b0 z0 s1 b1 z1 x' hs ht hx;have hx':bf (f x)=.v (.one (bV x')):=by rw [hx];rfl
  split at h
  .rename_i s2 b2 z2 he;split at h
   .rename_i l a1 i1 hr;simp only [Q0] at h;subst h;obtain ⟨ask,hr',hask⟩:=S_ hr;have hr':(bV x').rows (bU o) 1=some (ask,aH (.int .u8) l,a1,i1):=hr';simp only [kernel,hs,ht,hx',he,hr'];refine ⟨_,rfl,⟨λ_=>⟨hask,λr hr=>?_⟩,?_,rfl,rfl⟩⟩
    .simp only [aH,QR] at hr;obtain ⟨n,_,rfl⟩:=hr;exact ⟨n,rfl⟩
    .have e:IJ (aH (.int .u8) l)=dn ⟨.str,strOf l⟩:=by
      show P.str _=P.str _;congr 2;simp only [aH,UI,strOf];congr 1
     show S.v (V.one (W.p false false (IJ (aH (.int .u8) l))))=_;rw [e];rfl
   .cases h
  .cases h
 .rename_i s0 b0 z0 e s1 b1 z1 a1 i1 x' hs ht hx;change List UInt8 at x';have hx':bf (f x)=.v (.one (.p a1 i1 (.str ⟨x'.toArray⟩))):=by rw [hx];rfl
  split at h
  .rename_i s2 b2 z2 he;simp only [Q0] at h;subst h;simp only [kernel,hs,ht,hx',he];refine ⟨_,rfl,⟨λ_=>trivial,?_,rfl,rfl⟩⟩;have e:OC (.str ⟨x'.toArray⟩)=dn ⟨.sl (.int .u8),akz x'⟩:=by
    show P.fU 1 _=P.fU 1 _;have key :∀l:List UInt8,(l.map λb=>[P.int .u8 (b.toNat:Int)])=aH (.int .u8) (akz l):=by
     intro l
     induction l with
     |nil=>rfl
     |cons a l ih=>exact congrArg (List.cons _) ih
    exact congrArg (P.fU 1) (key x')
   show S.v (V.one (W.p false false (OC (.str ⟨x'.toArray⟩))))=_;rw [e];rfl
  .cases h
 .cases h
end
end Go.Fg

namespace Go.Fg
open Go.Fw
section
variable [RE] {o:Nat->TO} {tt:TT} {ety:TypeId->Option Ty} {d:Nat} {f:Operand->TS} {ty:TypeId}
theorem yE{k:IntKind}{n:Int}{m:Nat}(h:inB n m=true):inRange (.int k n) m:=by
 simp only [inB,Qf,decide_eq_true_eq] at h;exact h
theorem PZ(t:TypeId)(n c:Operand):ig tt ety d o f (.makeSlice t n c) ty:=by
 intro r h;simp only [dS] at h;split at h
 .rename_i e i1 i2 i3 a1 j1 n' a2 j2 c' ht hn hc;change Int at n';change Int at c';have hn':bf (f n)=.v (.one (.p a1 j1 (.int .i64 n'))):=by rw [hn];rfl
  have hc':bf (f c)=.v (.one (.p a2 j2 (.int .i64 c'))):=by rw [hc];rfl
  split at h
  .rename_i ie et he het;split at h
   .rename_i ps hp;obtain ⟨hb,h⟩:=bM h;simp only [Q0] at h;subst h;obtain ⟨h1,h2⟩:=iM hb;obtain ⟨k1,k2⟩:=yC hp;have hsz:=Q4 h2;rw [sF] at k1;simp only [kernel,ht,hn',hc',he,k1];rw [if_pos (JL h1)];refine ⟨_,rfl,⟨λhp=>?_,rfl,?_,rfl⟩⟩
    .simp only [JD,Qf,decide_eq_true_eq] at hp;obtain ⟨⟨⟨p1,p2⟩,p3⟩,p4⟩:=hp;refine ⟨n'.toNat,c'.toNat,by rw [K0 p1],by rw [K0 (by omega)],by omega,?_,by omega⟩;have e:((ie.bytes*c'.toNat:Nat):Int)=ie.bytes*c':=by rw [Int.natCast_mul,K0 (by omega)]
     omega
    .simp only [P.list,iI,Q6,WF,dU,hsz];have en:(P.int .i64 n').nat=n'.toNat:=rfl;rw [en];simp only [aH,List.map_replicate];rw [su k2]
   .cases h
  .cases h
 .cases h
theorem lV{df:Int}{lo:Option Operand}{m:Int}(h:lU df (lo.map f)=some m):mG (.int .i64 df) (lo.map λx=>bf (f x))=some (.int .i64 m):=by
 cases lo with
 |none=>simp only [Kc,lU,Q0] at h;subst h;rfl
 |some x=>
  simp only [Z6] at h ⊢;unfold lU at h;split at h
  .rename_i hh;cases hh
  .rename_i hh;simp only [Q0] at hh;cases h;rw [hh];rfl
  .cases h
theorem uJ{lo hi:Int}{len:Nat}(h:Hf lo hi len=true) :∃m k:Nat,P.int .i64 lo=.int .i64 m/\P.int .i64 hi=.int .i64 k/\m<=k/\k<=len:=by
 simp only [Hf,Qf,decide_eq_true_eq] at h;exact ⟨lo.toNat,hi.toNat,by rw [K0 (by omega)],by rw [K0 (by omega)],by omega,by omega⟩
theorem Wx(y:List UInt8)(a b:Nat):(⟨y.toArray⟩:ByteArray).extract a b=⟨((y.take b).drop a).toArray⟩:=by
 apply ByteArray.ext;simp [ByteArray.data_extract,List.drop_take]
theorem aaS(t:TypeId)(x hi mx:Operand):ig tt ety d o f (.slice t x none (some hi) (some mx)) ty:=by
 intro r h;simp only [dS] at h;unfold Yi at h;split at h
 .rename_i e i1 i2 i3 g a1 j1 h' a2 j2 m' ht hx hh hm;change Int at h';change Int at m';have hx':bf (f x)=.v (.one (.own g)):=by rw [hx];rfl
  have hh':bf (f hi)=.v (.one (.p a1 j1 (.int .i64 h'))):=by rw [hh];rfl
  have hm':bf (f mx)=.v (.one (.p a2 j2 (.int .i64 m'))):=by rw [hm];rfl
  split at h
  .rename_i ie a i e' l he hg;obtain ⟨hb,h⟩:=bM h;simp only [Q0] at h;subst h;have hg':bU o g=.arr false a i (size e') (aH e' l):=by unfold bU;rw [hg];rfl
   simp only [kernel,BN,ht,hx',hh',hm',he,hg'];rw [if_pos (Q4 hb)];refine ⟨_,rfl,⟨λhp=>?_,rfl,rfl,rfl⟩⟩;obtain ⟨k,j,q1,q2,q3,q4⟩:=uJ hp;exact ⟨k,j,q1,q2,q3,by rw [eU];exact q4⟩
  .cases h
 .rename_i e i1 i2 i3 a1 j1 h' a2 j2 m' ht hx hh hm;change Int at h';change Int at m';have hx':bf (f x)=.v (.one .dw):=by rw [hx];rfl
  have hh':bf (f hi)=.v (.one (.p a1 j1 (.int .i64 h'))):=by rw [hh];rfl
  have hm':bf (f mx)=.v (.one (.p a2 j2 (.int .i64 m'))):=by rw [hm];rfl
  split at h
  .rename_i ie he;simp only [Q0] at h;subst h;simp only [kernel,BN,ht,hx',hh',hm',he];refine ⟨_,rfl,⟨λhp=>?_,rfl,rfl,rfl⟩⟩;obtain ⟨k,j,q1,q2,q3,q4⟩:=uJ hp;have hj:j=0:=by omega
   have hk:k=0:=by omega
   subst hj;subst hk;exact ⟨q1,q2⟩
  .cases h
 .cases h
theorem adp(args:Array Operand)(ts:Array TypeId):ig tt ety d o f (.call { callee:=.builtin .clear,args:=args,argTypes:=ts }) ty:=by
 intro r h;simp only [dS] at h;split at h
 .rename_i x t tl ha hts;unfold ada at h;split at h
  .rename_i e i1 i2 i3 g lo hi ht hx;change Int at lo;change Int at hi;have hx':bf (f x)=.v (.one (.vw g (.int .i64 lo) (.int .i64 hi))):=by rw [hx];rfl
   split at h
   .rename_i ie a i et l he hg;obtain ⟨hb,h⟩:=bM h;split at h
    .rename_i ps hp;simp only [Q0] at h;subst h;obtain ⟨h1,h2⟩:=iM hb;obtain ⟨k1,k2⟩:=yC hp;have hsz:=Q4 h1;rw [sF] at k1;have hg':bU o g=.arr false a i (size et) (aH et l):=by unfold bU;rw [hg];rfl
     simp only [kernel,ha,hts,OD,ht,hx',he,hg',k1];rw [if_pos ⟨hsz,by rw [hsz];exact JL h2⟩];refine ⟨_,rfl,⟨λhp=>W3 hp,rfl,?_,rfl⟩⟩;simp only [P.list,iI,Q6,WF,dU];have e1:(P.int .i64 lo).nat=lo.toNat:=rfl;have e2:(P.int .i64 hi).nat=hi.toNat:=rfl;rw [e1,e2];simp only [aH,ane,aS,X2,V1,Wt,List.map_replicate,Jn];rw [su k2]
    .cases h
   .cases h
  .cases h
 .cases h
theorem adq(t:TypeId)(x:Operand)(lo hi:Option Operand):ig tt ety d o f (.slice t x lo hi none) ty:=by
 intro r h;simp only [dS] at h;split at h
 .rename_i e i1 i2 i3 x' ht hx;have hx':bf (f x)=.v (.one (bV x')):=by rw [hx];rfl
  split at h
  .rename_i ie et len he het hlen;split at h
   .rename_i lo' hi' hlo hhi;obtain ⟨ask,hl,hask⟩:=Yj hlen;have IY:=lV hlo;have vO:=lV hhi;have en0:kY 0=P.int .i64 0:=rfl;simp only [kernel,ht,hx',he,hl,en0,IY,vO];split at h
    .rename_i g;split at h
     .rename_i e' l hg;obtain ⟨hb,h⟩:=bM h;simp only [Q0] at h;subst h;simp only [bV,pI hg];rw [if_pos (Q4 hb)];refine ⟨_,rfl,⟨λhp=>?_,rfl,rfl,rfl⟩⟩;exact uJ hp
     .cases h
    .rename_i a i w;split at h
     .rename_i l hl';change List (Dt et) at l;obtain ⟨hb,h⟩:=bM h;simp only [Q0] at h;subst h;have hsz:=Q4 hb;simp only [bV];refine ⟨_,rfl,⟨λhp=>⟨hask,?_,?_⟩,?_,rfl,rfl⟩⟩
      .rw [h_ hl',<-hsz];exact JI _ _
      .rw [h_ hl',jB,eU];exact uJ hp
      .rw [h_ hl'];show S.v (V.one (W.p a i (P.sub ie.size (P.int .i64 lo').nat (P.int .i64 hi').nat (dn ⟨.sl et,l⟩))))=S.v (V.one (W.p a i (dn ⟨.sl et,List.drop lo'.toNat (List.take hi'.toNat l)⟩)));rw [P.sub,jB,sD,<-hsz];rfl
     .cases h
    .simp only [Q0] at h;subst h;simp only [bV];refine ⟨_,rfl,⟨λhp=>?_,rfl,rfl,rfl⟩⟩;obtain ⟨h1,h2⟩:=iM hp;have h1:lo'=0:=by simpa using h1
     have h2:hi'=0:=by simpa using h2
     subst h1;subst h2;exact ⟨rfl,rfl⟩
    .cases h
   .cases h
  .cases h
 .rename_i s0 b0 z0 a1 i1 y ht hx;have hx':bf (f x)=.v (.one (.p a1 i1 (.str ⟨y.toArray⟩))):=by rw [hx];rfl
  change List UInt8 at y;split at h
  .rename_i lo' hi' hlo hhi;simp only [Q0] at h;subst h;have IY:=lV hlo;have vO:=lV hhi;have en0:kY 0=P.int .i64 0:=rfl;have el:(P.str ⟨y.toArray⟩).len=P.int .i64 (y.length:Nat):=by show P.int .i64 (y.toArray.size:Nat)=_;simp
   simp only [kernel,ht,hx',en0,el,IY,vO];refine ⟨_,rfl,⟨λhp=>⟨trivial,?_⟩,?_,rfl,rfl⟩⟩
   .have:=uJ hp;simpa [P.bytes,ByteArray.size] using this
   .show S.v (V.one (W.p false false (P.str ((⟨y.toArray⟩:ByteArray).extract lo'.toNat hi'.toNat))))=S.v (V.one (W.p false false (P.str ⟨(List.drop lo'.toNat (List.take hi'.toNat y)).toArray⟩)));rw [Wx]
  .cases h
 .cases h
theorem P5(t:TypeId)(x:Operand)(n:Nat):ig tt ety d o f (.fieldAddr t x n) ty:=by
 intro r h;simp only [dS] at h;split at h
 .rename_i fs i1 i2 i3 off' sz' x' ht hp hx;have hx':bf (f x)=.v (.one (bV x')):=by rw [hx];rfl
  obtain ⟨hb,h⟩:=bM h;simp only [Q0] at h;subst h;obtain ⟨h1,h2⟩:=iM hb;simp only [kernel,ht,hp,hx'];rw [if_pos ⟨JL h1,JJ h2⟩];refine ⟨_,rfl,?_⟩;have:=fO.pure (.v (.one (x'.shift off')));simpa only [bf,jS,NC] using this
 .cases h
theorem adr(t:TypeId)(x:Operand)(n:Nat):ig tt ety d o f (.field t x n) ty:=by
 intro r h;simp only [dS] at h;split at h
 .rename_i fs i1 i2 i3 ws ht hx;have hx':bf (f x)=.v (.agg (ws.map bV)):=by rw [hx];rfl
  split at h
  .rename_i off u hf;split at h
   .rename_i iu hu;obtain ⟨hb,h⟩:=bM h;simp only [Q0] at h;subst h;obtain ⟨h1,h2⟩:=iM hb;simp only [kernel,ht,hx',hf,hu,W7];rw [if_pos ⟨W3 h1,JL h2⟩];refine ⟨_,rfl,?_⟩;have:=fO.pure (TV.fK iu.agg ((ws.drop off).take iu.size));rw [lG,V1,Wt] at this;exact this
   .cases h
  .cases h
 .cases h
theorem P6(t:TypeId)(x ix:Operand):adf tt ety d o f (.indexAddr t x ix) ty:=by
 intro r h;simp only [dS] at h;split at h
 .rename_i e i1 i2 i3 x' a1 j1 k n ht hx hn;change Int at n;have hx':bf (f x)=.v (.one (bV x')):=by rw [hx];rfl
  have hn':bf (f ix)=.v (.one (.p a1 j1 (.int k n))):=by rw [hn];rfl
  have en:(P.int k n).nat=n.toNat:=rfl;split at h
  .rename_i ie et g he het;split at h
   .rename_i e' l hg;obtain ⟨hb,h⟩:=bM h;simp only [Q0] at h;subst h;simp only [kernel,ht,hx',hn',he,bV,pI hg];rw [if_pos (Q4 hb)];refine ⟨_,rfl,fO.toC ⟨λhp=>?_,rfl,rfl,rfl⟩⟩;exact yE (k:=k) hp
   .cases h
  .rename_i ie et g lo hi he het;split at h
   .rename_i e' l hg;obtain ⟨hb,h⟩:=bM h;simp only [Q0] at h;subst h;simp only [kernel,ht,hx',hn',he,bV,pI hg];rw [if_pos (Q4 hb)];exact ⟨_,rfl,fO.toC ⟨λhp=>yE (k:=k) hp,rfl,rfl,rfl⟩⟩
   .cases h
  .rename_i ie et a i w he het;split at h
   .rename_i l hl;change List (Dt et) at l;obtain ⟨hb,h⟩:=bM h;simp only [Q0] at h;subst h;have hsz:=Q4 hb;simp only [kernel,ht,hx',hn',he,bV];refine ⟨_,rfl,⟨λhp=>⟨λ_=>⟨?_,?_⟩,?_,rfl,rfl⟩,rfl⟩⟩
    .rw [h_ hl,<-hsz];exact JI _ _
    .rw [h_ hl,jB,eU];exact yE (k:=k) hp
    .have hlt:n.toNat<l.length:=by
      have hp:inB n l.length=true:=hp;simp only [inB,Qf,decide_eq_true_eq] at hp;omega
     rw [h_ hl];show S.v (V.one (W.sp a i ((dn ⟨.sl et,l⟩).list.getD (P.int k n).nat []) 0))=S.v (V.one (W.sp a i (lF et (List.getD l n.toNat (dflt et))) 0));rw [jB,en];simp [aH,List.getD_eq_getElem?_getD,hlt]
   .cases h
  .cases h
 .rename_i m e i1 i2 i3 g a1 j1 k n ht hx hn;change Int at n;have hx':bf (f x)=.v (.one (.gl g)):=by rw [hx];rfl
  have hn':bf (f ix)=.v (.one (.p a1 j1 (.int k n))):=by rw [hn];rfl
  split at h
  .rename_i ie et l he hg;obtain ⟨hb,h⟩:=bM h;simp only [Q0] at h;subst h;obtain ⟨h1,h2⟩:=iM hb;have h1:=Q4 h1;have h2:=Q4 h2;simp only [kernel,ht,hx',hn',he,ai0,hg,Z6];rw [if_pos ⟨h1,by rw [W7];exact h2⟩];refine ⟨_,rfl,⟨λhp=>⟨λ_=>yE (k:=k) hp,?_,rfl,rfl⟩,rfl⟩⟩;have hlt:n.toNat<l.length:=by
    have hp:inB n m=true:=hp;simp only [inB,Qf,decide_eq_true_eq] at hp;omega
   show S.v (V.one (W.sp false false ((List.map (lF et) l).getD (P.int k n).nat []) 0))=S.v (V.one (W.sp false false (lF et (List.getD l n.toNat (dflt et))) 0));have en:(P.int k n).nat=n.toNat:=rfl;rw [en];simp [List.getD_eq_getElem?_getD,hlt]
  .cases h
 .rename_i m e i1 i2 i3 x' a1 j1 k n hng ht hx hn;change Int at n;have hx':bf (f x)=.v (.one (bV x')):=by rw [hx];rfl
  have hn':bf (f ix)=.v (.one (.p a1 j1 (.int k n))):=by rw [hn];rfl
  split at h
  .rename_i ie he;obtain ⟨hb,h⟩:=bM h;simp only [Q0] at h;subst h;obtain ⟨h1,h2⟩:=iM hb;simp only [inB,Qf,decide_eq_true_eq] at h1;have hl:=JJ h2;have key :∃r',kernel tt d (bU o) (λx=>bf (f x)) (.indexAddr t x ix) ty=some r'/\r'=.pure (.v (.one ((bV x').shift (n.toNat*ie.size)))):=by
    cases x'<;>first
     |(cases h2;done)
     |(
       simp only [bV] at hx' hl ⊢;simp only [kernel,ht,hx',hn',he];rw [if_pos ⟨h1.1,h1.2,hl⟩];exact ⟨_,rfl,rfl⟩)
   obtain ⟨r',e1,rfl⟩:=key;refine ⟨_,e1,fO.toC ?_⟩;have:=fO.pure (.v (.one (x'.shift (n.toNat*ie.size))));simpa only [bf,jS,NC] using this
  .cases h
 .cases h
theorem ads(t:TypeId)(x ix:Operand):ig tt ety d o f (.index t x ix) ty:=by
 intro r h;simp only [dS] at h;split at h
 .rename_i i1 i2 i3 a1 j1 s a2 j2 k n ht hx hn;change List UInt8 at s;change Int at n;have hx':bf (f x)=.v (.one (.p a1 j1 (.str ⟨s.toArray⟩))):=by rw [hx];rfl
  have hn':bf (f ix)=.v (.one (.p a2 j2 (.int k n))):=by rw [hn];rfl
  simp only [Q0] at h;subst h;simp only [kernel,ht,hx',hn'];refine ⟨_,rfl,⟨λhp=>⟨trivial,?_⟩,?_,rfl,rfl⟩⟩
  .have:(P.str ⟨s.toArray⟩).bytes.size=s.length:=by show s.toArray.size=_;simp
   rw [this];exact yE (k:=k) hp
  .have:(s.toArray.getD n.toNat 0)=s.getD n.toNat 0:=by simp [We,List.getD_eq_getElem?_getD]
   simp only [P.aiG,this];rfl
 .cases h
theorem adt(t:TypeId)(x:Operand):ig tt ety d o f (.range t x) ty:=by
 intro r h;simp only [dS] at h;split at h
 .rename_i i1 i2 i3 a1 j1 s ht hx;change List UInt8 at s;have hx':bf (f x)=.v (.one (.p a1 j1 (.str ⟨s.toArray⟩))):=by rw [hx];rfl
  simp only [Q0] at h;subst h;simp only [kernel,ht,hx'];exact ⟨_,rfl,⟨λ_=>trivial,rfl,rfl,rfl⟩⟩
 .cases h
theorem Wy(t:Operand)(n:Nat):ig tt ety d o f (.extract t n) ty:=by
 intro r h;simp only [dS] at h;split at h
 .rename_i xs hx;have hx':bf (f t)=.jD (xs.map jS):=by rw [hx];rfl
  split at h
  .rename_i x hn;simp only [Q0] at h;subst h;simp only [kernel,hx',Ys,hn,Z6];exact ⟨_,rfl,fO.pure _⟩
  .cases h
 .cases h
theorem Ti{F:Operand->Option TW}{G:Operand->Option W}(hFG :∀x w,F x=some w->G x=some (bV w)) :∀{xs:List Operand} {ws:List TW},xs.mapM F=some ws->xs.mapM G=some (ws.map bV)
 | [],ws,h=>by simp at h;subst h;rfl
 |x::xs,ws,h=>by
  simp only [ve,Option.bind_eq_bind,Option.bind_eq_some_iff] at h ⊢;obtain ⟨w,hw,ws',hws,h⟩:=h;cases h;exact ⟨bV w,hFG x w hw,ws'.map bV,Ti hFG hws,rfl⟩
theorem Tj(g:FuncId)(first caps:Array Operand):ig tt ety d o f (.makeFunc (.func g) first caps) ty:=by
 intro r h;simp only [dS] at h;obtain ⟨hb,h⟩:=bM h;split at h
 .rename_i ws hw;simp only [Q0] at h;subst h;simp only [kernel];rw [if_pos (Q4 hb)];have key :∀{G:Operand->Option W},(∀x,G x=match bf (f x) with | .v (.one w)=>some w | _=>none)->caps.toList.mapM G=some (ws.map bV):=by
   intro G hG;refine Ti (λx w hx=>?_) hw;rw [hG];split at hx
   .rename_i hf;cases hx;rw [hf];rfl
   .cases hx
  split
  .rename_i ws' hw';have e:=hw'.symm.trans (key λx=>rfl);simp only [Q0] at e;subst e;refine ⟨_,rfl,?_⟩;have:=fO.pure (.v (.one (.clo g ws)));simpa only [bf,jS,bV,zq] using this
  .rename_i hw';exact nomatch hw'.symm.trans (key λx=>rfl)
 .cases h
theorem akD(args:Array Operand)(ts:Array TypeId):ig tt ety d o f (.call { callee:=.builtin .len,args:=args,argTypes:=ts }) ty:=by
 intro r h;simp only [dS] at h;split at h
 .rename_i x t ha hts;split at h
  .rename_i e i1 i2 i3 x' ht hx;have hx':bf (f x)=.v (.one (bV x')):=by rw [hx];rfl
   split at h
   .rename_i n hn;simp only [Q0] at h;subst h;obtain ⟨ask,hl,hask⟩:=Yj hn;simp only [kernel,ha,hts,ht,hx',hl];exact ⟨_,rfl,⟨λ_=>hask,rfl,rfl,rfl⟩⟩
   .cases h
  .rename_i i1 i2 i3 a1 j1 s ht hx;change List UInt8 at s;have hx':bf (f x)=.v (.one (.p a1 j1 (.str ⟨s.toArray⟩))):=by rw [hx];rfl
   simp only [Q0] at h;subst h;simp only [kernel,ha,hts,ht,hx'];refine ⟨_,rfl,⟨λ_=>trivial,?_,rfl,rfl⟩⟩;have:(P.str ⟨s.toArray⟩).len=.int .i64 s.length:=by show P.int .i64 (s.toArray.size:Nat)=_;simp
   simp only [this];rfl
  .cases h
 .cases h
theorem akE(args:Array Operand)(ts:Array TypeId):ig tt ety d o f (.call { callee:=.builtin .min,args:=args,argTypes:=ts }) ty:=by
 intro r h;simp only [dS] at h;split at h
 .rename_i x y ha;split at h
  .rename_i a1 j1 k x' a2 j2 k2 y' hx hy;have hx':bf (f x)=.v (.one (.p a1 j1 (.int k x'))):=by rw [hx];rfl
   have hy':bf (f y)=.v (.one (.p a2 j2 (.int k2 y'))):=by rw [hy];rfl
   simp only [Q0] at h;subst h;simp only [kernel,ha,hx',hy'];exact ⟨_,rfl,⟨λ_=>⟨trivial,trivial⟩,rfl,rfl,rfl⟩⟩
  .cases h
 .rename_i x y z ha;split at h
  .rename_i a1 j1 k x' a2 j2 k2 y' a3 j3 k3 z' hx hy hz;have hx':bf (f x)=.v (.one (.p a1 j1 (.int k x'))):=by rw [hx];rfl
   have hy':bf (f y)=.v (.one (.p a2 j2 (.int k2 y'))):=by rw [hy];rfl
   have hz':bf (f z)=.v (.one (.p a3 j3 (.int k3 z'))):=by rw [hz];rfl
   simp only [Q0] at h;subst h;simp only [kernel,ha,hx',hy',hz'];exact ⟨_,rfl,⟨λ_=>⟨trivial,trivial,trivial⟩,rfl,rfl,rfl⟩⟩
  .cases h
 .cases h
theorem akF(args:Array Operand)(ts:Array TypeId):ig tt ety d o f (.call { callee:=.builtin .max,args:=args,argTypes:=ts }) ty:=by
 intro r h;simp only [dS] at h;split at h
 .rename_i x y ha;split at h
  .rename_i a1 j1 k x' a2 j2 k2 y' hx hy;have hx':bf (f x)=.v (.one (.p a1 j1 (.int k x'))):=by rw [hx];rfl
   have hy':bf (f y)=.v (.one (.p a2 j2 (.int k2 y'))):=by rw [hy];rfl
   simp only [Q0] at h;subst h;simp only [kernel,ha,hx',hy'];exact ⟨_,rfl,⟨λ_=>⟨trivial,trivial⟩,rfl,rfl,rfl⟩⟩
  .cases h
 .rename_i x y z ha;split at h
  .rename_i a1 j1 k x' a2 j2 k2 y' a3 j3 k3 z' hx hy hz;have hx':bf (f x)=.v (.one (.p a1 j1 (.int k x'))):=by rw [hx];rfl
   have hy':bf (f y)=.v (.one (.p a2 j2 (.int k2 y'))):=by rw [hy];rfl
   have hz':bf (f z)=.v (.one (.p a3 j3 (.int k3 z'))):=by rw [hz];rfl
   simp only [Q0] at h;subst h;simp only [kernel,ha,hx',hy',hz'];exact ⟨_,rfl,⟨λ_=>⟨trivial,trivial,trivial⟩,rfl,rfl,rfl⟩⟩
  .cases h
 .cases h
theorem yF(e:Ty)(a b:List (Dt e)):aH e (a++b)=aH e a++aH e b:=by simp [aH]
theorem WA{sT:TypeId}{s x:TW}{r:rH}(h:PI tt ety d o sT s x=some r) :∃r',vJ tt d (bU o) sT (bV s) (bV x)=some r'/\fO r r':=by
 simp only [PI] at h;split at h
 .rename_i e i1 i2 i3 ht;split at h
  .rename_i ie et he het;cases hb:(Nat.beq ie.bytes 0||!Nat.beq (size et) ie.size) with
   |true=>rw [hb] at h;cases h
   |false=>
    rw [hb,cond_false] at h;simp only [Uv,qn] at hb;have hsz:=Q4 hb.2;have hb0:¬ ie.bytes=0:=λe=>by rw [e] at hb;cases hb.1
    split at h
    .cases h
    .rename_i new a' i' hrow;obtain ⟨ask,hr,hask⟩:=S_ hrow;rw [hsz] at hr;simp only [vJ,ht,he,if_neg hb0,hr];have key :∀(pre:Bool) (pre':Prop) (old:List (Dt et)) (a i:Bool) (kill:List (Nat×TO)),(pre=true->pre')->
       fO { pre:=pre&&decide ((old.length+new.length)*ie.bytes<=140737488355328),t:=.sl et,val:=List.append old new,dst:=λ_=>.v (.one (.own d)),aJ:=λy=>kill++[(d,.arr false (a||a') (i||i') et y)],new:=[d] }
        (.mk (ask/\pre'/\((aH et old).length+(aH et new).length)*ie.bytes<=140737488355328) (.sl ie.size (aH et old++aH et new)) (λ_=>.v (.one (.own d)))
         (λy=>iI kill++[(d,.arr false (a||a') (i||i') ie.size y.list)]) [d]):=by
      intro pre pre' old a i kill hpre;refine ⟨λhp=>?_,rfl,?_,rfl⟩
      .obtain ⟨h1,h2⟩:=iM hp;refine ⟨hask,hpre h1,?_⟩;rw [eU,eU];simpa using h2
      .simp only [lI];congr 1;simp only [P.list,iI,Q6,WF,dU,hsz];rw [<-yF];rfl
     split at h
     .simp only [Q0] at h;subst h;exact ⟨_,rfl,key true True [] false false [] λ_=>trivial⟩
     .rename_i g;split at h
      .rename_i a i e' l hg;split at h
       .rename_i l' hl;cases hgd:Nat.beq g d with
        |true=>rw [hgd] at h;cases h
        |false=>
         rw [hgd,cond_false] at h;simp only [Q0] at h;subst h;obtain ⟨ee,hl⟩:=oO hl;cases ee;subst hl;simp only [bV,iC hg];rw [if_pos ⟨hsz,λe=>by subst e;simp at hgd⟩];exact ⟨_,rfl,key true True _ a i [(g,.none)] λ_=>trivial⟩
       .cases h
      .cases h
     .rename_i g lo hi;split at h
      .rename_i a i e' l hg;split at h
       .rename_i l' hl;cases hgd:Nat.beq g d with
        |true=>rw [hgd] at h;cases h
        |false=>
         rw [hgd,cond_false] at h;simp only [Q0] at h;subst h;obtain ⟨ee,hl⟩:=oO hl;cases ee;subst hl;simp only [bV,iC hg,qm];rw [if_pos ⟨hsz,λe=>by subst e;simp at hgd⟩];refine ⟨_,rfl,key (decide (lo=0)) (P.int .i64 lo=kY 0) (l.take hi.toNat) a i [(g,.none)] λh=>?_⟩;have h:lo=0:=by simpa using h
         subst h;rfl
       .cases h
      .cases h
     .cases h
  .cases h
 .cases h
theorem aaT(args:Array Operand)(ts:Array TypeId):ig tt ety d o f (.call { callee:=.builtin .append,args:=args,argTypes:=ts }) ty:=by
 intro r h;simp only [dS] at h;split at h
 .rename_i s x sT xT rest ha hts;split at h
  .rename_i e i1 i2 i3 s' x' ht hs hx;have hs':bf (f s)=.v (.one (bV s')):=by rw [hs];rfl
   have hx':bf (f x)=.v (.one (bV x')):=by rw [hx];rfl
   simp only [kernel,ha,hts,ht,hs',hx'];exact WA h
  .cases h
 .cases h
theorem WB(op:Op):adf tt ety d o f op ty:=by
 cases op
 case move x=>exact ig.toC (agF x)
 case assign x=>exact ig.toC (aaQ x)
 case pick c x y=>exact ig.toC (agG c x y)
 case alloc t=>exact ig.toC (adh t)
 case box t x=>exact ig.toC (akC t x)
 case build t ps=>exact ig.toC (adi t ps)
 case buildSlice t n ps=>exact ig.toC (MG t n ps)
 case load t x=>exact ig.toC (agI t x)
 case store t x y=>exact ig.toC (adl t x y)
 case nilCheck x=>exact ig.toC (Tc x)
 case binOp op t x y u=>exact ig.toC (ado op t x y u)
 case unOp op t x=>exact ig.toC (agL op t x)
 case convert s t x=>exact ig.toC (Wv s t x)
 case makeSlice t n c=>exact ig.toC (PZ t n c)
 case slice t x lo hi mx=>
  cases mx with
  |none=>exact ig.toC (adq t x lo hi)
  |some m=>cases lo with
   |some l=>intro r h;simp [dS] at h
   |none=>cases hi with
    |none=>intro r h;simp [dS] at h
    |some hi=>exact ig.toC (aaS t x hi m)
 case fieldAddr t x n=>exact ig.toC (P5 t x n)
 case field t x n=>exact ig.toC (adr t x n)
 case indexAddr t x ix=>exact P6 t x ix
 case index t x ix=>exact ig.toC (ads t x ix)
 case range t x=>exact ig.toC (adt t x)
 case extract t n=>exact ig.toC (Wy t n)
 case makeFunc fn first caps=>
  cases fn
  case func g=>exact ig.toC (Tj g first caps)
  all_goals (intro r h;simp [dS] at h)
 case call c=>
  obtain ⟨callee,args,ts⟩:=c;cases callee
  case builtin b=>
   cases b
   case len=>exact ig.toC (akD args ts)
   case append=>exact ig.toC (aaT args ts)
   case clear=>exact ig.toC (adp args ts)
   case min=>exact ig.toC (akE args ts)
   case max=>exact ig.toC (akF args ts)
   all_goals (intro r h;simp [dS] at h)
  all_goals (intro r h;simp [dS] at h)
 all_goals (intro r h;simp [dS] at h)
end
end Go.Fg

namespace Go.Fg
open Go.Fw
section
variable [RE]
def wdF:Wd:=⟨.bool,false⟩
def placesOf:Ty->List Nat
 |.prod (.st c) r=>c::placesOf r
 |_=>[]
def WC(et:Ty):List Nat->List (Nat×Ty)
 | []=>[]
 |c::cs=>match (jw et)[c]? with
  |some (.sl t)=>(c,t)::WC et cs
  |_=>WC et cs
def adu(ety:TypeId->Option Ty)(e:TypeId)(et:Ty):List (Nat×Ty):=match ety (1000000+e) with
 |some t=>WC et (placesOf t)
 |none=>[]
def zu(ak:List (Nat×Ty))(off n:Nat):List (Nat×Ty):=match ak with
 | []=>[]
 |(c,t)::r=>match Nat.ble off c&&Nat.blt c (off+n) with
  |true=>(c,t)::zu r off n
  |false=>zu r off n
def xk(o:Nat->TO)(g:Nat):Option TH:=match o g with
 |.aN a i e ak l hole=>match hole with
  |none=>some ⟨a,i,e,ak,l⟩
  |some (n,c,d)=>match o d with
   |.arr false a' i' e' l'=>match aaN e ak c e' with
    |true=>some ⟨a||a',i||i',e,ak,putRow e l n c (uD e' l')⟩
    |false=>none
   |_=>none
 |_=>none
def anj:TO->Bool
 |.arr fz _ _ _ _=>!fz
 |_=>false
def lJ:List Nat->List (Nat×TO)
 | []=>[]
 |g::gs=>(g,.none)::lJ gs
def cellT(e:Ty)(x:Dt e)(c:Nat)(e':Ty):List (Dt e'):=((fZ e x).getD c wdF).as (.sl e')
def P7(o:Nat->TO)(col:Nat->Option Ty):Nat->List Ty->List TW->Option (List Wd×Bool×Bool×List Nat×List (Nat×Nat))
 |_,[],[]=>some ([],false,false,[],[])
 |j,t::ts,x::xs=>match P7 o col (j+1) ts xs with
  |none=>none
  |some (ys,a',i',gs',es)=>match col j with
   |none=>match x.toP o t with
    |some (y,a,i,gs)=>some (⟨t,y⟩::ys,a||a',i||i',gs++gs',es)
    |none=>none
   |some s=>match tyB t (.sl s) with
    |true=>match x with
     |.dw=>some (uD s []::ys,a',i',gs',es)
     |.own e=>match o e with
      |.arr false a i s' l=>match (uD s' l).BG (.sl s) with
       |some l=>some (uD s l::ys,a||a',i||i',gs',(j,e)::es)
       |none=>none
      |_=>none
     |_=>none
    |false=>none
 |_,_,_=>none
def Gn:List (Nat×Ty)->List (Nat×Ty)->Bool
 | [],[]=>true
 |(c,t)::r,(c',t')::r'=>Nat.beq c c'&&tyB t t'&&Gn r r'
 |_,_=>false
def Tn(o:Nat->TO)(et:Ty)(ak:List (Nat×Ty)):TW->Option (Bool×Bool×Bool×List (Dt et)×List Nat)
 |.dw=>some (true,false,false,[],[])
 |.own g=>match xk o g with
  |some ⟨a,i,e,iE,l⟩=>match (uD e l).BG (.sl et),Gn iE ak with
   |some l,true=>some (true,a,i,l,g::iZ (o g))
   |_,_=>none
  |none=>none
 |.vw g lo hi=>match xk o g with
  |some ⟨a,i,e,iE,l⟩=>match (uD e (l.take hi.toNat)).BG (.sl et),Gn iE ak with
   |some l,true=>some (decide (lo=0),a,i,l,g::iZ (o g))
   |_,_=>none
  |none=>none
 |_=>none
def wE:Ty:=.st RE.hd
def aaU(n:Nat):List (Dt wE):=List.replicate n (dflt wE)
def P8(tt:TT)(o:Nat->TO)(f:Operand->TS)(t:TypeId)(x:Operand):Option rH:=match tt t,f x with
 |some i,.v (.one (.ep g n off))=>match xk o g with
  |some ⟨a,i',e,ak,l⟩=>match uF off ak with
   |some e'=>bif aaN e ak off e'&&(Nat.beq i.size 1&&!i.agg)&&tX (((fZ e (dflt e)).drop off).take i.size) i.zero then
     some { pre:=true,t:=.sl wE,val:=aaU (List.length (α:=Dt e') (cellT e (l.getD n.toNat (dflt e)) off e')),dst:=λz=>.v (.one (.p false false ⟨.sl wE,z⟩)),aJ:=λ_=>[],new:=[] } else none
   |none=>none
  |none=>none
 |_,_=>none
def jH(tt:TT)(ety:TypeId->Option Ty)(d:Nat)(o:Nat->TO)(f:Operand->TS)(op:Op)(ty:TypeId):Option rH:=
 match op with
 |.load t x=>match ety (3000000+d) with
  |some _=>P8 tt o f t x
  |none=>match tt t,f x with
  |some i,.v (.one (.ep g n off))=>match o g with
   |.aN a0 i0 e0 kT l0 _=>bif Nat.ble (off+i.size) (size e0)&&Nat.blt 0 i.size&&tX (((fZ e0 (dflt e0)).drop off).take i.size) i.zero then
     match zu kT off i.size with
     | []=>some { pre:=true,t:=e0,val:=l0.getD n.toNat (dflt e0),dst:=λz=>TV.fK i.agg (tpw a0 i0 (((fZ e0 z).drop off).take i.size)),aJ:=λ_=>[],new:=[] }
     | [(c,e')]=>match xk o g with
      |some ⟨a,i',e,ak,l⟩=>match aaN e ak c e'&&Nat.ble (off+i.size) (size e)&&tX (((fZ e (dflt e)).drop off).take i.size) i.zero with
       |true=>some { pre:=true,t:=.sl e,val:=l,dst:=λ(y:List (Dt e))=>TV.fK i.agg ((tpw a i' (((fZ e (y.getD n.toNat (dflt e))).drop off).take i.size)).set (c-off) (.own d)),aJ:=λ(y:List (Dt e))=>(g,.aN a i' e ak y (some (n.toNat,c,d)))::(d,.arr false a i' e' (cellT e (y.getD n.toNat (dflt e)) c e'))::lJ (iZ (o g)),new:=[d] }
       |false=>none
      |none=>none
     |_=>none
     else none
   |_=>none
  |_,_=>none
 |.store t x y=>match tt t,f x,f y with
  |some i,.v (.one (.ep g n off)),.v y=>match o g with
   |.aN a0 i0 e0 ak l0 hole=>match P7 o (λj=>uF j ak) off (((jw e0).drop off).take i.size) y.words with
    |some (ps,a',i',gs,es)=>bif Nat.ble (off+i.size) (size e0)&&Nat.beq y.words.length i.size&&y.solid&&!fJ g gs&&sZ (es.map (·.2))&&Ee (es.map (·.2)) gs then
      let res (pre:Bool) (a i1:Bool) (e:Ty) (l:List (Dt e)) (gX:Option (Nat×Nat×Nat)) (ks:List Nat):rH:=
       { pre,t:=.sl e,val:=List.set l n.toNat (MC e (Nat.beq i.size (size e)) (l.getD n.toNat (dflt e)) off ps),dst:=λ_=>.no,aJ:=λz=>(g,.aN (a||a') (i1||i') e ak z gX)::lJ (es.map (·.2))++lJ ks++gs.map (lT o),new:=[] }
      match zu ak off i.size with
      | []=>some (res true a0 i0 e0 l0 hole [])
      |_::_=>match hole with
       |none=>some (res true a0 i0 e0 l0 none [])
       |some (n0,c0,d0)=>match xk o g with
        |some ⟨a,i1,e,iE,l⟩=>match !fJ d0 (es.map (·.2))&&!fJ d0 gs with
         |true=>match tyB e e0 with
          |true=>some (res true a i1 e l none [d0])
          |false=>none
         |false=>bif Nat.ble off c0&&Nat.blt c0 (off+i.size) then some (res (Nat.beq n0 n.toNat) a0 i0 e0 l0 none []) else none
        |none=>match anj (o d0) with
         |true=>none
         |false=>bif Nat.ble off c0&&Nat.blt c0 (off+i.size) then some (res (Nat.beq n0 n.toNat) a0 i0 e0 l0 none []) else none
      else none
    |none=>none
   |_=>none
  |_,_,_=>none
 |.buildSlice t n parts=>match tt t with
  |some { k:=.slice e,.. }=>match tt e,ety e with
   |some ie,some et=>match adu ety e et with
    | []=>none
    |zS::Ei=>match CZ (λm=>if m<n then some (m*ie.size,ie.size) else none) (JE (ie.zero.map cvT) n) (parts.toList.map λp=>(p.1,f p.2)) with
     |some ws=>match P7 o (λj=>uF (j % ie.size) (zS::Ei)) 0 (JE (jw et) n) ws with
      |some (ps,a,i,gs,es)=>bif Nat.ble (n+n*ie.size) 16777216&&Nat.beq (size et) ie.size&&sZ (es.map (·.2))&&Ee (es.map (·.2)) gs then
        some { pre:=true,t:=.sl et,val:=C_ et n ps,dst:=λ_=>.v (.one (.own d)),aJ:=λy=>(d,.aN a i et (zS::Ei) y none)::lJ (es.map (·.2))++gs.map (lT o),new:=[d] } else none
      |none=>none
     |none=>none
   |_,_=>none
  |_=>none
 |.makeSlice t n c=>match tt t,f n,f c with
  |some { k:=.slice e,.. },.v (.one (.p _ _ ⟨.int .i64,n⟩)),.v (.one (.p _ _ ⟨.int .i64,c⟩))=>match tt e,ety e with
   |some ie,some et=>match adu ety e et with
    | []=>none
    |zS::Ei=>match P7 o (λj=>uF j (zS::Ei)) 0 (jw et) (ie.zero.map cvT) with
     |some (ps,false,false,[],[])=>bif Nat.blt 0 ie.size&&Nat.beq (size et) ie.size then
      some { pre:=JD ie.bytes n c,t:=.sl et,val:=List.replicate (Int.toNat n) (kP et ps),dst:=λ_=>.v (.one (.own d)),aJ:=λy=>[(d,.aN false false et (zS::Ei) y none)],new:=[d] } else none
     |_=>none
   |_,_=>none
  |_,_,_=>none
 |.call { callee:=.builtin .append,args,argTypes }=>match args.toList,argTypes.toList with
  | [s,x],sT::xT::_=>match tt sT,tt xT,f s,f x with
   |some { k:=.slice e,.. },some { k:=.slice _,.. },.v (.one s),.v (.one (.own g2))=>match tt e,xk o g2 with
    |some ie,some ⟨a2,i2,et,ak,new⟩=>match Tn o et ak s with
     |some (pre,a,i,old,ks)=>bif !Nat.beq ie.bytes 0&&Nat.beq (size et) ie.size&&sZ (ks++g2::iZ (o g2)) then
       some { pre:=pre&&decide ((old.length+new.length)*ie.bytes<=140737488355328),t:=.sl et,val:=List.append old new,dst:=λ_=>.v (.one (.own d)),aJ:=λy=>(d,.aN (a||a2) (i||i2) et ak y none)::lJ (ks++g2::iZ (o g2)),new:=[d] } else none
     |none=>none
    |_,_=>none
   |_,_,_,_=>none
  |_,_=>none
 |.slice t x none hi none=>match ety 2000000 with
  |none=>none
  |some _=>match tt t,f x with
   |some { k:=.slice e,.. },.v (.one (.own g))=>match tt e,o g with
    |some ie,.arr false a i et l=>bif Nat.beq (size et) ie.size then match lU (List.length (α:=Dt et) l) (hi.map f) with
     |some hi=>some { pre:=decide (0<=hi)&&decide (hi<=(List.length (α:=Dt et) l:Int)),t:=.sl et,val:=List.take (α:=Dt et) hi.toNat l,dst:=λ_=>.v (.one (.own d)),aJ:=λy=>[(d,.arr false a i et y),(g,.none)],new:=[d] }
     |none=>none
     else none
    |some ie,.aN a i et ak l none=>bif Nat.beq (size et) ie.size then match lU (List.length (α:=Dt et) l) (hi.map f) with
     |some hi=>some { pre:=decide (0<=hi)&&decide (hi<=(List.length (α:=Dt et) l:Int)),t:=.sl et,val:=List.take (α:=Dt et) hi.toNat l,dst:=λ_=>.v (.one (.own d)),aJ:=λy=>[(d,.aN a i et ak y none),(g,.none)],new:=[d] }
     |none=>none
     else none
    |_,_=>none
   |_,_=>none
 |_=>none
section
variable {o:Nat->TO} {tt:TT} {ety:TypeId->Option Ty} {d:Nat} {f:Operand->TS} {ty:TypeId}
theorem qR(off n:Nat) :∀(ak:List (Nat×Ty)),jg (iL ak) off n=iL (zu ak off n)
 | []=>rfl
 |(c,t)::r=>by
  have ih:=qR off n r;simp only [jg,iL,Q6,vm,zu] at ih ⊢;cases hb:(Nat.ble off c&&Nat.blt c (off+n)) with
  |true=>simp only [if_true,Q6,ih]
  |false=>simp only [W4,if_false,ih]
theorem ED(c:Nat)(ak:List (Nat×Ty)):(iL ak).lookup c=(uF c ak).map size:=by
 cases h:uF c ak with
 |none=>exact JG h
 |some t=>exact Ew h
theorem qC(g:Nat)(x:TO)(r:List (Nat×TO)):iI ((g,x)::r)=(g,dU x)::iI r:=rfl
theorem qE :∀(gs:List Nat),iI (lJ gs)=kills gs
 | []=>rfl
 |g::gs=>by
  show (g,O.none)::iI (lJ gs)=(g,O.none)::kills gs;rw [qE gs]
theorem qF{g:Nat}{a i:Bool}{e:Ty}{ak:List (Nat×Ty)}{l:List (Dt e)}(h:xk o g=some ⟨a,i,e,ak,l⟩):jh (bU o) g=some (a,i,size e,iL ak,aH e l)/\(bU o g).hn=iZ (o g):=by
 unfold xk at h;cases ho:o g with
 |aN a0 i0 e0 kT l0 hole=>
  rw [ho] at h;have hg:bU o g=.aN a0 i0 (size e0) (iL kT) (aH e0 l0) hole:=by simp [bU,ho,dU]
  rcases hole with _ | ⟨n,c,d⟩
  .cases h;exact ⟨by simp [jh,hg],by rw [hg];rfl⟩
  .simp only at h;cases hd:o d with
   |arr fz a' i' e' l'=>
    rw [hd] at h;cases fz with
    |true=>cases h
    |false=>
     simp only at h;split at h
     .rename_i hc;cases h;obtain ⟨k1,k2,k3⟩:=uG hc;refine ⟨?_,by rw [hg];rfl⟩;simp only [jh,hg,iC hd];rw [if_pos ⟨k1,k3⟩,AU k2]
     .cases h
   |_=>rw [hd] at h;cases h
 |_=>rw [ho] at h;cases h
theorem WE{g n c d0:Nat}{a0 i0:Bool}{e0:Ty}{ak:List (Nat×Ty)}{l0:List (Dt e0)}(hog:o g=.aN a0 i0 e0 ak l0 (some (n,c,d0)))(h:anj (o d0)=false):jh (bU o) g=none:=by
 have hg:bU o g=.aN a0 i0 (size e0) (iL ak) (aH e0 l0) (some (n,c,d0)):=by simp [bU,hog,dU]
 simp only [jh,hg];cases hd:o d0 with
 |arr fz a i e l=>
  rw [hd] at h;cases fz with
  |true=>simp [bU,hd,dU]
  |false=>cases h
 |_=>simp [bU,hd,dU]
theorem Tq{e e':Ty}{x:Dt e}{c:Nat}(hc:(jw e)[c]?=some (.sl e')):(lF e x)[c]?=some (dn ⟨.sl e',cellT e x c e'⟩):=by
 rw [iy,Ys];have hlt:c<(fZ e x).length:=by rw [qB,<-kC];exact (Q3.1 hc).1
 rw [Q2 hlt,Z6];have ht:((fZ e x)[c]).t=.sl e':=by
  have:=uz e x;have h2:=congrArg (λl=>l[c]?) this;simp only [Ys,Q2 hlt,Z6,hc,Q0] at h2;exact h2
 have hg:(fZ e x).getD c wdF=(fZ e x)[c]:=by rw [List.getD_eq_getElem?_getD,Q2 hlt];rfl
 unfold cellT;rw [hg,xg ht]
theorem Df{col:Nat->Option Ty}{col':Nat->Option Nat}(ags :∀j,col' j=(col j).map size) :∀{ts:List Ty} {xs:List TW} {j:Nat} {ys:List Wd} {a i:Bool} {gs:List Nat} {es:List (Nat×Nat)},P7 o col j ts xs=some (ys,a,i,gs,es)->
  QW (bU o) col' j (xs.map bV)=some (ys.map dn,a,i,gs,es)/\ys.map (·.t)=ts/\Pl o gs
 | [],[],j,ys,a,i,gs,es,h=>by
  simp only [P7,Q0,Q1] at h;obtain ⟨rfl,rfl,rfl,rfl,rfl⟩:=h;exact ⟨rfl,rfl,Pl.nil⟩
 | [],x::xs,j,ys,a,i,gs,es,h=>by simp [P7] at h
 |t::ts,[],j,ys,a,i,gs,es,h=>by simp [P7] at h
 |t::ts,x::xs,j,ys,a,i,gs,es,h=>by
  simp only [P7] at h;split at h
  .cases h
  .rename_i ys' a' i' gs' es' h2;obtain ⟨k1,k2,k3⟩:=Df ags h2;simp only [Q6,QW,k1,ags j];cases hc:col j with
   |none=>
    rw [hc] at h;simp only at h;split at h
    .rename_i h1;simp only [Q0,Q1] at h;obtain ⟨rfl,rfl,rfl,rfl,rfl⟩:=h;refine ⟨by simp only [Kc,PK h1,Q6],by simp only [Q6,k2],(Wp h1).append k3⟩
    .cases h
   |some s=>
    rw [hc] at h;simp only at h;split at h
    .rename_i hts;have hts:=yB hts;split at h
     .simp only [Q0,Q1] at h;obtain ⟨rfl,rfl,rfl,rfl,rfl⟩:=h;exact ⟨by simp only [Z6,bV,Q6];rfl,by simp only [Q6,k2,hts];rfl,k3⟩
     .rename_i e;split at h
      .rename_i a1 i1 s' l hoe;split at h
       .rename_i l1 hl;simp only [Q0,Q1] at h;obtain ⟨rfl,rfl,rfl,rfl,rfl⟩:=h;obtain ⟨he,hl⟩:=oO hl;cases he;subst hl;refine ⟨?_,by simp only [Q6,k2,hts];rfl,k3⟩;simp only [Z6,bV,iC hoe,if_true,Q6];rfl
       .cases h
      .cases h
     .cases h
    .cases h
def JM(tt:TT)(ety:TypeId->Option Ty)(d:Nat)(o:Nat->TO)(f:Operand->TS)(op:Op)(ty:TypeId):Prop:=
 ∀r,jH tt ety d o f op ty=some r->∃dc r',dN tt dc d (bU o) (λx=>bf (f x)) op ty=some r'/\fO r r'
theorem ND{i:TI}{e e':Ty}{l:List (Dt e)}{n off c:Nat}(hz:tX (((fZ e (dflt e)).drop off).take i.size) i.zero=true)(c2:(jw e)[c]?=some (.sl e'))(hc1:off<=c)(hc2:c<off+i.size) :
  (((aH e l).getD n []).getD c default).list=aH e' (cellT e (l.getD n (dflt e)) c e'):=by
 by_cases hn:n<l.length
 .have e1:(aH e l).getD n []=lF e (l.getD n (dflt e)):=by simp [aH,List.getD_eq_getElem?_getD,hn]
  rw [e1,List.getD_eq_getElem?_getD,Tq c2];exact jB _ _
 .have e1:(aH e l).getD n []=[]:=by simp [aH,List.getD_eq_getElem?_getD,WK (qt hn)]
  have e2:l.getD n (dflt e)=dflt e:=by simp [List.getD_eq_getElem?_getD,WK (qt hn)]
  rw [e1,e2];have hz':=Ez hz (c-off);rw [V1,Wt,Z3,if_pos (by omega),W5,<-iy] at hz';have e3:off+(c-off)=c:=by omega
  rw [e3,Tq c2] at hz';split at hz'
  .simp only [Q0] at hz';have hl:=congrArg P.list hz';rw [jB] at hl;rw [hl];have:(Q8 i.zero (c-off)).list=[]:=by
    have hsl :∃sz l,Q8 i.zero (c-off)=P.fU sz l:=⟨_,_,hz'.symm⟩;unfold Q8 at hsl ⊢;split<;>rfl
   rw [this];rfl
  .cases hz'
theorem agM(n:Nat):dn ⟨.sl wE,aaU n⟩=hdr (List.replicate n ([]:List P)):=by
 have e0 :∀x,lF wE x=[]:=λx=>by
  have h1:=qB wE x;have h2:size wE=0:=by simp [wE,size,jG,RE.hdF]
  rw [h2] at h1;rw [iy,WP h1];rfl
 rw [H6];have e1:aH wE (aaU n)=List.replicate n []:=by
  have :∀(n:Nat),List.map (lF wE) (aaU n)=List.replicate n []:=λn=>by
   induction n with
   |zero=>rfl
   |succ n ih=>
    have e1:lF wE (dflt wE)=[]:=e0 _;show lF wE (dflt wE)::List.map (lF wE) (aaU n)=[]::List.replicate n [];rw [ih,e1]
  exact this n
 have e2:size wE=0:=by simp [wE,size,jG,RE.hdF]
 rw [e1,e2];unfold hdr;rw [Jn];cases n<;>rfl
theorem WG{t:TypeId}{x:Operand}{r:rH}(h:P8 tt o f t x=some r) :∃r',tq tt (bU o) (λx=>bf (f x)) t x=some r'/\fO r r':=by
 unfold P8 at h;split at h
 .rename_i i g n off ht hx;have hx':bf (f x)=.v (.one (.ep g (.int .i64 n) off)):=by rw [hx];rfl
  have en:(P.int .i64 n).nat=n.toNat:=rfl;split at h
  .rename_i a i' e ak l hh;split at h
   .rename_i e' hca;obtain ⟨hb,h⟩:=bM h;obtain ⟨hb,hz⟩:=iM hb;obtain ⟨hcb,hb⟩:=iM hb;obtain ⟨h1,h2⟩:=iM hb;have h1:=Q4 h1;have h2:i.agg=false:=by simpa using h2
    simp only [Q0] at h;subst h;obtain ⟨k1,k2⟩:=qF hh;obtain ⟨c1,c2,c3⟩:=uG hcb;unfold tq;simp only [ht,hx',k1,c1];rw [if_pos ⟨c3,h1,h2⟩];refine ⟨_,rfl,⟨λ_=>trivial,?_,rfl,rfl⟩⟩;have key:(((aH e l).getD (P.int .i64 n).nat []).getD off default).list=aH e' (cellT e (l.getD n.toNat (dflt e)) off e'):=by
     rw [en];exact ND hz c2 (XS _) (by omega)
    show S.v (.one (.p false false (hdr (((aH e l).getD (P.int .i64 n).nat []).getD off default).list)))=S.v (.one (.p false false (dn ⟨.sl wE,aaU _⟩)));rw [agM,key];unfold hdr;rw [eU,Jn]
   .cases h
  .cases h
 .cases h
theorem adv(t:TypeId)(x:Operand):JM tt ety d o f (.load t x) ty:=by
 intro r h;simp only [jH] at h;split at h
 .obtain ⟨r',h1,h2⟩:=WG h;exact ⟨[(0,0)],r',h1,h2⟩
 split at h
 .rename_i i g n off ht hx;have hx':bf (f x)=.v (.one (.ep g (.int .i64 n) off)):=by rw [hx];rfl
  have en:(P.int .i64 n).nat=n.toNat:=rfl;split at h
  .rename_i a0 i0 e0 kT l0 hole hog;have hg:bU o g=.aN a0 i0 (size e0) (iL kT) (aH e0 l0) hole:=by simp [bU,hog,dU]
   obtain ⟨hb,h⟩:=bM h;obtain ⟨hb,h3⟩:=iM hb;obtain ⟨h1,h2⟩:=iM hb;have h1:=W3 h1;split at h
   .rename_i hci;simp only [Q0] at h;subst h;refine ⟨[],?_⟩;simp only [dN,RD,cond_false,ht,hx',hg];rw [if_pos ⟨h1,JL h2⟩];have eci:jg (iL kT) off i.size=[]:=by rw [qR,hci];rfl
    simp only [eci];refine ⟨_,rfl,⟨λ_=>trivial,?_,rfl,rfl⟩⟩;simp only [BL.pure,lG];congr 1;rw [en];exact PY e0 l0 n.toNat off i.size i.zero h1 h3 a0 i0
   .rename_i c e' hci;split at h
    .rename_i a i' e ak l hh;split at h
     .rename_i hcc;obtain ⟨hcc,hz⟩:=iM hcc;obtain ⟨hcb,hle⟩:=iM hcc;have hle:=W3 hle;simp only [Q0] at h;subst h;obtain ⟨k1,k2⟩:=qF hh;obtain ⟨c1,c2,c3⟩:=uG hcb;have hcin:off<=c/\c<off+i.size:=by
       have hm:(c,size e')∈jg (iL kT) off i.size:=by rw [qR,hci];simp [iL]
       have:=(qi.1 hm).2;simp only [Qf,Nat.ble_eq,Nat.blt_eq] at this;exact this
      refine ⟨[],?_⟩;simp only [dN,RD,cond_false,ht,hx',hg];rw [if_pos ⟨h1,JL h2⟩];rw [hg] at k2;have eci:jg (iL kT) off i.size=[(c,size e')]:=by rw [qR,hci];rfl
      simp only [eci,k1];refine ⟨_,rfl,⟨λ_=>trivial,?_,?_,rfl⟩⟩
      .simp only [lG];congr 1;rw [en];have key:=PY e l n.toNat off i.size i.zero hle hz a i';simp only [P.list];rw [List.map_set,<-key];apply Kl;intro j;rw [Kd];simp only [Ys,W7,List.length_range];by_cases hj:j<i.size
       .rw [KV hj];by_cases hjc:c-off=j
        .rw [if_pos hjc,if_pos (by omega)];have:Nat.beq (off+j) c=true:=by simp;omega
         simp only [Z6,this,if_true];rfl
        .rw [if_neg hjc];have:Nat.beq (off+j) c=false:=by
          cases hb:Nat.beq (off+j) c with
          |false=>rfl
          |true=>have:=Q4 hb;omega
         simp only [Z6,this,W4,if_false]
       .rw [WK (by simp;omega),if_neg (by omega)];rfl
      .have key:(((aH e l).getD n.toNat []).getD c default).list=aH e' (cellT e (l.getD n.toNat (dflt e)) c e'):=ND hz c2 hcin.1 hcin.2;show (g,O.aN a i' (size e) (iL ak) (aH e l) (some ((P.int .i64 n).nat,c,d)))::(d,O.arr false a i' (size e') ((((aH e l).getD (P.int .i64 n).nat []).getD c default).list))::kills _=iI (_::_::lJ _);rw [qC,qC,qE,k2,en,key];rfl
     .cases h
    .cases h
   .cases h
  .cases h
 .cases h
theorem JO{g:Nat}{l:List Nat}:(!fJ g l)=true->l.contains g=false:=by
 intro h;rw [bJ] at h;simpa using h
theorem oP :∀{a b:List (Nat×Ty)},Gn a b=true->a=b
 | [],[],_=>rfl
 | [],_::_,h=>by cases h
 |_::_,[],h=>by cases h
 |(c,t)::r,(c',t')::r',h=>by
  simp only [Gn,Qf] at h;rw [Q4 h.1.1,yB h.1.2,oP h.2]
theorem aaV(t:TypeId)(x y:Operand):JM tt ety d o f (.store t x y) ty:=by
 intro r h;simp only [jH] at h;split at h
 .rename_i i g n off y' ht hx hy;have hx':bf (f x)=.v (.one (.ep g (.int .i64 n) off)):=by rw [hx];rfl
  have hy':bf (f y)=.v (jS y'):=by rw [hy];rfl
  have en:(P.int .i64 n).nat=n.toNat:=rfl;split at h
  .rename_i a0 i0 e0 ak l0 hole hog;have hg:bU o g=.aN a0 i0 (size e0) (iL ak) (aH e0 l0) hole:=by simp [bU,hog,dU]
   split at h
   .rename_i ps a' i' gs es hD;obtain ⟨hb,h⟩:=bM h;obtain ⟨hb,h6⟩:=iM hb;obtain ⟨hb,h5⟩:=iM hb;obtain ⟨hb,h4⟩:=iM hb;obtain ⟨hb,h3⟩:=iM hb;obtain ⟨h1,h2⟩:=iM hb;have h1:=W3 h1;have h2:=Q4 h2;obtain ⟨k1,k2,k3⟩:=Df (col':=λj=>(iL ak).lookup j) (λj=>ED j ak) hD;have hl:ps.length=i.size:=by
     have:=congrArg List.length k2;simp [kC] at this;omega
    have hgl:gs.contains g=false:=JO h4;have hcnd:off+i.size<=size e0/\(y'.words.map bV).length=i.size/\(jS y').solid=true/\gs.contains g=false/\sZ (es.map (·.2))=true/\Ee (es.map (·.2)) gs=true:=
     ⟨h1,by rw [W7];exact h2,uI _ h3,hgl,h5,h6⟩
    have key :∀(pre:Bool) (pre':Prop) (a i1:Bool) (e:Ty) (l:List (Dt e)) (gX:Option (Nat×Nat×Nat)) (ks:List Nat),e=e0->(pre=true->pre')->
      fO { pre,t:=.sl e,val:=List.set l n.toNat (MC e (Nat.beq i.size (size e)) (l.getD n.toNat (dflt e)) off ps),dst:=λ_=>.no,aJ:=λz=>(g,.aN (a||a') (i1||i') e ak z gX)::lJ (es.map (·.2))++lJ ks++gs.map (lT o),new:=[] }
       (.mk pre' (.sl (size e0) ((aH e l).set (P.int .i64 n).nat (aS ((aH e l).getD (P.int .i64 n).nat []) off (ps.map dn)))) (λ_=>.no)
        (λz=>(g,.aN (a||a') (i1||i') (size e0) (iL ak) z.list gX)::kills (es.map (·.2))++kills ks++gs.map (Fw.aU (bU o))) []):=by
     intro pre pre' a i1 e l gX ks he hpre;subst he;refine ⟨hpre,rfl,?_,rfl⟩;show (g,O.aN (a||a') (i1||i') (size e) (iL ak) ((aH e l).set (P.int .i64 n).nat (aS ((aH e l).getD (P.int .i64 n).nat []) off (ps.map dn))) gX)::kills (es.map (·.2))++kills ks++gs.map (Fw.aU (bU o))=iI ((_::lJ _)++lJ _++_);rw [lI,lI,qC,qE,qE,pJ k3,en];have hp:=Gm (e:=e) (l:=l) (n:=n.toNat) (off:=off) (ps:=ps) (by rw [hl];exact k2) (by omega);rw [hl] at hp;rw [<-hp];rfl
    have eci:=qR off i.size ak;have hk:dN tt [] d (bU o) (λx=>bf (f x)) (.store t x y) ty=dN tt [] d (bU o) (λx=>bf (f x)) (.store t x y) ty:=rfl;refine ⟨[],?_⟩;simp only [dN,ht,hx',hy',hg,uH,k1];rw [if_pos hcnd];split at h
    .rename_i hci;simp only [Q0] at h;subst h;have eci:jg (iL ak) off i.size=[]:=by rw [eci,hci];rfl
     simp only [eci];exact ⟨_,rfl,key true True a0 i0 e0 l0 hole [] rfl λ_=>trivial⟩
    .rename_i c0 cs hci;have eci:jg (iL ak) off i.size=(c0.1,size c0.2)::iL cs:=by rw [eci,hci];rfl
     simp only [eci];split at h
     .simp only [Q0] at h;subst h;exact ⟨_,rfl,key true True a0 i0 e0 l0 none [] rfl λ_=>trivial⟩
     .rename_i n0 c1 d0 _;have over :∀(r:rH),(bif Nat.ble off c1&&Nat.blt c1 (off+i.size) then some
         ({ pre:=Nat.beq n0 n.toNat,t:=.sl e0,val:=List.set l0 n.toNat (MC e0 (Nat.beq i.size (size e0)) (l0.getD n.toNat (dflt e0)) off ps),dst:=λ_=>.no,aJ:=λz=>(g,.aN (a0||a') (i0||i') e0 ak z none)::lJ (es.map (·.2))++lJ []++gs.map (lT o),new:=[] }:rH) else none)=some r->
        (off<=c1/\c1<off+i.size)/\fO r (.mk (n0=(P.int .i64 n).nat) (.sl (size e0) ((aH e0 l0).set (P.int .i64 n).nat (aS ((aH e0 l0).getD (P.int .i64 n).nat []) off (ps.map dn)))) (λ_=>.no)
         (λz=>(g,.aN (a0||a') (i0||i') (size e0) (iL ak) z.list none)::kills (es.map (·.2))++kills []++gs.map (Fw.aU (bU o))) []):=by
       intro r hr;obtain ⟨hb,hr⟩:=bM hr;simp only [Q0] at hr;subst hr;obtain ⟨q1,q2⟩:=iM hb;exact ⟨⟨W3 q1,W3 q2⟩,key _ _ a0 i0 e0 l0 none [] rfl λhp=>by rw [en];exact Q4 hp⟩
      split at h
      .rename_i a i1 e iE l hh;obtain ⟨j1,j2⟩:=qF hh;simp only [j1];split at h
       .rename_i hcc;obtain ⟨q1,q2⟩:=iM hcc;split at h
        .rename_i hty;simp only [Q0] at h;subst h;rw [if_pos ⟨JO q1,JO q2⟩];exact ⟨_,rfl,key true True a i1 e l none [d0] (yB hty) λ_=>trivial⟩
        .cases h
       .rename_i hcc;obtain ⟨q1,q2⟩:=over r h;rw [if_neg (by
         rintro ⟨z1,z2⟩;rw [<-bJ] at z1 z2;rw [z1,z2] at hcc;cases hcc),if_pos q1]
        exact ⟨_,rfl,q2⟩
      .split at h
       .cases h
       .rename_i har;obtain ⟨q1,q2⟩:=over r h;simp only [WE hog har];rw [if_pos q1];exact ⟨_,rfl,q2⟩
   .cases h
  .cases h
 .cases h
theorem MH(t:TypeId)(n c:Operand):JM tt ety d o f (.makeSlice t n c) ty:=by
 intro r h;simp only [jH] at h;split at h
 .rename_i e i1 i2 i3 a1 j1 n' a2 j2 c' ht hn hc;change Int at n';change Int at c';have hn':bf (f n)=.v (.one (.p a1 j1 (.int .i64 n'))):=by rw [hn];rfl
  have hc':bf (f c)=.v (.one (.p a2 j2 (.int .i64 c'))):=by rw [hc];rfl
  split at h
  .rename_i ie et he het;split at h
   .cases h
   .rename_i zS Ei hdc;split at h
    .rename_i ps hp;obtain ⟨hb,h⟩:=bM h;simp only [Q0] at h;subst h;obtain ⟨h1,h2⟩:=iM hb;have hsz:=Q4 h2;obtain ⟨k1,k2,_⟩:=Df (col':=λj=>(iL (zS::Ei)).lookup j) (λj=>ED j (zS::Ei)) hp;rw [sF] at k1;refine ⟨iL (zS::Ei),?_⟩;have edc:iL (zS::Ei)=(zS.1,size zS.2)::iL Ei:=rfl;simp only [dN,ht,hn',hc',edc,he];rw [edc] at k1;simp only [k1];rw [if_pos (JL h1)];refine ⟨_,rfl,⟨λhp=>?_,rfl,?_,rfl⟩⟩
     .have hp:JD ie.bytes n' c'=true:=hp;simp only [JD,Qf,decide_eq_true_eq] at hp;obtain ⟨⟨⟨q1,q2⟩,q3⟩,q4⟩:=hp;exact ⟨n'.toNat,c'.toNat,by congr 1;omega,by congr 1;omega,by omega,by
       have:((ie.bytes*c'.toNat:Nat):Int)<=281474976710656:=by
        rw [Int.natCast_mul,K0 (by omega)];exact q3
       omega,by omega⟩
     .show [(d,O.aN false false ie.size ((zS.1,size zS.2)::iL Ei) (List.replicate (P.int .i64 n').nat (ps.map dn)) none)]=iI [(d,_)];have en:(P.int .i64 n').nat=n'.toNat:=rfl;rw [qC,en];simp only [dU,edc,hsz,aH,List.map_replicate,su k2];rfl
    .cases h
  .cases h
 .cases h
theorem JQ(t:TypeId)(n:Nat)(ps:Array (Nat×Operand)):JM tt ety d o f (.buildSlice t n ps) ty:=by
 intro r h;simp only [jH] at h;split at h
 .rename_i e i1 i2 i3 ht;split at h
  .rename_i ie et he het;split at h
   .cases h
   .rename_i zS Ei hdc;split at h
    .rename_i ws hw;split at h
     .rename_i qs a i gs es hp;obtain ⟨hb,h⟩:=bM h;simp only [Q0] at h;subst h;obtain ⟨hb,h4⟩:=iM hb;obtain ⟨hb,h3⟩:=iM hb;obtain ⟨h1,h2⟩:=iM hb;have hsz:=Q4 h2;have:=Dc hw;rw [JK,sF] at this;have edc:iL (zS::Ei)=(zS.1,size zS.2)::iL Ei:=rfl;obtain ⟨k1,k2,k3⟩:=Df (col':=λj=>((zS.1,size zS.2)::iL Ei).lookup (j % ie.size)) (λj=>by rw [<-edc];exact ED (j % ie.size) (zS::Ei)) hp;refine ⟨iL (zS::Ei),?_⟩;simp only [dN,ht,edc,he,Ey,this,k1];rw [if_pos ⟨W3 h1,h3,h4⟩];refine ⟨_,rfl,⟨λ_=>trivial,rfl,?_,rfl⟩⟩;show (d,O.aN a i ie.size ((zS.1,size zS.2)::iL Ei) (chunks ie.size n (qs.map dn)) none)::kills (es.map (·.2))++gs.map (Fw.aU (bU o))=iI ((_::lJ _)++_);rw [lI,qC,qE,pJ k3];have e1:=AV et n qs k2;rw [hsz] at e1;simp only [dU,edc,hsz];rw [<-e1]
     .cases h
    .cases h
  .cases h
 .cases h
theorem WH(args:Array Operand)(ts:Array TypeId):JM tt ety d o f (.call { callee:=.builtin .append,args:=args,argTypes:=ts }) ty:=by
 intro r h;simp only [jH] at h;split at h
 .rename_i s x sT xT rest ha hts;split at h
  .rename_i e i1 i2 i3 e' j1 j2 j3 s' g2 hsT hxT hs hx;have hs':bf (f s)=.v (.one (bV s')):=by rw [hs];rfl
   have hx':bf (f x)=.v (.one (.own g2)):=by rw [hx];rfl
   split at h
   .rename_i ie a2 i2' et ak new he hh;obtain ⟨j1',j2'⟩:=qF hh;split at h
    .rename_i pre a i old ks hbase;obtain ⟨hb,h⟩:=bM h;simp only [Q0] at h;subst h;obtain ⟨hb,h3⟩:=iM hb;obtain ⟨h1,h2⟩:=iM hb;have hsz:=Q4 h2;have hb0:ie.bytes≠0:=λe=>by rw [e] at h1;cases h1
     have hB :∃ask src,baseD (bU o) (bV s')=some (ask,a,i,aH et old,ks,src)/\(src=none\/src=some (size et,iL ak))/\(pre=true->ask):=by
      cases s' with
      |dw=>
       simp only [Tn,Q0,Q1] at hbase;obtain ⟨rfl,rfl,rfl,rfl,rfl⟩:=hbase;exact ⟨True,none,rfl,.inl rfl,λ_=>trivial⟩
      |own g=>
       simp only [Tn] at hbase;split at hbase
       .rename_i a1 i1 e1 iE l hg;obtain ⟨q1,q2⟩:=qF hg;split at hbase
        .rename_i l1 hl hc;simp only [Q0,Q1] at hbase;obtain ⟨rfl,rfl,rfl,rfl,rfl⟩:=hbase;obtain ⟨ee,hl⟩:=oO hl;cases ee;subst hl;have:=oP hc;subst this;exact ⟨True,some (size et,iL iE),by simp only [bV,baseD,q1,q2],.inr rfl,λ_=>trivial⟩
        .cases hbase
       .cases hbase
      |vw g lo hi=>
       simp only [Tn] at hbase;split at hbase
       .rename_i a1 i1 e1 iE l hg;obtain ⟨q1,q2⟩:=qF hg;split at hbase
        .rename_i l1 hl hc;simp only [Q0,Q1] at hbase;obtain ⟨rfl,rfl,rfl,rfl,rfl⟩:=hbase;obtain ⟨ee,hl⟩:=oO hl;cases ee;subst hl;have:=oP hc;subst this;refine ⟨P.int .i64 lo=kY 0,some (size et,iL iE),by simp only [bV,baseD,q1,q2,qm],.inr rfl,λh=>?_⟩;have h:lo=0:=by simpa using h
         subst h;rfl
        .cases hbase
       .cases hbase
      |_=>simp [Tn] at hbase
     obtain ⟨ask,src,q1,q2,q3⟩:=hB;refine ⟨[],?_⟩;simp only [dN,ha,hts,hsT,hxT,hs',hx',he,q1,j1'];rw [if_pos ⟨hb0,hsz,q2,by rw [j2'];exact h3⟩];refine ⟨_,rfl,⟨λhp=>?_,rfl,?_,rfl⟩⟩
     .obtain ⟨p1,p2⟩:=iM hp;refine ⟨q3 p1,?_⟩;rw [eU,eU];simpa using p2
     .show (d,O.aN (a||a2) (i||i2') (size et) (iL ak) (aH et old++aH et new) none)::kills (ks++g2::(bU o g2).hn)=iI (_::lJ _);rw [qC,qE,j2',<-yF];rfl
    .cases h
   .cases h
  .cases h
 .cases h
theorem aaW(t:TypeId)(x:Operand)(lo hi mx:Option Operand):JM tt ety d o f (.slice t x lo hi mx) ty:=by
 intro r h;cases lo with
 |some _=>simp [jH] at h
 |none=>
 cases mx with
 |some _=>simp [jH] at h
 |none=>
 simp only [jH] at h;split at h
 .cases h
 .split at h
  .rename_i e i1 i2 i3 g ht hx;have hx':bf (f x)=.v (.one (.own g)):=by rw [hx];rfl
   split at h
   .rename_i ie a i et l he hg;change List (Dt et) at l;obtain ⟨hb,h⟩:=bM h;split at h
    .rename_i hi' hhi;simp only [Q0] at h;subst h;have vO:=lV hhi;have hg':bU o g=.arr false a i (size et) (aH et l):=iC hg;refine ⟨[],?_⟩;have en:kY (aH et l).length=P.int .i64 (List.length (α:=Dt et) l:Int):=by rw [eU];rfl
     simp only [dN,ht,hx',he,hg'];rw [if_pos (Q4 hb)];simp only [en,vO];refine ⟨_,rfl,⟨λhp=>?_,rfl,?_,rfl⟩⟩
     .obtain ⟨h1,h2⟩:=iM hp;have h1:=of_decide_eq_true h1;have h2:=of_decide_eq_true h2;exact ⟨hi'.toNat,by rw [K0 h1],by rw [eU];omega⟩
     .show [(d,O.arr false a i (size et) ((aH et l).take (P.nat (.int .i64 hi')))),(g,O.none)]=[(d,O.arr false a i (size et) (aH et (List.take hi'.toNat l))),(g,O.none)];rw [qm]
    .cases h
   .rename_i ie a i et ak l he hg;change List (Dt et) at l;obtain ⟨hb,h⟩:=bM h;split at h
    .rename_i hi' hhi;simp only [Q0] at h;subst h;have vO:=lV hhi;have hg':bU o g=.aN a i (size et) (iL ak) (aH et l) none:=by simp [bU,hg,dU]
     refine ⟨[],?_⟩;have en:kY (aH et l).length=P.int .i64 (List.length (α:=Dt et) l:Int):=by rw [eU];rfl
     simp only [dN,ht,hx',he,hg'];rw [if_pos (Q4 hb)];simp only [en,vO];refine ⟨_,rfl,⟨λhp=>?_,rfl,?_,rfl⟩⟩
     .obtain ⟨h1,h2⟩:=iM hp;have h1:=of_decide_eq_true h1;have h2:=of_decide_eq_true h2;exact ⟨hi'.toNat,by rw [K0 h1],by rw [eU];omega⟩
     .show [(d,O.aN a i (size et) (iL ak) ((aH et l).take (P.nat (.int .i64 hi'))) none),(g,O.none)]=[(d,O.aN a i (size et) (iL ak) (aH et (List.take hi'.toNat l)) none),(g,O.none)];rw [qm]
    .cases h
   .cases h
  .cases h
theorem Tt(op:Op):JM tt ety d o f op ty:=by
 cases op
 case load t x=>exact adv t x
 case store t x y=>exact aaV t x y
 case buildSlice t n ps=>exact JQ t n ps
 case makeSlice t n c=>exact MH t n c
 case slice t x lo hi mx=>exact aaW t x lo hi mx
 case call c=>
  obtain ⟨callee,args,ts⟩:=c;cases callee
  case builtin b=>
   cases b
   case append=>exact WH args ts
   all_goals (intro r h;simp [jH] at h)
  all_goals (intro r h;simp [jH] at h)
 all_goals (intro r h;simp [jH] at h)
end
end
end Go.Fg

namespace Go.Fg
open Go.Fw
inductive Prog:Type->Type 1 where
 |ret {R:Type} (r:R):Prog R
 |stuck {R:Type} (n:Nat):Prog R
 |cond {R:Type} (b:Bool) (x y:Prog R):Prog R
 |chk {R:Type} (b:Bool) (x:Prog R):Prog R
 |any {R:Type} (x y:Prog R):Prog R
 |let_ {A R:Type} (x:A) (k:A->Prog R):Prog R
 |join {A R:Type} (x:Prog A) (k:A->Prog R):Prog R
 |NG {A R:Type} (x:Prog (A ⊕ R)) (k:A->Prog R):Prog R
 |loop {A R:Type} (a:A) (body:A->Prog (A ⊕ R)):Prog R
 |call {A B R:Type} (n:Nat) (f:A->Option B) (a:A) (k:B->Prog R):Prog R
def Prog.map:{R R':Type}->(R->R')->Prog R->Prog R'
 |_,_,f,.ret r=>.ret (f r)
 |_,_,_,.stuck n=>.stuck n
 |_,_,f,.cond b x y=>.cond b (x.map f) (y.map f)
 |_,_,f,.chk b x=>.chk b (x.map f)
 |_,_,f,.any x y=>.any (x.map f) (y.map f)
 |_,_,f,.let_ x k=>.let_ x λz=>(k z).map f
 |_,_,f,.join x k=>.join x λz=>(k z).map f
 |_,_,f,.NG x k=>.NG (x.map (Sum.map id f)) λz=>(k z).map f
 |_,_,f,.loop a body=>.loop a λz=>(body z).map (Sum.map id f)
 |_,_,f,.call n g a k=>.call n g a λz=>(k z).map f
def jQ{A R:Type}(body:A->Option (A ⊕ R)):Nat->A->Option R
 |0,_=>none
 |n+1,a=>(body a).bind λ
  |.inl a'=>jQ body n a'
  |.inr r=>some r
open Classical in
noncomputable def bF{A R:Type}(body:A->Option (A ⊕ R))(a:A):Option R:=
 if h :∃n r,jQ body n a=some r then jQ body (Classical.choose h) a else none
open Classical in
noncomputable def both{R:Type}(x y:Option R):Option R:=if x=y then x else none
def ck{R:Type}(b:Bool)(x:Option R):Option R:=bif b then x else none
def d_{A R:Type}(x:Option (A ⊕ R))(k:A->Option R):Option R:=x.bind λ
 |.inl z=>k z
 |.inr r=>some r
def dL(x:Int):Int:=IntKind.i64.wrap x
noncomputable def Prog.run:{R:Type}->Prog R->Option R
 |_,.ret r=>some r
 |_,.stuck _=>none
 |_,.cond b x y=>bif b then x.run else y.run
 |_,.chk b x=>ck b x.run
 |_,.any x y=>both x.run y.run
 |_,.let_ x k=>(k x).run
 |_,.join x k=>x.run.bind λz=>(k z).run
 |_,.NG x k=>d_ x.run λz=>(k z).run
 |_,.loop a body=>bF (λz=>(body z).run) a
 |_,.call _ g a k=>(g a).bind λz=>(k z).run
section
variable [RE]
inductive kD where
 |p (a i:Bool) (t:Ty)
 |dw
 |own (g:Nat)
 |box (g off:Nat)
 |fn (f:FuncId) (gs:List Nat)
 |nJ (g:Nat)
 |no
 |vw (g:Nat)
 |ep (g off:Nat)
inductive kK where
 |one (x:kD)
 |agg (xs:List kD)
inductive iO where
 |box (ws:List kD)
 |arr (fz a i:Bool) (e:Ty)
 |it
 |aN (a i:Bool) (e:Ty) (ak:List (Nat×Ty))
structure NH where
 slots:List (Nat×kK)
 aZ:List (Nat×iO)
def kD.er:kD->WS
 |.p a i _=>.p a i
 |.dw=>.dw
 |.own g=>.own g
 |.box g off=>.box g off
 |.fn f gs=>.fn f gs
 |.nJ g=>.nJ g
 |.no=>.no
 |.vw g=>.vw g
 |.ep g off=>.ep g off
def kK.er:kK->SS
 |.one x=>.one x.er
 |.agg xs=>.agg (xs.map kD.er)
def iO.er:iO->OS
 |.box ws=>.box (ws.map kD.er)
 |.arr fz a i e=>.arr fz a i (size e)
 |.it=>.it
 |.aN a i e ak=>.aN a i (size e) (iL ak)
def NH.er(j:NH):Shape:=⟨j.slots.map λp=>(p.1,p.2.er),j.aZ.map λp=>(p.1,p.2.er)⟩
def kD.tys:kD->List Ty
 |.p _ _ t=>[t]
 |.vw _=>[.int .i64,.int .i64]
 |.ep _ _=>[.int .i64]
 |_=>[]
def kK.tys:kK->List Ty
 |.one x=>x.tys
 |.agg xs=>xs.flatMap kD.tys
def iO.tys:iO->List Ty
 |.box ws=>ws.flatMap kD.tys
 |.arr _ _ _ e=>[.sl e]
 |.it=>[.str,.int .i64]
 |.aN _ _ e _=>[.sl e]
def NH.tys(j:NH):List Ty:=j.slots.flatMap (λp=>p.2.tys)++j.aZ.flatMap λp=>p.2.tys
def Tup:List Ty->Type
 | []=>Unit
 | [t]=>Dt t
 |t::u::ts=>Dt t×Tup (u::ts)
def Tup.mg:(ts:List Ty)->Tup ts->List Wd
 | [],_=>[]
 | [t],x=>[⟨t,x⟩]
 |t::u::ts,x=>⟨t,x.1⟩::Tup.mg (u::ts) x.2
def Tup.ofL:(ts:List Ty)->List Wd->Option (Tup ts)
 | [],[]=>some ()
 | [t],[w]=>w.BG t
 |t::u::ts,w::ws=>match w.BG t,Tup.ofL (u::ts) ws with
  |some x,some xs=>some (x,xs)
  |_,_=>none
 |_,_=>none
def H7(m:Ren):List Nat->List TW->Bool
 | [],[]=>true
 |g'::gs,.box g off::cs=>decide (m.lookup g'=some (some g))&&(Nat.beq off 0&&H7 m gs cs)
 |_,_=>false
def EF:List Nat->List TW
 | []=>[]
 |g::gs=>.box g 0::EF gs
def EG(m:Ren):kD->TW->Option (List Wd)
 |.p a i t,.p a' i' w=>match w.BG t with
  |some _=>bif (imp a' a&&imp i' i)||w.t.flat then some [w] else none
  |none=>none
 |.p _ _ t,.dw=>match t with
  |.sl e=>some [uD e []]
  |_=>none
 |.dw,.dw=>some []
 |.own g',.own g=>if m.lookup g'=some (some g) then some [] else none
 |.own g',.dw=>if m.lookup g'=some none then some [] else none
 |.box g' off,.box g off'=>if m.lookup g'=some (some g)/\off=off' then some [] else none
 |.fn f gs,.clo f' caps=>bif Nat.beq f f'&&H7 m gs caps then some [] else none
 |.nJ g',.nJ g=>if m.lookup g'=some (some g) then some [] else none
 |.no,_=>some []
 |.vw g',.vw g lo hi=>if m.lookup g'=some (some g) then some [iY .i64 lo,iY .i64 hi] else none
 |.ep g' off,.ep g n off'=>if m.lookup g'=some (some g)/\off=off' then some [iY .i64 n] else none
 |_,_=>none
def yG(m:Ren):List kD->List TW->Option (List Wd)
 | [],[]=>some []
 |k::ks,x::xs=>match EG m k x,yG m ks xs with
  |some u,some v=>some (u++v)
  |_,_=>none
 |_,_=>none
def agN(m:Ren):kK->TS->Option (List Wd)
 |.one k,.v (.one x)=>EG m k x
 |.agg ks,.v (.agg xs)=>yG m ks xs
 |_,_=>none
def WI(m:Ren):iO->TO->Option (List Wd)
 |.box ks,.box xs=>yG m ks xs
 |.arr fz a i e,.arr fz' a' i' e' l=>match (uD e' l).BG (.sl e) with
  |some l=>if fz=fz'/\(imp a' a&&imp i' i)=true then some [uD e l] else none
  |none=>none
 |.it,.it s n=>some [SY s,iY .i64 n]
 |.aN a i e ak,.aN a' i' e' iE l hole=>match hole,(uD e' l).BG (.sl e),Gn ak iE with
  |none,some l,true=>if (imp a' a&&imp i' i)=true then some [uD e l] else none
  |_,_,_=>none
 |_,_=>none
def nU(m:Ren)(s:Nat->TS):List (Nat×kK)->Option (List Wd)
 | []=>some []
 |(t,k)::rest=>match agN m k (s t),nU m s rest with
  |some u,some v=>some (u++v)
  |_,_=>none
def qp(m:Ren)(o:Nat->TO):List (Nat×iO)->Option (List Wd)
 | []=>some []
 |(g',k)::rest=>match (match m.lookup g' with
   |some (some g)=>WI m k (o g)
   |some none=>(match k with
    |.arr false _ _ e=>some [uD e []]
    |.aN _ _ e _=>some [uD e []]
    |_=>none)
   |none=>none),qp m o rest with
  |some u,some v=>some (u++v)
  |_,_=>none
def Dh(j:NH)(m:Ren)(st:jl):Option (List Wd):=
 match j.er.ok&&aiL j.er m with
 |true=>match nU m st.gs j.slots,qp m st.go j.aZ with
  |some u,some v=>some (u++v)
  |_,_=>none
 |false=>none
def AX:Wd:=⟨.bool,false⟩
def AY(vs:List Wd)(n:Nat):kD->TW×Nat
 |.p a i _=>(.p a i (vs.getD n AX),n+1)
 |.dw=>(.dw,n)
 |.own g=>(.own g,n)
 |.box g off=>(.box g off,n)
 |.fn f gs=>(.clo f (EF gs),n)
 |.nJ g=>(.nJ g,n)
 |.no=>(.no,n)
 |.vw g=>(.vw g ((vs.getD n AX).as (.int .i64)) ((vs.getD (n+1) AX).as (.int .i64)),n+2)
 |.ep g off=>(.ep g ((vs.getD n AX).as (.int .i64)) off,n+1)
def uK(vs:List Wd):Nat->List kD->List TW×Nat
 |n,[]=>([],n)
 |n,k::ks=>((AY vs n k).1::(uK vs (AY vs n k).2 ks).1,(uK vs (AY vs n k).2 ks).2)
def Hl(vs:List Wd)(n:Nat):kK->TS×Nat
 |.one k=>(.v (.one (AY vs n k).1),(AY vs n k).2)
 |.agg ks=>(.v (.agg (uK vs n ks).1),(uK vs n ks).2)
def EH(vs:List Wd)(n:Nat):iO->TO×Nat
 |.box ks=>(.box (uK vs n ks).1,(uK vs n ks).2)
 |.arr fz a i e=>(.arr fz a i e ((vs.getD n AX).as (.sl e)),n+1)
 |.it=>(.it ((vs.getD n AX).as .str) ((vs.getD (n+1) AX).as (.int .i64)),n+2)
 |.aN a i e ak=>(.aN a i e ak ((vs.getD n AX).as (.sl e)) none,n+1)
def gK(vs:List Wd):Nat->List (Nat×kK)->List (Nat×TS)×Nat
 |n,[]=>([],n)
 |n,(t,k)::rest=>((t,(Hl vs n k).1)::(gK vs (Hl vs n k).2 rest).1,(gK vs (Hl vs n k).2 rest).2)
def jW(vs:List Wd):Nat->List (Nat×iO)->List (Nat×TO)×Nat
 |n,[]=>([],n)
 |n,(g,k)::rest=>((g,(EH vs n k).1)::(jW vs (EH vs n k).2 rest).1,(jW vs (EH vs n k).2 rest).2)
def mkT(j:NH)(vs:List Wd):jl:=
 { s:=(gK vs 0 j.slots).1,o:=(jW vs (gK vs 0 j.slots).2 j.aZ).1,u:=j.aZ.map (·.1) }
def Yk:List Nat->List TW->Ren
 |g'::gs,.box g _::cs=>(g',some g)::Yk gs cs
 |_,_=>[]
def ank:kD->TW->Ren
 |.own g',.own g=>[(g',some g)]
 |.own g',.dw=>[(g',none)]
 |.box g' _,.box g _=>[(g',some g)]
 |.nJ g',.nJ g=>[(g',some g)]
 |.fn _ gs,.clo _ caps=>Yk gs caps
 |.vw g',.vw g _ _=>[(g',some g)]
 |.ep g' _,.ep g _ _=>[(g',some g)]
 |_,_=>[]
def adw:List kD->List TW->Ren
 |k::ks,x::xs=>ank k x++adw ks xs
 |_,_=>[]
def aqU:kK->TS->Ren
 |.one k,.v (.one x)=>ank k x
 |.agg ks,.v (.agg xs)=>adw ks xs
 |_,_=>[]
def Tv(s:Nat->TS):List (Nat×kK)->Ren
 | []=>[]
 |(t,k)::r=>aqU k (s t)++Tv s r
def H8(m:Ren)(o:Nat->TO):List (Nat×iO)->Ren
 | []=>[]
 |(g',.box ks)::r=>(match m.lookup g' with
  |some (some g)=>match o g with
   |.box ws=>adw ks ws
   |_=>[]
  |_=>[])++H8 m o r
 |_::r=>H8 m o r
def derive(bg:List Nat)(j:NH)(st:jl):Ren:=
 let m0:=bg.map (λg=>(g,some g))++Tv st.gs j.slots
 let m1:=m0++H8 m0 st.go j.aZ
 m1++H8 m1 st.go j.aZ
structure dH where
 bn:Nat
 pin:NH
 aT:NH
 dD:Nat
 bg:List Nat
 aW:List Nat
 kept:List Nat:=[]
def dH.er(s:dH):zV:={ bn:=s.bn,pin:=s.pin.er,aT:=s.aT.er,dD:=s.dD,bg:=s.bg,aW:=s.aW }
open Classical in
noncomputable def yH{A R:Type}(x y:A)(r:Option R):Option R:=if x=y then r else none
noncomputable def JR{R:Type}(a b:Nat->TO)(r:R):List Nat->Option R
 | []=>some r
 |g::gs=>match a g,b g with
  |.arr false _ _ e l,.arr false _ _ e' l'=>match (uD e' l').BG (.sl e) with
   |some l''=>yH (A:=List (Dt e)) l'' l (JR a b r gs)
   |none=>none
  |.aN _ _ e ak l none,.aN _ _ e' iE l' none=>match (uD e' l').BG (.sl e),Gn ak iE with
   |some l'',true=>yH (A:=List (Dt e)) l'' l (JR a b r gs)
   |_,_=>none
  |_,_=>none
structure aY where
 sig:dH
 f:Tup sig.pin.tys->Option (Tup sig.aT.tys)
noncomputable def aY.ff(s:aY):Tup s.sig.pin.tys->Option (Tup s.sig.aT.tys):=match s.sig.kept with
 | []=>s.f
 |g::gs=>λx=>(s.f x).bind λy=>JR (mkT s.sig.pin (Tup.mg s.sig.pin.tys x)).go (mkT s.sig.aT (Tup.mg s.sig.aT.tys y)).go y (g::gs)
abbrev kW:=FuncId->Option aY
structure Ho where
 ins:List Wd
 A:Bool×Bool
 I:Bool×Bool
 vF:List Nat
 ren:List (Nat×Nat)
def pK:List Nat->List TW->Option (List (Nat×Nat))
 | [],[]=>some []
 |g'::gs,.box g off::cs=>bif Nat.beq off 0 then match pK gs cs with
  |some r=>some ((g',g)::r)
  |none=>none
  else none
 |_,_=>none
def NI(o:Nat->TO):kD->TW->Option (List Wd×(Bool×Bool)×List Nat×List (Nat×Nat))
 |.p _ _ t,x=>match x.toP o t with
  |some (y,a,i,gs)=>some ([⟨t,y⟩],(a,i),gs,[])
  |none=>none
 |.own g',.own g=>some ([],(false,false),[],[(g',g)])
 |.box g' off',.box g off=>bif Nat.beq off' 0&&Nat.beq off 0 then some ([],(false,false),[],[(g',g)]) else none
 |.fn f gs,.clo f' caps=>bif Nat.beq f f' then match pK gs caps with
  |some r=>some ([],(false,false),[],r)
  |none=>none
  else none
 |_,_=>none
def qg(o:Nat->TO):List kD->List TW->Option (List Wd×(Bool×Bool)×List Nat×List (Nat×Nat))
 | [],[]=>some ([],(false,false),[],[])
 |k::ks,x::xs=>match NI o k x,qg o ks xs with
  |some (u,c,g,r),some (u',c',g',r')=>some (u++u',xC c c',g++g',r++r')
  |_,_=>none
 |_,_=>none
def Yl(o:Nat->TO):kK->TS->Option (List Wd×(Bool×Bool)×List Nat×List (Nat×Nat))
 |.one k,.v (.one x)=>NI o k x
 |.agg ks,.v (.agg xs)=>qg o ks xs
 |_,_=>none
def nG(o:Nat->TO)(args:List TS):List (Nat×kK)->Option (List Wd×(Bool×Bool)×List Nat×List (Nat×Nat))
 | []=>some ([],(false,false),[],[])
 |(t,k)::rest=>match Yl o k (args.getD t .no),nG o args rest with
  |some (u,c,g,r),some (u',c',g',r')=>some (u++u',xC c c',g++g',r++r')
  |_,_=>none
def akH:kD->TW->Option (List Wd×(Bool×Bool)×List (Nat×Nat))
 |.p _ _ t,.p a i w=>match w.BG t with
  |some x=>some ([⟨t,x⟩],(a,i),[])
  |none=>none
 |.p _ _ t,.dw=>match t with
  |.sl e=>some ([uD e []],(false,false),[])
  |_=>none
 |.own g',.own g=>some ([],(false,false),[(g',g)])
 |.box g' off',.box g off=>bif Nat.beq off' 0&&Nat.beq off 0 then some ([],(false,false),[(g',g)]) else none
 |.fn f gs,.clo f' caps=>bif Nat.beq f f' then match pK gs caps with
  |some r=>some ([],(false,false),r)
  |none=>none
  else none
 |_,_=>none
def JU:List kD->List TW->Option (List Wd×(Bool×Bool)×List (Nat×Nat))
 | [],[]=>some ([],(false,false),[])
 |k::ks,x::xs=>match akH k x,JU ks xs with
  |some (u,c,r),some (u',c',r')=>some (u++u',xC c c',r++r')
  |_,_=>none
 |_,_=>none
def wF(o:Nat->TO):List (Nat×Nat)->List (Nat×iO)->Option (List Wd×(Bool×Bool)×List (Nat×Nat))
 |ren,[]=>some ([],(false,false),ren)
 |ren,(g',k)::rest=>match ren.lookup g' with
  |some g=>match k,o g with
   |.box ks,.box ws=>match JU ks ws with
    |some (u,c,r)=>match wF o (ren++r) rest with
     |some (u',c',r')=>some (u++u',xC c c',r')
     |none=>none
    |none=>none
   |.arr _ _ _ e,.arr false a i e' l=>match (uD e' l).BG (.sl e) with
    |some l=>match wF o ren rest with
     |some (u',c',r')=>some (uD e l::u',xC (a,i) c',r')
     |none=>none
    |none=>none
   |.aN _ _ e ak,.aN a i e' iE l hole=>match hole,(uD e' l).BG (.sl e),Gn ak iE with
    |none,some l,true=>match wF o ren rest with
     |some (u',c',r')=>some (uD e l::u',xC (a,i) c',r')
     |none=>none
    |_,_,_=>none
   |_,_=>none
  |none=>none
def zx(s:dH)(o:Nat->TO)(args:List TS):Option Ho:=
 match nG o args s.pin.slots with
 |some (u,A,gs,r)=>match wF o r s.pin.aZ with
  |some (u',I,r')=>some { ins:=u++u',A,I,vF:=gs,ren:=j_ r' }
  |none=>none
 |none=>none
def Ho.er(c:Ho):M_:={ ins:=c.ins.map dn,A:=c.A,I:=c.I,vF:=c.vF,ren:=c.ren }
def yI(f:Nat->Nat):List TW->List TW
 | []=>[]
 |.box g off::r=>.box (f g) off::yI f r
 |_::r=>.no::yI f r
def aaX(A I:Bool×Bool)(f:Nat->Nat):TW->TW
 |.p a i x=>.p (qN A I a i).1 (qN A I a i).2 x
 |.dw=>.dw
 |.own g=>.own (f g)
 |.box g off=>.box (f g) off
 |.clo fn caps=>.clo fn (yI f caps)
 |_=>.no
def akI(A I:Bool×Bool)(f:Nat->Nat):TV->TV
 |.one x=>.one (aaX A I f x)
 |.agg xs=>.agg (xs.map (aaX A I f))
def adx(A I:Bool×Bool)(f:Nat->Nat):TS->TV
 |.v x=>akI A I f x
 |_=>.one .no
def P9(A I:Bool×Bool)(f:Nat->Nat):TO->TO
 |.none=>.none
 |.box ws=>.box (ws.map (aaX A I f))
 |.arr fz a i e l=>.arr fz (qN A I a i).1 (qN A I a i).2 e l
 |.it s n=>.it s n
 |.aN a i e ak l _=>.aN (qN A I a i).1 (qN A I a i).2 e ak l none
structure jI where
 x:TS
 aJ:List (Nat×TO)
 new:List Nat
def jI.er(e:jI):Eff:={ x:=bf e.x,aJ:=iI e.aJ,new:=e.new }
def ady(vs:List TV):TS:=match vs with
 | [x]=>.v x
 |xs=>.jD xs
def uM(s:dH)(d:Nat)(o:Nat->TO)(c:Ho)(dG:List Wd):jI:=
 let x:=mkT s.aT dG
 let f:=callName d s.er c.ren
 { x:=ady ((List.range s.dD).map λk=>adx c.A c.I f (x.gs k)),aJ:=(bif s.er.mM then c.vF.map (lT o) else [])++c.ren.map (λp=>(p.2,bif s.bg.contains p.1 then P9 c.A c.I f (x.go p.1) else .none))++s.aW.map (λg=>(f g,P9 c.A c.I f (x.go g))),new:=s.aW.map f }
def akJ:Bool->Bool->Bool
 |true,true=>true
 |false,false=>true
 |_,_=>false
def WJ:TO->Option (Bool×Bool)
 |.arr fz a i _ _=>match fz with
  |true=>none
  |false=>some (a,i)
 |.aN a i _ _ _ hole=>match hole with
  |none=>some (a,i)
  |some _=>none
 |_=>none
def Di(s:dH)(o f:Nat->TO):List (Nat×Nat)->List Nat
 | []=>[]
 |(g',g)::r=>match fJ g' s.kept&&s.bg.contains g',WJ (o g),WJ (f g') with
  |true,some (a,i),some (a',i')=>match akJ a a'&&akJ i i' with
   |true=>g::Di s o f r
   |false=>Di s o f r
  |_,_,_=>Di s o f r
def NJ(same:List Nat):List (Nat×TO)->List (Nat×TO)
 | []=>[]
 |(g,x)::r=>match fJ g same with
  |true=>NJ same r
  |false=>(g,x)::NJ same r
def zy(s:dH)(d:Nat)(o:Nat->TO)(c:Ho)(dG:List Wd):jI:=match s.kept with
 | []=>uM s d o c dG
 |_::_=>
  let e:=uM s d o c dG
  { e with aJ:=NJ (Di s o (λg'=>P9 c.A c.I (callName d s.er c.ren) ((mkT s.aT dG).go g')) c.ren) e.aJ }
def jI.skip:jI:={ x:=.jD [],aJ:=[],new:=[] }
def Dj(l:List (Nat×TO)):List (Nat×TO)->List (Nat×TO)
 | []=>l
 |(g,x)::r=>yA g x (Dj l r)
structure jT where
 st:jl
 ds:List Nat
 od:List Nat
def jl.put(st:jl)(dst:Option Tmp)(x:TS):jl:=match dst with
 |some t=>{ st with s:=yA t x st.s }
 |none=>st
def jT.eff(q:jT)(dst:Option Tmp)(e:jI):jT:=
 { st:={ s:=(q.st.put dst e.x).s,o:=Dj q.st.o e.aJ,u:=e.new++q.st.u },ds:=(match dst with | some t=>t::q.ds | none=>q.ds),od:=e.aJ.map (·.1)++q.od }
def frB{β:Type 1}(b:Bool)(k:Bool->β):β:=match b with
 |true=>k true
 |false=>k false
def P_{β:Type 1}:Ty->(Ty->β)->β
 |.int .i8,k=>k (.int .i8)
 |.int .i16,k=>k (.int .i16)
 |.int .i32,k=>k (.int .i32)
 |.int .i64,k=>k (.int .i64)
 |.int .u8,k=>k (.int .u8)
 |.int .u16,k=>k (.int .u16)
 |.int .u32,k=>k (.int .u32)
 |.int .u64,k=>k (.int .u64)
 |.bool,k=>k .bool
 |.str,k=>k .str
 |.sl e,k=>P_ e λe=>k (.sl e)
 |.prod a b,k=>P_ a λa=>P_ b λb=>k (.prod a b)
 |.st n,k=>k (.st n)
 |.opq,k=>k .opq
 |.sq e,k=>P_ e λe=>k (.sq e)
def frW{β:Type 1}:TW->(TW->β)->β
 |.p a i ⟨t,x⟩,k=>frB a λa=>frB i λi=>k (.p a i ⟨t,x⟩)
 |.dw,k=>k .dw
 |.own g,k=>k (.own g)
 |.vw g lo hi,k=>k (.vw g lo hi)
 |.box g off,k=>k (.box g off)
 |.ep g n off,k=>k (.ep g n off)
 |.sp a i t x off,k=>frB a λa=>frB i λi=>k (.sp a i t x off)
 |.clo f caps,k=>k (.clo f caps)
 |.gl g,k=>k (.gl g)
 |.nJ g,k=>k (.nJ g)
 |.no,k=>k .no
def adA{β:Type 1}:List TW->(List TW->β)->β
 | [],k=>k []
 |x::xs,k=>frW x λx=>adA xs λxs=>k (x::xs)
def frV{β:Type 1}:TV->(TV->β)->β
 |.one x,k=>frW x λx=>k (.one x)
 |.agg xs,k=>adA xs λxs=>k (.agg xs)
def agO{β:Type 1}:List TV->(List TV->β)->β
 | [],k=>k []
 |x::xs,k=>frV x λx=>agO xs λxs=>k (x::xs)
def frS{β:Type 1}:TS->(TS->β)->β
 |.v x,k=>frV x λx=>k (.v x)
 |.jD xs,k=>agO xs λxs=>k (.jD xs)
 |.no,k=>k .no
def frC{β:Type 1}:List (Nat×Ty)->(List (Nat×Ty)->β)->β
 | [],k=>k []
 |(c,t)::r,k=>P_ t λt=>frC r λr=>k ((c,t)::r)
def frH{β:Type 1}:Option (Nat×Nat×Nat)->(Option (Nat×Nat×Nat)->β)->β
 |none,k=>k none
 |some (n,c,d),k=>k (some (n,c,d))
def frO{β:Type 1}:TO->(TO->β)->β
 |.none,k=>k .none
 |.box ws,k=>adA ws λws=>k (.box ws)
 |.arr fz a i e l,k=>frB fz λfz=>frB a λa=>frB i λi=>k (.arr fz a i e l)
 |.it s n,k=>k (.it s n)
 |.aN a i e ak l hole,k=>frB a λa=>frB i λi=>frC ak λak=>frH hole λhole=>k (.aN a i e ak l hole)
def agP{β:Type 1}:List (Nat×TS)->(List (Nat×TS)->β)->β
 | [],k=>k []
 |(t,x)::r,k=>frS x λx=>agP r λr=>k ((t,x)::r)
def agQ{β:Type 1}:List (Nat×TO)->(List (Nat×TO)->β)->β
 | [],k=>k []
 |(t,x)::r,k=>frO x λx=>agQ r λr=>k ((t,x)::r)
def MI{β:Type 1}:List Nat->(List Nat->β)->β
 | [],k=>k []
 |x::r,k=>MI r λr=>k (x::r)
def frX{β:Type 1}(q:jT)(k:jT->β):β:=
 agP q.st.s λs=>agQ q.st.o λo=>MI q.st.u λu=>MI q.ds λds=>MI q.od λod=>k ⟨⟨s,o,u⟩,ds,od⟩
def adB:TS->Option Nat
 |.v (.one (.clo g _))=>some g
 |_=>none
def JV:List TS->Option Nat
 | []=>none
 |x::l=>match adB x with
  |some g=>some g
  |none=>JV l
def EI(fn:Nat)(l:List TS):Nat:=match JV l with
 |some g=>fn+1000000*(g+1)
 |none=>fn
def Ym(T:kW)(fn:Nat)(l:List TS):Option aY:=match Nat.blt fn 1000000 with
 |true=>match T (EI fn l) with
  |some sp=>some sp
  |none=>T fn
 |false=>none
def pkT(T:kW)(fn:Nat)(l:List TS):Nat:=match T (EI fn l) with
 |some _=>EI fn l
 |none=>fn
def yJ:List TW->List Nat
 | []=>[]
 |.box g _::r=>g::yJ r
 |x::r=>(bV x).names++yJ r
def W.namesT:TW->List Nat
 |.own g | .vw g _ _ | .box g _ | .ep g _ _ | .nJ g=>[g]
 |.clo _ caps=>yJ caps
 |_=>[]
def V.namesT:TV->List Nat
 |.one x=>W.namesT x
 |.agg xs=>xs.flatMap W.namesT
def S.namesT:TS->List Nat
 |.v x=>V.namesT x
 |.jD xs=>xs.flatMap V.namesT
 |.no=>[]
def Tz:TO->Option Nat
 |.aN _ _ _ _ _ hole=>match hole with
  |some (_,_,d)=>some d
  |none=>none
 |_=>none
def EJ:TO->List Nat
 |.box ws=>ws.flatMap W.namesT
 |_=>[]
def Dk(o:Nat->TO):Nat->List Nat->List Nat
 |0,gs=>gs
 |n+1,gs=>gs++Dk o n (gs.flatMap λg=>EJ (o g))
def zA(st:jl)(o:Oper):List Nat:=match o.op with
 |.call { callee:=.value _,args,.. }=>args.toList.flatMap λx=>S.namesT (st.dh x)
 |.slice _ x _ _ _=>S.namesT (st.dh x)
 |_=>[]
def H9(st:jl)(o:Oper):List Nat:=Dk st.go 2 (zA st o)
def H_(st:jl)(o:Oper):List Nat:=(H9 st o).filter λg=>match iZ (st.go g) with
 | []=>false
 |d::_=>!fJ d (zA st o)
def JW:List Nat->jl->Option jl
 | [],st=>some st
 |g::gs,st=>match Tz (st.go g),xk st.go g with
  |some d,some ⟨a,i,e,ak,l⟩=>JW gs { st with o:=Dj st.o [(g,.aN a i e ak l none),(d,.none)] }
  |_,_=>none
def WL(hs:List Nat)(st st1:jl):List (Nat×TO):=hs.flatMap λg=>(g,st1.go g)::(iZ (st.go g)).map λd=>(d,st1.go d)
noncomputable def Yn{R:Type}(T:kW)(tt:TT)(ety:TypeId->Option Ty)(d:Nat)(st:jl)(o:Oper)(K:jI->Prog R):Prog R:=
 match o.op with
 |.call { callee:=.value f,args,.. }=>match st.dh f with
  |.v (.one (.clo fn caps))=>match Ym T fn (args.toList.map st.dh) with
   |some sp=>match zx sp.sig st.go ((args.toList.map st.dh)++caps.map λx=>TS.v (.one x)) with
    |some c=>match c.er.fine sp.sig.er&&Nat.beq (args.size+caps.length) sp.sig.bn with
     |true=>match Tup.ofL sp.sig.pin.tys c.ins with
      |some x=>match sp.sig.er.ok with
       |true=>.call (pkT T fn (args.toList.map st.dh)) sp.ff x λy=>K (zy sp.sig d st.go c (Tup.mg sp.sig.aT.tys y))
       |false=>.stuck 17
      |none=>.stuck 11
     |false=>.stuck 12
    |none=>.stuck 13
   |none=>.stuck 14
  |_=>.stuck 15
 |op=>match jH tt ety d st.go st.dh op o.type with
  |some r=>.chk r.pre (.let_ r.val λz=>K { x:=r.dst z,aJ:=r.aJ z,new:=r.new })
  |none=>match dS tt ety d st.go st.dh op o.type with
   |some r=>.chk r.pre (.let_ r.val λz=>K { x:=r.dst z,aJ:=r.aJ z,new:=r.new })
   |none=>.stuck 16
noncomputable def aaY{R:Type}(T:kW)(tt:TT)(ety:TypeId->Option Ty)(d:Nat)(st:jl)(o:Oper)(K:jI->Prog R):Prog R:=
 match H_ st o with
 | []=>Yn T tt ety d st o K
 |g::gs=>match JW (g::gs) st with
  |some st1=>Yn T tt ety d st1 o λe=>K { x:=e.x,aJ:=e.aJ++WL (g::gs) st st1,new:=e.new }
  |none=>.stuck 18
def AZ(u:List Nat):List Nat->Bool
 | []=>true
 |g::gs=>!fJ g u&&AZ u gs
def WM(ops:Array Oper)(st:jl)(j:Nat):Option (Tmp×Option (Bool×Bool×Bool)):=
 match (ops[j]?).bind (·.dst) with
 |some t=>match st.gs t with
  |.v (.one (.p a i ⟨.bool,b⟩))=>some (t,some (a,i,b))
  |.jD []=>some (t,none)
  |_=>none
 |none=>none
def Yo(N:Nat):Option Tmp->Bool
 |some d=>Nat.blt d N
 |none=>true
def jT.know(q:jT)(t:Tmp)(a i b:Bool):jT:={ q with st:={ q.st with s:=yA t (.v (.one (.p a i (je b)))) q.st.s } }
def jT.TB(q:jT)(t:Tmp)(a i:Bool)(k:IntKind)(n:Int):jT:={ q with st:={ q.st with s:=yA t (.v (.one (.p a i (iY k n)))) q.st.s } }
def adC(tt:TT)(st:jl)(t:TypeId)(x:Operand)(j:Tmp):Option (Bool×Bool×IntKind×Int×Nat):=
 match tt t with
 |some { k:=.arr n _,.. }=>match st.dh x with
  |.v (.one (.box _ _))=>match st.gs j with
   |.v (.one (.p a i ⟨.int k,v⟩))=>bif Nat.ble n 4 then some (a,i,k,v,n) else none
   |_=>none
  |.v (.one (.ep _ _ _))=>match st.gs j with
   |.v (.one (.p a i ⟨.int k,v⟩))=>bif Nat.ble n 4 then some (a,i,k,v,n) else none
   |_=>none
  |.v (.one (.sp _ _ _ _ _))=>match st.gs j with
   |.v (.one (.p a i ⟨.int k,v⟩))=>bif Nat.ble n 4 then some (a,i,k,v,n) else none
   |_=>none
  |_=>none
 |_=>none
def akK(tt:TT)(st:jl)(o:Oper):Option (Tmp×Bool×Bool×IntKind×Int×Nat):=
 match o.op with
 |.indexAddr t x (.tmp j)=>match adC tt st t x j with
  |some r=>some (j,r)
  |none=>none
 |_=>none
def Yp{R:Type}(v:Int)(k:Int->Prog R):Nat->Nat->Prog R
 |_,0=>.stuck 24
 |m,1=>.chk (eqI v (Int.ofNat m)) (k (Int.ofNat m))
 |m,n+2=>.cond (eqI v (Int.ofNat m)) (k (Int.ofNat m)) (Yp v k (m+1) (n+1))
noncomputable def stepT{R:Type}(T:kW)(tt:TT)(ety:TypeId->Option Ty)(N:Nat)(ops:Array Oper)(o:Oper)(q:jT)(K:jT->jI->Prog R):Prog R:=
 match Yo N o.dst with
 |false=>.stuck 20
 |true=>match o.guard with
  |none=>match akK tt q.st o with
   |none=>aaY T tt ety (o.dst.getD 0) q.st o λe=>match AZ q.st.u e.new with
    |true=>K q e
    |false=>.stuck 21
   |some (t,a,i,k,v,n)=>Yp v (λz=>frX (q.TB t a i k z) λq=>aaY T tt ety (o.dst.getD 0) q.st o λe=>match AZ q.st.u e.new with
    |true=>K q e
    |false=>.stuck 21) 0 n
  |some (j,want)=>match WM ops q.st j with
   |none=>.stuck 22
   |some (t,none)=>K q jI.skip
   |some (t,some (a,i,b))=>
    let on (q:jT):Prog R:=aaY T tt ety (o.dst.getD 0) q.st o λe=>match AZ q.st.u e.new with
     |true=>K q e
     |false=>.stuck 21
    .cond b (frX (q.know t a i true) λq=>bif want then on q else K q jI.skip) (frX (q.know t a i false) λq=>bif want then K q jI.skip else on q)
inductive Qa where
 |yes
 |no
 |may (empty:Bool)
def JX(o:Nat->TO):TS->Option Qa
 |.v (.one (.p _ _ ⟨.sl e,l⟩))=>some (.may (List.isEmpty (α:=Dt e) l))
 |.v (.one (.own g))=>match o g with
  |.arr _ _ _ _ l=>some (.may l.isEmpty)
  |.aN _ _ _ _ l _=>some (.may l.isEmpty)
  |_=>none
 |.v (.one .dw)=>some .yes
 |_=>none
def JY(o:Nat->TO):TS->Option Qa
 |.v (.one (.box g _))=>match o g with
  |.box _=>some .no
  |_=>none
 |.v (.one (.p _ _ ⟨.opq,.pointer none⟩))=>some .yes
 |_=>none
def Qb(o:Nat->TO)(x:TS)(k:TK)(c:Value):Option Qa:=
 match k,c with
 |.slice _,.slice none 0 0=>JX o x
 |.ptr,.pointer none=>JY o x
 |_,_=>none
def akL(tt:TT)(st:jl)(o:Oper):Option (Bool×Qa):=
 match o.guard with
 |some _=>none
 |none=>match o.op with
  |.binOp op t x (.const c) _=>match tt t with
   |some i=>match op,Qb st.go (st.dh x) i.k c with
    |.eql,some p=>some (true,p)
    |.neq,some p=>some (false,p)
    |_,_=>none
   |none=>none
  |_=>none
def TD(s:List UInt8)(n:Int):Bool:=decide (n.toNat<s.length)
def nV(s:List UInt8)(n:Int):Int:=((Utf8.decode ⟨s.toArray⟩ n.toNat).1:Nat)
def uN(s:List UInt8)(n:Int):Int:=((n.toNat+(Utf8.decode ⟨s.toArray⟩ n.toNat).2:Nat):Int)
def TF(n:Int):Int:=((n.toNat:Nat):Int)
def adD(st:jl)(o:Oper):Option (Nat×List UInt8×Int):=
 match o.guard with
 |some _=>none
 |none=>match o.op with
  |.next x true=>match st.dh x with
   |.v (.one (.nJ g))=>match st.go g with
    |.it s n=>some (g,s,n)
    |_=>none
   |_=>none
  |_=>none
def Qc(g:Nat)(s:List UInt8)(n:Int):jI:={ x:=.jD [.one (.p false false (je true)),.one (.p false false (iY .i64 (TF n))),.one (.p false false (iY .i32 (nV s n)))],aJ:=[(g,.it s (uN s n))],new:=[] }
def WO:jI:={ x:=.jD [.one (.p false false (je false))],aJ:=[],new:=[] }
def qU(b:Bool):jI:={ x:=Yh (je b),aJ:=[],new:=[] }
noncomputable def WQ{R:Type}(T:kW)(tt:TT)(ety:TypeId->Option Ty)(N:Nat)(ops:Array Oper)(o:Oper)(q:jT)(K:jT->jI->Prog R):Prog R:=
 match akL tt q.st o with
 |some (pos,c)=>match Yo N o.dst with
  |false=>.stuck 23
  |true=>match c with
   |.yes=>K q (qU pos)
   |.no=>K q (qU (!pos))
   |.may e=>.cond e (.any (K q (qU true)) (K q (qU false))) (K q (qU (!pos)))
 |none=>match adD q.st o with
  |some (g,s,n)=>match Yo N o.dst with
   |false=>.stuck 23
   |true=>.cond (TD s n) (K q (Qc g s n)) (K q WO)
  |none=>stepT T tt ety N ops o q K
noncomputable def runT{R:Type}(T:kW)(tt:TT)(ety:TypeId->Option Ty)(N:Nat)(ops:Array Oper):List Oper->jT->(jT->Prog R)->Prog R
 | [],q,K=>K q
 |o::os,q,K=>WQ T tt ety N ops o q λq e=>frX (q.eff o.dst e) λq=>runT T tt ety N ops os q K
def Yq(args:List TS):List (Nat×kK)->Bool
 | []=>false
 |(t,_)::rest=>match args.getD t .no with
  |.no=>true
  |.jD _=>true
  |_=>Yq args rest
def WR(T:kW)(st:jl)(o:Oper):Option (List Nat):=
 match o.op with
 |.call { callee:=.value f,args,.. }=>match st.dh f with
  |.v (.one (.clo fn caps))=>match Ym T fn (args.toList.map st.dh) with
   |some sp=>match zx sp.sig st.go ((args.toList.map st.dh)++caps.map λx=>TS.v (.one x)) with
    |some c=>some (c.ren.map (·.2))
    |none=>bif Yq ((args.toList.map st.dh)++caps.map λx=>TS.v (.one x)) sp.sig.pin.slots then some [] else none
   |none=>some []
  |_=>some []
 |_=>some []
def WT(T:kW)(st:jl)(o:Oper):Option (List Nat):=match WR T st o with
 |some r=>some ((bif looks o.op then (o.op.operands.toList.flatMap λx=>(S.namesT (st.dh x)).flatMap λg=>g::iZ (st.go g)) else [])++r)
 |none=>none
def adE(T:kW)(st:jl)(o:Oper):Option (List Nat):=match JW (H_ st o) st with
 |some st1=>match WT T st1 o with
  |some l=>some (l++(H9 st o).flatMap λg=>g::iZ (st.go g))
  |none=>none
 |none=>none
def agR{β:Type 1}:List (Nat×Nat)->(List (Nat×Nat)->β)->β
 | [],k=>k []
 |(a,b)::r,k=>agR r λr=>k ((a,b)::r)
def frF{β:Type 1}(f:tV)(k:tV->β):β:=MI f.rd λrd=>MI f.wr λwr=>MI f.new λnew=>frH f.ld λld=>agR f.kp λkp=>frB f.pk λpk=>MI f.kd λkd=>k ⟨rd,wr,new,ld,kp,pk,kd⟩
def adF:TW->TW->Bool
 |.own g,.own g'=>Nat.beq g g'
 |.box g off,.box g' off'=>Nat.beq g g'&&Nat.beq off off'
 |_,_=>false
def EK(g:Nat):Nat->List TW->List TW->Option (List (Nat×Nat))
 |_,[],[]=>some []
 |j,x::xs,y::ys=>match EK g (j+1) xs ys with
  |some r=>some (match adF x y with
   |true=>(g,j)::r
   |false=>r)
  |none=>none
 |_,_,_=>none
def WU(g:Nat):TO->Option TO->List (Nat×Nat)
 |.box ws,some (.box ws')=>match EK g 0 ws ws' with
  |some r=>r
  |none=>[]
 |_,_=>[]
def adG(g:Nat):TO->Option TO->List (Nat×Nat)
 |.aN _ _ _ _ _ hole,some (.aN _ _ _ _ _ _)=>match hole with
  |none=>[(g,5000000)]
  |some _=>[]
 |_,_=>[]
def kpT(st:jl)(o:Oper)(aJ:List (Nat×TO)):List (Nat×Nat):=(bif m_ o.op then (o.op.operands.toList.flatMap λx=>S.namesT (st.dh x)).map λg=>(g,0) else []) ++
 (aJ.map (·.1)).flatMap λg=>WU g (st.go g) (aJ.lookup g)++bif Jr o.op then adG g (st.go g) (aJ.lookup g) else []
def adH:TO->Nat
 |.box _=>1
 |.arr _ _ _ _ _=>2
 |.aN _ _ _ _ _ _=>2
 |.it _ _=>3
 |.none=>0
def kdT(st:jl)(aJ:List (Nat×TO)):List Nat:=(aJ.map (·.1)).filterMap λg=>match aJ.lookup g with
 |some x=>bif Nat.beq (adH x) (adH (st.go g)) then some g else none
 |none=>none
def ldT(tt:TT)(st:jl)(o:Oper):Option (Nat×Nat×Nat):=match o.op with
 |.load t x=>match tt t,st.dh x with
  |some i,.v (.one (.box g off))=>some (g,off,i.size)
  |some i,.v (.one (.ep g _ off))=>match st.go g with
   |.aN _ _ _ ak _ _=>bif (jg (iL ak) off i.size).isEmpty then some (g,5000000,1) else none
   |_=>none
  |_,_=>none
 |_=>none
noncomputable def runNT{R:Type}(T:kW)(tt:TT)(ety:TypeId->Option Ty)(N:Nat)(ops:Array Oper):List Oper->jT->List tV->(jT->List tV->Prog R)->Prog R
 | [],q,fs,K=>K q fs
 |o::os,q,fs,K=>match adE T q.st o with
  |none=>.stuck 25
  |some rd=>stepT T tt ety N ops o q λq' e=>frF { rd,wr:=e.aJ.map (·.1),new:=e.new,ld:=ldT tt q.st o,kp:=kpT q.st o e.aJ,pk:=m_ o.op,kd:=kdT q.st e.aJ } λft=>frX (q'.eff o.dst e) λq=>runNT T tt ety N ops os q (fs++[ft]) K
noncomputable def wG{R:Type}(T:kW)(tt:TT)(ety:TypeId->Option Ty)(N:Nat)(ops:Array Oper)(draw:Bool)(q:jT)(K:jT->Prog R):Prog R:=
 match draw with
 |false=>runT T tt ety N ops ops.toList q K
 |true=>runNT T tt ety N ops ops.toList q [] λq fs=>match Yd ops fs with
  |true=>K q
  |false=>.stuck 24
inductive Md where
 |keep
 |sl (k:kK)
inductive Mo where
 |keep
 |ob (k:iO)
structure JT where
 slots:List (Nat×Md)
 aZ:List (Nat×Mo)
def Dl:List TW->Option (List Nat)
 | []=>some []
 |.box g off::cs=>bif Nat.beq off 0 then match Dl cs with
  |some gs=>some (g::gs)
  |none=>none
  else none
 |_=>none
def TG:TW->Option (kD×List Wd)
 |.p a i w=>some (.p a i w.t,[w])
 |.dw=>some (.dw,[])
 |.own g=>some (.own g,[])
 |.box g off=>some (.box g off,[])
 |.clo f caps=>match Dl caps with
  |some gs=>some (.fn f gs,[])
  |none=>none
 |.nJ g=>some (.nJ g,[])
 |.vw g lo hi=>some (.vw g,[iY .i64 lo,iY .i64 hi])
 |.ep g n off=>some (.ep g off,[iY .i64 n])
 |_=>none
def xq:List TW->Option (List kD×List Wd)
 | []=>some ([],[])
 |x::xs=>match TG x,xq xs with
  |some (k,u),some (ks,us)=>some (k::ks,u++us)
  |_,_=>none
def Qd:TS->Option (kK×List Wd)
 |.v (.one x)=>match TG x with
  |some (k,u)=>some (.one k,u)
  |none=>none
 |.v (.agg xs)=>match xq xs with
  |some (ks,u)=>some (.agg ks,u)
  |none=>none
 |_=>none
def xG:TO->Option (iO×List Wd)
 |.box ws=>match xq ws with
  |some (ks,u)=>some (.box ks,u)
  |none=>none
 |.arr fz a i e l=>some (.arr fz a i e,[uD e l])
 |.it s n=>some (.it,[SY s,iY .i64 n])
 |.aN a i e ak l hole=>match hole with
  |none=>some (.aN a i e ak,[uD e l])
  |some _=>none
 |.none=>none
def A_(s:Nat->TS):List (Nat×Md)->Option (List (Nat×kK×Option (List Wd)))
 | []=>some []
 |(t,.keep)::r=>match Qd (s t),A_ s r with
  |some (k,u),some l=>some ((t,k,some u)::l)
  |_,_=>none
 |(t,.sl k)::r=>match A_ s r with
  |some l=>some ((t,k,none)::l)
  |none=>none
def JZ(o:Nat->TO):List (Nat×Mo)->Option (List (Nat×iO×Option (List Wd)))
 | []=>some []
 |(t,.keep)::r=>match xG (o t),JZ o r with
  |some (k,u),some l=>some ((t,k,some u)::l)
  |_,_=>none
 |(t,.ob k)::r=>match JZ o r with
  |some l=>some ((t,k,none)::l)
  |none=>none
structure JF where
 slots:List (Nat×kK×Option (List Wd))
 aZ:List (Nat×iO×Option (List Wd))
def JF.sh(j:JF):NH:=⟨j.slots.map λp=>(p.1,p.2.1),j.aZ.map λp=>(p.1,p.2.1)⟩
def jR:List (Nat×kK×Option (List Wd))->List Ty
 | []=>[]
 |(_,k,none)::r=>k.tys++jR r
 |(_,_,some _)::r=>jR r
def pO:List (Nat×iO×Option (List Wd))->List Ty
 | []=>[]
 |(_,k,none)::r=>k.tys++pO r
 |(_,_,some _)::r=>pO r
def JF.tys(j:JF):List Ty:=jR j.slots++pO j.aZ
def mP:List (Nat×kK×Option (List Wd))->List Wd->List Wd×List Wd
 | [],ws=>([],ws)
 |(_,k,none)::r,ws=>(ws.take k.tys.length++(mP r (ws.drop k.tys.length)).1,(mP r (ws.drop k.tys.length)).2)
 |(_,_,some u)::r,ws=>(u++(mP r ws).1,(mP r ws).2)
def qV:List (Nat×iO×Option (List Wd))->List Wd->List Wd×List Wd
 | [],ws=>([],ws)
 |(_,k,none)::r,ws=>(ws.take k.tys.length++(qV r (ws.drop k.tys.length)).1,(qV r (ws.drop k.tys.length)).2)
 |(_,_,some u)::r,ws=>(u++(qV r ws).1,(qV r ws).2)
def JF.pay(j:JF)(ws:List Wd):List Wd:=(mP j.slots ws).1++(qV j.aZ (mP j.slots ws).2).1
def Qe:List (Nat×kK×Option (List Wd))->List Wd->List Wd×List Wd
 | [],ws=>([],ws)
 |(_,k,none)::r,ws=>(ws.take k.tys.length++(Qe r (ws.drop k.tys.length)).1,(Qe r (ws.drop k.tys.length)).2)
 |(_,k,some u)::r,ws=>((Qe r (ws.drop u.length)).1,(Qe r (ws.drop u.length)).2)
def TJ:List (Nat×iO×Option (List Wd))->List Wd->List Wd×List Wd
 | [],ws=>([],ws)
 |(_,k,none)::r,ws=>(ws.take k.tys.length++(TJ r (ws.drop k.tys.length)).1,(TJ r (ws.drop k.tys.length)).2)
 |(_,k,some u)::r,ws=>((TJ r (ws.drop u.length)).1,(TJ r (ws.drop u.length)).2)
def JF.ext(j:JF)(ws:List Wd):List Wd:=(Qe j.slots ws).1++(TJ j.aZ (Qe j.slots ws).2).1
def hasK{α:Type}(t:Nat):List (Nat×α)->Bool
 | []=>false
 |(k,_)::r=>Nat.beq t k||hasK t r
def TL(s:List (Nat×TS))(ds:List Nat):List (Nat×kK×Option (List Wd))->Bool
 | []=>true
 |(t,_,some _)::r=>hasK t s&&!fJ t ds&&TL s ds r
 |(_,_,none)::r=>TL s ds r
def TM(s:List (Nat×TO))(ds:List Nat):List (Nat×iO×Option (List Wd))->Bool
 | []=>true
 |(t,_,some _)::r=>hasK t s&&!fJ t ds&&TM s ds r
 |(_,_,none)::r=>TM s ds r
def keysB(bg:List Nat)(j:NH)(m:Ren):Bool:=keeps bg j.er m
def NK:List (Nat×iO×Option (List Wd))->Ren
 | []=>[]
 |(t,_,some _)::r=>(t,some t)::NK r
 |(_,_,none)::r=>NK r
def tpW(gs:List Nat)(o:Nat->TO):TW->TW
 |.own g=>bif fJ g gs then match nT o g with
  |some ⟨a,i,e,l⟩=>.p a i (uD e l)
  |none=>.own g
  else .own g
 |.vw g lo hi=>bif fJ g gs then match nT o g with
  |some ⟨a,i,e,l⟩=>.p a i (uD e ((l.take hi.toNat).drop lo.toNat))
  |none=>.vw g lo hi
  else .vw g lo hi
 |x=>x
def tpV(gs:List Nat)(o:Nat->TO):TV->TV
 |.one x=>.one (tpW gs o x)
 |.agg xs=>.agg (xs.map (tpW gs o))
def tpS(gs:List Nat)(o:Nat->TO):TS->TS
 |.v x=>.v (tpV gs o x)
 |.jD xs=>.jD (xs.map (tpV gs o))
 |.no=>.no
def tpO(gs:List Nat)(o:Nat->TO)(g:Nat):TO->TO
 |.none=>.none
 |.box ws=>.box (ws.map (tpW gs o))
 |.arr fz a i e l=>.arr (fz||fJ g gs) a i e l
 |.it s n=>.it s n
 |.aN a i e ak l hole=>bif fJ g gs then (lT o g).2 else .aN a i e ak l hole
def MJ(gs:List Nat)(st:jl):jl:=match gs with
 | []=>st
 |g::r=>{ s:=st.s.map λp=>(p.1,tpS (g::r) st.go p.2),o:=st.o.map λp=>(p.1,tpO (g::r) st.go p.1 p.2),u:=st.u }
def plB(o:Nat->TO)(g:Nat):Bool:=match nT o g with
 |some _=>true
 |none=>false
def akM(o:Nat->TO)(gs:List Nat):Bool:=gs.all λg=>plB o g&&(iZ (o g)).all λd=>fJ d gs
def nX(keep:List Nat):List Nat->jl->List Nat×jl
 | [],st=>([],st)
 |g::gs,st=>match Tz (st.go g),xk st.go g with
  |some d,some ⟨a,i,e,ak,l⟩=>match !fJ g keep&&!fJ d keep with
   |true=>let r:=nX keep gs { st with o:=Dj st.o [(g,.aN a i e ak l none),(d,.none)] }
    (g::r.1,r.2)
   |false=>nX keep gs st
  |_,_=>nX keep gs st
def Qg:List (Nat×TO)->List Nat
 | []=>[]
 |(g,x)::r=>match Tz x with
  |some _=>g::Qg r
  |none=>Qg r
def z_:List (Nat×iO×Option (List Wd))->List Nat
 | []=>[]
 |(t,_,some _)::r=>t::z_ r
 |(_,_,none)::r=>z_ r
def fzW(o:Nat->TO):kD->TW->List Nat
 |.p _ _ _,.own g=>bif plB o g then iZ (o g)++[g] else []
 |.p _ _ _,.vw g _ _=>bif plB o g then iZ (o g)++[g] else []
 |_,_=>[]
def akN(o:Nat->TO):List kD->List TW->List Nat
 |k::ks,x::xs=>fzW o k x++akN o ks xs
 |_,_=>[]
def fzS(o:Nat->TO):kK->TS->List Nat
 |.one k,.v (.one x)=>fzW o k x
 |.agg ks,.v (.agg xs)=>akN o ks xs
 |_,_=>[]
def Yr(st:jl):List (Nat×kK)->List Nat
 | []=>[]
 |(t,k)::r=>fzS st.go k (st.gs t)++Yr st r
def WV(m:Ren)(st:jl):List (Nat×iO)->List Nat
 | []=>[]
 |(g',.box ks)::r=>(match m.lookup g' with
  |some (some g)=>match st.go g with
   |.box ws=>akN st.go ks ws
   |_=>[]
  |_=>[])++WV m st r
 |_::r=>WV m st r
def akO(bg:List Nat)(j:NH)(st:jl):List Nat:=Yr st j.slots++WV (derive bg j st) st j.aZ
def WW(gs:List Nat)(x:TS):Bool:=(S.namesT x).all λg=>!fJ g gs
def J3(gs:List Nat)(g:Nat):TO->Bool
 |.none=>true
 |.box ws=>(ws.flatMap W.namesT).all λg=>!fJ g gs
 |.arr _ _ _ _ _=>!fJ g gs
 |.it _ _=>true
 |.aN _ _ _ _ _ _=>!fJ g gs
def adJ(gs:List Nat)(s:Nat->TS):List (Nat×kK×Option (List Wd))->Bool
 | []=>true
 |(t,_,some _)::r=>WW gs (s t)&&adJ gs s r
 |(_,_,none)::r=>adJ gs s r
def adK(gs:List Nat)(o:Nat->TO):List (Nat×iO×Option (List Wd))->Bool
 | []=>true
 |(t,_,some _)::r=>J3 gs t (o t)&&adK gs o r
 |(_,_,none)::r=>adK gs o r
def xu{R:Type}(bg:List Nat)(j:JF)(q:jT)(K:Tup j.tys->Prog R):Prog R:=
 let st0:=(nX (z_ j.aZ) (Qg q.st.o) q.st).2
 let gs:=akO bg j.sh st0
 let st:=MJ gs st0
 let m:=NK j.aZ++derive bg j.sh st
 match TL q.st.s q.ds j.slots&&TM q.st.o q.od j.aZ&&keysB bg j.sh m&&akM st0.go gs&&adJ gs st0.gs j.slots&&adK gs st0.go j.aZ with
 |false=>.stuck 30
 |true=>match Dh j.sh m st with
  |none=>.stuck 31
  |some vs=>match Tup.ofL j.tys (j.ext vs) with
   |none=>.stuck 32
   |some x=>K x
def yK(j:JF)(x:Tup j.tys):jl:=mkT j.sh (j.pay (Tup.mg j.tys x))
def newS:List (Nat×kK×Option (List Wd))->List Nat
 | []=>[]
 |(t,_,none)::r=>t::newS r
 |(_,_,some _)::r=>newS r
def uO:List (Nat×iO×Option (List Wd))->List Nat
 | []=>[]
 |(t,_,none)::r=>t::uO r
 |(_,_,some _)::r=>uO r
def jT.fresh(q:jT):jT:={ q with ds:=[],od:=[] }
def jT.since(q' q:jT):jT:={ q' with ds:=q'.ds++q.ds,od:=q'.od++q.od }
structure TK(R:Type) where
 n:jT->Prog R
 x:Nat->jT->Prog R
 r:jT->Prog R
inductive gI where
 |nil
 |seq (a b:gI)
 |meet (early:Bool) (j:JT) (a:gI)
 |loop (j:JT) (a:gI)
 |range (j:JT) (sg:dH) (a:gI)
def gI.fst:gI->gI
 |.seq a _=>a
 |_=>.nil
def gI.snd:gI->gI
 |.seq _ b=>b
 |_=>.nil
def adL(nw:List Nat):List (Nat×kK×Option (List Wd))->Bool
 | []=>true
 |(t,_,some _)::r=>!fJ t nw&&adL nw r
 |(_,_,none)::r=>adL nw r
def adM(nw:List Nat):List (Nat×iO×Option (List Wd))->Bool
 | []=>true
 |(t,_,some _)::r=>!fJ t nw&&adM nw r
 |(_,_,none)::r=>adM nw r
def jOf(st:jl)(j:JT):Option JF:=match A_ st.gs j.slots,JZ st.go j.aZ with
 |some s,some o=>match adL (newS s) s&&adM (uO o) o with
  |true=>some ⟨s,o⟩
  |false=>none
 |_,_=>none
def knT(c:Operand)(a i b:Bool)(q:jT):jT:=match c with
 |.tmp t=>q.know t a i b
 |_=>q
def Yt{R:Type}(c:Operand)(q:jT)(x y:jT->Prog R):Prog R:=match q.st.dh c with
 |.v (.one (.p a i ⟨.bool,b⟩))=>.cond b (frX (knT c a i true q) x) (frX (knT c a i false q) y)
 |_=>.stuck 50
def NM{R:Type}(bg:List Nat)(early:Bool)(jt:JT)(here:Nat->Bool)(q:jT)(inner:(R':Type)->jT->TK R'->Prog R')(K:TK R):Prog R:=
 match jOf q.st jt with
 |none=>.stuck 40
 |some j=>match early with
  |false=>.join (inner (Tup j.tys) q.fresh { n:=λq'=>xu bg j q' .ret,x:=λid q'=>bif here id then xu bg j q' .ret else .stuck 41,r:=λ_=>.stuck 42 })
    λx=>frX ⟨yK j x,newS j.slots++q.ds,uO j.aZ++q.od⟩ K.n
  |true=>.NG (inner (Tup j.tys ⊕ R) q.fresh { n:=λq'=>xu bg j q' λx=>.ret (.inl x),x:=λid q'=>bif here id then xu bg j q' (λx=>.ret (.inl x)) else (K.x id (q'.since q)).map .inr,r:=λq'=>(K.r (q'.since q)).map .inr })
    λx=>frX ⟨yK j x,newS j.slots++q.ds,uO j.aZ++q.od⟩ K.n
noncomputable def nY(T:kW)(tt:TT)(ety:TypeId->Option Ty)(N:Nat)(bg:List Nat):Code->(R:Type)->gI->jT->TK R->Prog R
 |.skip,R,_,q,K=>K.n q
 |.region _ ops draw,R,a,q,K=>match a with
  |.meet e j _=>NM bg e j (λ_=>false) q (λ_ q K=>wG T tt ety N ops draw q K.n) K
  |_=>wG T tt ety N ops draw q K.n
 |.seq x y,R,a,q,K=>nY T tt ety N bg x R a.fst q { n:=λq'=>nY T tt ety N bg y R a.snd q' K,x:=K.x,r:=K.r }
 |.cond c x y,R,a,q,K=>match a with
  |.meet e j a=>NM bg e j (λ_=>false) q (λR q K=>Yt c q (λq=>nY T tt ety N bg x R a.fst q K) λq=>nY T tt ety N bg y R a.snd q K) K
  |a=>Yt c q (λq=>nY T tt ety N bg x R a.fst q K) λq=>nY T tt ety N bg y R a.snd q K
 |.block id c,R,a,q,K=>match a with
  |.meet e j a=>NM bg e j (Nat.beq id) q (λR q K=>nY T tt ety N bg c R a q K) K
  |a=>nY T tt ety N bg c R a.fst q { n:=K.n,x:=λid' q'=>bif Nat.beq id' id then K.n q' else K.x id' q',r:=K.r }
 |.loop c,R,a,q,K=>match a with
  |.loop jt a=>match jOf q.st jt with
   |none=>.stuck 43
   |some j=>xu bg j q.fresh λx=>.loop x λx=>
     frX ⟨yK j x,[],[]⟩ λq'=>nY T tt ety N bg c (Tup j.tys ⊕ R) a q'
      { n:=λq'=>xu bg j q' λx=>.ret (.inl x),x:=λid q'=>(K.x id (q'.since ⟨q'.st,newS j.slots++q.ds,uO j.aZ++q.od⟩)).map .inr,r:=λq'=>(K.r (q'.since ⟨q'.st,newS j.slots++q.ds,uO j.aZ++q.od⟩)).map .inr }
  |_=>.stuck 44
 |.exit id,R,_,q,K=>K.x id q
 |.ret,R,_,q,K=>K.r q
 |.label _,R,_,q,K=>K.n q
 |.scope c,R,a,q,K=>nY T tt ety N bg c R a q K
 |_,R,_,_,_=>.stuck 45
def Yu(tt:TT)(st:jl):ResultVar->Option TS
 |.tmp t=>some (st.gs t)
 |.cell a t=>match tt t,st.gs a with
  |some i,.v (.one (.box g off))=>match st.go g with
   |.box ws=>bif Nat.ble (off+i.size) ws.length&&Nat.blt 0 i.size then some (TV.fK i.agg ((ws.drop off).take i.size)) else none
   |_=>none
  |_,_=>none
def J4(tt:TT)(st:jl):List ResultVar->Option (List TS)
 | []=>some []
 |r::rs=>match Yu tt st r,J4 tt st rs with
  |some x,some xs=>some (x::xs)
  |_,_=>none
def WY(n:Nat):List TS->List (Nat×TS)
 | []=>[]
 |x::xs=>(n,x)::WY (n+1) xs
def agU(tt:TT)(sp:dH)(ts:List ResultVar)(q:jT):Prog (Tup sp.aT.tys):=
 match J4 tt q.st ts with
 |none=>.stuck 60
 |some xs=>
  let st0:jl:=(nX [] (Qg q.st.o) { s:=WY 0 xs,o:=q.st.o,u:=q.st.u }).2
  let gs:=akO sp.bg sp.aT st0
  let st:=MJ gs st0
  let m:=derive sp.bg sp.aT st
  match keysB sp.bg sp.aT m&&akM st0.go gs with
  |false=>.stuck 61
  |true=>match Dh sp.aT m st with
   |none=>.stuck 62
   |some vs=>match Tup.ofL sp.aT.tys vs with
    |none=>.stuck 63
    |some x=>.ret x
inductive LkC where
 |yes
 |no
 |len (n m:Nat)
def TN:TO->TO->LkC
 |.box _,.box _=>.yes
 |.arr _ _ _ e l,.arr _ _ _ e' l'=>bif Nat.beq (size e) (size e') then .len (List.length (α:=Dt e) l) (List.length (α:=Dt e') l') else .no
 |.aN _ _ e _ l _,.aN _ _ e' _ l' _=>bif Nat.beq (size e) (size e') then .len (List.length (α:=Dt e) l) (List.length (α:=Dt e') l') else .no
 |_,_=>.no
def Ba{R:Type}(a b:Nat->TO)(K:Prog R):List Nat->Prog R
 | []=>K
 |g::gs=>match TN (a g) (b g) with
  |.yes=>Ba a b K gs
  |.no=>.stuck 90
  |.len n m=>.chk (decide (n=m)) (Ba a b K gs)
noncomputable def tfun(T:kW)(tt:TT)(ety:TypeId->Option Ty)(N:Nat)(sp:dH)(ts:List ResultVar)(c:Code)(a:gI)(x:Tup sp.pin.tys):Prog (Tup sp.aT.tys):=
 frX ⟨mkT sp.pin (Tup.mg sp.pin.tys x),[],[]⟩ λq=>nY T tt ety N sp.bg c (Tup sp.aT.tys) a q { n:=agU tt sp ts,x:=λ_ _=>.stuck 64,r:=agU tt sp ts }
noncomputable def adN(T:kW)(tt:TT)(ety:TypeId->Option Ty)(N:Nat)(sp:dH)(ts:List ResultVar)(c:Code)(a:gI)(x:Tup sp.pin.tys):Prog (Tup sp.aT.tys):=
 match sp.er.akg with
 |true=>tfun T tt ety N sp ts c a x
 |false=>.join (tfun T tt ety N sp ts c a x) λy=>Ba (mkT sp.pin (Tup.mg sp.pin.tys x)).go (mkT sp.aT (Tup.mg sp.aT.tys y)).go (.ret y) sp.bg
end
end Go.Fg

namespace Go.Fg
open Go.Fw
theorem Ia(a b:Nat):(a==b)=Nat.beq a b:=by rw [Bool.eq_iff_iff];simp
theorem yL{α:Type}(d:α) :∀(l:List (Nat×α)) (t:Nat),jO d l t=match l.lookup t with | some x=>x | none=>d
 | [],t=>rfl
 |(k,v)::r,t=>by
  simp only [jO,List.lookup,Ia];cases h:Nat.beq t k with
  |true=>rfl
  |false=>exact yL d r t
theorem qG{α:Type}(d:α)(k:Nat)(v:α) :∀(l:List (Nat×α)) (t:Nat),jO d (yA k v l) t=bif Nat.beq t k then v else jO d l t
 | [],t=>rfl
 |(k',v')::r,t=>by
  simp only [yA];cases h:Nat.beq k k' with
  |true=>
   simp only [cond_true,jO];have:k=k':=Q4 h;subst this;cases Nat.beq t k<;>rfl
  |false=>
   simp only [cond_false,jO,qG d k v r t];cases h1:Nat.beq t k' with
   |true=>
    have:t=k':=Q4 h1;subst this;have:Nat.beq t k=false:=by
     cases h2:Nat.beq t k with
     |false=>rfl
     |true=>have:=Q4 h2;subst this;simp at h
    rw [this];rfl
   |false=>rfl
theorem pR{α β:Type}(g:α->β)(t:Nat) :∀(l:List (Nat×α)),(l.map λp=>(p.1,g p.2)).lookup t=(l.lookup t).map g
 | []=>rfl
 |(k,v)::r=>by
  simp only [Q6,List.lookup];cases t==k with
  |true=>rfl
  |false=>exact pR g t r
section
variable [RE] {β:Type 1}
theorem Qh(b:Bool)(k:Bool->β):frB b k=k b:=by cases b<;>rfl
theorem adO(x:TW)(k:TW->β):frW x k=k x:=by
 cases x with
 |p a i w=>obtain ⟨t,x⟩:=w;simp only [frW,Qh]
 |sp a i t x off=>simp only [frW,Qh]
 |_=>rfl
theorem Qi :∀(x:List TW) (k:List TW->β),adA x k=k x
 | [],k=>rfl
 |x::xs,k=>by simp only [adA,adO,Qi xs]
theorem adP(x:TV)(k:TV->β):frV x k=k x:=by cases x<;>simp only [frV,adO,Qi]
theorem Yv :∀(x:List TV) (k:List TV->β),agO x k=k x
 | [],k=>rfl
 |x::xs,k=>by simp only [agO,adP,Yv xs]
theorem akQ(x:TS)(k:TS->β):frS x k=k x:=by cases x<;>simp only [frS,adP,Yv]
theorem Dn :∀(t:Ty) (k:Ty->β),P_ t k=k t
 |.int ik,k=>by cases ik<;>rfl
 |.bool,k=>rfl
 |.str,k=>rfl
 |.sl e,k=>by simp only [P_,Dn e]
 |.prod a b,k=>by simp only [P_,Dn a,Dn b]
 |.st n,k=>rfl
 |.opq,k=>rfl
 |.sq e,k=>by simp only [P_,Dn e]
theorem adQ :∀(x:List (Nat×Ty)) (k:List (Nat×Ty)->β),frC x k=k x
 | [],k=>rfl
 |(c,t)::xs,k=>by simp only [frC,Dn,adQ xs]
theorem adR(x:Option (Nat×Nat×Nat))(k:Option (Nat×Nat×Nat)->β):frH x k=k x:=by
 cases x with
 |none=>rfl
 |some p=>obtain ⟨n,c,d⟩:=p;rfl
theorem akR(x:TO)(k:TO->β):frO x k=k x:=by cases x<;>simp only [frO,Qi,Qh,adQ,adR]
theorem Yw :∀(x:List (Nat×TS)) (k:List (Nat×TS)->β),agP x k=k x
 | [],k=>rfl
 |(t,x)::xs,k=>by simp only [agP,akQ,Yw xs]
theorem Yx :∀(x:List (Nat×TO)) (k:List (Nat×TO)->β),agQ x k=k x
 | [],k=>rfl
 |(t,x)::xs,k=>by simp only [agQ,akR,Yx xs]
theorem Qj :∀(x:List Nat) (k:List Nat->β),MI x k=k x
 | [],k=>rfl
 |x::xs,k=>by simp only [MI,Qj xs]
theorem tY(q:jT)(k:jT->β):frX q k=k q:=by
 obtain ⟨⟨s,o,u⟩,ds,od⟩:=q;simp only [frX,Yw,Yx,Qj]
theorem agV(l:List (Nat×Nat))(k:List (Nat×Nat)->β):agR l k=k l:=by
 induction l generalizing k with
 |nil=>rfl
 |cons p r ih=>obtain ⟨a,b⟩:=p;simp only [agR,ih]
theorem akS(f:tV)(k:tV->β):frF f k=k f:=by simp only [frF,Qj,adR,agV,Qh]
end
section
variable [RE]
theorem uP(vs:List Wd)(n:Nat):dn (vs.getD n AX)=(vs.map dn).getD n default:=by
 simp only [List.getD_eq_getElem?_getD,Ys];cases vs[n]?<;>rfl
theorem Dp(vs:List Wd)(n:Nat)(k:kD):(AY vs n k).2=n+k.tys.length:=by cases k<;>simp [AY,kD.tys]
def wH(vs:List Wd)(n:Nat)(ts:List Ty):Prop :=∀(k:Nat) t,ts[k]?=some t->∃w,vs[n+k]?=some w/\w.t=t
theorem wH.left{vs:List Wd}{n:Nat}{a b:List Ty}(h:wH vs n (a++b)):wH vs n a:=λk t hk=>h k t (by rw [Wa (Q3.1 hk).1];exact hk)
theorem wH.right{vs:List Wd}{n:Nat}{a b:List Ty}(h:wH vs n (a++b)):wH vs (n+a.length) b:=λk t hk=>by
 obtain ⟨w,h1,h2⟩:=h (a.length+k) t (by rw [W6 (by omega)];simpa using hk);exact ⟨w,by rw [<-h1];congr 1;omega,h2⟩
theorem wH.of{vs:List Wd}{ts:List Ty}(h:vs.map (·.t)=ts):wH vs 0 ts:=λk t hk=>by
 rw [<-h,Ys,W0] at hk;obtain ⟨w,h1,h2⟩:=hk;exact ⟨w,by simpa using h1,h2⟩
theorem wH.get{vs:List Wd}{n k:Nat}{t:Ty}{ts:List Ty}(h:wH vs n ts)(hk:ts[k]?=some t):dn (vs.getD (n+k) AX)=dn ⟨t,(vs.getD (n+k) AX).as t⟩:=by
 obtain ⟨w,h1,h2⟩:=h k t hk;have e1:vs.getD (n+k) AX=w:=by rw [List.getD_eq_getElem?_getD,h1];rfl
 rw [e1,xg h2]
theorem NP :∀(gs:List Nat),nS (EF gs)=gU gs
 | []=>rfl
 |g::gs=>by simp only [EF,nS,bV,gU,NP gs]
theorem Yy{vs:List Wd}{n:Nat}{k:kD}(h:wH vs n k.tys):qx (vs.map dn) n k.er=(bV (AY vs n k).1,(AY vs n k).2):=by
 cases k with
 |vw g=>
  have h0:=h.get (k:=0) (t:=.int .i64) rfl;have h1:=h.get (k:=1) (t:=.int .i64) rfl;simp only [kD.er,qx,AY,bV,<-uP];rw [UB] at h0;rw [h0,h1];rfl
 |ep g off=>
  have h0:=h.get (k:=0) (t:=.int .i64) rfl;simp only [kD.er,qx,AY,bV,<-uP];rw [UB] at h0;rw [h0];rfl
 |fn f gs=>simp only [kD.er,qx,AY,bV,NP]
 |_=>simp only [kD.er,qx,AY,bV,nS,uP]
theorem EL(vs:List Wd) :∀(n:Nat) (ks:List kD),(uK vs n ks).2=n+(ks.flatMap kD.tys).length
 |n,[]=>rfl
 |n,k::ks=>by simp only [uK,EL vs,Dp,Z2,XN];omega
theorem J5{vs:List Wd} :∀{n:Nat} {ks:List kD},wH vs n (ks.flatMap kD.tys)->lu (vs.map dn) n (ks.map kD.er)=((uK vs n ks).1.map bV,(uK vs n ks).2)
 |n,[],_=>rfl
 |n,k::ks,h=>by
  rw [Z2] at h;have h2:=h.right;simp only [Q6,lu,uK,Yy h.left,Dp];rw [J5 h2]
theorem Dq(vs:List Wd)(n:Nat)(k:kK):(Hl vs n k).2=n+k.tys.length:=by
 cases k<;>simp only [Hl,kK.tys,Dp,EL]
theorem agW{vs:List Wd}{n:Nat}{k:kK}(h:wH vs n k.tys):mkS (vs.map dn) n k.er=(bf (Hl vs n k).1,(Hl vs n k).2):=by
 cases k with
 |one k=>simp only [kK.er,mkS,Hl,bf,jS,Yy h]
 |agg ks=>simp only [kK.er,mkS,Hl,bf,jS,J5 h]
theorem Gp{vs:List Wd} :∀{n:Nat} {l:List (Nat×kK)},wH vs n (l.flatMap λp=>p.2.tys)->dI (vs.map dn) n (l.map λp=>(p.1,p.2.er))=((gK vs n l).1.map λp=>(p.1,bf p.2),(gK vs n l).2)
 |n,[],_=>rfl
 |n,(t,k)::l,h=>by
  rw [Z2] at h;have h2:=h.right;simp only [Q6,dI,gK,agW h.left,Dq];rw [Gp h2]
theorem wI(vs:List Wd) :∀(n:Nat) (l:List (Nat×kK)),(gK vs n l).2=n+(l.flatMap λp=>p.2.tys).length
 |n,[]=>rfl
 |n,(t,k)::l=>by simp only [gK,wI vs,Dq,Z2,XN];omega
theorem agX{vs:List Wd}{n:Nat}{k:iO}(h:wH vs n k.tys):ug (vs.map dn) n k.er=(dU (EH vs n k).1,(EH vs n k).2):=by
 cases k with
 |box ws=>simp only [iO.er,ug,EH,dU,J5 h]
 |arr fz a i e=>
  obtain ⟨w,h1,h2⟩:=h 0 (.sl e) rfl;have e1:(vs.getD n AX)=w:=by simp only [List.getD_eq_getElem?_getD];rw [show vs[n]?=some w from h1];rfl
  simp only [iO.er,ug,EH,dU,<-uP,e1];have e2:=xg h2;have e3:(dn w).list=aH e (w.as (.sl e)):=by
   conv=>lhs;rw [<-e2]
   exact jB e _
  rw [e3]
 |it=>
  obtain ⟨w1,h1,h2⟩:=h 0 .str rfl;obtain ⟨w2,h3,h4⟩:=h 1 (.int .i64) rfl;have e1:(vs.getD n AX)=w1:=by simp only [List.getD_eq_getElem?_getD];rw [show vs[n]?=some w1 from h1];rfl
  have e2:(vs.getD (n+1) AX)=w2:=by simp only [List.getD_eq_getElem?_getD];rw [show vs[n+1]?=some w2 from h3];rfl
  simp only [iO.er,ug,EH,dU,<-uP,e1,e2];have a1:=xg h2;have a2:=xg h4
  conv=>lhs;rw [<-a1,<-a2]
  rfl
 |aN a i e ak=>
  obtain ⟨w,h1,h2⟩:=h 0 (.sl e) rfl;have e1:(vs.getD n AX)=w:=by simp only [List.getD_eq_getElem?_getD];rw [show vs[n]?=some w from h1];rfl
  simp only [iO.er,ug,EH,dU,<-uP,e1];have e2:=xg h2;have e3:(dn w).list=aH e (w.as (.sl e)):=by
   conv=>lhs;rw [<-e2]
   exact jB e _
  rw [e3]
theorem J6(vs:List Wd)(n:Nat)(k:iO):(EH vs n k).2=n+k.tys.length:=by cases k<;>simp only [EH,iO.tys,EL]<;>rfl
theorem J7{vs:List Wd} :∀{n:Nat} {l:List (Nat×iO)},wH vs n (l.flatMap λp=>p.2.tys)->gV (vs.map dn) n (l.map λp=>(p.1,p.2.er))=((jW vs n l).1.map λp=>(p.1,dU p.2),(jW vs n l).2)
 |n,[],_=>rfl
 |n,(g,k)::l,h=>by
  rw [Z2] at h;simp only [Q6,gV,jW,agX h.left,J6];rw [J7 h.right]
theorem yM{j:NH}{vs:List Wd}(h:vs.map (·.t)=j.tys):aV (mkT j vs)=mk j.er (vs.map dn):=by
 have hs:=Gp (vs:=vs) (n:=0) (l:=j.slots) (by
  have:=(wH.of h);unfold NH.tys at this;exact this.left)
 have h2:wH vs (gK vs 0 j.slots).2 (j.aZ.flatMap λp=>p.2.tys):=by
  have:=(wH.of h);unfold NH.tys at this;have:=this.right;rw [wI];exact this
 have ho:=J7 h2;have e1:(dI (vs.map dn) 0 j.er.slots)=_:=hs;have e2:gV (vs.map dn) (gK vs 0 j.slots).2 j.er.aZ=_:=ho;unfold Fw.mk;rw [e1];simp only [e2];refine St.ext' (λt=>?_) (λg=>?_) λg=>?_
 .simp only [aV,jl.gs,mkT,yL,pR];cases (gK vs 0 j.slots).1.lookup t<;>rfl
 .simp only [aV,jl.go,mkT,yL,pR];cases (jW vs (gK vs 0 j.slots).2 j.aZ).1.lookup g<;>rfl
 .simp only [aV,mkT,bJ,Shape.nms,NH.er,UI];rfl
variable {m:Ren}
theorem Du{a:Bool}{α:Type}{x y:α}(h:(bif a then some x else none)=some y):a=true/\x=y:=by
 cases a
 .cases h
 .exact ⟨rfl,by simpa using h⟩
theorem J8 :∀{gs:List Nat} {caps:List TW},H7 m gs caps=tC m gs (nS caps)
 | [],[]=>rfl
 | [],c::cs=>by cases c<;>rfl
 |g::gs,[]=>rfl
 |g::gs,c::cs=>by
  cases c<;>first | (simp only [H7,nS,bV,tC,J8 (gs:=gs) (caps:=cs)];done) | rfl
theorem Yz{k:kD}{x:TW}{us:List Wd}(h:EG m k x=some us):LD m k.er (bV x)=some (us.map dn)/\us.map (·.t)=k.tys:=by
 cases k<;>cases x<;>try simp only [EG,reduceCtorEq] at h
 case p.p a i t a' i' w=>
  split at h
  .rename_i z hz;obtain ⟨h1,rfl⟩:=Du h;have hc:((imp a' a&&imp i' i)||(dn w).flat)=true:=by
    simp only [JN] at h1 ⊢;exact h1.imp id aaL
   refine ⟨?_,by simp [kD.tys,akx hz]⟩;show (if ((imp a' a&&imp i' i)||(dn w).flat)=true then some [dn w] else none)=_;rw [if_pos hc];rfl
  .cases h
 case p.dw a i t=>
  split at h
  .simp only [Q0] at h;subst h;exact ⟨rfl,rfl⟩
  .cases h
 case dw.dw=>simp only [Q0] at h;subst h;exact ⟨rfl,rfl⟩
 case own.own g g'=>
  split at h
  .rename_i hc;simp only [Q0] at h;subst h;refine ⟨?_,rfl⟩;show (if m.lookup g=some (some g') then some [] else none)=_;rw [if_pos hc];rfl
  .cases h
 case own.dw g=>
  split at h
  .rename_i hc;simp only [Q0] at h;subst h;refine ⟨?_,rfl⟩;show (if m.lookup g=some none then some [] else none)=_;rw [if_pos hc];rfl
  .cases h
 case box.box g off g' off'=>
  split at h
  .rename_i hc;simp only [Q0] at h;subst h;refine ⟨?_,rfl⟩;show (if m.lookup g=some (some g')/\off=off' then some [] else none)=_;rw [if_pos hc];rfl
  .cases h
 case fn.clo f gs f' caps=>
  obtain ⟨hc,rfl⟩:=Du h;simp only [Qf] at hc;refine ⟨?_,rfl⟩;show (if f=f'/\tC m gs (nS caps)=true then some [] else none)=_;rw [if_pos ⟨Q4 hc.1,by rw [<-J8];exact hc.2⟩];rfl
 case nJ.nJ g g'=>
  split at h
  .rename_i hc;simp only [Q0] at h;subst h;refine ⟨?_,rfl⟩;show (if m.lookup g=some (some g') then some [] else none)=_;rw [if_pos hc];rfl
  .cases h
 case vw.vw g g' lo hi=>
  split at h
  .rename_i hc;simp only [Q0] at h;subst h;refine ⟨?_,rfl⟩;show (if m.lookup g=some (some g') then some [P.int .i64 lo,P.int .i64 hi] else none)=_;rw [if_pos hc];rfl
  .cases h
 case ep.ep g off g' n off'=>
  split at h
  .rename_i hc;simp only [Q0] at h;subst h;refine ⟨?_,rfl⟩;show (if m.lookup g=some (some g')/\off=off' then some [P.int .i64 n] else none)=_;rw [if_pos hc];rfl
  .cases h
 all_goals (simp only [Q0] at h;subst h;exact ⟨rfl,rfl⟩)
theorem J9 :∀{ks:List kD} {xs:List TW} {us:List Wd},yG m ks xs=some us->LZ m (ks.map kD.er) (xs.map bV)=some (us.map dn)/\us.map (·.t)=ks.flatMap kD.tys
 | [],[],us,h=>by simp only [yG,Q0] at h;subst h;exact ⟨rfl,rfl⟩
 | [],x::xs,us,h=>by simp [yG] at h
 |k::ks,[],us,h=>by simp [yG] at h
 |k::ks,x::xs,us,h=>by
  simp only [yG] at h;split at h
  .rename_i u v h1 h2;simp only [Q0] at h;subst h;obtain ⟨a1,a2⟩:=Yz h1;obtain ⟨b1,b2⟩:=J9 h2;exact ⟨by simp only [Q6,LZ,a1,b1,X2],by simp only [X2,a2,b2,Z2]⟩
  .cases h
theorem YA{k:kK}{x:TS}{us:List Wd}(h:agN m k x=some us):coS m k.er (bf x)=some (us.map dn)/\us.map (·.t)=k.tys:=by
 unfold agN at h;split at h
 .exact Yz h
 .exact J9 h
 .cases h
theorem YB{k:iO}{x:TO}{us:List Wd}(h:WI m k x=some us):coO m k.er (dU x)=some (us.map dn)/\us.map (·.t)=k.tys:=by
 unfold WI at h;split at h
 .exact J9 h
 .rename_i fz a i e fz' a' i' e' l;split at h
  .rename_i l' hl;split at h
   .rename_i hc;simp only [Q0] at h;subst h;obtain ⟨ee,hl⟩:=oO hl;cases ee;subst hl;refine ⟨?_,rfl⟩;show (if fz=fz'/\size e=size e/\(imp a' a&&imp i' i)=true then some [P.fU (size e) (aH e _)] else none)=_;rw [if_pos ⟨hc.1,rfl,hc.2⟩];rfl
   .cases h
  .cases h
 .simp only [Q0] at h;subst h;exact ⟨rfl,rfl⟩
 .rename_i a i e ak a' i' e' iE l hole;split at h
  .rename_i l' hl hcb;split at h
   .rename_i hc;simp only [Q0] at h;subst h;obtain ⟨ee,hl⟩:=oO hl;cases ee;subst hl;have:=oP hcb;subst this;refine ⟨?_,rfl⟩;show (if size e=size e/\iL ak=iL ak/\(imp a' a&&imp i' i)=true then some [P.fU (size e) (aH e _)] else none)=_;rw [if_pos ⟨rfl,rfl,hc⟩];rfl
   .cases h
  .cases h
 .cases h
theorem Gq{st:jl} :∀{l:List (Nat×kK)} {us:List Wd},nU m st.gs l=some us->rU m (aV st).s (l.map λp=>(p.1,p.2.er))=some (us.map dn)/\us.map (·.t)=l.flatMap λp=>p.2.tys
 | [],us,h=>by simp only [nU,Q0] at h;subst h;exact ⟨rfl,rfl⟩
 |(t,k)::l,us,h=>by
  simp only [nU] at h;split at h
  .rename_i u v h1 h2;simp only [Q0] at h;subst h;obtain ⟨a1,a2⟩:=YA h1;obtain ⟨b1,b2⟩:=Gq h2;refine ⟨?_,by simp only [X2,a2,b2,Z2]⟩;have a1:coS m k.er ((aV st).s t)=_:=a1;simp only [Q6,rU,a1,b1,X2]
  .cases h
theorem J_{st:jl} :∀{l:List (Nat×iO)} {us:List Wd},qp m st.go l=some us->vY m (aV st).o (l.map λp=>(p.1,p.2.er))=some (us.map dn)/\us.map (·.t)=l.flatMap λp=>p.2.tys
 | [],us,h=>by simp only [qp,Q0] at h;subst h;exact ⟨rfl,rfl⟩
 |(g',k)::l,us,h=>by
  simp only [qp] at h;split at h
  .rename_i u v h1 h2;simp only [Q0] at h;subst h;obtain ⟨b1,b2⟩:=J_ h2;cases hg:m.lookup g' with
   |none=>rw [hg] at h1;cases h1
   |some og=>
    rw [hg] at h1;cases og with
    |some g=>
     obtain ⟨a1,a2⟩:=YB h1;have a1:coO m k.er ((aV st).o g)=_:=a1;refine ⟨?_,by simp only [X2,a2,b2,Z2]⟩;simp only [Q6,vY,hg,a1,b1,X2]
    |none=>
     simp only at h1;split at h1
     .simp only [Q0] at h1;subst h1;refine ⟨?_,by simp only [X2,b2,Z2];rfl⟩;simp only [Q6,vY,hg,b1,X2];rfl
     .simp only [Q0] at h1;subst h1;refine ⟨?_,by simp only [X2,b2,Z2];rfl⟩;simp only [Q6,vY,hg,b1,X2];rfl
     .cases h1
  .cases h
theorem Ko{j:NH}{st:jl}{vs:List Wd}(h:Dh j m st=some vs):coerce j.er m (aV st)=some (vs.map dn)/\vs.map (·.t)=j.tys:=by
 unfold Dh at h;split at h
 .rename_i hok;split at h
  .rename_i u v h1 h2;simp only [Q0] at h;subst h;obtain ⟨a1,a2⟩:=Gq h1;obtain ⟨b1,b2⟩:=J_ h2;refine ⟨?_,by simp only [X2,a2,b2,NH.tys]⟩;unfold coerce;rw [if_pos hok];show (match rU m (aV st).s (j.slots.map λp=>(p.1,p.2.er)),vY m (aV st).o (j.aZ.map λp=>(p.1,p.2.er)) with | some u,some v=>some (u++v) | _,_=>none)=_;rw [a1,b1,X2]
  .cases h
 .cases h
end
end Go.Fg

namespace Go.Fg
open Go.Fw
section
variable [RE] {o:Nat->TO}
theorem yN :∀{gs:List Nat} {caps:List TW} {r:List (Nat×Nat)},pK gs caps=some r->nP gs (nS caps)=some r
 | [],[],r,h=>h
 | [],_::_,r,h=>by simp [pK] at h
 |_::_,[],r,h=>by simp [pK] at h
 |g::gs,c::cs,r,h=>by
  cases c with
  |box g' off=>
   simp only [pK] at h;obtain ⟨hb,h⟩:=bM h;have hb:=Q4 hb;subst hb;split at h
   .rename_i r' hr;simp only [nS,bV,nP,yN hr];exact h
   .cases h
  |_=>simp [pK] at h
theorem TR{k:kD}{x:TW}{us:List Wd}{c:Bool×Bool}{gs:List Nat}{r:List (Nat×Nat)}(h:NI o k x=some (us,c,gs,r)) :
  fM (bU o) k.er (bV x)=some (us.map dn,c,gs,r)/\us.map (·.t)=k.tys:=by
 unfold NI at h;split at h
 .rename_i a i t x;split at h
  .rename_i y a' i' gs' hx;simp only [Q0,Q1] at h;obtain ⟨rfl,rfl,rfl,rfl⟩:=h;exact ⟨by simp only [kD.er,fM,PK hx,Q6,WF],rfl⟩
  .cases h
 .simp only [Q0,Q1] at h;obtain ⟨rfl,rfl,rfl,rfl⟩:=h;exact ⟨rfl,rfl⟩
 .rename_i g' off' g off;obtain ⟨hb,h⟩:=bM h;simp only [Q0,Q1] at h;obtain ⟨rfl,rfl,rfl,rfl⟩:=h;obtain ⟨h1,h2⟩:=iM hb;have h1:=Q4 h1;have h2:=Q4 h2;subst h1;subst h2;exact ⟨rfl,rfl⟩
 .rename_i f gs0 f' caps;obtain ⟨hb,h⟩:=bM h;split at h
  .rename_i r' hr;simp only [Q0,Q1] at h;obtain ⟨rfl,rfl,rfl,rfl⟩:=h;refine ⟨?_,rfl⟩;simp only [kD.er,bV,fM,yN hr];rw [if_pos (Q4 hb)];rfl
  .cases h
 .cases h
theorem NQ :∀{ks:List kD} {xs:List TW} {us:List Wd} {c:Bool×Bool} {gs:List Nat} {r:List (Nat×Nat)},qg o ks xs=some (us,c,gs,r)->
  jP (bU o) (ks.map kD.er) (xs.map bV)=some (us.map dn,c,gs,r)/\us.map (·.t)=ks.flatMap kD.tys
 | [],[],us,c,gs,r,h=>by
  simp only [qg,Q0,Q1] at h;obtain ⟨rfl,rfl,rfl,rfl⟩:=h;exact ⟨rfl,rfl⟩
 | [],x::xs,us,c,gs,r,h=>by simp [qg] at h
 |k::ks,[],us,c,gs,r,h=>by simp [qg] at h
 |k::ks,x::xs,us,c,gs,r,h=>by
  simp only [qg] at h;split at h
  .rename_i h1 h2;simp only [Q0,Q1] at h;obtain ⟨rfl,rfl,rfl,rfl⟩:=h;obtain ⟨a1,a2⟩:=TR h1;obtain ⟨b1,b2⟩:=NQ h2;exact ⟨by simp only [Q6,jP,a1,b1,X2],by simp only [X2,a2,b2,Z2]⟩
  .cases h
theorem adS{k:kK}{x:TS}{us:List Wd}{c:Bool×Bool}{gs:List Nat}{r:List (Nat×Nat)}(h:Yl o k x=some (us,c,gs,r)) :
  oG (bU o) k.er (bf x)=some (us.map dn,c,gs,r)/\us.map (·.t)=k.tys:=by
 unfold Yl at h;split at h
 .exact TR h
 .exact NQ h
 .cases h
theorem NR(args:List TS)(t:Nat):(args.map bf).getD t .no=bf (args.getD t .no):=by
 simp only [List.getD_eq_getElem?_getD,Ys];cases args[t]?<;>rfl
theorem Dv{args:List TS} :∀{l:List (Nat×kK)} {us:List Wd} {c:Bool×Bool} {gs:List Nat} {r:List (Nat×Nat)},nG o args l=some (us,c,gs,r)->
  fA (bU o) (args.map bf) (l.map λp=>(p.1,p.2.er))=some (us.map dn,c,gs,r)/\us.map (·.t)=l.flatMap λp=>p.2.tys
 | [],us,c,gs,r,h=>by
  simp only [nG,Q0,Q1] at h;obtain ⟨rfl,rfl,rfl,rfl⟩:=h;exact ⟨rfl,rfl⟩
 |(t,k)::l,us,c,gs,r,h=>by
  simp only [nG] at h;split at h
  .rename_i h1 h2;simp only [Q0,Q1] at h;obtain ⟨rfl,rfl,rfl,rfl⟩:=h;obtain ⟨a1,a2⟩:=adS h1;obtain ⟨b1,b2⟩:=Dv h2;rw [<-NR] at a1;exact ⟨by simp only [Q6,fA,a1,b1,X2],by simp only [X2,a2,b2,Z2]⟩
  .cases h
theorem agY{k:kD}{x:TW}{us:List Wd}{c:Bool×Bool}{r:List (Nat×Nat)}(h:akH k x=some (us,c,r)):Vr k.er (bV x)=some (us.map dn,c,r)/\us.map (·.t)=k.tys:=by
 unfold akH at h;split at h
 .rename_i a' i' t a i w;split at h
  .rename_i y hy;simp only [Q0,Q1] at h;obtain ⟨rfl,rfl,rfl⟩:=h;rw [h_ hy];exact ⟨rfl,rfl⟩
  .cases h
 .split at h
  .simp only [Q0,Q1] at h;obtain ⟨rfl,rfl,rfl⟩:=h;exact ⟨rfl,rfl⟩
  .cases h
 .simp only [Q0,Q1] at h;obtain ⟨rfl,rfl,rfl⟩:=h;exact ⟨rfl,rfl⟩
 .rename_i g' off' g off;obtain ⟨hb,h⟩:=bM h;simp only [Qf] at hb;have e1:=Q4 hb.1;have e2:=Q4 hb.2;subst e1;subst e2;injection h with h
  injection h with h1 h
  injection h with h2 h3
  subst h1 h2 h3;exact ⟨rfl,rfl⟩
 .rename_i f gs0 f' caps;obtain ⟨hb,h⟩:=bM h;split at h
  .rename_i r' hr;simp only [Q0,Q1] at h;obtain ⟨rfl,rfl,rfl⟩:=h;refine ⟨?_,rfl⟩;simp only [kD.er,bV,Vr,yN hr];rw [if_pos (Q4 hb)];rfl
  .cases h
 .cases h
theorem TU :∀{ks:List kD} {xs:List TW} {us:List Wd} {c:Bool×Bool} {r:List (Nat×Nat)},JU ks xs=some (us,c,r)->
  O6 (ks.map kD.er) (xs.map bV)=some (us.map dn,c,r)/\us.map (·.t)=ks.flatMap kD.tys
 | [],[],us,c,r,h=>by
  simp only [JU,Q0,Q1] at h;obtain ⟨rfl,rfl,rfl⟩:=h;exact ⟨rfl,rfl⟩
 | [],x::xs,us,c,r,h=>by simp [JU] at h
 |k::ks,[],us,c,r,h=>by simp [JU] at h
 |k::ks,x::xs,us,c,r,h=>by
  simp only [JU] at h;split at h
  .rename_i h1 h2;simp only [Q0,Q1] at h;obtain ⟨rfl,rfl,rfl⟩:=h;obtain ⟨a1,a2⟩:=agY h1;obtain ⟨b1,b2⟩:=TU h2;exact ⟨by simp only [Q6,O6,a1,b1,X2],by simp only [X2,a2,b2,Z2]⟩
  .cases h
theorem wJ :∀{l:List (Nat×iO)} {ren ren':List (Nat×Nat)} {us:List Wd} {c:Bool×Bool},wF o ren l=some (us,c,ren')->
  jL (bU o) ren (l.map λp=>(p.1,p.2.er))=some (us.map dn,c,ren')/\us.map (·.t)=l.flatMap λp=>p.2.tys
 | [],ren,ren',us,c,h=>by
  simp only [wF,Q0,Q1] at h;obtain ⟨rfl,rfl,rfl⟩:=h;exact ⟨rfl,rfl⟩
 |(g',k)::l,ren,ren',us,c,h=>by
  simp only [wF] at h;split at h
  .rename_i g hg;split at h
   .rename_i ks ws hog;split at h
    .rename_i u c1 r1 h1;split at h
     .rename_i u' c2 r2 h2;simp only [Q0,Q1] at h;obtain ⟨rfl,rfl,rfl⟩:=h;obtain ⟨a1,a2⟩:=TU h1;obtain ⟨b1,b2⟩:=wJ h2;have hk:(iO.box ks).er=.box (ks.map kD.er):=rfl;exact ⟨by simp only [Q6,jL,hg,hk,oM hog,a1,b1,X2],by simp only [X2,a2,b2,Z2];rfl⟩
     .cases h
    .cases h
   .rename_i fz a0 i0 e a i e' l' hog;split at h
    .rename_i l2 hl;split at h
     .rename_i u' c2 r2 h2;simp only [Q0,Q1] at h;obtain ⟨rfl,rfl,rfl⟩:=h;obtain ⟨b1,b2⟩:=wJ h2;obtain ⟨ee,hl⟩:=oO hl;cases ee;subst hl;refine ⟨?_,by simp only [Q6,b2,Z2];rfl⟩;have hk:(iO.arr fz a0 i0 e).er=.arr fz a0 i0 (size e):=rfl;simp only [Q6,jL,hg,hk,iC hog,if_true,b1];rfl
     .cases h
    .cases h
   .rename_i a0 i0 e ak a i e' iE l' hole hog;split at h
    .rename_i l2 hl hcb;split at h
     .rename_i u' c2 r2 h2;simp only [Q0,Q1] at h;obtain ⟨rfl,rfl,rfl⟩:=h;obtain ⟨b1,b2⟩:=wJ h2;obtain ⟨ee,hl⟩:=oO hl;cases ee;subst hl;have:=oP hcb;subst this;refine ⟨?_,by simp only [Q6,b2,Z2];rfl⟩;have hk:(iO.aN a0 i0 e ak).er=.aN a0 i0 (size e) (iL ak):=rfl;have hg':bU o g=.aN a i (size e) (iL ak) (aH e l2) none:=by simp only [bU,hog,dU]
      simp only [Q6,jL,hg,hk,hg',and_self,if_true,b1];rfl
     .cases h
    .cases h
   .cases h
  .cases h
theorem YC{k:kD}{x:TW}{us:List Wd}{c:Bool×Bool}{gs:List Nat}{r:List (Nat×Nat)}(h:NI o k x=some (us,c,gs,r)):Pl o gs:=by
 unfold NI at h;split at h
 .split at h
  .rename_i hx;simp only [Q0,Q1] at h;obtain ⟨_,_,rfl,_⟩:=h;exact Wp hx
  .cases h
 .simp only [Q0,Q1] at h;obtain ⟨_,_,rfl,_⟩:=h;exact Pl.nil
 .obtain ⟨hb,h⟩:=bM h;simp only [Q0,Q1] at h;obtain ⟨_,_,rfl,_⟩:=h;exact Pl.nil
 .obtain ⟨hb,h⟩:=bM h;split at h
  .simp only [Q0,Q1] at h;obtain ⟨_,_,rfl,_⟩:=h;exact Pl.nil
  .cases h
 .cases h
theorem TY :∀{ks:List kD} {xs:List TW} {us:List Wd} {c:Bool×Bool} {gs:List Nat} {r:List (Nat×Nat)},qg o ks xs=some (us,c,gs,r)->Pl o gs
 | [],[],us,c,gs,r,h=>by
  simp only [qg,Q0,Q1] at h;obtain ⟨_,_,rfl,_⟩:=h;exact Pl.nil
 | [],x::xs,us,c,gs,r,h=>by simp [qg] at h
 |k::ks,[],us,c,gs,r,h=>by simp [qg] at h
 |k::ks,x::xs,us,c,gs,r,h=>by
  simp only [qg] at h;split at h
  .rename_i h1 h2;simp only [Q0,Q1] at h;obtain ⟨_,_,rfl,_⟩:=h;exact (YC h1).append (TY h2)
  .cases h
theorem Gs{args:List TS} :∀{l:List (Nat×kK)} {us:List Wd} {c:Bool×Bool} {gs:List Nat} {r:List (Nat×Nat)},nG o args l=some (us,c,gs,r)->Pl o gs
 | [],us,c,gs,r,h=>by
  simp only [nG,Q0,Q1] at h;obtain ⟨_,_,rfl,_⟩:=h;exact Pl.nil
 |(t,k)::l,us,c,gs,r,h=>by
  simp only [nG] at h;split at h
  .rename_i h1 h2;simp only [Q0,Q1] at h;obtain ⟨_,_,rfl,_⟩:=h;refine Pl.append ?_ (Gs h2);unfold Yl at h1;split at h1
   .exact YC h1
   .exact TY h1
   .cases h1
  .cases h
theorem aaZ{s:dH}{args:List TS}{c:Ho}(h:zx s o args=some c):Pl o c.vF:=by
 unfold zx at h;split at h
 .rename_i h1;split at h
  .simp only [Q0] at h;subst h;exact Gs h1
  .cases h
 .cases h
theorem Kq{s:dH}{args:List TS}{c:Ho}(h:zx s o args=some c):iT s.er (bU o) (args.map bf)=some c.er/\c.ins.map (·.t)=s.pin.tys:=by
 unfold zx at h;split at h
 .rename_i u A gs r h1;split at h
  .rename_i u' I r' h2;simp only [Q0] at h;subst h;obtain ⟨a1,a2⟩:=Dv h1;obtain ⟨b1,b2⟩:=wJ h2;refine ⟨?_,by simp only [X2,a2,b2,NH.tys]⟩;unfold iT;have a1:fA (bU o) (args.map bf) s.er.pin.slots=_:=a1;have b1:jL (bU o) r s.er.pin.aZ=_:=b1;rw [a1];simp only;rw [b1];simp only [Ho.er,X2]
  .cases h
 .cases h
theorem Gt(f:Nat->Nat) :∀(caps:List TW),nS (yI f caps)=kU f (nS caps)
 | []=>rfl
 |c::cs=>by cases c<;>simp only [yI,nS,bV,kU,Gt f cs]
theorem YD(A I:Bool×Bool)(f:Nat->Nat)(x:TW):bV (aaX A I f x)=Vs A I f (bV x):=by cases x<;>simp only [aaX,bV,Vs,Gt]
theorem T_(A I:Bool×Bool)(f:Nat->Nat)(xs:List TW):(xs.map (aaX A I f)).map bV=(xs.map bV).map (Vs A I f):=by
 simp only [UI];exact ZS λx _=>YD A I f x
theorem agZ(A I:Bool×Bool)(f:Nat->Nat)(x:TV):jS (akI A I f x)=reV A I f (jS x):=by
 cases x<;>simp only [akI,jS,reV,YD,T_]
theorem ag0(A I:Bool×Bool)(f:Nat->Nat)(x:TS):jS (adx A I f x)=X0 A I f (bf x):=by
 cases x with
 |v x=>exact agZ A I f x
 |jD xs=>simp only [adx,bf,X0,jS,bV]
 |no=>simp only [adx,bf,X0,jS,bV]
theorem Qk(A I:Bool×Bool)(f:Nat->Nat)(x:TO):dU (P9 A I f x)=xE A I f (dU x):=by
 cases x<;>simp only [P9,dU,xE,T_]
theorem adT(vs:List TV):bf (ady vs)=aal (vs.map jS):=by
 match vs with
 | []=>rfl
 | [x]=>rfl
 |x::y::vs=>rfl
theorem YE{α β:Type}(g:α->β)(b:Bool)(x y:α):g (bif b then x else y)=if b=true then g x else g y:=by cases b<;>rfl
theorem Ua{s:dH}{d:Nat}{c:Ho}{dG:List Wd}(h:dG.map (·.t)=s.aT.tys)(hpl:Pl o c.vF):(uM s d o c dG).er=kV s.er d (bU o) c.er (dG.map dn):=by
 have hm:=yM h;have hs :∀k,bf ((mkT s.aT dG).gs k)=(mk s.aT.er (dG.map dn)).s k:=λk=>by rw [<-hm];rfl
 have ho :∀k,dU ((mkT s.aT dG).go k)=(mk s.aT.er (dG.map dn)).o k:=λk=>by rw [<-hm];rfl
 have e1:s.er.aT=s.aT.er:=rfl;have e2:s.er.bg=s.bg:=rfl;have e3:s.er.aW=s.aW:=rfl;have e4:s.er.dD=s.dD:=rfl;have c1:c.er.A=c.A:=rfl;have c2:c.er.I=c.I:=rfl;have c3:c.er.vF=c.vF:=rfl;have c4:c.er.ren=c.ren:=rfl;unfold uM kV jI.er;rw [e1,e2,e3,e4,c1,c2,c3,c4];generalize mk s.aT.er (dG.map dn)=M at hs ho;generalize mkT s.aT dG=X at hs ho;generalize s.er.mM=L;have k1:bf (ady ((List.range s.dD).map λk=>adx c.A c.I (callName d s.er c.ren) (X.gs k)))=aal ((List.range s.dD).map λk=>X0 c.A c.I (callName d s.er c.ren) (M.s k)):=by
  rw [adT,UI];congr 1;refine ZS λk _=>?_;simp only [Function.comp,ag0,hs]
 have k2:iI (bif L then c.vF.map (lT o) else [])=if L=true then c.vF.map (Fw.aU (bU o)) else []:=by
  rw [YE iI,pJ hpl];rfl
 have k3:iI (c.ren.map λp=>(p.2,bif s.bg.contains p.1 then P9 c.A c.I (callName d s.er c.ren) (X.go p.1) else .none))=c.ren.map λp=>(p.2,if s.bg.contains p.1=true then xE c.A c.I (callName d s.er c.ren) (M.o p.1) else .none):=by
  simp only [iI,UI];refine ZS λp _=>?_;simp only [Function.comp,YE dU,Qk,ho];rfl
 have k4:iI (s.aW.map λg=>(callName d s.er c.ren g,P9 c.A c.I (callName d s.er c.ren) (X.go g)))=s.aW.map λg=>(callName d s.er c.ren g,xE c.A c.I (callName d s.er c.ren) (M.o g)):=by
  simp only [iI,UI];refine ZS λp _=>?_;simp only [Function.comp,Qk,ho]
 simp only [lI,k1,k2,k3,k4]
theorem Ib(ts:List Ty) :∀{ws:List Wd} {x:Tup ts},Tup.ofL ts ws=some x->Tup.mg ts x=ws:=by
 induction ts with
 |nil=>
  intro ws x h;cases ws with
  |nil=>rfl
  |cons w ws=>cases h
 |cons t ts ih=>
  cases ts with
  |nil=>
   intro ws x h;cases ws with
   |nil=>cases h
   |cons w ws=>
    cases ws with
    |nil=>
     have h:w.BG t=some x:=h;rw [h_ h];rfl
    |cons u ws=>cases h
  |cons u ts=>
   intro ws x h;cases ws with
   |nil=>cases h
   |cons w ws=>
    have h:(match w.BG t,Tup.ofL (u::ts) ws with | some x,some xs=>some (x,xs) | _,_=>none)=some x:=h;split at h
    .rename_i y ys h1 h2;cases h;show (⟨t,y⟩:Wd)::Tup.mg (u::ts) ys=w::ws;rw [ih h2,h_ h1]
    .cases h
theorem wK :∀(ts:List Ty) (x:Tup ts),(Tup.mg ts x).map (·.t)=ts
 | [],x=>rfl
 | [t],x=>rfl
 |t::u::ts,x=>by simp only [Tup.mg,Q6,wK (u::ts)]
def aY.er(s:aY):Fw.Spec:={ sig:=s.sig.er,R:=λins dG =>∃x y,s.ff x=some y/\ins=(Tup.mg s.sig.pin.tys x).map dn/\dG=(Tup.mg s.sig.aT.tys y).map dn }
theorem Ub{A R:Type}{x y:A}{r:Option R}{z:R}(h:yH x y r=some z):x=y/\r=some z:=by
 unfold yH at h;split at h
 .rename_i e;exact ⟨e,h⟩
 .cases h
theorem Bc{R:Type}{a b:Nat->TO}{r z:R} :∀{gs:List Nat},JR a b r gs=some z->r=z/\∀g∈gs,rW (dU (b g))=rW (dU (a g))
 | [],h=>by simp only [JR,Q0] at h;exact ⟨h,λg hg=>by cases hg⟩
 |g::gs,h=>by
  simp only [JR] at h;split at h
  .rename_i e l _ _ e' l' h1 h2;split at h
   .rename_i l'' hl;obtain ⟨e1,h⟩:=Ub h;obtain ⟨q1,q2⟩:=Bc h;refine ⟨q1,λg' hg=>?_⟩;rcases QQ.1 hg with rfl | hg
    .rw [h1,h2];subst e1;obtain ⟨ee,hl⟩:=oO hl;cases ee;subst hl;rfl
    .exact q2 g' hg
   .cases h
  .rename_i e ak l _ _ e' iE l' h1 h2;split at h
   .rename_i l'' hl hcb;obtain ⟨e1,h⟩:=Ub h;obtain ⟨q1,q2⟩:=Bc h;refine ⟨q1,λg' hg=>?_⟩;rcases QQ.1 hg with rfl | hg
    .rw [h1,h2];subst e1;obtain ⟨ee,hl⟩:=oO hl;cases ee;subst hl;have:=oP hcb;subst this;rfl
    .exact q2 g' hg
   .cases h
  .cases h
theorem Ql{s:aY}{x:Tup s.sig.pin.tys}{y:Tup s.sig.aT.tys}(h:s.ff x=some y):s.f x=some y/\∀g∈s.sig.kept,rW (dU ((mkT s.sig.aT (Tup.mg s.sig.aT.tys y)).go g))=rW (dU ((mkT s.sig.pin (Tup.mg s.sig.pin.tys x)).go g)):=by
 obtain ⟨⟨na,pin,aT,nr,bg,aW,kept⟩,f⟩:=s;cases kept with
 |nil=>exact ⟨h,λg hg=>by cases hg⟩
 |cons g0 gs=>
  have h:(f x).bind (λy=>JR (mkT pin (Tup.mg pin.tys x)).go (mkT aT (Tup.mg aT.tys y)).go y (g0::gs))=some y:=h;cases hf:f x with
  |none=>rw [hf] at h;cases h
  |some z=>
   rw [hf] at h;obtain ⟨e,h2⟩:=Bc h;subst e;exact ⟨hf,h2⟩
theorem NS(same:List Nat) :∀(l:List (Nat×TO)),iI (NJ same l)=(iI l).filter λp=>!same.contains p.1
 | []=>rfl
 |(g,x)::r=>by
  have ih:=NS same r;simp only [NJ];have e:iI ((g,x)::r)=(g,dU x)::iI r:=rfl;rw [e,vm,<-bJ];cases h:fJ g same with
  |true=>simp only [Bool.not_true,W4,if_false];exact ih
  |false=>
   simp only [vh,if_true];show (g,dU x)::iI (NJ same r)=_;rw [ih]
def Kr(s:dH)(d:Nat)(o:Nat->TO)(c:Ho)(dG:List Wd):List Nat:=match s.kept with
 | []=>[]
 |_::_=>Di s o (λg'=>P9 c.A c.I (callName d s.er c.ren) ((mkT s.aT dG).go g')) c.ren
theorem Qm{s:dH}{d:Nat}{o:Nat->TO}{c:Ho}{dG:List Wd}:(zy s d o c dG).er=Ce (Kr s d o c dG) (uM s d o c dG).er:=by
 obtain ⟨na,pin,aT,nr,bg,aW,kept⟩:=s;cases kept with
 |nil=>
  show (uM _ d o c dG).er=Ce [] _;have :∀(e:Eff),e=Ce [] e:=λe=>by
   unfold Ce;have:e.aJ.filter (λp=>!([]:List Nat).contains p.1)=e.aJ:=List.filter_eq_self.2 λp _=>rfl;rw [this]
  exact this _
 |cons g0 gs=>
  unfold zy Ce Kr jI.er;simp only [NS]
theorem NT{a b:Bool}(h:akJ a b=true):a=b:=by cases a<;>cases b<;>first | rfl | cases h
theorem Gu{x:TO}{a i:Bool}(h:WJ x=some (a,i)):tK (dU x)=(a,i)/\VL (dU x)=true:=by
 cases x with
 |arr fz a' i' e l=>cases fz<;>cases h;exact ⟨rfl,rfl⟩
 |aN a' i' e ak l hole=>cases hole<;>cases h;exact ⟨rfl,rfl⟩
 |_=>cases h
theorem Kt{s:dH}{o f:Nat->TO}{g:Nat} :∀{r:List (Nat×Nat)},g∈Di s o f r->∃g',(g',g)∈r/\g'∈s.kept/\s.bg.contains g'=true/\tK (dU (f g'))=tK (dU (o g))/\VL (dU (o g))=true
 | [],h=>by cases h
 |(g1',g1)::r,h=>by
  simp only [Di] at h;have old:g∈Di s o f r->∃g',(g',g)∈(g1',g1)::r/\g'∈s.kept/\s.bg.contains g'=true/\tK (dU (f g'))=tK (dU (o g))/\VL (dU (o g))=true:=λh=>
   let ⟨g',h1,h2⟩:=Kt h
   ⟨g',WD _ h1,h2⟩
  split at h
  .rename_i a i a' i' k1 k2 k3;split at h
   .rename_i k4;rcases QQ.1 h with rfl | h
    .obtain ⟨e1,e2⟩:=iM k4;have e1:=NT e1;have e2:=NT e2;subst e1;subst e2;obtain ⟨m1,m2⟩:=iM k1;obtain ⟨f1,f2⟩:=Gu k2;obtain ⟨f3,_⟩:=Gu k3;rw [bJ] at m1;exact ⟨g1',by simp,by simpa using m1,m2,by rw [f1,f3],f2⟩
    .exact old h
   .exact old h
  .exact old h
theorem Uc{sp:aY}(hok:sp.sig.er.ok=true){d:Nat}{o:Nat->TO}{args:List S}{c:Ho}(hc:iT sp.sig.er (bU o) args=some c.er)(hf:c.er.fine sp.sig.er=true){x:Tup sp.sig.pin.tys}{y:Tup sp.sig.aT.tys}(hx:Tup.mg sp.sig.pin.tys x=c.ins)(hy:sp.ff x=some y) :
  ∀g∈Kr sp.sig d o c (Tup.mg sp.sig.aT.tys y),g∈c.er.ren.map (·.2)/\(kV sp.sig.er d (bU o) c.er ((Tup.mg sp.sig.aT.tys y).map dn)).aJ.lookup g=some (bU o g):=by
 intro g hg;have hg:g∈Di sp.sig o (λg'=>P9 c.A c.I (callName d sp.sig.er c.ren) ((mkT sp.sig.aT (Tup.mg sp.sig.aT.tys y)).go g')) c.ren:=by
  unfold Kr at hg;split at hg
  .cases hg
  .exact hg
 obtain ⟨g',h1,h2,h3,h4,h5⟩:=Kt hg;have hp:(g',g)∈c.er.ren:=h1;refine ⟨QR.2 ⟨(g',g),hp,rfl⟩,?_⟩;have e1:dU ((mkT sp.sig.aT (Tup.mg sp.sig.aT.tys y)).go g')=(Fw.mk sp.sig.er.aT ((Tup.mg sp.sig.aT.tys y).map dn)).o g':=congrArg (λs=>s.o g') (yM (wK _ y));have e2:dU ((mkT sp.sig.pin (Tup.mg sp.sig.pin.tys x)).go g')=(Fw.mk sp.sig.er.pin c.er.ins).o g':=by
  have:=congrArg (λs=>s.o g') (yM (wK _ x));rw [hx] at this ⊢;exact this
 refine aat hok hc hf hp h3 ?_ h5 ?_
 .rw [<-e1,<-e2];exact (Ql hy).2 g' h2
 .rw [Qk] at h4;rw [<-e1];exact h4
def mQ(T:kW):Tab:=λf=>(T f).map aY.er
theorem yO(l:List (Nat×TO)) :∀(u:List (Nat×TO)) (g:Nat),jO .none (Dj l u) g=match u.lookup g with | some x=>x | none=>jO .none l g
 | [],g=>rfl
 |(k,x)::u,g=>by
  simp only [Dj,qG,List.lookup,Ia,yO l u g];cases h:Nat.beq g k<;>rfl
theorem NU(q:jT)(dst:Option Tmp)(e:jI):aV (q.eff dst e).st=(aV q.st).eff dst e.er:=by
 have ho :∀g,dU (jO .none (Dj q.st.o e.aJ) g)=match (iI e.aJ).lookup g with | some x=>x | none=>dU (jO .none q.st.o g):=λg=>by
  rw [yO];have:(iI e.aJ).lookup g=(e.aJ.lookup g).map dU:=pR dU g e.aJ;rw [this];cases e.aJ.lookup g<;>rfl
 have hu :∀g,fJ g (e.new++q.st.u)=(e.new.contains g||fJ g q.st.u):=λg=>by simp [bJ]
 cases dst with
 |none=>
  refine St.ext' (λt=>rfl) (λg=>?_) λg=>?_
  .exact ho g
  .exact hu g
 |some d=>
  refine St.ext' (λt=>?_) (λg=>?_) λg=>?_
  .show bf (jO .no (yA d e.x q.st.s) t)=bif Nat.beq t d then bf e.x else bf (jO .no q.st.s t)
   rw [qG];cases Nat.beq t d<;>rfl
  .exact ho g
  .exact hu g
end
end Go.Fg

