/-
  The framework (a machine on plain data that answers as the program does), part 3.
-/
import Derived.RangeFuncLeaves
import Derived.RangeFuncCalls
import Derived.OrdersIn
import Derived.LoopNIn
import Derived.LoopN
import Derived.Tactics
import Derived.Laws.Strings
import Derived.Test.YtapemkmlinejmaaGreatDoorZb
set_option linter.unusedSimpArgs false
set_option linter.unusedVariables false
set_option linter.unusedSectionVars false
namespace Go.Fw
variable [eX]
theorem LZ (st:St) (dst:Option Tmp) (e:Eff) (t:Nat):(st.eff dst e).s t=if dst=some t then e.x else st.s t:=by
 cases dst with
 |none=>simp [St.eff,St.put,St.aK]
 |some d=>
  simp only [St.eff,St.put,St.aK,Q0];by_cases h:t=d
  .subst h;simp
  .have h1:Nat.beq t d=false:=by cases hb:Nat.beq t d with | false=>rfl | true=>exact absurd (Q4 hb) h
   rw [h1,if_neg (fun e=>h e.symm)];rfl
theorem xR (st:St) (dst:Option Tmp) (e:Eff) (g:Nat):(st.eff dst e).o g=match e.aK.lookup g with | some x=>x | none=>st.o g:=by
 cases dst<;>rfl
theorem uh (st:St) (dst:Option Tmp) (e:Eff) (g:Nat):(st.eff dst e).used g=(e.new.contains g||st.used g):=by
 cases dst<;>rfl
theorem jX {α:Type} {g:Nat} :∀{l:List (Nat×α)},g∉l.map (·.1)->l.lookup g=none
 | [],_=>rfl
 |(k,v)::l,h=>by
  simp only [Qf,QQ,not_or] at h;have:(g==k)=false:=by simpa using h.1
  simp only [List.lookup,this];exact jX h.2
theorem St.ext' {a b:St} (h1 :∀t,a.s t=b.s t) (h2 :∀g,a.o g=b.o g) (h3 :∀g,a.used g=b.used g):a=b:=by
 obtain ⟨s,o,u⟩:=a;obtain ⟨s',o',u'⟩:=b;simp only at h1 h2 h3;rw [funext h1,funext h2,funext h3]
section
variable {ops:Array Oper} {es es':Nat->Eff} {st:St} {D D':Nat->Bool}
def SD (ops:Array Oper) (es:Nat->Eff) (st:St) (D:Nat->Bool):Nat->St
 |0=>st
 |k+1=>if D k=true then (SD ops es st D k).eff ((ops[k]?).bind (·.dst)) (es k) else SD ops es st D k
theorem I8 :∀{n:Nat},(∀k<n,es k=es' k)->SD ops es st D n=SD ops es' st D n
 |0,_=>rfl
 |n+1,h=>by simp only [SD];rw [I8 fun k hk=>h k (by omega),h n (by omega)]
theorem D9 :∀{n:Nat},(∀k<n,D k=D' k)->SD ops es st D n=SD ops es st D' n
 |0,_=>rfl
 |n+1,h=>by simp only [SD];rw [D9 fun k hk=>h k (by omega),h n (by omega)]
theorem ajb {t:Nat} :∀{n:Nat},(∀k<n,D k≠D' k->(ops[k]?).bind (·.dst)≠some t)->(SD ops es st D n).s t=(SD ops es st D' n).s t
 |0,_=>rfl
 |n+1,h=>by
  have ih:=ajb (n:=n) fun k hk=>h k (by omega);have hn:=h n (by omega);simp only [SD];cases h1:D n<;>cases h2:D' n
  .simpa using ih
  .have:=hn (by rw [h1,h2];simp);simp only [if_true,LZ,if_neg this];simpa using ih
  .have:=hn (by rw [h1,h2];simp);simp only [if_true,LZ,if_neg this];simpa using ih
  .simp only [if_true,LZ,ih]
theorem ajc {g:Nat} :∀{n:Nat},(∀k<n,D k≠D' k->g∉(es k).aK.map (·.1))->(SD ops es st D n).o g=(SD ops es st D' n).o g
 |0,_=>rfl
 |n+1,h=>by
  have ih:=ajc (n:=n) fun k hk=>h k (by omega);have hn:=h n (by omega);simp only [SD];cases h1:D n<;>cases h2:D' n
  .simpa using ih
  .have:=jX (hn (by rw [h1,h2];simp));simp only [if_true,xR,this];simpa using ih
  .have:=jX (hn (by rw [h1,h2];simp));simp only [if_true,xR,this];simpa using ih
  .simp only [if_true,xR,ih]
theorem Ox {g:Nat} :∀{n:Nat},(∀k<n,D k≠D' k->g∉(es k).new)->(SD ops es st D n).used g=(SD ops es st D' n).used g
 |0,_=>rfl
 |n+1,h=>by
  have ih:=Ox (n:=n) fun k hk=>h k (by omega);have hn:=h n (by omega);simp only [SD];cases h1:D n<;>cases h2:D' n
  .simpa using ih
  .have:=hn (by rw [h1,h2];simp);have:(es n).new.contains g=false:=by simpa using this
   simp only [if_true,uh,this,J0];simpa using ih
  .have:=hn (by rw [h1,h2];simp);have:(es n).new.contains g=false:=by simpa using this
   simp only [if_true,uh,this,J0];simpa using ih
  .simp only [if_true,uh,ih]
theorem L6 {t i:Nat} (hi:D i=true) (hd:(ops[i]?).bind (·.dst)=some t) :∀{n:Nat},i<n->(∀k,i<k->k<n->D k=true->(ops[k]?).bind (·.dst)≠some t)->(SD ops es st D n).s t=(es i).x
 |0,h,_=>by omega
 |n+1,hin,h=>by
  simp only [SD];by_cases e:n=i
  .subst e;simp [hi,LZ,hd]
  .have ih:=L6 hi hd (n:=n) (by omega) fun k h1 h2=>h k h1 (by omega);cases hn:D n with
   |false=>simpa using ih
   |true=>
    have:=h n (by omega) (by omega) hn;simp only [if_true,LZ,if_neg this,ih]
theorem L8 {g i:Nat} {x:O} (hi:D i=true) (hd:(es i).aK.lookup g=some x) :∀{n:Nat},i<n->(∀k,i<k->k<n->D k=true->g∉(es k).aK.map (·.1))->(SD ops es st D n).o g=x
 |0,h,_=>by omega
 |n+1,hin,h=>by
  simp only [SD];by_cases e:n=i
  .subst e;simp [hi,xR,hd]
  .have ih:=L8 hi hd (n:=n) (by omega) fun k h1 h2=>h k h1 (by omega);cases hn:D n with
   |false=>simpa using ih
   |true=>
    have:=jX (h n (by omega) (by omega) hn);simp only [if_true,xR,this,ih]
theorem FD {g i:Nat} (hi:D i=true) (hd:g∈(es i).new) :∀{n:Nat},i<n->(SD ops es st D n).used g=true
 |0,h=>by omega
 |n+1,hin=>by
  simp only [SD];by_cases e:n=i
  .subst e;simp [hi,uh,hd]
  .have ih:=FD hi hd (n:=n) (by omega);cases hn:D n with
   |false=>simpa using ih
   |true=>simp only [if_true,uh,ih,Bool.or_true]
structure Apart (ops:Array Oper) (x y:Oper) (fx fy:sU):Prop where
 dy :∀t,x.dst=some t->t∉y.looksAt ops
 dx :∀t,y.dst=some t->t∉x.looksAt ops
 dd :∀t,x.dst=some t->y.dst≠some t
 wr:(∀g∈fx.wr,g∉fy.rd)\/FC fx fy=true
 rw:(∀g∈fy.wr,g∉fx.rd)\/FC fy fx=true
 ww :∀g∈fx.wr,g∉fy.wr
 nn :∀g∈fx.new,g∉fy.new
theorem xU {x:Option Tmp} {ts:List Tmp} (h:I7 x ts=true) :∀t,x=some t->t∉ts:=by
 intro t e;subst e;simpa [I7] using h
theorem yZ {xs ys:List Nat} (h:Og xs ys=true) :∀x∈xs,x∉ys:=by
 intro x hx;have:=(XX.1 h) x hx;simpa using this
theorem U0 {x y:Oper} {fx fy:sU} (h:abD ops x y fx fy=true):Apart ops x y fx fy:=by
 simp only [abD,Qt,Jx] at h;obtain ⟨⟨⟨⟨⟨⟨h1,h2⟩,h3⟩,h4⟩,h5⟩,h6⟩,h7⟩:=h;exact ⟨xU h1,xU h2,fun t e e'=>xU h3 t e (by simp [e']),h4.imp yZ id,h5.imp yZ id,yZ h6,yZ h7⟩
theorem L9 {acc:List Nat} {i:Nat} :∀{l:List Edge} {s:Nat},(l.foldl (fun s e=>if Region.binds .any e=true then s ||| (2 ^ e.on) ||| acc.getD e.on 0 else s) s).testBit i=true↔
  s.testBit i=true\/∃e∈l,Region.binds .any e=true/\(e.on=i\/(acc.getD e.on 0).testBit i=true)
 | [],s=>by simp
 |e::l,s=>by
  simp only [vm];rw [L9];by_cases hb:Region.binds .any e=true
  .simp only [hb,if_true,Nat.testBit_or,Jx,Nat.testBit_two_pow,decide_eq_true_eq,QQ];constructor
   .rintro (((h | h) | h) | ⟨e',h1,h2⟩)
    .exact .inl h
    .exact .inr ⟨e,.inl rfl,hb,.inl h⟩
    .exact .inr ⟨e,.inl rfl,hb,.inr h⟩
    .exact .inr ⟨e',.inr h1,h2⟩
   .rintro (h | ⟨e',h1 | h1,h2,h3 | h3⟩)
    .exact .inl (.inl (.inl h))
    .subst h1;exact .inl (.inl (.inr h3))
    .subst h1;exact .inl (.inr h3)
    .exact .inr ⟨e',h1,h2,.inl h3⟩
    .exact .inr ⟨e',h1,h2,.inr h3⟩
  .simp only [hb,QQ];constructor
   .rintro (h | ⟨e',h1,h2⟩)
    .exact .inl (by simpa using h)
    .exact .inr ⟨e',.inr h1,h2⟩
   .rintro (h | ⟨e',h1 | h1,h2,h3⟩)
    .exact .inl (by simpa using h)
    .subst h1;exact absurd h2 hb
    .exact .inr ⟨e',h1,h2,h3⟩
theorem I9 :∀{os:List Oper} {acc:List Nat},∃t,oK os acc=acc++t
 | [],acc=>⟨[],by simp [oK]⟩
 |o::os,acc=>by
  obtain ⟨t,h⟩:=I9 (os:=os) (acc:=acc++[lJ acc o]);exact ⟨lJ acc o::t,by simp [oK,h]⟩
theorem I_ :∀{os:List Oper} {acc:List Nat} {j:Nat} {o:Oper},os[j]?=some o->∃acc',(∃t,oK os acc=acc'++lJ acc' o::t)/\acc'.length=acc.length+j
 | [],acc,j,o,h=>by simp at h
 |o'::os,acc,0,o,h=>by
  simp only [US,Q0] at h;subst h;obtain ⟨t,h⟩:=I9 (os:=os) (acc:=acc++[lJ acc o']);exact ⟨acc,⟨t,by simp [oK,h]⟩,rfl⟩
 |o'::os,acc,j+1,o,h=>by
  simp only [Vi] at h;obtain ⟨acc',h1,h2⟩:=I_ (acc:=acc++[lJ acc o']) h;exact ⟨acc',h1,by simp at h2;omega⟩
def Down (ops:Array Oper) (D:Nat->Bool):Prop :=∀(j:Nat) o,ops[j]?=some o->D j=true->∀e∈o.after,Region.binds .any e=true->D e.on=true
theorem Ja {j:Nat} {o:Oper} (ho:ops[j]?=some o) {i:Nat}:((oK ops.toList []).getD j 0).testBit i=true↔
  ∃e∈o.after,Region.binds .any e=true/\(e.on=i\/(e.on<j/\((oK ops.toList []).getD e.on 0).testBit i=true)):=by
 have hl:ops.toList[j]?=some o:=by simpa using ho
 obtain ⟨acc,⟨t,h1⟩,h2⟩:=I_ (acc:=[]) hl;simp only [Jn,Wm] at h2;rw [h1];have e1:(acc++lJ acc o::t).getD j 0=lJ acc o:=by
  rw [List.getD_eq_getElem?_getD,W5 (by omega),h2];simp
 have e2 :∀k,(acc++lJ acc o::t).getD k 0=if k<j then acc.getD k 0 else (acc++lJ acc o::t).getD k 0:=by
  intro k;split
  .rename_i hk;rw [List.getD_eq_getElem?_getD,W8 (by omega),<-List.getD_eq_getElem?_getD]
  .rfl
 rw [e1];unfold lJ;rw [L9];simp only [Nat.zero_testBit,W3,false_or,Array.mem_toList_iff];constructor
 .rintro ⟨e,q1,q2,q3⟩;refine ⟨e,q1,q2,q3.imp id fun q => ?_⟩;by_cases hk:e.on<j
  .refine ⟨hk,?_⟩;have:=e2 e.on;rw [if_pos hk] at this;unfold lJ at this;rw [this];exact q
  .have:acc.getD e.on 0=0:=by rw [List.getD_eq_getElem?_getD,WD (by omega)];rfl
   rw [this] at q;simp at q
 .rintro ⟨e,q1,q2,q3⟩;refine ⟨e,q1,q2,q3.imp id fun ⟨hk,q⟩ => ?_⟩;have:=e2 e.on;rw [if_pos hk] at this;unfold lJ at this;rw [this] at q;exact q
theorem xW (hD:Down ops D) :∀(j:Nat) {o:Oper},ops[j]?=some o->D j=true->∀i,((oK ops.toList []).getD j 0).testBit i=true->D i=true:=by
 intro j
 induction j using Nat.strongRecOn with
 |_ j ih=>
  intro o ho hj i hb;obtain ⟨e,h1,h2,h3 | ⟨h3,h4⟩⟩:=(Ja ho).1 hb
  .rw [<-h3];exact hD j o ho hj e h1 h2
  .have hlt:j<ops.size:=(V1.1 ho).1;have hlt':e.on<ops.size:=by omega
   exact ih e.on h3 (Km hlt') (hD j o ho hj e h1 h2) i h4
theorem QY {j:Nat} {o:Oper} (ho:ops[j]?=some o) (h:(oK ops.toList []).getD j 0<2 ^ j) {e:Edge} (he:e∈o.after) (hb:Region.binds .any e=true):e.on<j:=by
 have:=(Ja ho (i:=e.on)).2 ⟨e,he,hb,.inl rfl⟩;by_cases hk:e.on<j
 .exact hk
 .rw [Nat.testBit_lt_two_pow (WF h (Nat.pow_le_pow_right (by omega) (by omega)))] at this;cases this
end
section
variable {E:Env} {N:Nat} {bD:List Nat} {xk:Nat->Gh} {st:St} {a:Act} {w:World} {Pg:Program} {T:Tab} {tt:TT} {ops:Array Oper} {Q:Exit->Act->World->Prop}
theorem QZ {gh:Nat->Gh} (h:Rel E st gh (fun t=>a.tmps.getD t undef) w) {x:S} {v:Value} (hx:dL E st gh w x v) {i:TI} {t:TypeId} (ht:pV Pg t i) {c:Value} {p:Bool->Prop} (hp:xQ st.o x i.k c=some p) :
  ∃b,(Op.equal t v c).run Pg w=.ok b w/\p b:=by
 unfold xQ at hp;split at hp
 .rename_i e hk;have hu:=ht.kind;rw [hk] at hu;have hu:Pg.underlying t=some (.slice e):=hu;have eqs :∀ao n cap,(Op.equal t (.slice ao n cap) (.slice none 0 0)).run Pg w=.ok ao.isNone w:=by
   intro ao n cap;unfold Op.equal Op.maxDepth;show (Op.equalIn (9999+1) t _ _).run Pg w=_;unfold Op.equalIn;cases ao<;>simp [eG hu]
  unfold LX at hp;split at hp
  .simp only [Q0] at hp;subst hp;have r:=hx.fP;generalize hl:(P.sl _ _)=y at r;cases r with
   |nil sz ao cap=>cases hl;exact ⟨_,eqs _ _ _,fun h=>absurd rfl h⟩
   |sl sz l ad cap f _ _ _ _ _ _=>cases hl;exact ⟨_,eqs _ _ _,fun _=>rfl⟩
   |_=>cases hl
  .rename_i g;split at hp
   .rename_i sz l ho;simp only [Q0] at hp;subst hp;cases hx.dK with
    |own _ _ _ hb=>
     rw [hb _ _ ho];refine ⟨_,eqs _ _ _,fun hl => ?_⟩;obtain ⟨ad,had,_⟩:=(vH (h.bf g) ho).2 (by omega);rw [had];rfl
   .cases hp
  .simp only [Q0] at hp;subst hp;cases hx.dK;exact ⟨_,eqs _ _ _,rfl⟩
  .cases hp
 .rename_i hk;have hu:=ht.kind;rw [hk] at hu;obtain ⟨e,hu⟩:=(hu :∃e,Pg.underlying t=some (.pointer e));have eqp :∀ao,(Op.equal t (.pointer ao) (.pointer none)).run Pg w=.ok ao.isNone w:=by
   intro ao;unfold Op.equal Op.maxDepth;show (Op.equalIn (9999+1) t _ _).run Pg w=_;unfold Op.equalIn;cases ao<;>simp [eG hu]
  unfold FB at hp;split at hp
  .rename_i g off;split at hp
   .rename_i ws ho;simp only [Q0] at hp;subst hp;cases hx.dK with
    |box _ _ _ _ hb=>
     obtain ⟨ad,_,rfl⟩:=hb ws ho;exact ⟨_,eqp _,rfl⟩
   .cases hp
  .simp only [Q0] at hp;subst hp;cases hx.fP with
   |opq _ _=>exact ⟨_,eqp _,rfl⟩
  .cases hp
 .cases hp
theorem Q5 (hT :∀f sp,T f=some sp->Sound Pg (f % 1000000) sp) (htt:iR Pg tt) {i:Nat} {o:Oper} (hi:ops[i]?=some o) (hg:Good E N bD xk st a w) {K':Eff->Prop} (h:B_ T tt N ops o st K')
  {K:Act->World->Prop} (hK :∀e a' w',K' e->Good E N bD xk (st.eff o.dst e) a' w'->K a' w'):wpOp Pg ops Q i K a w:=by
 unfold B_ at h;split at h
 .rename_i pos p hn;obtain ⟨hd,h⟩:=h;have hd :∀d,o.dst=some d->d<a.tmps.size:=by
   intro d e;rw [e] at hd;rw [hg.size];simpa using hd
  unfold Ou at hn;split at hn
  .cases hn
  .rename_i hgd;split at hn
   .rename_i op t x c u hop;split at hn
    .rename_i ti ht;obtain ⟨gh,hR,KF⟩:=hg.ex;have hx:=qJ hR x;have key :∀p',xQ st.o (st.dP x) ti.k c=some p'->∃b,(Op.equal t (a.eval x) c).run Pg w=.ok b w/\p' b:=fun p' hp=>QZ hR hx (htt _ _ ht) hp;have fin :∀b,(execOp a.eval o).run Pg w=.ok (.value (.bool (bif pos then b else !b))) w->p b->wpOp Pg ops Q i K a w:=by
      intro b hrun hb;unfold wpOp;rw [hi];simp only;have:Region.wanted o (yielded ops a.tmps)=true:=by simp [Region.wanted,hgd]
      rw [if_pos this];left;show o.upon Pg a K Q ((execOp a.eval o).run Pg w);rw [hrun];refine hK _ _ _ (h b hb) ⟨⟨gh,?_,fun g hg' => ?_⟩,by rw [BU];exact hg.size,hg.defers.put _ _⟩
      .rw [BR _ _ hd];unfold St.eff;simp only [GZ];exact hR.put o.dst (dL.ofP (.bool _)) (by simp [scalar,S.names,V.names,W.names])
      .have ho:(st.eff o.dst { x:=scalar (.bool (bif pos then b else !b)),aK:=[],new:=[] }).o g=st.o g:=by unfold St.eff St.put;cases o.dst<;>simp [St.aK]
       have hu:(st.eff o.dst { x:=scalar (.bool (bif pos then b else !b)),aK:=[],new:=[] }).used g=st.used g:=by unfold St.eff St.put;cases o.dst<;>simp [St.aK]
       rw [ho,hu];exact KF g hg'
     have hcv :∀b,(Op.equal t (a.eval x) c).run Pg w=.ok b w->(c=.slice none 0 0\/c=.pointer none)/\True->(eqGuard op t x (.const c) (a.eval x) c).run Pg w=.ok () w:=by
      intro b _ hc;unfold eqGuard;rcases hc.1 with rfl | rfl
      .cases op<;>first | rfl | (simp only;split<;>first | rfl | simp_all)
      .cases op<;>first | rfl | (simp only;split<;>first | rfl | simp_all)
     have hcc :∀p',xQ st.o (st.dP x) ti.k c=some p'->c=.slice none 0 0\/c=.pointer none:=by
      intro p' hp;unfold xQ at hp;split at hp
      .exact .inl rfl
      .exact .inr rfl
      .cases hp
     split at hn
     .rename_i p' hp;simp only [Q0,Q1] at hn;obtain ⟨rfl,rfl⟩:=hn;obtain ⟨b,hb1,hb2⟩:=key _ hp;refine fin b ?_ hb2;have hge:=hcv b hb1 ⟨hcc _ hp,trivial⟩;unfold execOp;rw [hop];refine gY ?_;show (eqGuard _ t x (.const c) (a.eval x) c >>= fun _=>binOp _ t (a.eval x) c).run Pg w=_;rw [Sem.run_bind,hge];rcases hcc _ hp with rfl | rfl<;>simp [binOp,hb1]
     .rename_i p' hp;simp only [Q0,Q1] at hn;obtain ⟨rfl,rfl⟩:=hn;obtain ⟨b,hb1,hb2⟩:=key _ hp;refine fin b ?_ hb2;have hge:=hcv b hb1 ⟨hcc _ hp,trivial⟩;unfold execOp;rw [hop];refine gY ?_;show (eqGuard _ t x (.const c) (a.eval x) c >>= fun _=>binOp _ t (a.eval x) c).run Pg w=_;rw [Sem.run_bind,hge];rcases hcc _ hp with rfl | rfl<;>simp [binOp,hb1]
     .cases hn
    .cases hn
   .cases hn
 .split at h
  .rename_i g s n hn;obtain ⟨hd,h1,h2⟩:=h;have hd :∀d,o.dst=some d->d<a.tmps.size:=by
    intro d e;rw [e] at hd;rw [hg.size];simpa using hd
   unfold Ov at hn;split at hn
   .cases hn
   .rename_i hgd;split at hn
    .rename_i x hop;split at hn
     .rename_i g' hx;split at hn
      .rename_i s' n' hog;simp only [Q0,Q1] at hn;obtain ⟨rfl,rfl,rfl⟩:=hn;obtain ⟨gh,hR,KF⟩:=hg.ex;have hrx:=qJ hR x;rw [hx] at hrx;obtain ⟨ad,had,hv⟩ :∃ad,(gh g').ad=some ad/\a.eval x=.pointer (some ⟨ad.block,0,none⟩):=by
        have:=hrx.dK;generalize a.eval x=z at this;cases this with | ni _ _ _ hb=>exact hb _ _ hog
       have hO:=hR.bf g';rw [hog] at hO;obtain ⟨ad',bs,k,q1,rfl,rfl,q4⟩:=hO;rw [had] at q1;cases q1;have hlt:ad.block<w.heap.size:=(hR.wr g' ad.block (by rw [hog];rfl) (Gh.jT had)).2;have hkn:(P.int .i64 (k:Int)).nat=k:=by simp [P.nat,P.num]
       have hget:(getObj ad.block).run Pg w=.ok (.stringIter bs k) w:=by simp [getObj,Sem.run,q4]
       have fin :∀(v:Value) (w':World) (e:Eff),(∀b,b≠ad.block->w'.heap[b]?=w.heap[b]?)->(Instr.next (a.eval x) true o.type).run Pg w=.ok v w'->K' e->Rel E (st.aK e.aK e.new) gh (fun t=>a.tmps.getD t undef) w'->dL E (st.aK e.aK e.new) gh w' e.x v->(∀g∈e.x.names,(st.aK e.aK e.new).used g=true)->
         (∀g,st.used g=true->(st.aK e.aK e.new).used g=true)->(∀g,((st.aK e.aK e.new).o g=.none\/True)/\(st.o g=.none->(st.aK e.aK e.new).o g=.none))->wpOp Pg ops Q i K a w:=by
        intro v w' e hmm hrun hke hR' hx' hn' hu' ho';unfold wpOp;rw [hi];simp only;have:Region.wanted o (yielded ops a.tmps)=true:=by simp [Region.wanted,hgd]
        rw [if_pos this];left;show o.upon Pg a K Q ((execOp a.eval o).run Pg w);have:(execOp a.eval o).run Pg w=.ok (.value v) w':=by
         unfold execOp;rw [hop];exact gY hrun
        rw [this];refine hK e _ _ hke ⟨⟨gh,?_,fun g hg' => ?_⟩,by rw [BU];exact hg.size,hg.defers.same (fun D _ h3=>hmm D fun e'=>by rw [e',q4] at h3;cases h3) _ _⟩
        .rw [BR _ _ hd];exact hR'.put o.dst hx' hn'
        .obtain ⟨p1,p2⟩:=KF g hg';have ho2:(st.eff o.dst e).o g=(st.aK e.aK e.new).o g:=by unfold St.eff St.put;cases o.dst<;>rfl
         have hu2:(st.eff o.dst e).used g=(st.aK e.aK e.new).used g:=by unfold St.eff St.put;cases o.dst<;>rfl
         refine ⟨by rw [hu2];exact hu' g p1,?_⟩;rw [ho2];rcases p2 with p2 | p2
         .exact .inl ((ho' g).2 p2)
         .exact .inr p2
       cases hb:QV (.str bs) (.int .i64 k) with
       |true=>
        have hkb:k<bs.size:=by
         have:=of_decide_eq_true hb;rw [hkn] at this;exact this
        have hrun:(Instr.next (a.eval x) true o.type).run Pg w=.ok (.tuple #[.bool true,.int .i64 k,.int .i32 (Utf8.decode bs k).1]) { w with heap:=w.heap.setIfInBounds ad.block (.stringIter bs (k+(Utf8.decode bs k).2)) }:=by
         rw [hv];simp only [Instr.next,Sem.run_bind,hget,Result.andThen_ok];rw [if_pos hkb];have hset:(setObj ad.block (.stringIter bs (k+(Utf8.decode bs k).2))).run Pg w=.ok () { w with heap:=w.heap.setIfInBounds ad.block (.stringIter bs (k+(Utf8.decode bs k).2)) }:=by
          simp [setObj,Sem.run,q4]
         simp only [Sem.run_bind,hset,Result.andThen_ok,Sem.run_pure];rfl
        obtain ⟨w1,w2⟩:=hR.write g' ad (by rw [hog];rfl) had (.it (.str bs) (UW (.str bs) (.int .i64 k))) (by rw [hog];trivial) { w with heap:=w.heap.setIfInBounds ad.block (.stringIter bs (k+(Utf8.decode bs k).2)) }
         (fun b hb=>by simp [Kc,Ne.symm hb]) (by simp) rfl rfl rfl rfl (fun _ e=>by cases e) (fun _=>by rw [hog];rfl)
         (fun _=>⟨ad,bs,k+(Utf8.decode bs k).2,had,rfl,by simp only [UW,lY,hkn];rfl,by simp [hlt]⟩) (fun g hg=>by simp [O.names] at hg)
        have hold :∀g,g≠g'->(st.aK (I4 g' (.str bs) (.int .i64 k)).aK (I4 g' (.str bs) (.int .i64 k)).new).o g=st.o g:=by
         intro g hne;have:(g==g')=false:=by simpa using hne
         simp [I4,St.aK,List.lookup,this]
        refine fin _ _ (I4 g' (.str bs) (.int .i64 k)) (fun b hb=>by simp [Kc,Ne.symm hb]) hrun (h1 hb) w1 ?_ ?_ ?_ ?_
        .refine .jq _ _ rfl fun j x v hx hv => ?_
         match j,hx,hv with
         |0,hx,hv=>cases hx;cases hv;exact .one _ _ (.p _ _ _ _ (.bool _))
         |1,hx,hv=>cases hx;cases hv;exact .one _ _ (.p _ _ _ _ (by rw [hkn];exact .int _ _))
         |2,hx,hv=>cases hx;cases hv;exact .one _ _ (.p _ _ _ _ (by simp only [abB,hkn];exact .int _ _))
         |j+3,hx,_=>cases hx
        .intro g hg';simp [I4,S.names,V.names,W.names] at hg'
        .intro g hg';simp [St.aK,hg']
        .intro g;refine ⟨.inr trivial,fun h0 => ?_⟩;by_cases e:g=g'
         .subst e;rw [hog] at h0;cases h0
         .rw [hold g e];exact h0
       |false=>
        have hkb:¬ k<bs.size:=by
         have:=of_decide_eq_false hb;rw [hkn] at this;exact this
        have hrun:(Instr.next (a.eval x) true o.type).run Pg w=.ok (.tuple #[.bool false]) w:=by
         rw [hv];simp only [Instr.next,Sem.run_bind,hget,Result.andThen_ok];rw [if_neg hkb];rfl
        refine fin _ _ LY (fun _ _=>rfl) hrun (h2 hb) (by rw [show LY.aK=[] from rfl,show LY.new=[] from rfl,GZ];exact hR) ?_ ?_ ?_ ?_
        .refine .jq _ _ rfl fun j x v hx hv => ?_
         match j,hx,hv with
         |0,hx,hv=>cases hx;cases hv;exact .one _ _ (.p _ _ _ _ (.bool _))
         |j+1,hx,_=>cases hx
        .intro g hg';simp [LY,S.names,V.names,W.names] at hg'
        .intro g hg';simp [St.aK,hg']
        .intro g;exact ⟨.inr trivial,fun h0=>by simpa [LY,St.aK] using h0⟩
      .cases hn
     .cases hn
    .cases hn
  .obtain ⟨e,hc,h⟩:=QN h;exact IX hT htt hi hg hc fun a' w' hg'=>hK e a' w' h hg'
theorem Cc (hT :∀f sp,T f=some sp->Sound Pg (f % 1000000) sp) (htt:iR Pg tt) {K:St->Prop} (hK :∀st' a' w',K st'->Good E N bD xk st' a' w'->Q .normal a' w') :
  ∀(is:List Nat) {st:St} {a:Act} {w:World},vU T tt N ops is st K->Good E N bD xk st a w->wpOps Pg ops Q is a w
 | [],st,a,w,h,hg=>hK st a w h hg
 |i::is,st,a,w,h,hg=>by
  simp only [vU] at h;split at h
  .rename_i o ho;rw [wpOps_cons];exact Q5 hT htt ho hg h fun e a' w' h hg'=>Cc hT htt hK is h hg'
  .cases h
theorem FH {K:St->List sU->Prop} :∀(m k:Nat) (es:Nat->Eff) (fs:List sU),fs.length=k->oZ T tt N ops (List.range' k m) (SD ops es st (fun _=>true) k) fs K->
  ∃(es':Nat->Eff) (fs':List sU),(∀i<k,es' i=es i)/\(∀i<k,fs'[i]?=fs[i]?)/\K (SD ops es' st (fun _=>true) (k+m)) fs'/\
   ∀i,k<=i->i<k+m->∃o,ops[i]?=some o/\Can T tt N ops (SD ops es' st (fun _=>true) i) o (es' i)/\fs'[i]?=some { rd:=qK T (SD ops es' st (fun _=>true) i) o,wr:=(es' i).aK.map (·.1),new:=(es' i).new,ld:=I5 tt (SD ops es' st (fun _=>true) i) o,kp:=UY (SD ops es' st (fun _=>true) i) (es' i),pk:=sV o.op,kd:=UZ (SD ops es' st (fun _=>true) i) (es' i) }
 |0,k,es,fs,hl,h=>⟨es,fs,fun _ _=>rfl,fun _ _=>rfl,h,fun i h1 h2=>by omega⟩
 |m+1,k,es,fs,hl,h=>by
  simp only [Ks,oZ] at h;split at h
  .rename_i o ho;obtain ⟨e,hc,h⟩:=QN h
   let es1:Nat->Eff:=fun i=>if i=k then e else es i
   have e1:SD ops es1 st (fun _=>true) k=SD ops es st (fun _=>true) k:=I8 fun i hi=>by simp only [es1];rw [if_neg (by omega)]
   have e2:SD ops es1 st (fun _=>true) (k+1)=(SD ops es st (fun _=>true) k).eff o.dst e:=by
    simp only [SD,if_true];rw [e1,ho];simp [es1]
   rw [<-e2] at h;obtain ⟨es',fs',q1,q2,q3,q4⟩:=FH m (k+1) es1 _ (by simp [hl]) h;have e3:SD ops es' st (fun _=>true) k=SD ops es st (fun _=>true) k:=(I8 fun i hi=>q1 i (by omega)).trans e1;refine ⟨es',fs',fun i hi => ?_,fun i hi => ?_,by rw [show k+(m+1)=k+1+m by omega];exact q3,fun i h1 h2 => ?_⟩
   .rw [q1 i (by omega)];simp only [es1];rw [if_neg (by omega)]
   .rw [q2 i (by omega),W8 (by omega)]
   .by_cases e:i=k
    .subst e;have hei:es' i=e:=by rw [q1 i (by omega)];simp [es1]
     refine ⟨o,ho,by rw [e3,hei];exact hc,?_⟩;rw [q2 i (by omega),W5 (by omega),e3,hei];simp [hl]
    .exact q4 i (by omega) (by omega)
  .cases h
def Rng (ws:List W) (off n:Nat) (x:O):Prop :=∃wc,x=.box wc/\wc.length=ws.length/\∀off',off<=off'->off'<off+n->wc[off']?=ws[off']?
theorem Jb {g:Nat} :∀{j:Nat} {xs ys:List W} {r:List (Nat×Nat)},Cb g j xs ys=some r->xs.length=ys.length/\∀p∈r,p.1=g/\j<=p.2/\xs[p.2-j]?=ys[p.2-j]?
 |j,[],[],r,h=>by simp only [Cb,Q0] at h;subst h;exact ⟨rfl,fun p hp=>by cases hp⟩
 |j,[],y::ys,r,h=>by simp [Cb] at h
 |j,x::xs,[],r,h=>by simp [Cb] at h
 |j,x::xs,y::ys,r,h=>by
  simp only [Cb] at h;split at h
  .rename_i r' hr;obtain ⟨h1,h2⟩:=Jb hr;have old :∀p∈r',p.1=g/\j<=p.2/\(x::xs)[p.2-j]?=(y::ys)[p.2-j]?:=fun p hp=>by
    obtain ⟨a1,a2,a3⟩:=h2 p hp;refine ⟨a1,by omega,?_⟩;rw [show p.2-j=(p.2-(j+1))+1 by omega,Vi,Vi];exact a3
   simp only [Q0] at h;refine ⟨by simp [h1],fun p hp => ?_⟩;rw [<-h] at hp;split at hp
   .rename_i hs;rcases QQ.1 hp with rfl | hp
    .refine ⟨rfl,Z1 _,?_⟩;have:x=y:=by
      cases x<;>cases y<;>simp only [abC] at hs<;>first | (cases hs) | skip
      .rw [Q4 hs]
      .simp only [Qt] at hs;rw [Q4 hs.1,Q4 hs.2]
     simp [this]
    .exact old p hp
   .exact old p hp
  .cases h
theorem Zl {st:St} {e:Eff} {p:Nat×Nat} (h:p∈UY st e) :∃wa wb,st.o p.1=.box wa/\e.aK.lookup p.1=some (.box wb)/\wa.length=wb.length/\wa[p.2]?=wb[p.2]?:=by
 unfold UY at h;obtain ⟨g,_,hp⟩:=Z0.1 h;cases ho:st.o g with
 |box ws=>
  cases hl:e.aK.lookup g with
  |none=>rw [ho,hl] at hp;cases hp
  |some x=>
   cases x with
   |box ws'=>
    rw [ho,hl] at hp;simp only [QW] at hp;split at hp
    .rename_i r hr;obtain ⟨h1,h2⟩:=Jb hr;obtain ⟨rfl,_,a3⟩:=h2 p hp;exact ⟨ws,ws',ho,hl,h1,by simpa using a3⟩
    .cases hp
   |_=>rw [ho,hl] at hp;cases hp
 |_=>rw [ho] at hp;cases hp
theorem Oy {st:St} {o:Oper} {g off n:Nat} (h:I5 tt st o=some (g,off,n)) :∃t x i,o.op=.load t x/\tt t=some i/\i.size=n/\st.dP x=.v (.one (.box g off)):=by
 unfold I5 at h;split at h
 .rename_i t x hop;split at h
  .rename_i i g' off' ht hx;simp only [Q0,Q1] at h;obtain ⟨rfl,rfl,rfl⟩:=h;exact ⟨t,x,i,hop,ht,rfl,hx⟩
  .cases h
 .cases h
theorem Zm {st:St} {o:Oper} {g off n:Nat} (h:I5 tt st o=some (g,off,n)):g∈qK T st o:=by
 obtain ⟨t,x,i,h1,_,_,h4⟩:=Oy h;unfold qK;rw [h1];refine W6 _ (Z0.2 ⟨x,by simp [Op.operands],Z0.2 ⟨g,?_,by simp⟩⟩);rw [h4];simp [S.names,V.names,W.names]
theorem Q7 {es:Nat->Eff} {D:Nat->Bool} {g:Nat} :∀(n:Nat),∃m,(∀k,m<=k->k<n->D k=true->g∉(es k).aK.map (·.1))/\(SD ops es st D n).o g=(SD ops es st (fun _=>true) m).o g/\(m=0\/∃k,m=k+1/\k<n/\D k=true/\g∈(es k).aK.map (·.1))
 |0=>⟨0,fun k _ h=>by omega,rfl,.inl rfl⟩
 |n+1=>by
  obtain ⟨m,h1,h2,h3⟩:=Q7 (D:=D) (g:=g) n;by_cases hw:D n=true/\g∈(es n).aK.map (·.1)
  .obtain ⟨hd,hg⟩:=hw;refine ⟨n+1,fun k a b=>by omega,?_,.inr ⟨n,rfl,by omega,hd,hg⟩⟩;simp only [SD,hd,if_true,xR];cases hl:(es n).aK.lookup g with
   |some x=>rfl
   |none=>
    exfalso;obtain ⟨p,hp,e⟩:=X1.1 hg;have :∀{l:List (Nat×O)},p∈l->l.lookup p.1≠none:=by
     intro l
     induction l with
     |nil=>intro h;cases h
     |cons q l ih=>
      intro h hn;simp only [List.lookup] at hn;split at hn
      .cases hn
      .rename_i hb;rcases QQ.1 h with h | h
       .subst h;simp at hb
       .exact ih h hn
    exact this hp (by rw [e];exact hl)
  .refine ⟨m,fun k a b hd hg => ?_,?_,h3.imp id fun ⟨k,a,b,c⟩=>⟨k,a,by omega,c⟩⟩
   .by_cases e:k=n
    .subst e;exact hw ⟨hd,hg⟩
    .exact h1 k a (by omega) hd hg
   .cases hd:D n with
    |false=>simp only [SD,hd,W3,if_false];exact h2
    |true=>
     have hg:g∉(es n).aK.map (·.1):=fun hg=>hw ⟨hd,hg⟩;simp only [SD,hd,if_true,xR,jX hg];exact h2
theorem Ak {st:St} {o:Oper} {d:Nat} {t:TypeId} {x:Operand} {i:TI} {g off:Nat} (h1:o.op=.load t x) (h2:tt t=some i) (h4:st.dP x=.v (.one (.box g off))) {K:Eff->Prop} :
  jo T tt d st o K↔∃ws,st.o g=.box ws/\(off+i.size<=ws.length/\0<i.size)/\K { x:=V.gI i.agg ((ws.drop off).take i.size),aK:=[],new:=[] }:=by
 have hD :∀dc,dW tt dc d st.o st.dP (.load t x) o.type=none:=fun dc=>by
  simp only [dW,z_,h2,h4];cases abl dc<;>rfl
 have e:jo T tt d st o K↔(match kernel tt d st.o st.dP (.load t x) o.type with
   |some r=>r.pre/\K { x:=r.dst r.val,aK:=r.aK r.val,new:=r.new }
   |none=>False):=by
  unfold jo;rw [h1];simp only [hD,reduceCtorEq,false_and,exists_false,false_or,Fe,cond_false];cases kernel tt d st.o st.dP (.load t x) o.type<;>rfl
 rw [e];simp only [kernel,h2,h4];cases ho:st.o g with
 |box ws=>
  simp only;by_cases hs:off+i.size<=ws.length/\0<i.size
  .rw [if_pos hs];simp only [DL.pure,true_and];constructor
   .intro h;exact ⟨ws,rfl,hs,h⟩
   .rintro ⟨ws',e',_,h⟩;cases e';exact h
  .rw [if_neg hs];simp only [false_iff];rintro ⟨ws',e',h,_⟩;cases e';exact hs h
 |_=>
  simp only [false_iff];rintro ⟨ws',e',_⟩;cases e'
theorem abE {st:St} {o:Oper} {e:Eff} {g off n:Nat} (hc:Can T tt N ops st o e) (hl:I5 tt st o=some (g,off,n)):e.aK=[]:=by
 obtain ⟨t,x,i,h1,h2,h3,h4⟩:=Oy hl;have key :∀{d:Nat},(jo T tt d st o fun e'=>e'.new.all (fun g=>!st.used g)=true/\e'=e)->e.aK=[]:=by
  intro d h;obtain ⟨ws,_,_,_,rfl⟩:=(Ak h1 h2 h4).1 h;rfl
 unfold Can stepW at hc;obtain ⟨_,hc⟩:=hc;split at hc
 .exact key hc
 .split at hc
  .rename_i b _;cases b with
   |true=>exact key hc
   |false=>have hc:Eff.skip=e:=hc;rw [<-hc];rfl
  .cases hc
theorem Zn {st:St} {e:Eff} {g:Nat} (h:g∈UZ st e) :∃x,e.aK.lookup g=some x/\kindOf x=kindOf (st.o g):=by
 unfold UZ at h;obtain ⟨g',_,hp⟩:=qa.1 h;cases hl:e.aK.lookup g' with
 |none=>rw [hl] at hp;cases hp
 |some x=>
  rw [hl] at hp;simp only at hp;cases hb:Nat.beq (kindOf x) (kindOf (st.o g')) with
  |false=>rw [hb] at hp;cases hp
  |true=>
   rw [hb] at hp;cases hp;exact ⟨x,hl,Q4 hb⟩
theorem L_ {o o':Nat->O} {x:W} (h :∀g∈x.names,kindOf (o g)=kindOf (o' g)):x.live o=x.live o':=by
 cases x<;>simp only [W.live]<;>first | rfl | skip
 .rename_i g off;have:=h g (by simp [W.names]);cases h1:o g<;>cases h2:o' g<;>rw [h1,h2] at this<;>first | rfl | cases this
 .rename_i g n off;have:=h g (by simp [W.names]);cases h1:o g<;>cases h2:o' g<;>rw [h1,h2] at this<;>first | rfl | cases this
theorem Q8 {o o':Nat->O} {d:Nat} {F F':Operand->S} {op:Op} {ty:TypeId} (hp:sV op=true) (hF :∀x∈op.operands.toList,F x=F' x) (ho :∀x∈op.operands.toList,∀g∈(F x).names,kindOf (o g)=kindOf (o' g)) :
  kernel tt d o F op ty=kernel tt d o' F' op ty:=by
 cases op<;>first | (cases hp;done) | skip
 .rename_i x;have h1:=hF x (by simp [Op.operands]);have h2:=ho x (by simp [Op.operands]);simp only [kernel,<-h1];generalize F x=z at h2;split
  .rename_i x;rw [L_ (o':=o') fun g hg=>h2 g (by simpa [S.names,V.names] using hg)]
  .rfl
 .rename_i t x n;have h1:=hF x (by simp [Op.operands]);have h2:=ho x (by simp [Op.operands]);simp only [kernel,<-h1];generalize F x=z at h2;split
  .rename_i x _ _;rw [L_ (o':=o') fun g hg=>h2 g (by simpa [S.names,V.names] using hg)]
  .rfl
theorem Am {st:St} {o:Oper} {d:Nat} (hp:sV o.op=true) {K:Eff->Prop} :
  jo T tt d st o K↔(match kernel tt d st.o st.dP o.op o.type with
   |some r=>r.pre/\K { x:=r.dst r.val,aK:=r.aK r.val,new:=r.new }
   |none=>False):=by
 unfold jo;cases hop:o.op<;>rw [hop] at hp<;>first | (cases hp;done) | skip
 all_goals
  simp only [dW,reduceCtorEq,false_and,exists_false,false_or,Fe,cond_false];generalize kernel tt d st.o st.dP _ o.type=z;cases z<;>rfl
theorem Zo {o:Nat->O} {F:Operand->S} {d:Nat} {op:Op} {ty:TypeId} {r:DL} (hp:sV op=true) (h:kernel tt d o F op ty=some r):r.aK r.val=[]:=by
 cases op<;>first | (cases hp;done) | skip
 all_goals
  simp only [kernel] at h;split at h
  .split at h
   .simp only [Q0] at h;subst h;rfl
   .cases h
  .cases h
theorem abG {st:St} {o:Oper} {e:Eff} (hc:Can T tt N ops st o e) (hp:sV o.op=true):e.aK=[]:=by
 have key :∀{d:Nat},(jo T tt d st o fun e'=>e'.new.all (fun g=>!st.used g)=true/\e'=e)->e.aK=[]:=by
  intro d h;have h:=(Am hp).1 h;split at h
  .rename_i r hr;obtain ⟨_,_,rfl⟩:=h;exact Zo hp hr
  .cases h
 unfold Can stepW at hc;obtain ⟨_,hc⟩:=hc;split at hc
 .exact key hc
 .split at hc
  .rename_i b _;cases b with
   |true=>exact key hc
   |false=>have hc:Eff.skip=e:=hc;rw [<-hc];rfl
  .cases hc
theorem abH {st st':St} {o:Oper} {e:Eff} (hc:Can T tt N ops st o e) (hp:sV o.op=true) (hs :∀t∈o.looksAt ops,st.s t=st'.s t) (ho :∀g∈qK T st o,kindOf (st.o g)=kindOf (st'.o g)) (hu :∀g∈e.new,st.used g=st'.used g):Can T tt N ops st' o e:=by
 have hx :∀x∈o.op.operands.toList,st.dP x=st'.dP x:=by
  intro x hm;cases x with
  |tmp t=>exact hs t (W6 _ (qa.2 ⟨_,hm,rfl⟩))
  |_=>rfl
 have hl:looks o.op=true:=by cases hop:o.op<;>rw [hop] at hp<;>first | rfl | cases hp
 have hk:kernel tt (o.dst.getD 0) st.o st.dP o.op o.type=kernel tt (o.dst.getD 0) st'.o st'.dP o.op o.type:=
  Q8 hp hx fun x hm g hg=>ho g (W6 _ (by rw [hl];exact Z0.2 ⟨x,hm,Z0.2 ⟨g,hg,by simp⟩⟩))
 have eff:(jo T tt (o.dst.getD 0) st o fun e'=>e'.new.all (fun g=>!st.used g)=true/\e'=e)->(jo T tt (o.dst.getD 0) st' o fun e'=>e'.new.all (fun g=>!st'.used g)=true/\e'=e):=by
  intro h;have h:=(Am hp).1 h;refine (Am hp).2 ?_;rw [<-hk];split at h
  .obtain ⟨q1,q2,rfl⟩:=h;refine ⟨q1,?_,rfl⟩;rw [XX] at q2 ⊢;intro g hg;rw [<-hu g hg];exact q2 g hg
  .cases h
 unfold Can stepW at *;refine ⟨hc.1,?_⟩;have hc:=hc.2;cases hg:o.guard with
 |none=>rw [hg] at hc;exact eff hc
 |some p=>
  obtain ⟨j,want⟩:=p;rw [hg] at hc;simp only at hc ⊢;have:guardOf ops st j want=guardOf ops st' j want:=by
   unfold guardOf;cases hd:(ops[j]?).bind (·.dst) with
   |none=>rfl
   |some t=>
    simp only;rw [hs t (K0 _ (by simp [hg,hd]))]
  rw [<-this];split at hc
  .rename_i b hb;cases b with
   |true=>exact eff hc
   |false=>exact hc
  .cases hc
theorem abI {st st':St} {o:Oper} {e:Eff} {g off n:Nat} (hc:Can T tt N ops st o e) (hs :∀t∈o.looksAt ops,st.s t=st'.s t) (hl:I5 tt st o=some (g,off,n))
  (H:0<n->∀ws,st.o g=.box ws->Rng ws off n (st'.o g)) (hu :∀g∈e.new,st.used g=st'.used g):Can T tt N ops st' o e:=by
 obtain ⟨t,x,i,h1,h2,h3,h4⟩:=Oy hl;have hx:st'.dP x=.v (.one (.box g off)):=by
  rw [<-h4];cases x with
  |tmp t=>exact (hs t (W6 _ (qa.2 ⟨.tmp t,by simp [h1,Op.operands],rfl⟩))).symm
  |_=>rfl
 have eff:(jo T tt (o.dst.getD 0) st o fun e'=>e'.new.all (fun g=>!st.used g)=true/\e'=e)->(jo T tt (o.dst.getD 0) st' o fun e'=>e'.new.all (fun g=>!st'.used g)=true/\e'=e):=by
  intro h;obtain ⟨ws,ho,⟨q1,q2⟩,q3,rfl⟩:=(Ak h1 h2 h4).1 h;obtain ⟨wc,r1,r2,r3⟩:=H (by omega) ws ho;refine (Ak h1 h2 hx).2 ⟨wc,r1,⟨by omega,q2⟩,rfl,?_⟩;have key:(wc.drop off).take i.size=(ws.drop off).take i.size:=by
   refine Kk fun k => ?_;rw [Z2,Z2];split
   .rw [W4,W4];exact r3 _ (by omega) (by omega)
   .rfl
  rw [key]
 unfold Can stepW at *;refine ⟨hc.1,?_⟩;have hc:=hc.2;cases hg:o.guard with
 |none=>rw [hg] at hc;exact eff hc
 |some p=>
  obtain ⟨j,want⟩:=p;rw [hg] at hc;simp only at hc ⊢;have:guardOf ops st j want=guardOf ops st' j want:=by
   unfold guardOf;cases hd:(ops[j]?).bind (·.dst) with
   |none=>rfl
   |some t=>
    simp only;rw [hs t (K0 _ (by simp [hg,hd]))]
  rw [<-this];split at hc
  .rename_i b hb;cases b with
   |true=>exact eff hc
   |false=>exact hc
  .cases hc
theorem Zp (hT :∀f sp,T f=some sp->Sound Pg (f % 1000000) sp) (htt:iR Pg tt) {es:Nat->Eff} {fs:List sU} (hfree:W9 ops fs=true)
  (hcan :∀i,i<ops.size->∃o,ops[i]?=some o/\Can T tt N ops (SD ops es st (fun _=>true) i) o (es i)/\fs[i]?=some { rd:=qK T (SD ops es st (fun _=>true) i) o,wr:=(es i).aK.map (·.1),new:=(es i).new,ld:=I5 tt (SD ops es st (fun _=>true) i) o,kp:=UY (SD ops es st (fun _=>true) i) (es i),pk:=sV o.op,kd:=UZ (SD ops es st (fun _=>true) i) (es i) })
  (hQ :∀a' w',Good E N bD xk (SD ops es st (fun _=>true) ops.size) a' w'->Q .normal a' w') :
  ∀(fuel:Nat) (listed:Array Bool) (a:Act) (w:World),listed.size=ops.size->Down ops (fun k=>listed.getD k false)->(List.range ops.size).countP (fun k=>!listed.getD k false)<=fuel->
   Good E N bD xk (SD ops es st (fun k=>listed.getD k false) ops.size) a w->wpAny Pg .any ops Q fuel listed a w:=by
 have hf :∀j,j<ops.size->(oK ops.toList []).getD j 0<2 ^ j/\∀i,i<j->((oK ops.toList []).getD j 0).testBit i=true\/∃x y fx fy,ops[i]?=some x/\ops[j]?=some y/\fs[i]?=some fx/\fs[j]?=some fy/\Apart ops x y fx fy:=by
  intro j hj;have:=(XX.1 hfree) j (Wz.2 hj);simp only [Qt,decide_eq_true_eq,XX,Wz,Jx] at this;refine ⟨this.1,fun i hi => ?_⟩;rcases this.2 i hi with h | h
  .exact .inl h
  .right;split at h
   .rename_i x y fx fy h1 h2 h3 h4;exact ⟨x,y,fx,fy,h1,h2,h3,h4,U0 h⟩
   .cases h
 have done :∀(listed:Array Bool),listed.size=ops.size->Down ops (fun k=>listed.getD k false)->Region.ready .any ops listed=[]->∀k,k<ops.size->listed.getD k false=true:=by
  intro listed hsz hD hr k
  induction k using Nat.strongRecOn with
  |_ k ih=>
   intro hk;obtain ⟨o,ho,_,_⟩:=hcan k hk;by_cases hl:listed.getD k false=true
   .exact hl
   .exfalso;have:k∈Region.ready .any ops listed:=mem_ready.2 ⟨by
     have hl:listed.getD k false=false:=by simpa using hl
     rw [We] at hl ⊢;rw [Km (by omega)] at hl ⊢;exact hl,o,ho,fun e he hb=>ih e.on (QY ho (hf k hk).1 he hb) (by have:=QY ho (hf k hk).1 he hb;omega)⟩
    rw [hr] at this;cases this
 have final :∀(listed:Array Bool) (a:Act) (w:World),listed.size=ops.size->Down ops (fun k=>listed.getD k false)->Region.ready .any ops listed=[]->Good E N bD xk (SD ops es st (fun k=>listed.getD k false) ops.size) a w->Q .normal a w:=by
  intro listed a w hsz hD hr hg;have h:=done listed hsz hD hr;rw [D9 (D':=fun _=>true) fun k hk=>h k hk] at hg;exact hQ a w hg
 intro fuel
 induction fuel with
 |zero=>
  intro listed a w hsz hD hcnt hg;have hr:Region.ready .any ops listed=[]:=by
   cases hr:Region.ready .any ops listed with
   |nil=>rfl
   |cons k ks=>
    exfalso;have hk:k∈Region.ready .any ops listed:=by rw [hr];simp
    obtain ⟨h1,o,ho,_⟩:=mem_ready.1 hk;have hlt:=(V1.1 ho).1;have:0<(List.range ops.size).countP (fun k=>!listed.getD k false):=by
     rw [List.countP_pos_iff];refine ⟨k,Wz.2 hlt,?_⟩;rw [We] at h1 ⊢;rw [Km (by omega)] at h1 ⊢;simpa using h1
    omega
  exact ⟨hr,final listed a w hsz hD hr hg⟩
 |succ fuel ih=>
  intro listed a w hsz hD hcnt hg;refine ⟨fun hr=>final listed a w hsz hD hr hg,fun i hi => ?_⟩;obtain ⟨hni,oi,hoi,hpre⟩:=mem_ready.1 hi;have hlt:i<ops.size:=(V1.1 hoi).1;have hDi:listed.getD i false=false:=by
   rw [We] at hni ⊢;rw [Km (by omega)] at hni ⊢;exact hni
  obtain ⟨o,ho,hc,hfi⟩:=hcan i hlt;rw [hoi] at ho;cases ho;have hset :∀k,(listed.setIfInBounds i true).getD k false=if k=i then true else listed.getD k false:=by
   intro k;by_cases e:k=i
   .subst e;rw [if_pos rfl,We,Array.getElem?_setIfInBounds_self];simp [show k<listed.size by omega]
   .rw [if_neg e,We,Array.getElem?_setIfInBounds_ne (Ne.symm e),<-We]
  have hD':Down ops (fun k=>(listed.setIfInBounds i true).getD k false):=by
   intro j o' ho' hj e he hb;simp only [hset] at hj ⊢;by_cases ej:j=i
   .subst ej;rw [hoi] at ho';cases ho';have:=hpre e he hb;rw [this];simp
   .rw [if_neg ej] at hj;have:=hD j o' ho' hj e he hb;simp only at this;rw [this];simp
  have hap :∀k,k<ops.size->k≠i->((k<i/\listed.getD k false=false)\/(i<k/\listed.getD k false=true))->∃y fy,ops[k]?=some y/\fs[k]?=some fy/\
    (∀t,y.dst=some t->t∉oi.looksAt ops)/\(∀t,oi.dst=some t->y.dst≠some t)/\((∀g∈fy.wr,g∉qK T (SD ops es st (fun _=>true) i) oi)\/∃fi,fs[i]?=some fi/\FC fy fi=true)/\(∀g∈fy.wr,g∉(es i).aK.map (·.1))/\(∀g∈fy.new,g∉(es i).new)/\fy.wr=(es k).aK.map (·.1)/\fy.new=(es k).new:=by
   intro k hk hne hcase;obtain ⟨y0,hy0,_,hfk⟩:=hcan k hk;rcases hcase with ⟨hlt',hfalse⟩ | ⟨hlt',alO⟩
   .rcases (hf i hlt).2 k hlt' with hb | ⟨x,y,fx,fy,h1,h2,h3,h4,ap⟩
    .have:=xW hD' i hoi (by simp [hset]) k hb;simp only [hset,if_neg hne] at this;rw [hfalse] at this;cases this
    .rw [hoi] at h2;cases h2;rw [hfi] at h4;cases h4;rw [hfk] at h3;cases h3;exact ⟨x,_,h1,hfk,ap.dy,fun t e e'=>ap.dd t e' e,ap.wr.imp id (fun h=>⟨_,hfi,h⟩),ap.ww,ap.nn,rfl,rfl⟩
   .rcases (hf k hk).2 i hlt' with hb | ⟨x,y,fx,fy,h1,h2,h3,h4,ap⟩
    .have:=xW hD k hy0 alO i hb;rw [hDi] at this;cases this
    .rw [hoi] at h1;cases h1;rw [hfi] at h3;cases h3;rw [hfk] at h4;cases h4;exact ⟨y,_,h2,hfk,ap.dx,ap.dd,ap.rw.imp id (fun h=>⟨_,hfi,h⟩),fun g hg hg'=>ap.ww g hg' hg,fun g hg hg'=>ap.nn g hg' hg,rfl,rfl⟩
  have Oz:SD ops es st (fun _=>true) i=SD ops es st (fun k=>decide (k<i)) ops.size:=by
   have :∀m,i+m<=ops.size->SD ops es st (fun k=>decide (k<i)) (i+m)=SD ops es st (fun _=>true) i:=by
    intro m
    induction m with
    |zero=>intro _;exact D9 fun k hk=>by simp [show k<i by omega]
    |succ m ih=>
     intro hm;rw [<-Uv];simp only [SD,show ¬ (i+m<i) by omega,decide_false,W3,if_false];exact ih (by omega)
   have:=this (ops.size-i) (by omega);rw [show i+(ops.size-i)=ops.size by omega] at this;exact this.symm
  have hdiff :∀k,k<ops.size->decide (k<i)≠listed.getD k false->k≠i/\((k<i/\listed.getD k false=false)\/(i<k/\listed.getD k false=true)):=by
   intro k hk hne;by_cases e:k=i
   .subst e;rw [hDi] at hne;simp at hne
   .refine ⟨e,?_⟩;by_cases hki:k<i
    .exact .inl ⟨hki,by simpa [hki] using hne⟩
    .refine .inr ⟨by omega,?_⟩;cases hl:listed.getD k false with
     |true=>rfl
     |false=>rw [hl] at hne;simp [hki] at hne
  have hdst :∀(k:Nat) (y:Oper),ops[k]?=some y->(ops[k]?).bind (·.dst)=y.dst:=fun k y h=>by rw [h];rfl
  have hc':Can T tt N ops (SD ops es st (fun k=>listed.getD k false) ops.size) oi (es i):=by
   have sO :∀t∈oi.looksAt ops,(SD ops es st (fun _=>true) i).s t=(SD ops es st (fun k=>listed.getD k false) ops.size).s t:=fun t ht=>by
    rw [Oz];refine ajb fun k hk hne => ?_;obtain ⟨h1,h2⟩:=hdiff k hk hne;obtain ⟨y,fy,h3,_,h4,_⟩:=hap k hk h1 h2;rw [hdst k y h3];exact fun e=>h4 t e ht
   have Qh :∀g∈(es i).new,(SD ops es st (fun _=>true) i).used g=(SD ops es st (fun k=>listed.getD k false) ops.size).used g:=fun g hg=>by
    rw [Oz];refine Ox fun k hk hne => ?_;obtain ⟨h1,h2⟩:=hdiff k hk hne;obtain ⟨y,fy,h3,_,_,_,_,_,h4,_,h5⟩:=hap k hk h1 h2;rw [<-h5];exact fun e=>h4 g e hg
   have travel :∀(g:Nat) (Pr:O->Prop),g∉(es i).aK.map (·.1)->(∀k,k<ops.size->k≠i->((k<i/\listed.getD k false=false)\/(i<k/\listed.getD k false=true))->g∈(es k).aK.map (·.1)->
     (Pr ((SD ops es st (fun _=>true) k).o g)↔Pr ((SD ops es st (fun _=>true) (k+1)).o g)))->Pr ((SD ops es st (fun _=>true) i).o g)->Pr ((SD ops es st (fun k=>listed.getD k false) ops.size).o g):=by
    intro g Pr hgi hkeep hP0;have hstep :∀k,k<ops.size->(g∈(es k).aK.map (·.1)->(Pr ((SD ops es st (fun _=>true) k).o g)↔Pr ((SD ops es st (fun _=>true) (k+1)).o g)))->
      (Pr ((SD ops es st (fun _=>true) k).o g)↔Pr ((SD ops es st (fun _=>true) (k+1)).o g)):=by
     intro k hk hw;by_cases hg:g∈(es k).aK.map (·.1)
     .exact hw hg
     .have:(SD ops es st (fun _=>true) (k+1)).o g=(SD ops es st (fun _=>true) k).o g:=by
       simp only [SD,if_true,xR,jX hg]
      rw [this]
    obtain ⟨m',hm',hlast,hafter⟩:=Q7 (ops:=ops) (es:=es) (st:=st) (D:=fun k=>listed.getD k false) (g:=g) ops.size;rw [hlast];rcases qD i m' with him | him
    .-- forward
     have :∀d,i+d<=m'->Pr ((SD ops es st (fun _=>true) (i+d)).o g):=by
      intro d
      induction d with
      |zero=>intro _;exact hP0
      |succ d ihd=>
       intro hd;have hk:i+d<ops.size:=by
        rcases hafter with e | ⟨k1,e,h2,_⟩<;>omega
       rw [<-Uv];refine (hstep (i+d) hk (fun hg => ?_)).1 (ihd (by omega));by_cases e0:d=0
       .exfalso;subst e0;exact hgi hg
       .have hin:listed.getD (i+d) false=true:=by
         rcases hafter with e | ⟨k1,rfl,alP,hk1,hg1⟩
         .omega
         .by_cases e1:i+d=k1
          .rw [e1];exact hk1
          .obtain ⟨y1,hy1,_,hf1⟩:=hcan k1 alP;rcases (hf k1 alP).2 (i+d) (by omega) with hb | ⟨x2,y2,fx,fy,h1,h2,h3,h4,ap⟩
           .exact xW hD k1 hy1 hk1 _ hb
           .exfalso;obtain ⟨y0,_,_,hfk⟩:=hcan (i+d) hk;rw [hfk] at h3;cases h3;rw [hf1] at h4;cases h4;exact ap.ww g hg hg1
        exact hkeep (i+d) hk (by omega) (.inr ⟨by omega,hin⟩) hg
     have:=this (m'-i) (by omega)
     rwa [show i+(m'-i)=m' by omega] at this
    .-- backward
     have :∀d,d<=i-m'->Pr ((SD ops es st (fun _=>true) (i-d)).o g):=by
      intro d
      induction d with
      |zero=>intro _;exact hP0
      |succ d ihd=>
       intro hd;have hk:i-(d+1)<ops.size:=by omega
       have e1:i-(d+1)+1=i-d:=by omega
       refine (hstep (i-(d+1)) hk (fun hg => ?_)).2 (by rw [e1];exact ihd (by omega));have hout:listed.getD (i-(d+1)) false=false:=by
        cases hl:listed.getD (i-(d+1)) false with
        |false=>rfl
        |true=>exact absurd hg (hm' (i-(d+1)) (by omega) hk hl)
       exact hkeep (i-(d+1)) hk (by omega) (.inl ⟨by omega,hout⟩) hg
     have:=this (i-m') (Z1 _)
     rwa [show i-(i-m')=m' by omega] at this
   cases hld:I5 tt (SD ops es st (fun _=>true) i) oi with
   |none=>
    by_cases hpk:sV oi.op=true
    .refine abH hc hpk sO (fun g hg => ?_) Qh;refine (travel g (fun x=>kindOf ((SD ops es st (fun _=>true) i).o g)=kindOf x) (by rw [abG hc hpk];simp) (fun k hk hne hcase hgk => ?_) rfl);obtain ⟨y,fy,h3,hfk,_,_,h4,_,_,h5,_⟩:=hap k hk hne hcase;rcases h4 with h4 | ⟨fi,Q9,hs⟩
     .exfalso;rw [<-h5] at hgk;exact h4 g hgk hg
     .rw [hfi] at Q9;cases Q9;simp only [FC,hld,hpk,Bool.true_and,XX,Jx,Wf,Wl,decide_eq_true_eq,decide_eq_false_iff_not] at hs;rw [h5] at hs;rcases hs g hg with hs | hs
      .exact absurd hgk hs
      .obtain ⟨o',ho',_,abJ⟩:=hcan k hk;rw [hfk] at abJ;cases abJ;obtain ⟨x,q1,q2⟩:=Zn hs;have:(SD ops es st (fun _=>true) (k+1)).o g=x:=by simp only [SD,if_true,xR,q1]
       rw [this,q2]
    .refine Zk hc sO (fun g hg => ?_) Qh;rw [Oz] at hg ⊢;refine ajc fun k hk hne => ?_;obtain ⟨h1,h2⟩:=hdiff k hk hne;obtain ⟨y,fy,h3,_,_,_,h4,_,_,h5,_⟩:=hap k hk h1 h2;rw [<-h5];rcases h4 with h4 | ⟨fi,Q9,hs⟩
     .rw [Oz] at h4;exact fun e=>h4 g e hg
     .rw [hfi] at Q9;cases Q9;simp only [FC,hld,hpk,Bool.false_and] at hs;cases hs
   |some q=>
    obtain ⟨g,off,n⟩:=q;refine abI hc sO hld (fun hn ws hws => ?_) Qh;refine travel g (Rng ws off n) (by rw [abE hc hld];simp) (fun k hk hne hcase hg => ?_) ⟨ws,hws,rfl,fun _ _ _=>rfl⟩;obtain ⟨y,fy,h3,hfk,_,_,h4,_,_,h5,_⟩:=hap k hk hne hcase;rcases h4 with h4 | ⟨fi,Q9,hs⟩
    .exfalso;rw [<-h5] at hg;exact h4 g hg (Zm hld)
    .rw [hfi] at Q9;cases Q9;simp only [FC,hld,XX,Wz] at hs;obtain ⟨o',ho',_,abJ⟩:=hcan k hk;rw [hfk] at abJ;cases abJ;have one :∀off',off<=off'->off'<off+n->∃wa wb,(SD ops es st (fun _=>true) k).o g=.box wa/\(SD ops es st (fun _=>true) (k+1)).o g=.box wb/\wa.length=wb.length/\wa[off']?=wb[off']?:=by
      intro off' h1' h2';have:=hs (off'-off) (by omega);obtain ⟨p,hp,he⟩:=Kb.1 this;simp only [Qt] at he;have e1:=Q4 he.1;have e2:=Q4 he.2;obtain ⟨wa,wb,q1,q2,q3,q4⟩:=Zl hp;rw [e1] at q1 q2;refine ⟨wa,wb,q1,?_,q3,by rw [show off'=p.2 by omega];exact q4⟩;simp only [SD,if_true,xR,q2]
     obtain ⟨wa,wb,q1,q2,q3,_⟩:=one off (Z1 _) (by omega);rw [q1,q2];have hall :∀off',off<=off'->off'<off+n->wa[off']?=wb[off']?:=fun off' a1 a2=>by
      obtain ⟨wa',wb',r1,r2,_,r4⟩:=one off' a1 a2;rw [q1] at r1;rw [q2] at r2;cases r1;cases r2;exact r4
     constructor
     .rintro ⟨wc,hc,hl,hr⟩;cases hc;exact ⟨wb,rfl,by omega,fun off' a1 a2=>by rw [<-hall off' a1 a2];exact hr off' a1 a2⟩
     .rintro ⟨wc,hc,hl,hr⟩;cases hc;exact ⟨wa,rfl,by omega,fun off' a1 a2=>by rw [hall off' a1 a2];exact hr off' a1 a2⟩
  have hins:SD ops es st (fun k=>(listed.setIfInBounds i true).getD k false) ops.size=(SD ops es st (fun k=>listed.getD k false) ops.size).eff oi.dst (es i):=by
   have hDs :∀k,(fun k=>(listed.setIfInBounds i true).getD k false) k=if k=i then true else listed.getD k false:=hset
   have hne :∀k,(fun k=>(listed.setIfInBounds i true).getD k false) k≠(fun k=>listed.getD k false) k->k=i:=by
    intro k h;simp only [hset] at h;by_cases e:k=i
    .exact e
    .rw [if_neg e] at h;exact absurd rfl h
   have abK :∀k,i<k->k<ops.size->(fun k=>(listed.setIfInBounds i true).getD k false) k=true->listed.getD k false=true:=by
    intro k h1 h2 h3;simp only [hset,if_neg (show k≠i by omega)] at h3;exact h3
   refine St.ext' (fun t => ?_) (fun g => ?_) (fun g => ?_)
   .rw [LZ];by_cases hd:oi.dst=some t
    .rw [if_pos hd];refine L6 (by simp [hset]) ((hdst i oi hoi).trans hd) hlt fun k h1 h2 h3 => ?_;obtain ⟨y,fy,q1,_,_,q2,_⟩:=hap k h2 (by omega) (.inr ⟨h1,abK k h1 h2 h3⟩);rw [hdst k y q1];exact q2 t hd
    .rw [if_neg hd];refine ajb fun k hk hk' => ?_;rw [hne k hk',hdst i oi hoi];exact hd
   .rw [xR];cases hu:(es i).aK.lookup g with
    |some x=>
     refine L8 (by simp [hset]) hu hlt fun k h1 h2 h3 => ?_;obtain ⟨y,fy,q1,_,_,_,_,q2,_,q3,_⟩:=hap k h2 (by omega) (.inr ⟨h1,abK k h1 h2 h3⟩);rw [<-q3];exact fun e=>q2 g e (X1.2 ⟨(g,x),kN hu,rfl⟩)
    |none=>
     refine ajc fun k hk hk' => ?_;rw [hne k hk'];intro hm;obtain ⟨p,hp,rfl⟩:=X1.1 hm;have :∀{l:List (Nat×O)},p∈l->l.lookup p.1≠none:=by
      intro l
      induction l with
      |nil=>intro h;cases h
      |cons q l ih=>
       intro h hn;simp only [List.lookup] at hn;split at hn
       .cases hn
       .rename_i hb;rcases QQ.1 h with h | h
        .subst h;simp at hb
        .exact ih h hn
     exact this hp hu
   .rw [uh];by_cases hn:g∈(es i).new
    .rw [FD (by simp [hset]) hn hlt];simp [hn]
    .have:(es i).new.contains g=false:=by simpa using hn
     rw [this,J0];refine Ox fun k hk hk' => ?_;rw [hne k hk'];exact hn
  refine IX hT htt hoi hg hc' fun a' w' hg'=>ih _ a' w' (by simp [hsz]) hD' ?_ (by rw [hins];exact hg');have hlt2:(List.range ops.size).countP (fun k=>!(listed.setIfInBounds i true).getD k false)<(List.range ops.size).countP (fun k=>!listed.getD k false):=by
   have gen :∀l:List Nat,i∈l->l.countP (fun k=>!(listed.setIfInBounds i true).getD k false)<l.countP (fun k=>!listed.getD k false):=by
    intro l;have hle :∀l:List Nat,l.countP (fun k=>!(listed.setIfInBounds i true).getD k false)<=l.countP (fun k=>!listed.getD k false):=fun l=>List.countP_mono_left fun k _ h=>by
     simp only [hset] at h;by_cases e:k=i
     .simp [e] at h
     .simpa [e] using h
    induction l with
    |nil=>intro h;cases h
    |cons k l ihl=>
     intro h;simp only [List.countP_cons];by_cases e:k=i
     .subst e;have h1:(!(listed.setIfInBounds k true).getD k false)=false:=by simp [hset]
      have h2:(!listed.getD k false)=true:=by simp [hDi]
      rw [h1,h2];exact Nat.lt_succ_of_le (hle l)
     .have:=ihl (by rcases QQ.1 h with h | h;exact absurd h.symm e;exact h);have e1:(!(listed.setIfInBounds i true).getD k false)=(!listed.getD k false):=by rw [hset,if_neg e]
      rw [e1];omega
   exact gen _ (Wz.2 hlt)
  omega
theorem U1 (hT :∀f sp,T f=some sp->Sound Pg (f % 1000000) sp) (htt:iR Pg tt) {draw:Bool} {K:St->Prop} (h:rM T tt N ops draw st K) (hg:Good E N bD xk st a w)
  (hK :∀st' a' w',K st'->Good E N bD xk st' a' w'->Q .normal a' w'):(draw=false/\wpOps Pg ops Q (List.range ops.size) a w)\/(draw=true/\wpAny Pg .any ops Q ops.size (Array.replicate ops.size false) a { w with drawn:=w.drawn+1 }):=by
 cases draw with
 |false=>exact .inl ⟨rfl,Cc hT htt hK _ h hg⟩
 |true=>
  have h:oZ T tt N ops (List.range ops.size) st [] (fun st' fs=>W9 ops fs=true/\K st'):=h;rw [qf] at h;obtain ⟨es,fs,_,_,⟨h1,h2⟩,h3⟩:=FH (st:=st) ops.size 0 (fun _=>Eff.skip) [] rfl h;rw [Wm] at h2;refine .inr ⟨rfl,?_⟩;refine Zp hT htt h1 (fun i hi=>h3 i (by omega) (by omega)) (fun a' w' hg'=>hK _ a' w' h2 hg') ops.size _ a _ (by simp) ?_ ?_ ?_
  .intro j o _ hj;simp only [We] at hj;rw [qT] at hj;split at hj<;>cases hj
  .refine J1 List.countP_le_length ?_;simp
  .obtain ⟨⟨gh,hR,KF⟩,hsz,hdf⟩:=hg;have e:SD ops es st (fun k=>(Array.replicate ops.size false).getD k false) ops.size=st:=by
    have :∀n,SD ops es st (fun k=>(Array.replicate ops.size false).getD k false) n=st:=by
     intro n
     induction n with
     |zero=>rfl
     |succ n ih=>
      have:(Array.replicate ops.size false).getD n false=false:=by
       rw [We,qT];split<;>rfl
      simp only [SD,this,W3,if_false];exact ih
    exact this _
   rw [e];exact ⟨⟨gh,hR.drew _,KF⟩,hsz,hdf⟩
theorem OA (hT :∀f sp,T f=some sp->Sound Pg (f % 1000000) sp) (htt:iR Pg tt) (hm:Pg.follows .mixedOrders=true) {id:Nat} {draw:Bool} {K:St->Prop} (h:rM T tt N ops draw st K) (hg:Good E N bD xk st a w)
  (hK :∀st' a' w',K st'->Good E N bD xk st' a' w'->Q .normal a' w'):(Code.region id ops draw).wp Pg Q a w:=by
 rcases U1 hT htt h hg hK with ⟨e,h2⟩ | ⟨e,h2⟩
 .rw [e];exact wp_region h2
 .rw [e];exact wp_region_any hm h2
end
end Go.Fw

namespace Go.Fw
variable [eX]
def W_ (gs:List Nat) (o:Nat->O):W->W
 |.own g=>if gs.contains g=true then match plainO o g with
  |some (a,i,sz,l)=>.p a i (P.gq sz l)
  |none=>.own g
  else .own g
 |.vw g lo hi=>if gs.contains g=true then match plainO o g with
  |some (a,i,sz,l)=>.p a i (P.gq sz ((l.take hi.nat).drop lo.nat))
  |none=>.vw g lo hi
  else .vw g lo hi
 |x=>x
def plV (gs:List Nat) (o:Nat->O):V->V
 |.one x=>.one (W_ gs o x)
 |.agg xs=>.agg (xs.map (W_ gs o))
def plS (gs:List Nat) (o:Nat->O):S->S
 |.v x=>.v (plV gs o x)
 |.jq xs=>.jq (xs.map (plV gs o))
 |.no=>.no
def plO (gs:List Nat) (o:Nat->O) (g:Nat):O:=match o g with
 |.box ws=>.box (ws.map (W_ gs o))
 |x=>if gs.contains g=true then (Fw.aW o g).2 else x
def fE (gs:List Nat) (st:St):St:={ s:=fun t=>plS gs st.o (st.s t),o:=fun g=>plO gs st.o g,used:=st.used }
def afh (o:Nat->O) (gs:List Nat):Bool:=gs.all fun g=>(plainO o g).isSome&&(o g).names.all fun d=>gs.contains d
theorem Zq {o:Nat->O} {gs:List Nat} (h:afh o gs=true):xw o gs:=fun g hg=>by
 have:=(XX.1 h) g hg;simp only [Qt,XX,Wl,decide_eq_true_eq] at this;exact this
section
variable {E:Env} {st:St} {gh:Nat->Gh} {w:World} {val:Nat->Value}
theorem D_ {gs:List Nat} {o:Nat->O} {x:W} {g:Nat} (h:g∈(W_ gs o x).names):g∈x.names:=by
 unfold W_ at h;split at h
 .split at h
  .split at h
   .simp [W.names] at h
   .exact h
  .exact h
 .split at h
  .split at h
   .simp [W.names] at h
   .exact h
  .exact h
 .exact h
theorem Mc {gs:List Nat} {o:Nat->O} {x:V} {g:Nat} (h:g∈(plV gs o x).names):g∈x.names:=by
 cases x with
 |one x=>exact D_ h
 |agg xs=>
  simp only [plV,V.names,Z0,X1] at h ⊢;obtain ⟨_,⟨x,hx,rfl⟩,hg⟩:=h;exact ⟨x,hx,D_ hg⟩
theorem Zr {gs:List Nat} {o:Nat->O} {x:S} {g:Nat} (h:g∈(plS gs o x).names):g∈x.names:=by
 cases x with
 |v x=>exact Mc h
 |jq xs=>
  simp only [plS,S.names,Z0,X1] at h ⊢;obtain ⟨_,⟨x,hx,rfl⟩,hg⟩:=h;exact ⟨x,hx,Mc hg⟩
 |no=>exact h
theorem Jc (gs:List Nat) (st:St) (g:Nat):((fE gs st).o g=(st.aK (gs.map (Fw.aW st.o)) []).o g/\∀ws,st.o g≠.box ws)\/
  ∃ws,st.o g=.box ws/\(st.aK (gs.map (Fw.aW st.o)) []).o g=.box ws/\(fE gs st).o g=.box (ws.map (W_ gs st.o)):=by
 rw [gK];cases ho:st.o g with
 |box ws=>
  refine .inr ⟨ws,rfl,?_,by simp only [fE,plO,ho]⟩;split
  .simp [Fw.aW,plainO,ho]
  .rfl
 |_=>
  refine .inl ⟨?_,fun ws e=>by cases e⟩;simp only [fE,plO,ho];simp only [Wl,decide_eq_true_eq]
theorem zL {gs:List Nat} {st:St} {g:Nat} (h:st.o g=.none):(fE gs st).o g=.none:=by
 simp only [fE,plO,h];split
 .simp [Fw.aW,plainO,h]
 .rfl
theorem Rel.plain (h:Rel E st gh val w) (gs:List Nat) (hgs:xw st.o gs):Rel E (fE gs st) gh val w:=by
 have h1:=(h.freezes gs hgs).1;have hss:(st.aK (gs.map (Fw.aW st.o)) []).s=st.s:=rfl;have hun :∀g,(st.aK (gs.map (Fw.aW st.o)) []).used g=st.used g:=fun g=>by simp [St.aK]
 have key:=Jc gs st;have hfr:=fun g=>gK (st:=st) gs g;generalize hst1:st.aK (gs.map (Fw.aW st.o)) []=st1 at h1 hss hun key hfr;have own :∀g,((fE gs st).o g).bP=(st1.o g).bP:=fun g=>by
  rcases key g with ⟨e,_⟩ | ⟨ws,_,e1,e2⟩
  .rw [e]
  .rw [e1,e2];rfl
 have dim :∀g,((fE gs st).o g).dim=(st1.o g).dim:=fun g=>by
  rcases key g with ⟨e,_⟩ | ⟨ws,_,e1,e2⟩
  .rw [e]
  .rw [e1,e2];rfl
 have inner :∀g,((fE gs st).o g).inner=(st1.o g).inner:=fun g=>by
  rcases key g with ⟨e,_⟩ | ⟨ws,_,e1,e2⟩
  .rw [e]
  .rw [e1,e2];rfl
 have isd :∀g,((fE gs st).o g).oz=(st1.o g).oz:=fun g=>by
  rcases key g with ⟨e,_⟩ | ⟨ws,_,e1,e2⟩
  .rw [e]
  .rw [e1,e2];rfl
 have apE :∀g ws,(fE gs st).o g=.box ws->∃ws',st1.o g=.box ws':=fun g ws hg=>by
  rcases key g with ⟨e,_⟩ | ⟨ws',_,e1,e2⟩
  .rw [e] at hg;exact ⟨ws,hg⟩
  .exact ⟨ws',e1⟩
 have oit :∀g s n,(fE gs st).o g=.it s n->st1.o g=.it s n:=fun g s n hg=>by
  rcases key g with ⟨e,_⟩ | ⟨ws',_,e1,e2⟩
  .rw [e] at hg;exact hg
  .rw [e2] at hg;cases hg
 have hok:E.ok (fE gs st) gh w=E.ok st1 gh w:=by funext a i b;simp only [Env.ok,own]
 have hp :∀{g a i sz l},gs.contains g=true->plainO st.o g=some (a,i,sz,l)->st1.o g=.arr true a i sz l:=fun {g a i sz l} hc hpl=>by
  rw [hfr,if_pos (by simpa using hc),mV hpl]
 have same :∀{x:W} {v:Value},fF E st1 gh w x v->fF E (fE gs st) gh w x v:=by
  intro x v r
  induction r with
  |p a i x v hx=>exact .p a i x v (by rw [hok];exact hx)
  |dF=>exact .dF
  |own g v hv hx=>exact .own g v hv fun sz len hg=>hx sz len (by rw [<-dim];exact hg)
  |vw g lo hi v hv hx=>exact .vw g lo hi v hv fun sz len hg=>hx sz len (by rw [<-dim];exact hg)
  |box g off v hv hx=>exact .box g off v hv fun ws hg=>by obtain ⟨ws',e⟩:=apE g ws hg;exact hx ws' e
  |ep g n off v hv hx=>exact .ep g n off v hv fun sz len hg=>hx sz len (by rw [<-dim];exact hg)
  |sp a i row off b o hb hx=>exact .sp a i row off b o (by rw [hok];exact hb) (by rw [hok];exact hx)
  |gl g=>exact .gl g
  |ni g v hv hx=>exact .ni g v hv fun s n hg=>hx s n (oit g s n hg)
  |gd b x v hx ih=>exact .gd b x v ih
  |clo f caps vs hl hx ih=>exact .clo f caps vs hl ih
  |no v=>exact .no v
 have ahH :∀{a i:Bool} {sz:Nat} {l:List (List P)} {G:Gh},iK E st1 gh w a i sz l G->iK E (fE gs st) gh w a i sz l G:=by
  intro a i sz l G r;simpa only [iK,hok] using r
 have wd :∀{x:W} {v:Value},fF E st1 gh w x v->fF E (fE gs st) gh w (W_ gs st.o x) v:=by
  intro x v r;unfold W_;split
  .rename_i g;split
   .rename_i hc;split
    .rename_i a i sz l hpl;have ho1:=hp hc hpl;cases r with
     |own _ _ hv hx=>
      have hv:=hx _ _ (O.jP ho1);have hO:=h1.bf g;rw [ho1] at hO;rw [hv];exact .p a i _ _ (by rw [hok];exact dh.gq hO)
    .exact same r
   .exact same r
  .rename_i g lo hi;split
   .rename_i hc;split
    .rename_i a i sz l hpl;have ho1:=hp hc hpl;cases r with
     |vw _ _ _ _ hv hx=>
      obtain ⟨n,m,c,rfl,rfl,q1,q2,qc,he⟩:=hx _ _ (O.jP ho1);have hO:=h1.bf g;rw [ho1] at hO;rw [he];have e1:(P.int .i64 (n:Int)).nat=n:=by simp [P.nat,P.num]
      have e2:(P.int .i64 (m:Int)).nat=m:=by simp [P.nat,P.num]
      rw [e1,e2];exact .p a i _ _ (by rw [hok];exact dh.gq ((dh.sub hO q1 q2).ahw (by simp;omega)))
    .exact same r
   .exact same r
  .exact same r
 have wV :∀{x:V} {v:Value},qX E st1 gh w x v->qX E (fE gs st) gh w (plV gs st.o x) v:=by
  intro x v r;cases r with
  |one x v r=>exact .one _ _ (wd r)
  |agg xs cs hl hv hr=>
   refine .agg _ cs (by simpa using hl) hv fun j x v hx hv => ?_;simp only [XS,ZS] at hx;obtain ⟨y,hy,rfl⟩:=hx;exact wd (hr j y v hy hv)
 refine ⟨fun t => ?_,fun g => ?_,?_,?_,?_,?_,h1.wb,h1.frame,h1.size,h1.os,h1.tape,h1.output,?_,?_,?_⟩
 .have hs:=h1.slots t;rw [hss] at hs;show dL E _ gh w (plS gs st.o (st.s t)) (val t);cases hs':st.s t with
  |v x=>rw [hs'] at hs;cases hs with | v _ _ r=>exact .v _ _ (wV r)
  |jq xs=>
   rw [hs'] at hs;generalize hval:val t=vt at hs;cases hs with
   |jq _ vs hl hr=>
    refine .jq _ vs (by simpa using hl) fun j x v hx hv => ?_;simp only [XS,ZS] at hx;obtain ⟨y,hy,rfl⟩:=hx;exact wV (hr j y v hy hv)
  |no=>exact .no _
 .have hO:=h1.bf g;rcases key g with ⟨e,_⟩ | ⟨ws',_,e1,e2⟩
  .rw [e];generalize st1.o g=x at hO;cases x with
   |none=>trivial
   |box ws=>
    obtain ⟨ad,c,ty,a1,a2,a3,a4,a5⟩:=hO;exact ⟨ad,c,ty,a1,a2,a3,a4,fun j x hx=>let ⟨v,b1,b2,b3⟩:=a5 j x hx;⟨v,b1,b2,same b3⟩⟩
   |arr fz a i sz l=>
    cases fz with
    |false=>exact ahH hO
    |true=>simpa only [lX,hok] using hO
   |aO a i sz aj l hole=>
    rcases hO with hO | ⟨ad,c,ty,a1,a2,a3,a4,a5,a6,a7,a8⟩
    .exact .inl hO
    .refine .inr ⟨ad,c,ty,a1,a2,a3,a4,a5,a6,a7,fun n x hx j y hy => ?_⟩;obtain ⟨v,hv,hr⟩:=a8 n x hx j y hy;refine ⟨v,hv,?_⟩;unfold iQ at *;cases hcj:aj.lookup j with
     |none=>rw [hcj] at hr;exact (by rw [hok];exact hr:dh w (E.ok (fE gs st) gh w a i) y v)
     |some sz'=>
      rw [hcj] at hr;simp only at *;cases hh:iq hole n j with
      |some d=>rw [hh] at hr;exact ⟨hr.1,same hr.2⟩
      |none=>
       rw [hh] at hr;obtain ⟨l',ao,k,q1,q2,q3,q4⟩:=hr;exact ⟨l',ao,k,q1,q2,ahH q3,q4⟩
   |it s n=>exact hO
  .rw [e2];rw [e1] at hO;obtain ⟨ad,c,ty,a1,a2,a3,a4,a5⟩:=hO;refine ⟨ad,c,ty,a1,a2,a3,by simpa using a4,fun j x hx => ?_⟩;simp only [XS,ZS] at hx;obtain ⟨y,hy,rfl⟩:=hx;obtain ⟨v,b1,b2,b3⟩:=a5 j y hy;exact ⟨v,b1,b2,wd b3⟩
 .intro g g' b ha ha';rw [own] at ha ha';exact h1.inj g g' b ha ha'
 .intro g b ha;rw [own] at ha;exact h1.wr g b ha
 .intro g i b hg;rw [inner] at hg;exact h1.wi g i b hg
 .intro g ho hd;rw [own] at ho;rw [isd] at hd;exact h1.ns g ho hd
 .intro t g hg;exact h.us t g (Zr hg)
 .intro g g' hg;rcases key g with ⟨e,_⟩ | ⟨ws',e0,e1,e2⟩
  .rw [e] at hg;have:=h1.uo g g' hg;rw [hun] at this;exact this
  .rw [e2] at hg;simp only [O.names,Z0,X1] at hg;obtain ⟨_,⟨x,hx,rfl⟩,hg⟩:=hg;exact h.uo g g' (by rw [e0];simp only [O.names,Z0];exact ⟨x,hx,D_ hg⟩)
 .intro g hg;exact h.ul g fun e=>hg (zL e)
theorem abN {gs:List Nat} {w:World} {gh:Nat->Gh} {st:St} {E:Env} {a i:Bool} {b:Nat} (h:E.ok st gh w a i b):E.ok (fE gs st) gh w a i b:=by
 refine ⟨h.1,h.2.1,fun g ho had=>h.2.2 g ?_ had⟩;rcases Jc gs st g with ⟨e,_⟩ | ⟨ws,e,_⟩
 .rw [e,gK] at ho;split at ho
  .cases hp:plainO st.o g with
   |none=>simpa [Fw.aW,hp] using ho
   |some x=>obtain ⟨a,i,sz,l⟩:=x;rw [mV hp] at ho;cases ho
  .exact ho
 .rw [e];rfl
theorem Rel.norm (h:Rel E st gh val w) (hs gs:List Nat) (hgs:afh (Fw.shuts hs st).o gs=true) :
  ∃bM,Rel E (fE gs (Fw.shuts hs st)) bM val w/\(∀x,(bM x).ad=(gh x).ad/\(bM x).cap=(gh x).cap)/\(∀a i b,E.ok st gh w a i b->E.ok (fE gs (Fw.shuts hs st)) bM w a i b)/\
   ∀g,st.o g=.none->(fE gs (Fw.shuts hs st)).o g=.none:=by
 obtain ⟨bM,h1,l1,e1⟩:=h.shuts hs;exact ⟨bM,h1.plain gs (Zq hgs),e1,fun a i b hb=>abN (l1.ok a i b hb).1,fun g hg=>zL (Iw hs hg)⟩
end
end Go.Fw

namespace Go.Fw
open Go.RowKit
variable [eX]
def FR (ro:Option Nat):Fence:={ Fence.wide with round:=ro }
section
variable {Pg:Program} {ro:Option Nat} {n:Nat} {ops:Array Oper} {Q:Exit->Act->World->Prop}
theorem U2 {f:FuncId} {args:Array Value} {w:World} {R:Ending->World->Prop} (h:Calls Pg f args w R):CallsIn (FR ro) n Pg f args w R:=callsIn_wide.2 h
theorem Zt {row:String} {args:Array Value} {w:World} {R:Value->World->Prop} (h:Rows Pg row args w R):RowsIn (FR ro) n Pg row args w R:=by
 intro c cs _;obtain ⟨v,w',h1,h2⟩:=h c cs;exact ⟨v,w',h1,stepsIn_wide.2 h2⟩
theorem apF {o:Oper} (ho :∀c,o.op≠.defer c) {a:Act} {w:World} {K K':Act->World->Prop} (hK :∀a w,K a w->K' a w) (h:o.wp Pg a w K Q):o.wpIn (FR ro) n Pg a w K' Q:=by
 refine ⟨fun _ _=>trivial,?_⟩;rw [Oper.semAt_eq _ _ _ ho];unfold Oper.wp at h;have hd:(FR ro).depth.isSome=true->1<=n:=fun e=>absurd e (by simp [FR,Fence.wide]);generalize (execOp a.eval o).run Pg w=r at *;cases r with
 |ok x w'=>
  cases x<;>simp only [Oper.upon] at h<;>simp only [Oper.uponIn]
  all_goals first
   |exact hK _ _ h
   |exact ⟨hd,U2 (Calls.mono h fun e w'' he=>by cases e<;>first | exact hK _ _ he | exact he)⟩
   |exact ⟨hd,Zt (Rows.mono h fun v w'' he=>hK _ _ he)⟩
 |halt x w'=>cases x<;>simp only [Oper.upon] at h<;>simp only [Oper.uponIn]<;>exact h
theorem abO (ho :∀o∈ops.toList,∀c,o.op≠.defer c) (hlo:¬ LetsOut Q) {i:Nat} {a:Act} {w:World} {K K':Act->World->Prop} (hK :∀a w,K a w->K' a w) (h:wpOp Pg ops Q i K a w):wpOpIn (FR ro) n Pg ops Q i K' a w:=by
 unfold wpOp at h;unfold wpOpIn;cases hi:ops[i]? with
 |none=>rw [hi] at h;exact hK _ _ h
 |some o=>
  rw [hi] at h;simp only at h ⊢;split
  .rename_i hw;rw [if_pos hw] at h;rcases h with h | h
   .exact apF (ho o (by have:=(V1.1 hi).2;rw [<-this];simp)) hK h
   .exact absurd h.2 hlo
  .rename_i hw;rw [if_neg hw] at h;exact ⟨fun _ _=>trivial,hK _ _ h⟩
theorem alQ (ho :∀o∈ops.toList,∀c,o.op≠.defer c) (hlo:¬ LetsOut Q) :∀(is:List Nat) (a:Act) (w:World),wpOps Pg ops Q is a w->wpOpsIn (FR ro) n Pg ops Q is a w
 | [],a,w,h=>h
 |i::is,a,w,h=>by
  rw [wpOps_cons] at h;rw [wpOpsIn_cons];exact abO ho hlo (fun a w=>alQ ho hlo is a w) h
theorem alR {md:Region.Mode} (ho :∀o∈ops.toList,∀c,o.op≠.defer c) (hlo:¬ LetsOut Q) :∀(fuel:Nat) (listed:Array Bool) (a:Act) (w:World),wpAny Pg md ops Q fuel listed a w->wpAnyIn (FR ro) n Pg md ops Q fuel listed a w
 |0,listed,a,w,h=>h
 |fuel+1,listed,a,w,h=>⟨h.1,fun i hi=>abO ho hlo (fun a w=>alR ho hlo fuel _ a w) (h.2 i hi)⟩
end
omit [eX] in
def P.lv:P->Value
 |.int k n=>.int k n
 |.bool b=>.bool b
 |.str s=>.string s
 |_=>undef
def P.lit:P->Bool
 |.int _ _=>true
 |.bool _=>true
 |.str _=>true
 |_=>false
theorem P.aoJ {w:World} {ok:Nat->Prop} {x:P} (h:x.lit=true):dh w ok x x.lv:=by
 cases x<;>first | exact .int _ _ | exact .bool _ | exact .str _ | cases h
omit [eX] in
def abP (Pg:Program) (w:World) (S:List Nat) (rows:List (List P)) (v:Value):Prop:=
 ∃gf lb,v=.func (.func gf) #[] lb/\(∀(args:Array Value) (w:World),(callFunc gf args).run Pg w=.ok (.enter gf args) w)/\
  ∀(l:Nat) (J:Nat->List Nat->World->Prop) (W:World),(∀k D A,J k D A->∀b∈S,A.heap[b]?=w.heap[b]?)->(∀k D A B D',J k D A->BQ A B->(∀b∈D',b∈D\/(A.heap.size<=b/\b<B.heap.size))->J k D' B)->
   (∀k row D A,rows[k]?=some row->J k D A->YieldAt Fence.wide 0 Pg l (row.map P.lv).toArray A fun e B=>e=.returned (.bool true)/\J (k+1) D B/\∀b∈D,B.heap[b]?=A.heap[b]?)->
   J 0 [] W->Calls Pg gf (#[.func (.yield l) #[] #[]]++lb) W fun e B=>(∃v,e=.returned v)/\∃D,J rows.length D B
section
variable {Pg:Program}
theorem alS {g:Operand} {ps:Array Tmp} {x y:Code} {Q:Exit->Act->World->Prop} {a:Act} {w:World} {S:List Nat} {rows:List (List P)} (hit:abP Pg w S rows (a.eval g)) (hlen :∀row∈rows,row.length=ps.size)
  (J:Nat->List Nat->World->Prop) (hS :∀k D A,J k D A->∀b∈S,A.heap[b]?=w.heap[b]?) (hgrow :∀k D A B D',J k D A->BQ A B->(∀b∈D',b∈D\/(A.heap.size<=b/\b<B.heap.size))->J k D' B)
  (hturn :∀k D A b o o',w.heap.size<=b->b∉D->J k D A->A.heap[b]?=some o->quiet o=true->J k D (A.putObj b o')) (h0:J 0 [] w)
  (ajd :∀k row D A,rows[k]?=some row->J k D A->∀l,∃a₁,(∀(K:Act->World->Prop) W,K a₁ W->x.wpIn (FR (some l)) 0 Pg (Exit.then K (fun _ _ _=>False)) { tmps:=(ps.zip (row.map P.lv).toArray).foldl (fun t (p,v)=>t.setIfInBounds p v) a.tmps,defers:=[] } W)/\
   y.wpIn (FR (some l)) 0 Pg (fun e _ B=>e=.normal/\J (k+1) D B/\(∀b∈D,B.heap[b]?=A.heap[b]?)/\∀b o,A.heap[b]?=some o->quiet o=true->w.heap.size<=b->B.heap[b]?=some o) a₁ A)
  (hdone :∀D B D',w.heap.size<=D->J rows.length D' B->B.heap[D]?=some (.deferred (some []))->Q .normal { a with defers:={ target:=.collected D,args:=#[] }::a.defers } B) :
  (Code.rangeFunc g ps x y).wp Pg Q a w:=by
 obtain ⟨gf,lb,hg,eg,hseq⟩:=hit;rw [<-wpIn_wide (n:=1)];refine wpIn_rangeFunc ?_;intro fn hfn;obtain ⟨rec,hrec⟩ :∃rec:LoopState->Option Code->Loop,rec=fun st pe=>{ state:=st,pending:=pe,fn,tmps:=a.tmps,params:=ps,assign:=x,body:=y,defers:=w.heap.size }:=⟨_,rfl⟩;obtain ⟨W1,hW1⟩ :∃W1,(w.alloc (.deferred (some []))).alloc (.loop (rec .ready none))=W1:=⟨_,rfl⟩;have hL1:W1.heap[w.heap.size+1]?=some (.loop (rec .ready none)):=by
  rw [<-hW1];have:=World.alloc_heap_new (w.alloc (.deferred (some []))) (.loop (rec .ready none));rwa [World.size_alloc] at this
 have hK1:W1.heap[w.heap.size]?=some (.deferred (some [])):=by
  rw [<-hW1];exact (Below.heap_alloc _ _ _ (by simp)).trans (World.alloc_heap_new w _)
 have hJ1:J 0 [] W1:=by rw [<-hW1];exact hgrow _ _ _ _ [] (hgrow _ _ _ _ [] h0 (BQ.alloc _ _) (fun b hb=>by cases hb)) (BQ.alloc _ _) (fun b hb=>by cases hb)
 refine ⟨w.heap.size+1,[{ target:=.collected w.heap.size,args:=#[] }],W1,{ target:=.fn (.func gf) lb,args:=#[.func (.yield (w.heap.size+1)) #[] #[]] },W1,gf,
  #[.func (.yield (w.heap.size+1)) #[] #[]]++lb,W1,?_,?_,fun _ _=>trivial,?_,fun _=>Z1 _,?_⟩
 .rw [<-hW1,hrec];exact run_enterLoop_outer _ _ _ _ _
 .simp only [resolve,hg];simp [go_sem]
 .simp [invoke,go_sem,eg]
 refine callsIn_wide.2 (Calls.mono (hseq (w.heap.size+1)
   (fun k D A=>J k D A/\A.heap[w.heap.size+1]?=some (.loop (rec .ready none))/\A.heap[w.heap.size]?=some (.deferred (some []))/\∀b∈D,w.heap.size+1<b)
   W1 (fun k D A h=>hS k D A h.1) (fun k D A B D' h hg hD => ?_) ?_ ⟨hJ1,hL1,hK1,fun b hb=>by cases hb⟩) ?_)
 .have lt :∀{i o},A.heap[i]?=some o->i<A.heap.size:=fun h=>(V1.1 h).1;refine ⟨hgrow k D A B D' h.1 hg hD,(hg.same _ (lt h.2.1)).trans h.2.1,(hg.same _ (lt h.2.2.1)).trans h.2.2.1,fun b hb => ?_⟩;rcases hD b hb with hb | hb
  .exact h.2.2.2 b hb
  .exact WF (lt h.2.1) hb.1
 .rintro k row D A hrow ⟨hj,hl,hk,hD⟩;have hy:=run_yield (P:=Pg) (args:=(row.map P.lv).toArray) hl (by rw [hrec];simpa using hlen row (XN hrow));rw [hrec] at hy;have hlt:w.heap.size+1<A.heap.size:=(V1.1 hl).1;have hnD:w.heap.size+1∉D:=fun hm=>Kj _ (hD _ hm);have alT :∀b∈D,b≠w.heap.size+1:=fun b hb e=>hnD (e▸hb);have hj2:J k D (A.putObj (w.heap.size+1) (.loop { rec .ready none with state:=.busy })):=hturn _ _ _ _ _ _ (by omega) hnD hj hl rfl;obtain ⟨a₁,hx,hbody⟩:=ajd k row D _ hrow hj2 (w.heap.size+1);refine ⟨fn,_,x,y,hy,roundIn_of_wpIn hfn (hx _ _ ⟨_,run_beginRound hl (by rw [hrec]),wpIn_mono hbody ?_⟩)⟩;rintro e a3 B ⟨rfl,hj3,hkD,hkeep⟩;have hl2:(A.putObj (w.heap.size+1) (.loop { rec .ready none with state:=.busy })).heap[w.heap.size+1]?=some (.loop { rec .ready none with state:=.busy }):=World.putObj_heap_same hlt;have hk2:(A.putObj (w.heap.size+1) (.loop { rec .ready none with state:=.busy })).heap[w.heap.size]?=some (.deferred (some [])):=(World.putObj_heap_other (by omega)).trans hk;have hl3:=hkeep _ _ hl2 rfl (by omega);have hk3:=hkeep _ _ hk2 rfl (by omega);have hr:=run_endRound (P:=Pg) none hl3;refine ⟨_,_,hr,rfl,⟨hturn _ _ _ _ _ _ (by omega) hnD hj3 hl3 rfl,?_,(World.putObj_heap_other (by omega)).trans hk3,hD⟩,fun b hb => ?_⟩
  .rw [World.putObj_heap_same (V1.1 hl3).1,hrec];rfl
  .rw [World.putObj_heap_other (alT b hb),hkD b hb,World.putObj_heap_other (alT b hb)]
 .rintro e B ⟨⟨v,rfl⟩,D,hj,hl,hk,hD⟩;have hnD:w.heap.size+1∉D:=fun hm=>Kj _ (hD _ hm);refine ⟨none,_,by have:=run_endLoop (P:=Pg) hl (by rw [hrec];simp);rw [hrec] at this;exact this,hdone _ _ D (Z1 _) (hturn _ _ _ _ _ _ (by omega) hnD hj hl rfl) ((World.putObj_heap_other (by omega)).trans hk)⟩
end
end Go.Fw

namespace Go.Fw
open Go.RowKit
variable [eX]
structure Ce where
 n:St->Prop
 x:Nat->St->Prop
 r:St->Prop
def keeps (bD:List Nat) (j:Shape) (m:Ren):Bool:=bD.all fun g=>j.nms.contains g&&(match m.lookup g with
 |some (some g')=>Nat.beq g' g
 |_=>false)
inductive Back (bD:List Nat) (j:Shape) (st:St) (G:List P->Prop):Prop where
 |mk (hs gs:List Nat) (m:Ren) (vs:List P) (hgs:afh (Fw.shuts hs st).o gs=true) (hm:keeps bD j m=true) (h:coerce j m (fE gs (Fw.shuts hs st))=some vs) (hG:G vs)
inductive ahI (bD:List Nat) (body:St->Ce->Prop) (st:St) (K:Ce):Prop where
 |mk (j:Shape) (I:List P->Prop) (μ:List P->Nat) (h0:Back bD j st I) (round :∀us,I us->body (Fw.mk j us) { n:=fun st'=>Back bD j st' fun vs=>I vs/\μ vs<μ us,x:=K.x,r:=K.r })
inductive Wk (bD:List Nat) (K:St->Prop) (st:St):Prop where
 |now (h:K st)
 |back (j:Shape) (h:Back bD j st fun vs=>K (Fw.mk j vs))
def exec (T:Tab) (tt:TT) (N:Nat) (bD:List Nat):Code->St->Ce->Prop
 |.skip,st,K=>K.n st
 |.region _ ops draw,st,K=>rM T tt N ops draw st (Wk bD K.n)
 |.seq x y,st,K=>exec T tt N bD x st { n:=fun st'=>exec T tt N bD y st' K,x:=K.x,r:=K.r }
 |.cond c x y,st,K=>match st.dP c with
  |.v (.one (.p _ _ (.bool b)))=>bif b then exec T tt N bD x st { n:=Wk bD K.n,x:=K.x,r:=K.r } else exec T tt N bD y st { n:=Wk bD K.n,x:=K.x,r:=K.r }
  |_=>False
 |.block id c,st,K=>exec T tt N bD c st { n:=Wk bD K.n,x:=fun id' st'=>bif Nat.beq id' id then Wk bD K.n st' else K.x id' st',r:=K.r }
 |.loop c,st,K=>ahI bD (exec T tt N bD c) st K
 |.exit id,st,K=>K.x id st
 |.ret,st,K=>K.r st
 |.label _,st,K=>K.n st
 |.scope c,st,K=>exec T tt N bD c st K
 |_,_,_=>False
structure Fit (Pg:Program):Prop where
 mixed:Pg.follows .mixedOrders=true
 sq :∀w S l v,eX.sq w S l v->abP Pg w S l v
section
variable {E:Env} {N:Nat} {bD:List Nat} {xk:Nat->Gh} {Pg:Program} {T:Tab} {tt:TT}
structure Knt (E:Env) (N:Nat) (bD:List Nat) (xk:Nat->Gh) (K:Ce) (Q:Exit->Act->World->Prop):Prop where
 n :∀st a w,K.n st->Good E N bD xk st a w->Q .normal a w
 x :∀id st a w,K.x id st->Good E N bD xk st a w->Q (.exit id) a w
 r :∀st a w,K.r st->Good E N bD xk st a w->Q .ret a w
theorem Back.good {j:Shape} {st:St} {G:List P->Prop} (h:Back bD j st G) {a:Act} {w:World} (hg:Good E N bD xk st a w) :∃vs,G vs/\Good E N bD xk (Fw.mk j vs) a w:=by
 obtain ⟨hs,gs,m,vs,hgs,hm,h,hG⟩:=h;obtain ⟨⟨gh,hR,KF⟩,hsz,hdf⟩:=hg;obtain ⟨bM,hR,e1,_,e3⟩:=hR.norm hs gs hgs;have hr:=zI h;refine ⟨vs,hG,⟨jV bM (IC j m),hR.abp hr,fun g hg => ?_⟩,hsz,hdf⟩;have:=(XX.1 hm) g hg;simp only [Qt] at this;obtain ⟨h1,h2⟩:=this;refine ⟨h1,?_⟩;have hF:IC j m g=some g:=by
  unfold IC;rw [if_pos h1];split at h2
  .rename_i g' hl;rw [hl,Q4 h2];rfl
  .cases h2
 have ho:=hr.bf g g hF;rcases (KF g hg).2 with e | e
 .have e:=e3 g e;rw [e] at ho;generalize (Fw.mk j vs).o g=z at ho;cases ho;exact .inl rfl
 .exact .inr (by simp only [jV,hF];exact ⟨(e1 g).1.trans e.1,(e1 g).2.trans e.2⟩)
theorem Wk.good {K:St->Prop} {st:St} (h:Wk bD K st) {a:Act} {w:World} (hg:Good E N bD xk st a w) :∃st',K st'/\Good E N bD xk st' a w:=by
 cases h with
 |now h=>exact ⟨st,h,hg⟩
 |back j h=>
  obtain ⟨vs,h1,h2⟩:=h.good hg;exact ⟨_,h1,h2⟩
theorem Knt.wk {K:Ce} {Q:Exit->Act->World->Prop} (h:Knt E N bD xk K Q):Knt E N bD xk { n:=Wk bD K.n,x:=K.x,r:=K.r } Q:=
 ⟨fun st a w hk hg=>let ⟨st',h1,h2⟩:=hk.good hg;h.n st' a w h1 h2,h.x,h.r⟩
theorem abQ {sp:zJ} {st:St} {dH:List P} {ny:Nat->Gh} {rs:Nat->Value} {w':World} (hfin:Rel E st ny rs w') (aje :∀g∈sp.bD,st.used g=true/\(st.o g=.none\/((ny g).ad=(xk g).ad/\(ny g).cap=(xk g).cap)))
  (hBk:Back sp.bD sp.aT st fun vs=>vs=dH) :∃bM,Rel E (Fw.mk sp.aT dH) bM rs w'/\∀g∈sp.bD,(bM g).ad=(xk g).ad/\(bM g).cap=(xk g).cap:=by
 obtain ⟨hs,gs,m,vs,hgs,hkm,hco,rfl⟩:=hBk;obtain ⟨zD,hfin,e1,_,e3⟩:=hfin.norm hs gs hgs;have hr:=zI hco;refine ⟨jV zD (IC sp.aT m),hfin.abp hr,fun g hg => ?_⟩;have:=(XX.1 hkm) g hg;simp only [Qt] at this;obtain ⟨h1,h2⟩:=this;have hF:IC sp.aT m g=some g:=by
  unfold IC;rw [if_pos h1];split at h2
  .rename_i g' hl;rw [hl,Q4 h2];rfl
  .cases h2
 have ho:=hr.bf g g hF;have hbox:(Fw.mk sp.aT vs).o g≠.none:=by
  have hm:g∈sp.aT.bf.map (·.1):=by simpa [Shape.nms] using h1
  obtain ⟨x,hxx⟩:=vT (vs:=vs) (n:=(dI vs 0 sp.aT.slots).2) hm;have e:(Fw.mk sp.aT vs).o g=x:=by
   show (match (gW vs (dI vs 0 sp.aT.slots).2 sp.aT.bf).1.lookup g with | some x=>x | none=>O.none)=x;rw [hxx]
  obtain ⟨k,n',_,h2⟩:=kZ hxx;rw [e,h2];cases k<;>simp [tV]
 rcases (aje g hg).2 with e | e
 .exfalso;have e:=e3 g e;rw [e] at ho;generalize (Fw.mk sp.aT vs).o g=z at ho hbox;cases ho;exact hbox rfl
 .simp only [jV,hF];exact ⟨(e1 g).1.trans e.1,(e1 g).2.trans e.2⟩
theorem U3 (hT :∀f sp,T f=some sp->Sound Pg (f % 1000000) sp) (htt:iR Pg tt) (hm:Fit Pg) :∀(c:Code) {st:St} {K:Ce} {Q:Exit->Act->World->Prop} {a:Act} {w:World},
  exec T tt N bD c st K->Good E N bD xk st a w->Knt E N bD xk K Q->c.wp Pg Q a w:=by
 intro c
 induction c with
 |skip=>intro st K Q a w h hg hK;exact wp_skip (hK.n _ _ _ h hg)
 |region id ops draw=>intro st K Q a w h hg hK;exact OA hT htt hm.mixed h hg fun st' a' w' q hg'=>hK.wk.n _ _ _ q hg'
 |seq x y Xa ihy=>
  intro st K Q a w h hg hK;refine wp_seq (Xa h hg ⟨fun st' a' w' q hg'=>ihy q hg' hK,fun id st' a' w' q hg'=>hK.x _ _ _ _ q hg',fun st' a' w' q hg'=>hK.r _ _ _ q hg'⟩)
 |cond c x y Xa ihy=>
  intro st K Q a w h hg hK;simp only [exec] at h;split at h
  .rename_i a1 i1 b hc;obtain ⟨gh,hR,_⟩:=hg.ex;have hv:=qJ hR c;rw [hc] at hv;have hv:=hv.fP.nH;refine wp_cond_split hv (fun hb => ?_) (fun hb => ?_)
   .subst hb;exact Xa h hg hK.wk
   .subst hb;exact ihy h hg hK.wk
  .cases h
 |block id c ih=>
  intro st K Q a w h hg hK;refine wp_block (ih h hg ⟨fun st' a' w' q hg'=>hK.wk.n _ _ _ q hg',fun id' st' a' w' q hg' => ?_,fun st' a' w' q hg'=>hK.r _ _ _ q hg'⟩);simp only [Exit.inBlock];by_cases e:id'=id
  .subst e;rw [if_pos rfl];have:Nat.beq id' id'=true:=by simp
   simp only [this] at q;exact hK.wk.n _ _ _ q hg'
  .rw [if_neg e];have:Nat.beq id' id=false:=by cases hb:Nat.beq id' id with | false=>rfl | true=>exact absurd (Q4 hb) e
   simp only [this] at q;exact hK.x _ _ _ _ q hg'
 |loop c ih=>
  intro st K Q a w h hg hK;obtain ⟨j,I,μ,h0,round⟩:=(show ahI bD (exec T tt N bD c) st K from h);obtain ⟨us,hI,hg0⟩:=h0.good hg;refine wp_loop_rounds (μ us+1) ?_;have key :∀n us,I us->μ us<n->∀a w,Good E N bD xk (Fw.mk j us) a w->Code.rounds Pg c Q n a w:=by
   intro n
   induction n with
   |zero=>intro us _ h;omega
   |succ n ihn=>
    intro us hI hlt a w hg;refine ih (round us hI) hg ⟨fun st' a' w' q hg' => ?_,fun id st' a' w' q hg'=>hK.x _ _ _ _ q hg',fun st' a' w' q hg'=>hK.r _ _ _ q hg'⟩;obtain ⟨vs,⟨h1,h2⟩,h3⟩:=Back.good q hg';exact ihn vs h1 (by omega) _ _ h3
  exact key _ us hI (by omega) a w hg0
 |exit id=>intro st K Q a w h hg hK;exact wp_exit (hK.x _ _ _ _ h hg)
 |ret=>intro st K Q a w h hg hK;exact wp_ret (hK.r _ _ _ h hg)
 |label l=>intro st K Q a w h hg hK;exact wp_label (hK.n _ _ _ h hg)
 |scope c ih=>intro st K Q a w h hg hK;exact wp_scope_straight (ih h hg ⟨fun st' a' w' q hg'=>hK.n _ _ _ q hg',fun id st' a' w' q hg'=>hK.x _ _ _ _ q hg',fun st' a' w' q hg'=>hK.r _ _ _ q hg'⟩)
 |_=>intro st K Q a w h;exact absurd h (by simp [exec])
def Zu (tt:TT) (st:St):ResultVar->Option S
 |.tmp t=>some (st.s t)
 |.cell a t=>match tt t,st.s a with
  |some i,.v (.one (.box g off))=>match st.o g with
   |.box ws=>if off+i.size<=ws.length/\0<i.size then some (V.gI i.agg ((ws.drop off).take i.size)) else none
   |_=>none
  |_,_=>none
def FK (tt:TT) (st:St):List ResultVar->Option (List S)
 | []=>some []
 |r::rs=>match Zu tt st r,FK tt st rs with
  |some x,some xs=>some (x::xs)
  |_,_=>none
def Q_ (xs:List S) (st:St):St:={ s:=fun k=>xs.getD k .no,o:=st.o,used:=st.used }
def Fin (tt:TT) (sp:zJ) (ts:List ResultVar) (dH:List P) (st:St):Prop:=match FK tt st ts with
 |some xs=>Back sp.bD sp.aT (Q_ xs st) fun vs=>vs=dH
 |none=>False
def ajf (tt:TT) (sp:zJ) (ts:List ResultVar) (dH:List P):Ce:={ n:=Fin tt sp ts dH,x:=fun _ _=>False,r:=Fin tt sp ts dH }
def Ea (tmps:Array Value) (r:ResultVar):Sem Value:=match r with
 |.tmp t=>pure (tmps.getD t undef)
 |.cell a t=>do loadVar t (<-asAddr (tmps.getD a undef))
theorem U4 {fn:Func} {ts:List ResultVar} (hr:fn.results=ts.toArray) (tmps:Array Value):results fn tmps=(do
  let vs <-List.toArray <$> ts.mapM (Ea tmps)
  pure (if h:vs.size=1 then vs[0] else .tuple vs)):=by
 unfold results;rw [hr,List.mapM_toArray];have :∀F:ResultVar->Sem Value,(∀r,F r=Ea tmps r)->ts.mapM F=ts.mapM (Ea tmps):=fun F hF=>by rw [funext hF]
 rw [this _ fun r=>by cases r<;>rfl]
theorem U5 (htt:iR Pg tt) {st:St} {gh:Nat->Gh} {a:Act} {w:World} (h:Rel E st gh (fun t=>a.tmps.getD t undef) w) {r:ResultVar} {x:S} (hx:Zu tt st r=some x) :
  ∃v,(Ea a.tmps r).run Pg w=.ok v w/\dL E st gh w x v/\∀g∈x.names,st.used g=true:=by
 cases r with
 |tmp t=>
  simp only [Zu,Q0] at hx;subst hx;exact ⟨_,rfl,h.slots t,h.us t⟩
 |cell ad t=>
  simp only [Zu] at hx;split at hx
  .rename_i i g off ht hs;have rx:=h.slots ad;rw [hs] at rx;split at hx
   .rename_i ws hog;split at hx
    .rename_i hlt;simp only [Q0] at hx;subst hx;have hO:=h.bf g;rw [hog] at hO;obtain ⟨ad',had,cs,hl,hone,hcell,hrep⟩:=zx.cells hO;obtain ⟨atJ,NR,hv⟩:=(by cases rx.dK with | box _ _ _ _ hb=>exact hb ws hog :∃ad',(gh g).ad=some ad'/\a.tmps.getD ad undef=.pointer (some ⟨ad'.block,ad'.off+off,none⟩));rw [had] at NR;cases NR;have hl':((cs.drop off).take i.size).length=i.size:=by simp;omega
     obtain ⟨v,hrun,hval⟩:=kE (Pg:=Pg) (w:=w) (htt _ _ ht) ad'.block (ad'.off+off) ((cs.drop off).take i.size) hl' (fun j u hu=>by
      have hj:j<i.size:=by have:=(Q3.1 hu).1;omega
      rw [Z2,if_pos hj,W4] at hu;rw [Uv];exact hcell _ _ hu) (fun _=>hlt.2)
     refine ⟨v,by simp only [Ea];rw [hv];simpa [asAddr] using hrun,kX (cs:=(cs.drop off).take i.size) (by simp;omega) (fun c hc=>hone c (WP (W7 hc)))
      (fun j y u hy hu => ?_) v hval,fun g' hg' => ?_⟩
     .have hj:j<i.size:=by have:=(Q3.1 hu).1;omega
      rw [Z2,if_pos hj,W4] at hy hu;exact hrep _ _ _ hy hu
     .obtain ⟨x,hx,hg'⟩:=jF hg';exact h.uo g g' (by rw [hog];simp only [O.names,Z0];exact ⟨x,WP (W7 hx),hg'⟩)
    .cases hx
   .cases hx
  .cases hx
theorem FM (htt:iR Pg tt) {st:St} {gh:Nat->Gh} {a:Act} {w:World} (h:Rel E st gh (fun t=>a.tmps.getD t undef) w) :∀{rs:List ResultVar} {xs:List S},FK tt st rs=some xs->
  ∃vs:List Value,(rs.mapM (Ea a.tmps)).run Pg w=.ok vs w/\vs.length=rs.length/\
   ∀k,dL E st gh w (xs.getD k .no) (vs.getD k undef)/\∀g∈(xs.getD k .no).names,st.used g=true
 | [],xs,hx=>by
  simp only [FK,Q0] at hx;subst hx;exact ⟨[],rfl,rfl,fun k=>⟨.no _,by simp [S.names]⟩⟩
 |r::rs,xs,hx=>by
  simp only [FK] at hx;split at hx
  .rename_i x xs h1 h2;simp only [Q0] at hx;subst hx;obtain ⟨v,q1,q2,q3⟩:=U5 htt h h1;obtain ⟨vs,p1,p2,p3⟩:=FM htt h h2;refine ⟨v::vs,?_,by simp [p2],fun k => ?_⟩
   .rw [v8,Sem.run_bind,q1];show Sem.run Pg _ w=_;rw [Sem.run_bind,p1];rfl
   .cases k with
    |zero=>exact ⟨q2,q3⟩
    |succ k=>simpa using p3 k
  .cases hx
theorem KZ (htt:iR Pg tt) {st:St} {gh:Nat->Gh} {a:Act} {w:World} (h:Rel E st gh (fun t=>a.tmps.getD t undef) w) {fn:Func} {ts:List ResultVar} (hr:fn.results=ts.toArray) {xs:List S} (hx:FK tt st ts=some xs) :
  ∃vs:List Value,(results fn a.tmps).run Pg w=.ok (Y_ vs) w/\vs.length=ts.length/\∀k,dL E st gh w (xs.getD k .no) (vs.getD k undef)/\∀g∈(xs.getD k .no).names,st.used g=true:=by
 obtain ⟨vs,q1,q2,q3⟩:=FM htt h hx;refine ⟨vs,?_,q2,q3⟩;rw [U4 hr,Sem.run_bind,Sem.run_map,q1]
 match vs with
 | []=>rfl
 | [v]=>rfl
 |v::u::vs=>simp [Y_]
theorem abR {f:FuncId} {fn:Func} {c:Code} {sp:Spec} (ts:List ResultVar) (hf:Pg.funcs[f]?=some fn) (hb:fn.body=some c) (hname:(fn.name == "runtime.NumGoroutine")=false) (hres:fn.results=ts.toArray)
  (hok:sp.sig.ok=true) (KF:(sp.sig.bD.all fun g=>sp.sig.pin.nms.contains g)=true) (hlk :∀ins dH,sp.R ins dH->∀g∈sp.sig.bD,((Fw.mk sp.sig.pin ins).o g).like ((Fw.mk sp.sig.aT dH).o g)) (hn:sp.sig.aZ<=fn.ntmps) (hnr:ts.length=sp.sig.cu)
  (hT :∀f sp,T f=some sp->Sound Pg (f % 1000000) sp) (htt:iR Pg tt) (hm:Fit Pg)
  (h :∀ins dH,sp.R ins dH->exec T tt fn.ntmps sp.sig.bD c (Fw.mk sp.sig.pin ins) (ajf tt sp.sig ts dH)):Sound Pg f sp:=by
 refine ⟨hok,fun args w => ?_,fun E w vals gh ins dH hR hB hw0 KU hlen => ?_⟩
 .have hname':¬ fn.name = "runtime.NumGoroutine" := by simpa using hname
  simp [callFunc,hf,hname',hb]
 .have hsz:vals.toArray.size<=fn.ntmps:=by simp;omega
  refine callsIn_wide.1 (callsIn_of_wp_marks (n:=0) hf hb trivial (wpIn_wide.2 (U3 (E:=E) (N:=fn.ntmps) (bD:=sp.sig.bD) (xk:=gh) hT htt hm c (h ins dH hR) ⟨⟨gh,?_,fun g hg=>⟨?_,.inr ⟨rfl,rfl⟩⟩⟩,by simp;omega,Marks.nil rfl⟩ ?_)) rfl)
  .have e:(fun t=>(vals.toArray++Array.replicate (fn.ntmps-vals.toArray.size) undef).getD t undef)=fun k=>vals.getD k undef:=by
    funext t;rw [We,List.getD_eq_getElem?_getD,Array.getElem?_append];split
    .simp
    .rename_i ht;have ht:vals.length<=t:=by simpa using ht
     rw [WD ht,qT];split<;>rfl
   rw [e];exact KU
  .exact (XX.1 KF) g hg
  .have fin :∀st a w',Fin tt sp.sig ts dH st->Good E fn.ntmps sp.sig.bD gh st a w'->LeavesInM Fence.wide 0 Pg fn a.tmps (fun e w' =>∃(rs:List Value) (bM:Nat->Gh),rs.length=sp.sig.cu/\e=.returned (Y_ rs)/\Rel E (Fw.mk sp.sig.aT dH) bM (fun k=>rs.getD k undef) w'/\∀g∈sp.sig.bD,((bM g).ad=(gh g).ad/\(bM g).cap=(gh g).cap)/\((Fw.mk sp.sig.pin ins).o g).like ((Fw.mk sp.sig.aT dH).o g)) a.defers .returning w':=by
    intro st a w' hBk hg;unfold Fin at hBk;split at hBk
    rotate_left
    .cases hBk
    rename_i xs hxs;obtain ⟨⟨ny,hR1,aje⟩,_,Ds,hd1,hd2,hd3⟩:=hg;rw [hd1];clear hd1
    induction Ds generalizing w' with
    |nil=>
     obtain ⟨rs,hrun,hrl,hrs⟩:=KZ htt hR1 hres hxs;refine ⟨_,hrun,rs,?_⟩;have hfin:Rel E (Q_ xs st) ny (fun k=>rs.getD k undef) w':=by
      refine ⟨fun k => ?_,fun g=>lX.congr (st:=st) (st':=Q_ xs st) rfl (hR1.bf g),hR1.inj,hR1.wr,hR1.wi,hR1.ns,hR1.wb,hR1.frame,hR1.size,hR1.os,hR1.tape,hR1.output,fun k g hg=>(hrs k).2 g hg,hR1.uo,hR1.ul⟩;exact dL.congr (st:=st) (st':=Q_ xs st) rfl (hrs k).1
     obtain ⟨bM,r1,r2⟩:=abQ hfin aje hBk;exact ⟨bM,by omega,rfl,r1,fun g hg=>⟨r2 g hg,hlk ins dH hR g hg⟩⟩
    |cons D Ds ih=>
     obtain ⟨h1,h2⟩:=hd3 D (by simp);have hnd:=UT.1 hd2;refine ⟨by simp,.inl ⟨D,_,rfl,run_takeDeferred h2,ih _ (hR1.turn h2 rfl h1 _) hnd.2 fun D' hD' => ?_⟩⟩;obtain ⟨q1,q2⟩:=hd3 D' (by simp [hD']);exact ⟨q1,(World.putObj_heap_other (fun e:D'=D=>hnd.1 (by rw [<-e];exact hD'))).trans q2⟩
   exact ⟨fun st a w' hk hg=>fin st a w' hk hg,fun id st a w' hk=>hk.elim,fun st a w' hk hg=>fin st a w' hk hg⟩
end
end Go.Fw

namespace Go.Fg
open Go.Fw
inductive Ty where
 |int (k:IntKind)
 |bool
 |str
 |sl (e:Ty)
 |prod (a b:Ty)
 |st (n:Nat)
 |opq
 |sq (e:Ty)
def abS:(a b:IntKind)->Option (PLift (a=b))
 |.i8,.i8=>some ⟨rfl⟩
 |.i16,.i16=>some ⟨rfl⟩
 |.i32,.i32=>some ⟨rfl⟩
 |.i64,.i64=>some ⟨rfl⟩
 |.u8,.u8=>some ⟨rfl⟩
 |.u16,.u16=>some ⟨rfl⟩
 |.u32,.u32=>some ⟨rfl⟩
 |.u64,.u64=>some ⟨rfl⟩
 |_,_=>none
def abT (a b:Nat):Option (PLift (a=b)):=match h:Nat.beq a b with
 |true=>some ⟨Q4 h⟩
 |false=>none
def Ty.eq:(a b:Ty)->Option (PLift (a=b))
 |.int k,.int k'=>match abS k k' with
  |some ⟨h⟩=>some ⟨h▸rfl⟩
  |none=>none
 |.bool,.bool=>some ⟨rfl⟩
 |.str,.str=>some ⟨rfl⟩
 |.opq,.opq=>some ⟨rfl⟩
 |.sl a,.sl b=>match Ty.eq a b with
  |some ⟨h⟩=>some ⟨h▸rfl⟩
  |none=>none
 |.sq a,.sq b=>match Ty.eq a b with
  |some ⟨h⟩=>some ⟨h▸rfl⟩
  |none=>none
 |.prod a b,.prod a' b'=>match Ty.eq a a',Ty.eq b b' with
  |some ⟨h⟩,some ⟨h'⟩=>some ⟨h▸h'▸rfl⟩
  |_,_=>none
 |.st n,.st m=>match abT n m with
  |some ⟨h⟩=>some ⟨h▸rfl⟩
  |none=>none
 |_,_=>none
def Ty.word:Ty->Bool
 |.prod _ _=>false
 |.st _=>false
 |_=>true
def Ty.flat:Ty->Bool
 |.int _=>true
 |.bool=>true
 |.str=>true
 |.opq=>true
 |_=>false
def D (C:Nat->Type):Ty->Type
 |.int _=>Int
 |.bool=>Bool
 |.str=>List UInt8
 |.sl e=>List (D C e)
 |.prod a b=>D C a×D C b
 |.st n=>C n
 |.opq=>Value
 |.sq e=>List (D C e)
structure TP (C:Nat->Type) where
 t:Ty
 x:D C t
def TP.get {C:Nat->Type} (t:Ty) (d:D C t) (ws:List (TP C)) (n:Nat):D C t:=match ws[n]? with
 |some w=>match Ty.eq w.t t with
  |some ⟨h⟩=>h▸w.x
  |none=>d
 |none=>d
theorem aN {C:Nat->Type} {ws:List (TP C)} {t:Ty} {ts:List Ty} (h:ws.map (·.t)=t::ts) :∃x ws',ws=⟨t,x⟩::ws'/\ws'.map (·.t)=ts:=by
 cases ws with
 |nil=>cases h
 |cons w ws=>
  obtain ⟨t',x⟩:=w;simp only [Qf,List.cons.injEq] at h;obtain ⟨rfl,h⟩:=h;exact ⟨x,ws,rfl,h⟩
theorem dY {C:Nat->Type} {ws:List (TP C)} (h:ws.map (·.t)=[]):ws=[]:=by simpa using h
def Jd {C:Nat->Type} (size:Ty->Nat) (lq:(t:Ty)->D C t->List P):(t:Ty)->D C t->P
 |.int k,x=>.int k x
 |.bool,b=>.bool b
 |.str,s=>.str ⟨s.toArray⟩
 |.sl e,l=>P.gq (size e) (List.map (lq e) l)
 |.opq,v=>.opq v
 |.sq e,l=>.seq (List.map (lq e) l)
 |.prod _ _,_=>default
 |.st _,_=>default
def pz {C:Nat->Type} (F:Nat->List Ty) (er:(n:Nat)->C n->List P) (size:Ty->Nat):(t:Ty)->D C t->List P
 |.int k,x=>[.int k x]
 |.bool,b=>[.bool b]
 |.str,s=>[.str ⟨s.toArray⟩]
 |.sl e,l=>[P.gq (size e) (List.map (pz F er size e) l)]
 |.opq,v=>[.opq v]
 |.sq e,l=>[.seq (List.map (pz F er size e) l)]
 |.prod a b,x=>pz F er size a x.1++pz F er size b x.2
 |.st n,x=>er n x
def jC (F:Nat->List Ty):Ty->Nat
 |.prod a b=>jC F a+jC F b
 |.st n=>(F n).length
 |_=>1
class RE where
 C:Nat->Type
 F:Nat->List Ty
 dflt:(n:Nat)->C n
 un:(n:Nat)->C n->List (TP C)
 ro:(n:Nat)->List (TP C)->C n
 er:(n:Nat)->C n->List P
 Fwd :∀n,(F n).all Ty.word=true
 ahJ :∀n x,(un n x).map (·.t)=F n
 ahK :∀n ws,ws.map (·.t)=F n->un n (ro n ws)=ws
 ahL :∀n x,er n x=(un n x).map fun w=>Jd (jC F) (pz F er (jC F)) w.t w.x
 hd:Nat:=999999
 hdF:F hd=[]:=by rfl
 G:Nat->Option ((e:Ty)×List (D C e)):=fun _=>none
 Q:World->List Nat->List (List P)->Value->Prop:=fun _ _ _ _=>False
 ajg :∀{w w':World} {S:List Nat} {l:List (List P)} {v:Value},(∀b∈S,w'.heap[b]?=w.heap[b]?)->Q w S l v->Q w' S l v:=by intro _ _ _ _ _ _ h;exact h
section
variable [RE]
abbrev Dt (t:Ty):Type:=D RE.C t
abbrev Wd:=TP RE.C
def size:Ty->Nat:=jC RE.F
def lq:(t:Ty)->Dt t->List P:=pz RE.F RE.er (jC RE.F)
instance:eX:=⟨fun g=>(RE.G g).map fun x=>(size x.1,List.map (lq x.1) x.2),RE.Q,RE.ajg⟩
theorem ahM (g:Nat):eX.gt g=(RE.G g).map fun x=>(size x.1,List.map (lq x.1) x.2):=rfl
def dB (w:Wd):P:=Jd (jC RE.F) (pz RE.F RE.er (jC RE.F)) w.t w.x
def dflt:(t:Ty)->Dt t
 |.int _=>(0:Int)
 |.bool=>false
 |.str=>([]:List UInt8)
 |.sl e=>([]:List (Dt e))
 |.prod a b=>(dflt a,dflt b)
 |.st n=>RE.dflt n
 |.opq=>Value.nilFunc
 |.sq e=>([]:List (Dt e))
def TP.Bh (t:Ty) (w:Wd):Option (Dt t):=match Ty.eq w.t t with
 |some ⟨h⟩=>some (h▸w.x)
 |none=>none
def TP.as (t:Ty) (w:Wd):Dt t:=match Ty.eq w.t t with
 |some ⟨h⟩=>h▸w.x
 |none=>dflt t
def gy:(t:Ty)->Dt t->List Wd
 |.prod a b,x=>gy a x.1++gy b x.2
 |.st n,x=>RE.un n x
 |.int k,x=>[⟨.int k,x⟩]
 |.bool,x=>[⟨.bool,x⟩]
 |.str,x=>[⟨.str,x⟩]
 |.sl e,x=>[⟨.sl e,x⟩]
 |.opq,x=>[⟨.opq,x⟩]
 |.sq e,x=>[⟨.sq e,x⟩]
def jr:Ty->List Ty
 |.prod a b=>jr a++jr b
 |.st n=>RE.F n
 |t=>[t]
def kK:(t:Ty)->List Wd->Dt t
 |.prod a b,ws=>(kK a (ws.take (size a)),kK b (ws.drop (size a)))
 |.st n,ws=>RE.ro n ws
 |.int k,ws=>match ws with
  |w::_=>w.as (.int k)
  | []=>dflt (.int k)
 |.bool,ws=>match ws with
  |w::_=>w.as .bool
  | []=>dflt .bool
 |.str,ws=>match ws with
  |w::_=>w.as .str
  | []=>dflt .str
 |.sl e,ws=>match ws with
  |w::_=>w.as (.sl e)
  | []=>dflt (.sl e)
 |.opq,ws=>match ws with
  |w::_=>w.as .opq
  | []=>dflt .opq
 |.sq e,ws=>match ws with
  |w::_=>w.as (.sq e)
  | []=>dflt (.sq e)
theorem Ty.eq_self :∀(t:Ty),∃h,Ty.eq t t=some ⟨h⟩:=by
 intro t
 induction t with
 |int k=>cases k<;>exact ⟨rfl,rfl⟩
 |bool=>exact ⟨rfl,rfl⟩
 |str=>exact ⟨rfl,rfl⟩
 |opq=>exact ⟨rfl,rfl⟩
 |sl e ih=>obtain ⟨h,ih⟩:=ih;exact ⟨rfl,by simp [Ty.eq,ih]⟩
 |sq e ih=>obtain ⟨h,ih⟩:=ih;exact ⟨rfl,by simp [Ty.eq,ih]⟩
 |prod a b iha ihb=>obtain ⟨h,iha⟩:=iha;obtain ⟨h',ihb⟩:=ihb;exact ⟨rfl,by simp [Ty.eq,iha,ihb]⟩
 |st n=>
  refine ⟨rfl,?_⟩;have:abT n n=some ⟨rfl⟩:=by
   unfold abT;split
   .rfl
   .rename_i h;simp at h
  simp [Ty.eq,this]
theorem rO (t:Ty) (x:Dt t):TP.as t ⟨t,x⟩=x:=by
 obtain ⟨h,e⟩:=Ty.eq_self t;simp [TP.as,e]
theorem wO {t:Ty} {w:Wd} (h:w.t=t):(⟨t,w.as t⟩:Wd)=w:=by
 obtain ⟨t',x⟩:=w;simp only at h;subst h;rw [rO]
theorem h_ {t:Ty} {w:Wd} {x:Dt t} (h:w.Bh t=some x):w=⟨t,x⟩:=by
 obtain ⟨t',y⟩:=w;unfold TP.Bh at h;split at h
 .rename_i e he;simp only at e;subst e;simp only [Q0] at h;subst h;rfl
 .cases h
theorem ajh {t:Ty} {w:Wd} {x:Dt t} (h:w.Bh t=some x):w.t=t:=by rw [h_ h]
theorem jY :∀(t:Ty),(jr t).length=size t
 |.prod a b=>by
  have h1:=jY a;have h2:=jY b;simp only [size] at h1 h2;simp [jr,size,jC,h1,h2]
 |.st n=>by simp [jr,size,jC]
 |.int k=>rfl
 |.bool=>rfl
 |.str=>rfl
 |.sl e=>rfl
 |.opq=>rfl
 |.sq e=>rfl
theorem uj :∀(t:Ty) (x:Dt t),(gy t x).map (·.t)=jr t
 |.prod a b,x=>by simp [gy,jr,uj a,uj b]
 |.st n,x=>by simp [gy,jr];exact RE.ahJ n x
 |.int k,x=>rfl
 |.bool,x=>rfl
 |.str,x=>rfl
 |.sl e,x=>rfl
 |.opq,x=>rfl
 |.sq e,x=>rfl
theorem qp (t:Ty) (x:Dt t):(gy t x).length=size t:=by
 rw [<-jY,<-uj t x,ZD]
theorem iw :∀(t:Ty) (x:Dt t),lq t x=(gy t x).map dB
 |.prod a b,x=>by
  show lq a x.1++lq b x.2=_;rw [iw a x.1,iw b x.2];simp [gy]
 |.st n,x=>RE.ahL n x
 |.int k,x=>rfl
 |.bool,x=>rfl
 |.str,x=>rfl
 |.sl e,x=>rfl
 |.opq,x=>rfl
 |.sq e,x=>rfl
theorem Rf (t:Ty) (x:Dt t):(lq t x).length=size t:=by rw [iw,ZD,qp]
theorem vV {ws:List Wd} {t:Ty} (h:ws.map (·.t)=[t]) :∃w,ws=[w]/\w.t=t:=by
 match ws with
 | []=>cases h
 | [w]=>exact ⟨w,rfl,by simpa using h⟩
 |w::u::ws=>simp at h
theorem Je :∀(t:Ty) (ws:List Wd),ws.map (·.t)=jr t->gy t (kK t ws)=ws
 |.prod a b,ws,h=>by
  have h1:(ws.take (size a)).map (·.t)=jr a:=by rw [V0,h];simp [jr,<-jY]
  have h2:(ws.drop (size a)).map (·.t)=jr b:=by rw [Wo,h];simp [jr,<-jY]
  show gy a (kK a (ws.take (size a)))++gy b (kK b (ws.drop (size a)))=ws;rw [Je a _ h1,Je b _ h2,J2]
 |.st n,ws,h=>RE.ahK n ws h
 |.int k,ws,h=>by
  obtain ⟨w,rfl,hw⟩:=vV (t:=(.int k)) h;show [(⟨.int k,w.as (.int k)⟩:Wd)]=[w];rw [wO hw]
 |.bool,ws,h=>by
  obtain ⟨w,rfl,hw⟩:=vV (t:=.bool) h;show [(⟨.bool,w.as .bool⟩:Wd)]=[w];rw [wO hw]
 |.str,ws,h=>by
  obtain ⟨w,rfl,hw⟩:=vV (t:=.str) h;show [(⟨.str,w.as .str⟩:Wd)]=[w];rw [wO hw]
 |.sl e,ws,h=>by
  obtain ⟨w,rfl,hw⟩:=vV (t:=(.sl e)) h;show [(⟨.sl e,w.as (.sl e)⟩:Wd)]=[w];rw [wO hw]
 |.opq,ws,h=>by
  obtain ⟨w,rfl,hw⟩:=vV (t:=.opq) h;show [(⟨.opq,w.as .opq⟩:Wd)]=[w];rw [wO hw]
 |.sq e,ws,h=>by
  obtain ⟨w,rfl,hw⟩:=vV (t:=(.sq e)) h;show [(⟨.sq e,w.as (.sq e)⟩:Wd)]=[w];rw [wO hw]
theorem rP {t:Ty} {ws:List Wd} (h:ws.map (·.t)=jr t):lq t (kK t ws)=ws.map dB:=by rw [iw,Je t ws h]
def aI (e:Ty) (l:List (Dt e)):List (List P):=List.map (lq e) l
theorem G6 (e:Ty) (l:List (Dt e)):dB ⟨.sl e,l⟩=P.gq (size e) (aI e l):=rfl
theorem jy (e:Ty) (l:List (Dt e)):(dB ⟨.sl e,l⟩).list=aI e l:=by rw [G6,P.oC]
theorem Zv {w:Wd} (h:w.t.flat=true):(dB w).flat=true:=by
 obtain ⟨t,x⟩:=w;cases t<;>simp [Ty.flat] at h<;>rfl
end
end Go.Fg

namespace Go.Fg
open Go.Fw
section
variable [RE]
inductive TW where
 |p (a i:Bool) (w:Wd)
 |dF
 |own (g:Nat)
 |vw (g:Nat) (lo hi:Int)
 |box (g off:Nat)
 |ep (g:Nat) (n:Int) (off:Nat)
 |sp (a i:Bool) (t:Ty) (x:Dt t) (off:Nat)
 |clo (f:FuncId) (caps:List TW)
 |gl (g:Nat)
 |ni (g:Nat)
 |no
inductive TV where
 |one (x:TW)
 |agg (xs:List TW)
inductive TS where
 |v (x:TV)
 |jq (xs:List TV)
 |no
inductive TO where
 |none
 |box (ws:List TW)
 |arr (fz a i:Bool) (e:Ty) (l:List (Dt e))
 |it (s:List UInt8) (n:Int)
 |aO (a i:Bool) (e:Ty) (aj:List (Nat×Ty)) (l:List (Dt e)) (hole:Option (Nat×Nat×Nat))
mutual
def bW:TW->W
 |.p a i w=>.p a i (dB w)
 |.dF=>.dF
 |.own g=>.own g
 |.vw g lo hi=>.vw g (.int .i64 lo) (.int .i64 hi)
 |.box g off=>.box g off
 |.ep g n off=>.ep g (.int .i64 n) off
 |.sp a i t x off=>.sp a i (lq t x) off
 |.clo f caps=>.clo f (nO caps)
 |.gl g=>.gl g
 |.ni g=>.ni g
 |.no=>.no
def nO:List TW->List W
 | []=>[]
 |x::xs=>bW x::nO xs
end
theorem y7 :∀(l:List TW),nO l=l.map bW
 | []=>rfl
 |x::xs=>by simp [nO,y7 xs]
def jM:TV->V
 |.one x=>.one (bW x)
 |.agg xs=>.agg (xs.map bW)
def bn:TS->S
 |.v x=>.v (jM x)
 |.jq xs=>.jq (xs.map jM)
 |.no=>.no
def jd (aj:List (Nat×Ty)):List (Nat×Nat):=aj.map fun c=>(c.1,size c.2)
def eF:TO->O
 |.none=>.none
 |.box ws=>.box (ws.map bW)
 |.arr fz a i e l=>.arr fz a i (size e) (aI e l)
 |.it s n=>.it (.str ⟨s.toArray⟩) (.int .i64 n)
 |.aO a i e aj l hole=>.aO a i (size e) (jd aj) (aI e l) hole
def jH {α:Type} (d:α):List (Nat×α)->Nat->α
 | [],_=>d
 |(k,v)::r,t=>bif Nat.beq t k then v else jH d r t
def xX {α:Type} (k:Nat) (v:α):List (Nat×α)->List (Nat×α)
 | []=>[(k,v)]
 |(k',v')::r=>bif Nat.beq k k' then (k,v)::r else (k',v')::xX k v r
def fZ (g:Nat):List Nat->Bool
 | []=>false
 |x::xs=>Nat.beq g x||fZ g xs
structure kF where
 s:List (Nat×TS)
 o:List (Nat×TO)
 u:List Nat
def kF.gs (st:kF) (t:Nat):TS:=jH .no st.s t
def kF.go (st:kF) (g:Nat):TO:=jH .none st.o g
def bg (st:kF):St:={ s:=fun t=>bn (st.gs t),o:=fun g=>eF (st.go g),used:=fun g=>fZ g st.u }
def bZ (o:Nat->TO):Nat->O:=fun g=>eF (o g)
def je (k:IntKind) (x:Int):Wd:=⟨.int k,x⟩
def jf (x:Bool):Wd:=⟨.bool,x⟩
def Rh (x:List UInt8):Wd:=⟨.str,x⟩
def um (e:Ty) (x:List (Dt e)):Wd:=⟨.sl e,x⟩
def apG (x:Value):Wd:=⟨.opq,x⟩
def Zw:Value->TW
 |.int k n=>.p false false (je k n)
 |.bool b=>.p false false (jf b)
 |.string s=>.p false false (Rh s.data.toList)
 |.slice none 0 0=>.dF
 |v=>.p false false (apG v)
def U6:Value->TS
 |.agg cs=>bif cs.toList.all Value.oneCell' then .v (.agg (cs.toList.map Zw)) else .no
 |.tuple _=>.no
 |.func (.func f) ⟨[]⟩ ⟨[]⟩=>.v (.one (.clo f []))
 |v=>bif v.oneCell' then .v (.one (Zw v)) else .no
def kF.dP (st:kF):Operand->TS
 |.tmp t=>st.gs t
 |.const v=>U6 v
 |.func f=>.v (.one (.clo f []))
 |.global g=>match RE.G g with
  |some _=>.v (.one (.gl g))
  |none=>.no
structure qY where
 pre:Bool
 t:Ty
 val:Dt t
 dst:Dt t->TS
 aK:Dt t->List (Nat×TO)
 new:List Nat
def qY.pure (x:TS):qY:={ pre:=true,t:=.bool,val:=false,dst:=fun _=>x,aK:=fun _=>[],new:=[] }
def Xb (w:Wd):TS:=.v (.one (.p false false w))
def qY.calc (pre:Bool) (t:Ty) (x:Dt t):qY:={ pre,t,val:=x,dst:=fun z=>Xb ⟨t,z⟩,aK:=fun _=>[],new:=[] }
structure TA where
 a:Bool
 i:Bool
 e:Ty
 l:List (Dt e)
structure TH where
 a:Bool
 i:Bool
 e:Ty
 aj:List (Nat×Ty)
 l:List (Dt e)
def tyB (a b:Ty):Bool:=match Ty.eq a b with
 |some _=>true
 |none=>false
def uq (c:Nat):List (Nat×Ty)->Option Ty
 | []=>none
 |(k,t)::r=>bif Nat.beq c k then some t else uq c r
def Zx (e:Ty) (aj:List (Nat×Ty)) (c:Nat) (e':Ty):Bool:=(match uq c aj with
 |some t=>tyB t e'
 |none=>false)&&(match (jr e)[c]? with
 |some (.sl t)=>tyB t e'
 |_=>false)
def K_ (e:Ty) (whole:Bool) (x:Dt e) (off:Nat) (ps:List Wd):Dt e:=match whole with
 |true=>kK e ps
 |false=>kK e (aS (gy e x) off ps)
def putRow (e:Ty) (l:List (Dt e)) (n c:Nat) (w:Wd):List (Dt e):=List.set l n (K_ e (Nat.beq 1 (size e)) (l.getD n (dflt e)) c [w])
def nP (o:Nat->TO) (g:Nat):Option TA:=match o g with
 |.arr _ a i e l=>some ⟨a,i,e,l⟩
 |.aO a i e aj l hole=>match hole with
  |none=>some ⟨a,i,e,l⟩
  |some (n,c,d)=>match o d with
   |.arr _ a' i' e' l'=>match Zx e aj c e' with
    |true=>some ⟨a||a',i||i',e,putRow e l n c (um e' l')⟩
    |false=>none
   |_=>none
 |_=>none
def lT:TO->List Nat
 |.aO _ _ _ _ _ hole=>match hole with
  |some (_,_,d)=>[d]
  |none=>[]
 |_=>[]
def La (o:Nat->TO) (g:Nat):Option (Ty×Nat):=match o g with
 |.arr _ _ _ e l=>some (e,l.length)
 |.aO _ _ e _ l _=>some (e,l.length)
 |_=>none
def TW.toP (o:Nat->TO) (t:Ty):TW->Option (Dt t×Bool×Bool×List Nat)
 |.p a i w=>match w.Bh t with
  |some x=>some (x,a,i,[])
  |none=>none
 |.dF=>match t with
  |.sl e=>some (([]:List (Dt e)),false,false,[])
  |_=>none
 |.own g=>match nP o g with
  |some ⟨a,i,e,l⟩=>match (um e l).Bh t with
   |some x=>some (x,a,i,lT (o g)++[g])
   |none=>none
  |none=>none
 |.vw g lo hi=>match nP o g with
  |some ⟨a,i,e,l⟩=>match (um e ((l.take hi.toNat).drop lo.toNat)).Bh t with
   |some x=>some (x,a,i,lT (o g)++[g])
   |none=>none
  |none=>none
 |_=>none
def qL (o:Nat->TO):List Ty->List TW->Option (List Wd×Bool×Bool×List Nat)
 | [],[]=>some ([],false,false,[])
 |t::ts,x::xs=>match x.toP o t,qL o ts xs with
  |some (y,a,i,gs),some (ys,a',i',gs')=>some (⟨t,y⟩::ys,a||a',i||i',gs++gs')
  |_,_=>none
 |_,_=>none
def TV.words:TV->List TW
 |.one x=>[x]
 |.agg xs=>xs
def lK (o:Nat->TO) (g:Nat):Nat×TO:=
 (g,match nP o g with
  |some ⟨a,i,e,l⟩=>.arr true a i e l
  |none=>o g)
def TV.gI (agg:Bool) (ws:List TW):TS:=match agg with
 |true=>.v (.agg ws)
 |false=>match ws with
  | [x]=>.v (.one x)
  |_=>.no
def TW.solid:TW->Bool
 |.no=>false
 |_=>true
def TV.solid:TV->Bool
 |.one x=>x.solid
 |.agg _=>true
def Ci (place:Nat->Option (Nat×Nat)) (ws:List TW):List (Nat×TS)->Option (List TW)
 | []=>some ws
 |(n,.v x)::rest=>match place n with
  |some (off,size)=>bif Nat.beq x.words.length size&&Nat.ble (off+size) ws.length&&x.solid then Ci place (aS ws off x.words) rest else none
  |none=>none
 |_=>none
def TW.rows (o:Nat->TO) (e:Ty):TW->Option (List (Dt e)×Bool×Bool)
 |.p a i w=>match w.Bh (.sl e) with
  |some l=>some (l,a,i)
  |none=>none
 |.dF=>some ([],false,false)
 |.own g=>match o g with
  |.arr _ a i e' l=>match (um e' l).Bh (.sl e) with
   |some l=>some (l,a,i)
   |none=>none
  |_=>none
 |.vw g lo hi=>match o g with
  |.arr _ a i e' l=>match (um e' ((l.take hi.toNat).drop lo.toNat)).Bh (.sl e) with
   |some l=>some (l,a,i)
   |none=>none
  |_=>none
 |_=>none
def Ri (o:Nat->TO):TW->Option Int
 |.p _ _ ⟨.sl e,l⟩=>some (List.length (α:=Dt e) l)
 |.dF=>some 0
 |.own g=>match La o g with
  |some (_,n)=>some n
  |none=>none
 |.vw g lo hi=>match La o g with
  |some _=>some (hi.toNat-lo.toNat:Nat)
  |none=>none
 |_=>none
def TW.live (o:Nat->TO):TW->Bool
 |.box g _=>match o g with
  |.box _=>true
  |_=>false
 |.ep g _ _=>match La o g with
  |some _=>true
  |none=>false
 |.sp _ _ _ _ _=>true
 |_=>false
def TW.shift (n:Nat):TW->TW
 |.box g off=>.box g (off+n)
 |.ep g k off=>.ep g k (off+n)
 |.sp a i t x off=>.sp a i t x (off+n)
 |x=>x
def mY (dflt:Int):Option TS->Option Int
 |none=>some dflt
 |some (.v (.one (.p _ _ ⟨.int .i64,x⟩)))=>some x
 |_=>none
def apH (n:Int):Int:=0-n
def eqI (a b:Int):Bool:=decide (a=b)
def inB (n:Int) (len:Nat):Bool:=decide (0<=n)&&decide (n<len)
def Cj (lo hi:Int) (len:Nat):Bool:=decide (0<=lo)&&decide (lo<=hi)&&decide (hi<=(len:Int))
def Cm (bytes:Nat) (n c:Int):Bool:=decide (0<=n)&&decide (n<=c)&&decide (bytes*c<=281474976710656)&&decide (c<=9223372036854775807)
def strOf (l:List Int):List UInt8:=l.map fun n=>UInt8.ofNat n.toNat
def alU {α:Type} (lo hi:Int) (z:α) (l:List α):List α:=List.take lo.toNat l++List.replicate (hi.toNat-lo.toNat) z++List.drop (lo.toNat+(List.replicate (hi.toNat-lo.toNat) z).length) l
def ajj (s:List UInt8):List Int:=s.map fun b=>(b.toNat:Int)
def Zy (a b:Int):Int:=if b<a then b else a
def Eb (a b:Int):Int:=if b>a then b else a
def U7 (op:BinOp) (k k':IntKind) (a b:Int):Option (Bool×Wd):=
 match op with
 |.shl=>some (decide (0<=b),je k (k.wrap (a*2 ^ min b.toNat k.bits)))
 |.shr=>some (decide (0<=b),je k (a.fdiv (2 ^ min b.toNat k.bits)))
 |_=>match abS k k' with
  |none=>none
  |some _=>match op with
   |.add=>some (true,je k (k.wrap (a+b)))
   |.sub=>some (true,je k (k.wrap (a-b)))
   |.mul=>some (true,je k (k.wrap (a*b)))
   |.quo=>some (!(decide (b=0)),je k (k.wrap (a.tdiv b)))
   |.rem=>some (!(decide (b=0)),je k (a.tmod b))
   |.and=>some (true,je k (bits .and k a b))
   |.or=>some (true,je k (bits .or k a b))
   |.xor=>some (true,je k (bits .xor k a b))
   |.andNot=>some (true,je k (bits .andNot k a b))
   |.eql=>some (true,jf (decide (a=b)))
   |.neq=>some (true,jf (!(decide (a=b))))
   |.lss=>some (true,jf (decide (a<b)))
   |.leq=>some (true,jf (decide (a<=b)))
   |.gtr=>some (true,jf (decide (b<a)))
   |.geq=>some (true,jf (decide (b<=a)))
   |_=>none
def CB (n m:Nat):Bool:=Nat.ble n (9223372036854775807-m)&&Nat.ble m 9223372036854775807
theorem oL {n m:Nat}:CB n m=true↔n+m<=9223372036854775807:=by
 unfold CB;rw [Qt,Nat.ble_eq,Nat.ble_eq];omega
def U8 (op:BinOp) (a b:List UInt8):Option (Bool×Wd):=
 match op with
 |.add=>some (CB a.length b.length,Rh (a++b))
 |.eql=>some (true,jf (a==b))
 |.neq=>some (true,jf (!(a==b)))
 |.lss=>some (true,jf (Op.bytesLess a b))
 |.leq=>some (true,jf (Op.bytesLess a b||a==b))
 |.gtr=>some (true,jf (!(Op.bytesLess a b||a==b)))
 |.geq=>some (true,jf (!Op.bytesLess a b))
 |_=>none
def OC (op:BinOp) (a b:Bool):Option (Bool×Wd):=
 match op with
 |.eql=>some (true,jf (a==b))
 |.neq=>some (true,jf (a != b))
 |_=>none
def alV (k:TK) (op:BinOp) (x y:Wd):Option (Bool×Wd):=
 match k,x,y with
 |.int _,⟨.int k,a⟩,⟨.int k',b⟩=>U7 op k k' a b
 |.str,⟨.str,a⟩,⟨.str,b⟩=>U8 op a b
 |.bool,⟨.bool,a⟩,⟨.bool,b⟩=>OC op a b
 |_,_,_=>none
def unT (op:UnOp) (x:Wd):Option Wd:=
 match op,x with
 |.neg,⟨.int k,n⟩=>some (je k (k.wrap (apH n)))
 |.not,⟨.bool,b⟩=>some (jf (!b))
 |_,_=>none
def ahO (k k':IntKind) (m n:Int):Option Bool:=
 match abS k k' with
 |some _=>some (decide (m=n))
 |none=>none
def eqStr (a b:List UInt8):Option Bool:=some (a==b)
def alW (a b:Bool):Option Bool:=some (a==b)
def ajk (k:TK) (x y:Wd):Option Bool:=
 match k,x,y with
 |.int _,⟨.int a,m⟩,⟨.int b,n⟩=>ahO a b m n
 |.str,⟨.str,a⟩,⟨.str,b⟩=>eqStr a b
 |.bool,⟨.bool,a⟩,⟨.bool,b⟩=>alW a b
 |_,_,_=>none
def Gy (tt:TT):Nat->List (Nat×TypeId)->List TW->List TW->Option Bool
 |_,[],[],[]=>some true
 |n,(off,t)::fs,.p _ _ x::xs,.p _ _ y::ys=>match tt t with
  |some i=>bif Nat.beq off n&&i.k.flat&&Nat.beq i.size 1 then match ajk i.k x y,Gy tt (n+1) fs xs ys with
   |some b,some c=>some (b&&c)
   |_,_=>none
   else none
  |none=>none
 |_,_,_,_=>none
def qY.oM (c:Bool×Wd):qY:=.calc c.1 c.2.t c.2.x
def abU:Wd->Value->Bool
 |⟨.int k,n⟩,.int k' n'=>(match abS k k' with | some _=>true | none=>false)&&eqI n n'
 |⟨.bool,b⟩,.bool b'=>BEq.beq (α:=Bool) b b'
 |⟨.str,s⟩,.string s'=>List.isEmpty (α:=UInt8) s&&s'.data.toList.isEmpty
 |⟨.sl e,l⟩,.slice none 0 0=>List.isEmpty (α:=Dt e) l
 |_,_=>false
def sZ:List Wd->List Value->Bool
 | [],[]=>true
 |w::ws,v::vs=>abU w v&&sZ ws vs
 |_,_=>false
def tpw (a i:Bool) (ws:List Wd):List TW:=ws.map (TW.p a i)
def OD (tt:TT) (ety:TypeId->Option Ty) (d:Nat) (o:Nat->TO) (sT:TypeId) (s x:TW):Option qY:=
 match tt sT with
 |some { k:=.slice e,.. }=>match tt e,ety e with
  |some ie,some et=>bif Nat.beq ie.bytes 0||!Nat.beq (size et) ie.size then none else match x.rows o et with
   |none=>none
   |some (new,a',i')=>
    let res (pre:Bool) (old:List (Dt et)) (a i:Bool) (kill:List (Nat×TO)):qY:=
     { pre:=pre&&decide ((old.length+new.length)*ie.bytes<=140737488355328),t:=.sl et,val:=List.append old new,dst:=fun _=>.v (.one (.own d)),aK:=fun y=>kill++[(d,.arr false (a||a') (i||i') et y)],new:=[d] }
    match s with
    |.dF=>some (res true [] false false [])
    |.own g=>match o g with
     |.arr false a i e' l=>match (um e' l).Bh (.sl et) with
      |some l=>bif Nat.beq g d then none else some (res true l a i [(g,.none)])
      |none=>none
     |_=>none
    |.vw g lo hi=>match o g with
     |.arr false a i e' l=>match (um e' (l.take hi.toNat)).Bh (.sl et) with
      |some l=>bif Nat.beq g d then none else some (res (decide (lo=0)) l a i [(g,.none)])
      |none=>none
     |_=>none
    |_=>none
  |_,_=>none
 |_=>none
def CJ (e:Ty):Nat->List Wd->List (Dt e)
 |0,_=>[]
 |n+1,l=>kK e (l.take (size e))::CJ e n (l.drop (size e))
def Jf {α:Type} (l:List α):Nat->List α
 |0=>[]
 |n+1=>l++Jf l n
def Xc (tt:TT) (o:Nat->TO) (t:TypeId) (x h m:TS):Option qY:=
 match tt t,x,h,m with
 |some { k:=.slice e,.. },.v (.one (.own g)),.v (.one (.p _ _ ⟨.int .i64,h⟩)),.v (.one (.p _ _ ⟨.int .i64,m⟩))=>match tt e,o g with
  |some ie,.arr false _ _ e' l=>bif Nat.beq (size e') ie.size then some { pre:=Cj h m l.length,t:=.bool,val:=false,dst:=fun _=>.v (.one (.vw g 0 h)),aK:=fun _=>[],new:=[] } else none
  |_,_=>none
 |some { k:=.slice e,.. },.v (.one .dF),.v (.one (.p _ _ ⟨.int .i64,h⟩)),.v (.one (.p _ _ ⟨.int .i64,m⟩))=>match tt e with
  |some _=>some { pre:=Cj h m 0,t:=.bool,val:=false,dst:=fun _=>.v (.one .dF),aK:=fun _=>[],new:=[] }
  |none=>none
 |_,_,_,_=>none
def abV (tt:TT) (o:Nat->TO) (t:TypeId) (x:TS):Option qY:=
 match tt t,x with
 |some { k:=.slice e,.. },.v (.one (.vw g lo hi))=>match tt e,o g with
  |some ie,.arr false a i et l=>bif Nat.beq (size et) ie.size&&Nat.blt 0 ie.size then match qL o (jr et) (ie.zero.map Zw) with
   |some (ps,false,false,[])=>some { pre:=Nat.blt lo.toNat hi.toNat,t:=.sl et,val:=alU lo hi (kK et ps) l,dst:=fun _=>.no,aK:=fun y=>[(g,.arr false a i et y)],new:=[] }
   |_=>none
   else none
  |_,_=>none
 |_,_=>none
def dU (tt:TT) (ety:TypeId->Option Ty) (d:Nat) (o:Nat->TO) (f:Operand->TS) (op:Op) (ty:TypeId):Option qY:=
 match op with
 |.move x | .assign x=>match f x with
  |.no=>none
  |s=>some (.pure s)
 |.pick c x y=>match f c with
  |.v (.one (.p _ _ ⟨.bool,b⟩))=>match f x,f y with
   |.v (.one (.p a i w)),.v (.one (.p a' i' w'))=>match w'.Bh w.t with
    |some z=>some { pre:=true,t:=w.t,val:=bif b then w.x else z,dst:=fun z=>.v (.one (.p (a||a') (i||i') ⟨w.t,z⟩)),aK:=fun _=>[],new:=[] }
    |none=>none
   |x,y=>match (bif b then x else y) with
    |.no=>none
    |s=>some (.pure s)
  |_=>none
 |.alloc t=>match tt t with
  |some i=>some { pre:=true,t:=.bool,val:=false,dst:=fun _=>.v (.one (.box d 0)),aK:=fun _=>[(d,.box (i.zero.map Zw))],new:=[d] }
  |none=>none
 |.box t x=>match tt t,f x with
  |some i,.v x=>bif Nat.beq x.words.length i.size&&x.solid then some { pre:=true,t:=.bool,val:=false,dst:=fun _=>.v (.one (.box d 0)),aK:=fun _=>[(d,.box x.words)],new:=[d] } else none
  |_,_=>none
 |.build t parts=>match tt t with
  |some i=>bif i.known tt then match Ci (placeOf tt t) (i.zero.map Zw) (parts.toList.map fun p=>(p.1,f p.2)) with
   |some ws=>some (.pure (.v (.agg ws)))
   |none=>none
   else none
  |none=>none
 |.buildSlice t n parts=>match tt t with
  |some { k:=.slice e,.. }=>match tt e,ety e with
   |some ie,some et=>match Ci (fun m=>if m<n then some (m*ie.size,ie.size) else none) (Jf (ie.zero.map Zw) n) (parts.toList.map fun p=>(p.1,f p.2)) with
    |some ws=>match qL o (Jf (jr et) n) ws with
     |some (ps,a,i,gs)=>bif Nat.ble (n+n*ie.size) 16777216&&Nat.beq (size et) ie.size then
       some { pre:=true,t:=.sl et,val:=CJ et n ps,dst:=fun _=>.v (.one (.own d)),aK:=fun y=>gs.map (lK o)++[(d,.arr false a i et y)],new:=[d] } else none
     |none=>none
    |none=>none
   |_,_=>none
  |_=>none
 |.load t x=>match tt t,f x with
  |some i,.v (.one (.box g off))=>match o g with
   |.box ws=>bif Nat.ble (off+i.size) ws.length&&Nat.blt 0 i.size then some (.pure (TV.gI i.agg ((ws.drop off).take i.size))) else none
   |_=>none
  |some i,.v (.one (.ep g n off))=>match o g with
   |.arr _ a i' e l=>bif Nat.ble (off+i.size) (size e)&&Nat.blt 0 i.size&&sZ (((gy e (dflt e)).drop off).take i.size) i.zero then
     some { pre:=true,t:=e,val:=l.getD n.toNat (dflt e),dst:=fun z=>TV.gI i.agg (tpw a i' (((gy e z).drop off).take i.size)),aK:=fun _=>[],new:=[] } else none
   |_=>none
  |some i,.v (.one (.sp a i' e x off))=>bif Nat.blt 0 i.size&&Nat.ble (off+i.size) (size e) then
    some (.pure (TV.gI i.agg (tpw a i' (((gy e x).drop off).take i.size)))) else none
  |_,_=>none
 |.store t x y=>match tt t,f x,f y with
  |some i,.v (.one (.box g off)),.v y=>match o g with
   |.box ws=>bif Nat.ble (off+i.size) ws.length&&Nat.beq y.words.length i.size&&y.solid then
     some { pre:=true,t:=.bool,val:=false,dst:=fun _=>.no,aK:=fun _=>[(g,.box (aS ws off y.words))],new:=[] } else none
   |_=>none
  |some i,.v (.one (.ep g n off)),.v y=>match o g with
   |.arr false a i' e l=>match qL o (((jr e).drop off).take i.size) y.words with
    |some (ps,a',i'',gs)=>bif Nat.ble (off+i.size) (size e)&&Nat.beq y.words.length i.size&&y.solid&&!fZ g gs then
     some { pre:=true,t:=.sl e,val:=List.set l n.toNat (K_ e (Nat.beq i.size (size e)) (l.getD n.toNat (dflt e)) off ps),dst:=fun _=>.no,aK:=fun z=>gs.map (lK o)++[(g,.arr false (a||a') (i'||i'') e z)],new:=[] } else none
    |none=>none
   |_=>none
  |_,_,_=>none
 |.nilCheck x=>match f x with
  |.v (.one x)=>bif x.live o then some (.pure (.v (.one x))) else none
  |_=>none
 |.binOp op t x y _=>match f x,f y with
  |.v (.one (.p _ _ x)),.v (.one (.p _ _ y))=>match tt t with
   |some i=>match alV i.k op x y with
    |some c=>some (.oM c)
    |none=>none
   |none=>none
  |.v (.agg xs),.v (.agg ys)=>match tt t with
   |some i=>match Gy tt 0 i.k.parts xs ys,ae3 op with
    |some b,some true=>bif i.eq then some (.oM (true,jf b)) else none
    |some b,some false=>bif i.eq then some (.oM (true,jf (!b))) else none
    |_,_=>none
   |none=>none
  |_,_=>none
 |.unOp op _ x=>match f x with
  |.v (.one (.p _ _ x))=>match unT op x with
   |some c=>some (.oM (true,c))
   |none=>none
  |_=>none
 |.convert s t x=>match tt s,tt t,f x with
  |some { k:=.int _,.. },some { k:=.int k,.. },.v (.one (.p _ _ ⟨.int _,x⟩))=>some (.calc true (.int k) (k.wrap x))
  |some { k:=.slice e,.. },some { k:=.str,.. },.v (.one x)=>match tt e with
   |some { k:=.int .u8,.. }=>match x.rows o (.int .u8) with
    |some (l,_,_)=>some (.calc true .str (strOf l))
    |none=>none
   |_=>none
  |some { k:=.str,.. },some { k:=.slice e,.. },.v (.one (.p _ _ ⟨.str,x⟩))=>match tt e with
   |some { k:=.int .u8,.. }=>some (.calc true (.sl (.int .u8)) (ajj x))
   |_=>none
  |_,_,_=>none
 |.makeSlice t n c=>match tt t,f n,f c with
  |some { k:=.slice e,.. },.v (.one (.p _ _ ⟨.int .i64,n⟩)),.v (.one (.p _ _ ⟨.int .i64,c⟩))=>match tt e,ety e with
   |some ie,some et=>match qL o (jr et) (ie.zero.map Zw) with
    |some (ps,false,false,[])=>bif Nat.blt 0 ie.size&&Nat.beq (size et) ie.size then
     some { pre:=Cm ie.bytes n c,t:=.sl et,val:=List.replicate (Int.toNat n) (kK et ps),dst:=fun _=>.v (.one (.own d)),aK:=fun y=>[(d,.arr false false false et y)],new:=[d] } else none
    |_=>none
   |_,_=>none
  |_,_,_=>none
 |.slice t x lo hi none=>match tt t,f x with
  |some { k:=.slice e,.. },.v (.one x)=>match tt e,ety e,Ri o x with
   |some ie,some et,some len=>match mY 0 (lo.map f),mY len (hi.map f) with
    |some lo,some hi=>match x with
     |.own g=>match La o g with
      |some (e',l)=>bif Nat.beq (size e') ie.size then
        some { pre:=Cj lo hi l,t:=.bool,val:=false,dst:=fun _=>.v (.one (.vw g lo hi)),aK:=fun _=>[],new:=[] } else none
      |none=>none
     |.p a i w=>match w.Bh (.sl et) with
      |some l=>bif Nat.beq (size et) ie.size then some { pre:=Cj lo hi (List.length (α:=Dt et) l),t:=.sl et,val:=List.drop lo.toNat (List.take (α:=Dt et) hi.toNat l),dst:=fun z=>.v (.one (.p a i ⟨.sl et,z⟩)),aK:=fun _=>[],new:=[] } else none
      |none=>none
     |.dF=>some { pre:=decide (lo=0)&&decide (hi=0),t:=.bool,val:=false,dst:=fun _=>.v (.one .dF),aK:=fun _=>[],new:=[] }
     |_=>none
    |_,_=>none
   |_,_,_=>none
  |some { k:=.str,.. },.v (.one (.p _ _ ⟨.str,y⟩))=>match mY 0 (lo.map f),mY (List.length (α:=UInt8) y) (hi.map f) with
   |some lo,some hi=>some (.calc (Cj lo hi (List.length (α:=UInt8) y)) .str (List.drop lo.toNat (List.take (α:=UInt8) hi.toNat y)))
   |_,_=>none
  |_,_=>none
 |.slice t x none (some hi) (some mx)=>Xc tt o t (f x) (f hi) (f mx)
 |.fieldAddr t x n=>match tt t,placeOf tt t n,f x with
  |some { k:=.struct _,.. },some (off',sz'),.v (.one x)=>bif Nat.blt 0 sz'&&x.live o then some (.pure (.v (.one (x.shift off')))) else none
  |_,_,_=>none
 |.field t x n=>match tt t,f x with
  |some { k:=.struct fs,.. },.v (.agg ws)=>match fs[n]? with
   |some (off,u)=>match tt u with
    |some iu=>bif Nat.ble (off+iu.size) ws.length&&Nat.blt 0 iu.size then some (.pure (TV.gI iu.agg ((ws.drop off).take iu.size))) else none
    |none=>none
   |none=>none
  |_,_=>none
 |.indexAddr t x ix=>match tt t,f x,f ix with
  |some { k:=.slice e,.. },.v (.one x),.v (.one (.p _ _ ⟨.int _,n⟩))=>match tt e,ety e,x with
   |some ie,some et,.own g=>match La o g with
    |some (e',l)=>bif Nat.beq (size e') ie.size then
      some { pre:=inB n l,t:=.bool,val:=false,dst:=fun _=>.v (.one (.ep g (Int.toNat n:Nat) 0)),aK:=fun _=>[],new:=[] } else none
    |none=>none
   |some ie,some et,.vw g lo hi=>match La o g with
    |some (e',_)=>bif Nat.beq (size e') ie.size then
      some { pre:=inB n (hi.toNat-lo.toNat),t:=.bool,val:=false,dst:=fun _=>.v (.one (.ep g (lo.toNat+Int.toNat n:Nat) 0)),aK:=fun _=>[],new:=[] } else none
    |none=>none
   |some ie,some et,.p a i w=>match w.Bh (.sl et) with
    |some l=>bif Nat.beq (size et) ie.size then some { pre:=inB n (List.length (α:=Dt et) l),t:=et,val:=List.getD (α:=Dt et) l (Int.toNat n) (dflt et),dst:=fun z=>.v (.one (.sp a i et z 0)),aK:=fun _=>[],new:=[] } else none
    |none=>none
   |_,_,_=>none
  |some { k:=.arr m e,.. },.v (.one (.gl g)),.v (.one (.p _ _ ⟨.int _,n⟩))=>match tt e,RE.G g with
   |some ie,some ⟨et,l⟩=>bif Nat.beq (size et) ie.size&&Nat.beq (List.length (α:=Dt et) l) m then some { pre:=inB n m,t:=et,val:=List.getD (α:=Dt et) l (Int.toNat n) (dflt et),dst:=fun z=>.v (.one (.sp false false et z 0)),aK:=fun _=>[],new:=[] } else none
   |_,_=>none
  |some { k:=.arr m e,.. },.v (.one x),.v (.one (.p _ _ ⟨.int _,n⟩))=>match tt e with
   |some ie=>bif inB n m&&x.live o then some (.pure (.v (.one (x.shift (Int.toNat n*ie.size))))) else none
   |none=>none
  |_,_,_=>none
 |.index t x ix=>match tt t,f x,f ix with
  |some { k:=.str,.. },.v (.one (.p _ _ ⟨.str,s⟩)),.v (.one (.p _ _ ⟨.int _,n⟩))=>
    some (.calc (inB n (List.length (α:=UInt8) s)) (.int .u8) ((List.getD (α:=UInt8) s (Int.toNat n) 0).toNat:Int))
  |_,_,_=>none
 |.range t x=>match tt t,f x with
  |some { k:=.str,.. },.v (.one (.p _ _ ⟨.str,s⟩))=>some { pre:=true,t:=.str,val:=s,dst:=fun _=>.v (.one (.ni d)),aK:=fun z=>[(d,.it z 0)],new:=[d] }
  |_,_=>none
 |.extract t n=>match f t with
  |.jq xs=>match xs[n]? with
   |some x=>some (.pure (.v x))
   |none=>none
  |_=>none
 |.makeFunc (.func g) first caps=>bif Nat.beq first.size 0 then
   match caps.toList.mapM (fun x=>match f x with | .v (.one w)=>some w | _=>none) with
   |some ws=>some (.pure (.v (.one (.clo g ws))))
   |none=>none
   else none
 |.call { callee:=.builtin .len,args,argTypes }=>match args.toList,argTypes.toList with
  | [x],[t]=>match tt t,f x with
   |some { k:=.slice _,.. },.v (.one x)=>match Ri o x with
    |some n=>some (.calc true (.int .i64) n)
    |none=>none
   |some { k:=.str,.. },.v (.one (.p _ _ ⟨.str,s⟩))=>some (.calc true (.int .i64) (List.length (α:=UInt8) s:Int))
   |_,_=>none
  |_,_=>none
 |.call { callee:=.builtin .append,args,argTypes }=>match args.toList,argTypes.toList with
  | [s,x],sT::xT::_=>match tt xT,f s,f x with
   |some { k:=.slice _,.. },.v (.one s),.v (.one x)=>OD tt ety d o sT s x
   |_,_,_=>none
  |_,_=>none
 |.call { callee:=.builtin .clear,args,argTypes }=>match args.toList,argTypes.toList with
  | [x],t::_=>abV tt o t (f x)
  |_,_=>none
 |.call { callee:=.builtin .min,args,.. }=>match args.toList with
  | [x,y]=>match f x,f y with
   |.v (.one (.p _ _ ⟨.int k,x⟩)),.v (.one (.p _ _ ⟨.int _,y⟩))=>some (.calc true (.int k) (Zy x y))
   |_,_=>none
  | [x,y,z]=>match f x,f y,f z with
   |.v (.one (.p _ _ ⟨.int k,x⟩)),.v (.one (.p _ _ ⟨.int _,y⟩)),.v (.one (.p _ _ ⟨.int _,z⟩))=>some (.calc true (.int k) (Zy (Zy x y) z))
   |_,_,_=>none
  |_=>none
 |.call { callee:=.builtin .max,args,.. }=>match args.toList with
  | [x,y]=>match f x,f y with
   |.v (.one (.p _ _ ⟨.int k,x⟩)),.v (.one (.p _ _ ⟨.int _,y⟩))=>some (.calc true (.int k) (Eb x y))
   |_,_=>none
  | [x,y,z]=>match f x,f y,f z with
   |.v (.one (.p _ _ ⟨.int k,x⟩)),.v (.one (.p _ _ ⟨.int _,y⟩)),.v (.one (.p _ _ ⟨.int _,z⟩))=>some (.calc true (.int k) (Eb (Eb x y) z))
   |_,_,_=>none
  |_=>none
 |_=>none
end
end Go.Fg

namespace Go.Fg
open Go.Fw
section
variable [RE] {o:Nat->TO} {tt:TT} {ety:TypeId->Option Ty}
theorem fK (e:Ty) (l:List (Dt e)):(aI e l).length=l.length:=by simp [aI]
theorem rQ (e:Ty) (l:List (Dt e)) (lo hi:Int):((aI e l).take (P.nat (.int .i64 hi))).drop (P.nat (.int .i64 lo))=aI e ((l.take hi.toNat).drop lo.toNat):=by
 simp [aI,P.nat,P.num,V0,Wo]
theorem vW (e:Ty) (l:List (Dt e)) (hi:Int):(aI e l).take (P.nat (.int .i64 hi))=aI e (l.take hi.toNat):=by
 simp [aI,P.nat,P.num,V0]
theorem iy {g:Nat} {fz a i:Bool} {e:Ty} {l:List (Dt e)} (h:o g=.arr fz a i e l):bZ o g=.arr fz a i (size e) (aI e l):=by simp [bZ,h,eF]
theorem oN {g:Nat} {ws:List TW} (h:o g=.box ws):bZ o g=.box (ws.map bW):=by simp [bZ,h,eF]
theorem pF {g n:Nat} {e:Ty} (h:La o g=some (e,n)):(bZ o g).dim=some (size e,n):=by
 unfold La at h;unfold bZ;cases ho:o g with
 |arr fz a i e l=>rw [ho] at h;cases h;simp [eF,O.dim,aI]
 |aO a i e aj l hole=>rw [ho] at h;cases h;simp [eF,O.dim,aI]
 |_=>rw [ho] at h;cases h
theorem xY {a b:Ty} (h:tyB a b=true):a=b:=by
 unfold tyB at h;split at h
 .rename_i p _;exact p.down
 .cases h
theorem Ec {c:Nat} :∀{aj:List (Nat×Ty)} {t:Ty},uq c aj=some t->(jd aj).lookup c=some (size t)
 | [],t,h=>by cases h
 |(k,u)::r,t,h=>by
  simp only [uq] at h;simp only [jd,Qf,List.lookup];by_cases e:c=k
  .subst e;have:Nat.beq c c=true:=by simp
   rw [this] at h;simp only [cond_true,Q0] at h;subst h;simp
  .have e1:Nat.beq c k=false:=by cases hb:Nat.beq c k with | false=>rfl | true=>exact absurd (Q4 hb) e
   have e2:(c==k)=false:=by simpa using e
   rw [e1] at h;rw [e2];exact Ec h
theorem Jg {c:Nat} :∀{aj:List (Nat×Ty)},uq c aj=none->(jd aj).lookup c=none
 | [],h=>rfl
 |(k,u)::r,h=>by
  simp only [uq] at h;simp only [jd,Qf,List.lookup];by_cases e:c=k
  .subst e;have:Nat.beq c c=true:=by simp
   rw [this] at h;cases h
  .have e1:Nat.beq c k=false:=by cases hb:Nat.beq c k with | false=>rfl | true=>exact absurd (Q4 hb) e
   have e2:(c==k)=false:=by simpa using e
   rw [e1] at h;rw [e2];exact Jg h
theorem uw {e e':Ty} {aj:List (Nat×Ty)} {c:Nat} (h:Zx e aj c e'=true):(jd aj).lookup c=some (size e')/\(jr e)[c]?=some (.sl e')/\c<size e:=by
 simp only [Zx,Qt] at h;obtain ⟨h1,h2⟩:=h;have k1:uq c aj=some e':=by
  split at h1
  .rename_i t ht;rw [ht,xY h1]
  .cases h1
 have k2:(jr e)[c]?=some (.sl e'):=by
  split at h2
  .rename_i t ht;rw [ht,xY h2]
  .cases h2
 exact ⟨Ec k1,k2,by have:=(Q3.1 k2).1;rwa [jY] at this⟩
theorem zM {α β:Type} (f:α->β) (l:List α) (off:Nat) (new:List α):(aS l off new).map f=aS (l.map f) off (new.map f):=by
 simp [aS,V0,Wo]
theorem abW {e:Ty} {x:Dt e} {off:Nat} {ps:List Wd} (hty:ps.map (·.t)=((jr e).drop off).take ps.length) (hlt:off+ps.length<=size e):lq e (K_ e (Nat.beq ps.length (size e)) x off ps)=aS (lq e x) off (ps.map dB):=by
 have hty':(aS (gy e x) off ps).map (·.t)=jr e:=by
  have e0:jr e=(jr e).take off++(((jr e).drop off).take ps.length++(jr e).drop (off+ps.length)):=by
   rw [<-List.drop_drop,J2,J2]
  simp only [aS,Xs,V0,Wo,uj,hty,Wa];exact e0.symm
 unfold K_;cases hc:Nat.beq ps.length (size e) with
 |true=>
  have hc:=Q4 hc;have h0:off=0:=by omega
  subst h0;have e2:aS (gy e x) 0 ps=ps:=by
   simp only [aS,List.take_zero,KS,Wm];rw [List.drop_of_length_le (by rw [qp];omega),Ki]
  have e3:aS (lq e x) 0 (ps.map dB)=ps.map dB:=by rw [iw,<-zM,e2]
  rw [e2] at hty';rw [e3];exact rP hty'
 |false=>
  simp only;rw [rP hty',zM,<-iw]
theorem FP {e:Ty} {l:List (Dt e)} {n off:Nat} {ps:List Wd} (hty:ps.map (·.t)=((jr e).drop off).take ps.length) (hlt:off+ps.length<=size e) :
  aI e (List.set l n (K_ e (Nat.beq ps.length (size e)) (l.getD n (dflt e)) off ps))=(aI e l).set n (aS ((aI e l).getD n []) off (ps.map dB)):=by
 have e0 :∀x,aI e (List.set l n x)=(aI e l).set n (lq e x):=fun x=>by simp [aI,List.map_set]
 rw [e0];by_cases hn:n<l.length
 .have e1:(aI e l).getD n []=lq e (l.getD n (dflt e)):=by simp [aI,List.getD_eq_getElem?_getD,hn]
  rw [e1,abW hty hlt]
 .have e1 :∀z,(aI e l).set n z=aI e l:=fun z=>List.set_eq_of_length_le (by rw [fK];omega);rw [e1,e1]
theorem Ap {e e':Ty} {l:List (Dt e)} {n c:Nat} {l':List (Dt e')} (hc:(jr e)[c]?=some (.sl e')):aI e (putRow e l n c (um e' l'))=jl (aI e l) n c (P.gq (size e') (aI e' l')):=by
 have hlt:c<size e:=by have:=(Q3.1 hc).1;rwa [jY] at this
 have:=FP (e:=e) (l:=l) (n:=n) (off:=c) (ps:=[um e' l']) (by
  show [Ty.sl e']=((jr e).drop c).take 1;have hlt':c<(jr e).length:=by rw [jY];exact hlt
  rw [List.drop_eq_getElem_cons hlt'];rw [Q2 hlt'] at hc;simp only [Q0] at hc;rw [hc];rfl) (by simp only [Zs];omega)
 exact this
theorem oO {g:Nat} {a i:Bool} {e:Ty} {l:List (Dt e)} (h:nP o g=some ⟨a,i,e,l⟩):plainO (bZ o) g=some (a,i,size e,aI e l)/\(bZ o g).names=lT (o g):=by
 unfold nP at h;cases ho:o g with
 |arr fz a' i' e' l'=>
  rw [ho] at h;cases h;have:=iy ho;exact ⟨by simp [plainO,this],by rw [this];rfl⟩
 |aO a0 i0 e0 aj l0 hole=>
  rw [ho] at h;have hg:bZ o g=.aO a0 i0 (size e0) (jd aj) (aI e0 l0) hole:=by simp [bZ,ho,eF]
  rcases hole with _ | ⟨n,c,d⟩
  .cases h;exact ⟨by simp [plainO,hg],by rw [hg];rfl⟩
  .simp only at h;cases hd:o d with
   |arr fz a' i' e' l'=>
    rw [hd] at h;simp only at h;split at h
    .rename_i hc;cases h;obtain ⟨k1,k2,k3⟩:=uw hc;refine ⟨?_,by rw [hg];rfl⟩;simp only [plainO,hg,iy hd];rw [if_pos ⟨k1,k3⟩,Ap k2]
    .cases h
   |_=>rw [hd] at h;cases h
 |_=>rw [ho] at h;cases h
theorem oP {e:Ty} {l:List (Dt e)} {t:Ty} {x:Dt t} (h:(um e l).Bh t=some x) :∃h:Ty.sl e=t,x=h▸l:=by
 have:=h_ h;unfold um at this;cases this;exact ⟨rfl,rfl⟩
theorem OE {t:Ty} {x:TW} {y:Dt t} {a i:Bool} {gs:List Nat} (h:x.toP o t=some (y,a,i,gs)):(bW x).toP (bZ o)=some (dB ⟨t,y⟩,a,i,gs):=by
 cases x with
 |p a' i' w=>
  simp only [TW.toP] at h;split at h
  .rename_i x hx;simp only [Q0,Q1] at h;obtain ⟨rfl,rfl,rfl,rfl⟩:=h;rw [h_ hx];rfl
  .cases h
 |dF=>
  simp only [TW.toP] at h;split at h
  .simp only [Q0,Q1] at h;obtain ⟨rfl,rfl,rfl,rfl⟩:=h;rfl
  .cases h
 |own g=>
  simp only [TW.toP] at h;split at h
  .rename_i a' i' e l hg;split at h
   .rename_i z hz;simp only [Q0,Q1] at h;obtain ⟨rfl,rfl,rfl,rfl⟩:=h;rw [<-h_ hz];obtain ⟨k1,k2⟩:=oO hg;simp only [bW,W.toP,k1,k2];rfl
   .cases h
  .cases h
 |vw g lo hi=>
  simp only [TW.toP] at h;split at h
  .rename_i a' i' e l hg;split at h
   .rename_i z hz;simp only [Q0,Q1] at h;obtain ⟨rfl,rfl,rfl,rfl⟩:=h;rw [<-h_ hz];obtain ⟨k1,k2⟩:=oO hg;simp only [bW,W.toP,k1,k2,rQ];rfl
   .cases h
  .cases h
 |_=>simp [TW.toP] at h
theorem xZ :∀{ts:List Ty} {xs:List TW} {ys:List Wd} {a i:Bool} {gs:List Nat},qL o ts xs=some (ys,a,i,gs)->su (bZ o) (xs.map bW)=some (ys.map dB,a,i,gs)/\ys.map (·.t)=ts
 | [],[],ys,a,i,gs,h=>by
  simp only [qL,Q0,Q1] at h;obtain ⟨rfl,rfl,rfl,rfl⟩:=h;exact ⟨rfl,rfl⟩
 | [],x::xs,ys,a,i,gs,h=>by simp [qL] at h
 |t::ts,[],ys,a,i,gs,h=>by simp [qL] at h
 |t::ts,x::xs,ys,a,i,gs,h=>by
  simp only [qL] at h;split at h
  .rename_i h1 h2;simp only [Q0,Q1] at h;obtain ⟨rfl,rfl,rfl,rfl⟩:=h;obtain ⟨k1,k2⟩:=xZ h2;refine ⟨?_,by simp only [Qf,k2]⟩;simp only [Qf,su,OE h1,k1]
  .cases h
def iT (l:List (Nat×TO)):List (Nat×O):=l.map fun p=>(p.1,eF p.2)
def Pl (o:Nat->TO) (gs:List Nat):Prop :=∀g∈gs,∃p,nP o g=some p
theorem Pl.append {a b:List Nat} (h:Pl o a) (h':Pl o b):Pl o (a++b):=fun g hg=>by
 rcases X2.1 hg with x | x
 .exact h g x
 .exact h' g x
theorem Pl.nil:Pl o []:=fun g hg=>by cases hg
theorem Me {g:Nat} {p:TA} (h:nP o g=some p):Pl o (lT (o g)++[g]):=by
 refine Pl.append (fun d hd => ?_) (fun g' hg'=>by rw [QP] at hg';subst hg';exact ⟨p,h⟩);unfold nP at h;cases ho:o g with
 |aO a i e aj l hole=>
  rw [ho] at h hd;rcases hole with _ | ⟨n,c,d'⟩
  .cases hd
  .simp only [lT,QP] at hd;subst hd;simp only at h;cases hod:o d with
   |arr fz a' i' e' l'=>exact ⟨⟨a',i',e',l'⟩,by simp only [nP,hod]⟩
   |_=>rw [hod] at h;cases h
 |_=>rw [ho] at hd;cases hd
theorem U9 {t:Ty} {x:TW} {y:Dt t} {a i:Bool} {gs:List Nat} (h:x.toP o t=some (y,a,i,gs)):Pl o gs:=by
 cases x with
 |p a' i' w=>
  simp only [TW.toP] at h;split at h
  .simp only [Q0,Q1] at h;obtain ⟨_,_,_,rfl⟩:=h;exact Pl.nil
  .cases h
 |dF=>
  simp only [TW.toP] at h;split at h
  .simp only [Q0,Q1] at h;obtain ⟨_,_,_,rfl⟩:=h;exact Pl.nil
  .cases h
 |own g=>
  simp only [TW.toP] at h;split at h
  .rename_i hg;split at h
   .simp only [Q0,Q1] at h;obtain ⟨_,_,_,rfl⟩:=h;exact Me hg
   .cases h
  .cases h
 |vw g lo hi=>
  simp only [TW.toP] at h;split at h
  .rename_i hg;split at h
   .simp only [Q0,Q1] at h;obtain ⟨_,_,_,rfl⟩:=h;exact Me hg
   .cases h
  .cases h
 |_=>simp [TW.toP] at h
theorem OG :∀{ts:List Ty} {xs:List TW} {ys:List Wd} {a i:Bool} {gs:List Nat},qL o ts xs=some (ys,a,i,gs)->Pl o gs
 | [],[],ys,a,i,gs,h=>by simp only [qL,Q0,Q1] at h;obtain ⟨_,_,_,rfl⟩:=h;exact Pl.nil
 | [],x::xs,ys,a,i,gs,h=>by simp [qL] at h
 |t::ts,[],ys,a,i,gs,h=>by simp [qL] at h
 |t::ts,x::xs,ys,a,i,gs,h=>by
  simp only [qL] at h;split at h
  .rename_i h1 h2;simp only [Q0,Q1] at h;obtain ⟨_,_,_,rfl⟩:=h;exact (U9 h1).append (OG h2)
  .cases h
theorem Jh {g:Nat} (h :∃p,nP o g=some p):Fw.aW (bZ o) g=((lK o g).1,eF (lK o g).2):=by
 obtain ⟨⟨a,i,e,l⟩,hp⟩:=h;simp only [Fw.aW,lK,hp,(oO hp).1];rfl
theorem pG {gs:List Nat} (h:Pl o gs):gs.map (Fw.aW (bZ o))=iT (gs.map (lK o)):=by
 simp only [iT,Vv];exact ZZ fun g hg=>Jh (h g hg)
theorem uy (x:TV):(jM x).words=x.words.map bW:=by cases x<;>rfl
theorem uz (x:TV) (h:x.solid=true):(jM x).solid=true:=by
 cases x with
 |one x=>cases x<;>first | rfl | (simp [TV.solid,TW.solid] at h)
 |agg xs=>rfl
theorem lu (agg:Bool) (ws:List TW):bn (TV.gI agg ws)=V.gI agg (ws.map bW):=by
 cases agg with
 |true=>rfl
 |false=>
  match ws with
  | []=>rfl
  | [x]=>rfl
  |x::y::ws=>rfl
theorem qj {α β:Type} (f:α->β) (l:List α) (off:Nat) (new:List α):(aS l off new).map f=aS (l.map f) off (new.map f):=by
 simp [aS,V0,Wo]
theorem CO {place:Nat->Option (Nat×Nat)} :∀{ps:List (Nat×TS)} {ws r:List TW},Ci place ws ps=some r->lZ place (ws.map bW) (ps.map fun p=>(p.1,bn p.2))=some (r.map bW)
 | [],ws,r,h=>by simp only [Ci,Q0] at h;subst h;rfl
 |(n,.v x)::ps,ws,r,h=>by
  simp only [Ci] at h;split at h
  .rename_i off size hp;cases hb:(Nat.beq x.words.length size&&Nat.ble (off+size) ws.length&&x.solid) with
   |false=>rw [hb] at h;cases h
   |true=>
    rw [hb,cond_true] at h;simp only [Qt] at hb;have h1:=Q4 hb.1.1;have h2:=W2 hb.1.2;have ih:=CO h;rw [qj] at ih;simp only [Qf,bn,lZ,hp,uy,ZD];rw [if_pos ⟨h1,h2,uz x hb.2⟩];exact ih
  .cases h
 |(n,.jq xs)::ps,ws,r,h=>by simp [Ci] at h
 |(n,.no)::ps,ws,r,h=>by simp [Ci] at h
theorem afi (sz:Nat) (l:List (List P)):(P.gq sz l).Ut sz:=by cases l<;>simp [P.gq,P.Ut]
theorem Ji (e:Ty) (l:List (Dt e)):(dB ⟨.sl e,l⟩).Ut (size e):=afi _ _
theorem Rj {e:Ty} {x:TW} {l:List (Dt e)} {a i:Bool} (h:x.rows o e=some (l,a,i)) :∃ask,(bW x).rows (bZ o) (size e)=some (ask,aI e l,a,i)/\ask:=by
 cases x with
 |p a' i' w=>
  simp only [TW.rows] at h;split at h
  .rename_i y hy;simp only [Q0,Q1] at h;obtain ⟨rfl,rfl,rfl⟩:=h;rw [h_ hy];exact ⟨(dB ⟨.sl e,l⟩).Ut (size e),by simp only [bW,W.rows,jy],Ji _ _⟩
  .cases h
 |dF=>
  simp only [TW.rows,Q0,Q1] at h;obtain ⟨rfl,rfl,rfl⟩:=h;exact ⟨_,rfl,trivial⟩
 |own g=>
  simp only [TW.rows] at h;split at h
  .rename_i fz a' i' e' l' hg;split at h
   .rename_i z hz;simp only [Q0,Q1] at h;obtain ⟨rfl,rfl,rfl⟩:=h;obtain ⟨he,hz⟩:=oP hz;cases he;subst hz;exact ⟨True,by simp only [bW,W.rows,iy hg,if_true],trivial⟩
   .cases h
  .cases h
 |vw g lo hi=>
  simp only [TW.rows] at h;split at h
  .rename_i fz a' i' e' l' hg;split at h
   .rename_i z hz;simp only [Q0,Q1] at h;obtain ⟨rfl,rfl,rfl⟩:=h;obtain ⟨he,hz⟩:=oP hz;cases he;subst hz;exact ⟨True,by simp only [bW,W.rows,iy hg,if_true,rQ],trivial⟩
   .cases h
  .cases h
 |_=>simp [TW.rows] at h
theorem U_ (sz:Nat) (l:List (List P)):(P.gq sz l).isSlice:=by cases l<;>simp [P.gq,P.isSlice]
theorem ajl (sz:Nat) (l:List (List P)):(P.gq sz l).len=.int .i64 l.length:=by cases l<;>rfl
theorem afj (e:Ty) (l:List (Dt e)):(dB ⟨.sl e,l⟩).len=.int .i64 l.length:=by rw [G6,ajl,fK]
theorem Xd {x:TW} {n:Int} (h:Ri o x=some n) :∃ask,lenOf (bZ o) (bW x)=some (ask,.int .i64 n)/\ask:=by
 cases x with
 |p a i w=>
  obtain ⟨t,x⟩:=w;cases t<;>simp only [Ri] at h<;>try (cases h;done)
  rename_i e;simp only [Q0] at h;subst h;refine ⟨(dB ⟨.sl e,x⟩).isSlice,?_,U_ _ _⟩;have e1:(dB ⟨.sl e,x⟩).len=.int .i64 (List.length (α:=Dt e) x):=afj e x;simp only [bW,lenOf];rw [e1]
 |dF=>simp only [Ri,Q0] at h;subst h;exact ⟨_,rfl,trivial⟩
 |own g=>
  simp only [Ri] at h;split at h
  .rename_i hg;simp only [Q0] at h;subst h;exact ⟨True,by simp only [bW,lenOf,pF hg],trivial⟩
  .cases h
 |vw g lo hi=>
  simp only [Ri] at h;split at h
  .rename_i hg;simp only [Q0] at h;subst h;rename_i x;obtain ⟨e,n⟩:=x;exact ⟨True,by simp only [bW,lenOf,pF hg,P.nat,P.num],trivial⟩
  .cases h
 |_=>simp [Ri] at h
theorem Jj {x:TW} (h:x.live o=true):(bW x).live (bZ o)=true:=by
 cases x with
 |box g off=>
  simp only [TW.live] at h;split at h
  .rename_i hg;simp only [bW,W.live,oN hg]
  .cases h
 |ep g n off=>
  simp only [TW.live] at h;split at h
  .rename_i x hg;obtain ⟨e,n⟩:=x;simp only [bW,W.live,pF hg];rfl
  .cases h
 |sp=>rfl
 |_=>simp [TW.live] at h
theorem MB (n:Nat) (x:TW):bW (x.shift n)=(bW x).shift n:=by cases x<;>simp [TW.shift,bW,W.shift]
theorem abX (v:Value):bW (Zw v)=cv v:=by
 unfold Zw;split
 .rfl
 .rfl
 .rfl
 .rfl
 .rename_i x h1 h2 h3 h4;show W.p false false (P.opq v)=cv v;unfold cv;split
  .exact (h1 _ _ rfl).elim
  .exact (h2 _ rfl).elim
  .exact (h3 _ rfl).elim
  .exact (h4 rfl).elim
  .rfl
theorem rU (l:List Value):(l.map Zw).map bW=l.map cv:=by
 rw [Vv];exact ZZ fun v _=>abX v
theorem Zz (v:Value):bn (U6 v)=vg v:=by
 unfold U6;split
 .rename_i cs;unfold vg;have e:(cs.toList.map Zw).map bW=cs.toList.map cv:=rU _;cases h:cs.toList.all Value.oneCell'
  .simp only [h,cond_false,W3,if_false];rfl
  .simp only [h,cond_true,if_true,bn,jM,e]
 .rfl
 .simp only [bn,jM,bW,nO];rfl
 .rename_i x h1 h2 h3;have e:vg v=if v.oneCell'=true then .v (.one (cv v)) else .no:=by
   unfold vg;split
   .exact (h1 _ rfl).elim
   .exact (h2 _ rfl).elim
   .exact (h3 _ rfl).elim
   .rfl
  rw [e];cases h:v.oneCell'
  .simp only [cond_false,W3,if_false];rfl
  .simp only [cond_true,if_true,bn,jM,abX]
theorem pI (st:kF) (x:Operand):(bg st).dP x=bn (st.dP x):=by
 cases x with
 |tmp t=>rfl
 |const v=>exact (Zz v).symm
 |func f=>simp [St.dP,kF.dP,bn,jM,bW,nO]
 |global g=>
  simp only [Fw.St.dP,kF.dP,ahM];cases RE.G g<;>rfl
end
end Go.Fg

namespace Go.Fg
open Go.Fw
section
variable [RE] {o:Nat->TO} {tt:TT} {ety:TypeId->Option Ty} {d:Nat} {f:Operand->TS} {ty:TypeId}
structure f_ (r:qY) (r':DL):Prop where
 pre:r.pre=true->r'.pre
 dst:r'.dst r'.val=bn (r.dst r.val)
 aK:r'.aK r'.val=iT (r.aK r.val)
 new:r'.new=r.new
def ig (tt:TT) (ety:TypeId->Option Ty) (d:Nat) (o:Nat->TO) (f:Operand->TS) (op:Op) (ty:TypeId):Prop:=
 ∀r,dU tt ety d o f op ty=some r->∃r',kernel tt d (bZ o) (fun x=>bn (f x)) op ty=some r'/\f_ r r'
def alX (r:qY) (r':DL):Prop:=(r.pre=true->f_ r r')/\r'.new=r.new
theorem f_.toC {r:qY} {r':DL} (h:f_ r r'):alX r r':=⟨fun _=>h,h.new⟩
def abY (tt:TT) (ety:TypeId->Option Ty) (d:Nat) (o:Nat->TO) (f:Operand->TS) (op:Op) (ty:TypeId):Prop:=
 ∀r,dU tt ety d o f op ty=some r->∃r',kernel tt d (bZ o) (fun x=>bn (f x)) op ty=some r'/\alX r r'
theorem ig.toC {tt:TT} {ety:TypeId->Option Ty} {d:Nat} {o:Nat->TO} {f:Operand->TS} {op:Op} {ty:TypeId} (h:ig tt ety d o f op ty):abY tt ety d o f op ty:=fun r hr=>
 let ⟨r',h1,h2⟩:=h r hr
 ⟨r',h1,h2.toC⟩
theorem f_.pure (x:TS):f_ (.pure x) (.pure (bn x)):=⟨fun _=>trivial,rfl,rfl,rfl⟩
theorem OH {x:TS} (h:bn x=.no):x=.no:=by cases x<;>first | rfl | cases h
theorem afk (x:Operand):ig tt ety d o f (.move x) ty:=by
 intro r h;simp only [dU] at h;split at h
 .cases h
 .rename_i s hs;simp only [Q0] at h;subst h;refine ⟨.pure (bn (f x)),?_,f_.pure _⟩;simp only [kernel];split
  .rename_i e;exact (hs (OH e)).elim
  .rfl
theorem ZA (x:Operand):ig tt ety d o f (.assign x) ty:=by
 intro r h;simp only [dU] at h;split at h
 .cases h
 .rename_i s hs;simp only [Q0] at h;subst h;refine ⟨.pure (bn (f x)),?_,f_.pure _⟩;simp only [kernel];split
  .rename_i e;exact (hs (OH e)).elim
  .rfl
theorem abZ {x:TS} {a i:Bool} {y:P} (h:bn x=.v (.one (.p a i y))) :∃w,x=.v (.one (.p a i w))/\dB w=y:=by
 cases x with
 |v x=>cases x with
  |one x=>cases x<;>simp [bn,jM,bW] at h<;>exact ⟨_,by rw [h.1,h.2.1],h.2.2⟩
  |agg xs=>cases h
 |_=>cases h
theorem afl (c x y:Operand):ig tt ety d o f (.pick c x y) ty:=by
 intro r h;simp only [dU] at h;split at h
 .rename_i a0 i0 b hc;change Bool at b;have hc':bn (f c)=.v (.one (.p a0 i0 (.bool b))):=by rw [hc];rfl
  split at h
  .rename_i a i w a' i' w' hx hy;split at h
   .rename_i z hz;simp only [Q0] at h;subst h;have hx':bn (f x)=.v (.one (.p a i (dB w))):=by rw [hx];rfl
    have hy':bn (f y)=.v (.one (.p a' i' (dB w'))):=by rw [hy];rfl
    simp only [kernel,hc',hx',hy'];refine ⟨_,rfl,⟨fun _=>trivial,?_,rfl,rfl⟩⟩;have e:=h_ hz;rw [e];cases b<;>rfl
   .cases h
  .rename_i hno;have eb:(bif b then bn (f x) else bn (f y))=bn (bif b then f x else f y):=by cases b<;>rfl
   split at h
   .cases h
   .rename_i s hs;simp only [Q0] at h;subst h;refine ⟨.pure (bn (bif b then f x else f y)),?_,f_.pure _⟩;simp only [kernel,hc'];split
    .rename_i a1 i1 x1 a2 i2 y1 h1 h2;obtain ⟨w1,e1,_⟩:=abZ h1;obtain ⟨w2,e2,_⟩:=abZ h2;exact (hno _ _ _ _ _ _ e1 e2).elim
    .rw [eb];split
     .rename_i e;exact (hs (OH e)).elim
     .rfl
 .cases h
theorem bQ {α:Type} {b:Bool} {x:Option α} {y:α} (h:(bif b then x else none)=some y):b=true/\x=some y:=by
 cases b
 .cases h
 .exact ⟨rfl,h⟩
theorem ab1 (t:TypeId):ig tt ety d o f (.alloc t) ty:=by
 intro r h;simp only [dU] at h;split at h
 .rename_i i hi;simp only [Q0] at h;subst h;simp only [kernel,hi];refine ⟨_,rfl,⟨fun _=>trivial,rfl,?_,rfl⟩⟩;simp only [iT,Qf,Vn,eF,rU]
 .cases h
theorem ajm (t:TypeId) (x:Operand):ig tt ety d o f (.box t x) ty:=by
 intro r h;simp only [dU] at h;split at h
 .rename_i i x' hi hx;obtain ⟨hb,h⟩:=bQ h;simp only [Q0] at h;subst h;simp only [Qt] at hb;simp only [kernel,hi,hx,bn,uy,ZD];rw [if_pos ⟨Q4 hb.1,uz _ hb.2⟩];exact ⟨_,rfl,⟨fun _=>trivial,rfl,rfl,rfl⟩⟩
 .cases h
theorem Ed (ps:List (Nat×Operand)):(ps.map fun p=>(p.1,bn (f p.2)))=(ps.map fun p=>(p.1,f p.2)).map fun p=>(p.1,bn p.2):=by
 rw [Vv];rfl
theorem ab2 (t:TypeId) (ps:Array (Nat×Operand)):ig tt ety d o f (.build t ps) ty:=by
 intro r h;simp only [dU] at h;split at h
 .rename_i i hi;obtain ⟨hb,h⟩:=bQ h;split at h
  .rename_i ws hw;simp only [Q0] at h;subst h;have:=CO hw;rw [rU] at this;simp only [kernel,hi,hb,if_true,Ed,this];exact ⟨_,rfl,f_.pure _⟩
  .cases h
 .cases h
theorem Jk {α β:Type} (g:α->β) (l:List α) :∀n,(Jf l n).map g=gu (l.map g) n
 |0=>rfl
 |n+1=>by simp [Jf,gu,Jk g l n]
theorem Aq (e:Ty) :∀(n:Nat) (ws:List Wd),ws.map (·.t)=Jf (jr e) n->aI e (CJ e n ws)=chunks (size e) n (ws.map dB)
 |0,ws,h=>rfl
 |n+1,ws,h=>by
  have h1:(ws.take (size e)).map (·.t)=jr e:=by
   rw [V0,h,Jf,<-jY,K6]
  have h2:(ws.drop (size e)).map (·.t)=Jf (jr e) n:=by
   rw [Wo,h,Jf,<-jY,Uq]
  simp only [CJ,aI,Qf,chunks];rw [rP h1,V0];congr 1;rw [<-Wo];exact Aq e n _ h2
theorem lC (a b:List (Nat×TO)):iT (a++b)=iT a++iT b:=by simp [iT]
theorem Lc (t:TypeId) (n:Nat) (ps:Array (Nat×Operand)):ig tt ety d o f (.buildSlice t n ps) ty:=by
 intro r h;simp only [dU] at h;split at h
 .rename_i e i1 i2 i3 ht;split at h
  .rename_i ie et he het;split at h
   .rename_i ws hw;split at h
    .rename_i qs a i gs hp;obtain ⟨hb,h⟩:=bQ h;simp only [Q0] at h;subst h;simp only [Qt] at hb;have hsz:=Q4 hb.2;have:=CO hw;rw [Jk,rU] at this;obtain ⟨k1,k2⟩:=xZ hp;simp only [kernel,ht,he,Ed,this,k1];rw [if_pos (W2 hb.1)];refine ⟨_,rfl,⟨fun _=>trivial,rfl,?_,rfl⟩⟩;simp only [lC,<-pG (OG hp)];congr 1;simp only [P.list,iT,Qf,Vn,eF,Aq et n qs k2,hsz]
    .cases h
   .cases h
  .cases h
 .cases h
end
end Go.Fg

namespace Go.Fg
open Go.Fw
section
variable [RE] {o:Nat->TO} {tt:TT} {ety:TypeId->Option Ty} {d:Nat} {f:Operand->TS} {ty:TypeId}
theorem iJ {a b:Bool} (h:(a&&b)=true):a=true/\b=true:=by simpa using h
theorem afm (a i:Bool) (ws:List Wd):(tpw a i ws).map bW=ws.map fun w=>W.p a i (dB w):=by
 simp only [tpw,Vv];rfl
theorem x9 (e:Ty) (x:Dt e) (a i:Bool) (off n:Nat) (h:off+n<=size e) (df:Nat->P) :
  ((List.range n).map fun j=>W.p a i ((lq e x).getD (off+j) (df j)))=(tpw a i (((gy e x).drop off).take n)).map bW:=by
 rw [afm,iw];apply Kk;intro j;simp only [XS,Z2,W4];by_cases hj:j<n
 .have hlt:off+j<(gy e x).length:=by rw [qp];omega
  rw [KK hj,if_pos hj];simp [List.getD_eq_getElem?_getD,Q2 hlt]
 .rw [WD (by simp;omega),if_neg hj];rfl
theorem Jl {n:Nat} (h:Nat.blt 0 n=true):0<n:=W2 h
theorem ab3 {w:Wd} {v:Value} (h:abU w v=true):dB w=Uu [v] 0:=by
 unfold abU at h;split at h
 .rename_i k n k' n';change Int at n;simp only [Qt,eqI,decide_eq_true_eq] at h;obtain ⟨h1,h2⟩:=h;cases hk:abS k k' with
  |none=>rw [hk] at h1;cases h1
  |some p=>have e:=p.down;subst e;subst h2;rfl
 .rename_i b b';change Bool at b;have h:b=b':=LawfulBEq.eq_of_beq h;subst h;rfl
 .rename_i s s';change List UInt8 at s;simp only [Qt,List.isEmpty_iff] at h;obtain ⟨h1,h2⟩:=h;subst h1;obtain ⟨⟨l⟩⟩:=s';simp only at h2;subst h2;rfl
 .rename_i e l;change List (Dt e) at l;have hl:l=[]:=by simpa using h
  subst hl;rfl
 .cases h
theorem Ee :∀{ws:List Wd} {vs:List Value},sZ ws vs=true->∀j,(ws.map dB)[j]?=if j<vs.length then some (Uu vs j) else none
 | [],[],h,j=>by simp
 |w::ws,[],h,j=>by simp [sZ] at h
 | [],v::vs,h,j=>by simp [sZ] at h
 |w::ws,v::vs,h,j=>by
  obtain ⟨h1,h2⟩:=iJ h;cases j with
  |zero=>simp only [Qf,US,Wg,Nat.zero_lt_succ,if_true,ab3 h1];rfl
  |succ j=>
   have:=Ee h2 j;simp only [Qf,Vi,Wg,this,Nat.succ_lt_succ_iff];rfl
theorem OI (e:Ty) (l:List (Dt e)) (n off size':Nat) (z:List Value) (h:off+size'<=size e) (hz:sZ (((gy e (dflt e)).drop off).take size') z=true) (a i:Bool) :
  ((List.range size').map fun j=>W.p a i (((aI e l).getD n []).getD (off+j) (Uu z j)))=(tpw a i (((gy e (l.getD n (dflt e))).drop off).take size')).map bW:=by
 by_cases hn:n<l.length
 .have e1:(aI e l).getD n []=lq e (l.getD n (dflt e)):=by simp [aI,List.getD_eq_getElem?_getD,hn]
  rw [e1];exact x9 e _ a i off size' h _
 .have e1:(aI e l).getD n []=[]:=by simp [aI,List.getD_eq_getElem?_getD,WD (qi hn)]
  have e2:l.getD n (dflt e)=dflt e:=by simp [List.getD_eq_getElem?_getD,WD (qi hn)]
  rw [e1,e2,<-x9 e _ a i off size' h (Uu z)];refine ZZ fun j hj => ?_;have hj:j<size':=Wz.1 hj;have:=Ee hz j;rw [V0,Wo,Z2,if_pos hj,W4,<-iw] at this;have hlen:off+j<(lq e (dflt e)).length:=by rw [Rf];omega
  rw [List.getD_eq_getElem?_getD,List.getD_eq_getElem?_getD,this];split
  .rfl
  .rfl
theorem afn (t:TypeId) (x:Operand):ig tt ety d o f (.load t x) ty:=by
 intro r h;simp only [dU] at h;split at h
 .rename_i i g off ht hx;have hx':bn (f x)=.v (.one (.box g off)):=by rw [hx];rfl
  split at h
  .rename_i ws hg;obtain ⟨hb,h⟩:=bQ h;simp only [Q0] at h;subst h;obtain ⟨h1,h2⟩:=iJ hb;simp only [kernel,ht,hx',oN hg,ZD];rw [if_pos ⟨W2 h1,Jl h2⟩];refine ⟨_,rfl,?_⟩;have:=f_.pure (TV.gI i.agg ((ws.drop off).take i.size));rw [lu,V0,Wo] at this;exact this
  .cases h
 .rename_i i g n off ht hx;have hx':bn (f x)=.v (.one (.ep g (.int .i64 n) off)):=by rw [hx];rfl
  split at h
  .rename_i fz a i' e l hg;obtain ⟨hb,h⟩:=bQ h;simp only [Q0] at h;subst h;obtain ⟨hb,h3⟩:=iJ hb;obtain ⟨h1,h2⟩:=iJ hb;have h1:=W2 h1;simp only [kernel,ht,hx',iy hg];rw [if_pos ⟨h1,Jl h2⟩];refine ⟨_,rfl,⟨fun _=>trivial,?_,rfl,rfl⟩⟩;simp only [DL.pure,lu];congr 1;have en:(P.int .i64 n).nat=n.toNat:=rfl;rw [en];exact OI e l n.toNat off i.size i.zero h1 h3 a i'
  .cases h
 .rename_i i a i' e x' off ht hx;have hx':bn (f x)=.v (.one (.sp a i' (lq e x') off)):=by rw [hx];rfl
  obtain ⟨hb,h⟩:=bQ h;simp only [Q0] at h;subst h;obtain ⟨h1,h2⟩:=iJ hb;have h2:=W2 h2;simp only [kernel,ht,hx'];rw [if_pos (Jl h1)];refine ⟨_,rfl,⟨fun _=>by rw [Rf];exact h2,?_,rfl,rfl⟩⟩;simp only [qY.pure,lu];congr 1;exact x9 e x' a i' off i.size h2 fun _=>default
 .cases h
theorem bU (g:Nat) :∀(l:List Nat),fZ g l=l.contains g
 | []=>rfl
 |x::xs=>by
  simp only [fZ,List.contains_cons,bU g xs];congr 1;rw [vp];simp
theorem afo (e:Ty) (l:List (Dt e)) (n:Nat) (x:Dt e):aI e (l.set n x)=(aI e l).set n (lq e x):=by simp [aI,List.map_set]
theorem ab4 (t:TypeId) (x y:Operand):ig tt ety d o f (.store t x y) ty:=by
 intro r h;simp only [dU] at h;split at h
 .rename_i i g off y' ht hx hy;have hx':bn (f x)=.v (.one (.box g off)):=by rw [hx];rfl
  have hy':bn (f y)=.v (jM y'):=by rw [hy];rfl
  split at h
  .rename_i ws hg;obtain ⟨hb,h⟩:=bQ h;simp only [Q0] at h;subst h;obtain ⟨hb,h3⟩:=iJ hb;obtain ⟨h1,h2⟩:=iJ hb;simp only [kernel,ht,hx',hy',oN hg,ZD,uy];rw [if_pos ⟨W2 h1,Q4 h2,uz _ h3⟩];refine ⟨_,rfl,⟨fun _=>trivial,rfl,?_,rfl⟩⟩;simp only [iT,Qf,Vn,eF,qj]
  .cases h
 .rename_i i g n off y' ht hx hy;have hx':bn (f x)=.v (.one (.ep g (.int .i64 n) off)):=by rw [hx];rfl
  have hy':bn (f y)=.v (jM y'):=by rw [hy];rfl
  split at h
  .rename_i a i' e l hg;split at h
   .rename_i ps a' i'' gs hp;obtain ⟨hb,h⟩:=bQ h;simp only [Q0] at h;subst h;obtain ⟨hb,h4⟩:=iJ hb;obtain ⟨hb,h3⟩:=iJ hb;obtain ⟨h1,h2⟩:=iJ hb;have h1:=W2 h1;have h2:=Q4 h2;obtain ⟨k1,k2⟩:=xZ hp;have hl:ps.length=i.size:=by
     have:=congrArg List.length k2;simp [jY] at this;omega
    simp only [kernel,ht,hx',hy',iy hg,uy,k1,ZD];rw [if_pos ⟨h1,hl,h2,uz _ h3,by simpa [bU] using h4⟩];refine ⟨_,rfl,⟨fun _=>trivial,rfl,?_,rfl⟩⟩;simp only [lC,<-pG (OG hp)];congr 1;simp only [P.list,iT,Qf,Vn,eF,afo];have en:(P.int .i64 n).nat=n.toNat:=rfl;rw [en];by_cases hn:n.toNat<l.length
    .have e1:(aI e l).getD n.toNat []=lq e (l.getD n.toNat (dflt e)):=by simp [aI,List.getD_eq_getElem?_getD,hn]
     have hty:(aS (gy e (l.getD n.toNat (dflt e))) off ps).map (·.t)=jr e:=by
      have e0:jr e=(jr e).take off++(((jr e).drop off).take i.size++(jr e).drop (off+i.size)):=by
       rw [<-List.drop_drop,J2,J2]
      simp only [aS,Xs,V0,Wo,uj,k2,hl,Wa];exact e0.symm
     have key:lq e (K_ e (Nat.beq i.size (size e)) (l.getD n.toNat (dflt e)) off ps)=aS ((aI e l).getD n.toNat []) off (ps.map dB):=by
      rw [e1];unfold K_;cases hc:Nat.beq i.size (size e) with
      |true=>
       have hc:=Q4 hc;have h0:off=0:=by omega
       subst h0;have e2:aS (gy e (l.getD n.toNat (dflt e))) 0 ps=ps:=by
        simp only [aS,List.take_zero,KS,Wm];rw [List.drop_of_length_le (by rw [qp];omega),Ki]
       have e3:aS (lq e (l.getD n.toNat (dflt e))) 0 (ps.map dB)=ps.map dB:=by
        rw [iw,<-qj,e2]
       rw [e2] at hty;rw [e3];exact rP hty
      |false=>
       simp only;rw [rP hty,qj,<-iw]
     rw [key]
    .have e1 :∀z,(aI e l).set n.toNat z=aI e l:=fun z=>List.set_eq_of_length_le (by rw [fK];omega);rw [e1,e1]
   .cases h
  .cases h
 .cases h
theorem Rk (x:Operand):ig tt ety d o f (.nilCheck x) ty:=by
 intro r h;simp only [dU] at h;split at h
 .rename_i x' hx;obtain ⟨hb,h⟩:=bQ h;simp only [Q0] at h;subst h;have hx':bn (f x)=.v (.one (bW x')):=by rw [hx];rfl
  simp only [kernel,hx'];rw [if_pos (Jj hb)];exact ⟨_,rfl,f_.pure _⟩
 .cases h
theorem Va {op:BinOp} {k k':IntKind} {a b:Int} {c:Bool×Wd} (h:U7 op k k' a b=some c):(c.1=true->P.Qg op (.int k a) (.int k' b))/\P.bin op (.int k a) (.int k' b)=dB c.2:=by
 unfold U7 at h;cases op<;>simp only at h
 case shl=>simp only [Q0] at h;subst h;exact ⟨fun h=>(by simpa using h:0<=b),rfl⟩
 case shr=>simp only [Q0] at h;subst h;exact ⟨fun h=>(by simpa using h:0<=b),rfl⟩
 all_goals
  split at h
  .cases h
  .rename_i p hp;obtain ⟨e⟩:=p;subst e;simp only [Q0] at h
   first
    |(cases h;done)
    |(
      
      subst h;refine ⟨fun h => ?_,?_⟩
      .first
       |exact rfl
       |(simp at h;exact ⟨rfl,h⟩)
      .first
       |rfl
       |(simp only [P.bin,jf,alY];congr 1))
theorem ZB (a b:List UInt8):(⟨a.toArray⟩++⟨b.toArray⟩:ByteArray)=⟨(a++b).toArray⟩:=by
 apply ByteArray.ext;simp [ByteArray.data_append]
theorem Ef (a:List UInt8):(⟨a.toArray⟩:ByteArray).toList=a:=by rw [ByteArray.toList_eq]
theorem Vb {op:BinOp} {a b:List UInt8} {c:Bool×Wd} (h:U8 op a b=some c):(c.1=true->P.Qg op (.str ⟨a.toArray⟩) (.str ⟨b.toArray⟩))/\P.bin op (.str ⟨a.toArray⟩) (.str ⟨b.toArray⟩)=dB c.2:=by
 unfold U8 at h;cases op<;>simp only [Q0] at h<;>try (cases h;done)
 all_goals subst h
 case add=>
  refine ⟨fun h => ?_,?_⟩
  .simp only [oL] at h;show a.toArray.size+b.toArray.size<=_;simp only [Kl];omega
  .simp only [P.bin,ZB];rfl
 all_goals exact ⟨fun _=>trivial,by simp only [P.bin,Ef];rfl⟩
theorem Rl {op:BinOp} {a b:Bool} {c:Bool×Wd} (h:OC op a b=some c):(c.1=true->P.NJ op (.bool a) (.bool b))/\P.bin op (.bool a) (.bool b)=dB c.2:=by
 unfold OC at h;cases op<;>simp only [Q0] at h<;>try (cases h;done)
 all_goals subst h
 .exact ⟨fun _=>.inl rfl,rfl⟩
 .exact ⟨fun _=>.inr rfl,rfl⟩
theorem f_.oM {c:Bool×Wd} {pre:Prop} {x:P} (h:c.1=true->pre) (hx:x=dB c.2):f_ (.oM c) (.calc pre x):=by
 subst hx;obtain ⟨c1,t,y⟩:=c;exact ⟨h,rfl,rfl,rfl⟩
theorem afp (a b:List UInt8):P.eqB (.str ⟨a.toArray⟩) (.str ⟨b.toArray⟩)=(a==b):=by
 show ((⟨a.toArray⟩:ByteArray)==⟨b.toArray⟩)=_;rw [beq_toListBytes,Ef,Ef]
theorem ab5 {k:TK} {x y:Wd} {b:Bool} (h:ajk k x y=some b):WE k (dB x) (dB y)/\P.eqB (dB x) (dB y)=b:=by
 unfold ajk at h;split at h
 .unfold ahO at h;split at h
  .rename_i p hp;obtain ⟨e⟩:=p;subst e;simp only [Q0] at h;subst h;exact ⟨rfl,rfl⟩
  .cases h
 .rename_i a b';simp only [eqStr,Q0] at h;subst h;exact ⟨trivial,afp a b'⟩
 .simp only [alW,Q0] at h;subst h;exact ⟨trivial,rfl⟩
 .cases h
theorem Ro {tt:TT} :∀(fs:List (Nat×TypeId)) (n:Nat) (xs ys:List TW) (b:Bool),Gy tt n fs xs ys=some b->∃c,nD tt n fs (xs.map bW) (ys.map bW)=some c/\c.1/\c.2=b
 | [],n,[],[],b,h=>by
  simp only [Gy,Q0] at h;subst h;exact ⟨(True,true),rfl,trivial,rfl⟩
 |(off,t)::fs,n,x::xs,y::ys,b,h=>by
  cases x with
  |p a1 i1 x=>cases y with
   |p a2 i2 y=>
    simp only [Gy] at h;split at h
    .rename_i i hi;cases hb:(Nat.beq off n&&i.k.flat&&Nat.beq i.size 1) with
     |false=>rw [hb] at h;cases h
     |true=>
      rw [hb] at h;simp only [cond_true] at h;split at h
      .rename_i b1 b2 h1 h2;simp only [Q0] at h;subst h;obtain ⟨c,e1,e2,e3⟩:=Ro fs (n+1) xs ys b2 h2;obtain ⟨q1,q2⟩:=ab5 h1;simp only [Qt] at hb;have hoff:off=n/\i.k.flat=true/\i.size=1:=⟨Q4 hb.1.1,hb.1.2,Q4 hb.2⟩;refine ⟨(WE i.k (dB x) (dB y)/\c.1,P.eqB (dB x) (dB y)&&c.2),?_,⟨q1,e2⟩,by rw [q2,e3]⟩;simp only [Qf,bW,nD,hi];rw [if_pos hoff,e1]
      .cases h
    .cases h
   |_=>simp [Gy] at h
  |_=>simp [Gy] at h
 | [],n,_::_,_,b,h=>by simp [Gy] at h
 | [],n,[],_::_,b,h=>by simp [Gy] at h
 |_::_,n,[],_,b,h=>by simp [Gy] at h
 |_::_,n,x::xs,[],b,h=>by cases x<;>simp [Gy] at h
theorem ab6 (op:BinOp) (t:TypeId) (x y:Operand) (u:TypeId):ig tt ety d o f (.binOp op t x y u) ty:=by
 intro r h;simp only [dU] at h;split at h
 .rename_i a1 i1 x' a2 i2 y' hx hy;have hx':bn (f x)=.v (.one (.p a1 i1 (dB x'))):=by rw [hx];rfl
  have hy':bn (f y)=.v (.one (.p a2 i2 (dB y'))):=by rw [hy];rfl
  split at h
  .rename_i i ht;split at h
   .rename_i c hc;simp only [Q0] at h;subst h;obtain ⟨ik,isz,ib,iz⟩:=i;simp only at hc;unfold alV at hc;split at hc
    .obtain ⟨k1,k2⟩:=Va hc;simp only [kernel,hx',hy',ht];exact ⟨_,rfl,f_.oM k1 k2⟩
    .obtain ⟨k1,k2⟩:=Vb hc;simp only [kernel,hx',hy',ht];exact ⟨_,rfl,f_.oM k1 k2⟩
    .obtain ⟨k1,k2⟩:=Rl hc;simp only [kernel,hx',hy',ht];exact ⟨_,rfl,f_.oM k1 k2⟩
    .cases hc
   .cases h
  .cases h
 .rename_i xs ys hx hy;have hx':bn (f x)=.v (.agg (xs.map bW)):=by rw [hx];rfl
  have hy':bn (f y)=.v (.agg (ys.map bW)):=by rw [hy];rfl
  split at h
  .rename_i i ht;have key :∀{b q:Bool} {v:Bool},Gy tt 0 i.k.parts xs ys=some b->ae3 op=some q->i.eq=true->v=(b==q)->∃r',kernel tt d (bZ o) (fun a=>bn (f a)) (.binOp op t x y u) ty=some r'/\f_ (.oM (true,jf v)) r':=by
    intro b q v h1 h2 h3 h4;obtain ⟨c,e1,e2,e3⟩:=Ro _ _ _ _ _ h1;simp only [kernel,hx',hy',ht,e1,h2];rw [if_pos h3];exact ⟨_,rfl,f_.oM (fun _=>e2) (by rw [e3,h4];rfl)⟩
   split at h
   .rename_i b h1 h2;cases h3:i.eq with
    |false=>rw [h3] at h;cases h
    |true=>
     rw [h3] at h;simp only [cond_true,Q0] at h;subst h;exact key (v:=b) h1 h2 h3 (by cases b<;>rfl)
   .rename_i b h1 h2;cases h3:i.eq with
    |false=>rw [h3] at h;cases h
    |true=>
     rw [h3] at h;simp only [cond_true,Q0] at h;subst h;exact key (v:=!b) h1 h2 h3 (by cases b<;>rfl)
   .cases h
  .cases h
 .cases h
theorem afq (op:UnOp) (t:TypeId) (x:Operand):ig tt ety d o f (.unOp op t x) ty:=by
 intro r h;simp only [dU] at h;split at h
 .rename_i a1 i1 x' hx;have hx':bn (f x)=.v (.one (.p a1 i1 (dB x'))):=by rw [hx];rfl
  split at h
  .rename_i c hc;simp only [Q0] at h;subst h;simp only [kernel,hx'];unfold unT at hc;split at hc
   .simp only [Q0] at hc;subst hc;exact ⟨_,rfl,f_.oM (fun _=>trivial) rfl⟩
   .simp only [Q0] at hc;subst hc;exact ⟨_,rfl,f_.oM (fun _=>trivial) rfl⟩
   .cases hc
  .cases h
 .cases h
theorem Vd (s t:TypeId) (x:Operand):ig tt ety d o f (.convert s t x) ty:=by
 intro r h;simp only [dU] at h;split at h
 .rename_i k0 s0 b0 z0 k s1 b1 z1 a1 i1 k2 x' hs ht hx;have hx':bn (f x)=.v (.one (.p a1 i1 (.int k2 x'))):=by rw [hx];rfl
  simp only [Q0] at h;subst h;simp only [kernel,hs,ht,hx'];exact ⟨_,rfl,⟨fun _=>trivial,rfl,rfl,rfl⟩⟩
 .rename_i e s0 b0 z0 s1 b1 z1 x' hs ht hx;have hx':bn (f x)=.v (.one (bW x')):=by rw [hx];rfl
  split at h
  .rename_i s2 b2 z2 he;split at h
   .rename_i l a1 i1 hr;simp only [Q0] at h;subst h;obtain ⟨ask,hr',hask⟩:=Rj hr;have hr':(bW x').rows (bZ o) 1=some (ask,aI (.int .u8) l,a1,i1):=hr';simp only [kernel,hs,ht,hx',he,hr'];refine ⟨_,rfl,⟨fun _=>⟨hask,fun r hr => ?_⟩,?_,rfl,rfl⟩⟩
    .simp only [aI,X1] at hr;obtain ⟨n,_,rfl⟩:=hr;exact ⟨n,rfl⟩
    .have e:Ib (aI (.int .u8) l)=dB ⟨.str,strOf l⟩:=by
      show P.str _=P.str _;congr 2;simp only [aI,Vv,strOf];congr 1
     show S.v (V.one (W.p false false (Ib (aI (.int .u8) l))))=_;rw [e];rfl
   .cases h
  .cases h
 .rename_i s0 b0 z0 e s1 b1 z1 a1 i1 x' hs ht hx;change List UInt8 at x';have hx':bn (f x)=.v (.one (.p a1 i1 (.str ⟨x'.toArray⟩))):=by rw [hx];rfl
  split at h
  .rename_i s2 b2 z2 he;simp only [Q0] at h;subst h;simp only [kernel,hs,ht,hx',he];refine ⟨_,rfl,⟨fun _=>trivial,?_,rfl,rfl⟩⟩;have e:NK (.str ⟨x'.toArray⟩)=dB ⟨.sl (.int .u8),ajj x'⟩:=by
    show P.gq 1 _=P.gq 1 _;have key :∀l:List UInt8,(l.map fun b=>[P.int .u8 (b.toNat:Int)])=aI (.int .u8) (ajj l):=by
     intro l
     induction l with
     |nil=>rfl
     |cons a l ih=>exact congrArg (List.cons _) ih
    exact congrArg (P.gq 1) (key x')
   show S.v (V.one (W.p false false (NK (.str ⟨x'.toArray⟩))))=_;rw [e];rfl
  .cases h
 .cases h
end
end Go.Fg

namespace Go.Fg
open Go.Fw
section
variable [RE] {o:Nat->TO} {tt:TT} {ety:TypeId->Option Ty} {d:Nat} {f:Operand->TS} {ty:TypeId}
theorem yc {k:IntKind} {n:Int} {m:Nat} (h:inB n m=true):inRange (.int k n) m:=by
 simp only [inB,Qt,decide_eq_true_eq] at h;exact h
theorem OJ (t:TypeId) (n c:Operand):ig tt ety d o f (.makeSlice t n c) ty:=by
 intro r h;simp only [dU] at h;split at h
 .rename_i e i1 i2 i3 a1 j1 n' a2 j2 c' ht hn hc;change Int at n';change Int at c';have hn':bn (f n)=.v (.one (.p a1 j1 (.int .i64 n'))):=by rw [hn];rfl
  have hc':bn (f c)=.v (.one (.p a2 j2 (.int .i64 c'))):=by rw [hc];rfl
  split at h
  .rename_i ie et he het;split at h
   .rename_i ps hp;obtain ⟨hb,h⟩:=bQ h;simp only [Q0] at h;subst h;obtain ⟨h1,h2⟩:=iJ hb;obtain ⟨k1,k2⟩:=xZ hp;have hsz:=Q4 h2;rw [rU] at k1;simp only [kernel,ht,hn',hc',he,k1];rw [if_pos (Jl h1)];refine ⟨_,rfl,⟨fun hp => ?_,rfl,?_,rfl⟩⟩
    .simp only [Cm,Qt,decide_eq_true_eq] at hp;obtain ⟨⟨⟨p1,p2⟩,p3⟩,p4⟩:=hp;refine ⟨n'.toNat,c'.toNat,by rw [UX p1],by rw [UX (by omega)],by omega,?_,by omega⟩;have e:((ie.bytes*c'.toNat:Nat):Int)=ie.bytes*c':=by rw [Int.natCast_mul,UX (by omega)]
     omega
    .simp only [P.list,iT,Qf,Vn,eF,hsz];have en:(P.int .i64 n').nat=n'.toNat:=rfl;rw [en];simp only [aI,List.map_replicate];rw [rP k2]
   .cases h
  .cases h
 .cases h
theorem nR {df:Int} {lo:Option Operand} {m:Int} (h:mY df (lo.map f)=some m):nG (.int .i64 df) (lo.map fun x=>bn (f x))=some (.int .i64 m):=by
 cases lo with
 |none=>simp only [Kh,mY,Q0] at h;subst h;rfl
 |some x=>
  simp only [Z3] at h ⊢;unfold mY at h;split at h
  .rename_i hh;cases hh
  .rename_i hh;simp only [Q0] at hh;cases h;rw [hh];rfl
  .cases h
theorem uD {lo hi:Int} {len:Nat} (h:Cj lo hi len=true) :∃m k:Nat,P.int .i64 lo=.int .i64 m/\P.int .i64 hi=.int .i64 k/\m<=k/\k<=len:=by
 simp only [Cj,Qt,decide_eq_true_eq] at h;exact ⟨lo.toNat,hi.toNat,by rw [UX (by omega)],by rw [UX (by omega)],by omega,by omega⟩
theorem Ve (y:List UInt8) (a b:Nat):(⟨y.toArray⟩:ByteArray).extract a b=⟨((y.take b).drop a).toArray⟩:=by
 apply ByteArray.ext;simp [ByteArray.data_extract,List.drop_take]
theorem ZC (t:TypeId) (x hi mx:Operand):ig tt ety d o f (.slice t x none (some hi) (some mx)) ty:=by
 intro r h;simp only [dU] at h;unfold Xc at h;split at h
 .rename_i e i1 i2 i3 g a1 j1 h' a2 j2 m' ht hx hh hm;change Int at h';change Int at m';have hx':bn (f x)=.v (.one (.own g)):=by rw [hx];rfl
  have hh':bn (f hi)=.v (.one (.p a1 j1 (.int .i64 h'))):=by rw [hh];rfl
  have hm':bn (f mx)=.v (.one (.p a2 j2 (.int .i64 m'))):=by rw [hm];rfl
  split at h
  .rename_i ie a i e' l he hg;obtain ⟨hb,h⟩:=bQ h;simp only [Q0] at h;subst h;have hg':bZ o g=.arr false a i (size e') (aI e' l):=by unfold bZ;rw [hg];rfl
   simp only [kernel,Bz,ht,hx',hh',hm',he,hg'];rw [if_pos (Q4 hb)];refine ⟨_,rfl,⟨fun hp => ?_,rfl,rfl,rfl⟩⟩;obtain ⟨k,j,q1,q2,q3,q4⟩:=uD hp;exact ⟨k,j,q1,q2,q3,by rw [fK];exact q4⟩
  .cases h
 .rename_i e i1 i2 i3 a1 j1 h' a2 j2 m' ht hx hh hm;change Int at h';change Int at m';have hx':bn (f x)=.v (.one .dF):=by rw [hx];rfl
  have hh':bn (f hi)=.v (.one (.p a1 j1 (.int .i64 h'))):=by rw [hh];rfl
  have hm':bn (f mx)=.v (.one (.p a2 j2 (.int .i64 m'))):=by rw [hm];rfl
  split at h
  .rename_i ie he;simp only [Q0] at h;subst h;simp only [kernel,Bz,ht,hx',hh',hm',he];refine ⟨_,rfl,⟨fun hp => ?_,rfl,rfl,rfl⟩⟩;obtain ⟨k,j,q1,q2,q3,q4⟩:=uD hp;have hj:j=0:=by omega
   have hk:k=0:=by omega
   subst hj;subst hk;exact ⟨q1,q2⟩
  .cases h
 .cases h
theorem ab7 (args:Array Operand) (ts:Array TypeId):ig tt ety d o f (.call { callee:=.builtin .clear,args:=args,argTypes:=ts }) ty:=by
 intro r h;simp only [dU] at h;split at h
 .rename_i x t tl ha hts;unfold abV at h;split at h
  .rename_i e i1 i2 i3 g lo hi ht hx;change Int at lo;change Int at hi;have hx':bn (f x)=.v (.one (.vw g (.int .i64 lo) (.int .i64 hi))):=by rw [hx];rfl
   split at h
   .rename_i ie a i et l he hg;obtain ⟨hb,h⟩:=bQ h;split at h
    .rename_i ps hp;simp only [Q0] at h;subst h;obtain ⟨h1,h2⟩:=iJ hb;obtain ⟨k1,k2⟩:=xZ hp;have hsz:=Q4 h1;rw [rU] at k1;have hg':bZ o g=.arr false a i (size et) (aI et l):=by unfold bZ;rw [hg];rfl
     simp only [kernel,ha,hts,NM,ht,hx',he,hg',k1];rw [if_pos ⟨hsz,by rw [hsz];exact Jl h2⟩];refine ⟨_,rfl,⟨fun hp=>W2 hp,rfl,?_,rfl⟩⟩;simp only [P.list,iT,Qf,Vn,eF];have e1:(P.int .i64 lo).nat=lo.toNat:=rfl;have e2:(P.int .i64 hi).nat=hi.toNat:=rfl;rw [e1,e2];simp only [aI,alU,aS,Xs,V0,Wo,List.map_replicate,UP];rw [rP k2]
    .cases h
   .cases h
  .cases h
 .cases h
theorem ab8 (t:TypeId) (x:Operand) (lo hi:Option Operand):ig tt ety d o f (.slice t x lo hi none) ty:=by
 intro r h;simp only [dU] at h;split at h
 .rename_i e i1 i2 i3 x' ht hx;have hx':bn (f x)=.v (.one (bW x')):=by rw [hx];rfl
  split at h
  .rename_i ie et len he het hlen;split at h
   .rename_i lo' hi' hlo hhi;obtain ⟨ask,hl,hask⟩:=Xd hlen;have Il:=nR hlo;have zY:=nR hhi;have en0:lY 0=P.int .i64 0:=rfl;simp only [kernel,ht,hx',he,hl,en0,Il,zY];split at h
    .rename_i g;split at h
     .rename_i e' l hg;obtain ⟨hb,h⟩:=bQ h;simp only [Q0] at h;subst h;simp only [bW,pF hg];rw [if_pos (Q4 hb)];refine ⟨_,rfl,⟨fun hp => ?_,rfl,rfl,rfl⟩⟩;exact uD hp
     .cases h
    .rename_i a i w;split at h
     .rename_i l hl';change List (Dt et) at l;obtain ⟨hb,h⟩:=bQ h;simp only [Q0] at h;subst h;have hsz:=Q4 hb;simp only [bW];refine ⟨_,rfl,⟨fun hp=>⟨hask,?_,?_⟩,?_,rfl,rfl⟩⟩
      .rw [h_ hl',<-hsz];exact Ji _ _
      .rw [h_ hl',jy,fK];exact uD hp
      .rw [h_ hl'];show S.v (V.one (W.p a i (P.sub ie.size (P.int .i64 lo').nat (P.int .i64 hi').nat (dB ⟨.sl et,l⟩))))=S.v (V.one (W.p a i (dB ⟨.sl et,List.drop lo'.toNat (List.take hi'.toNat l)⟩)));rw [P.sub,jy,rQ,<-hsz];rfl
     .cases h
    .simp only [Q0] at h;subst h;simp only [bW];refine ⟨_,rfl,⟨fun hp => ?_,rfl,rfl,rfl⟩⟩;obtain ⟨h1,h2⟩:=iJ hp;have h1:lo'=0:=by simpa using h1
     have h2:hi'=0:=by simpa using h2
     subst h1;subst h2;exact ⟨rfl,rfl⟩
    .cases h
   .cases h
  .cases h
 .rename_i s0 b0 z0 a1 i1 y ht hx;have hx':bn (f x)=.v (.one (.p a1 i1 (.str ⟨y.toArray⟩))):=by rw [hx];rfl
  change List UInt8 at y;split at h
  .rename_i lo' hi' hlo hhi;simp only [Q0] at h;subst h;have Il:=nR hlo;have zY:=nR hhi;have en0:lY 0=P.int .i64 0:=rfl;have el:(P.str ⟨y.toArray⟩).len=P.int .i64 (y.length:Nat):=by show P.int .i64 (y.toArray.size:Nat)=_;simp
   simp only [kernel,ht,hx',en0,el,Il,zY];refine ⟨_,rfl,⟨fun hp=>⟨trivial,?_⟩,?_,rfl,rfl⟩⟩
   .have:=uD hp;simpa [P.bytes,ByteArray.size] using this
   .show S.v (V.one (W.p false false (P.str ((⟨y.toArray⟩:ByteArray).extract lo'.toNat hi'.toNat))))=S.v (V.one (W.p false false (P.str ⟨(List.drop lo'.toNat (List.take hi'.toNat y)).toArray⟩)));rw [Ve]
  .cases h
 .cases h
theorem OL (t:TypeId) (x:Operand) (n:Nat):ig tt ety d o f (.fieldAddr t x n) ty:=by
 intro r h;simp only [dU] at h;split at h
 .rename_i fs i1 i2 i3 off' sz' x' ht hp hx;have hx':bn (f x)=.v (.one (bW x')):=by rw [hx];rfl
  obtain ⟨hb,h⟩:=bQ h;simp only [Q0] at h;subst h;obtain ⟨h1,h2⟩:=iJ hb;simp only [kernel,ht,hp,hx'];rw [if_pos ⟨Jl h1,Jj h2⟩];refine ⟨_,rfl,?_⟩;have:=f_.pure (.v (.one (x'.shift off')));simpa only [bn,jM,MB] using this
 .cases h
theorem ab9 (t:TypeId) (x:Operand) (n:Nat):ig tt ety d o f (.field t x n) ty:=by
 intro r h;simp only [dU] at h;split at h
 .rename_i fs i1 i2 i3 ws ht hx;have hx':bn (f x)=.v (.agg (ws.map bW)):=by rw [hx];rfl
  split at h
  .rename_i off u hf;split at h
   .rename_i iu hu;obtain ⟨hb,h⟩:=bQ h;simp only [Q0] at h;subst h;obtain ⟨h1,h2⟩:=iJ hb;simp only [kernel,ht,hx',hf,hu,ZD];rw [if_pos ⟨W2 h1,Jl h2⟩];refine ⟨_,rfl,?_⟩;have:=f_.pure (TV.gI iu.agg ((ws.drop off).take iu.size));rw [lu,V0,Wo] at this;exact this
   .cases h
  .cases h
 .cases h
theorem OM (t:TypeId) (x ix:Operand):abY tt ety d o f (.indexAddr t x ix) ty:=by
 intro r h;simp only [dU] at h;split at h
 .rename_i e i1 i2 i3 x' a1 j1 k n ht hx hn;change Int at n;have hx':bn (f x)=.v (.one (bW x')):=by rw [hx];rfl
  have hn':bn (f ix)=.v (.one (.p a1 j1 (.int k n))):=by rw [hn];rfl
  have en:(P.int k n).nat=n.toNat:=rfl;split at h
  .rename_i ie et g he het;split at h
   .rename_i e' l hg;obtain ⟨hb,h⟩:=bQ h;simp only [Q0] at h;subst h;simp only [kernel,ht,hx',hn',he,bW,pF hg];rw [if_pos (Q4 hb)];refine ⟨_,rfl,f_.toC ⟨fun hp => ?_,rfl,rfl,rfl⟩⟩;exact yc (k:=k) hp
   .cases h
  .rename_i ie et g lo hi he het;split at h
   .rename_i e' l hg;obtain ⟨hb,h⟩:=bQ h;simp only [Q0] at h;subst h;simp only [kernel,ht,hx',hn',he,bW,pF hg];rw [if_pos (Q4 hb)];exact ⟨_,rfl,f_.toC ⟨fun hp=>yc (k:=k) hp,rfl,rfl,rfl⟩⟩
   .cases h
  .rename_i ie et a i w he het;split at h
   .rename_i l hl;change List (Dt et) at l;obtain ⟨hb,h⟩:=bQ h;simp only [Q0] at h;subst h;have hsz:=Q4 hb;simp only [kernel,ht,hx',hn',he,bW];refine ⟨_,rfl,⟨fun hp=>⟨fun _=>⟨?_,?_⟩,?_,rfl,rfl⟩,rfl⟩⟩
    .rw [h_ hl,<-hsz];exact Ji _ _
    .rw [h_ hl,jy,fK];exact yc (k:=k) hp
    .have hlt:n.toNat<l.length:=by
      have hp:inB n l.length=true:=hp;simp only [inB,Qt,decide_eq_true_eq] at hp;omega
     rw [h_ hl];show S.v (V.one (W.sp a i ((dB ⟨.sl et,l⟩).list.getD (P.int k n).nat []) 0))=S.v (V.one (W.sp a i (lq et (List.getD l n.toNat (dflt et))) 0));rw [jy,en];simp [aI,List.getD_eq_getElem?_getD,hlt]
   .cases h
  .cases h
 .rename_i m e i1 i2 i3 g a1 j1 k n ht hx hn;change Int at n;have hx':bn (f x)=.v (.one (.gl g)):=by rw [hx];rfl
  have hn':bn (f ix)=.v (.one (.p a1 j1 (.int k n))):=by rw [hn];rfl
  split at h
  .rename_i ie et l he hg;obtain ⟨hb,h⟩:=bQ h;simp only [Q0] at h;subst h;obtain ⟨h1,h2⟩:=iJ hb;have h1:=Q4 h1;have h2:=Q4 h2;simp only [kernel,ht,hx',hn',he,ahM,hg,Z3];rw [if_pos ⟨h1,by rw [ZD];exact h2⟩];refine ⟨_,rfl,⟨fun hp=>⟨fun _=>yc (k:=k) hp,?_,rfl,rfl⟩,rfl⟩⟩;have hlt:n.toNat<l.length:=by
    have hp:inB n m=true:=hp;simp only [inB,Qt,decide_eq_true_eq] at hp;omega
   show S.v (V.one (W.sp false false ((List.map (lq et) l).getD (P.int k n).nat []) 0))=S.v (V.one (W.sp false false (lq et (List.getD l n.toNat (dflt et))) 0));have en:(P.int k n).nat=n.toNat:=rfl;rw [en];simp [List.getD_eq_getElem?_getD,hlt]
  .cases h
 .rename_i m e i1 i2 i3 x' a1 j1 k n hng ht hx hn;change Int at n;have hx':bn (f x)=.v (.one (bW x')):=by rw [hx];rfl
  have hn':bn (f ix)=.v (.one (.p a1 j1 (.int k n))):=by rw [hn];rfl
  split at h
  .rename_i ie he;obtain ⟨hb,h⟩:=bQ h;simp only [Q0] at h;subst h;obtain ⟨h1,h2⟩:=iJ hb;simp only [inB,Qt,decide_eq_true_eq] at h1;have hl:=Jj h2;have key :∃r',kernel tt d (bZ o) (fun x=>bn (f x)) (.indexAddr t x ix) ty=some r'/\r'=.pure (.v (.one ((bW x').shift (n.toNat*ie.size)))):=by
    cases x'<;>first
     |(cases h2;done)
     |(
       simp only [bW] at hx' hl ⊢;simp only [kernel,ht,hx',hn',he];rw [if_pos ⟨h1.1,h1.2,hl⟩];exact ⟨_,rfl,rfl⟩)
   obtain ⟨r',e1,rfl⟩:=key;refine ⟨_,e1,f_.toC ?_⟩;have:=f_.pure (.v (.one (x'.shift (n.toNat*ie.size))));simpa only [bn,jM,MB] using this
  .cases h
 .cases h
theorem ab_ (t:TypeId) (x ix:Operand):ig tt ety d o f (.index t x ix) ty:=by
 intro r h;simp only [dU] at h;split at h
 .rename_i i1 i2 i3 a1 j1 s a2 j2 k n ht hx hn;change List UInt8 at s;change Int at n;have hx':bn (f x)=.v (.one (.p a1 j1 (.str ⟨s.toArray⟩))):=by rw [hx];rfl
  have hn':bn (f ix)=.v (.one (.p a2 j2 (.int k n))):=by rw [hn];rfl
  simp only [Q0] at h;subst h;simp only [kernel,ht,hx',hn'];refine ⟨_,rfl,⟨fun hp=>⟨trivial,?_⟩,?_,rfl,rfl⟩⟩
  .have:(P.str ⟨s.toArray⟩).bytes.size=s.length:=by show s.toArray.size=_;simp
   rw [this];exact yc (k:=k) hp
  .have:(s.toArray.getD n.toNat 0)=s.getD n.toNat 0:=by simp [We,List.getD_eq_getElem?_getD]
   simp only [P.aht,this];rfl
 .cases h
theorem acd (t:TypeId) (x:Operand):ig tt ety d o f (.range t x) ty:=by
 intro r h;simp only [dU] at h;split at h
 .rename_i i1 i2 i3 a1 j1 s ht hx;change List UInt8 at s;have hx':bn (f x)=.v (.one (.p a1 j1 (.str ⟨s.toArray⟩))):=by rw [hx];rfl
  simp only [Q0] at h;subst h;simp only [kernel,ht,hx'];exact ⟨_,rfl,⟨fun _=>trivial,rfl,rfl,rfl⟩⟩
 .cases h
theorem Vf (t:Operand) (n:Nat):ig tt ety d o f (.extract t n) ty:=by
 intro r h;simp only [dU] at h;split at h
 .rename_i xs hx;have hx':bn (f t)=.jq (xs.map jM):=by rw [hx];rfl
  split at h
  .rename_i x hn;simp only [Q0] at h;subst h;simp only [kernel,hx',XS,hn,Z3];exact ⟨_,rfl,f_.pure _⟩
  .cases h
 .cases h
theorem Rq {F:Operand->Option TW} {G:Operand->Option W} (hFG :∀x w,F x=some w->G x=some (bW w)) :∀{xs:List Operand} {ws:List TW},xs.mapM F=some ws->xs.mapM G=some (ws.map bW)
 | [],ws,h=>by simp at h;subst h;rfl
 |x::xs,ws,h=>by
  simp only [v8,Option.bind_eq_bind,Option.bind_eq_some_iff] at h ⊢;obtain ⟨w,hw,ws',hws,h⟩:=h;cases h;exact ⟨bW w,hFG x w hw,ws'.map bW,Rq hFG hws,rfl⟩
theorem Ru (g:FuncId) (first caps:Array Operand):ig tt ety d o f (.makeFunc (.func g) first caps) ty:=by
 intro r h;simp only [dU] at h;obtain ⟨hb,h⟩:=bQ h;split at h
 .rename_i ws hw;simp only [Q0] at h;subst h;simp only [kernel];rw [if_pos (Q4 hb)];have key :∀{G:Operand->Option W},(∀x,G x=match bn (f x) with | .v (.one w)=>some w | _=>none)->caps.toList.mapM G=some (ws.map bW):=by
   intro G hG;refine Rq (fun x w hx => ?_) hw;rw [hG];split at hx
   .rename_i hf;cases hx;rw [hf];rfl
   .cases hx
  split
  .rename_i ws' hw';have e:=hw'.symm.trans (key fun x=>rfl);simp only [Q0] at e;subst e;refine ⟨_,rfl,?_⟩;have:=f_.pure (.v (.one (.clo g ws)));simpa only [bn,jM,bW,y7] using this
  .rename_i hw';exact nomatch hw'.symm.trans (key fun x=>rfl)
 .cases h
theorem ajn (args:Array Operand) (ts:Array TypeId):ig tt ety d o f (.call { callee:=.builtin .len,args:=args,argTypes:=ts }) ty:=by
 intro r h;simp only [dU] at h;split at h
 .rename_i x t ha hts;split at h
  .rename_i e i1 i2 i3 x' ht hx;have hx':bn (f x)=.v (.one (bW x')):=by rw [hx];rfl
   split at h
   .rename_i n hn;simp only [Q0] at h;subst h;obtain ⟨ask,hl,hask⟩:=Xd hn;simp only [kernel,ha,hts,ht,hx',hl];exact ⟨_,rfl,⟨fun _=>hask,rfl,rfl,rfl⟩⟩
   .cases h
  .rename_i i1 i2 i3 a1 j1 s ht hx;change List UInt8 at s;have hx':bn (f x)=.v (.one (.p a1 j1 (.str ⟨s.toArray⟩))):=by rw [hx];rfl
   simp only [Q0] at h;subst h;simp only [kernel,ha,hts,ht,hx'];refine ⟨_,rfl,⟨fun _=>trivial,?_,rfl,rfl⟩⟩;have:(P.str ⟨s.toArray⟩).len=.int .i64 s.length:=by show P.int .i64 (s.toArray.size:Nat)=_;simp
   simp only [this];rfl
  .cases h
 .cases h
theorem ajo (args:Array Operand) (ts:Array TypeId):ig tt ety d o f (.call { callee:=.builtin .min,args:=args,argTypes:=ts }) ty:=by
 intro r h;simp only [dU] at h;split at h
 .rename_i x y ha;split at h
  .rename_i a1 j1 k x' a2 j2 k2 y' hx hy;have hx':bn (f x)=.v (.one (.p a1 j1 (.int k x'))):=by rw [hx];rfl
   have hy':bn (f y)=.v (.one (.p a2 j2 (.int k2 y'))):=by rw [hy];rfl
   simp only [Q0] at h;subst h;simp only [kernel,ha,hx',hy'];exact ⟨_,rfl,⟨fun _=>⟨trivial,trivial⟩,rfl,rfl,rfl⟩⟩
  .cases h
 .rename_i x y z ha;split at h
  .rename_i a1 j1 k x' a2 j2 k2 y' a3 j3 k3 z' hx hy hz;have hx':bn (f x)=.v (.one (.p a1 j1 (.int k x'))):=by rw [hx];rfl
   have hy':bn (f y)=.v (.one (.p a2 j2 (.int k2 y'))):=by rw [hy];rfl
   have hz':bn (f z)=.v (.one (.p a3 j3 (.int k3 z'))):=by rw [hz];rfl
   simp only [Q0] at h;subst h;simp only [kernel,ha,hx',hy',hz'];exact ⟨_,rfl,⟨fun _=>⟨trivial,trivial,trivial⟩,rfl,rfl,rfl⟩⟩
  .cases h
 .cases h
theorem ajp (args:Array Operand) (ts:Array TypeId):ig tt ety d o f (.call { callee:=.builtin .max,args:=args,argTypes:=ts }) ty:=by
 intro r h;simp only [dU] at h;split at h
 .rename_i x y ha;split at h
  .rename_i a1 j1 k x' a2 j2 k2 y' hx hy;have hx':bn (f x)=.v (.one (.p a1 j1 (.int k x'))):=by rw [hx];rfl
   have hy':bn (f y)=.v (.one (.p a2 j2 (.int k2 y'))):=by rw [hy];rfl
   simp only [Q0] at h;subst h;simp only [kernel,ha,hx',hy'];exact ⟨_,rfl,⟨fun _=>⟨trivial,trivial⟩,rfl,rfl,rfl⟩⟩
  .cases h
 .rename_i x y z ha;split at h
  .rename_i a1 j1 k x' a2 j2 k2 y' a3 j3 k3 z' hx hy hz;have hx':bn (f x)=.v (.one (.p a1 j1 (.int k x'))):=by rw [hx];rfl
   have hy':bn (f y)=.v (.one (.p a2 j2 (.int k2 y'))):=by rw [hy];rfl
   have hz':bn (f z)=.v (.one (.p a3 j3 (.int k3 z'))):=by rw [hz];rfl
   simp only [Q0] at h;subst h;simp only [kernel,ha,hx',hy',hz'];exact ⟨_,rfl,⟨fun _=>⟨trivial,trivial,trivial⟩,rfl,rfl,rfl⟩⟩
  .cases h
 .cases h
theorem yg (e:Ty) (a b:List (Dt e)):aI e (a++b)=aI e a++aI e b:=by simp [aI]
theorem Vg {sT:TypeId} {s x:TW} {r:qY} (h:OD tt ety d o sT s x=some r) :∃r',vC tt d (bZ o) sT (bW s) (bW x)=some r'/\f_ r r':=by
 simp only [OD] at h;split at h
 .rename_i e i1 i2 i3 ht;split at h
  .rename_i ie et he het;cases hb:(Nat.beq ie.bytes 0||!Nat.beq (size et) ie.size) with
   |true=>rw [hb] at h;cases h
   |false=>
    rw [hb,cond_false] at h;simp only [VV,qb] at hb;have hsz:=Q4 hb.2;have hb0:¬ ie.bytes=0:=fun e=>by rw [e] at hb;cases hb.1
    split at h
    .cases h
    .rename_i new a' i' hrow;obtain ⟨ask,hr,hask⟩:=Rj hrow;rw [hsz] at hr;simp only [vC,ht,he,if_neg hb0,hr];have key :∀(pre:Bool) (pre':Prop) (old:List (Dt et)) (a i:Bool) (kill:List (Nat×TO)),(pre=true->pre')->
       f_ { pre:=pre&&decide ((old.length+new.length)*ie.bytes<=140737488355328),t:=.sl et,val:=List.append old new,dst:=fun _=>.v (.one (.own d)),aK:=fun y=>kill++[(d,.arr false (a||a') (i||i') et y)],new:=[d] }
        (.mk (ask/\pre'/\((aI et old).length+(aI et new).length)*ie.bytes<=140737488355328) (.sl ie.size (aI et old++aI et new)) (fun _=>.v (.one (.own d)))
         (fun y=>iT kill++[(d,.arr false (a||a') (i||i') ie.size y.list)]) [d]):=by
      intro pre pre' old a i kill hpre;refine ⟨fun hp => ?_,rfl,?_,rfl⟩
      .obtain ⟨h1,h2⟩:=iJ hp;refine ⟨hask,hpre h1,?_⟩;rw [fK,fK];simpa using h2
      .simp only [lC];congr 1;simp only [P.list,iT,Qf,Vn,eF,hsz];rw [<-yg];rfl
     split at h
     .simp only [Q0] at h;subst h;exact ⟨_,rfl,key true True [] false false [] fun _=>trivial⟩
     .rename_i g;split at h
      .rename_i a i e' l hg;split at h
       .rename_i l' hl;cases hgd:Nat.beq g d with
        |true=>rw [hgd] at h;cases h
        |false=>
         rw [hgd,cond_false] at h;simp only [Q0] at h;subst h;obtain ⟨ee,hl⟩:=oP hl;cases ee;subst hl;simp only [bW,iy hg];rw [if_pos ⟨hsz,fun e=>by subst e;simp at hgd⟩];exact ⟨_,rfl,key true True _ a i [(g,.none)] fun _=>trivial⟩
       .cases h
      .cases h
     .rename_i g lo hi;split at h
      .rename_i a i e' l hg;split at h
       .rename_i l' hl;cases hgd:Nat.beq g d with
        |true=>rw [hgd] at h;cases h
        |false=>
         rw [hgd,cond_false] at h;simp only [Q0] at h;subst h;obtain ⟨ee,hl⟩:=oP hl;cases ee;subst hl;simp only [bW,iy hg,vW];rw [if_pos ⟨hsz,fun e=>by subst e;simp at hgd⟩];refine ⟨_,rfl,key (decide (lo=0)) (P.int .i64 lo=lY 0) (l.take hi.toNat) a i [(g,.none)] fun h => ?_⟩;have h:lo=0:=by simpa using h
         subst h;rfl
       .cases h
      .cases h
     .cases h
  .cases h
 .cases h
theorem ZE (args:Array Operand) (ts:Array TypeId):ig tt ety d o f (.call { callee:=.builtin .append,args:=args,argTypes:=ts }) ty:=by
 intro r h;simp only [dU] at h;split at h
 .rename_i s x sT xT rest ha hts;split at h
  .rename_i e i1 i2 i3 s' x' ht hs hx;have hs':bn (f s)=.v (.one (bW s')):=by rw [hs];rfl
   have hx':bn (f x)=.v (.one (bW x')):=by rw [hx];rfl
   simp only [kernel,ha,hts,ht,hs',hx'];exact Vg h
  .cases h
 .cases h
theorem Vh (op:Op):abY tt ety d o f op ty:=by
 cases op
 case move x=>exact ig.toC (afk x)
 case assign x=>exact ig.toC (ZA x)
 case pick c x y=>exact ig.toC (afl c x y)
 case alloc t=>exact ig.toC (ab1 t)
 case box t x=>exact ig.toC (ajm t x)
 case build t ps=>exact ig.toC (ab2 t ps)
 case buildSlice t n ps=>exact ig.toC (Lc t n ps)
 case load t x=>exact ig.toC (afn t x)
 case store t x y=>exact ig.toC (ab4 t x y)
 case nilCheck x=>exact ig.toC (Rk x)
 case binOp op t x y u=>exact ig.toC (ab6 op t x y u)
 case unOp op t x=>exact ig.toC (afq op t x)
 case convert s t x=>exact ig.toC (Vd s t x)
 case makeSlice t n c=>exact ig.toC (OJ t n c)
 case slice t x lo hi mx=>
  cases mx with
  |none=>exact ig.toC (ab8 t x lo hi)
  |some m=>cases lo with
   |some l=>intro r h;simp [dU] at h
   |none=>cases hi with
    |none=>intro r h;simp [dU] at h
    |some hi=>exact ig.toC (ZC t x hi m)
 case fieldAddr t x n=>exact ig.toC (OL t x n)
 case field t x n=>exact ig.toC (ab9 t x n)
 case indexAddr t x ix=>exact OM t x ix
 case index t x ix=>exact ig.toC (ab_ t x ix)
 case range t x=>exact ig.toC (acd t x)
 case extract t n=>exact ig.toC (Vf t n)
 case makeFunc fn first caps=>
  cases fn
  case func g=>exact ig.toC (Ru g first caps)
  all_goals (intro r h;simp [dU] at h)
 case call c=>
  obtain ⟨callee,args,ts⟩:=c;cases callee
  case builtin b=>
   cases b
   case len=>exact ig.toC (ajn args ts)
   case append=>exact ig.toC (ZE args ts)
   case clear=>exact ig.toC (ab7 args ts)
   case min=>exact ig.toC (ajo args ts)
   case max=>exact ig.toC (ajp args ts)
   all_goals (intro r h;simp [dU] at h)
  all_goals (intro r h;simp [dU] at h)
 all_goals (intro r h;simp [dU] at h)
end
end Go.Fg

namespace Go.Fg
open Go.Fw
section
variable [RE]
def wdF:Wd:=⟨.bool,false⟩
def placesOf:Ty->List Nat
 |.prod (.st c) r=>c::placesOf r
 |_=>[]
def Vj (et:Ty):List Nat->List (Nat×Ty)
 | []=>[]
 |c::cs=>match (jr et)[c]? with
  |some (.sl t)=>(c,t)::Vj et cs
  |_=>Vj et cs
def ace (ety:TypeId->Option Ty) (e:TypeId) (et:Ty):List (Nat×Ty):=match ety (1000000+e) with
 |some t=>Vj et (placesOf t)
 |none=>[]
def y8 (aj:List (Nat×Ty)) (off n:Nat):List (Nat×Ty):=match aj with
 | []=>[]
 |(c,t)::r=>match Nat.ble off c&&Nat.blt c (off+n) with
  |true=>(c,t)::y8 r off n
  |false=>y8 r off n
def yh (o:Nat->TO) (g:Nat):Option TH:=match o g with
 |.aO a i e aj l hole=>match hole with
  |none=>some ⟨a,i,e,aj,l⟩
  |some (n,c,d)=>match o d with
   |.arr false a' i' e' l'=>match Zx e aj c e' with
    |true=>some ⟨a||a',i||i',e,aj,putRow e l n c (um e' l')⟩
    |false=>none
   |_=>none
 |_=>none
def alZ:TO->Bool
 |.arr fz _ _ _ _=>!fz
 |_=>false
def lD:List Nat->List (Nat×TO)
 | []=>[]
 |g::gs=>(g,.none)::lD gs
def cellT (e:Ty) (x:Dt e) (c:Nat) (e':Ty):List (Dt e'):=((gy e x).getD c wdF).as (.sl e')
def OO (o:Nat->TO) (col:Nat->Option Ty):Nat->List Ty->List TW->Option (List Wd×Bool×Bool×List Nat×List (Nat×Nat))
 |_,[],[]=>some ([],false,false,[],[])
 |j,t::ts,x::xs=>match OO o col (j+1) ts xs with
  |none=>none
  |some (ys,a',i',gs',es)=>match col j with
   |none=>match x.toP o t with
    |some (y,a,i,gs)=>some (⟨t,y⟩::ys,a||a',i||i',gs++gs',es)
    |none=>none
   |some s=>match tyB t (.sl s) with
    |true=>match x with
     |.dF=>some (um s []::ys,a',i',gs',es)
     |.own e=>match o e with
      |.arr false a i s' l=>match (um s' l).Bh (.sl s) with
       |some l=>some (um s l::ys,a||a',i||i',gs',(j,e)::es)
       |none=>none
      |_=>none
     |_=>none
    |false=>none
 |_,_,_=>none
def FQ:List (Nat×Ty)->List (Nat×Ty)->Bool
 | [],[]=>true
 |(c,t)::r,(c',t')::r'=>Nat.beq c c'&&tyB t t'&&FQ r r'
 |_,_=>false
def Rw (o:Nat->TO) (et:Ty) (aj:List (Nat×Ty)):TW->Option (Bool×Bool×Bool×List (Dt et)×List Nat)
 |.dF=>some (true,false,false,[],[])
 |.own g=>match yh o g with
  |some ⟨a,i,e,kJ,l⟩=>match (um e l).Bh (.sl et),FQ kJ aj with
   |some l,true=>some (true,a,i,l,g::lT (o g))
   |_,_=>none
  |none=>none
 |.vw g lo hi=>match yh o g with
  |some ⟨a,i,e,kJ,l⟩=>match (um e (l.take hi.toNat)).Bh (.sl et),FQ kJ aj with
   |some l,true=>some (decide (lo=0),a,i,l,g::lT (o g))
   |_,_=>none
  |none=>none
 |_=>none
def vX:Ty:=.st RE.hd
def ZF (n:Nat):List (Dt vX):=List.replicate n (dflt vX)
def OQ (tt:TT) (o:Nat->TO) (f:Operand->TS) (t:TypeId) (x:Operand):Option qY:=match tt t,f x with
 |some i,.v (.one (.ep g n off))=>match yh o g with
  |some ⟨a,i',e,aj,l⟩=>match uq off aj with
   |some e'=>bif Zx e aj off e'&&(Nat.beq i.size 1&&!i.agg)&&sZ (((gy e (dflt e)).drop off).take i.size) i.zero then
     some { pre:=true,t:=.sl vX,val:=ZF (List.length (α:=Dt e') (cellT e (l.getD n.toNat (dflt e)) off e')),dst:=fun z=>.v (.one (.p false false ⟨.sl vX,z⟩)),aK:=fun _=>[],new:=[] } else none
   |none=>none
  |none=>none
 |_,_=>none
def jD (tt:TT) (ety:TypeId->Option Ty) (d:Nat) (o:Nat->TO) (f:Operand->TS) (op:Op) (ty:TypeId):Option qY:=
 match op with
 |.load t x=>match ety (3000000+d) with
  |some _=>OQ tt o f t x
  |none=>match tt t,f x with
  |some i,.v (.one (.ep g n off))=>match o g with
   |.aO a0 i0 e0 kQ l0 _=>bif Nat.ble (off+i.size) (size e0)&&Nat.blt 0 i.size&&sZ (((gy e0 (dflt e0)).drop off).take i.size) i.zero then
     match y8 kQ off i.size with
     | []=>some { pre:=true,t:=e0,val:=l0.getD n.toNat (dflt e0),dst:=fun z=>TV.gI i.agg (tpw a0 i0 (((gy e0 z).drop off).take i.size)),aK:=fun _=>[],new:=[] }
     | [(c,e')]=>match yh o g with
      |some ⟨a,i',e,aj,l⟩=>match Zx e aj c e'&&Nat.ble (off+i.size) (size e)&&sZ (((gy e (dflt e)).drop off).take i.size) i.zero with
       |true=>some { pre:=true,t:=.sl e,val:=l,dst:=fun (y:List (Dt e))=>TV.gI i.agg ((tpw a i' (((gy e (y.getD n.toNat (dflt e))).drop off).take i.size)).set (c-off) (.own d)),aK:=fun (y:List (Dt e))=>(g,.aO a i' e aj y (some (n.toNat,c,d)))::(d,.arr false a i' e' (cellT e (y.getD n.toNat (dflt e)) c e'))::lD (lT (o g)),new:=[d] }
       |false=>none
      |none=>none
     |_=>none
     else none
   |_=>none
  |_,_=>none
 |.store t x y=>match tt t,f x,f y with
  |some i,.v (.one (.ep g n off)),.v y=>match o g with
   |.aO a0 i0 e0 aj l0 hole=>match OO o (fun j=>uq j aj) off (((jr e0).drop off).take i.size) y.words with
    |some (ps,a',i',gs,es)=>bif Nat.ble (off+i.size) (size e0)&&Nat.beq y.words.length i.size&&y.solid&&!fZ g gs&&sJ (es.map (·.2))&&DX (es.map (·.2)) gs then
      let res (pre:Bool) (a i1:Bool) (e:Ty) (l:List (Dt e)) (ji:Option (Nat×Nat×Nat)) (ks:List Nat):qY:=
       { pre,t:=.sl e,val:=List.set l n.toNat (K_ e (Nat.beq i.size (size e)) (l.getD n.toNat (dflt e)) off ps),dst:=fun _=>.no,aK:=fun z=>(g,.aO (a||a') (i1||i') e aj z ji)::lD (es.map (·.2))++lD ks++gs.map (lK o),new:=[] }
      match y8 aj off i.size with
      | []=>some (res true a0 i0 e0 l0 hole [])
      |_::_=>match hole with
       |none=>some (res true a0 i0 e0 l0 none [])
       |some (n0,c0,d0)=>match yh o g with
        |some ⟨a,i1,e,kJ,l⟩=>match !fZ d0 (es.map (·.2))&&!fZ d0 gs with
         |true=>match tyB e e0 with
          |true=>some (res true a i1 e l none [d0])
          |false=>none
         |false=>bif Nat.ble off c0&&Nat.blt c0 (off+i.size) then some (res (Nat.beq n0 n.toNat) a0 i0 e0 l0 none []) else none
        |none=>match alZ (o d0) with
         |true=>none
         |false=>bif Nat.ble off c0&&Nat.blt c0 (off+i.size) then some (res (Nat.beq n0 n.toNat) a0 i0 e0 l0 none []) else none
      else none
    |none=>none
   |_=>none
  |_,_,_=>none
 |.buildSlice t n parts=>match tt t with
  |some { k:=.slice e,.. }=>match tt e,ety e with
   |some ie,some et=>match ace ety e et with
    | []=>none
    |zG::D5=>match Ci (fun m=>if m<n then some (m*ie.size,ie.size) else none) (Jf (ie.zero.map Zw) n) (parts.toList.map fun p=>(p.1,f p.2)) with
     |some ws=>match OO o (fun j=>uq (j % ie.size) (zG::D5)) 0 (Jf (jr et) n) ws with
      |some (ps,a,i,gs,es)=>bif Nat.ble (n+n*ie.size) 16777216&&Nat.beq (size et) ie.size&&sJ (es.map (·.2))&&DX (es.map (·.2)) gs then
        some { pre:=true,t:=.sl et,val:=CJ et n ps,dst:=fun _=>.v (.one (.own d)),aK:=fun y=>(d,.aO a i et (zG::D5) y none)::lD (es.map (·.2))++gs.map (lK o),new:=[d] } else none
      |none=>none
     |none=>none
   |_,_=>none
  |_=>none
 |.makeSlice t n c=>match tt t,f n,f c with
  |some { k:=.slice e,.. },.v (.one (.p _ _ ⟨.int .i64,n⟩)),.v (.one (.p _ _ ⟨.int .i64,c⟩))=>match tt e,ety e with
   |some ie,some et=>match ace ety e et with
    | []=>none
    |zG::D5=>match OO o (fun j=>uq j (zG::D5)) 0 (jr et) (ie.zero.map Zw) with
     |some (ps,false,false,[],[])=>bif Nat.blt 0 ie.size&&Nat.beq (size et) ie.size then
      some { pre:=Cm ie.bytes n c,t:=.sl et,val:=List.replicate (Int.toNat n) (kK et ps),dst:=fun _=>.v (.one (.own d)),aK:=fun y=>[(d,.aO false false et (zG::D5) y none)],new:=[d] } else none
     |_=>none
   |_,_=>none
  |_,_,_=>none
 |.call { callee:=.builtin .append,args,argTypes }=>match args.toList,argTypes.toList with
  | [s,x],sT::xT::_=>match tt sT,tt xT,f s,f x with
   |some { k:=.slice e,.. },some { k:=.slice _,.. },.v (.one s),.v (.one (.own g2))=>match tt e,yh o g2 with
    |some ie,some ⟨a2,i2,et,aj,new⟩=>match Rw o et aj s with
     |some (pre,a,i,old,ks)=>bif !Nat.beq ie.bytes 0&&Nat.beq (size et) ie.size&&sJ (ks++g2::lT (o g2)) then
       some { pre:=pre&&decide ((old.length+new.length)*ie.bytes<=140737488355328),t:=.sl et,val:=List.append old new,dst:=fun _=>.v (.one (.own d)),aK:=fun y=>(d,.aO (a||a2) (i||i2) et aj y none)::lD (ks++g2::lT (o g2)),new:=[d] } else none
     |none=>none
    |_,_=>none
   |_,_,_,_=>none
  |_,_=>none
 |.slice t x none hi none=>match ety 2000000 with
  |none=>none
  |some _=>match tt t,f x with
   |some { k:=.slice e,.. },.v (.one (.own g))=>match tt e,o g with
    |some ie,.arr false a i et l=>bif Nat.beq (size et) ie.size then match mY (List.length (α:=Dt et) l) (hi.map f) with
     |some hi=>some { pre:=decide (0<=hi)&&decide (hi<=(List.length (α:=Dt et) l:Int)),t:=.sl et,val:=List.take (α:=Dt et) hi.toNat l,dst:=fun _=>.v (.one (.own d)),aK:=fun y=>[(d,.arr false a i et y),(g,.none)],new:=[d] }
     |none=>none
     else none
    |_,_=>none
   |_,_=>none
 |_=>none
section
variable {o:Nat->TO} {tt:TT} {ety:TypeId->Option Ty} {d:Nat} {f:Operand->TS} {ty:TypeId}
theorem qM (off n:Nat) :∀(aj:List (Nat×Ty)),nK (jd aj) off n=jd (y8 aj off n)
 | []=>rfl
 |(c,t)::r=>by
  have ih:=qM off n r;simp only [nK,jd,Qf,vl,y8] at ih ⊢;cases hb:(Nat.ble off c&&Nat.blt c (off+n)) with
  |true=>simp only [if_true,Qf,ih]
  |false=>simp only [W3,if_false,ih]
theorem Eh (c:Nat) (aj:List (Nat×Ty)):(jd aj).lookup c=(uq c aj).map size:=by
 cases h:uq c aj with
 |none=>exact Jg h
 |some t=>exact Ec h
theorem qw (g:Nat) (x:TO) (r:List (Nat×TO)):iT ((g,x)::r)=(g,eF x)::iT r:=rfl
theorem qx :∀(gs:List Nat),iT (lD gs)=kills gs
 | []=>rfl
 |g::gs=>by
  show (g,O.none)::iT (lD gs)=(g,O.none)::kills gs;rw [qx gs]
theorem qy {g:Nat} {a i:Bool} {e:Ty} {aj:List (Nat×Ty)} {l:List (Dt e)} (h:yh o g=some ⟨a,i,e,aj,l⟩):jI (bZ o) g=some (a,i,size e,jd aj,aI e l)/\(bZ o g).hn=lT (o g):=by
 unfold yh at h;cases ho:o g with
 |aO a0 i0 e0 kQ l0 hole=>
  rw [ho] at h;have hg:bZ o g=.aO a0 i0 (size e0) (jd kQ) (aI e0 l0) hole:=by simp [bZ,ho,eF]
  rcases hole with _ | ⟨n,c,d⟩
  .cases h;exact ⟨by simp [jI,hg],by rw [hg];rfl⟩
  .simp only at h;cases hd:o d with
   |arr fz a' i' e' l'=>
    rw [hd] at h;cases fz with
    |true=>cases h
    |false=>
     simp only at h;split at h
     .rename_i hc;cases h;obtain ⟨k1,k2,k3⟩:=uw hc;refine ⟨?_,by rw [hg];rfl⟩;simp only [jI,hg,iy hd];rw [if_pos ⟨k1,k3⟩,Ap k2]
     .cases h
   |_=>rw [hd] at h;cases h
 |_=>rw [ho] at h;cases h
theorem Vk {g n c d0:Nat} {a0 i0:Bool} {e0:Ty} {aj:List (Nat×Ty)} {l0:List (Dt e0)} (hog:o g=.aO a0 i0 e0 aj l0 (some (n,c,d0))) (h:alZ (o d0)=false):jI (bZ o) g=none:=by
 have hg:bZ o g=.aO a0 i0 (size e0) (jd aj) (aI e0 l0) (some (n,c,d0)):=by simp [bZ,hog,eF]
 simp only [jI,hg];cases hd:o d0 with
 |arr fz a i e l=>
  rw [hd] at h;cases fz with
  |true=>simp [bZ,hd,eF]
  |false=>cases h
 |_=>simp [bZ,hd,eF]
theorem Rx {e e':Ty} {x:Dt e} {c:Nat} (hc:(jr e)[c]?=some (.sl e')):(lq e x)[c]?=some (dB ⟨.sl e',cellT e x c e'⟩):=by
 rw [iw,XS];have hlt:c<(gy e x).length:=by rw [qp,<-jY];exact (Q3.1 hc).1
 rw [Q2 hlt,Z3];have ht:((gy e x)[c]).t=.sl e':=by
  have:=uj e x;have h2:=congrArg (fun l=>l[c]?) this;simp only [XS,Q2 hlt,Z3,hc,Q0] at h2;exact h2
 have hg:(gy e x).getD c wdF=(gy e x)[c]:=by rw [List.getD_eq_getElem?_getD,Q2 hlt];rfl
 unfold cellT;rw [hg,wO ht]
theorem CP {col:Nat->Option Ty} {col':Nat->Option Nat} (ae8 :∀j,col' j=(col j).map size) :∀{ts:List Ty} {xs:List TW} {j:Nat} {ys:List Wd} {a i:Bool} {gs:List Nat} {es:List (Nat×Nat)},OO o col j ts xs=some (ys,a,i,gs,es)->
  Qb (bZ o) col' j (xs.map bW)=some (ys.map dB,a,i,gs,es)/\ys.map (·.t)=ts/\Pl o gs
 | [],[],j,ys,a,i,gs,es,h=>by
  simp only [OO,Q0,Q1] at h;obtain ⟨rfl,rfl,rfl,rfl,rfl⟩:=h;exact ⟨rfl,rfl,Pl.nil⟩
 | [],x::xs,j,ys,a,i,gs,es,h=>by simp [OO] at h
 |t::ts,[],j,ys,a,i,gs,es,h=>by simp [OO] at h
 |t::ts,x::xs,j,ys,a,i,gs,es,h=>by
  simp only [OO] at h;split at h
  .cases h
  .rename_i ys' a' i' gs' es' h2;obtain ⟨k1,k2,k3⟩:=CP ae8 h2;simp only [Qf,Qb,k1,ae8 j];cases hc:col j with
   |none=>
    rw [hc] at h;simp only at h;split at h
    .rename_i h1;simp only [Q0,Q1] at h;obtain ⟨rfl,rfl,rfl,rfl,rfl⟩:=h;refine ⟨by simp only [Kh,OE h1,Qf],by simp only [Qf,k2],(U9 h1).append k3⟩
    .cases h
   |some s=>
    rw [hc] at h;simp only at h;split at h
    .rename_i hts;have hts:=xY hts;split at h
     .simp only [Q0,Q1] at h;obtain ⟨rfl,rfl,rfl,rfl,rfl⟩:=h;exact ⟨by simp only [Z3,bW,Qf];rfl,by simp only [Qf,k2,hts];rfl,k3⟩
     .rename_i e;split at h
      .rename_i a1 i1 s' l hoe;split at h
       .rename_i l1 hl;simp only [Q0,Q1] at h;obtain ⟨rfl,rfl,rfl,rfl,rfl⟩:=h;obtain ⟨he,hl⟩:=oP hl;cases he;subst hl;refine ⟨?_,by simp only [Qf,k2,hts];rfl,k3⟩;simp only [Z3,bW,iy hoe,if_true,Qf];rfl
       .cases h
      .cases h
     .cases h
    .cases h
def Jm (tt:TT) (ety:TypeId->Option Ty) (d:Nat) (o:Nat->TO) (f:Operand->TS) (op:Op) (ty:TypeId):Prop:=
 ∀r,jD tt ety d o f op ty=some r->∃dc r',dW tt dc d (bZ o) (fun x=>bn (f x)) op ty=some r'/\f_ r r'
theorem MC {i:TI} {e e':Ty} {l:List (Dt e)} {n off c:Nat} (hz:sZ (((gy e (dflt e)).drop off).take i.size) i.zero=true) (c2:(jr e)[c]?=some (.sl e')) (hc1:off<=c) (hc2:c<off+i.size) :
  (((aI e l).getD n []).getD c default).list=aI e' (cellT e (l.getD n (dflt e)) c e'):=by
 by_cases hn:n<l.length
 .have e1:(aI e l).getD n []=lq e (l.getD n (dflt e)):=by simp [aI,List.getD_eq_getElem?_getD,hn]
  rw [e1,List.getD_eq_getElem?_getD,Rx c2];exact jy _ _
 .have e1:(aI e l).getD n []=[]:=by simp [aI,List.getD_eq_getElem?_getD,WD (qi hn)]
  have e2:l.getD n (dflt e)=dflt e:=by simp [List.getD_eq_getElem?_getD,WD (qi hn)]
  rw [e1,e2];have hz':=Ee hz (c-off);rw [V0,Wo,Z2,if_pos (by omega),W4,<-iw] at hz';have e3:off+(c-off)=c:=by omega
  rw [e3,Rx c2] at hz';split at hz'
  .simp only [Q0] at hz';have hl:=congrArg P.list hz';rw [jy] at hl;rw [hl];have:(Uu i.zero (c-off)).list=[]:=by
    have hsl :∃sz l,Uu i.zero (c-off)=P.gq sz l:=⟨_,_,hz'.symm⟩;unfold Uu at hsl ⊢;split<;>rfl
   rw [this];rfl
  .cases hz'
theorem afr (n:Nat):dB ⟨.sl vX,ZF n⟩=hdr (List.replicate n ([]:List P)):=by
 have e0 :∀x,lq vX x=[]:=fun x=>by
  have h1:=qp vX x;have h2:size vX=0:=by simp [vX,size,jC,RE.hdF]
  rw [h2] at h1;rw [iw,WN h1];rfl
 rw [G6];have e1:aI vX (ZF n)=List.replicate n []:=by
  have :∀(n:Nat),List.map (lq vX) (ZF n)=List.replicate n []:=fun n=>by
   induction n with
   |zero=>rfl
   |succ n ih=>
    have e1:lq vX (dflt vX)=[]:=e0 _;show lq vX (dflt vX)::List.map (lq vX) (ZF n)=[]::List.replicate n [];rw [ih,e1]
  exact this n
 have e2:size vX=0:=by simp [vX,size,jC,RE.hdF]
 rw [e1,e2];unfold hdr;rw [UP];cases n<;>rfl
theorem Vl {t:TypeId} {x:Operand} {r:qY} (h:OQ tt o f t x=some r) :∃r',z_ tt (bZ o) (fun x=>bn (f x)) t x=some r'/\f_ r r':=by
 unfold OQ at h;split at h
 .rename_i i g n off ht hx;have hx':bn (f x)=.v (.one (.ep g (.int .i64 n) off)):=by rw [hx];rfl
  have en:(P.int .i64 n).nat=n.toNat:=rfl;split at h
  .rename_i a i' e aj l hh;split at h
   .rename_i e' hca;obtain ⟨hb,h⟩:=bQ h;obtain ⟨hb,hz⟩:=iJ hb;obtain ⟨hcb,hb⟩:=iJ hb;obtain ⟨h1,h2⟩:=iJ hb;have h1:=Q4 h1;have h2:i.agg=false:=by simpa using h2
    simp only [Q0] at h;subst h;obtain ⟨k1,k2⟩:=qy hh;obtain ⟨c1,c2,c3⟩:=uw hcb;unfold z_;simp only [ht,hx',k1,c1];rw [if_pos ⟨c3,h1,h2⟩];refine ⟨_,rfl,⟨fun _=>trivial,?_,rfl,rfl⟩⟩;have key:(((aI e l).getD (P.int .i64 n).nat []).getD off default).list=aI e' (cellT e (l.getD n.toNat (dflt e)) off e'):=by
     rw [en];exact MC hz c2 (Z1 _) (by omega)
    show S.v (.one (.p false false (hdr (((aI e l).getD (P.int .i64 n).nat []).getD off default).list)))=S.v (.one (.p false false (dB ⟨.sl vX,ZF _⟩)));rw [afr,key];unfold hdr;rw [fK,UP]
   .cases h
  .cases h
 .cases h
theorem acf (t:TypeId) (x:Operand):Jm tt ety d o f (.load t x) ty:=by
 intro r h;simp only [jD] at h;split at h
 .obtain ⟨r',h1,h2⟩:=Vl h;exact ⟨[(0,0)],r',h1,h2⟩
 split at h
 .rename_i i g n off ht hx;have hx':bn (f x)=.v (.one (.ep g (.int .i64 n) off)):=by rw [hx];rfl
  have en:(P.int .i64 n).nat=n.toNat:=rfl;split at h
  .rename_i a0 i0 e0 kQ l0 hole hog;have hg:bZ o g=.aO a0 i0 (size e0) (jd kQ) (aI e0 l0) hole:=by simp [bZ,hog,eF]
   obtain ⟨hb,h⟩:=bQ h;obtain ⟨hb,h3⟩:=iJ hb;obtain ⟨h1,h2⟩:=iJ hb;have h1:=W2 h1;split at h
   .rename_i hci;simp only [Q0] at h;subst h;refine ⟨[],?_⟩;simp only [dW,abl,cond_false,ht,hx',hg];rw [if_pos ⟨h1,Jl h2⟩];have eci:nK (jd kQ) off i.size=[]:=by rw [qM,hci];rfl
    simp only [eci];refine ⟨_,rfl,⟨fun _=>trivial,?_,rfl,rfl⟩⟩;simp only [DL.pure,lu];congr 1;rw [en];exact OI e0 l0 n.toNat off i.size i.zero h1 h3 a0 i0
   .rename_i c e' hci;split at h
    .rename_i a i' e aj l hh;split at h
     .rename_i hcc;obtain ⟨hcc,hz⟩:=iJ hcc;obtain ⟨hcb,hle⟩:=iJ hcc;have hle:=W2 hle;simp only [Q0] at h;subst h;obtain ⟨k1,k2⟩:=qy hh;obtain ⟨c1,c2,c3⟩:=uw hcb;have hcin:off<=c/\c<off+i.size:=by
       have hm:(c,size e')∈nK (jd kQ) off i.size:=by rw [qM,hci];simp [jd]
       have:=(vo.1 hm).2;simp only [Qt,Nat.ble_eq,Nat.blt_eq] at this;exact this
      refine ⟨[],?_⟩;simp only [dW,abl,cond_false,ht,hx',hg];rw [if_pos ⟨h1,Jl h2⟩];rw [hg] at k2;have eci:nK (jd kQ) off i.size=[(c,size e')]:=by rw [qM,hci];rfl
      simp only [eci,k1];refine ⟨_,rfl,⟨fun _=>trivial,?_,?_,rfl⟩⟩
      .simp only [lu];congr 1;rw [en];have key:=OI e l n.toNat off i.size i.zero hle hz a i';simp only [P.list];rw [List.map_set,<-key];apply Kk;intro j;rw [K8];simp only [XS,ZD,List.length_range];by_cases hj:j<i.size
       .rw [KK hj];by_cases hjc:c-off=j
        .rw [if_pos hjc,if_pos (by omega)];have:Nat.beq (off+j) c=true:=by simp;omega
         simp only [Z3,this,if_true];rfl
        .rw [if_neg hjc];have:Nat.beq (off+j) c=false:=by
          cases hb:Nat.beq (off+j) c with
          |false=>rfl
          |true=>have:=Q4 hb;omega
         simp only [Z3,this,W3,if_false]
       .rw [WD (by simp;omega),if_neg (by omega)];rfl
      .have key:(((aI e l).getD n.toNat []).getD c default).list=aI e' (cellT e (l.getD n.toNat (dflt e)) c e'):=MC hz c2 hcin.1 hcin.2;show (g,O.aO a i' (size e) (jd aj) (aI e l) (some ((P.int .i64 n).nat,c,d)))::(d,O.arr false a i' (size e') ((((aI e l).getD (P.int .i64 n).nat []).getD c default).list))::kills _=iT (_::_::lD _);rw [qw,qw,qx,k2,en,key];rfl
     .cases h
    .cases h
   .cases h
  .cases h
 .cases h
theorem Jo {g:Nat} {l:List Nat}:(!fZ g l)=true->l.contains g=false:=by
 intro h;rw [bU] at h;simpa using h
theorem oQ :∀{a b:List (Nat×Ty)},FQ a b=true->a=b
 | [],[],_=>rfl
 | [],_::_,h=>by cases h
 |_::_,[],h=>by cases h
 |(c,t)::r,(c',t')::r',h=>by
  simp only [FQ,Qt] at h;rw [Q4 h.1.1,xY h.1.2,oQ h.2]
theorem ZG (t:TypeId) (x y:Operand):Jm tt ety d o f (.store t x y) ty:=by
 intro r h;simp only [jD] at h;split at h
 .rename_i i g n off y' ht hx hy;have hx':bn (f x)=.v (.one (.ep g (.int .i64 n) off)):=by rw [hx];rfl
  have hy':bn (f y)=.v (jM y'):=by rw [hy];rfl
  have en:(P.int .i64 n).nat=n.toNat:=rfl;split at h
  .rename_i a0 i0 e0 aj l0 hole hog;have hg:bZ o g=.aO a0 i0 (size e0) (jd aj) (aI e0 l0) hole:=by simp [bZ,hog,eF]
   split at h
   .rename_i ps a' i' gs es hD;obtain ⟨hb,h⟩:=bQ h;obtain ⟨hb,h6⟩:=iJ hb;obtain ⟨hb,h5⟩:=iJ hb;obtain ⟨hb,h4⟩:=iJ hb;obtain ⟨hb,h3⟩:=iJ hb;obtain ⟨h1,h2⟩:=iJ hb;have h1:=W2 h1;have h2:=Q4 h2;obtain ⟨k1,k2,k3⟩:=CP (col':=fun j=>(jd aj).lookup j) (fun j=>Eh j aj) hD;have hl:ps.length=i.size:=by
     have:=congrArg List.length k2;simp [jY] at this;omega
    have hgl:gs.contains g=false:=Jo h4;have hcnd:off+i.size<=size e0/\(y'.words.map bW).length=i.size/\(jM y').solid=true/\gs.contains g=false/\sJ (es.map (·.2))=true/\DX (es.map (·.2)) gs=true:=
     ⟨h1,by rw [ZD];exact h2,uz _ h3,hgl,h5,h6⟩
    have key :∀(pre:Bool) (pre':Prop) (a i1:Bool) (e:Ty) (l:List (Dt e)) (ji:Option (Nat×Nat×Nat)) (ks:List Nat),e=e0->(pre=true->pre')->
      f_ { pre,t:=.sl e,val:=List.set l n.toNat (K_ e (Nat.beq i.size (size e)) (l.getD n.toNat (dflt e)) off ps),dst:=fun _=>.no,aK:=fun z=>(g,.aO (a||a') (i1||i') e aj z ji)::lD (es.map (·.2))++lD ks++gs.map (lK o),new:=[] }
       (.mk pre' (.sl (size e0) ((aI e l).set (P.int .i64 n).nat (aS ((aI e l).getD (P.int .i64 n).nat []) off (ps.map dB)))) (fun _=>.no)
        (fun z=>(g,.aO (a||a') (i1||i') (size e0) (jd aj) z.list ji)::kills (es.map (·.2))++kills ks++gs.map (Fw.aW (bZ o))) []):=by
     intro pre pre' a i1 e l ji ks he hpre;subst he;refine ⟨hpre,rfl,?_,rfl⟩;show (g,O.aO (a||a') (i1||i') (size e) (jd aj) ((aI e l).set (P.int .i64 n).nat (aS ((aI e l).getD (P.int .i64 n).nat []) off (ps.map dB))) ji)::kills (es.map (·.2))++kills ks++gs.map (Fw.aW (bZ o))=iT ((_::lD _)++lD _++_);rw [lC,lC,qw,qx,qx,pG k3,en];have hp:=FP (e:=e) (l:=l) (n:=n.toNat) (off:=off) (ps:=ps) (by rw [hl];exact k2) (by omega);rw [hl] at hp;rw [<-hp];rfl
    have eci:=qM off i.size aj;have hk:dW tt [] d (bZ o) (fun x=>bn (f x)) (.store t x y) ty=dW tt [] d (bZ o) (fun x=>bn (f x)) (.store t x y) ty:=rfl;refine ⟨[],?_⟩;simp only [dW,ht,hx',hy',hg,uy,k1];rw [if_pos hcnd];split at h
    .rename_i hci;simp only [Q0] at h;subst h;have eci:nK (jd aj) off i.size=[]:=by rw [eci,hci];rfl
     simp only [eci];exact ⟨_,rfl,key true True a0 i0 e0 l0 hole [] rfl fun _=>trivial⟩
    .rename_i c0 cs hci;have eci:nK (jd aj) off i.size=(c0.1,size c0.2)::jd cs:=by rw [eci,hci];rfl
     simp only [eci];split at h
     .simp only [Q0] at h;subst h;exact ⟨_,rfl,key true True a0 i0 e0 l0 none [] rfl fun _=>trivial⟩
     .rename_i n0 c1 d0 _;have over :∀(r:qY),(bif Nat.ble off c1&&Nat.blt c1 (off+i.size) then some
         ({ pre:=Nat.beq n0 n.toNat,t:=.sl e0,val:=List.set l0 n.toNat (K_ e0 (Nat.beq i.size (size e0)) (l0.getD n.toNat (dflt e0)) off ps),dst:=fun _=>.no,aK:=fun z=>(g,.aO (a0||a') (i0||i') e0 aj z none)::lD (es.map (·.2))++lD []++gs.map (lK o),new:=[] }:qY) else none)=some r->
        (off<=c1/\c1<off+i.size)/\f_ r (.mk (n0=(P.int .i64 n).nat) (.sl (size e0) ((aI e0 l0).set (P.int .i64 n).nat (aS ((aI e0 l0).getD (P.int .i64 n).nat []) off (ps.map dB)))) (fun _=>.no)
         (fun z=>(g,.aO (a0||a') (i0||i') (size e0) (jd aj) z.list none)::kills (es.map (·.2))++kills []++gs.map (Fw.aW (bZ o))) []):=by
       intro r hr;obtain ⟨hb,hr⟩:=bQ hr;simp only [Q0] at hr;subst hr;obtain ⟨q1,q2⟩:=iJ hb;exact ⟨⟨W2 q1,W2 q2⟩,key _ _ a0 i0 e0 l0 none [] rfl fun hp=>by rw [en];exact Q4 hp⟩
      split at h
      .rename_i a i1 e kJ l hh;obtain ⟨j1,j2⟩:=qy hh;simp only [j1];split at h
       .rename_i hcc;obtain ⟨q1,q2⟩:=iJ hcc;split at h
        .rename_i hty;simp only [Q0] at h;subst h;rw [if_pos ⟨Jo q1,Jo q2⟩];exact ⟨_,rfl,key true True a i1 e l none [d0] (xY hty) fun _=>trivial⟩
        .cases h
       .rename_i hcc;obtain ⟨q1,q2⟩:=over r h;rw [if_neg (by
         rintro ⟨z1,z2⟩;rw [<-bU] at z1 z2;rw [z1,z2] at hcc;cases hcc),if_pos q1]
        exact ⟨_,rfl,q2⟩
      .split at h
       .cases h
       .rename_i har;obtain ⟨q1,q2⟩:=over r h;simp only [Vk hog har];rw [if_pos q1];exact ⟨_,rfl,q2⟩
   .cases h
  .cases h
 .cases h
theorem Ld (t:TypeId) (n c:Operand):Jm tt ety d o f (.makeSlice t n c) ty:=by
 intro r h;simp only [jD] at h;split at h
 .rename_i e i1 i2 i3 a1 j1 n' a2 j2 c' ht hn hc;change Int at n';change Int at c';have hn':bn (f n)=.v (.one (.p a1 j1 (.int .i64 n'))):=by rw [hn];rfl
  have hc':bn (f c)=.v (.one (.p a2 j2 (.int .i64 c'))):=by rw [hc];rfl
  split at h
  .rename_i ie et he het;split at h
   .cases h
   .rename_i zG D5 hdc;split at h
    .rename_i ps hp;obtain ⟨hb,h⟩:=bQ h;simp only [Q0] at h;subst h;obtain ⟨h1,h2⟩:=iJ hb;have hsz:=Q4 h2;obtain ⟨k1,k2,_⟩:=CP (col':=fun j=>(jd (zG::D5)).lookup j) (fun j=>Eh j (zG::D5)) hp;rw [rU] at k1;refine ⟨jd (zG::D5),?_⟩;have edc:jd (zG::D5)=(zG.1,size zG.2)::jd D5:=rfl;simp only [dW,ht,hn',hc',edc,he];rw [edc] at k1;simp only [k1];rw [if_pos (Jl h1)];refine ⟨_,rfl,⟨fun hp => ?_,rfl,?_,rfl⟩⟩
     .have hp:Cm ie.bytes n' c'=true:=hp;simp only [Cm,Qt,decide_eq_true_eq] at hp;obtain ⟨⟨⟨q1,q2⟩,q3⟩,q4⟩:=hp;exact ⟨n'.toNat,c'.toNat,by congr 1;omega,by congr 1;omega,by omega,by
       have:((ie.bytes*c'.toNat:Nat):Int)<=281474976710656:=by
        rw [Int.natCast_mul,UX (by omega)];exact q3
       omega,by omega⟩
     .show [(d,O.aO false false ie.size ((zG.1,size zG.2)::jd D5) (List.replicate (P.int .i64 n').nat (ps.map dB)) none)]=iT [(d,_)];have en:(P.int .i64 n').nat=n'.toNat:=rfl;rw [qw,en];simp only [eF,edc,hsz,aI,List.map_replicate,rP k2];rfl
    .cases h
  .cases h
 .cases h
theorem Jp (t:TypeId) (n:Nat) (ps:Array (Nat×Operand)):Jm tt ety d o f (.buildSlice t n ps) ty:=by
 intro r h;simp only [jD] at h;split at h
 .rename_i e i1 i2 i3 ht;split at h
  .rename_i ie et he het;split at h
   .cases h
   .rename_i zG D5 hdc;split at h
    .rename_i ws hw;split at h
     .rename_i qs a i gs es hp;obtain ⟨hb,h⟩:=bQ h;simp only [Q0] at h;subst h;obtain ⟨hb,h4⟩:=iJ hb;obtain ⟨hb,h3⟩:=iJ hb;obtain ⟨h1,h2⟩:=iJ hb;have hsz:=Q4 h2;have:=CO hw;rw [Jk,rU] at this;have edc:jd (zG::D5)=(zG.1,size zG.2)::jd D5:=rfl;obtain ⟨k1,k2,k3⟩:=CP (col':=fun j=>((zG.1,size zG.2)::jd D5).lookup (j % ie.size)) (fun j=>by rw [<-edc];exact Eh (j % ie.size) (zG::D5)) hp;refine ⟨jd (zG::D5),?_⟩;simp only [dW,ht,edc,he,Ed,this,k1];rw [if_pos ⟨W2 h1,h3,h4⟩];refine ⟨_,rfl,⟨fun _=>trivial,rfl,?_,rfl⟩⟩;show (d,O.aO a i ie.size ((zG.1,size zG.2)::jd D5) (chunks ie.size n (qs.map dB)) none)::kills (es.map (·.2))++gs.map (Fw.aW (bZ o))=iT ((_::lD _)++_);rw [lC,qw,qx,pG k3];have e1:=Aq et n qs k2;rw [hsz] at e1;simp only [eF,edc,hsz];rw [<-e1]
     .cases h
    .cases h
  .cases h
 .cases h
theorem Vm (args:Array Operand) (ts:Array TypeId):Jm tt ety d o f (.call { callee:=.builtin .append,args:=args,argTypes:=ts }) ty:=by
 intro r h;simp only [jD] at h;split at h
 .rename_i s x sT xT rest ha hts;split at h
  .rename_i e i1 i2 i3 e' j1 j2 j3 s' g2 hsT hxT hs hx;have hs':bn (f s)=.v (.one (bW s')):=by rw [hs];rfl
   have hx':bn (f x)=.v (.one (.own g2)):=by rw [hx];rfl
   split at h
   .rename_i ie a2 i2' et aj new he hh;obtain ⟨j1',j2'⟩:=qy hh;split at h
    .rename_i pre a i old ks hbase;obtain ⟨hb,h⟩:=bQ h;simp only [Q0] at h;subst h;obtain ⟨hb,h3⟩:=iJ hb;obtain ⟨h1,h2⟩:=iJ hb;have hsz:=Q4 h2;have hb0:ie.bytes≠0:=fun e=>by rw [e] at h1;cases h1
     have hB :∃ask src,baseD (bZ o) (bW s')=some (ask,a,i,aI et old,ks,src)/\(src=none\/src=some (size et,jd aj))/\(pre=true->ask):=by
      cases s' with
      |dF=>
       simp only [Rw,Q0,Q1] at hbase;obtain ⟨rfl,rfl,rfl,rfl,rfl⟩:=hbase;exact ⟨True,none,rfl,.inl rfl,fun _=>trivial⟩
      |own g=>
       simp only [Rw] at hbase;split at hbase
       .rename_i a1 i1 e1 kJ l hg;obtain ⟨q1,q2⟩:=qy hg;split at hbase
        .rename_i l1 hl hc;simp only [Q0,Q1] at hbase;obtain ⟨rfl,rfl,rfl,rfl,rfl⟩:=hbase;obtain ⟨ee,hl⟩:=oP hl;cases ee;subst hl;have:=oQ hc;subst this;exact ⟨True,some (size et,jd kJ),by simp only [bW,baseD,q1,q2],.inr rfl,fun _=>trivial⟩
        .cases hbase
       .cases hbase
      |vw g lo hi=>
       simp only [Rw] at hbase;split at hbase
       .rename_i a1 i1 e1 kJ l hg;obtain ⟨q1,q2⟩:=qy hg;split at hbase
        .rename_i l1 hl hc;simp only [Q0,Q1] at hbase;obtain ⟨rfl,rfl,rfl,rfl,rfl⟩:=hbase;obtain ⟨ee,hl⟩:=oP hl;cases ee;subst hl;have:=oQ hc;subst this;refine ⟨P.int .i64 lo=lY 0,some (size et,jd kJ),by simp only [bW,baseD,q1,q2,vW],.inr rfl,fun h => ?_⟩;have h:lo=0:=by simpa using h
         subst h;rfl
        .cases hbase
       .cases hbase
      |_=>simp [Rw] at hbase
     obtain ⟨ask,src,q1,q2,q3⟩:=hB;refine ⟨[],?_⟩;simp only [dW,ha,hts,hsT,hxT,hs',hx',he,q1,j1'];rw [if_pos ⟨hb0,hsz,q2,by rw [j2'];exact h3⟩];refine ⟨_,rfl,⟨fun hp => ?_,rfl,?_,rfl⟩⟩
     .obtain ⟨p1,p2⟩:=iJ hp;refine ⟨q3 p1,?_⟩;rw [fK,fK];simpa using p2
     .show (d,O.aO (a||a2) (i||i2') (size et) (jd aj) (aI et old++aI et new) none)::kills (ks++g2::(bZ o g2).hn)=iT (_::lD _);rw [qw,qx,j2',<-yg];rfl
    .cases h
   .cases h
  .cases h
 .cases h
theorem ZH (t:TypeId) (x:Operand) (lo hi mx:Option Operand):Jm tt ety d o f (.slice t x lo hi mx) ty:=by
 intro r h;cases lo with
 |some _=>simp [jD] at h
 |none=>
 cases mx with
 |some _=>simp [jD] at h
 |none=>
 simp only [jD] at h;split at h
 .cases h
 .split at h
  .rename_i e i1 i2 i3 g ht hx;have hx':bn (f x)=.v (.one (.own g)):=by rw [hx];rfl
   split at h
   .rename_i ie a i et l he hg;change List (Dt et) at l;obtain ⟨hb,h⟩:=bQ h;split at h
    .rename_i hi' hhi;simp only [Q0] at h;subst h;have zY:=nR hhi;have hg':bZ o g=.arr false a i (size et) (aI et l):=iy hg;refine ⟨[],?_⟩;have en:lY (aI et l).length=P.int .i64 (List.length (α:=Dt et) l:Int):=by rw [fK];rfl
     simp only [dW,ht,hx',he,hg'];rw [if_pos (Q4 hb)];simp only [en,zY];refine ⟨_,rfl,⟨fun hp => ?_,rfl,?_,rfl⟩⟩
     .obtain ⟨h1,h2⟩:=iJ hp;have h1:=of_decide_eq_true h1;have h2:=of_decide_eq_true h2;exact ⟨hi'.toNat,by rw [UX h1],by rw [fK];omega⟩
     .show [(d,O.arr false a i (size et) ((aI et l).take (P.nat (.int .i64 hi')))),(g,O.none)]=[(d,O.arr false a i (size et) (aI et (List.take hi'.toNat l))),(g,O.none)];rw [vW]
    .cases h
   .cases h
  .cases h
theorem Ry (op:Op):Jm tt ety d o f op ty:=by
 cases op
 case load t x=>exact acf t x
 case store t x y=>exact ZG t x y
 case buildSlice t n ps=>exact Jp t n ps
 case makeSlice t n c=>exact Ld t n c
 case slice t x lo hi mx=>exact ZH t x lo hi mx
 case call c=>
  obtain ⟨callee,args,ts⟩:=c;cases callee
  case builtin b=>
   cases b
   case append=>exact Vm args ts
   all_goals (intro r h;simp [jD] at h)
  all_goals (intro r h;simp [jD] at h)
 all_goals (intro r h;simp [jD] at h)
end
end
end Go.Fg

namespace Go.Fg
open Go.Fw
inductive Prog:Type->Type 1 where
 |ret {R:Type} (r:R):Prog R
 |stuck {R:Type} (n:Nat):Prog R
 |cond {R:Type} (b:Bool) (x y:Prog R):Prog R
 |chk {R:Type} (b:Bool) (x:Prog R):Prog R
 |any {R:Type} (x y:Prog R):Prog R
 |let_ {A R:Type} (x:A) (k:A->Prog R):Prog R
 |join {A R:Type} (x:Prog A) (k:A->Prog R):Prog R
 |MF {A R:Type} (x:Prog (A ⊕ R)) (k:A->Prog R):Prog R
 |loop {A R:Type} (a:A) (body:A->Prog (A ⊕ R)):Prog R
 |call {A B R:Type} (n:Nat) (f:A->Option B) (a:A) (k:B->Prog R):Prog R
def Prog.map:{R R':Type}->(R->R')->Prog R->Prog R'
 |_,_,f,.ret r=>.ret (f r)
 |_,_,_,.stuck n=>.stuck n
 |_,_,f,.cond b x y=>.cond b (x.map f) (y.map f)
 |_,_,f,.chk b x=>.chk b (x.map f)
 |_,_,f,.any x y=>.any (x.map f) (y.map f)
 |_,_,f,.let_ x k=>.let_ x fun z=>(k z).map f
 |_,_,f,.join x k=>.join x fun z=>(k z).map f
 |_,_,f,.MF x k=>.MF (x.map (Sum.map id f)) fun z=>(k z).map f
 |_,_,f,.loop a body=>.loop a fun z=>(body z).map (Sum.map id f)
 |_,_,f,.call n g a k=>.call n g a fun z=>(k z).map f
def jK {A R:Type} (body:A->Option (A ⊕ R)):Nat->A->Option R
 |0,_=>none
 |n+1,a=>(body a).bind fun
  |.inl a'=>jK body n a'
  |.inr r=>some r
open Classical in
noncomputable def bF {A R:Type} (body:A->Option (A ⊕ R)) (a:A):Option R:=
 if h :∃n r,jK body n a=some r then jK body (Classical.choose h) a else none
open Classical in
noncomputable def both {R:Type} (x y:Option R):Option R:=if x=y then x else none
def ck {R:Type} (b:Bool) (x:Option R):Option R:=bif b then x else none
def dM {A R:Type} (x:Option (A ⊕ R)) (k:A->Option R):Option R:=x.bind fun
 |.inl z=>k z
 |.inr r=>some r
def dJ (x:Int):Int:=IntKind.i64.wrap x
noncomputable def Prog.run:{R:Type}->Prog R->Option R
 |_,.ret r=>some r
 |_,.stuck _=>none
 |_,.cond b x y=>bif b then x.run else y.run
 |_,.chk b x=>ck b x.run
 |_,.any x y=>both x.run y.run
 |_,.let_ x k=>(k x).run
 |_,.join x k=>x.run.bind fun z=>(k z).run
 |_,.MF x k=>dM x.run fun z=>(k z).run
 |_,.loop a body=>bF (fun z=>(body z).run) a
 |_,.call _ g a k=>(g a).bind fun z=>(k z).run
section
variable [RE]
inductive kG where
 |p (a i:Bool) (t:Ty)
 |dF
 |own (g:Nat)
 |box (g off:Nat)
 |fn (f:FuncId) (gs:List Nat)
 |ni (g:Nat)
 |no
 |vw (g:Nat)
 |ep (g off:Nat)
inductive kL where
 |one (x:kG)
 |agg (xs:List kG)
inductive iO where
 |box (ws:List kG)
 |arr (fz a i:Bool) (e:Ty)
 |it
 |aO (a i:Bool) (e:Ty) (aj:List (Nat×Ty))
structure MG where
 slots:List (Nat×kL)
 bf:List (Nat×iO)
def kG.er:kG->WS
 |.p a i _=>.p a i
 |.dF=>.dF
 |.own g=>.own g
 |.box g off=>.box g off
 |.fn f gs=>.fn f gs
 |.ni g=>.ni g
 |.no=>.no
 |.vw g=>.vw g
 |.ep g off=>.ep g off
def kL.er:kL->SS
 |.one x=>.one x.er
 |.agg xs=>.agg (xs.map kG.er)
def iO.er:iO->OS
 |.box ws=>.box (ws.map kG.er)
 |.arr fz a i e=>.arr fz a i (size e)
 |.it=>.it
 |.aO a i e aj=>.aO a i (size e) (jd aj)
def MG.er (j:MG):Shape:=⟨j.slots.map fun p=>(p.1,p.2.er),j.bf.map fun p=>(p.1,p.2.er)⟩
def kG.tys:kG->List Ty
 |.p _ _ t=>[t]
 |.vw _=>[.int .i64,.int .i64]
 |.ep _ _=>[.int .i64]
 |_=>[]
def kL.tys:kL->List Ty
 |.one x=>x.tys
 |.agg xs=>xs.flatMap kG.tys
def iO.tys:iO->List Ty
 |.box ws=>ws.flatMap kG.tys
 |.arr _ _ _ e=>[.sl e]
 |.it=>[.str,.int .i64]
 |.aO _ _ e _=>[.sl e]
def MG.tys (j:MG):List Ty:=j.slots.flatMap (fun p=>p.2.tys)++j.bf.flatMap fun p=>p.2.tys
def Tup:List Ty->Type
 | []=>Unit
 | [t]=>Dt t
 |t::u::ts=>Dt t×Tup (u::ts)
def Tup.lW:(ts:List Ty)->Tup ts->List Wd
 | [],_=>[]
 | [t],x=>[⟨t,x⟩]
 |t::u::ts,x=>⟨t,x.1⟩::Tup.lW (u::ts) x.2
def Tup.ofL:(ts:List Ty)->List Wd->Option (Tup ts)
 | [],[]=>some ()
 | [t],[w]=>w.Bh t
 |t::u::ts,w::ws=>match w.Bh t,Tup.ofL (u::ts) ws with
  |some x,some xs=>some (x,xs)
  |_,_=>none
 |_,_=>none
def G7 (m:Ren):List Nat->List TW->Bool
 | [],[]=>true
 |g'::gs,.box g off::cs=>decide (m.lookup g'=some (some g))&&(Nat.beq off 0&&G7 m gs cs)
 |_,_=>false
def Ei:List Nat->List TW
 | []=>[]
 |g::gs=>.box g 0::Ei gs
def Ej (m:Ren):kG->TW->Option (List Wd)
 |.p a i t,.p a' i' w=>match w.Bh t with
  |some _=>bif (imp a' a&&imp i' i)||w.t.flat then some [w] else none
  |none=>none
 |.p _ _ t,.dF=>match t with
  |.sl e=>some [um e []]
  |_=>none
 |.dF,.dF=>some []
 |.own g',.own g=>if m.lookup g'=some (some g) then some [] else none
 |.own g',.dF=>if m.lookup g'=some none then some [] else none
 |.box g' off,.box g off'=>if m.lookup g'=some (some g)/\off=off' then some [] else none
 |.fn f gs,.clo f' caps=>bif Nat.beq f f'&&G7 m gs caps then some [] else none
 |.ni g',.ni g=>if m.lookup g'=some (some g) then some [] else none
 |.no,_=>some []
 |.vw g',.vw g lo hi=>if m.lookup g'=some (some g) then some [je .i64 lo,je .i64 hi] else none
 |.ep g' off,.ep g n off'=>if m.lookup g'=some (some g)/\off=off' then some [je .i64 n] else none
 |_,_=>none
def yj (m:Ren):List kG->List TW->Option (List Wd)
 | [],[]=>some []
 |k::ks,x::xs=>match Ej m k x,yj m ks xs with
  |some u,some v=>some (u++v)
  |_,_=>none
 |_,_=>none
def afs (m:Ren):kL->TS->Option (List Wd)
 |.one k,.v (.one x)=>Ej m k x
 |.agg ks,.v (.agg xs)=>yj m ks xs
 |_,_=>none
def Vo (m:Ren):iO->TO->Option (List Wd)
 |.box ks,.box xs=>yj m ks xs
 |.arr fz a i e,.arr fz' a' i' e' l=>match (um e' l).Bh (.sl e) with
  |some l=>if fz=fz'/\(imp a' a&&imp i' i)=true then some [um e l] else none
  |none=>none
 |.it,.it s n=>some [Rh s,je .i64 n]
 |.aO a i e aj,.aO a' i' e' kJ l hole=>match hole,(um e' l).Bh (.sl e),FQ aj kJ with
  |none,some l,true=>if (imp a' a&&imp i' i)=true then some [um e l] else none
  |_,_,_=>none
 |_,_=>none
def nS (m:Ren) (s:Nat->TS):List (Nat×kL)->Option (List Wd)
 | []=>some []
 |(t,k)::rest=>match afs m k (s t),nS m s rest with
  |some u,some v=>some (u++v)
  |_,_=>none
def ql (m:Ren) (o:Nat->TO):List (Nat×iO)->Option (List Wd)
 | []=>some []
 |(g',k)::rest=>match (match m.lookup g' with
   |some (some g)=>Vo m k (o g)
   |some none=>(match k with
    |.arr false _ _ e=>some [um e []]
    |.aO _ _ e _=>some [um e []]
    |_=>none)
   |none=>none),ql m o rest with
  |some u,some v=>some (u++v)
  |_,_=>none
def CQ (j:MG) (m:Ren) (st:kF):Option (List Wd):=
 match j.er.ok&&ahz j.er m with
 |true=>match nS m st.gs j.slots,ql m st.go j.bf with
  |some u,some v=>some (u++v)
  |_,_=>none
 |false=>none
def Ar:Wd:=⟨.bool,false⟩
def Au (vs:List Wd) (n:Nat):kG->TW×Nat
 |.p a i _=>(.p a i (vs.getD n Ar),n+1)
 |.dF=>(.dF,n)
 |.own g=>(.own g,n)
 |.box g off=>(.box g off,n)
 |.fn f gs=>(.clo f (Ei gs),n)
 |.ni g=>(.ni g,n)
 |.no=>(.no,n)
 |.vw g=>(.vw g ((vs.getD n Ar).as (.int .i64)) ((vs.getD (n+1) Ar).as (.int .i64)),n+2)
 |.ep g off=>(.ep g ((vs.getD n Ar).as (.int .i64)) off,n+1)
def uF (vs:List Wd):Nat->List kG->List TW×Nat
 |n,[]=>([],n)
 |n,k::ks=>((Au vs n k).1::(uF vs (Au vs n k).2 ks).1,(uF vs (Au vs n k).2 ks).2)
def Gz (vs:List Wd) (n:Nat):kL->TS×Nat
 |.one k=>(.v (.one (Au vs n k).1),(Au vs n k).2)
 |.agg ks=>(.v (.agg (uF vs n ks).1),(uF vs n ks).2)
def Em (vs:List Wd) (n:Nat):iO->TO×Nat
 |.box ks=>(.box (uF vs n ks).1,(uF vs n ks).2)
 |.arr fz a i e=>(.arr fz a i e ((vs.getD n Ar).as (.sl e)),n+1)
 |.it=>(.it ((vs.getD n Ar).as .str) ((vs.getD (n+1) Ar).as (.int .i64)),n+2)
 |.aO a i e aj=>(.aO a i e aj ((vs.getD n Ar).as (.sl e)) none,n+1)
def gQ (vs:List Wd):Nat->List (Nat×kL)->List (Nat×TS)×Nat
 |n,[]=>([],n)
 |n,(t,k)::rest=>((t,(Gz vs n k).1)::(gQ vs (Gz vs n k).2 rest).1,(gQ vs (Gz vs n k).2 rest).2)
def jQ (vs:List Wd):Nat->List (Nat×iO)->List (Nat×TO)×Nat
 |n,[]=>([],n)
 |n,(g,k)::rest=>((g,(Em vs n k).1)::(jQ vs (Em vs n k).2 rest).1,(jQ vs (Em vs n k).2 rest).2)
def mkT (j:MG) (vs:List Wd):kF:=
 { s:=(gQ vs 0 j.slots).1,o:=(jQ vs (gQ vs 0 j.slots).2 j.bf).1,u:=j.bf.map (·.1) }
def Xe:List Nat->List TW->Ren
 |g'::gs,.box g _::cs=>(g',some g)::Xe gs cs
 |_,_=>[]
def al0:kG->TW->Ren
 |.own g',.own g=>[(g',some g)]
 |.own g',.dF=>[(g',none)]
 |.box g' _,.box g _=>[(g',some g)]
 |.ni g',.ni g=>[(g',some g)]
 |.fn _ gs,.clo _ caps=>Xe gs caps
 |.vw g',.vw g _ _=>[(g',some g)]
 |.ep g' _,.ep g _ _=>[(g',some g)]
 |_,_=>[]
def acg:List kG->List TW->Ren
 |k::ks,x::xs=>al0 k x++acg ks xs
 |_,_=>[]
def apI:kL->TS->Ren
 |.one k,.v (.one x)=>al0 k x
 |.agg ks,.v (.agg xs)=>acg ks xs
 |_,_=>[]
def Rz (s:Nat->TS):List (Nat×kL)->Ren
 | []=>[]
 |(t,k)::r=>apI k (s t)++Rz s r
def G8 (m:Ren) (o:Nat->TO):List (Nat×iO)->Ren
 | []=>[]
 |(g',.box ks)::r=>(match m.lookup g' with
  |some (some g)=>match o g with
   |.box ws=>acg ks ws
   |_=>[]
  |_=>[])++G8 m o r
 |_::r=>G8 m o r
def derive (bD:List Nat) (j:MG) (st:kF):Ren:=
 let m0:=bD.map (fun g=>(g,some g))++Rz st.gs j.slots
 let m1:=m0++G8 m0 st.go j.bf
 m1++G8 m1 st.go j.bf
structure cZ where
 aZ:Nat
 pin:MG
 aT:MG
 cu:Nat
 bD:List Nat
 aV:List Nat
 kept:List Nat:=[]
def cZ.er (s:cZ):zJ:={ aZ:=s.aZ,pin:=s.pin.er,aT:=s.aT.er,cu:=s.cu,bD:=s.bD,aV:=s.aV }
open Classical in
noncomputable def yt {A R:Type} (x y:A) (r:Option R):Option R:=if x=y then r else none
noncomputable def Jq {R:Type} (a b:Nat->TO) (r:R):List Nat->Option R
 | []=>some r
 |g::gs=>match a g,b g with
  |.arr false _ _ e l,.arr false _ _ e' l'=>match (um e' l').Bh (.sl e) with
   |some l''=>yt (A:=List (Dt e)) l'' l (Jq a b r gs)
   |none=>none
  |.aO _ _ e aj l none,.aO _ _ e' kJ l' none=>match (um e' l').Bh (.sl e),FQ aj kJ with
   |some l'',true=>yt (A:=List (Dt e)) l'' l (Jq a b r gs)
   |_,_=>none
  |_,_=>none
structure aU where
 sig:cZ
 f:Tup sig.pin.tys->Option (Tup sig.aT.tys)
noncomputable def aU.ff (s:aU):Tup s.sig.pin.tys->Option (Tup s.sig.aT.tys):=match s.sig.kept with
 | []=>s.f
 |g::gs=>fun x=>(s.f x).bind fun y=>Jq (mkT s.sig.pin (Tup.lW s.sig.pin.tys x)).go (mkT s.sig.aT (Tup.lW s.sig.aT.tys y)).go y (g::gs)
abbrev mG:=FuncId->Option aU
structure GH where
 ins:List Wd
 A:Bool×Bool
 I:Bool×Bool
 uZ:List Nat
 ren:List (Nat×Nat)
def pJ:List Nat->List TW->Option (List (Nat×Nat))
 | [],[]=>some []
 |g'::gs,.box g off::cs=>bif Nat.beq off 0 then match pJ gs cs with
  |some r=>some ((g',g)::r)
  |none=>none
  else none
 |_,_=>none
def MH (o:Nat->TO):kG->TW->Option (List Wd×(Bool×Bool)×List Nat×List (Nat×Nat))
 |.p _ _ t,x=>match x.toP o t with
  |some (y,a,i,gs)=>some ([⟨t,y⟩],(a,i),gs,[])
  |none=>none
 |.own g',.own g=>some ([],(false,false),[],[(g',g)])
 |.box g' off',.box g off=>bif Nat.beq off' 0&&Nat.beq off 0 then some ([],(false,false),[],[(g',g)]) else none
 |.fn f gs,.clo f' caps=>bif Nat.beq f f' then match pJ gs caps with
  |some r=>some ([],(false,false),[],r)
  |none=>none
  else none
 |_,_=>none
def pX (o:Nat->TO):List kG->List TW->Option (List Wd×(Bool×Bool)×List Nat×List (Nat×Nat))
 | [],[]=>some ([],(false,false),[],[])
 |k::ks,x::xs=>match MH o k x,pX o ks xs with
  |some (u,c,g,r),some (u',c',g',r')=>some (u++u',wX c c',g++g',r++r')
  |_,_=>none
 |_,_=>none
def Xf (o:Nat->TO):kL->TS->Option (List Wd×(Bool×Bool)×List Nat×List (Nat×Nat))
 |.one k,.v (.one x)=>MH o k x
 |.agg ks,.v (.agg xs)=>pX o ks xs
 |_,_=>none
def mZ (o:Nat->TO) (args:List TS):List (Nat×kL)->Option (List Wd×(Bool×Bool)×List Nat×List (Nat×Nat))
 | []=>some ([],(false,false),[],[])
 |(t,k)::rest=>match Xf o k (args.getD t .no),mZ o args rest with
  |some (u,c,g,r),some (u',c',g',r')=>some (u++u',wX c c',g++g',r++r')
  |_,_=>none
def ajr:kG->TW->Option (List Wd×(Bool×Bool)×List (Nat×Nat))
 |.p _ _ t,.p a i w=>match w.Bh t with
  |some x=>some ([⟨t,x⟩],(a,i),[])
  |none=>none
 |.p _ _ t,.dF=>match t with
  |.sl e=>some ([um e []],(false,false),[])
  |_=>none
 |.own g',.own g=>some ([],(false,false),[(g',g)])
 |.box g' off',.box g off=>bif Nat.beq off' 0&&Nat.beq off 0 then some ([],(false,false),[(g',g)]) else none
 |.fn f gs,.clo f' caps=>bif Nat.beq f f' then match pJ gs caps with
  |some r=>some ([],(false,false),r)
  |none=>none
  else none
 |_,_=>none
def Jr:List kG->List TW->Option (List Wd×(Bool×Bool)×List (Nat×Nat))
 | [],[]=>some ([],(false,false),[])
 |k::ks,x::xs=>match ajr k x,Jr ks xs with
  |some (u,c,r),some (u',c',r')=>some (u++u',wX c c',r++r')
  |_,_=>none
 |_,_=>none
def vY (o:Nat->TO):List (Nat×Nat)->List (Nat×iO)->Option (List Wd×(Bool×Bool)×List (Nat×Nat))
 |ren,[]=>some ([],(false,false),ren)
 |ren,(g',k)::rest=>match ren.lookup g' with
  |some g=>match k,o g with
   |.box ks,.box ws=>match Jr ks ws with
    |some (u,c,r)=>match vY o (ren++r) rest with
     |some (u',c',r')=>some (u++u',wX c c',r')
     |none=>none
    |none=>none
   |.arr _ _ _ e,.arr false a i e' l=>match (um e' l).Bh (.sl e) with
    |some l=>match vY o ren rest with
     |some (u',c',r')=>some (um e l::u',wX (a,i) c',r')
     |none=>none
    |none=>none
   |.aO _ _ e aj,.aO a i e' kJ l hole=>match hole,(um e' l).Bh (.sl e),FQ aj kJ with
    |none,some l,true=>match vY o ren rest with
     |some (u',c',r')=>some (um e l::u',wX (a,i) c',r')
     |none=>none
    |_,_,_=>none
   |_,_=>none
  |none=>none
def y9 (s:cZ) (o:Nat->TO) (args:List TS):Option GH:=
 match mZ o args s.pin.slots with
 |some (u,A,gs,r)=>match vY o r s.pin.bf with
  |some (u',I,r')=>some { ins:=u++u',A,I,uZ:=gs,ren:=jW r' }
  |none=>none
 |none=>none
def GH.er (c:GH):LJ:={ ins:=c.ins.map dB,A:=c.A,I:=c.I,uZ:=c.uZ,ren:=c.ren }
def yu (f:Nat->Nat):List TW->List TW
 | []=>[]
 |.box g off::r=>.box (f g) off::yu f r
 |_::r=>.no::yu f r
def ZI (A I:Bool×Bool) (f:Nat->Nat):TW->TW
 |.p a i x=>.p (qH A I a i).1 (qH A I a i).2 x
 |.dF=>.dF
 |.own g=>.own (f g)
 |.box g off=>.box (f g) off
 |.clo fn caps=>.clo fn (yu f caps)
 |_=>.no
def ajs (A I:Bool×Bool) (f:Nat->Nat):TV->TV
 |.one x=>.one (ZI A I f x)
 |.agg xs=>.agg (xs.map (ZI A I f))
def ach (A I:Bool×Bool) (f:Nat->Nat):TS->TV
 |.v x=>ajs A I f x
 |_=>.one .no
def OT (A I:Bool×Bool) (f:Nat->Nat):TO->TO
 |.none=>.none
 |.box ws=>.box (ws.map (ZI A I f))
 |.arr fz a i e l=>.arr fz (qH A I a i).1 (qH A I a i).2 e l
 |.it s n=>.it s n
 |.aO a i e aj l _=>.aO (qH A I a i).1 (qH A I a i).2 e aj l none
structure ku where
 x:TS
 aK:List (Nat×TO)
 new:List Nat
def ku.er (e:ku):Eff:={ x:=bn e.x,aK:=iT e.aK,new:=e.new }
def aci (vs:List TV):TS:=match vs with
 | [x]=>.v x
 |xs=>.jq xs
def uG (s:cZ) (d:Nat) (o:Nat->TO) (c:GH) (dH:List Wd):ku:=
 let x:=mkT s.aT dH
 let f:=callName d s.er c.ren
 { x:=aci ((List.range s.cu).map fun k=>ach c.A c.I f (x.gs k)),aK:=(bif s.er.mD then c.uZ.map (lK o) else [])++c.ren.map (fun p=>(p.2,bif s.bD.contains p.1 then OT c.A c.I f (x.go p.1) else .none))++s.aV.map (fun g=>(f g,OT c.A c.I f (x.go g))),new:=s.aV.map f }
def ajt:Bool->Bool->Bool
 |true,true=>true
 |false,false=>true
 |_,_=>false
def Vp:TO->Option (Bool×Bool)
 |.arr fz a i _ _=>match fz with
  |true=>none
  |false=>some (a,i)
 |.aO a i _ _ _ hole=>match hole with
  |none=>some (a,i)
  |some _=>none
 |_=>none
def CS (s:cZ) (o f:Nat->TO):List (Nat×Nat)->List Nat
 | []=>[]
 |(g',g)::r=>match fZ g' s.kept&&s.bD.contains g',Vp (o g),Vp (f g') with
  |true,some (a,i),some (a',i')=>match ajt a a'&&ajt i i' with
   |true=>g::CS s o f r
   |false=>CS s o f r
  |_,_,_=>CS s o f r
def MJ (same:List Nat):List (Nat×TO)->List (Nat×TO)
 | []=>[]
 |(g,x)::r=>match fZ g same with
  |true=>MJ same r
  |false=>(g,x)::MJ same r
def zf (s:cZ) (d:Nat) (o:Nat->TO) (c:GH) (dH:List Wd):ku:=match s.kept with
 | []=>uG s d o c dH
 |_::_=>
  let e:=uG s d o c dH
  { e with aK:=MJ (CS s o (fun g'=>OT c.A c.I (callName d s.er c.ren) ((mkT s.aT dH).go g')) c.ren) e.aK }
def ku.skip:ku:={ x:=.jq [],aK:=[],new:=[] }
def En (l:List (Nat×TO)):List (Nat×TO)->List (Nat×TO)
 | []=>l
 |(g,x)::r=>xX g x (En l r)
structure jO where
 st:kF
 ds:List Nat
 od:List Nat
def kF.put (st:kF) (dst:Option Tmp) (x:TS):kF:=match dst with
 |some t=>{ st with s:=xX t x st.s }
 |none=>st
def jO.eff (q:jO) (dst:Option Tmp) (e:ku):jO:=
 { st:={ s:=(q.st.put dst e.x).s,o:=En q.st.o e.aK,u:=e.new++q.st.u },ds:=(match dst with | some t=>t::q.ds | none=>q.ds),od:=e.aK.map (·.1)++q.od }
def frB {β:Type 1} (b:Bool) (k:Bool->β):β:=match b with
 |true=>k true
 |false=>k false
def OU {β:Type 1}:Ty->(Ty->β)->β
 |.int .i8,k=>k (.int .i8)
 |.int .i16,k=>k (.int .i16)
 |.int .i32,k=>k (.int .i32)
 |.int .i64,k=>k (.int .i64)
 |.int .u8,k=>k (.int .u8)
 |.int .u16,k=>k (.int .u16)
 |.int .u32,k=>k (.int .u32)
 |.int .u64,k=>k (.int .u64)
 |.bool,k=>k .bool
 |.str,k=>k .str
 |.sl e,k=>OU e fun e=>k (.sl e)
 |.prod a b,k=>OU a fun a=>OU b fun b=>k (.prod a b)
 |.st n,k=>k (.st n)
 |.opq,k=>k .opq
 |.sq e,k=>OU e fun e=>k (.sq e)
def frW {β:Type 1}:TW->(TW->β)->β
 |.p a i ⟨t,x⟩,k=>frB a fun a=>frB i fun i=>k (.p a i ⟨t,x⟩)
 |.dF,k=>k .dF
 |.own g,k=>k (.own g)
 |.vw g lo hi,k=>k (.vw g lo hi)
 |.box g off,k=>k (.box g off)
 |.ep g n off,k=>k (.ep g n off)
 |.sp a i t x off,k=>frB a fun a=>frB i fun i=>k (.sp a i t x off)
 |.clo f caps,k=>k (.clo f caps)
 |.gl g,k=>k (.gl g)
 |.ni g,k=>k (.ni g)
 |.no,k=>k .no
def acn {β:Type 1}:List TW->(List TW->β)->β
 | [],k=>k []
 |x::xs,k=>frW x fun x=>acn xs fun xs=>k (x::xs)
def frV {β:Type 1}:TV->(TV->β)->β
 |.one x,k=>frW x fun x=>k (.one x)
 |.agg xs,k=>acn xs fun xs=>k (.agg xs)
def aft {β:Type 1}:List TV->(List TV->β)->β
 | [],k=>k []
 |x::xs,k=>frV x fun x=>aft xs fun xs=>k (x::xs)
def frS {β:Type 1}:TS->(TS->β)->β
 |.v x,k=>frV x fun x=>k (.v x)
 |.jq xs,k=>aft xs fun xs=>k (.jq xs)
 |.no,k=>k .no
def frC {β:Type 1}:List (Nat×Ty)->(List (Nat×Ty)->β)->β
 | [],k=>k []
 |(c,t)::r,k=>OU t fun t=>frC r fun r=>k ((c,t)::r)
def frH {β:Type 1}:Option (Nat×Nat×Nat)->(Option (Nat×Nat×Nat)->β)->β
 |none,k=>k none
 |some (n,c,d),k=>k (some (n,c,d))
def frO {β:Type 1}:TO->(TO->β)->β
 |.none,k=>k .none
 |.box ws,k=>acn ws fun ws=>k (.box ws)
 |.arr fz a i e l,k=>frB fz fun fz=>frB a fun a=>frB i fun i=>k (.arr fz a i e l)
 |.it s n,k=>k (.it s n)
 |.aO a i e aj l hole,k=>frB a fun a=>frB i fun i=>frC aj fun aj=>frH hole fun hole=>k (.aO a i e aj l hole)
def afu {β:Type 1}:List (Nat×TS)->(List (Nat×TS)->β)->β
 | [],k=>k []
 |(t,x)::r,k=>frS x fun x=>afu r fun r=>k ((t,x)::r)
def afv {β:Type 1}:List (Nat×TO)->(List (Nat×TO)->β)->β
 | [],k=>k []
 |(t,x)::r,k=>frO x fun x=>afv r fun r=>k ((t,x)::r)
def Le {β:Type 1}:List Nat->(List Nat->β)->β
 | [],k=>k []
 |x::r,k=>Le r fun r=>k (x::r)
def frX {β:Type 1} (q:jO) (k:jO->β):β:=
 afu q.st.s fun s=>afv q.st.o fun o=>Le q.st.u fun u=>Le q.ds fun ds=>Le q.od fun od=>k ⟨⟨s,o,u⟩,ds,od⟩
def aco:TS->Option Nat
 |.v (.one (.clo g _))=>some g
 |_=>none
def Js:List TS->Option Nat
 | []=>none
 |x::l=>match aco x with
  |some g=>some g
  |none=>Js l
def Eo (fn:Nat) (l:List TS):Nat:=match Js l with
 |some g=>fn+1000000*(g+1)
 |none=>fn
def Xg (T:mG) (fn:Nat) (l:List TS):Option aU:=match Nat.blt fn 1000000 with
 |true=>match T (Eo fn l) with
  |some sp=>some sp
  |none=>T fn
 |false=>none
def pkT (T:mG) (fn:Nat) (l:List TS):Nat:=match T (Eo fn l) with
 |some _=>Eo fn l
 |none=>fn
noncomputable def ZJ {R:Type} (T:mG) (tt:TT) (ety:TypeId->Option Ty) (d:Nat) (st:kF) (o:Oper) (K:ku->Prog R):Prog R:=
 match o.op with
 |.call { callee:=.value f,args,.. }=>match st.dP f with
  |.v (.one (.clo fn caps))=>match Xg T fn (args.toList.map st.dP) with
   |some sp=>match y9 sp.sig st.go ((args.toList.map st.dP)++caps.map fun x=>TS.v (.one x)) with
    |some c=>match c.er.fine sp.sig.er&&Nat.beq (args.size+caps.length) sp.sig.aZ with
     |true=>match Tup.ofL sp.sig.pin.tys c.ins with
      |some x=>match sp.sig.er.ok with
       |true=>.call (pkT T fn (args.toList.map st.dP)) sp.ff x fun y=>K (zf sp.sig d st.go c (Tup.lW sp.sig.aT.tys y))
       |false=>.stuck 17
      |none=>.stuck 11
     |false=>.stuck 12
    |none=>.stuck 13
   |none=>.stuck 14
  |_=>.stuck 15
 |op=>match jD tt ety d st.go st.dP op o.type with
  |some r=>.chk r.pre (.let_ r.val fun z=>K { x:=r.dst z,aK:=r.aK z,new:=r.new })
  |none=>match dU tt ety d st.go st.dP op o.type with
   |some r=>.chk r.pre (.let_ r.val fun z=>K { x:=r.dst z,aK:=r.aK z,new:=r.new })
   |none=>.stuck 16
def Aw (u:List Nat):List Nat->Bool
 | []=>true
 |g::gs=>!fZ g u&&Aw u gs
def Vq (ops:Array Oper) (st:kF) (j:Nat):Option (Tmp×Option (Bool×Bool×Bool)):=
 match (ops[j]?).bind (·.dst) with
 |some t=>match st.gs t with
  |.v (.one (.p a i ⟨.bool,b⟩))=>some (t,some (a,i,b))
  |.jq []=>some (t,none)
  |_=>none
 |none=>none
def Xh (N:Nat):Option Tmp->Bool
 |some d=>Nat.blt d N
 |none=>true
def jO.know (q:jO) (t:Tmp) (a i b:Bool):jO:={ q with st:={ q.st with s:=xX t (.v (.one (.p a i (jf b)))) q.st.s } }
def jO.RD (q:jO) (t:Tmp) (a i:Bool) (k:IntKind) (n:Int):jO:={ q with st:={ q.st with s:=xX t (.v (.one (.p a i (je k n)))) q.st.s } }
def acp (tt:TT) (st:kF) (t:TypeId) (x:Operand) (j:Tmp):Option (Bool×Bool×IntKind×Int×Nat):=
 match tt t with
 |some { k:=.arr n _,.. }=>match st.dP x with
  |.v (.one (.box _ _))=>match st.gs j with
   |.v (.one (.p a i ⟨.int k,v⟩))=>bif Nat.ble n 4 then some (a,i,k,v,n) else none
   |_=>none
  |.v (.one (.ep _ _ _))=>match st.gs j with
   |.v (.one (.p a i ⟨.int k,v⟩))=>bif Nat.ble n 4 then some (a,i,k,v,n) else none
   |_=>none
  |.v (.one (.sp _ _ _ _ _))=>match st.gs j with
   |.v (.one (.p a i ⟨.int k,v⟩))=>bif Nat.ble n 4 then some (a,i,k,v,n) else none
   |_=>none
  |_=>none
 |_=>none
def aju (tt:TT) (st:kF) (o:Oper):Option (Tmp×Bool×Bool×IntKind×Int×Nat):=
 match o.op with
 |.indexAddr t x (.tmp j)=>match acp tt st t x j with
  |some r=>some (j,r)
  |none=>none
 |_=>none
def Xi {R:Type} (v:Int) (k:Int->Prog R):Nat->Nat->Prog R
 |_,0=>.stuck 24
 |m,1=>.chk (eqI v (Int.ofNat m)) (k (Int.ofNat m))
 |m,n+2=>.cond (eqI v (Int.ofNat m)) (k (Int.ofNat m)) (Xi v k (m+1) (n+1))
noncomputable def stepT {R:Type} (T:mG) (tt:TT) (ety:TypeId->Option Ty) (N:Nat) (ops:Array Oper) (o:Oper) (q:jO) (K:jO->ku->Prog R):Prog R:=
 match Xh N o.dst with
 |false=>.stuck 20
 |true=>match o.guard with
  |none=>match aju tt q.st o with
   |none=>ZJ T tt ety (o.dst.getD 0) q.st o fun e=>match Aw q.st.u e.new with
    |true=>K q e
    |false=>.stuck 21
   |some (t,a,i,k,v,n)=>Xi v (fun z=>frX (q.RD t a i k z) fun q=>ZJ T tt ety (o.dst.getD 0) q.st o fun e=>match Aw q.st.u e.new with
    |true=>K q e
    |false=>.stuck 21) 0 n
  |some (j,want)=>match Vq ops q.st j with
   |none=>.stuck 22
   |some (t,none)=>K q ku.skip
   |some (t,some (a,i,b))=>
    let on (q:jO):Prog R:=ZJ T tt ety (o.dst.getD 0) q.st o fun e=>match Aw q.st.u e.new with
     |true=>K q e
     |false=>.stuck 21
    .cond b (frX (q.know t a i true) fun q=>bif want then on q else K q ku.skip) (frX (q.know t a i false) fun q=>bif want then K q ku.skip else on q)
inductive OV where
 |yes
 |no
 |may (empty:Bool)
def Jt (o:Nat->TO):TS->Option OV
 |.v (.one (.p _ _ ⟨.sl e,l⟩))=>some (.may (List.isEmpty (α:=Dt e) l))
 |.v (.one (.own g))=>match o g with
  |.arr _ _ _ _ l=>some (.may l.isEmpty)
  |.aO _ _ _ _ l _=>some (.may l.isEmpty)
  |_=>none
 |.v (.one .dF)=>some .yes
 |_=>none
def Ju (o:Nat->TO):TS->Option OV
 |.v (.one (.box g _))=>match o g with
  |.box _=>some .no
  |_=>none
 |.v (.one (.p _ _ ⟨.opq,.pointer none⟩))=>some .yes
 |_=>none
def OW (o:Nat->TO) (x:TS) (k:TK) (c:Value):Option OV:=
 match k,c with
 |.slice _,.slice none 0 0=>Jt o x
 |.ptr,.pointer none=>Ju o x
 |_,_=>none
def ajv (tt:TT) (st:kF) (o:Oper):Option (Bool×OV):=
 match o.guard with
 |some _=>none
 |none=>match o.op with
  |.binOp op t x (.const c) _=>match tt t with
   |some i=>match op,OW st.go (st.dP x) i.k c with
    |.eql,some p=>some (true,p)
    |.neq,some p=>some (false,p)
    |_,_=>none
   |none=>none
  |_=>none
def RF (s:List UInt8) (n:Int):Bool:=decide (n.toNat<s.length)
def nT (s:List UInt8) (n:Int):Int:=((Utf8.decode ⟨s.toArray⟩ n.toNat).1:Nat)
def uH (s:List UInt8) (n:Int):Int:=((n.toNat+(Utf8.decode ⟨s.toArray⟩ n.toNat).2:Nat):Int)
def RH (n:Int):Int:=((n.toNat:Nat):Int)
def acr (st:kF) (o:Oper):Option (Nat×List UInt8×Int):=
 match o.guard with
 |some _=>none
 |none=>match o.op with
  |.next x true=>match st.dP x with
   |.v (.one (.ni g))=>match st.go g with
    |.it s n=>some (g,s,n)
    |_=>none
   |_=>none
  |_=>none
def OX (g:Nat) (s:List UInt8) (n:Int):ku:={ x:=.jq [.one (.p false false (jf true)),.one (.p false false (je .i64 (RH n))),.one (.p false false (je .i32 (nT s n)))],aK:=[(g,.it s (uH s n))],new:=[] }
def Vr:ku:={ x:=.jq [.one (.p false false (jf false))],aK:=[],new:=[] }
def qN (b:Bool):ku:={ x:=Xb (jf b),aK:=[],new:=[] }
noncomputable def Vs {R:Type} (T:mG) (tt:TT) (ety:TypeId->Option Ty) (N:Nat) (ops:Array Oper) (o:Oper) (q:jO) (K:jO->ku->Prog R):Prog R:=
 match ajv tt q.st o with
 |some (pos,c)=>match Xh N o.dst with
  |false=>.stuck 23
  |true=>match c with
   |.yes=>K q (qN pos)
   |.no=>K q (qN (!pos))
   |.may e=>.cond e (.any (K q (qN true)) (K q (qN false))) (K q (qN (!pos)))
 |none=>match acr q.st o with
  |some (g,s,n)=>match Xh N o.dst with
   |false=>.stuck 23
   |true=>.cond (RF s n) (K q (OX g s n)) (K q Vr)
  |none=>stepT T tt ety N ops o q K
noncomputable def runT {R:Type} (T:mG) (tt:TT) (ety:TypeId->Option Ty) (N:Nat) (ops:Array Oper):List Oper->jO->(jO->Prog R)->Prog R
 | [],q,K=>K q
 |o::os,q,K=>Vs T tt ety N ops o q fun q e=>frX (q.eff o.dst e) fun q=>runT T tt ety N ops os q K
def yw:List TW->List Nat
 | []=>[]
 |.box g _::r=>g::yw r
 |x::r=>(bW x).names++yw r
def W.namesT:TW->List Nat
 |.own g | .vw g _ _ | .box g _ | .ep g _ _ | .ni g=>[g]
 |.clo _ caps=>yw caps
 |_=>[]
def V.namesT:TV->List Nat
 |.one x=>W.namesT x
 |.agg xs=>xs.flatMap W.namesT
def S.namesT:TS->List Nat
 |.v x=>V.namesT x
 |.jq xs=>xs.flatMap V.namesT
 |.no=>[]
def Xj (args:List TS):List (Nat×kL)->Bool
 | []=>false
 |(t,_)::rest=>match args.getD t .no with
  |.no=>true
  |.jq _=>true
  |_=>Xj args rest
def Vt (T:mG) (st:kF) (o:Oper):Option (List Nat):=
 match o.op with
 |.call { callee:=.value f,args,.. }=>match st.dP f with
  |.v (.one (.clo fn caps))=>match Xg T fn (args.toList.map st.dP) with
   |some sp=>match y9 sp.sig st.go ((args.toList.map st.dP)++caps.map fun x=>TS.v (.one x)) with
    |some c=>some (c.ren.map (·.2))
    |none=>bif Xj ((args.toList.map st.dP)++caps.map fun x=>TS.v (.one x)) sp.sig.pin.slots then some [] else none
   |none=>some []
  |_=>some []
 |_=>some []
def acs (T:mG) (st:kF) (o:Oper):Option (List Nat):=match Vt T st o with
 |some r=>some ((bif looks o.op then (o.op.operands.toList.flatMap fun x=>(S.namesT (st.dP x)).flatMap fun g=>g::lT (st.go g)) else [])++r)
 |none=>none
def afw {β:Type 1}:List (Nat×Nat)->(List (Nat×Nat)->β)->β
 | [],k=>k []
 |(a,b)::r,k=>afw r fun r=>k ((a,b)::r)
def frF {β:Type 1} (f:sU) (k:sU->β):β:=Le f.rd fun rd=>Le f.wr fun wr=>Le f.new fun new=>frH f.ld fun ld=>afw f.kp fun kp=>frB f.pk fun pk=>Le f.kd fun kd=>k ⟨rd,wr,new,ld,kp,pk,kd⟩
def acu:TW->TW->Bool
 |.own g,.own g'=>Nat.beq g g'
 |.box g off,.box g' off'=>Nat.beq g g'&&Nat.beq off off'
 |_,_=>false
def Ep (g:Nat):Nat->List TW->List TW->Option (List (Nat×Nat))
 |_,[],[]=>some []
 |j,x::xs,y::ys=>match Ep g (j+1) xs ys with
  |some r=>some (match acu x y with
   |true=>(g,j)::r
   |false=>r)
  |none=>none
 |_,_,_=>none
def Vu (g:Nat):TO->Option TO->List (Nat×Nat)
 |.box ws,some (.box ws')=>match Ep g 0 ws ws' with
  |some r=>r
  |none=>[]
 |_,_=>[]
def kpT (st:kF) (aK:List (Nat×TO)):List (Nat×Nat):=(aK.map (·.1)).flatMap fun g=>Vu g (st.go g) (aK.lookup g)
def acv:TO->Nat
 |.box _=>1
 |.arr _ _ _ _ _=>2
 |.aO _ _ _ _ _ _=>2
 |.it _ _=>3
 |.none=>0
def kdT (st:kF) (aK:List (Nat×TO)):List Nat:=(aK.map (·.1)).filterMap fun g=>match aK.lookup g with
 |some x=>bif Nat.beq (acv x) (acv (st.go g)) then some g else none
 |none=>none
def ldT (tt:TT) (st:kF) (o:Oper):Option (Nat×Nat×Nat):=match o.op with
 |.load t x=>match tt t,st.dP x with
  |some i,.v (.one (.box g off))=>some (g,off,i.size)
  |_,_=>none
 |_=>none
noncomputable def runNT {R:Type} (T:mG) (tt:TT) (ety:TypeId->Option Ty) (N:Nat) (ops:Array Oper):List Oper->jO->List sU->(jO->List sU->Prog R)->Prog R
 | [],q,fs,K=>K q fs
 |o::os,q,fs,K=>match acs T q.st o with
  |none=>.stuck 25
  |some rd=>stepT T tt ety N ops o q fun q' e=>frF { rd,wr:=e.aK.map (·.1),new:=e.new,ld:=ldT tt q.st o,kp:=kpT q.st e.aK,pk:=sV o.op,kd:=kdT q.st e.aK } fun ft=>frX (q'.eff o.dst e) fun q=>runNT T tt ety N ops os q (fs++[ft]) K
noncomputable def vZ {R:Type} (T:mG) (tt:TT) (ety:TypeId->Option Ty) (N:Nat) (ops:Array Oper) (draw:Bool) (q:jO) (K:jO->Prog R):Prog R:=
 match draw with
 |false=>runT T tt ety N ops ops.toList q K
 |true=>runNT T tt ety N ops ops.toList q [] fun q fs=>match W9 ops fs with
  |true=>K q
  |false=>.stuck 24
inductive Md where
 |keep
 |sl (k:kL)
inductive Mo where
 |keep
 |ob (k:iO)
structure JT where
 slots:List (Nat×Md)
 bf:List (Nat×Mo)
def CU:List TW->Option (List Nat)
 | []=>some []
 |.box g off::cs=>bif Nat.beq off 0 then match CU cs with
  |some gs=>some (g::gs)
  |none=>none
  else none
 |_=>none
def RI:TW->Option (kG×List Wd)
 |.p a i w=>some (.p a i w.t,[w])
 |.dF=>some (.dF,[])
 |.own g=>some (.own g,[])
 |.box g off=>some (.box g off,[])
 |.clo f caps=>match CU caps with
  |some gs=>some (.fn f gs,[])
  |none=>none
 |.ni g=>some (.ni g,[])
 |.vw g lo hi=>some (.vw g,[je .i64 lo,je .i64 hi])
 |.ep g n off=>some (.ep g off,[je .i64 n])
 |_=>none
def wP:List TW->Option (List kG×List Wd)
 | []=>some ([],[])
 |x::xs=>match RI x,wP xs with
  |some (k,u),some (ks,us)=>some (k::ks,u++us)
  |_,_=>none
def OY:TS->Option (kL×List Wd)
 |.v (.one x)=>match RI x with
  |some (k,u)=>some (.one k,u)
  |none=>none
 |.v (.agg xs)=>match wP xs with
  |some (ks,u)=>some (.agg ks,u)
  |none=>none
 |_=>none
def wZ:TO->Option (iO×List Wd)
 |.box ws=>match wP ws with
  |some (ks,u)=>some (.box ks,u)
  |none=>none
 |.arr fz a i e l=>some (.arr fz a i e,[um e l])
 |.it s n=>some (.it,[Rh s,je .i64 n])
 |.aO a i e aj l hole=>match hole with
  |none=>some (.aO a i e aj,[um e l])
  |some _=>none
 |.none=>none
def Az (s:Nat->TS):List (Nat×Md)->Option (List (Nat×kL×Option (List Wd)))
 | []=>some []
 |(t,.keep)::r=>match OY (s t),Az s r with
  |some (k,u),some l=>some ((t,k,some u)::l)
  |_,_=>none
 |(t,.sl k)::r=>match Az s r with
  |some l=>some ((t,k,none)::l)
  |none=>none
def Jv (o:Nat->TO):List (Nat×Mo)->Option (List (Nat×iO×Option (List Wd)))
 | []=>some []
 |(t,.keep)::r=>match wZ (o t),Jv o r with
  |some (k,u),some l=>some ((t,k,some u)::l)
  |_,_=>none
 |(t,.ob k)::r=>match Jv o r with
  |some l=>some ((t,k,none)::l)
  |none=>none
structure JF where
 slots:List (Nat×kL×Option (List Wd))
 bf:List (Nat×iO×Option (List Wd))
def JF.sh (j:JF):MG:=⟨j.slots.map fun p=>(p.1,p.2.1),j.bf.map fun p=>(p.1,p.2.1)⟩
def jL:List (Nat×kL×Option (List Wd))->List Ty
 | []=>[]
 |(_,k,none)::r=>k.tys++jL r
 |(_,_,some _)::r=>jL r
def pK:List (Nat×iO×Option (List Wd))->List Ty
 | []=>[]
 |(_,k,none)::r=>k.tys++pK r
 |(_,_,some _)::r=>pK r
def JF.tys (j:JF):List Ty:=jL j.slots++pK j.bf
def mJ:List (Nat×kL×Option (List Wd))->List Wd->List Wd×List Wd
 | [],ws=>([],ws)
 |(_,k,none)::r,ws=>(ws.take k.tys.length++(mJ r (ws.drop k.tys.length)).1,(mJ r (ws.drop k.tys.length)).2)
 |(_,_,some u)::r,ws=>(u++(mJ r ws).1,(mJ r ws).2)
def qO:List (Nat×iO×Option (List Wd))->List Wd->List Wd×List Wd
 | [],ws=>([],ws)
 |(_,k,none)::r,ws=>(ws.take k.tys.length++(qO r (ws.drop k.tys.length)).1,(qO r (ws.drop k.tys.length)).2)
 |(_,_,some u)::r,ws=>(u++(qO r ws).1,(qO r ws).2)
def JF.pay (j:JF) (ws:List Wd):List Wd:=(mJ j.slots ws).1++(qO j.bf (mJ j.slots ws).2).1
def OZ:List (Nat×kL×Option (List Wd))->List Wd->List Wd×List Wd
 | [],ws=>([],ws)
 |(_,k,none)::r,ws=>(ws.take k.tys.length++(OZ r (ws.drop k.tys.length)).1,(OZ r (ws.drop k.tys.length)).2)
 |(_,k,some u)::r,ws=>((OZ r (ws.drop u.length)).1,(OZ r (ws.drop u.length)).2)
def RJ:List (Nat×iO×Option (List Wd))->List Wd->List Wd×List Wd
 | [],ws=>([],ws)
 |(_,k,none)::r,ws=>(ws.take k.tys.length++(RJ r (ws.drop k.tys.length)).1,(RJ r (ws.drop k.tys.length)).2)
 |(_,k,some u)::r,ws=>((RJ r (ws.drop u.length)).1,(RJ r (ws.drop u.length)).2)
def JF.ext (j:JF) (ws:List Wd):List Wd:=(OZ j.slots ws).1++(RJ j.bf (OZ j.slots ws).2).1
def hasK {α:Type} (t:Nat):List (Nat×α)->Bool
 | []=>false
 |(k,_)::r=>Nat.beq t k||hasK t r
def RN (s:List (Nat×TS)) (ds:List Nat):List (Nat×kL×Option (List Wd))->Bool
 | []=>true
 |(t,_,some _)::r=>hasK t s&&!fZ t ds&&RN s ds r
 |(_,_,none)::r=>RN s ds r
def RP (s:List (Nat×TO)) (ds:List Nat):List (Nat×iO×Option (List Wd))->Bool
 | []=>true
 |(t,_,some _)::r=>hasK t s&&!fZ t ds&&RP s ds r
 |(_,_,none)::r=>RP s ds r
def keysB (bD:List Nat) (j:MG) (m:Ren):Bool:=keeps bD j.er m
def MK:List (Nat×iO×Option (List Wd))->Ren
 | []=>[]
 |(t,_,some _)::r=>(t,some t)::MK r
 |(_,_,none)::r=>MK r
def tpW (gs:List Nat) (o:Nat->TO):TW->TW
 |.own g=>bif fZ g gs then match nP o g with
  |some ⟨a,i,e,l⟩=>.p a i (um e l)
  |none=>.own g
  else .own g
 |.vw g lo hi=>bif fZ g gs then match nP o g with
  |some ⟨a,i,e,l⟩=>.p a i (um e ((l.take hi.toNat).drop lo.toNat))
  |none=>.vw g lo hi
  else .vw g lo hi
 |x=>x
def tpV (gs:List Nat) (o:Nat->TO):TV->TV
 |.one x=>.one (tpW gs o x)
 |.agg xs=>.agg (xs.map (tpW gs o))
def tpS (gs:List Nat) (o:Nat->TO):TS->TS
 |.v x=>.v (tpV gs o x)
 |.jq xs=>.jq (xs.map (tpV gs o))
 |.no=>.no
def tpO (gs:List Nat) (o:Nat->TO) (g:Nat):TO->TO
 |.none=>.none
 |.box ws=>.box (ws.map (tpW gs o))
 |.arr fz a i e l=>.arr (fz||fZ g gs) a i e l
 |.it s n=>.it s n
 |.aO a i e aj l hole=>bif fZ g gs then (lK o g).2 else .aO a i e aj l hole
def Lh (gs:List Nat) (st:kF):kF:=match gs with
 | []=>st
 |g::r=>{ s:=st.s.map fun p=>(p.1,tpS (g::r) st.go p.2),o:=st.o.map fun p=>(p.1,tpO (g::r) st.go p.1 p.2),u:=st.u }
def plB (o:Nat->TO) (g:Nat):Bool:=match nP o g with
 |some _=>true
 |none=>false
def ajw (o:Nat->TO) (gs:List Nat):Bool:=gs.all fun g=>plB o g&&(lT (o g)).all fun d=>fZ d gs
def Xk:TO->Option Nat
 |.aO _ _ _ _ _ hole=>match hole with
  |some (_,_,d)=>some d
  |none=>none
 |_=>none
def nU (keep:List Nat):List Nat->kF->List Nat×kF
 | [],st=>([],st)
 |g::gs,st=>match Xk (st.go g),yh st.go g with
  |some d,some ⟨a,i,e,aj,l⟩=>match !fZ g keep&&!fZ d keep with
   |true=>let r:=nU keep gs { st with o:=En st.o [(g,.aO a i e aj l none),(d,.none)] }
    (g::r.1,r.2)
   |false=>nU keep gs st
  |_,_=>nU keep gs st
def O1:List (Nat×TO)->List Nat
 | []=>[]
 |(g,x)::r=>match Xk x with
  |some _=>g::O1 r
  |none=>O1 r
def zN:List (Nat×iO×Option (List Wd))->List Nat
 | []=>[]
 |(t,_,some _)::r=>t::zN r
 |(_,_,none)::r=>zN r
def fzW (o:Nat->TO):kG->TW->List Nat
 |.p _ _ _,.own g=>bif plB o g then lT (o g)++[g] else []
 |.p _ _ _,.vw g _ _=>bif plB o g then lT (o g)++[g] else []
 |_,_=>[]
def ajx (o:Nat->TO):List kG->List TW->List Nat
 |k::ks,x::xs=>fzW o k x++ajx o ks xs
 |_,_=>[]
def fzS (o:Nat->TO):kL->TS->List Nat
 |.one k,.v (.one x)=>fzW o k x
 |.agg ks,.v (.agg xs)=>ajx o ks xs
 |_,_=>[]
def Xl (st:kF):List (Nat×kL)->List Nat
 | []=>[]
 |(t,k)::r=>fzS st.go k (st.gs t)++Xl st r
def Vx (m:Ren) (st:kF):List (Nat×iO)->List Nat
 | []=>[]
 |(g',.box ks)::r=>(match m.lookup g' with
  |some (some g)=>match st.go g with
   |.box ws=>ajx st.go ks ws
   |_=>[]
  |_=>[])++Vx m st r
 |_::r=>Vx m st r
def ajy (bD:List Nat) (j:MG) (st:kF):List Nat:=Xl st j.slots++Vx (derive bD j st) st j.bf
def Vy (gs:List Nat) (x:TS):Bool:=(S.namesT x).all fun g=>!fZ g gs
def Jw (gs:List Nat) (g:Nat):TO->Bool
 |.none=>true
 |.box ws=>(ws.flatMap W.namesT).all fun g=>!fZ g gs
 |.arr _ _ _ _ _=>!fZ g gs
 |.it _ _=>true
 |.aO _ _ _ _ _ _=>!fZ g gs
def acy (gs:List Nat) (s:Nat->TS):List (Nat×kL×Option (List Wd))->Bool
 | []=>true
 |(t,_,some _)::r=>Vy gs (s t)&&acy gs s r
 |(_,_,none)::r=>acy gs s r
def acz (gs:List Nat) (o:Nat->TO):List (Nat×iO×Option (List Wd))->Bool
 | []=>true
 |(t,_,some _)::r=>Jw gs t (o t)&&acz gs o r
 |(_,_,none)::r=>acz gs o r
def wQ {R:Type} (bD:List Nat) (j:JF) (q:jO) (K:Tup j.tys->Prog R):Prog R:=
 let st0:=(nU (zN j.bf) (O1 q.st.o) q.st).2
 let gs:=ajy bD j.sh st0
 let st:=Lh gs st0
 let m:=MK j.bf++derive bD j.sh st
 match RN q.st.s q.ds j.slots&&RP q.st.o q.od j.bf&&keysB bD j.sh m&&ajw st0.go gs&&acy gs st0.gs j.slots&&acz gs st0.go j.bf with
 |false=>.stuck 30
 |true=>match CQ j.sh m st with
  |none=>.stuck 31
  |some vs=>match Tup.ofL j.tys (j.ext vs) with
   |none=>.stuck 32
   |some x=>K x
def yx (j:JF) (x:Tup j.tys):kF:=mkT j.sh (j.pay (Tup.lW j.tys x))
def newS:List (Nat×kL×Option (List Wd))->List Nat
 | []=>[]
 |(t,_,none)::r=>t::newS r
 |(_,_,some _)::r=>newS r
def uI:List (Nat×iO×Option (List Wd))->List Nat
 | []=>[]
 |(t,_,none)::r=>t::uI r
 |(_,_,some _)::r=>uI r
def jO.fresh (q:jO):jO:={ q with ds:=[],od:=[] }
def jO.since (q' q:jO):jO:={ q' with ds:=q'.ds++q.ds,od:=q'.od++q.od }
structure TK (R:Type) where
 n:jO->Prog R
 x:Nat->jO->Prog R
 r:jO->Prog R
inductive fQ where
 |nil
 |seq (a b:fQ)
 |meet (early:Bool) (j:JT) (a:fQ)
 |loop (j:JT) (a:fQ)
 |range (j:JT) (sg:cZ) (a:fQ)
def fQ.fst:fQ->fQ
 |.seq a _=>a
 |_=>.nil
def fQ.snd:fQ->fQ
 |.seq _ b=>b
 |_=>.nil
def acA (nw:List Nat):List (Nat×kL×Option (List Wd))->Bool
 | []=>true
 |(t,_,some _)::r=>!fZ t nw&&acA nw r
 |(_,_,none)::r=>acA nw r
def acB (nw:List Nat):List (Nat×iO×Option (List Wd))->Bool
 | []=>true
 |(t,_,some _)::r=>!fZ t nw&&acB nw r
 |(_,_,none)::r=>acB nw r
def jOf (st:kF) (j:JT):Option JF:=match Az st.gs j.slots,Jv st.go j.bf with
 |some s,some o=>match acA (newS s) s&&acB (uI o) o with
  |true=>some ⟨s,o⟩
  |false=>none
 |_,_=>none
def knT (c:Operand) (a i b:Bool) (q:jO):jO:=match c with
 |.tmp t=>q.know t a i b
 |_=>q
def Xm {R:Type} (c:Operand) (q:jO) (x y:jO->Prog R):Prog R:=match q.st.dP c with
 |.v (.one (.p a i ⟨.bool,b⟩))=>.cond b (frX (knT c a i true q) x) (frX (knT c a i false q) y)
 |_=>.stuck 50
def ML {R:Type} (bD:List Nat) (early:Bool) (jt:JT) (here:Nat->Bool) (q:jO) (inner:(R':Type)->jO->TK R'->Prog R') (K:TK R):Prog R:=
 match jOf q.st jt with
 |none=>.stuck 40
 |some j=>match early with
  |false=>.join (inner (Tup j.tys) q.fresh { n:=fun q'=>wQ bD j q' .ret,x:=fun id q'=>bif here id then wQ bD j q' .ret else .stuck 41,r:=fun _=>.stuck 42 })
    fun x=>frX ⟨yx j x,newS j.slots++q.ds,uI j.bf++q.od⟩ K.n
  |true=>.MF (inner (Tup j.tys ⊕ R) q.fresh { n:=fun q'=>wQ bD j q' fun x=>.ret (.inl x),x:=fun id q'=>bif here id then wQ bD j q' (fun x=>.ret (.inl x)) else (K.x id (q'.since q)).map .inr,r:=fun q'=>(K.r (q'.since q)).map .inr })
    fun x=>frX ⟨yx j x,newS j.slots++q.ds,uI j.bf++q.od⟩ K.n
noncomputable def nV (T:mG) (tt:TT) (ety:TypeId->Option Ty) (N:Nat) (bD:List Nat):Code->(R:Type)->fQ->jO->TK R->Prog R
 |.skip,R,_,q,K=>K.n q
 |.region _ ops draw,R,a,q,K=>match a with
  |.meet e j _=>ML bD e j (fun _=>false) q (fun _ q K=>vZ T tt ety N ops draw q K.n) K
  |_=>vZ T tt ety N ops draw q K.n
 |.seq x y,R,a,q,K=>nV T tt ety N bD x R a.fst q { n:=fun q'=>nV T tt ety N bD y R a.snd q' K,x:=K.x,r:=K.r }
 |.cond c x y,R,a,q,K=>match a with
  |.meet e j a=>ML bD e j (fun _=>false) q (fun R q K=>Xm c q (fun q=>nV T tt ety N bD x R a.fst q K) fun q=>nV T tt ety N bD y R a.snd q K) K
  |a=>Xm c q (fun q=>nV T tt ety N bD x R a.fst q K) fun q=>nV T tt ety N bD y R a.snd q K
 |.block id c,R,a,q,K=>match a with
  |.meet e j a=>ML bD e j (Nat.beq id) q (fun R q K=>nV T tt ety N bD c R a q K) K
  |a=>nV T tt ety N bD c R a.fst q { n:=K.n,x:=fun id' q'=>bif Nat.beq id' id then K.n q' else K.x id' q',r:=K.r }
 |.loop c,R,a,q,K=>match a with
  |.loop jt a=>match jOf q.st jt with
   |none=>.stuck 43
   |some j=>wQ bD j q.fresh fun x=>.loop x fun x=>
     frX ⟨yx j x,[],[]⟩ fun q'=>nV T tt ety N bD c (Tup j.tys ⊕ R) a q'
      { n:=fun q'=>wQ bD j q' fun x=>.ret (.inl x),x:=fun id q'=>(K.x id (q'.since ⟨q'.st,newS j.slots++q.ds,uI j.bf++q.od⟩)).map .inr,r:=fun q'=>(K.r (q'.since ⟨q'.st,newS j.slots++q.ds,uI j.bf++q.od⟩)).map .inr }
  |_=>.stuck 44
 |.exit id,R,_,q,K=>K.x id q
 |.ret,R,_,q,K=>K.r q
 |.label _,R,_,q,K=>K.n q
 |.scope c,R,a,q,K=>nV T tt ety N bD c R a q K
 |_,R,_,_,_=>.stuck 45
def Xn (tt:TT) (st:kF):ResultVar->Option TS
 |.tmp t=>some (st.gs t)
 |.cell a t=>match tt t,st.gs a with
  |some i,.v (.one (.box g off))=>match st.go g with
   |.box ws=>bif Nat.ble (off+i.size) ws.length&&Nat.blt 0 i.size then some (TV.gI i.agg ((ws.drop off).take i.size)) else none
   |_=>none
  |_,_=>none
def Jy (tt:TT) (st:kF):List ResultVar->Option (List TS)
 | []=>some []
 |r::rs=>match Xn tt st r,Jy tt st rs with
  |some x,some xs=>some (x::xs)
  |_,_=>none
def Vz (n:Nat):List TS->List (Nat×TS)
 | []=>[]
 |x::xs=>(n,x)::Vz (n+1) xs
def afz (tt:TT) (sp:cZ) (ts:List ResultVar) (q:jO):Prog (Tup sp.aT.tys):=
 match Jy tt q.st ts with
 |none=>.stuck 60
 |some xs=>
  let st0:kF:=(nU [] (O1 q.st.o) { s:=Vz 0 xs,o:=q.st.o,u:=q.st.u }).2
  let gs:=ajy sp.bD sp.aT st0
  let st:=Lh gs st0
  let m:=derive sp.bD sp.aT st
  match keysB sp.bD sp.aT m&&ajw st0.go gs with
  |false=>.stuck 61
  |true=>match CQ sp.aT m st with
   |none=>.stuck 62
   |some vs=>match Tup.ofL sp.aT.tys vs with
    |none=>.stuck 63
    |some x=>.ret x
inductive LkC where
 |yes
 |no
 |len (n m:Nat)
def RQ:TO->TO->LkC
 |.box _,.box _=>.yes
 |.arr _ _ _ e l,.arr _ _ _ e' l'=>bif Nat.beq (size e) (size e') then .len (List.length (α:=Dt e) l) (List.length (α:=Dt e') l') else .no
 |.aO _ _ e _ l _,.aO _ _ e' _ l' _=>bif Nat.beq (size e) (size e') then .len (List.length (α:=Dt e) l) (List.length (α:=Dt e') l') else .no
 |_,_=>.no
def AA {R:Type} (a b:Nat->TO) (K:Prog R):List Nat->Prog R
 | []=>K
 |g::gs=>match RQ (a g) (b g) with
  |.yes=>AA a b K gs
  |.no=>.stuck 90
  |.len n m=>.chk (decide (n=m)) (AA a b K gs)
noncomputable def tfun (T:mG) (tt:TT) (ety:TypeId->Option Ty) (N:Nat) (sp:cZ) (ts:List ResultVar) (c:Code) (a:fQ) (x:Tup sp.pin.tys):Prog (Tup sp.aT.tys):=
 frX ⟨mkT sp.pin (Tup.lW sp.pin.tys x),[],[]⟩ fun q=>nV T tt ety N sp.bD c (Tup sp.aT.tys) a q { n:=afz tt sp ts,x:=fun _ _=>.stuck 64,r:=afz tt sp ts }
noncomputable def acC (T:mG) (tt:TT) (ety:TypeId->Option Ty) (N:Nat) (sp:cZ) (ts:List ResultVar) (c:Code) (a:fQ) (x:Tup sp.pin.tys):Prog (Tup sp.aT.tys):=
 match sp.er.ai2 with
 |true=>tfun T tt ety N sp ts c a x
 |false=>.join (tfun T tt ety N sp ts c a x) fun y=>AA (mkT sp.pin (Tup.lW sp.pin.tys x)).go (mkT sp.aT (Tup.lW sp.aT.tys y)).go (.ret y) sp.bD
end
end Go.Fg

namespace Go.Fg
open Go.Fw
theorem G9 (a b:Nat):(a==b)=Nat.beq a b:=by rw [vp];simp
theorem yA {α:Type} (d:α) :∀(l:List (Nat×α)) (t:Nat),jH d l t=match l.lookup t with | some x=>x | none=>d
 | [],t=>rfl
 |(k,v)::r,t=>by
  simp only [jH,List.lookup,G9];cases h:Nat.beq t k with
  |true=>rfl
  |false=>exact yA d r t
theorem qA {α:Type} (d:α) (k:Nat) (v:α) :∀(l:List (Nat×α)) (t:Nat),jH d (xX k v l) t=bif Nat.beq t k then v else jH d l t
 | [],t=>rfl
 |(k',v')::r,t=>by
  simp only [xX];cases h:Nat.beq k k' with
  |true=>
   simp only [cond_true,jH];have:k=k':=Q4 h;subst this;cases Nat.beq t k<;>rfl
  |false=>
   simp only [cond_false,jH,qA d k v r t];cases h1:Nat.beq t k' with
   |true=>
    have:t=k':=Q4 h1;subst this;have:Nat.beq t k=false:=by
     cases h2:Nat.beq t k with
     |false=>rfl
     |true=>have:=Q4 h2;subst this;simp at h
    rw [this];rfl
   |false=>rfl
theorem pO {α β:Type} (g:α->β) (t:Nat) :∀(l:List (Nat×α)),(l.map fun p=>(p.1,g p.2)).lookup t=(l.lookup t).map g
 | []=>rfl
 |(k,v)::r=>by
  simp only [Qf,List.lookup];cases t==k with
  |true=>rfl
  |false=>exact pO g t r
section
variable [RE] {β:Type 1}
theorem O4 (b:Bool) (k:Bool->β):frB b k=k b:=by cases b<;>rfl
theorem acD (x:TW) (k:TW->β):frW x k=k x:=by
 cases x with
 |p a i w=>obtain ⟨t,x⟩:=w;simp only [frW,O4]
 |sp a i t x off=>simp only [frW,O4]
 |_=>rfl
theorem O5 :∀(x:List TW) (k:List TW->β),acn x k=k x
 | [],k=>rfl
 |x::xs,k=>by simp only [acn,acD,O5 xs]
theorem acE (x:TV) (k:TV->β):frV x k=k x:=by cases x<;>simp only [frV,acD,O5]
theorem Xo :∀(x:List TV) (k:List TV->β),aft x k=k x
 | [],k=>rfl
 |x::xs,k=>by simp only [aft,acE,Xo xs]
theorem ajA (x:TS) (k:TS->β):frS x k=k x:=by cases x<;>simp only [frS,acE,Xo]
theorem CV :∀(t:Ty) (k:Ty->β),OU t k=k t
 |.int ik,k=>by cases ik<;>rfl
 |.bool,k=>rfl
 |.str,k=>rfl
 |.sl e,k=>by simp only [OU,CV e]
 |.prod a b,k=>by simp only [OU,CV a,CV b]
 |.st n,k=>rfl
 |.opq,k=>rfl
 |.sq e,k=>by simp only [OU,CV e]
theorem acF :∀(x:List (Nat×Ty)) (k:List (Nat×Ty)->β),frC x k=k x
 | [],k=>rfl
 |(c,t)::xs,k=>by simp only [frC,CV,acF xs]
theorem acG (x:Option (Nat×Nat×Nat)) (k:Option (Nat×Nat×Nat)->β):frH x k=k x:=by
 cases x with
 |none=>rfl
 |some p=>obtain ⟨n,c,d⟩:=p;rfl
theorem ajB (x:TO) (k:TO->β):frO x k=k x:=by cases x<;>simp only [frO,O5,O4,acF,acG]
theorem Xp :∀(x:List (Nat×TS)) (k:List (Nat×TS)->β),afu x k=k x
 | [],k=>rfl
 |(t,x)::xs,k=>by simp only [afu,ajA,Xp xs]
theorem Xq :∀(x:List (Nat×TO)) (k:List (Nat×TO)->β),afv x k=k x
 | [],k=>rfl
 |(t,x)::xs,k=>by simp only [afv,ajB,Xq xs]
theorem O6 :∀(x:List Nat) (k:List Nat->β),Le x k=k x
 | [],k=>rfl
 |x::xs,k=>by simp only [Le,O6 xs]
theorem tq (q:jO) (k:jO->β):frX q k=k q:=by
 obtain ⟨⟨s,o,u⟩,ds,od⟩:=q;simp only [frX,Xp,Xq,O6]
theorem afA (l:List (Nat×Nat)) (k:List (Nat×Nat)->β):afw l k=k l:=by
 induction l generalizing k with
 |nil=>rfl
 |cons p r ih=>obtain ⟨a,b⟩:=p;simp only [afw,ih]
theorem ajC (f:sU) (k:sU->β):frF f k=k f:=by simp only [frF,O6,acG,afA,O4]
end
section
variable [RE]
theorem uJ (vs:List Wd) (n:Nat):dB (vs.getD n Ar)=(vs.map dB).getD n default:=by
 simp only [List.getD_eq_getElem?_getD,XS];cases vs[n]?<;>rfl
theorem CW (vs:List Wd) (n:Nat) (k:kG):(Au vs n k).2=n+k.tys.length:=by cases k<;>simp [Au,kG.tys]
def wo (vs:List Wd) (n:Nat) (ts:List Ty):Prop :=∀(k:Nat) t,ts[k]?=some t->∃w,vs[n+k]?=some w/\w.t=t
theorem wo.left {vs:List Wd} {n:Nat} {a b:List Ty} (h:wo vs n (a++b)):wo vs n a:=fun k t hk=>h k t (by rw [W8 (Q3.1 hk).1];exact hk)
theorem wo.right {vs:List Wd} {n:Nat} {a b:List Ty} (h:wo vs n (a++b)):wo vs (n+a.length) b:=fun k t hk=>by
 obtain ⟨w,h1,h2⟩:=h (a.length+k) t (by rw [W5 (by omega)];simpa using hk);exact ⟨w,by rw [<-h1];congr 1;omega,h2⟩
theorem wo.of {vs:List Wd} {ts:List Ty} (h:vs.map (·.t)=ts):wo vs 0 ts:=fun k t hk=>by
 rw [<-h,XS,ZS] at hk;obtain ⟨w,h1,h2⟩:=hk;exact ⟨w,by simpa using h1,h2⟩
theorem wo.get {vs:List Wd} {n k:Nat} {t:Ty} {ts:List Ty} (h:wo vs n ts) (hk:ts[k]?=some t):dB (vs.getD (n+k) Ar)=dB ⟨t,(vs.getD (n+k) Ar).as t⟩:=by
 obtain ⟨w,h1,h2⟩:=h k t hk;have e1:vs.getD (n+k) Ar=w:=by rw [List.getD_eq_getElem?_getD,h1];rfl
 rw [e1,wO h2]
theorem MN :∀(gs:List Nat),nO (Ei gs)=gV gs
 | []=>rfl
 |g::gs=>by simp only [Ei,nO,bW,gV,MN gs]
theorem Xr {vs:List Wd} {n:Nat} {k:kG} (h:wo vs n k.tys):qm (vs.map dB) n k.er=(bW (Au vs n k).1,(Au vs n k).2):=by
 cases k with
 |vw g=>
  have h0:=h.get (k:=0) (t:=.int .i64) rfl;have h1:=h.get (k:=1) (t:=.int .i64) rfl;simp only [kG.er,qm,Au,bW,<-uJ];rw [Up] at h0;rw [h0,h1];rfl
 |ep g off=>
  have h0:=h.get (k:=0) (t:=.int .i64) rfl;simp only [kG.er,qm,Au,bW,<-uJ];rw [Up] at h0;rw [h0];rfl
 |fn f gs=>simp only [kG.er,qm,Au,bW,MN]
 |_=>simp only [kG.er,qm,Au,bW,nO,uJ]
theorem Es (vs:List Wd) :∀(n:Nat) (ks:List kG),(uF vs n ks).2=n+(ks.flatMap kG.tys).length
 |n,[]=>rfl
 |n,k::ks=>by simp only [uF,Es vs,CW,Z6,Ys];omega
theorem Jz {vs:List Wd} :∀{n:Nat} {ks:List kG},wo vs n (ks.flatMap kG.tys)->kY (vs.map dB) n (ks.map kG.er)=((uF vs n ks).1.map bW,(uF vs n ks).2)
 |n,[],_=>rfl
 |n,k::ks,h=>by
  rw [Z6] at h;have h2:=h.right;simp only [Qf,kY,uF,Xr h.left,CW];rw [Jz h2]
theorem CX (vs:List Wd) (n:Nat) (k:kL):(Gz vs n k).2=n+k.tys.length:=by
 cases k<;>simp only [Gz,kL.tys,CW,Es]
theorem afB {vs:List Wd} {n:Nat} {k:kL} (h:wo vs n k.tys):mkS (vs.map dB) n k.er=(bn (Gz vs n k).1,(Gz vs n k).2):=by
 cases k with
 |one k=>simp only [kL.er,mkS,Gz,bn,jM,Xr h]
 |agg ks=>simp only [kL.er,mkS,Gz,bn,jM,Jz h]
theorem FT {vs:List Wd} :∀{n:Nat} {l:List (Nat×kL)},wo vs n (l.flatMap fun p=>p.2.tys)->dI (vs.map dB) n (l.map fun p=>(p.1,p.2.er))=((gQ vs n l).1.map fun p=>(p.1,bn p.2),(gQ vs n l).2)
 |n,[],_=>rfl
 |n,(t,k)::l,h=>by
  rw [Z6] at h;have h2:=h.right;simp only [Qf,dI,gQ,afB h.left,CX];rw [FT h2]
theorem wu (vs:List Wd) :∀(n:Nat) (l:List (Nat×kL)),(gQ vs n l).2=n+(l.flatMap fun p=>p.2.tys).length
 |n,[]=>rfl
 |n,(t,k)::l=>by simp only [gQ,wu vs,CX,Z6,Ys];omega
theorem afC {vs:List Wd} {n:Nat} {k:iO} (h:wo vs n k.tys):tV (vs.map dB) n k.er=(eF (Em vs n k).1,(Em vs n k).2):=by
 cases k with
 |box ws=>simp only [iO.er,tV,Em,eF,Jz h]
 |arr fz a i e=>
  obtain ⟨w,h1,h2⟩:=h 0 (.sl e) rfl;have e1:(vs.getD n Ar)=w:=by simp only [List.getD_eq_getElem?_getD];rw [show vs[n]?=some w from h1];rfl
  simp only [iO.er,tV,Em,eF,<-uJ,e1];have e2:=wO h2;have e3:(dB w).list=aI e (w.as (.sl e)):=by
   conv=>lhs;rw [<-e2]
   exact jy e _
  rw [e3]
 |it=>
  obtain ⟨w1,h1,h2⟩:=h 0 .str rfl;obtain ⟨w2,h3,h4⟩:=h 1 (.int .i64) rfl;have e1:(vs.getD n Ar)=w1:=by simp only [List.getD_eq_getElem?_getD];rw [show vs[n]?=some w1 from h1];rfl
  have e2:(vs.getD (n+1) Ar)=w2:=by simp only [List.getD_eq_getElem?_getD];rw [show vs[n+1]?=some w2 from h3];rfl
  simp only [iO.er,tV,Em,eF,<-uJ,e1,e2];have a1:=wO h2;have a2:=wO h4
  conv=>lhs;rw [<-a1,<-a2]
  rfl
 |aO a i e aj=>
  obtain ⟨w,h1,h2⟩:=h 0 (.sl e) rfl;have e1:(vs.getD n Ar)=w:=by simp only [List.getD_eq_getElem?_getD];rw [show vs[n]?=some w from h1];rfl
  simp only [iO.er,tV,Em,eF,<-uJ,e1];have e2:=wO h2;have e3:(dB w).list=aI e (w.as (.sl e)):=by
   conv=>lhs;rw [<-e2]
   exact jy e _
  rw [e3]
theorem JA (vs:List Wd) (n:Nat) (k:iO):(Em vs n k).2=n+k.tys.length:=by cases k<;>simp only [Em,iO.tys,Es]<;>rfl
theorem JB {vs:List Wd} :∀{n:Nat} {l:List (Nat×iO)},wo vs n (l.flatMap fun p=>p.2.tys)->gW (vs.map dB) n (l.map fun p=>(p.1,p.2.er))=((jQ vs n l).1.map fun p=>(p.1,eF p.2),(jQ vs n l).2)
 |n,[],_=>rfl
 |n,(g,k)::l,h=>by
  rw [Z6] at h;simp only [Qf,gW,jQ,afC h.left,JA];rw [JB h.right]
theorem yB {j:MG} {vs:List Wd} (h:vs.map (·.t)=j.tys):bg (mkT j vs)=mk j.er (vs.map dB):=by
 have hs:=FT (vs:=vs) (n:=0) (l:=j.slots) (by
  have:=(wo.of h);unfold MG.tys at this;exact this.left)
 have h2:wo vs (gQ vs 0 j.slots).2 (j.bf.flatMap fun p=>p.2.tys):=by
  have:=(wo.of h);unfold MG.tys at this;have:=this.right;rw [wu];exact this
 have ho:=JB h2;have e1:(dI (vs.map dB) 0 j.er.slots)=_:=hs;have e2:gW (vs.map dB) (gQ vs 0 j.slots).2 j.er.bf=_:=ho;unfold Fw.mk;rw [e1];simp only [e2];refine St.ext' (fun t => ?_) (fun g => ?_) fun g => ?_
 .simp only [bg,kF.gs,mkT,yA,pO];cases (gQ vs 0 j.slots).1.lookup t<;>rfl
 .simp only [bg,kF.go,mkT,yA,pO];cases (jQ vs (gQ vs 0 j.slots).2 j.bf).1.lookup g<;>rfl
 .simp only [bg,mkT,bU,Shape.nms,MG.er,Vv];rfl
variable {m:Ren}
theorem CY {a:Bool} {α:Type} {x y:α} (h:(bif a then some x else none)=some y):a=true/\x=y:=by
 cases a
 .cases h
 .exact ⟨rfl,by simpa using h⟩
theorem JC :∀{gs:List Nat} {caps:List TW},G7 m gs caps=sN m gs (nO caps)
 | [],[]=>rfl
 | [],c::cs=>by cases c<;>rfl
 |g::gs,[]=>rfl
 |g::gs,c::cs=>by
  cases c<;>first | (simp only [G7,nO,bW,sN,JC (gs:=gs) (caps:=cs)];done) | rfl
theorem Xt {k:kG} {x:TW} {us:List Wd} (h:Ej m k x=some us):KE m k.er (bW x)=some (us.map dB)/\us.map (·.t)=k.tys:=by
 cases k<;>cases x<;>try simp only [Ej,reduceCtorEq] at h
 case p.p a i t a' i' w=>
  split at h
  .rename_i z hz;obtain ⟨h1,rfl⟩:=CY h;have hc:((imp a' a&&imp i' i)||(dB w).flat)=true:=by
    simp only [Jx] at h1 ⊢;exact h1.imp id Zv
   refine ⟨?_,by simp [kG.tys,ajh hz]⟩;show (if ((imp a' a&&imp i' i)||(dB w).flat)=true then some [dB w] else none)=_;rw [if_pos hc];rfl
  .cases h
 case p.dF a i t=>
  split at h
  .simp only [Q0] at h;subst h;exact ⟨rfl,rfl⟩
  .cases h
 case dF.dF=>simp only [Q0] at h;subst h;exact ⟨rfl,rfl⟩
 case own.own g g'=>
  split at h
  .rename_i hc;simp only [Q0] at h;subst h;refine ⟨?_,rfl⟩;show (if m.lookup g=some (some g') then some [] else none)=_;rw [if_pos hc];rfl
  .cases h
 case own.dF g=>
  split at h
  .rename_i hc;simp only [Q0] at h;subst h;refine ⟨?_,rfl⟩;show (if m.lookup g=some none then some [] else none)=_;rw [if_pos hc];rfl
  .cases h
 case box.box g off g' off'=>
  split at h
  .rename_i hc;simp only [Q0] at h;subst h;refine ⟨?_,rfl⟩;show (if m.lookup g=some (some g')/\off=off' then some [] else none)=_;rw [if_pos hc];rfl
  .cases h
 case fn.clo f gs f' caps=>
  obtain ⟨hc,rfl⟩:=CY h;simp only [Qt] at hc;refine ⟨?_,rfl⟩;show (if f=f'/\sN m gs (nO caps)=true then some [] else none)=_;rw [if_pos ⟨Q4 hc.1,by rw [<-JC];exact hc.2⟩];rfl
 case ni.ni g g'=>
  split at h
  .rename_i hc;simp only [Q0] at h;subst h;refine ⟨?_,rfl⟩;show (if m.lookup g=some (some g') then some [] else none)=_;rw [if_pos hc];rfl
  .cases h
 case vw.vw g g' lo hi=>
  split at h
  .rename_i hc;simp only [Q0] at h;subst h;refine ⟨?_,rfl⟩;show (if m.lookup g=some (some g') then some [P.int .i64 lo,P.int .i64 hi] else none)=_;rw [if_pos hc];rfl
  .cases h
 case ep.ep g off g' n off'=>
  split at h
  .rename_i hc;simp only [Q0] at h;subst h;refine ⟨?_,rfl⟩;show (if m.lookup g=some (some g')/\off=off' then some [P.int .i64 n] else none)=_;rw [if_pos hc];rfl
  .cases h
 all_goals (simp only [Q0] at h;subst h;exact ⟨rfl,rfl⟩)
theorem JD :∀{ks:List kG} {xs:List TW} {us:List Wd},yj m ks xs=some us->KR m (ks.map kG.er) (xs.map bW)=some (us.map dB)/\us.map (·.t)=ks.flatMap kG.tys
 | [],[],us,h=>by simp only [yj,Q0] at h;subst h;exact ⟨rfl,rfl⟩
 | [],x::xs,us,h=>by simp [yj] at h
 |k::ks,[],us,h=>by simp [yj] at h
 |k::ks,x::xs,us,h=>by
  simp only [yj] at h;split at h
  .rename_i u v h1 h2;simp only [Q0] at h;subst h;obtain ⟨a1,a2⟩:=Xt h1;obtain ⟨b1,b2⟩:=JD h2;exact ⟨by simp only [Qf,KR,a1,b1,Xs],by simp only [Xs,a2,b2,Z6]⟩
  .cases h
theorem Xu {k:kL} {x:TS} {us:List Wd} (h:afs m k x=some us):coS m k.er (bn x)=some (us.map dB)/\us.map (·.t)=k.tys:=by
 unfold afs at h;split at h
 .exact Xt h
 .exact JD h
 .cases h
theorem Xv {k:iO} {x:TO} {us:List Wd} (h:Vo m k x=some us):coO m k.er (eF x)=some (us.map dB)/\us.map (·.t)=k.tys:=by
 unfold Vo at h;split at h
 .exact JD h
 .rename_i fz a i e fz' a' i' e' l;split at h
  .rename_i l' hl;split at h
   .rename_i hc;simp only [Q0] at h;subst h;obtain ⟨ee,hl⟩:=oP hl;cases ee;subst hl;refine ⟨?_,rfl⟩;show (if fz=fz'/\size e=size e/\(imp a' a&&imp i' i)=true then some [P.gq (size e) (aI e _)] else none)=_;rw [if_pos ⟨hc.1,rfl,hc.2⟩];rfl
   .cases h
  .cases h
 .simp only [Q0] at h;subst h;exact ⟨rfl,rfl⟩
 .rename_i a i e aj a' i' e' kJ l hole;split at h
  .rename_i l' hl hcb;split at h
   .rename_i hc;simp only [Q0] at h;subst h;obtain ⟨ee,hl⟩:=oP hl;cases ee;subst hl;have:=oQ hcb;subst this;refine ⟨?_,rfl⟩;show (if size e=size e/\jd aj=jd aj/\(imp a' a&&imp i' i)=true then some [P.gq (size e) (aI e _)] else none)=_;rw [if_pos ⟨rfl,rfl,hc⟩];rfl
   .cases h
  .cases h
 .cases h
theorem FU {st:kF} :∀{l:List (Nat×kL)} {us:List Wd},nS m st.gs l=some us->rG m (bg st).s (l.map fun p=>(p.1,p.2.er))=some (us.map dB)/\us.map (·.t)=l.flatMap fun p=>p.2.tys
 | [],us,h=>by simp only [nS,Q0] at h;subst h;exact ⟨rfl,rfl⟩
 |(t,k)::l,us,h=>by
  simp only [nS] at h;split at h
  .rename_i u v h1 h2;simp only [Q0] at h;subst h;obtain ⟨a1,a2⟩:=Xu h1;obtain ⟨b1,b2⟩:=FU h2;refine ⟨?_,by simp only [Xs,a2,b2,Z6]⟩;have a1:coS m k.er ((bg st).s t)=_:=a1;simp only [Qf,rG,a1,b1,Xs]
  .cases h
theorem JE {st:kF} :∀{l:List (Nat×iO)} {us:List Wd},ql m st.go l=some us->vO m (bg st).o (l.map fun p=>(p.1,p.2.er))=some (us.map dB)/\us.map (·.t)=l.flatMap fun p=>p.2.tys
 | [],us,h=>by simp only [ql,Q0] at h;subst h;exact ⟨rfl,rfl⟩
 |(g',k)::l,us,h=>by
  simp only [ql] at h;split at h
  .rename_i u v h1 h2;simp only [Q0] at h;subst h;obtain ⟨b1,b2⟩:=JE h2;cases hg:m.lookup g' with
   |none=>rw [hg] at h1;cases h1
   |some og=>
    rw [hg] at h1;cases og with
    |some g=>
     obtain ⟨a1,a2⟩:=Xv h1;have a1:coO m k.er ((bg st).o g)=_:=a1;refine ⟨?_,by simp only [Xs,a2,b2,Z6]⟩;simp only [Qf,vO,hg,a1,b1,Xs]
    |none=>
     simp only at h1;split at h1
     .simp only [Q0] at h1;subst h1;refine ⟨?_,by simp only [Xs,b2,Z6];rfl⟩;simp only [Qf,vO,hg,b1,Xs];rfl
     .simp only [Q0] at h1;subst h1;refine ⟨?_,by simp only [Xs,b2,Z6];rfl⟩;simp only [Qf,vO,hg,b1,Xs];rfl
     .cases h1
  .cases h
theorem JG {j:MG} {st:kF} {vs:List Wd} (h:CQ j m st=some vs):coerce j.er m (bg st)=some (vs.map dB)/\vs.map (·.t)=j.tys:=by
 unfold CQ at h;split at h
 .rename_i hok;split at h
  .rename_i u v h1 h2;simp only [Q0] at h;subst h;obtain ⟨a1,a2⟩:=FU h1;obtain ⟨b1,b2⟩:=JE h2;refine ⟨?_,by simp only [Xs,a2,b2,MG.tys]⟩;unfold coerce;rw [if_pos hok];show (match rG m (bg st).s (j.slots.map fun p=>(p.1,p.2.er)),vO m (bg st).o (j.bf.map fun p=>(p.1,p.2.er)) with | some u,some v=>some (u++v) | _,_=>none)=_;rw [a1,b1,Xs]
  .cases h
 .cases h
end
end Go.Fg

namespace Go.Fg
open Go.Fw
section
variable [RE] {o:Nat->TO}
theorem yC :∀{gs:List Nat} {caps:List TW} {r:List (Nat×Nat)},pJ gs caps=some r->nM gs (nO caps)=some r
 | [],[],r,h=>h
 | [],_::_,r,h=>by simp [pJ] at h
 |_::_,[],r,h=>by simp [pJ] at h
 |g::gs,c::cs,r,h=>by
  cases c with
  |box g' off=>
   simp only [pJ] at h;obtain ⟨hb,h⟩:=bQ h;have hb:=Q4 hb;subst hb;split at h
   .rename_i r' hr;simp only [nO,bW,nM,yC hr];exact h
   .cases h
  |_=>simp [pJ] at h
theorem RU {k:kG} {x:TW} {us:List Wd} {c:Bool×Bool} {gs:List Nat} {r:List (Nat×Nat)} (h:MH o k x=some (us,c,gs,r)) :
  fV (bZ o) k.er (bW x)=some (us.map dB,c,gs,r)/\us.map (·.t)=k.tys:=by
 unfold MH at h;split at h
 .rename_i a i t x;split at h
  .rename_i y a' i' gs' hx;simp only [Q0,Q1] at h;obtain ⟨rfl,rfl,rfl,rfl⟩:=h;exact ⟨by simp only [kG.er,fV,OE hx,Qf,Vn],rfl⟩
  .cases h
 .simp only [Q0,Q1] at h;obtain ⟨rfl,rfl,rfl,rfl⟩:=h;exact ⟨rfl,rfl⟩
 .rename_i g' off' g off;obtain ⟨hb,h⟩:=bQ h;simp only [Q0,Q1] at h;obtain ⟨rfl,rfl,rfl,rfl⟩:=h;obtain ⟨h1,h2⟩:=iJ hb;have h1:=Q4 h1;have h2:=Q4 h2;subst h1;subst h2;exact ⟨rfl,rfl⟩
 .rename_i f gs0 f' caps;obtain ⟨hb,h⟩:=bQ h;split at h
  .rename_i r' hr;simp only [Q0,Q1] at h;obtain ⟨rfl,rfl,rfl,rfl⟩:=h;refine ⟨?_,rfl⟩;simp only [kG.er,bW,fV,yC hr];rw [if_pos (Q4 hb)];rfl
  .cases h
 .cases h
theorem MO :∀{ks:List kG} {xs:List TW} {us:List Wd} {c:Bool×Bool} {gs:List Nat} {r:List (Nat×Nat)},pX o ks xs=some (us,c,gs,r)->
  jJ (bZ o) (ks.map kG.er) (xs.map bW)=some (us.map dB,c,gs,r)/\us.map (·.t)=ks.flatMap kG.tys
 | [],[],us,c,gs,r,h=>by
  simp only [pX,Q0,Q1] at h;obtain ⟨rfl,rfl,rfl,rfl⟩:=h;exact ⟨rfl,rfl⟩
 | [],x::xs,us,c,gs,r,h=>by simp [pX] at h
 |k::ks,[],us,c,gs,r,h=>by simp [pX] at h
 |k::ks,x::xs,us,c,gs,r,h=>by
  simp only [pX] at h;split at h
  .rename_i h1 h2;simp only [Q0,Q1] at h;obtain ⟨rfl,rfl,rfl,rfl⟩:=h;obtain ⟨a1,a2⟩:=RU h1;obtain ⟨b1,b2⟩:=MO h2;exact ⟨by simp only [Qf,jJ,a1,b1,Xs],by simp only [Xs,a2,b2,Z6]⟩
  .cases h
theorem acH {k:kL} {x:TS} {us:List Wd} {c:Bool×Bool} {gs:List Nat} {r:List (Nat×Nat)} (h:Xf o k x=some (us,c,gs,r)) :
  oH (bZ o) k.er (bn x)=some (us.map dB,c,gs,r)/\us.map (·.t)=k.tys:=by
 unfold Xf at h;split at h
 .exact RU h
 .exact MO h
 .cases h
theorem MP (args:List TS) (t:Nat):(args.map bn).getD t .no=bn (args.getD t .no):=by
 simp only [List.getD_eq_getElem?_getD,XS];cases args[t]?<;>rfl
theorem CZ {args:List TS} :∀{l:List (Nat×kL)} {us:List Wd} {c:Bool×Bool} {gs:List Nat} {r:List (Nat×Nat)},mZ o args l=some (us,c,gs,r)->
  fD (bZ o) (args.map bn) (l.map fun p=>(p.1,p.2.er))=some (us.map dB,c,gs,r)/\us.map (·.t)=l.flatMap fun p=>p.2.tys
 | [],us,c,gs,r,h=>by
  simp only [mZ,Q0,Q1] at h;obtain ⟨rfl,rfl,rfl,rfl⟩:=h;exact ⟨rfl,rfl⟩
 |(t,k)::l,us,c,gs,r,h=>by
  simp only [mZ] at h;split at h
  .rename_i h1 h2;simp only [Q0,Q1] at h;obtain ⟨rfl,rfl,rfl,rfl⟩:=h;obtain ⟨a1,a2⟩:=acH h1;obtain ⟨b1,b2⟩:=CZ h2;rw [<-MP] at a1;exact ⟨by simp only [Qf,fD,a1,b1,Xs],by simp only [Xs,a2,b2,Z6]⟩
  .cases h
theorem afD {k:kG} {x:TW} {us:List Wd} {c:Bool×Bool} {r:List (Nat×Nat)} (h:ajr k x=some (us,c,r)):Un k.er (bW x)=some (us.map dB,c,r)/\us.map (·.t)=k.tys:=by
 unfold ajr at h;split at h
 .rename_i a' i' t a i w;split at h
  .rename_i y hy;simp only [Q0,Q1] at h;obtain ⟨rfl,rfl,rfl⟩:=h;rw [h_ hy];exact ⟨rfl,rfl⟩
  .cases h
 .split at h
  .simp only [Q0,Q1] at h;obtain ⟨rfl,rfl,rfl⟩:=h;exact ⟨rfl,rfl⟩
  .cases h
 .simp only [Q0,Q1] at h;obtain ⟨rfl,rfl,rfl⟩:=h;exact ⟨rfl,rfl⟩
 .rename_i g' off' g off;obtain ⟨hb,h⟩:=bQ h;simp only [Qt] at hb;have e1:=Q4 hb.1;have e2:=Q4 hb.2;subst e1;subst e2;injection h with h
  injection h with h1 h
  injection h with h2 h3
  subst h1 h2 h3;exact ⟨rfl,rfl⟩
 .rename_i f gs0 f' caps;obtain ⟨hb,h⟩:=bQ h;split at h
  .rename_i r' hr;simp only [Q0,Q1] at h;obtain ⟨rfl,rfl,rfl⟩:=h;refine ⟨?_,rfl⟩;simp only [kG.er,bW,Un,yC hr];rw [if_pos (Q4 hb)];rfl
  .cases h
 .cases h
theorem RV :∀{ks:List kG} {xs:List TW} {us:List Wd} {c:Bool×Bool} {r:List (Nat×Nat)},Jr ks xs=some (us,c,r)->
  Oh (ks.map kG.er) (xs.map bW)=some (us.map dB,c,r)/\us.map (·.t)=ks.flatMap kG.tys
 | [],[],us,c,r,h=>by
  simp only [Jr,Q0,Q1] at h;obtain ⟨rfl,rfl,rfl⟩:=h;exact ⟨rfl,rfl⟩
 | [],x::xs,us,c,r,h=>by simp [Jr] at h
 |k::ks,[],us,c,r,h=>by simp [Jr] at h
 |k::ks,x::xs,us,c,r,h=>by
  simp only [Jr] at h;split at h
  .rename_i h1 h2;simp only [Q0,Q1] at h;obtain ⟨rfl,rfl,rfl⟩:=h;obtain ⟨a1,a2⟩:=afD h1;obtain ⟨b1,b2⟩:=RV h2;exact ⟨by simp only [Qf,Oh,a1,b1,Xs],by simp only [Xs,a2,b2,Z6]⟩
  .cases h
theorem wz :∀{l:List (Nat×iO)} {ren ren':List (Nat×Nat)} {us:List Wd} {c:Bool×Bool},vY o ren l=some (us,c,ren')->
  jG (bZ o) ren (l.map fun p=>(p.1,p.2.er))=some (us.map dB,c,ren')/\us.map (·.t)=l.flatMap fun p=>p.2.tys
 | [],ren,ren',us,c,h=>by
  simp only [vY,Q0,Q1] at h;obtain ⟨rfl,rfl,rfl⟩:=h;exact ⟨rfl,rfl⟩
 |(g',k)::l,ren,ren',us,c,h=>by
  simp only [vY] at h;split at h
  .rename_i g hg;split at h
   .rename_i ks ws hog;split at h
    .rename_i u c1 r1 h1;split at h
     .rename_i u' c2 r2 h2;simp only [Q0,Q1] at h;obtain ⟨rfl,rfl,rfl⟩:=h;obtain ⟨a1,a2⟩:=RV h1;obtain ⟨b1,b2⟩:=wz h2;have hk:(iO.box ks).er=.box (ks.map kG.er):=rfl;exact ⟨by simp only [Qf,jG,hg,hk,oN hog,a1,b1,Xs],by simp only [Xs,a2,b2,Z6];rfl⟩
     .cases h
    .cases h
   .rename_i fz a0 i0 e a i e' l' hog;split at h
    .rename_i l2 hl;split at h
     .rename_i u' c2 r2 h2;simp only [Q0,Q1] at h;obtain ⟨rfl,rfl,rfl⟩:=h;obtain ⟨b1,b2⟩:=wz h2;obtain ⟨ee,hl⟩:=oP hl;cases ee;subst hl;refine ⟨?_,by simp only [Qf,b2,Z6];rfl⟩;have hk:(iO.arr fz a0 i0 e).er=.arr fz a0 i0 (size e):=rfl;simp only [Qf,jG,hg,hk,iy hog,if_true,b1];rfl
     .cases h
    .cases h
   .rename_i a0 i0 e aj a i e' kJ l' hole hog;split at h
    .rename_i l2 hl hcb;split at h
     .rename_i u' c2 r2 h2;simp only [Q0,Q1] at h;obtain ⟨rfl,rfl,rfl⟩:=h;obtain ⟨b1,b2⟩:=wz h2;obtain ⟨ee,hl⟩:=oP hl;cases ee;subst hl;have:=oQ hcb;subst this;refine ⟨?_,by simp only [Qf,b2,Z6];rfl⟩;have hk:(iO.aO a0 i0 e aj).er=.aO a0 i0 (size e) (jd aj):=rfl;have hg':bZ o g=.aO a i (size e) (jd aj) (aI e l2) none:=by simp only [bZ,hog,eF]
      simp only [Qf,jG,hg,hk,hg',and_self,if_true,b1];rfl
     .cases h
    .cases h
   .cases h
  .cases h
theorem Xw {k:kG} {x:TW} {us:List Wd} {c:Bool×Bool} {gs:List Nat} {r:List (Nat×Nat)} (h:MH o k x=some (us,c,gs,r)):Pl o gs:=by
 unfold MH at h;split at h
 .split at h
  .rename_i hx;simp only [Q0,Q1] at h;obtain ⟨_,_,rfl,_⟩:=h;exact U9 hx
  .cases h
 .simp only [Q0,Q1] at h;obtain ⟨_,_,rfl,_⟩:=h;exact Pl.nil
 .obtain ⟨hb,h⟩:=bQ h;simp only [Q0,Q1] at h;obtain ⟨_,_,rfl,_⟩:=h;exact Pl.nil
 .obtain ⟨hb,h⟩:=bQ h;split at h
  .simp only [Q0,Q1] at h;obtain ⟨_,_,rfl,_⟩:=h;exact Pl.nil
  .cases h
 .cases h
theorem RY :∀{ks:List kG} {xs:List TW} {us:List Wd} {c:Bool×Bool} {gs:List Nat} {r:List (Nat×Nat)},pX o ks xs=some (us,c,gs,r)->Pl o gs
 | [],[],us,c,gs,r,h=>by
  simp only [pX,Q0,Q1] at h;obtain ⟨_,_,rfl,_⟩:=h;exact Pl.nil
 | [],x::xs,us,c,gs,r,h=>by simp [pX] at h
 |k::ks,[],us,c,gs,r,h=>by simp [pX] at h
 |k::ks,x::xs,us,c,gs,r,h=>by
  simp only [pX] at h;split at h
  .rename_i h1 h2;simp only [Q0,Q1] at h;obtain ⟨_,_,rfl,_⟩:=h;exact (Xw h1).append (RY h2)
  .cases h
theorem FV {args:List TS} :∀{l:List (Nat×kL)} {us:List Wd} {c:Bool×Bool} {gs:List Nat} {r:List (Nat×Nat)},mZ o args l=some (us,c,gs,r)->Pl o gs
 | [],us,c,gs,r,h=>by
  simp only [mZ,Q0,Q1] at h;obtain ⟨_,_,rfl,_⟩:=h;exact Pl.nil
 |(t,k)::l,us,c,gs,r,h=>by
  simp only [mZ] at h;split at h
  .rename_i h1 h2;simp only [Q0,Q1] at h;obtain ⟨_,_,rfl,_⟩:=h;refine Pl.append ?_ (FV h2);unfold Xf at h1;split at h1
   .exact Xw h1
   .exact RY h1
   .cases h1
  .cases h
theorem ZK {s:cZ} {args:List TS} {c:GH} (h:y9 s o args=some c):Pl o c.uZ:=by
 unfold y9 at h;split at h
 .rename_i h1;split at h
  .simp only [Q0] at h;subst h;exact FV h1
  .cases h
 .cases h
theorem JH {s:cZ} {args:List TS} {c:GH} (h:y9 s o args=some c):iM s.er (bZ o) (args.map bn)=some c.er/\c.ins.map (·.t)=s.pin.tys:=by
 unfold y9 at h;split at h
 .rename_i u A gs r h1;split at h
  .rename_i u' I r' h2;simp only [Q0] at h;subst h;obtain ⟨a1,a2⟩:=CZ h1;obtain ⟨b1,b2⟩:=wz h2;refine ⟨?_,by simp only [Xs,a2,b2,MG.tys]⟩;unfold iM;have a1:fD (bZ o) (args.map bn) s.er.pin.slots=_:=a1;have b1:jG (bZ o) r s.er.pin.bf=_:=b1;rw [a1];simp only;rw [b1];simp only [GH.er,Xs]
  .cases h
 .cases h
theorem FW (f:Nat->Nat) :∀(caps:List TW),nO (yu f caps)=kR f (nO caps)
 | []=>rfl
 |c::cs=>by cases c<;>simp only [yu,nO,bW,kR,FW f cs]
theorem Xx (A I:Bool×Bool) (f:Nat->Nat) (x:TW):bW (ZI A I f x)=Uo A I f (bW x):=by cases x<;>simp only [ZI,bW,Uo,FW]
theorem RZ (A I:Bool×Bool) (f:Nat->Nat) (xs:List TW):(xs.map (ZI A I f)).map bW=(xs.map bW).map (Uo A I f):=by
 simp only [Vv];exact ZZ fun x _=>Xx A I f x
theorem afE (A I:Bool×Bool) (f:Nat->Nat) (x:TV):jM (ajs A I f x)=reV A I f (jM x):=by
 cases x<;>simp only [ajs,jM,reV,Xx,RZ]
theorem afF (A I:Bool×Bool) (f:Nat->Nat) (x:TS):jM (ach A I f x)=WI A I f (bn x):=by
 cases x with
 |v x=>exact afE A I f x
 |jq xs=>simp only [ach,bn,WI,jM,bW]
 |no=>simp only [ach,bn,WI,jM,bW]
theorem O7 (A I:Bool×Bool) (f:Nat->Nat) (x:TO):eF (OT A I f x)=wY A I f (eF x):=by
 cases x<;>simp only [OT,eF,wY,RZ]
theorem acI (vs:List TV):bn (aci vs)=Y8 (vs.map jM):=by
 match vs with
 | []=>rfl
 | [x]=>rfl
 |x::y::vs=>rfl
theorem Xy {α β:Type} (g:α->β) (b:Bool) (x y:α):g (bif b then x else y)=if b=true then g x else g y:=by cases b<;>rfl
theorem R_ {s:cZ} {d:Nat} {c:GH} {dH:List Wd} (h:dH.map (·.t)=s.aT.tys) (hpl:Pl o c.uZ):(uG s d o c dH).er=kT s.er d (bZ o) c.er (dH.map dB):=by
 have hm:=yB h;have hs :∀k,bn ((mkT s.aT dH).gs k)=(mk s.aT.er (dH.map dB)).s k:=fun k=>by rw [<-hm];rfl
 have ho :∀k,eF ((mkT s.aT dH).go k)=(mk s.aT.er (dH.map dB)).o k:=fun k=>by rw [<-hm];rfl
 have e1:s.er.aT=s.aT.er:=rfl;have e2:s.er.bD=s.bD:=rfl;have e3:s.er.aV=s.aV:=rfl;have e4:s.er.cu=s.cu:=rfl;have c1:c.er.A=c.A:=rfl;have c2:c.er.I=c.I:=rfl;have c3:c.er.uZ=c.uZ:=rfl;have c4:c.er.ren=c.ren:=rfl;unfold uG kT ku.er;rw [e1,e2,e3,e4,c1,c2,c3,c4];generalize mk s.aT.er (dH.map dB)=M at hs ho;generalize mkT s.aT dH=X at hs ho;generalize s.er.mD=L;have k1:bn (aci ((List.range s.cu).map fun k=>ach c.A c.I (callName d s.er c.ren) (X.gs k)))=Y8 ((List.range s.cu).map fun k=>WI c.A c.I (callName d s.er c.ren) (M.s k)):=by
  rw [acI,Vv];congr 1;refine ZZ fun k _ => ?_;simp only [Function.comp,afF,hs]
 have k2:iT (bif L then c.uZ.map (lK o) else [])=if L=true then c.uZ.map (Fw.aW (bZ o)) else []:=by
  rw [Xy iT,pG hpl];rfl
 have k3:iT (c.ren.map fun p=>(p.2,bif s.bD.contains p.1 then OT c.A c.I (callName d s.er c.ren) (X.go p.1) else .none))=c.ren.map fun p=>(p.2,if s.bD.contains p.1=true then wY c.A c.I (callName d s.er c.ren) (M.o p.1) else .none):=by
  simp only [iT,Vv];refine ZZ fun p _ => ?_;simp only [Function.comp,Xy eF,O7,ho];rfl
 have k4:iT (s.aV.map fun g=>(callName d s.er c.ren g,OT c.A c.I (callName d s.er c.ren) (X.go g)))=s.aV.map fun g=>(callName d s.er c.ren g,wY c.A c.I (callName d s.er c.ren) (M.o g)):=by
  simp only [iT,Vv];refine ZZ fun p _ => ?_;simp only [Function.comp,O7,ho]
 simp only [lC,k1,k2,k3,k4]
theorem G_ (ts:List Ty) :∀{ws:List Wd} {x:Tup ts},Tup.ofL ts ws=some x->Tup.lW ts x=ws:=by
 induction ts with
 |nil=>
  intro ws x h;cases ws with
  |nil=>rfl
  |cons w ws=>cases h
 |cons t ts ih=>
  cases ts with
  |nil=>
   intro ws x h;cases ws with
   |nil=>cases h
   |cons w ws=>
    cases ws with
    |nil=>
     have h:w.Bh t=some x:=h;rw [h_ h];rfl
    |cons u ws=>cases h
  |cons u ts=>
   intro ws x h;cases ws with
   |nil=>cases h
   |cons w ws=>
    have h:(match w.Bh t,Tup.ofL (u::ts) ws with | some x,some xs=>some (x,xs) | _,_=>none)=some x:=h;split at h
    .rename_i y ys h1 h2;cases h;show (⟨t,y⟩:Wd)::Tup.lW (u::ts) ys=w::ws;rw [ih h2,h_ h1]
    .cases h
theorem wB :∀(ts:List Ty) (x:Tup ts),(Tup.lW ts x).map (·.t)=ts
 | [],x=>rfl
 | [t],x=>rfl
 |t::u::ts,x=>by simp only [Tup.lW,Qf,wB (u::ts)]
def aU.er (s:aU):Fw.Spec:={ sig:=s.sig.er,R:=fun ins dH =>∃x y,s.ff x=some y/\ins=(Tup.lW s.sig.pin.tys x).map dB/\dH=(Tup.lW s.sig.aT.tys y).map dB }
theorem Si {A R:Type} {x y:A} {r:Option R} {z:R} (h:yt x y r=some z):x=y/\r=some z:=by
 unfold yt at h;split at h
 .rename_i e;exact ⟨e,h⟩
 .cases h
theorem AB {R:Type} {a b:Nat->TO} {r z:R} :∀{gs:List Nat},Jq a b r gs=some z->r=z/\∀g∈gs,rH (eF (b g))=rH (eF (a g))
 | [],h=>by simp only [Jq,Q0] at h;exact ⟨h,fun g hg=>by cases hg⟩
 |g::gs,h=>by
  simp only [Jq] at h;split at h
  .rename_i e l _ _ e' l' h1 h2;split at h
   .rename_i l'' hl;obtain ⟨e1,h⟩:=Si h;obtain ⟨q1,q2⟩:=AB h;refine ⟨q1,fun g' hg => ?_⟩;rcases QQ.1 hg with rfl | hg
    .rw [h1,h2];subst e1;obtain ⟨ee,hl⟩:=oP hl;cases ee;subst hl;rfl
    .exact q2 g' hg
   .cases h
  .rename_i e aj l _ _ e' kJ l' h1 h2;split at h
   .rename_i l'' hl hcb;obtain ⟨e1,h⟩:=Si h;obtain ⟨q1,q2⟩:=AB h;refine ⟨q1,fun g' hg => ?_⟩;rcases QQ.1 hg with rfl | hg
    .rw [h1,h2];subst e1;obtain ⟨ee,hl⟩:=oP hl;cases ee;subst hl;have:=oQ hcb;subst this;rfl
    .exact q2 g' hg
   .cases h
  .cases h
theorem O8 {s:aU} {x:Tup s.sig.pin.tys} {y:Tup s.sig.aT.tys} (h:s.ff x=some y):s.f x=some y/\∀g∈s.sig.kept,rH (eF ((mkT s.sig.aT (Tup.lW s.sig.aT.tys y)).go g))=rH (eF ((mkT s.sig.pin (Tup.lW s.sig.pin.tys x)).go g)):=by
 obtain ⟨⟨na,pin,aT,nr,bD,aV,kept⟩,f⟩:=s;cases kept with
 |nil=>exact ⟨h,fun g hg=>by cases hg⟩
 |cons g0 gs=>
  have h:(f x).bind (fun y=>Jq (mkT pin (Tup.lW pin.tys x)).go (mkT aT (Tup.lW aT.tys y)).go y (g0::gs))=some y:=h;cases hf:f x with
  |none=>rw [hf] at h;cases h
  |some z=>
   rw [hf] at h;obtain ⟨e,h2⟩:=AB h;subst e;exact ⟨hf,h2⟩
theorem MQ (same:List Nat) :∀(l:List (Nat×TO)),iT (MJ same l)=(iT l).filter fun p=>!same.contains p.1
 | []=>rfl
 |(g,x)::r=>by
  have ih:=MQ same r;simp only [MJ];have e:iT ((g,x)::r)=(g,eF x)::iT r:=rfl;rw [e,vl,<-bU];cases h:fZ g same with
  |true=>simp only [Bool.not_true,W3,if_false];exact ih
  |false=>
   simp only [va,if_true];show (g,eF x)::iT (MJ same r)=_;rw [ih]
def JI (s:cZ) (d:Nat) (o:Nat->TO) (c:GH) (dH:List Wd):List Nat:=match s.kept with
 | []=>[]
 |_::_=>CS s o (fun g'=>OT c.A c.I (callName d s.er c.ren) ((mkT s.aT dH).go g')) c.ren
theorem O9 {s:cZ} {d:Nat} {o:Nat->TO} {c:GH} {dH:List Wd}:(zf s d o c dH).er=BN (JI s d o c dH) (uG s d o c dH).er:=by
 obtain ⟨na,pin,aT,nr,bD,aV,kept⟩:=s;cases kept with
 |nil=>
  show (uG _ d o c dH).er=BN [] _;have :∀(e:Eff),e=BN [] e:=fun e=>by
   unfold BN;have:e.aK.filter (fun p=>!([]:List Nat).contains p.1)=e.aK:=List.filter_eq_self.2 fun p _=>rfl;rw [this]
  exact this _
 |cons g0 gs=>
  unfold zf BN JI ku.er;simp only [MQ]
theorem MR {a b:Bool} (h:ajt a b=true):a=b:=by cases a<;>cases b<;>first | rfl | cases h
theorem FX {x:TO} {a i:Bool} (h:Vp x=some (a,i)):sS (eF x)=(a,i)/\UJ (eF x)=true:=by
 cases x with
 |arr fz a' i' e l=>cases fz<;>cases h;exact ⟨rfl,rfl⟩
 |aO a' i' e aj l hole=>cases hole<;>cases h;exact ⟨rfl,rfl⟩
 |_=>cases h
theorem JJ {s:cZ} {o f:Nat->TO} {g:Nat} :∀{r:List (Nat×Nat)},g∈CS s o f r->∃g',(g',g)∈r/\g'∈s.kept/\s.bD.contains g'=true/\sS (eF (f g'))=sS (eF (o g))/\UJ (eF (o g))=true
 | [],h=>by cases h
 |(g1',g1)::r,h=>by
  simp only [CS] at h;have old:g∈CS s o f r->∃g',(g',g)∈(g1',g1)::r/\g'∈s.kept/\s.bD.contains g'=true/\sS (eF (f g'))=sS (eF (o g))/\UJ (eF (o g))=true:=fun h=>
   let ⟨g',h1,h2⟩:=JJ h
   ⟨g',VM _ h1,h2⟩
  split at h
  .rename_i a i a' i' k1 k2 k3;split at h
   .rename_i k4;rcases QQ.1 h with rfl | h
    .obtain ⟨e1,e2⟩:=iJ k4;have e1:=MR e1;have e2:=MR e2;subst e1;subst e2;obtain ⟨m1,m2⟩:=iJ k1;obtain ⟨f1,f2⟩:=FX k2;obtain ⟨f3,_⟩:=FX k3;rw [bU] at m1;exact ⟨g1',by simp,by simpa using m1,m2,by rw [f1,f3],f2⟩
    .exact old h
   .exact old h
  .exact old h
theorem Sj {sp:aU} (hok:sp.sig.er.ok=true) {d:Nat} {o:Nat->TO} {args:List S} {c:GH} (hc:iM sp.sig.er (bZ o) args=some c.er) (hf:c.er.fine sp.sig.er=true) {x:Tup sp.sig.pin.tys} {y:Tup sp.sig.aT.tys} (hx:Tup.lW sp.sig.pin.tys x=c.ins) (hy:sp.ff x=some y) :
  ∀g∈JI sp.sig d o c (Tup.lW sp.sig.aT.tys y),g∈c.er.ren.map (·.2)/\(kT sp.sig.er d (bZ o) c.er ((Tup.lW sp.sig.aT.tys y).map dB)).aK.lookup g=some (bZ o g):=by
 intro g hg;have hg:g∈CS sp.sig o (fun g'=>OT c.A c.I (callName d sp.sig.er c.ren) ((mkT sp.sig.aT (Tup.lW sp.sig.aT.tys y)).go g')) c.ren:=by
  unfold JI at hg;split at hg
  .cases hg
  .exact hg
 obtain ⟨g',h1,h2,h3,h4,h5⟩:=JJ hg;have hp:(g',g)∈c.er.ren:=h1;refine ⟨X1.2 ⟨(g',g),hp,rfl⟩,?_⟩;have e1:eF ((mkT sp.sig.aT (Tup.lW sp.sig.aT.tys y)).go g')=(Fw.mk sp.sig.er.aT ((Tup.lW sp.sig.aT.tys y).map dB)).o g':=congrArg (fun s=>s.o g') (yB (wB _ y));have e2:eF ((mkT sp.sig.pin (Tup.lW sp.sig.pin.tys x)).go g')=(Fw.mk sp.sig.er.pin c.er.ins).o g':=by
  have:=congrArg (fun s=>s.o g') (yB (wB _ x));rw [hx] at this ⊢;exact this
 refine Zf hok hc hf hp h3 ?_ h5 ?_
 .rw [<-e1,<-e2];exact (O8 hy).2 g' h2
 .rw [O7] at h4;rw [<-e1];exact h4
def nC (T:mG):Tab:=fun f=>(T f).map aU.er
theorem yD (l:List (Nat×TO)) :∀(u:List (Nat×TO)) (g:Nat),jH .none (En l u) g=match u.lookup g with | some x=>x | none=>jH .none l g
 | [],g=>rfl
 |(k,x)::u,g=>by
  simp only [En,qA,List.lookup,G9,yD l u g];cases h:Nat.beq g k<;>rfl
theorem MS (q:jO) (dst:Option Tmp) (e:ku):bg (q.eff dst e).st=(bg q.st).eff dst e.er:=by
 have ho :∀g,eF (jH .none (En q.st.o e.aK) g)=match (iT e.aK).lookup g with | some x=>x | none=>eF (jH .none q.st.o g):=fun g=>by
  rw [yD];have:(iT e.aK).lookup g=(e.aK.lookup g).map eF:=pO eF g e.aK;rw [this];cases e.aK.lookup g<;>rfl
 have hu :∀g,fZ g (e.new++q.st.u)=(e.new.contains g||fZ g q.st.u):=fun g=>by simp [bU]
 cases dst with
 |none=>
  refine St.ext' (fun t=>rfl) (fun g => ?_) fun g => ?_
  .exact ho g
  .exact hu g
 |some d=>
  refine St.ext' (fun t => ?_) (fun g => ?_) fun g => ?_
  .show bn (jH .no (xX d e.x q.st.s) t)=bif Nat.beq t d then bn e.x else bn (jH .no q.st.s t)
   rw [qA];cases Nat.beq t d<;>rfl
  .exact ho g
  .exact hu g
end
end Go.Fg

