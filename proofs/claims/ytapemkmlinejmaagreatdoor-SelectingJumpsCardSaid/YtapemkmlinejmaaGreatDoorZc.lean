/-
  The framework (a machine on plain data that answers as the program does), part 3.
-/
import Derived.RangeFuncLeaves
import Derived.RangeFuncCalls
import Derived.OrdersIn
import Derived.LoopNIn
import Derived.LoopN
import Derived.Tactics
import Derived.Laws.Strings
import Derived.Test.YtapemkmlinejmaaGreatDoorZb
set_option linter.unusedSimpArgs false
set_option linter.unusedVariables false
set_option linter.unusedSectionVars false
namespace Go.Fw
variable [eP]
theorem LY (st:St) (dst:Option Tmp) (e:Eff) (t:Nat):(st.eff dst e).s t=if dst=some t then e.x else st.s t:=by
 cases dst with
 |none=>simp [St.eff,St.put,St.aJ]
 |some d=>
  simp only [St.eff,St.put,St.aJ,Q0];by_cases h:t=d
  .subst h;simp
  .have h1:Nat.beq t d=false:=by cases hb:Nat.beq t d with | false=>rfl | true=>exact absurd (Q4 hb) h
   rw [h1,if_neg (fun e=>h e.symm)];rfl
theorem yc (st:St) (dst:Option Tmp) (e:Eff) (g:Nat):(st.eff dst e).o g=match e.aJ.lookup g with | some x=>x | none=>st.o g:=by
 cases dst<;>rfl
theorem uy (st:St) (dst:Option Tmp) (e:Eff) (g:Nat):(st.eff dst e).used g=(e.new.contains g||st.used g):=by
 cases dst<;>rfl
theorem jV {α:Type} {g:Nat} :∀{l:List (Nat×α)},g∉l.map (·.1)->l.lookup g=none
 | [],_=>rfl
 |(k,v)::l,h=>by
  simp only [Qf,QP,not_or] at h;have:(g==k)=false:=by simpa using h.1
  simp only [List.lookup,this];exact jV h.2
theorem St.ext' {a b:St} (h1 :∀t,a.s t=b.s t) (h2 :∀g,a.o g=b.o g) (h3 :∀g,a.used g=b.used g):a=b:=by
 obtain ⟨s,o,u⟩:=a;obtain ⟨s',o',u'⟩:=b;simp only at h1 h2 h3;rw [funext h1,funext h2,funext h3]
section
variable {ops:Array Oper} {es es':Nat->Eff} {st:St} {D D':Nat->Bool}
def SD (ops:Array Oper) (es:Nat->Eff) (st:St) (D:Nat->Bool):Nat->St
 |0=>st
 |k+1=>if D k=true then (SD ops es st D k).eff ((ops[k]?).bind (·.dst)) (es k) else SD ops es st D k
theorem IK :∀{n:Nat},(∀k<n,es k=es' k)->SD ops es st D n=SD ops es' st D n
 |0,_=>rfl
 |n+1,h=>by simp only [SD];rw [IK fun k hk=>h k (by omega),h n (by omega)]
theorem D6 :∀{n:Nat},(∀k<n,D k=D' k)->SD ops es st D n=SD ops es st D' n
 |0,_=>rfl
 |n+1,h=>by simp only [SD];rw [D6 fun k hk=>h k (by omega),h n (by omega)]
theorem ajk {t:Nat} :∀{n:Nat},(∀k<n,D k≠D' k->(ops[k]?).bind (·.dst)≠some t)->(SD ops es st D n).s t=(SD ops es st D' n).s t
 |0,_=>rfl
 |n+1,h=>by
  have ih:=ajk (n:=n) fun k hk=>h k (by omega);have hn:=h n (by omega);simp only [SD];cases h1:D n<;>cases h2:D' n
  .simpa using ih
  .have:=hn (by rw [h1,h2];simp);simp only [if_true,LY,if_neg this];simpa using ih
  .have:=hn (by rw [h1,h2];simp);simp only [if_true,LY,if_neg this];simpa using ih
  .simp only [if_true,LY,ih]
theorem ajl {g:Nat} :∀{n:Nat},(∀k<n,D k≠D' k->g∉(es k).aJ.map (·.1))->(SD ops es st D n).o g=(SD ops es st D' n).o g
 |0,_=>rfl
 |n+1,h=>by
  have ih:=ajl (n:=n) fun k hk=>h k (by omega);have hn:=h n (by omega);simp only [SD];cases h1:D n<;>cases h2:D' n
  .simpa using ih
  .have:=jV (hn (by rw [h1,h2];simp));simp only [if_true,yc,this];simpa using ih
  .have:=jV (hn (by rw [h1,h2];simp));simp only [if_true,yc,this];simpa using ih
  .simp only [if_true,yc,ih]
theorem Ot {g:Nat} :∀{n:Nat},(∀k<n,D k≠D' k->g∉(es k).new)->(SD ops es st D n).used g=(SD ops es st D' n).used g
 |0,_=>rfl
 |n+1,h=>by
  have ih:=Ot (n:=n) fun k hk=>h k (by omega);have hn:=h n (by omega);simp only [SD];cases h1:D n<;>cases h2:D' n
  .simpa using ih
  .have:=hn (by rw [h1,h2];simp);have:(es n).new.contains g=false:=by simpa using this
   simp only [if_true,uy,this,J1];simpa using ih
  .have:=hn (by rw [h1,h2];simp);have:(es n).new.contains g=false:=by simpa using this
   simp only [if_true,uy,this,J1];simpa using ih
  .simp only [if_true,uy,ih]
theorem LZ {t i:Nat} (hi:D i=true) (hd:(ops[i]?).bind (·.dst)=some t) :∀{n:Nat},i<n->(∀k,i<k->k<n->D k=true->(ops[k]?).bind (·.dst)≠some t)->(SD ops es st D n).s t=(es i).x
 |0,h,_=>by omega
 |n+1,hin,h=>by
  simp only [SD];by_cases e:n=i
  .subst e;simp [hi,LY,hd]
  .have ih:=LZ hi hd (n:=n) (by omega) fun k h1 h2=>h k h1 (by omega);cases hn:D n with
   |false=>simpa using ih
   |true=>
    have:=h n (by omega) (by omega) hn;simp only [if_true,LY,if_neg this,ih]
theorem L6 {g i:Nat} {x:O} (hi:D i=true) (hd:(es i).aJ.lookup g=some x) :∀{n:Nat},i<n->(∀k,i<k->k<n->D k=true->g∉(es k).aJ.map (·.1))->(SD ops es st D n).o g=x
 |0,h,_=>by omega
 |n+1,hin,h=>by
  simp only [SD];by_cases e:n=i
  .subst e;simp [hi,yc,hd]
  .have ih:=L6 hi hd (n:=n) (by omega) fun k h1 h2=>h k h1 (by omega);cases hn:D n with
   |false=>simpa using ih
   |true=>
    have:=jV (h n (by omega) (by omega) hn);simp only [if_true,yc,this,ih]
theorem Fp {g i:Nat} (hi:D i=true) (hd:g∈(es i).new) :∀{n:Nat},i<n->(SD ops es st D n).used g=true
 |0,h=>by omega
 |n+1,hin=>by
  simp only [SD];by_cases e:n=i
  .subst e;simp [hi,uy,hd]
  .have ih:=Fp hi hd (n:=n) (by omega);cases hn:D n with
   |false=>simpa using ih
   |true=>simp only [if_true,uy,ih,Bool.or_true]
structure Apart (ops:Array Oper) (x y:Oper) (fx fy:tC):Prop where
 dy :∀t,x.dst=some t->t∉y.looksAt ops
 dx :∀t,y.dst=some t->t∉x.looksAt ops
 dd :∀t,x.dst=some t->y.dst≠some t
 wr:(∀g∈fx.wr,g∉fy.rd)\/Fj fx fy=true
 rw:(∀g∈fy.wr,g∉fx.rd)\/Fj fy fx=true
 ww :∀g∈fx.wr,g∉fy.wr
 nn :∀g∈fx.new,g∉fy.new
theorem yg {x:Option Tmp} {ts:List Tmp} (h:IJ x ts=true) :∀t,x=some t->t∉ts:=by
 intro t e;subst e;simpa [IJ] using h
theorem zh {xs ys:List Nat} (h:Ob xs ys=true) :∀x∈xs,x∉ys:=by
 intro x hx;have:=(X2.1 h) x hx;simpa using this
theorem U4 {x y:Oper} {fx fy:tC} (h:abI ops x y fx fy=true):Apart ops x y fx fy:=by
 simp only [abI,Q6,UX] at h;obtain ⟨⟨⟨⟨⟨⟨h1,h2⟩,h3⟩,h4⟩,h5⟩,h6⟩,h7⟩:=h;exact ⟨yg h1,yg h2,fun t e e'=>yg h3 t e (by simp [e']),h4.imp zh id,h5.imp zh id,zh h6,zh h7⟩
theorem L8 {acc:List Nat} {i:Nat} :∀{l:List Edge} {s:Nat},(l.foldl (fun s e=>if Region.binds .any e=true then s ||| (2 ^ e.on) ||| acc.getD e.on 0 else s) s).testBit i=true↔
  s.testBit i=true\/∃e∈l,Region.binds .any e=true/\(e.on=i\/(acc.getD e.on 0).testBit i=true)
 | [],s=>by simp
 |e::l,s=>by
  simp only [qv];rw [L8];by_cases hb:Region.binds .any e=true
  .simp only [hb,if_true,Nat.testBit_or,UX,Nat.testBit_two_pow,decide_eq_true_eq,QP];constructor
   .rintro (((h | h) | h) | ⟨e',h1,h2⟩)
    .exact .inl h
    .exact .inr ⟨e,.inl rfl,hb,.inl h⟩
    .exact .inr ⟨e,.inl rfl,hb,.inr h⟩
    .exact .inr ⟨e',.inr h1,h2⟩
   .rintro (h | ⟨e',h1 | h1,h2,h3 | h3⟩)
    .exact .inl (.inl (.inl h))
    .subst h1;exact .inl (.inl (.inr h3))
    .subst h1;exact .inl (.inr h3)
    .exact .inr ⟨e',h1,h2,.inl h3⟩
    .exact .inr ⟨e',h1,h2,.inr h3⟩
  .simp only [hb,QP];constructor
   .rintro (h | ⟨e',h1,h2⟩)
    .exact .inl (by simpa using h)
    .exact .inr ⟨e',.inr h1,h2⟩
   .rintro (h | ⟨e',h1 | h1,h2,h3⟩)
    .exact .inl (by simpa using h)
    .subst h1;exact absurd h2 hb
    .exact .inr ⟨e',h1,h2,h3⟩
theorem IL :∀{os:List Oper} {acc:List Nat},∃t,oK os acc=acc++t
 | [],acc=>⟨[],by simp [oK]⟩
 |o::os,acc=>by
  obtain ⟨t,h⟩:=IL (os:=os) (acc:=acc++[lJ acc o]);exact ⟨lJ acc o::t,by simp [oK,h]⟩
theorem IQ :∀{os:List Oper} {acc:List Nat} {j:Nat} {o:Oper},os[j]?=some o->∃acc',(∃t,oK os acc=acc'++lJ acc' o::t)/\acc'.length=acc.length+j
 | [],acc,j,o,h=>by simp at h
 |o'::os,acc,0,o,h=>by
  simp only [UT,Q0] at h;subst h;obtain ⟨t,h⟩:=IL (os:=os) (acc:=acc++[lJ acc o']);exact ⟨acc,⟨t,by simp [oK,h]⟩,rfl⟩
 |o'::os,acc,j+1,o,h=>by
  simp only [Vc] at h;obtain ⟨acc',h1,h2⟩:=IQ (acc:=acc++[lJ acc o']) h;exact ⟨acc',h1,by simp at h2;omega⟩
def Down (ops:Array Oper) (D:Nat->Bool):Prop :=∀(j:Nat) o,ops[j]?=some o->D j=true->∀e∈o.after,Region.binds .any e=true->D e.on=true
theorem IU {j:Nat} {o:Oper} (ho:ops[j]?=some o) {i:Nat}:((oK ops.toList []).getD j 0).testBit i=true↔
  ∃e∈o.after,Region.binds .any e=true/\(e.on=i\/(e.on<j/\((oK ops.toList []).getD e.on 0).testBit i=true)):=by
 have hl:ops.toList[j]?=some o:=by simpa using ho
 obtain ⟨acc,⟨t,h1⟩,h2⟩:=IQ (acc:=[]) hl;simp only [Jx,WD] at h2;rw [h1];have e1:(acc++lJ acc o::t).getD j 0=lJ acc o:=by
  rw [List.getD_eq_getElem?_getD,W7 (by omega),h2];simp
 have e2 :∀k,(acc++lJ acc o::t).getD k 0=if k<j then acc.getD k 0 else (acc++lJ acc o::t).getD k 0:=by
  intro k;split
  .rename_i hk;rw [List.getD_eq_getElem?_getD,Wc (by omega),<-List.getD_eq_getElem?_getD]
  .rfl
 rw [e1];unfold lJ;rw [L8];simp only [Nat.zero_testBit,W4,false_or,Array.mem_toList_iff];constructor
 .rintro ⟨e,q1,q2,q3⟩;refine ⟨e,q1,q2,q3.imp id fun q => ?_⟩;by_cases hk:e.on<j
  .refine ⟨hk,?_⟩;have:=e2 e.on;rw [if_pos hk] at this;unfold lJ at this;rw [this];exact q
  .have:acc.getD e.on 0=0:=by rw [List.getD_eq_getElem?_getD,Wt (by omega)];rfl
   rw [this] at q;simp at q
 .rintro ⟨e,q1,q2,q3⟩;refine ⟨e,q1,q2,q3.imp id fun ⟨hk,q⟩ => ?_⟩;have:=e2 e.on;rw [if_pos hk] at this;unfold lJ at this;rw [this] at q;exact q
theorem yh (hD:Down ops D) :∀(j:Nat) {o:Oper},ops[j]?=some o->D j=true->∀i,((oK ops.toList []).getD j 0).testBit i=true->D i=true:=by
 intro j
 induction j using Nat.strongRecOn with
 |_ j ih=>
  intro o ho hj i hb;obtain ⟨e,h1,h2,h3 | ⟨h3,h4⟩⟩:=(IU ho).1 hb
  .rw [<-h3];exact hD j o ho hj e h1 h2
  .have hlt:j<ops.size:=(Wg.1 ho).1;have hlt':e.on<ops.size:=by omega
   exact ih e.on h3 (Kk hlt') (hD j o ho hj e h1 h2) i h4
theorem QZ {j:Nat} {o:Oper} (ho:ops[j]?=some o) (h:(oK ops.toList []).getD j 0<2 ^ j) {e:Edge} (he:e∈o.after) (hb:Region.binds .any e=true):e.on<j:=by
 have:=(IU ho (i:=e.on)).2 ⟨e,he,hb,.inl rfl⟩;by_cases hk:e.on<j
 .exact hk
 .rw [Nat.testBit_lt_two_pow (Wz h (Nat.pow_le_pow_right (by omega) (by omega)))] at this;cases this
end
section
variable {E:Env} {N:Nat} {aY:List Nat} {pW:Nat->Gh} {st:St} {a:Act} {w:World} {Pg:Program} {T:Tab} {tt:TT} {ops:Array Oper} {Q:Exit->Act->World->Prop}
theorem Q5 {gh:Nat->Gh} (h:Rel E st gh (fun t=>a.tmps.getD t undef) w) {x:S} {v:Value} (hx:dI E st gh w x v) {i:TI} {t:TypeId} (ht:pU Pg t i) {c:Value} {p:Bool->Prop} (hp:x9 st.o x i.k c=some p) :
  ∃b,(Op.equal t v c).run Pg w=.ok b w/\p b:=by
 unfold x9 at hp;split at hp
 .rename_i e hk;have hu:=ht.kind;rw [hk] at hu;have hu:Pg.underlying t=some (.slice e):=hu;have eqs :∀ao n cap,(Op.equal t (.slice ao n cap) (.slice none 0 0)).run Pg w=.ok ao.isNone w:=by
   intro ao n cap;unfold Op.equal Op.maxDepth;show (Op.equalIn (9999+1) t _ _).run Pg w=_;unfold Op.equalIn;cases ao<;>simp [eF hu]
  unfold LW at hp;split at hp
  .simp only [Q0] at hp;subst hp;have r:=hx.fF;generalize hl:(P.sl _ _)=y at r;cases r with
   |nil sz ao cap=>cases hl;exact ⟨_,eqs _ _ _,fun h=>absurd rfl h⟩
   |sl sz l ad cap f _ _ _ _ _ _=>cases hl;exact ⟨_,eqs _ _ _,fun _=>rfl⟩
   |_=>cases hl
  .rename_i g;split at hp
   .rename_i sz l ho;simp only [Q0] at hp;subst hp;cases hx.dH with
    |own _ _ _ hb=>
     rw [hb _ _ ho];refine ⟨_,eqs _ _ _,fun hl => ?_⟩;obtain ⟨ad,had,_⟩:=(vI (h.bg g) ho).2 (by omega);rw [had];rfl
   .cases hp
  .simp only [Q0] at hp;subst hp;cases hx.dH;exact ⟨_,eqs _ _ _,rfl⟩
  .cases hp
 .rename_i hk;have hu:=ht.kind;rw [hk] at hu;obtain ⟨e,hu⟩:=(hu :∃e,Pg.underlying t=some (.pointer e));have eqp :∀ao,(Op.equal t (.pointer ao) (.pointer none)).run Pg w=.ok ao.isNone w:=by
   intro ao;unfold Op.equal Op.maxDepth;show (Op.equalIn (9999+1) t _ _).run Pg w=_;unfold Op.equalIn;cases ao<;>simp [eF hu]
  unfold Fh at hp;split at hp
  .rename_i g off;split at hp
   .rename_i ws ho;simp only [Q0] at hp;subst hp;cases hx.dH with
    |box _ _ _ _ hb=>
     obtain ⟨ad,_,rfl⟩:=hb ws ho;exact ⟨_,eqp _,rfl⟩
   .cases hp
  .simp only [Q0] at hp;subst hp;cases hx.fF with
   |opq _ _=>exact ⟨_,eqp _,rfl⟩
  .cases hp
 .cases hp
theorem Q7 (hT :∀f sp,T f=some sp->Sound Pg (f % 1000000) sp) (htt:iC Pg tt) {i:Nat} {o:Oper} (hi:ops[i]?=some o) (hg:Good E N aY pW st a w) {K':Eff->Prop} (h:B_ T tt N ops o st K')
  {K:Act->World->Prop} (hK :∀e a' w',K' e->Good E N aY pW (st.eff o.dst e) a' w'->K a' w'):wpOp Pg ops Q i K a w:=by
 unfold B_ at h;split at h
 .rename_i pos p hn;obtain ⟨hd,h⟩:=h;have hd :∀d,o.dst=some d->d<a.tmps.size:=by
   intro d e;rw [e] at hd;rw [hg.size];simpa using hd
  unfold Oo at hn;split at hn
  .cases hn
  .rename_i hgd;split at hn
   .rename_i op t x c u hop;split at hn
    .rename_i ti ht;obtain ⟨gh,hR,E_⟩:=hg.ex;have hx:=nS hR x;have key :∀p',x9 st.o (st.dJ x) ti.k c=some p'->∃b,(Op.equal t (a.eval x) c).run Pg w=.ok b w/\p' b:=fun p' hp=>Q5 hR hx (htt _ _ ht) hp;have fin :∀b,(execOp a.eval o).run Pg w=.ok (.value (.bool (bif pos then b else !b))) w->p b->wpOp Pg ops Q i K a w:=by
      intro b hrun hb;unfold wpOp;rw [hi];simp only;have:Region.wanted o (yielded ops a.tmps)=true:=by simp [Region.wanted,hgd]
      rw [if_pos this];left;show o.upon Pg a K Q ((execOp a.eval o).run Pg w);rw [hrun];refine hK _ _ _ (h b hb) ⟨⟨gh,?_,fun g hg' => ?_⟩,by rw [xY];exact hg.size,hg.defers.put _ _⟩
      .rw [xX _ _ hd];unfold St.eff;simp only [Gy];exact hR.put o.dst (dI.ofP (.bool _)) (by simp [scalar,S.names,V.names,W.names])
      .have ho:(st.eff o.dst { x:=scalar (.bool (bif pos then b else !b)),aJ:=[],new:=[] }).o g=st.o g:=by unfold St.eff St.put;cases o.dst<;>simp [St.aJ]
       have hu:(st.eff o.dst { x:=scalar (.bool (bif pos then b else !b)),aJ:=[],new:=[] }).used g=st.used g:=by unfold St.eff St.put;cases o.dst<;>simp [St.aJ]
       rw [ho,hu];exact E_ g hg'
     have hcv :∀b,(Op.equal t (a.eval x) c).run Pg w=.ok b w->(c=.slice none 0 0\/c=.pointer none)/\True->(eqGuard op t x (.const c) (a.eval x) c).run Pg w=.ok () w:=by
      intro b _ hc;unfold eqGuard;rcases hc.1 with rfl | rfl
      .cases op<;>first | rfl | (simp only;split<;>first | rfl | simp_all)
      .cases op<;>first | rfl | (simp only;split<;>first | rfl | simp_all)
     have hcc :∀p',x9 st.o (st.dJ x) ti.k c=some p'->c=.slice none 0 0\/c=.pointer none:=by
      intro p' hp;unfold x9 at hp;split at hp
      .exact .inl rfl
      .exact .inr rfl
      .cases hp
     split at hn
     .rename_i p' hp;simp only [Q0,Q1] at hn;obtain ⟨rfl,rfl⟩:=hn;obtain ⟨b,hb1,hb2⟩:=key _ hp;refine fin b ?_ hb2;have hge:=hcv b hb1 ⟨hcc _ hp,trivial⟩;unfold execOp;rw [hop];refine gQ ?_;show (eqGuard _ t x (.const c) (a.eval x) c >>= fun _=>binOp _ t (a.eval x) c).run Pg w=_;rw [Sem.run_bind,hge];rcases hcc _ hp with rfl | rfl<;>simp [binOp,hb1]
     .rename_i p' hp;simp only [Q0,Q1] at hn;obtain ⟨rfl,rfl⟩:=hn;obtain ⟨b,hb1,hb2⟩:=key _ hp;refine fin b ?_ hb2;have hge:=hcv b hb1 ⟨hcc _ hp,trivial⟩;unfold execOp;rw [hop];refine gQ ?_;show (eqGuard _ t x (.const c) (a.eval x) c >>= fun _=>binOp _ t (a.eval x) c).run Pg w=_;rw [Sem.run_bind,hge];rcases hcc _ hp with rfl | rfl<;>simp [binOp,hb1]
     .cases hn
    .cases hn
   .cases hn
 .split at h
  .rename_i g s n hn;obtain ⟨hd,h1,h2⟩:=h;have hd :∀d,o.dst=some d->d<a.tmps.size:=by
    intro d e;rw [e] at hd;rw [hg.size];simpa using hd
   unfold Oq at hn;split at hn
   .cases hn
   .rename_i hgd;split at hn
    .rename_i x hop;split at hn
     .rename_i g' hx;split at hn
      .rename_i s' n' hog;simp only [Q0,Q1] at hn;obtain ⟨rfl,rfl,rfl⟩:=hn;obtain ⟨gh,hR,E_⟩:=hg.ex;have hrx:=nS hR x;rw [hx] at hrx;obtain ⟨ad,had,hv⟩ :∃ad,(gh g').ad=some ad/\a.eval x=.pointer (some ⟨ad.block,0,none⟩):=by
        have:=hrx.dH;generalize a.eval x=z at this;cases this with | nH _ _ _ hb=>exact hb _ _ hog
       have hO:=hR.bg g';rw [hog] at hO;obtain ⟨ad',bs,k,q1,rfl,rfl,q4⟩:=hO;rw [had] at q1;cases q1;have hlt:ad.block<w.heap.size:=(hR.wr g' ad.block (by rw [hog];rfl) (Gh.jS had)).2;have hkn:(P.int .i64 (k:Int)).nat=k:=by simp [P.nat,P.num]
       have hget:(getObj ad.block).run Pg w=.ok (.stringIter bs k) w:=by simp [getObj,Sem.run,q4]
       have fin :∀(v:Value) (w':World) (e:Eff),(∀b,b≠ad.block->w'.heap[b]?=w.heap[b]?)->(Instr.next (a.eval x) true o.type).run Pg w=.ok v w'->K' e->Rel E (st.aJ e.aJ e.new) gh (fun t=>a.tmps.getD t undef) w'->dI E (st.aJ e.aJ e.new) gh w' e.x v->(∀g∈e.x.names,(st.aJ e.aJ e.new).used g=true)->
         (∀g,st.used g=true->(st.aJ e.aJ e.new).used g=true)->(∀g,((st.aJ e.aJ e.new).o g=.none\/True)/\(st.o g=.none->(st.aJ e.aJ e.new).o g=.none))->wpOp Pg ops Q i K a w:=by
        intro v w' e hmm hrun hke hR' hx' hn' hu' ho';unfold wpOp;rw [hi];simp only;have:Region.wanted o (yielded ops a.tmps)=true:=by simp [Region.wanted,hgd]
        rw [if_pos this];left;show o.upon Pg a K Q ((execOp a.eval o).run Pg w);have:(execOp a.eval o).run Pg w=.ok (.value v) w':=by
         unfold execOp;rw [hop];exact gQ hrun
        rw [this];refine hK e _ _ hke ⟨⟨gh,?_,fun g hg' => ?_⟩,by rw [xY];exact hg.size,hg.defers.same (fun D _ h3=>hmm D fun e'=>by rw [e',q4] at h3;cases h3) _ _⟩
        .rw [xX _ _ hd];exact hR'.put o.dst hx' hn'
        .obtain ⟨p1,p2⟩:=E_ g hg';have ho2:(st.eff o.dst e).o g=(st.aJ e.aJ e.new).o g:=by unfold St.eff St.put;cases o.dst<;>rfl
         have hu2:(st.eff o.dst e).used g=(st.aJ e.aJ e.new).used g:=by unfold St.eff St.put;cases o.dst<;>rfl
         refine ⟨by rw [hu2];exact hu' g p1,?_⟩;rw [ho2];rcases p2 with p2 | p2
         .exact .inl ((ho' g).2 p2)
         .exact .inr p2
       cases hb:QW (.str bs) (.int .i64 k) with
       |true=>
        have hkb:k<bs.size:=by
         have:=of_decide_eq_true hb;rw [hkn] at this;exact this
        have hrun:(Instr.next (a.eval x) true o.type).run Pg w=.ok (.tuple #[.bool true,.int .i64 k,.int .i32 (Utf8.decode bs k).1]) { w with heap:=w.heap.setIfInBounds ad.block (.stringIter bs (k+(Utf8.decode bs k).2)) }:=by
         rw [hv];simp only [Instr.next,Sem.run_bind,hget,Result.andThen_ok];rw [if_pos hkb];have hset:(setObj ad.block (.stringIter bs (k+(Utf8.decode bs k).2))).run Pg w=.ok () { w with heap:=w.heap.setIfInBounds ad.block (.stringIter bs (k+(Utf8.decode bs k).2)) }:=by
          simp [setObj,Sem.run,q4]
         simp only [Sem.run_bind,hset,Result.andThen_ok,Sem.run_pure];rfl
        obtain ⟨w1,w2⟩:=hR.write g' ad (by rw [hog];rfl) had (.it (.str bs) (U1 (.str bs) (.int .i64 k))) (by rw [hog];trivial) { w with heap:=w.heap.setIfInBounds ad.block (.stringIter bs (k+(Utf8.decode bs k).2)) }
         (fun b hb=>by simp [Kd,Ne.symm hb]) (by simp) rfl rfl rfl rfl (fun _ e=>by cases e) (fun _=>by rw [hog];rfl)
         (fun _=>⟨ad,bs,k+(Utf8.decode bs k).2,had,rfl,by simp only [U1,lY,hkn];rfl,by simp [hlt]⟩) (fun g hg=>by simp [O.names] at hg)
        have hold :∀g,g≠g'->(st.aJ (IG g' (.str bs) (.int .i64 k)).aJ (IG g' (.str bs) (.int .i64 k)).new).o g=st.o g:=by
         intro g hne;have:(g==g')=false:=by simpa using hne
         simp [IG,St.aJ,List.lookup,this]
        refine fin _ _ (IG g' (.str bs) (.int .i64 k)) (fun b hb=>by simp [Kd,Ne.symm hb]) hrun (h1 hb) w1 ?_ ?_ ?_ ?_
        .refine .jM _ _ rfl fun j x v hx hv => ?_
         match j,hx,hv with
         |0,hx,hv=>cases hx;cases hv;exact .one _ _ (.p _ _ _ _ (.bool _))
         |1,hx,hv=>cases hx;cases hv;exact .one _ _ (.p _ _ _ _ (by rw [hkn];exact .int _ _))
         |2,hx,hv=>cases hx;cases hv;exact .one _ _ (.p _ _ _ _ (by simp only [abG,hkn];exact .int _ _))
         |j+3,hx,_=>cases hx
        .intro g hg';simp [IG,S.names,V.names,W.names] at hg'
        .intro g hg';simp [St.aJ,hg']
        .intro g;refine ⟨.inr trivial,fun h0 => ?_⟩;by_cases e:g=g'
         .subst e;rw [hog] at h0;cases h0
         .rw [hold g e];exact h0
       |false=>
        have hkb:¬ k<bs.size:=by
         have:=of_decide_eq_false hb;rw [hkn] at this;exact this
        have hrun:(Instr.next (a.eval x) true o.type).run Pg w=.ok (.tuple #[.bool false]) w:=by
         rw [hv];simp only [Instr.next,Sem.run_bind,hget,Result.andThen_ok];rw [if_neg hkb];rfl
        refine fin _ _ LX (fun _ _=>rfl) hrun (h2 hb) (by rw [show LX.aJ=[] from rfl,show LX.new=[] from rfl,Gy];exact hR) ?_ ?_ ?_ ?_
        .refine .jM _ _ rfl fun j x v hx hv => ?_
         match j,hx,hv with
         |0,hx,hv=>cases hx;cases hv;exact .one _ _ (.p _ _ _ _ (.bool _))
         |j+1,hx,_=>cases hx
        .intro g hg';simp [LX,S.names,V.names,W.names] at hg'
        .intro g hg';simp [St.aJ,hg']
        .intro g;exact ⟨.inr trivial,fun h0=>by simpa [LX,St.aJ] using h0⟩
      .cases hn
     .cases hn
    .cases hn
  .obtain ⟨e,hc,h⟩:=QO h;exact IB hT htt hi hg hc fun a' w' hg'=>hK e a' w' h hg'
theorem Cc (hT :∀f sp,T f=some sp->Sound Pg (f % 1000000) sp) (htt:iC Pg tt) {K:St->Prop} (hK :∀st' a' w',K st'->Good E N aY pW st' a' w'->Q .normal a' w') :
  ∀(is:List Nat) {st:St} {a:Act} {w:World},vW T tt N ops is st K->Good E N aY pW st a w->wpOps Pg ops Q is a w
 | [],st,a,w,h,hg=>hK st a w h hg
 |i::is,st,a,w,h,hg=>by
  simp only [vW] at h;split at h
  .rename_i o ho;rw [wpOps_cons];exact Q7 hT htt ho hg h fun e a' w' h hg'=>Cc hT htt hK is h hg'
  .cases h
theorem Fq {K:St->List tC->Prop} :∀(m k:Nat) (es:Nat->Eff) (fs:List tC),fs.length=k->oZ T tt N ops (List.range' k m) (SD ops es st (fun _=>true) k) fs K->
  ∃(es':Nat->Eff) (fs':List tC),(∀i<k,es' i=es i)/\(∀i<k,fs'[i]?=fs[i]?)/\K (SD ops es' st (fun _=>true) (k+m)) fs'/\
   ∀i,k<=i->i<k+m->∃o,ops[i]?=some o/\Can T tt N ops (SD ops es' st (fun _=>true) i) o (es' i)/\fs'[i]?=some { rd:=qJ T (SD ops es' st (fun _=>true) i) o,wr:=(es' i).aJ.map (·.1),new:=(es' i).new,ld:=II tt (SD ops es' st (fun _=>true) i) o,kp:=U2 (SD ops es' st (fun _=>true) i) (es' i),pk:=tH o.op,kd:=U3 (SD ops es' st (fun _=>true) i) (es' i) }
 |0,k,es,fs,hl,h=>⟨es,fs,fun _ _=>rfl,fun _ _=>rfl,h,fun i h1 h2=>by omega⟩
 |m+1,k,es,fs,hl,h=>by
  simp only [Km,oZ] at h;split at h
  .rename_i o ho;obtain ⟨e,hc,h⟩:=QO h
   let es1:Nat->Eff:=fun i=>if i=k then e else es i
   have e1:SD ops es1 st (fun _=>true) k=SD ops es st (fun _=>true) k:=IK fun i hi=>by simp only [es1];rw [if_neg (by omega)]
   have e2:SD ops es1 st (fun _=>true) (k+1)=(SD ops es st (fun _=>true) k).eff o.dst e:=by
    simp only [SD,if_true];rw [e1,ho];simp [es1]
   rw [<-e2] at h;obtain ⟨es',fs',q1,q2,q3,q4⟩:=Fq m (k+1) es1 _ (by simp [hl]) h;have e3:SD ops es' st (fun _=>true) k=SD ops es st (fun _=>true) k:=(IK fun i hi=>q1 i (by omega)).trans e1;refine ⟨es',fs',fun i hi => ?_,fun i hi => ?_,by rw [show k+(m+1)=k+1+m by omega];exact q3,fun i h1 h2 => ?_⟩
   .rw [q1 i (by omega)];simp only [es1];rw [if_neg (by omega)]
   .rw [q2 i (by omega),Wc (by omega)]
   .by_cases e:i=k
    .subst e;have hei:es' i=e:=by rw [q1 i (by omega)];simp [es1]
     refine ⟨o,ho,by rw [e3,hei];exact hc,?_⟩;rw [q2 i (by omega),W7 (by omega),e3,hei];simp [hl]
    .exact q4 i (by omega) (by omega)
  .cases h
def Rng (ws:List W) (off n:Nat) (x:O):Prop :=∃wc,x=.box wc/\wc.length=ws.length/\∀off',off<=off'->off'<off+n->wc[off']?=ws[off']?
theorem IW {g:Nat} :∀{j:Nat} {xs ys:List W} {r:List (Nat×Nat)},Cb g j xs ys=some r->xs.length=ys.length/\∀p∈r,p.1=g/\j<=p.2/\xs[p.2-j]?=ys[p.2-j]?
 |j,[],[],r,h=>by simp only [Cb,Q0] at h;subst h;exact ⟨rfl,fun p hp=>by cases hp⟩
 |j,[],y::ys,r,h=>by simp [Cb] at h
 |j,x::xs,[],r,h=>by simp [Cb] at h
 |j,x::xs,y::ys,r,h=>by
  simp only [Cb] at h;split at h
  .rename_i r' hr;obtain ⟨h1,h2⟩:=IW hr;have old :∀p∈r',p.1=g/\j<=p.2/\(x::xs)[p.2-j]?=(y::ys)[p.2-j]?:=fun p hp=>by
    obtain ⟨a1,a2,a3⟩:=h2 p hp;refine ⟨a1,by omega,?_⟩;rw [show p.2-j=(p.2-(j+1))+1 by omega,Vc,Vc];exact a3
   simp only [Q0] at h;refine ⟨by simp [h1],fun p hp => ?_⟩;rw [<-h] at hp;split at hp
   .rename_i hs;rcases QP.1 hp with rfl | hp
    .refine ⟨rfl,Ys _,?_⟩;have:x=y:=by
      cases x<;>cases y<;>simp only [abH] at hs<;>first | (cases hs) | skip
      .rw [Q4 hs]
      .simp only [Q6] at hs;rw [Q4 hs.1,Q4 hs.2]
     simp [this]
    .exact old p hp
   .exact old p hp
  .cases h
theorem Zn {st:St} {e:Eff} {p:Nat×Nat} (h:p∈U2 st e) :∃wa wb,st.o p.1=.box wa/\e.aJ.lookup p.1=some (.box wb)/\wa.length=wb.length/\wa[p.2]?=wb[p.2]?:=by
 unfold U2 at h;obtain ⟨g,_,hp⟩:=Z1.1 h;cases ho:st.o g with
 |box ws=>
  cases hl:e.aJ.lookup g with
  |none=>rw [ho,hl] at hp;cases hp
  |some x=>
   cases x with
   |box ws'=>
    rw [ho,hl] at hp;simp only [QY] at hp;split at hp
    .rename_i r hr;obtain ⟨h1,h2⟩:=IW hr;obtain ⟨rfl,_,a3⟩:=h2 p hp;exact ⟨ws,ws',ho,hl,h1,by simpa using a3⟩
    .cases hp
   |_=>rw [ho,hl] at hp;cases hp
 |_=>rw [ho] at hp;cases hp
theorem Ou {st:St} {o:Oper} {g off n:Nat} (h:II tt st o=some (g,off,n)) :∃t x i,o.op=.load t x/\tt t=some i/\i.size=n/\st.dJ x=.v (.one (.box g off)):=by
 unfold II at h;split at h
 .rename_i t x hop;split at h
  .rename_i i g' off' ht hx;simp only [Q0,Q1] at h;obtain ⟨rfl,rfl,rfl⟩:=h;exact ⟨t,x,i,hop,ht,rfl,hx⟩
  .cases h
 .cases h
theorem Zo {st:St} {o:Oper} {g off n:Nat} (h:II tt st o=some (g,off,n)):g∈qJ T st o:=by
 obtain ⟨t,x,i,h1,_,_,h4⟩:=Ou h;unfold qJ;rw [h1];refine ZZ _ (Z1.2 ⟨x,by simp [Op.operands],Z1.2 ⟨g,?_,by simp⟩⟩);rw [h4];simp [S.names,V.names,W.names]
theorem Q8 {es:Nat->Eff} {D:Nat->Bool} {g:Nat} :∀(n:Nat),∃m,(∀k,m<=k->k<n->D k=true->g∉(es k).aJ.map (·.1))/\(SD ops es st D n).o g=(SD ops es st (fun _=>true) m).o g/\(m=0\/∃k,m=k+1/\k<n/\D k=true/\g∈(es k).aJ.map (·.1))
 |0=>⟨0,fun k _ h=>by omega,rfl,.inl rfl⟩
 |n+1=>by
  obtain ⟨m,h1,h2,h3⟩:=Q8 (D:=D) (g:=g) n;by_cases hw:D n=true/\g∈(es n).aJ.map (·.1)
  .obtain ⟨hd,hg⟩:=hw;refine ⟨n+1,fun k a b=>by omega,?_,.inr ⟨n,rfl,by omega,hd,hg⟩⟩;simp only [SD,hd,if_true,yc];cases hl:(es n).aJ.lookup g with
   |some x=>rfl
   |none=>
    exfalso;obtain ⟨p,hp,e⟩:=QQ.1 hg;have :∀{l:List (Nat×O)},p∈l->l.lookup p.1≠none:=by
     intro l
     induction l with
     |nil=>intro h;cases h
     |cons q l ih=>
      intro h hn;simp only [List.lookup] at hn;split at hn
      .cases hn
      .rename_i hb;rcases QP.1 h with h | h
       .subst h;simp at hb
       .exact ih h hn
    exact this hp (by rw [e];exact hl)
  .refine ⟨m,fun k a b hd hg => ?_,?_,h3.imp id fun ⟨k,a,b,c⟩=>⟨k,a,by omega,c⟩⟩
   .by_cases e:k=n
    .subst e;exact hw ⟨hd,hg⟩
    .exact h1 k a (by omega) hd hg
   .cases hd:D n with
    |false=>simp only [SD,hd,W4,if_false];exact h2
    |true=>
     have hg:g∉(es n).aJ.map (·.1):=fun hg=>hw ⟨hd,hg⟩;simp only [SD,hd,if_true,yc,jV hg];exact h2
theorem Am {st:St} {o:Oper} {d:Nat} {t:TypeId} {x:Operand} {i:TI} {g off:Nat} (h1:o.op=.load t x) (h2:tt t=some i) (h4:st.dJ x=.v (.one (.box g off))) {K:Eff->Prop} :
  jk T tt d st o K↔∃ws,st.o g=.box ws/\(off+i.size<=ws.length/\0<i.size)/\K { x:=V.gq i.agg ((ws.drop off).take i.size),aJ:=[],new:=[] }:=by
 have hD :∀dc,dW tt dc d st.o st.dJ (.load t x) o.type=none:=fun dc=>by
  simp only [dW,Aa,h2,h4];cases abp dc<;>rfl
 have e:jk T tt d st o K↔(match kernel tt d st.o st.dJ (.load t x) o.type with
   |some r=>r.pre/\K { x:=r.dst r.val,aJ:=r.aJ r.val,new:=r.new }
   |none=>False):=by
  unfold jk;rw [h1];simp only [hD,reduceCtorEq,false_and,exists_false,false_or,EY,cond_false];cases kernel tt d st.o st.dJ (.load t x) o.type<;>rfl
 rw [e];simp only [kernel,h2,h4];cases ho:st.o g with
 |box ws=>
  simp only;by_cases hs:off+i.size<=ws.length/\0<i.size
  .rw [if_pos hs];simp only [DC.pure,true_and];constructor
   .intro h;exact ⟨ws,rfl,hs,h⟩
   .rintro ⟨ws',e',_,h⟩;cases e';exact h
  .rw [if_neg hs];simp only [false_iff];rintro ⟨ws',e',h,_⟩;cases e';exact hs h
 |_=>
  simp only [false_iff];rintro ⟨ws',e',_⟩;cases e'
theorem abJ {st:St} {o:Oper} {e:Eff} {g off n:Nat} (hc:Can T tt N ops st o e) (hl:II tt st o=some (g,off,n)):e.aJ=[]:=by
 obtain ⟨t,x,i,h1,h2,h3,h4⟩:=Ou hl;have key :∀{d:Nat},(jk T tt d st o fun e'=>e'.new.all (fun g=>!st.used g)=true/\e'=e)->e.aJ=[]:=by
  intro d h;obtain ⟨ws,_,_,_,rfl⟩:=(Am h1 h2 h4).1 h;rfl
 unfold Can stepW at hc;obtain ⟨_,hc⟩:=hc;split at hc
 .exact key hc
 .split at hc
  .rename_i b _;cases b with
   |true=>exact key hc
   |false=>have hc:Eff.skip=e:=hc;rw [<-hc];rfl
  .cases hc
theorem Zp {st:St} {e:Eff} {g:Nat} (h:g∈U3 st e) :∃x,e.aJ.lookup g=some x/\kindOf x=kindOf (st.o g):=by
 unfold U3 at h;obtain ⟨g',_,hp⟩:=qd.1 h;cases hl:e.aJ.lookup g' with
 |none=>rw [hl] at hp;cases hp
 |some x=>
  rw [hl] at hp;simp only at hp;cases hb:Nat.beq (kindOf x) (kindOf (st.o g')) with
  |false=>rw [hb] at hp;cases hp
  |true=>
   rw [hb] at hp;cases hp;exact ⟨x,hl,Q4 hb⟩
theorem L9 {o o':Nat->O} {x:W} (h :∀g∈x.names,kindOf (o g)=kindOf (o' g)):x.live o=x.live o':=by
 cases x<;>simp only [W.live]<;>first | rfl | skip
 .rename_i g off;have:=h g (by simp [W.names]);cases h1:o g<;>cases h2:o' g<;>rw [h1,h2] at this<;>first | rfl | cases this
 .rename_i g n off;have:=h g (by simp [W.names]);cases h1:o g<;>cases h2:o' g<;>rw [h1,h2] at this<;>first | rfl | cases this
theorem Q9 {o o':Nat->O} {d:Nat} {F F':Operand->S} {op:Op} {ty:TypeId} (hp:tH op=true) (hF :∀x∈op.operands.toList,F x=F' x) (ho :∀x∈op.operands.toList,∀g∈(F x).names,kindOf (o g)=kindOf (o' g)) :
  kernel tt d o F op ty=kernel tt d o' F' op ty:=by
 cases op<;>first | (cases hp;done) | skip
 .rename_i x;have h1:=hF x (by simp [Op.operands]);have h2:=ho x (by simp [Op.operands]);simp only [kernel,<-h1];generalize F x=z at h2;split
  .rename_i x;rw [L9 (o':=o') fun g hg=>h2 g (by simpa [S.names,V.names] using hg)]
  .rfl
 .rename_i t x n;have h1:=hF x (by simp [Op.operands]);have h2:=ho x (by simp [Op.operands]);simp only [kernel,<-h1];generalize F x=z at h2;split
  .rename_i x _ _;rw [L9 (o':=o') fun g hg=>h2 g (by simpa [S.names,V.names] using hg)]
  .rfl
theorem Ap {st:St} {o:Oper} {d:Nat} (hp:tH o.op=true) {K:Eff->Prop} :
  jk T tt d st o K↔(match kernel tt d st.o st.dJ o.op o.type with
   |some r=>r.pre/\K { x:=r.dst r.val,aJ:=r.aJ r.val,new:=r.new }
   |none=>False):=by
 unfold jk;cases hop:o.op<;>rw [hop] at hp<;>first | (cases hp;done) | skip
 all_goals
  simp only [dW,reduceCtorEq,false_and,exists_false,false_or,EY,cond_false];generalize kernel tt d st.o st.dJ _ o.type=z;cases z<;>rfl
theorem Zq {o:Nat->O} {F:Operand->S} {d:Nat} {op:Op} {ty:TypeId} {r:DC} (hp:tH op=true) (h:kernel tt d o F op ty=some r):r.aJ r.val=[]:=by
 cases op<;>first | (cases hp;done) | skip
 all_goals
  simp only [kernel] at h;split at h
  .split at h
   .simp only [Q0] at h;subst h;rfl
   .cases h
  .cases h
theorem abK {st:St} {o:Oper} {e:Eff} (hc:Can T tt N ops st o e) (hp:tH o.op=true):e.aJ=[]:=by
 have key :∀{d:Nat},(jk T tt d st o fun e'=>e'.new.all (fun g=>!st.used g)=true/\e'=e)->e.aJ=[]:=by
  intro d h;have h:=(Ap hp).1 h;split at h
  .rename_i r hr;obtain ⟨_,_,rfl⟩:=h;exact Zq hp hr
  .cases h
 unfold Can stepW at hc;obtain ⟨_,hc⟩:=hc;split at hc
 .exact key hc
 .split at hc
  .rename_i b _;cases b with
   |true=>exact key hc
   |false=>have hc:Eff.skip=e:=hc;rw [<-hc];rfl
  .cases hc
theorem abL {st st':St} {o:Oper} {e:Eff} (hc:Can T tt N ops st o e) (hp:tH o.op=true) (hs :∀t∈o.looksAt ops,st.s t=st'.s t) (ho :∀g∈qJ T st o,kindOf (st.o g)=kindOf (st'.o g)) (hu :∀g∈e.new,st.used g=st'.used g):Can T tt N ops st' o e:=by
 have hx :∀x∈o.op.operands.toList,st.dJ x=st'.dJ x:=by
  intro x hm;cases x with
  |tmp t=>exact hs t (ZZ _ (qd.2 ⟨_,hm,rfl⟩))
  |_=>rfl
 have hl:looks o.op=true:=by cases hop:o.op<;>rw [hop] at hp<;>first | rfl | cases hp
 have hk:kernel tt (o.dst.getD 0) st.o st.dJ o.op o.type=kernel tt (o.dst.getD 0) st'.o st'.dJ o.op o.type:=
  Q9 hp hx fun x hm g hg=>ho g (ZZ _ (by rw [hl];exact Z1.2 ⟨x,hm,Z1.2 ⟨g,hg,by simp⟩⟩))
 have eff:(jk T tt (o.dst.getD 0) st o fun e'=>e'.new.all (fun g=>!st.used g)=true/\e'=e)->(jk T tt (o.dst.getD 0) st' o fun e'=>e'.new.all (fun g=>!st'.used g)=true/\e'=e):=by
  intro h;have h:=(Ap hp).1 h;refine (Ap hp).2 ?_;rw [<-hk];split at h
  .obtain ⟨q1,q2,rfl⟩:=h;refine ⟨q1,?_,rfl⟩;rw [X2] at q2 ⊢;intro g hg;rw [<-hu g hg];exact q2 g hg
  .cases h
 unfold Can stepW at *;refine ⟨hc.1,?_⟩;have hc:=hc.2;cases hg:o.guard with
 |none=>rw [hg] at hc;exact eff hc
 |some p=>
  obtain ⟨j,want⟩:=p;rw [hg] at hc;simp only at hc ⊢;have:guardOf ops st j want=guardOf ops st' j want:=by
   unfold guardOf;cases hd:(ops[j]?).bind (·.dst) with
   |none=>rfl
   |some t=>
    simp only;rw [hs t (US _ (by simp [hg,hd]))]
  rw [<-this];split at hc
  .rename_i b hb;cases b with
   |true=>exact eff hc
   |false=>exact hc
  .cases hc
theorem abM {st st':St} {o:Oper} {e:Eff} {g off n:Nat} (hc:Can T tt N ops st o e) (hs :∀t∈o.looksAt ops,st.s t=st'.s t) (hl:II tt st o=some (g,off,n))
  (H:0<n->∀ws,st.o g=.box ws->Rng ws off n (st'.o g)) (hu :∀g∈e.new,st.used g=st'.used g):Can T tt N ops st' o e:=by
 obtain ⟨t,x,i,h1,h2,h3,h4⟩:=Ou hl;have hx:st'.dJ x=.v (.one (.box g off)):=by
  rw [<-h4];cases x with
  |tmp t=>exact (hs t (ZZ _ (qd.2 ⟨.tmp t,by simp [h1,Op.operands],rfl⟩))).symm
  |_=>rfl
 have eff:(jk T tt (o.dst.getD 0) st o fun e'=>e'.new.all (fun g=>!st.used g)=true/\e'=e)->(jk T tt (o.dst.getD 0) st' o fun e'=>e'.new.all (fun g=>!st'.used g)=true/\e'=e):=by
  intro h;obtain ⟨ws,ho,⟨q1,q2⟩,q3,rfl⟩:=(Am h1 h2 h4).1 h;obtain ⟨wc,r1,r2,r3⟩:=H (by omega) ws ho;refine (Am h1 h2 hx).2 ⟨wc,r1,⟨by omega,q2⟩,rfl,?_⟩;have key:(wc.drop off).take i.size=(ws.drop off).take i.size:=by
   refine Ki fun k => ?_;rw [Z2,Z2];split
   .rw [W5,W5];exact r3 _ (by omega) (by omega)
   .rfl
  rw [key]
 unfold Can stepW at *;refine ⟨hc.1,?_⟩;have hc:=hc.2;cases hg:o.guard with
 |none=>rw [hg] at hc;exact eff hc
 |some p=>
  obtain ⟨j,want⟩:=p;rw [hg] at hc;simp only at hc ⊢;have:guardOf ops st j want=guardOf ops st' j want:=by
   unfold guardOf;cases hd:(ops[j]?).bind (·.dst) with
   |none=>rfl
   |some t=>
    simp only;rw [hs t (US _ (by simp [hg,hd]))]
  rw [<-this];split at hc
  .rename_i b hb;cases b with
   |true=>exact eff hc
   |false=>exact hc
  .cases hc
theorem Zr (hT :∀f sp,T f=some sp->Sound Pg (f % 1000000) sp) (htt:iC Pg tt) {es:Nat->Eff} {fs:List tC} (hfree:Xe ops fs=true)
  (hcan :∀i,i<ops.size->∃o,ops[i]?=some o/\Can T tt N ops (SD ops es st (fun _=>true) i) o (es i)/\fs[i]?=some { rd:=qJ T (SD ops es st (fun _=>true) i) o,wr:=(es i).aJ.map (·.1),new:=(es i).new,ld:=II tt (SD ops es st (fun _=>true) i) o,kp:=U2 (SD ops es st (fun _=>true) i) (es i),pk:=tH o.op,kd:=U3 (SD ops es st (fun _=>true) i) (es i) })
  (hQ :∀a' w',Good E N aY pW (SD ops es st (fun _=>true) ops.size) a' w'->Q .normal a' w') :
  ∀(fuel:Nat) (listed:Array Bool) (a:Act) (w:World),listed.size=ops.size->Down ops (fun k=>listed.getD k false)->(List.range ops.size).countP (fun k=>!listed.getD k false)<=fuel->
   Good E N aY pW (SD ops es st (fun k=>listed.getD k false) ops.size) a w->wpAny Pg .any ops Q fuel listed a w:=by
 have hf :∀j,j<ops.size->(oK ops.toList []).getD j 0<2 ^ j/\∀i,i<j->((oK ops.toList []).getD j 0).testBit i=true\/∃x y fx fy,ops[i]?=some x/\ops[j]?=some y/\fs[i]?=some fx/\fs[j]?=some fy/\Apart ops x y fx fy:=by
  intro j hj;have:=(X2.1 hfree) j (Up.2 hj);simp only [Q6,decide_eq_true_eq,X2,Up,UX] at this;refine ⟨this.1,fun i hi => ?_⟩;rcases this.2 i hi with h | h
  .exact .inl h
  .right;split at h
   .rename_i x y fx fy h1 h2 h3 h4;exact ⟨x,y,fx,fy,h1,h2,h3,h4,U4 h⟩
   .cases h
 have done :∀(listed:Array Bool),listed.size=ops.size->Down ops (fun k=>listed.getD k false)->Region.ready .any ops listed=[]->∀k,k<ops.size->listed.getD k false=true:=by
  intro listed hsz hD hr k
  induction k using Nat.strongRecOn with
  |_ k ih=>
   intro hk;obtain ⟨o,ho,_,_⟩:=hcan k hk;by_cases hl:listed.getD k false=true
   .exact hl
   .exfalso;have:k∈Region.ready .any ops listed:=mem_ready.2 ⟨by
     have hl:listed.getD k false=false:=by simpa using hl
     rw [ZS] at hl ⊢;rw [Kk (by omega)] at hl ⊢;exact hl,o,ho,fun e he hb=>ih e.on (QZ ho (hf k hk).1 he hb) (by have:=QZ ho (hf k hk).1 he hb;omega)⟩
    rw [hr] at this;cases this
 have final :∀(listed:Array Bool) (a:Act) (w:World),listed.size=ops.size->Down ops (fun k=>listed.getD k false)->Region.ready .any ops listed=[]->Good E N aY pW (SD ops es st (fun k=>listed.getD k false) ops.size) a w->Q .normal a w:=by
  intro listed a w hsz hD hr hg;have h:=done listed hsz hD hr;rw [D6 (D':=fun _=>true) fun k hk=>h k hk] at hg;exact hQ a w hg
 intro fuel
 induction fuel with
 |zero=>
  intro listed a w hsz hD hcnt hg;have hr:Region.ready .any ops listed=[]:=by
   cases hr:Region.ready .any ops listed with
   |nil=>rfl
   |cons k ks=>
    exfalso;have hk:k∈Region.ready .any ops listed:=by rw [hr];simp
    obtain ⟨h1,o,ho,_⟩:=mem_ready.1 hk;have hlt:=(Wg.1 ho).1;have:0<(List.range ops.size).countP (fun k=>!listed.getD k false):=by
     rw [List.countP_pos_iff];refine ⟨k,Up.2 hlt,?_⟩;rw [ZS] at h1 ⊢;rw [Kk (by omega)] at h1 ⊢;simpa using h1
    omega
  exact ⟨hr,final listed a w hsz hD hr hg⟩
 |succ fuel ih=>
  intro listed a w hsz hD hcnt hg;refine ⟨fun hr=>final listed a w hsz hD hr hg,fun i hi => ?_⟩;obtain ⟨hni,oi,hoi,hpre⟩:=mem_ready.1 hi;have hlt:i<ops.size:=(Wg.1 hoi).1;have hDi:listed.getD i false=false:=by
   rw [ZS] at hni ⊢;rw [Kk (by omega)] at hni ⊢;exact hni
  obtain ⟨o,ho,hc,hfi⟩:=hcan i hlt;rw [hoi] at ho;cases ho;have hset :∀k,(listed.setIfInBounds i true).getD k false=if k=i then true else listed.getD k false:=by
   intro k;by_cases e:k=i
   .subst e;rw [if_pos rfl,ZS,Array.getElem?_setIfInBounds_self];simp [show k<listed.size by omega]
   .rw [if_neg e,ZS,KB (Ne.symm e),<-ZS]
  have hD':Down ops (fun k=>(listed.setIfInBounds i true).getD k false):=by
   intro j o' ho' hj e he hb;simp only [hset] at hj ⊢;by_cases ej:j=i
   .subst ej;rw [hoi] at ho';cases ho';have:=hpre e he hb;rw [this];simp
   .rw [if_neg ej] at hj;have:=hD j o' ho' hj e he hb;simp only at this;rw [this];simp
  have hap :∀k,k<ops.size->k≠i->((k<i/\listed.getD k false=false)\/(i<k/\listed.getD k false=true))->∃y fy,ops[k]?=some y/\fs[k]?=some fy/\
    (∀t,y.dst=some t->t∉oi.looksAt ops)/\(∀t,oi.dst=some t->y.dst≠some t)/\((∀g∈fy.wr,g∉qJ T (SD ops es st (fun _=>true) i) oi)\/∃fi,fs[i]?=some fi/\Fj fy fi=true)/\(∀g∈fy.wr,g∉(es i).aJ.map (·.1))/\(∀g∈fy.new,g∉(es i).new)/\fy.wr=(es k).aJ.map (·.1)/\fy.new=(es k).new:=by
   intro k hk hne hcase;obtain ⟨y0,hy0,_,hfk⟩:=hcan k hk;rcases hcase with ⟨hlt',hfalse⟩ | ⟨hlt',alK⟩
   .rcases (hf i hlt).2 k hlt' with hb | ⟨x,y,fx,fy,h1,h2,h3,h4,ap⟩
    .have:=yh hD' i hoi (by simp [hset]) k hb;simp only [hset,if_neg hne] at this;rw [hfalse] at this;cases this
    .rw [hoi] at h2;cases h2;rw [hfi] at h4;cases h4;rw [hfk] at h3;cases h3;exact ⟨x,_,h1,hfk,ap.dy,fun t e e'=>ap.dd t e' e,ap.wr.imp id (fun h=>⟨_,hfi,h⟩),ap.ww,ap.nn,rfl,rfl⟩
   .rcases (hf k hk).2 i hlt' with hb | ⟨x,y,fx,fy,h1,h2,h3,h4,ap⟩
    .have:=yh hD k hy0 alK i hb;rw [hDi] at this;cases this
    .rw [hoi] at h1;cases h1;rw [hfi] at h3;cases h3;rw [hfk] at h4;cases h4;exact ⟨y,_,h2,hfk,ap.dx,ap.dd,ap.rw.imp id (fun h=>⟨_,hfi,h⟩),fun g hg hg'=>ap.ww g hg' hg,fun g hg hg'=>ap.nn g hg' hg,rfl,rfl⟩
  have Ov:SD ops es st (fun _=>true) i=SD ops es st (fun k=>decide (k<i)) ops.size:=by
   have :∀m,i+m<=ops.size->SD ops es st (fun k=>decide (k<i)) (i+m)=SD ops es st (fun _=>true) i:=by
    intro m
    induction m with
    |zero=>intro _;exact D6 fun k hk=>by simp [show k<i by omega]
    |succ m ih=>
     intro hm;rw [<-Uv];simp only [SD,show ¬ (i+m<i) by omega,decide_false,W4,if_false];exact ih (by omega)
   have:=this (ops.size-i) (by omega);rw [show i+(ops.size-i)=ops.size by omega] at this;exact this.symm
  have hdiff :∀k,k<ops.size->decide (k<i)≠listed.getD k false->k≠i/\((k<i/\listed.getD k false=false)\/(i<k/\listed.getD k false=true)):=by
   intro k hk hne;by_cases e:k=i
   .subst e;rw [hDi] at hne;simp at hne
   .refine ⟨e,?_⟩;by_cases hki:k<i
    .exact .inl ⟨hki,by simpa [hki] using hne⟩
    .refine .inr ⟨by omega,?_⟩;cases hl:listed.getD k false with
     |true=>rfl
     |false=>rw [hl] at hne;simp [hki] at hne
  have hdst :∀(k:Nat) (y:Oper),ops[k]?=some y->(ops[k]?).bind (·.dst)=y.dst:=fun k y h=>by rw [h];rfl
  have hc':Can T tt N ops (SD ops es st (fun k=>listed.getD k false) ops.size) oi (es i):=by
   have sZ :∀t∈oi.looksAt ops,(SD ops es st (fun _=>true) i).s t=(SD ops es st (fun k=>listed.getD k false) ops.size).s t:=fun t ht=>by
    rw [Ov];refine ajk fun k hk hne => ?_;obtain ⟨h1,h2⟩:=hdiff k hk hne;obtain ⟨y,fy,h3,_,h4,_⟩:=hap k hk h1 h2;rw [hdst k y h3];exact fun e=>h4 t e ht
   have Qi :∀g∈(es i).new,(SD ops es st (fun _=>true) i).used g=(SD ops es st (fun k=>listed.getD k false) ops.size).used g:=fun g hg=>by
    rw [Ov];refine Ot fun k hk hne => ?_;obtain ⟨h1,h2⟩:=hdiff k hk hne;obtain ⟨y,fy,h3,_,_,_,_,_,h4,_,h5⟩:=hap k hk h1 h2;rw [<-h5];exact fun e=>h4 g e hg
   have travel :∀(g:Nat) (Pr:O->Prop),g∉(es i).aJ.map (·.1)->(∀k,k<ops.size->k≠i->((k<i/\listed.getD k false=false)\/(i<k/\listed.getD k false=true))->g∈(es k).aJ.map (·.1)->
     (Pr ((SD ops es st (fun _=>true) k).o g)↔Pr ((SD ops es st (fun _=>true) (k+1)).o g)))->Pr ((SD ops es st (fun _=>true) i).o g)->Pr ((SD ops es st (fun k=>listed.getD k false) ops.size).o g):=by
    intro g Pr hgi hkeep hP0;have hstep :∀k,k<ops.size->(g∈(es k).aJ.map (·.1)->(Pr ((SD ops es st (fun _=>true) k).o g)↔Pr ((SD ops es st (fun _=>true) (k+1)).o g)))->
      (Pr ((SD ops es st (fun _=>true) k).o g)↔Pr ((SD ops es st (fun _=>true) (k+1)).o g)):=by
     intro k hk hw;by_cases hg:g∈(es k).aJ.map (·.1)
     .exact hw hg
     .have:(SD ops es st (fun _=>true) (k+1)).o g=(SD ops es st (fun _=>true) k).o g:=by
       simp only [SD,if_true,yc,jV hg]
      rw [this]
    obtain ⟨m',hm',hlast,hafter⟩:=Q8 (ops:=ops) (es:=es) (st:=st) (D:=fun k=>listed.getD k false) (g:=g) ops.size;rw [hlast];rcases v8 i m' with him | him
    .-- forward
     have :∀d,i+d<=m'->Pr ((SD ops es st (fun _=>true) (i+d)).o g):=by
      intro d
      induction d with
      |zero=>intro _;exact hP0
      |succ d ihd=>
       intro hd;have hk:i+d<ops.size:=by
        rcases hafter with e | ⟨k1,e,h2,_⟩<;>omega
       rw [<-Uv];refine (hstep (i+d) hk (fun hg => ?_)).1 (ihd (by omega));by_cases e0:d=0
       .exfalso;subst e0;exact hgi hg
       .have hin:listed.getD (i+d) false=true:=by
         rcases hafter with e | ⟨k1,rfl,alL,hk1,hg1⟩
         .omega
         .by_cases e1:i+d=k1
          .rw [e1];exact hk1
          .obtain ⟨y1,hy1,_,hf1⟩:=hcan k1 alL;rcases (hf k1 alL).2 (i+d) (by omega) with hb | ⟨x2,y2,fx,fy,h1,h2,h3,h4,ap⟩
           .exact yh hD k1 hy1 hk1 _ hb
           .exfalso;obtain ⟨y0,_,_,hfk⟩:=hcan (i+d) hk;rw [hfk] at h3;cases h3;rw [hf1] at h4;cases h4;exact ap.ww g hg hg1
        exact hkeep (i+d) hk (by omega) (.inr ⟨by omega,hin⟩) hg
     have:=this (m'-i) (by omega)
     rwa [show i+(m'-i)=m' by omega] at this
    .-- backward
     have :∀d,d<=i-m'->Pr ((SD ops es st (fun _=>true) (i-d)).o g):=by
      intro d
      induction d with
      |zero=>intro _;exact hP0
      |succ d ihd=>
       intro hd;have hk:i-(d+1)<ops.size:=by omega
       have e1:i-(d+1)+1=i-d:=by omega
       refine (hstep (i-(d+1)) hk (fun hg => ?_)).2 (by rw [e1];exact ihd (by omega));have hout:listed.getD (i-(d+1)) false=false:=by
        cases hl:listed.getD (i-(d+1)) false with
        |false=>rfl
        |true=>exact absurd hg (hm' (i-(d+1)) (by omega) hk hl)
       exact hkeep (i-(d+1)) hk (by omega) (.inl ⟨by omega,hout⟩) hg
     have:=this (i-m') (Ys _)
     rwa [show i-(i-m')=m' by omega] at this
   cases hld:II tt (SD ops es st (fun _=>true) i) oi with
   |none=>
    by_cases hpk:tH oi.op=true
    .refine abL hc hpk sZ (fun g hg => ?_) Qi;refine (travel g (fun x=>kindOf ((SD ops es st (fun _=>true) i).o g)=kindOf x) (by rw [abK hc hpk];simp) (fun k hk hne hcase hgk => ?_) rfl);obtain ⟨y,fy,h3,hfk,_,_,h4,_,_,h5,_⟩:=hap k hk hne hcase;rcases h4 with h4 | ⟨fi,Q_,hs⟩
     .exfalso;rw [<-h5] at hgk;exact h4 g hgk hg
     .rw [hfi] at Q_;cases Q_;simp only [Fj,hld,hpk,Bool.true_and,X2,UX,W6,Wm,decide_eq_true_eq,decide_eq_false_iff_not] at hs;rw [h5] at hs;rcases hs g hg with hs | hs
      .exact absurd hgk hs
      .obtain ⟨o',ho',_,abN⟩:=hcan k hk;rw [hfk] at abN;cases abN;obtain ⟨x,q1,q2⟩:=Zp hs;have:(SD ops es st (fun _=>true) (k+1)).o g=x:=by simp only [SD,if_true,yc,q1]
       rw [this,q2]
    .refine Zm hc sZ (fun g hg => ?_) Qi;rw [Ov] at hg ⊢;refine ajl fun k hk hne => ?_;obtain ⟨h1,h2⟩:=hdiff k hk hne;obtain ⟨y,fy,h3,_,_,_,h4,_,_,h5,_⟩:=hap k hk h1 h2;rw [<-h5];rcases h4 with h4 | ⟨fi,Q_,hs⟩
     .rw [Ov] at h4;exact fun e=>h4 g e hg
     .rw [hfi] at Q_;cases Q_;simp only [Fj,hld,hpk,Bool.false_and] at hs;cases hs
   |some q=>
    obtain ⟨g,off,n⟩:=q;refine abM hc sZ hld (fun hn ws hws => ?_) Qi;refine travel g (Rng ws off n) (by rw [abJ hc hld];simp) (fun k hk hne hcase hg => ?_) ⟨ws,hws,rfl,fun _ _ _=>rfl⟩;obtain ⟨y,fy,h3,hfk,_,_,h4,_,_,h5,_⟩:=hap k hk hne hcase;rcases h4 with h4 | ⟨fi,Q_,hs⟩
    .exfalso;rw [<-h5] at hg;exact h4 g hg (Zo hld)
    .rw [hfi] at Q_;cases Q_;simp only [Fj,hld,X2,Up] at hs;obtain ⟨o',ho',_,abN⟩:=hcan k hk;rw [hfk] at abN;cases abN;have one :∀off',off<=off'->off'<off+n->∃wa wb,(SD ops es st (fun _=>true) k).o g=.box wa/\(SD ops es st (fun _=>true) (k+1)).o g=.box wb/\wa.length=wb.length/\wa[off']?=wb[off']?:=by
      intro off' h1' h2';have:=hs (off'-off) (by omega);obtain ⟨p,hp,he⟩:=Kx.1 this;simp only [Q6] at he;have e1:=Q4 he.1;have e2:=Q4 he.2;obtain ⟨wa,wb,q1,q2,q3,q4⟩:=Zn hp;rw [e1] at q1 q2;refine ⟨wa,wb,q1,?_,q3,by rw [show off'=p.2 by omega];exact q4⟩;simp only [SD,if_true,yc,q2]
     obtain ⟨wa,wb,q1,q2,q3,_⟩:=one off (Ys _) (by omega);rw [q1,q2];have hall :∀off',off<=off'->off'<off+n->wa[off']?=wb[off']?:=fun off' a1 a2=>by
      obtain ⟨wa',wb',r1,r2,_,r4⟩:=one off' a1 a2;rw [q1] at r1;rw [q2] at r2;cases r1;cases r2;exact r4
     constructor
     .rintro ⟨wc,hc,hl,hr⟩;cases hc;exact ⟨wb,rfl,by omega,fun off' a1 a2=>by rw [<-hall off' a1 a2];exact hr off' a1 a2⟩
     .rintro ⟨wc,hc,hl,hr⟩;cases hc;exact ⟨wa,rfl,by omega,fun off' a1 a2=>by rw [hall off' a1 a2];exact hr off' a1 a2⟩
  have hins:SD ops es st (fun k=>(listed.setIfInBounds i true).getD k false) ops.size=(SD ops es st (fun k=>listed.getD k false) ops.size).eff oi.dst (es i):=by
   have hDs :∀k,(fun k=>(listed.setIfInBounds i true).getD k false) k=if k=i then true else listed.getD k false:=hset
   have hne :∀k,(fun k=>(listed.setIfInBounds i true).getD k false) k≠(fun k=>listed.getD k false) k->k=i:=by
    intro k h;simp only [hset] at h;by_cases e:k=i
    .exact e
    .rw [if_neg e] at h;exact absurd rfl h
   have abO :∀k,i<k->k<ops.size->(fun k=>(listed.setIfInBounds i true).getD k false) k=true->listed.getD k false=true:=by
    intro k h1 h2 h3;simp only [hset,if_neg (show k≠i by omega)] at h3;exact h3
   refine St.ext' (fun t => ?_) (fun g => ?_) (fun g => ?_)
   .rw [LY];by_cases hd:oi.dst=some t
    .rw [if_pos hd];refine LZ (by simp [hset]) ((hdst i oi hoi).trans hd) hlt fun k h1 h2 h3 => ?_;obtain ⟨y,fy,q1,_,_,q2,_⟩:=hap k h2 (by omega) (.inr ⟨h1,abO k h1 h2 h3⟩);rw [hdst k y q1];exact q2 t hd
    .rw [if_neg hd];refine ajk fun k hk hk' => ?_;rw [hne k hk',hdst i oi hoi];exact hd
   .rw [yc];cases hu:(es i).aJ.lookup g with
    |some x=>
     refine L6 (by simp [hset]) hu hlt fun k h1 h2 h3 => ?_;obtain ⟨y,fy,q1,_,_,_,_,q2,_,q3,_⟩:=hap k h2 (by omega) (.inr ⟨h1,abO k h1 h2 h3⟩);rw [<-q3];exact fun e=>q2 g e (QQ.2 ⟨(g,x),kM hu,rfl⟩)
    |none=>
     refine ajl fun k hk hk' => ?_;rw [hne k hk'];intro hm;obtain ⟨p,hp,rfl⟩:=QQ.1 hm;have :∀{l:List (Nat×O)},p∈l->l.lookup p.1≠none:=by
      intro l
      induction l with
      |nil=>intro h;cases h
      |cons q l ih=>
       intro h hn;simp only [List.lookup] at hn;split at hn
       .cases hn
       .rename_i hb;rcases QP.1 h with h | h
        .subst h;simp at hb
        .exact ih h hn
     exact this hp hu
   .rw [uy];by_cases hn:g∈(es i).new
    .rw [Fp (by simp [hset]) hn hlt];simp [hn]
    .have:(es i).new.contains g=false:=by simpa using hn
     rw [this,J1];refine Ot fun k hk hk' => ?_;rw [hne k hk'];exact hn
  refine IB hT htt hoi hg hc' fun a' w' hg'=>ih _ a' w' (by simp [hsz]) hD' ?_ (by rw [hins];exact hg');have hlt2:(List.range ops.size).countP (fun k=>!(listed.setIfInBounds i true).getD k false)<(List.range ops.size).countP (fun k=>!listed.getD k false):=by
   have gen :∀l:List Nat,i∈l->l.countP (fun k=>!(listed.setIfInBounds i true).getD k false)<l.countP (fun k=>!listed.getD k false):=by
    intro l;have hle :∀l:List Nat,l.countP (fun k=>!(listed.setIfInBounds i true).getD k false)<=l.countP (fun k=>!listed.getD k false):=fun l=>List.countP_mono_left fun k _ h=>by
     simp only [hset] at h;by_cases e:k=i
     .simp [e] at h
     .simpa [e] using h
    induction l with
    |nil=>intro h;cases h
    |cons k l ihl=>
     intro h;simp only [List.countP_cons];by_cases e:k=i
     .subst e;have h1:(!(listed.setIfInBounds k true).getD k false)=false:=by simp [hset]
      have h2:(!listed.getD k false)=true:=by simp [hDi]
      rw [h1,h2];exact Nat.lt_succ_of_le (hle l)
     .have:=ihl (by rcases QP.1 h with h | h;exact absurd h.symm e;exact h);have e1:(!(listed.setIfInBounds i true).getD k false)=(!listed.getD k false):=by rw [hset,if_neg e]
      rw [e1];omega
   exact gen _ (Up.2 hlt)
  omega
theorem IX (hT :∀f sp,T f=some sp->Sound Pg (f % 1000000) sp) (htt:iC Pg tt) {draw:Bool} {K:St->Prop} (h:qh T tt N ops draw st K) (hg:Good E N aY pW st a w)
  (hK :∀st' a' w',K st'->Good E N aY pW st' a' w'->Q .normal a' w'):(draw=false/\wpOps Pg ops Q (List.range ops.size) a w)\/(draw=true/\wpAny Pg .any ops Q ops.size (Array.replicate ops.size false) a { w with drawn:=w.drawn+1 }):=by
 cases draw with
 |false=>exact .inl ⟨rfl,Cc hT htt hK _ h hg⟩
 |true=>
  have h:oZ T tt N ops (List.range ops.size) st [] (fun st' fs=>Xe ops fs=true/\K st'):=h;rw [qi] at h;obtain ⟨es,fs,_,_,⟨h1,h2⟩,h3⟩:=Fq (st:=st) ops.size 0 (fun _=>Eff.skip) [] rfl h;rw [WD] at h2;refine .inr ⟨rfl,?_⟩;refine Zr hT htt h1 (fun i hi=>h3 i (by omega) (by omega)) (fun a' w' hg'=>hK _ a' w' h2 hg') ops.size _ a _ (by simp) ?_ ?_ ?_
  .intro j o _ hj;simp only [ZS] at hj;rw [vb] at hj;split at hj<;>cases hj
  .refine UI List.countP_le_length ?_;simp
  .obtain ⟨⟨gh,hR,E_⟩,hsz,hdf⟩:=hg;have e:SD ops es st (fun k=>(Array.replicate ops.size false).getD k false) ops.size=st:=by
    have :∀n,SD ops es st (fun k=>(Array.replicate ops.size false).getD k false) n=st:=by
     intro n
     induction n with
     |zero=>rfl
     |succ n ih=>
      have:(Array.replicate ops.size false).getD n false=false:=by
       rw [ZS,vb];split<;>rfl
      simp only [SD,this,W4,if_false];exact ih
    exact this _
   rw [e];exact ⟨⟨gh,hR.drew _,E_⟩,hsz,hdf⟩
theorem Ox (hT :∀f sp,T f=some sp->Sound Pg (f % 1000000) sp) (htt:iC Pg tt) (hm:Pg.follows .mixedOrders=true) {id:Nat} {draw:Bool} {K:St->Prop} (h:qh T tt N ops draw st K) (hg:Good E N aY pW st a w)
  (hK :∀st' a' w',K st'->Good E N aY pW st' a' w'->Q .normal a' w'):(Code.region id ops draw).wp Pg Q a w:=by
 rcases IX hT htt h hg hK with ⟨e,h2⟩ | ⟨e,h2⟩
 .rw [e];exact wp_region h2
 .rw [e];exact wp_region_any hm h2
end
end Go.Fw

namespace Go.Fw
variable [eP]
def Xf (gs:List Nat) (o:Nat->O):W->W
 |.own g=>if gs.contains g=true then match plainO o g with
  |some (a,i,sz,l)=>.p a i (P.fP sz l)
  |none=>.own g
  else .own g
 |.vw g lo hi=>if gs.contains g=true then match plainO o g with
  |some (a,i,sz,l)=>.p a i (P.fP sz ((l.take hi.nat).drop lo.nat))
  |none=>.vw g lo hi
  else .vw g lo hi
 |x=>x
def plV (gs:List Nat) (o:Nat->O):V->V
 |.one x=>.one (Xf gs o x)
 |.agg xs=>.agg (xs.map (Xf gs o))
def plS (gs:List Nat) (o:Nat->O):S->S
 |.v x=>.v (plV gs o x)
 |.jM xs=>.jM (xs.map (plV gs o))
 |.no=>.no
def plO (gs:List Nat) (o:Nat->O) (g:Nat):O:=match o g with
 |.box ws=>.box (ws.map (Xf gs o))
 |x=>if gs.contains g=true then (Fw.aU o g).2 else x
def fA (gs:List Nat) (st:St):St:={ s:=fun t=>plS gs st.o (st.s t),o:=fun g=>plO gs st.o g,used:=st.used }
def afr (o:Nat->O) (gs:List Nat):Bool:=gs.all fun g=>(plainO o g).isSome&&(o g).names.all fun d=>gs.contains d
theorem Zt {o:Nat->O} {gs:List Nat} (h:afr o gs=true):xC o gs:=fun g hg=>by
 have:=(X2.1 h) g hg;simp only [Q6,X2,Wm,decide_eq_true_eq] at this;exact this
section
variable {E:Env} {st:St} {gh:Nat->Gh} {w:World} {val:Nat->Value}
theorem D7 {gs:List Nat} {o:Nat->O} {x:W} {g:Nat} (h:g∈(Xf gs o x).names):g∈x.names:=by
 unfold Xf at h;split at h
 .split at h
  .split at h
   .simp [W.names] at h
   .exact h
  .exact h
 .split at h
  .split at h
   .simp [W.names] at h
   .exact h
  .exact h
 .exact h
theorem L_ {gs:List Nat} {o:Nat->O} {x:V} {g:Nat} (h:g∈(plV gs o x).names):g∈x.names:=by
 cases x with
 |one x=>exact D7 h
 |agg xs=>
  simp only [plV,V.names,Z1,QQ] at h ⊢;obtain ⟨_,⟨x,hx,rfl⟩,hg⟩:=h;exact ⟨x,hx,D7 hg⟩
theorem Zu {gs:List Nat} {o:Nat->O} {x:S} {g:Nat} (h:g∈(plS gs o x).names):g∈x.names:=by
 cases x with
 |v x=>exact L_ h
 |jM xs=>
  simp only [plS,S.names,Z1,QQ] at h ⊢;obtain ⟨_,⟨x,hx,rfl⟩,hg⟩:=h;exact ⟨x,hx,L_ hg⟩
 |no=>exact h
theorem IY (gs:List Nat) (st:St) (g:Nat):((fA gs st).o g=(st.aJ (gs.map (Fw.aU st.o)) []).o g/\∀ws,st.o g≠.box ws)\/
  ∃ws,st.o g=.box ws/\(st.aJ (gs.map (Fw.aU st.o)) []).o g=.box ws/\(fA gs st).o g=.box (ws.map (Xf gs st.o)):=by
 rw [gy];cases ho:st.o g with
 |box ws=>
  refine .inr ⟨ws,rfl,?_,by simp only [fA,plO,ho]⟩;split
  .simp [Fw.aU,plainO,ho]
  .rfl
 |_=>
  refine .inl ⟨?_,fun ws e=>by cases e⟩;simp only [fA,plO,ho];simp only [Wm,decide_eq_true_eq]
theorem zM {gs:List Nat} {st:St} {g:Nat} (h:st.o g=.none):(fA gs st).o g=.none:=by
 simp only [fA,plO,h];split
 .simp [Fw.aU,plainO,h]
 .rfl
theorem Rel.plain (h:Rel E st gh val w) (gs:List Nat) (hgs:xC st.o gs):Rel E (fA gs st) gh val w:=by
 have h1:=(h.freezes gs hgs).1;have hss:(st.aJ (gs.map (Fw.aU st.o)) []).s=st.s:=rfl;have hun :∀g,(st.aJ (gs.map (Fw.aU st.o)) []).used g=st.used g:=fun g=>by simp [St.aJ]
 have key:=IY gs st;have hfr:=fun g=>gy (st:=st) gs g;generalize hst1:st.aJ (gs.map (Fw.aU st.o)) []=st1 at h1 hss hun key hfr;have own :∀g,((fA gs st).o g).bP=(st1.o g).bP:=fun g=>by
  rcases key g with ⟨e,_⟩ | ⟨ws,_,e1,e2⟩
  .rw [e]
  .rw [e1,e2];rfl
 have dim :∀g,((fA gs st).o g).dim=(st1.o g).dim:=fun g=>by
  rcases key g with ⟨e,_⟩ | ⟨ws,_,e1,e2⟩
  .rw [e]
  .rw [e1,e2];rfl
 have inner :∀g,((fA gs st).o g).inner=(st1.o g).inner:=fun g=>by
  rcases key g with ⟨e,_⟩ | ⟨ws,_,e1,e2⟩
  .rw [e]
  .rw [e1,e2];rfl
 have isd :∀g,((fA gs st).o g).oz=(st1.o g).oz:=fun g=>by
  rcases key g with ⟨e,_⟩ | ⟨ws,_,e1,e2⟩
  .rw [e]
  .rw [e1,e2];rfl
 have apw :∀g ws,(fA gs st).o g=.box ws->∃ws',st1.o g=.box ws':=fun g ws hg=>by
  rcases key g with ⟨e,_⟩ | ⟨ws',_,e1,e2⟩
  .rw [e] at hg;exact ⟨ws,hg⟩
  .exact ⟨ws',e1⟩
 have oit :∀g s n,(fA gs st).o g=.it s n->st1.o g=.it s n:=fun g s n hg=>by
  rcases key g with ⟨e,_⟩ | ⟨ws',_,e1,e2⟩
  .rw [e] at hg;exact hg
  .rw [e2] at hg;cases hg
 have hok:E.ok (fA gs st) gh w=E.ok st1 gh w:=by funext a i b;simp only [Env.ok,own]
 have hp :∀{g a i sz l},gs.contains g=true->plainO st.o g=some (a,i,sz,l)->st1.o g=.arr true a i sz l:=fun {g a i sz l} hc hpl=>by
  rw [hfr,if_pos (by simpa using hc),m_ hpl]
 have same :∀{x:W} {v:Value},fB E st1 gh w x v->fB E (fA gs st) gh w x v:=by
  intro x v r
  induction r with
  |p a i x v hx=>exact .p a i x v (by rw [hok];exact hx)
  |dF=>exact .dF
  |own g v hv hx=>exact .own g v hv fun sz len hg=>hx sz len (by rw [<-dim];exact hg)
  |vw g lo hi v hv hx=>exact .vw g lo hi v hv fun sz len hg=>hx sz len (by rw [<-dim];exact hg)
  |box g off v hv hx=>exact .box g off v hv fun ws hg=>by obtain ⟨ws',e⟩:=apw g ws hg;exact hx ws' e
  |ep g n off v hv hx=>exact .ep g n off v hv fun sz len hg=>hx sz len (by rw [<-dim];exact hg)
  |sp a i row off b o hb hx=>exact .sp a i row off b o (by rw [hok];exact hb) (by rw [hok];exact hx)
  |gl g=>exact .gl g
  |nH g v hv hx=>exact .nH g v hv fun s n hg=>hx s n (oit g s n hg)
  |gd b x v hx ih=>exact .gd b x v ih
  |clo f caps vs hl hx ih=>exact .clo f caps vs hl ih
  |no v=>exact .no v
 have ahS :∀{a i:Bool} {sz:Nat} {l:List (List P)} {G:Gh},iI E st1 gh w a i sz l G->iI E (fA gs st) gh w a i sz l G:=by
  intro a i sz l G r;simpa only [iI,hok] using r
 have wd :∀{x:W} {v:Value},fB E st1 gh w x v->fB E (fA gs st) gh w (Xf gs st.o x) v:=by
  intro x v r;unfold Xf;split
  .rename_i g;split
   .rename_i hc;split
    .rename_i a i sz l hpl;have ho1:=hp hc hpl;cases r with
     |own _ _ hv hx=>
      have hv:=hx _ _ (O.jO ho1);have hO:=h1.bg g;rw [ho1] at hO;rw [hv];exact .p a i _ _ (by rw [hok];exact dh.fP hO)
    .exact same r
   .exact same r
  .rename_i g lo hi;split
   .rename_i hc;split
    .rename_i a i sz l hpl;have ho1:=hp hc hpl;cases r with
     |vw _ _ _ _ hv hx=>
      obtain ⟨n,m,c,rfl,rfl,q1,q2,qc,he⟩:=hx _ _ (O.jO ho1);have hO:=h1.bg g;rw [ho1] at hO;rw [he];have e1:(P.int .i64 (n:Int)).nat=n:=by simp [P.nat,P.num]
      have e2:(P.int .i64 (m:Int)).nat=m:=by simp [P.nat,P.num]
      rw [e1,e2];exact .p a i _ _ (by rw [hok];exact dh.fP ((dh.sub hO q1 q2).ahH (by simp;omega)))
    .exact same r
   .exact same r
  .exact same r
 have wV :∀{x:V} {v:Value},rF E st1 gh w x v->rF E (fA gs st) gh w (plV gs st.o x) v:=by
  intro x v r;cases r with
  |one x v r=>exact .one _ _ (wd r)
  |agg xs cs hl hv hr=>
   refine .agg _ cs (by simpa using hl) hv fun j x v hx hv => ?_;simp only [XN,ZD] at hx;obtain ⟨y,hy,rfl⟩:=hx;exact wd (hr j y v hy hv)
 refine ⟨fun t => ?_,fun g => ?_,?_,?_,?_,?_,h1.wb,h1.frame,h1.size,h1.os,h1.tape,h1.output,?_,?_,?_⟩
 .have hs:=h1.slots t;rw [hss] at hs;show dI E _ gh w (plS gs st.o (st.s t)) (val t);cases hs':st.s t with
  |v x=>rw [hs'] at hs;cases hs with | v _ _ r=>exact .v _ _ (wV r)
  |jM xs=>
   rw [hs'] at hs;generalize hval:val t=vt at hs;cases hs with
   |jM _ vs hl hr=>
    refine .jM _ vs (by simpa using hl) fun j x v hx hv => ?_;simp only [XN,ZD] at hx;obtain ⟨y,hy,rfl⟩:=hx;exact wV (hr j y v hy hv)
  |no=>exact .no _
 .have hO:=h1.bg g;rcases key g with ⟨e,_⟩ | ⟨ws',_,e1,e2⟩
  .rw [e];generalize st1.o g=x at hO;cases x with
   |none=>trivial
   |box ws=>
    obtain ⟨ad,c,ty,a1,a2,a3,a4,a5⟩:=hO;exact ⟨ad,c,ty,a1,a2,a3,a4,fun j x hx=>let ⟨v,b1,b2,b3⟩:=a5 j x hx;⟨v,b1,b2,same b3⟩⟩
   |arr fz a i sz l=>
    cases fz with
    |false=>exact ahS hO
    |true=>simpa only [lU,hok] using hO
   |aO a i sz aj l hole=>
    rcases hO with hO | ⟨ad,c,ty,a1,a2,a3,a4,a5,a6,a7,a8⟩
    .exact .inl hO
    .refine .inr ⟨ad,c,ty,a1,a2,a3,a4,a5,a6,a7,fun n x hx j y hy => ?_⟩;obtain ⟨v,hv,hr⟩:=a8 n x hx j y hy;refine ⟨v,hv,?_⟩;unfold iK at *;cases hcj:aj.lookup j with
     |none=>rw [hcj] at hr;exact (by rw [hok];exact hr:dh w (E.ok (fA gs st) gh w a i) y v)
     |some sz'=>
      rw [hcj] at hr;simp only at *;cases hh:gZ hole n j with
      |some d=>rw [hh] at hr;exact ⟨hr.1,same hr.2⟩
      |none=>
       rw [hh] at hr;obtain ⟨l',ao,k,q1,q2,q3,q4⟩:=hr;exact ⟨l',ao,k,q1,q2,ahS q3,q4⟩
   |it s n=>exact hO
  .rw [e2];rw [e1] at hO;obtain ⟨ad,c,ty,a1,a2,a3,a4,a5⟩:=hO;refine ⟨ad,c,ty,a1,a2,a3,by simpa using a4,fun j x hx => ?_⟩;simp only [XN,ZD] at hx;obtain ⟨y,hy,rfl⟩:=hx;obtain ⟨v,b1,b2,b3⟩:=a5 j y hy;exact ⟨v,b1,b2,wd b3⟩
 .intro g g' b ha ha';rw [own] at ha ha';exact h1.inj g g' b ha ha'
 .intro g b ha;rw [own] at ha;exact h1.wr g b ha
 .intro g i b hg;rw [inner] at hg;exact h1.wi g i b hg
 .intro g ho hd;rw [own] at ho;rw [isd] at hd;exact h1.ns g ho hd
 .intro t g hg;exact h.us t g (Zu hg)
 .intro g g' hg;rcases key g with ⟨e,_⟩ | ⟨ws',e0,e1,e2⟩
  .rw [e] at hg;have:=h1.uo g g' hg;rw [hun] at this;exact this
  .rw [e2] at hg;simp only [O.names,Z1,QQ] at hg;obtain ⟨_,⟨x,hx,rfl⟩,hg⟩:=hg;exact h.uo g g' (by rw [e0];simp only [O.names,Z1];exact ⟨x,hx,D7 hg⟩)
 .intro g hg;exact h.ul g fun e=>hg (zM e)
theorem abR {gs:List Nat} {w:World} {gh:Nat->Gh} {st:St} {E:Env} {a i:Bool} {b:Nat} (h:E.ok st gh w a i b):E.ok (fA gs st) gh w a i b:=by
 refine ⟨h.1,h.2.1,fun g ho had=>h.2.2 g ?_ had⟩;rcases IY gs st g with ⟨e,_⟩ | ⟨ws,e,_⟩
 .rw [e,gy] at ho;split at ho
  .cases hp:plainO st.o g with
   |none=>simpa [Fw.aU,hp] using ho
   |some x=>obtain ⟨a,i,sz,l⟩:=x;rw [m_ hp] at ho;cases ho
  .exact ho
 .rw [e];rfl
theorem Rel.norm (h:Rel E st gh val w) (hs gs:List Nat) (hgs:afr (Fw.shuts hs st).o gs=true) :
  ∃bM,Rel E (fA gs (Fw.shuts hs st)) bM val w/\(∀x,(bM x).ad=(gh x).ad/\(bM x).cap=(gh x).cap)/\(∀a i b,E.ok st gh w a i b->E.ok (fA gs (Fw.shuts hs st)) bM w a i b)/\
   ∀g,st.o g=.none->(fA gs (Fw.shuts hs st)).o g=.none:=by
 obtain ⟨bM,h1,l1,e1⟩:=h.shuts hs;exact ⟨bM,h1.plain gs (Zt hgs),e1,fun a i b hb=>abR (l1.ok a i b hb).1,fun g hg=>zM (Ih hs hg)⟩
end
end Go.Fw

namespace Go.Fw
open Go.RowKit
variable [eP]
def FR (ro:Option Nat):Fence:={ Fence.wide with round:=ro }
section
variable {Pg:Program} {ro:Option Nat} {n:Nat} {ops:Array Oper} {Q:Exit->Act->World->Prop}
theorem U5 {f:FuncId} {args:Array Value} {w:World} {R:Ending->World->Prop} (h:Calls Pg f args w R):CallsIn (FR ro) n Pg f args w R:=callsIn_wide.2 h
theorem Zv {row:String} {args:Array Value} {w:World} {R:Value->World->Prop} (h:Rows Pg row args w R):RowsIn (FR ro) n Pg row args w R:=by
 intro c cs _;obtain ⟨v,w',h1,h2⟩:=h c cs;exact ⟨v,w',h1,stepsIn_wide.2 h2⟩
theorem apx {o:Oper} (ho :∀c,o.op≠.defer c) {a:Act} {w:World} {K K':Act->World->Prop} (hK :∀a w,K a w->K' a w) (h:o.wp Pg a w K Q):o.wpIn (FR ro) n Pg a w K' Q:=by
 refine ⟨fun _ _=>trivial,?_⟩;rw [Oper.semAt_eq _ _ _ ho];unfold Oper.wp at h;have hd:(FR ro).depth.isSome=true->1<=n:=fun e=>absurd e (by simp [FR,Fence.wide]);generalize (execOp a.eval o).run Pg w=r at *;cases r with
 |ok x w'=>
  cases x<;>simp only [Oper.upon] at h<;>simp only [Oper.uponIn]
  all_goals first
   |exact hK _ _ h
   |exact ⟨hd,U5 (Calls.mono h fun e w'' he=>by cases e<;>first | exact hK _ _ he | exact he)⟩
   |exact ⟨hd,Zv (Rows.mono h fun v w'' he=>hK _ _ he)⟩
 |halt x w'=>cases x<;>simp only [Oper.upon] at h<;>simp only [Oper.uponIn]<;>exact h
theorem abS (ho :∀o∈ops.toList,∀c,o.op≠.defer c) (hlo:¬ LetsOut Q) {i:Nat} {a:Act} {w:World} {K K':Act->World->Prop} (hK :∀a w,K a w->K' a w) (h:wpOp Pg ops Q i K a w):wpOpIn (FR ro) n Pg ops Q i K' a w:=by
 unfold wpOp at h;unfold wpOpIn;cases hi:ops[i]? with
 |none=>rw [hi] at h;exact hK _ _ h
 |some o=>
  rw [hi] at h;simp only at h ⊢;split
  .rename_i hw;rw [if_pos hw] at h;rcases h with h | h
   .exact apx (ho o (by have:=(Wg.1 hi).2;rw [<-this];simp)) hK h
   .exact absurd h.2 hlo
  .rename_i hw;rw [if_neg hw] at h;exact ⟨fun _ _=>trivial,hK _ _ h⟩
theorem ahT (ho :∀o∈ops.toList,∀c,o.op≠.defer c) (hlo:¬ LetsOut Q) :∀(is:List Nat) (a:Act) (w:World),wpOps Pg ops Q is a w->wpOpsIn (FR ro) n Pg ops Q is a w
 | [],a,w,h=>h
 |i::is,a,w,h=>by
  rw [wpOps_cons] at h;rw [wpOpsIn_cons];exact abS ho hlo (fun a w=>ahT ho hlo is a w) h
theorem ahU {md:Region.Mode} (ho :∀o∈ops.toList,∀c,o.op≠.defer c) (hlo:¬ LetsOut Q) :∀(fuel:Nat) (listed:Array Bool) (a:Act) (w:World),wpAny Pg md ops Q fuel listed a w->wpAnyIn (FR ro) n Pg md ops Q fuel listed a w
 |0,listed,a,w,h=>h
 |fuel+1,listed,a,w,h=>⟨h.1,fun i hi=>abS ho hlo (fun a w=>ahU ho hlo fuel _ a w) (h.2 i hi)⟩
end
omit [eP] in
def P.lv:P->Value
 |.int k n=>.int k n
 |.bool b=>.bool b
 |.str s=>.string s
 |_=>undef
def P.lit:P->Bool
 |.int _ _=>true
 |.bool _=>true
 |.str _=>true
 |_=>false
theorem P.afs {w:World} {ok:Nat->Prop} {x:P} (h:x.lit=true):dh w ok x x.lv:=by
 cases x<;>first | exact .int _ _ | exact .bool _ | exact .str _ | cases h
omit [eP] in
def abT (Pg:Program) (w:World) (S:List Nat) (rows:List (List P)) (v:Value):Prop:=
 ∃gf lb,v=.func (.func gf) #[] lb/\(∀(args:Array Value) (w:World),(callFunc gf args).run Pg w=.ok (.enter gf args) w)/\
  ∀(l:Nat) (J:Nat->List Nat->World->Prop) (W:World),(∀k D A,J k D A->∀b∈S,A.heap[b]?=w.heap[b]?)->(∀k D A B D',J k D A->BU A B->(∀b∈D',b∈D\/(A.heap.size<=b/\b<B.heap.size))->J k D' B)->
   (∀k row D A,rows[k]?=some row->J k D A->YieldAt Fence.wide 0 Pg l (row.map P.lv).toArray A fun e B=>e=.returned (.bool true)/\J (k+1) D B/\∀b∈D,B.heap[b]?=A.heap[b]?)->
   J 0 [] W->Calls Pg gf (#[.func (.yield l) #[] #[]]++lb) W fun e B=>(∃v,e=.returned v)/\∃D,J rows.length D B
section
variable {Pg:Program}
theorem abU {g:Operand} {ps:Array Tmp} {x y:Code} {Q:Exit->Act->World->Prop} {a:Act} {w:World} {S:List Nat} {rows:List (List P)} (hit:abT Pg w S rows (a.eval g)) (hlen :∀row∈rows,row.length=ps.size)
  (J:Nat->List Nat->World->Prop) (hS :∀k D A,J k D A->∀b∈S,A.heap[b]?=w.heap[b]?) (hgrow :∀k D A B D',J k D A->BU A B->(∀b∈D',b∈D\/(A.heap.size<=b/\b<B.heap.size))->J k D' B)
  (hturn :∀k D A b o o',w.heap.size<=b->b∉D->J k D A->A.heap[b]?=some o->quiet o=true->J k D (A.putObj b o')) (h0:J 0 [] w)
  (ajm :∀k row D A,rows[k]?=some row->J k D A->∀l,∃a₁,(∀(K:Act->World->Prop) W,K a₁ W->x.wpIn (FR (some l)) 0 Pg (Exit.then K (fun _ _ _=>False)) { tmps:=(ps.zip (row.map P.lv).toArray).foldl (fun t (p,v)=>t.setIfInBounds p v) a.tmps,defers:=[] } W)/\
   y.wpIn (FR (some l)) 0 Pg (fun e _ B=>e=.normal/\J (k+1) D B/\(∀b∈D,B.heap[b]?=A.heap[b]?)/\∀b o,A.heap[b]?=some o->quiet o=true->w.heap.size<=b->B.heap[b]?=some o) a₁ A)
  (hdone :∀D B D',w.heap.size<=D->J rows.length D' B->B.heap[D]?=some (.deferred (some []))->Q .normal { a with defers:={ target:=.collected D,args:=#[] }::a.defers } B) :
  (Code.rangeFunc g ps x y).wp Pg Q a w:=by
 obtain ⟨gf,lb,hg,eg,hseq⟩:=hit;rw [<-wpIn_wide (n:=1)];refine wpIn_rangeFunc ?_;intro fn hfn;obtain ⟨rec,hrec⟩ :∃rec:LoopState->Option Code->Loop,rec=fun st pe=>{ state:=st,pending:=pe,fn,tmps:=a.tmps,params:=ps,assign:=x,body:=y,defers:=w.heap.size }:=⟨_,rfl⟩;obtain ⟨W1,hW1⟩ :∃W1,(w.alloc (.deferred (some []))).alloc (.loop (rec .ready none))=W1:=⟨_,rfl⟩;have hL1:W1.heap[w.heap.size+1]?=some (.loop (rec .ready none)):=by
  rw [<-hW1];have:=World.alloc_heap_new (w.alloc (.deferred (some []))) (.loop (rec .ready none));rwa [World.size_alloc] at this
 have hK1:W1.heap[w.heap.size]?=some (.deferred (some [])):=by
  rw [<-hW1];exact (Below.heap_alloc _ _ _ (by simp)).trans (World.alloc_heap_new w _)
 have hJ1:J 0 [] W1:=by rw [<-hW1];exact hgrow _ _ _ _ [] (hgrow _ _ _ _ [] h0 (BU.alloc _ _) (fun b hb=>by cases hb)) (BU.alloc _ _) (fun b hb=>by cases hb)
 refine ⟨w.heap.size+1,[{ target:=.collected w.heap.size,args:=#[] }],W1,{ target:=.fn (.func gf) lb,args:=#[.func (.yield (w.heap.size+1)) #[] #[]] },W1,gf,
  #[.func (.yield (w.heap.size+1)) #[] #[]]++lb,W1,?_,?_,fun _ _=>trivial,?_,fun _=>Ys _,?_⟩
 .rw [<-hW1,hrec];exact run_enterLoop_outer _ _ _ _ _
 .simp only [resolve,hg];simp [go_sem]
 .simp [invoke,go_sem,eg]
 refine callsIn_wide.2 (Calls.mono (hseq (w.heap.size+1)
   (fun k D A=>J k D A/\A.heap[w.heap.size+1]?=some (.loop (rec .ready none))/\A.heap[w.heap.size]?=some (.deferred (some []))/\∀b∈D,w.heap.size+1<b)
   W1 (fun k D A h=>hS k D A h.1) (fun k D A B D' h hg hD => ?_) ?_ ⟨hJ1,hL1,hK1,fun b hb=>by cases hb⟩) ?_)
 .have lt :∀{i o},A.heap[i]?=some o->i<A.heap.size:=fun h=>(Wg.1 h).1;refine ⟨hgrow k D A B D' h.1 hg hD,(hg.same _ (lt h.2.1)).trans h.2.1,(hg.same _ (lt h.2.2.1)).trans h.2.2.1,fun b hb => ?_⟩;rcases hD b hb with hb | hb
  .exact h.2.2.2 b hb
  .exact Wz (lt h.2.1) hb.1
 .rintro k row D A hrow ⟨hj,hl,hk,hD⟩;have hy:=run_yield (P:=Pg) (args:=(row.map P.lv).toArray) hl (by rw [hrec];simpa using hlen row (XS hrow));rw [hrec] at hy;have hlt:w.heap.size+1<A.heap.size:=(Wg.1 hl).1;have hnD:w.heap.size+1∉D:=fun hm=>KM _ (hD _ hm);have alM :∀b∈D,b≠w.heap.size+1:=fun b hb e=>hnD (e▸hb);have hj2:J k D (A.putObj (w.heap.size+1) (.loop { rec .ready none with state:=.busy })):=hturn _ _ _ _ _ _ (by omega) hnD hj hl rfl;obtain ⟨a₁,hx,hbody⟩:=ajm k row D _ hrow hj2 (w.heap.size+1);refine ⟨fn,_,x,y,hy,roundIn_of_wpIn hfn (hx _ _ ⟨_,run_beginRound hl (by rw [hrec]),wpIn_mono hbody ?_⟩)⟩;rintro e a3 B ⟨rfl,hj3,hkD,hkeep⟩;have hl2:(A.putObj (w.heap.size+1) (.loop { rec .ready none with state:=.busy })).heap[w.heap.size+1]?=some (.loop { rec .ready none with state:=.busy }):=World.putObj_heap_same hlt;have hk2:(A.putObj (w.heap.size+1) (.loop { rec .ready none with state:=.busy })).heap[w.heap.size]?=some (.deferred (some [])):=(World.putObj_heap_other (by omega)).trans hk;have hl3:=hkeep _ _ hl2 rfl (by omega);have hk3:=hkeep _ _ hk2 rfl (by omega);have hr:=run_endRound (P:=Pg) none hl3;refine ⟨_,_,hr,rfl,⟨hturn _ _ _ _ _ _ (by omega) hnD hj3 hl3 rfl,?_,(World.putObj_heap_other (by omega)).trans hk3,hD⟩,fun b hb => ?_⟩
  .rw [World.putObj_heap_same (Wg.1 hl3).1,hrec];rfl
  .rw [World.putObj_heap_other (alM b hb),hkD b hb,World.putObj_heap_other (alM b hb)]
 .rintro e B ⟨⟨v,rfl⟩,D,hj,hl,hk,hD⟩;have hnD:w.heap.size+1∉D:=fun hm=>KM _ (hD _ hm);refine ⟨none,_,by have:=run_endLoop (P:=Pg) hl (by rw [hrec];simp);rw [hrec] at this;exact this,hdone _ _ D (Ys _) (hturn _ _ _ _ _ _ (by omega) hnD hj hl rfl) ((World.putObj_heap_other (by omega)).trans hk)⟩
end
end Go.Fw

namespace Go.Fw
open Go.RowKit
variable [eP]
structure vX where
 n:St->Prop
 x:Nat->St->Prop
 r:St->Prop
def keeps (aY:List Nat) (j:Shape) (m:Ren):Bool:=aY.all fun g=>j.nms.contains g&&(match m.lookup g with
 |some (some g')=>Nat.beq g' g
 |_=>false)
inductive Back (aY:List Nat) (j:Shape) (st:St) (G:List P->Prop):Prop where
 |mk (hs gs:List Nat) (m:Ren) (vs:List P) (hgs:afr (Fw.shuts hs st).o gs=true) (hm:keeps aY j m=true) (h:coerce j m (fA gs (Fw.shuts hs st))=some vs) (hG:G vs)
inductive abV (aY:List Nat) (body:St->vX->Prop) (st:St) (K:vX):Prop where
 |mk (j:Shape) (I:List P->Prop) (μ:List P->Nat) (h0:Back aY j st I) (round :∀us,I us->body (Fw.mk j us) { n:=fun st'=>Back aY j st' fun vs=>I vs/\μ vs<μ us,x:=K.x,r:=K.r })
inductive Wk (aY:List Nat) (K:St->Prop) (st:St):Prop where
 |now (h:K st)
 |back (j:Shape) (h:Back aY j st fun vs=>K (Fw.mk j vs))
def IZ:Op->Option Tmp
 |.assign (.tmp t)=>some t
 |.move (.tmp t)=>some t
 |_=>none
def wQ (N:Nat):Code->St->Option St
 |.skip,st=>some st
 |.region _ ops false,st=>match ops.toList with
  | [o]=>match o.guard,o.dst,IZ o.op with
   |none,some d,some t=>if d<N then some (st.put (some d) (st.s t)) else none
   |_,_,_=>none
  |_=>none
 |.seq x y,st=>match wQ N x st with
  |some st'=>wQ N y st'
  |none=>none
 |_,_=>none
def tJ:Code->Act->Act
 |.region _ ops _,a=>match ops.toList with
  | [o]=>match o.dst,IZ o.op with
   |some d,some t=>a.put (some d) (a.tmps.getD t undef)
   |_,_=>a
  |_=>a
 |.seq x y,a=>tJ y (tJ x a)
 |_,a=>a
def yj:List Tmp->List P->St->St
 |p::ps,x::xs,st=>yj ps xs (st.put (some p) (.v (.one (.p false false x))))
 |_,_,st=>st
def aft:Op->Bool
 |.defer _=>true
 |_=>false
def calm:Code->Bool
 |.skip=>true
 |.region _ ops _=>ops.toList.all fun o=>!aft o.op
 |.seq x y=>calm x&&calm y
 |.cond _ x y=>calm x&&calm y
 |.block _ c=>calm c
 |.loop c=>calm c
 |.exit _=>true
 |.ret=>true
 |.label _=>true
 |_=>false
def I4 (st:St):St:={ s:=fun _=>.no,o:=st.o,used:=st.used }
def abW (N:Nat) (body:List Nat->St->vX->Prop) (ps:List Tmp) (x:Code) (row:List P) (st:St) (K:St->Prop):Prop:=
 ∃(sg:y9) (st1:St) (c:KQ) (bW:List P) (d:Nat),sg.ok=true/\((sg.aY.all fun g=>sg.pin.nms.contains g)&&sg.abx)=true/\sg.dA=0/\wQ N x (yj ps row st)=some st1/\
  g_ sg st.o ((List.range N).map st1.s)=some c/\c.fine sg=true/\
  body sg.aY (Fw.mk sg.pin c.ins) { n:=fun st2=>Back sg.aY sg.aQ (I4 st2) fun vs=>vs=bW,x:=fun _ _=>False,r:=fun _=>False }/\
  (∀g∈(iJ sg d st.o c bW).new,st.used g=false)/\K (st.aJ (iJ sg d st.o c bW).aJ (iJ sg d st.o c bW).new)
inductive ajn (aY:List Nat) (rows:List (List P)) (round:List P->St->(St->Prop)->Prop) (st:St) (K:St->Prop):Prop where
 |mk (j:Shape) (I:Nat->List P->Prop) (h0:Back aY j st (I 0)) (hr :∀k row us,rows[k]?=some row->I k us->round row (Fw.mk j us) fun st'=>Back aY j st' (I (k+1))) (hd :∀us,I rows.length us->K (Fw.mk j us))
def exec (T:Tab) (tt:TT) (N:Nat) (aY:List Nat):Code->St->vX->Prop
 |.skip,st,K=>K.n st
 |.region _ ops draw,st,K=>qh T tt N ops draw st (Wk aY K.n)
 |.seq x y,st,K=>exec T tt N aY x st { n:=fun st'=>exec T tt N aY y st' K,x:=K.x,r:=K.r }
 |.cond c x y,st,K=>match st.dJ c with
  |.v (.one (.p _ _ (.bool b)))=>bif b then exec T tt N aY x st { n:=Wk aY K.n,x:=K.x,r:=K.r } else exec T tt N aY y st { n:=Wk aY K.n,x:=K.x,r:=K.r }
  |_=>False
 |.block id c,st,K=>exec T tt N aY c st { n:=Wk aY K.n,x:=fun id' st'=>bif Nat.beq id' id then Wk aY K.n st' else K.x id' st',r:=K.r }
 |.loop c,st,K=>abV aY (exec T tt N aY c) st K
 |.exit id,st,K=>K.x id st
 |.ret,st,K=>K.r st
 |.label _,st,K=>K.n st
 |.scope c,st,K=>exec T tt N aY c st K
 |.rangeFunc g ps x y,st,K=>calm y=true/\match st.dJ g with
  |.v (.one (.p _ _ (.seq rows)))=>(rows.all fun r=>Nat.beq r.length ps.size&&r.all P.lit)=true/\(ps.toList.all fun p=>Nat.blt p N)=true/\
    ajn aY rows (abW N (fun apy st' K'=>exec T tt N apy y st' K') ps.toList x) st (Wk aY K.n)
  |_=>False
 |_,_,_=>False
structure Fit (Pg:Program):Prop where
 mixed:Pg.follows .mixedOrders=true
 sq :∀w S l v,eP.sq w S l v->abT Pg w S l v
section
variable {E:Env} {N:Nat} {aY:List Nat} {pW:Nat->Gh} {Pg:Program} {T:Tab} {tt:TT}
structure Knt (E:Env) (N:Nat) (aY:List Nat) (pW:Nat->Gh) (K:vX) (Q:Exit->Act->World->Prop):Prop where
 n :∀st a w,K.n st->Good E N aY pW st a w->Q .normal a w
 x :∀id st a w,K.x id st->Good E N aY pW st a w->Q (.exit id) a w
 r :∀st a w,K.r st->Good E N aY pW st a w->Q .ret a w
theorem Back.good {j:Shape} {st:St} {G:List P->Prop} (h:Back aY j st G) {a:Act} {w:World} (hg:Good E N aY pW st a w) :∃vs,G vs/\Good E N aY pW (Fw.mk j vs) a w:=by
 obtain ⟨hs,gs,m,vs,hgs,hm,h,hG⟩:=h;obtain ⟨⟨gh,hR,E_⟩,hsz,hdf⟩:=hg;obtain ⟨bM,hR,e1,_,e3⟩:=hR.norm hs gs hgs;have hr:=sV h;refine ⟨vs,hG,⟨jF bM (BO j m),hR.UL hr,fun g hg => ?_⟩,hsz,hdf⟩;have:=(X2.1 hm) g hg;simp only [Q6] at this;obtain ⟨h1,h2⟩:=this;refine ⟨h1,?_⟩;have hF:BO j m g=some g:=by
  unfold BO;rw [if_pos h1];split at h2
  .rename_i g' hl;rw [hl,Q4 h2];rfl
  .cases h2
 have ho:=hr.bg g g hF;rcases (E_ g hg).2 with e | e
 .have e:=e3 g e;rw [e] at ho;generalize (Fw.mk j vs).o g=z at ho;cases ho;exact .inl rfl
 .exact .inr (by simp only [jF,hF];exact ⟨(e1 g).1.trans e.1,(e1 g).2.trans e.2⟩)
theorem Wk.good {K:St->Prop} {st:St} (h:Wk aY K st) {a:Act} {w:World} (hg:Good E N aY pW st a w) :∃st',K st'/\Good E N aY pW st' a w:=by
 cases h with
 |now h=>exact ⟨st,h,hg⟩
 |back j h=>
  obtain ⟨vs,h1,h2⟩:=h.good hg;exact ⟨_,h1,h2⟩
theorem Knt.wk {K:vX} {Q:Exit->Act->World->Prop} (h:Knt E N aY pW K Q):Knt E N aY pW { n:=Wk aY K.n,x:=K.x,r:=K.r } Q:=
 ⟨fun st a w hk hg=>let ⟨st',h1,h2⟩:=hk.good hg;h.n st' a w h1 h2,h.x,h.r⟩
theorem I5 {ro:Option Nat} {n:Nat} {Q:Exit->Act->World->Prop} {st:St} {a:Act} {w:World} {ops:Array Oper} (hT :∀f sp,T f=some sp->Sound Pg (f % 1000000) sp) (htt:iC Pg tt) (hm:Pg.follows .mixedOrders=true) {id:Nat} {draw:Bool} {K:St->Prop} (hcm:calm (.region id ops draw)=true) (h:qh T tt N ops draw st K) (hg:Good E N aY pW st a w)
  (hK :∀st' a' w',K st'->Good E N aY pW st' a' w'->Q .normal a' w'):(Code.region id ops draw).wpIn (FR ro) n Pg Q a w:=by
 have hnd :∀o∈ops.toList,∀c,o.op≠.defer c:=fun o ho c e=>by
  have:=X2.1 hcm o ho;rw [e] at this;cases this
 have hlo:¬ LetsOut (fun e a w=>e=.normal/\Q .normal a w):=fun ⟨_,_,e,_⟩=>by cases e
 refine wpIn_mono (Q:=fun e a w=>e=.normal/\Q .normal a w) ?_ fun e a w h=>by obtain ⟨rfl,h⟩:=h;exact h
 rcases IX (Q:=fun e a w=>e=.normal/\Q .normal a w) hT htt h hg fun st' a' w' q hg'=>⟨rfl,hK st' a' w' q hg'⟩ with ⟨e,h2⟩ | ⟨e,h2⟩
 .rw [e];exact wpIn_region (ahT hnd hlo _ _ _ h2)
 .rw [e];exact wpIn_region_any hm (ahU hnd hlo _ _ _ _ h2)
theorem Oy (hT :∀f sp,T f=some sp->Sound Pg (f % 1000000) sp) (htt:iC Pg tt) (hm:Pg.follows .mixedOrders=true) (ro:Option Nat) (n:Nat) :∀(c:Code) {st:St} {K:vX} {Q:Exit->Act->World->Prop} {a:Act} {w:World},
  calm c=true->exec T tt N aY c st K->Good E N aY pW st a w->Knt E N aY pW K Q->c.wpIn (FR ro) n Pg Q a w:=by
 intro c
 induction c with
 |skip=>intro st K Q a w hcm h hg hK;exact wpIn_skip (hK.n _ _ _ h hg)
 |region id ops draw=>intro st K Q a w hcm h hg hK;exact I5 hT htt hm hcm h hg fun st' a' w' q hg'=>hK.wk.n _ _ _ q hg'
 |seq x y GH ihy=>
  intro st K Q a w hcm h hg hK;simp only [calm,Q6] at hcm;refine wpIn_seq (GH hcm.1 h hg ⟨fun st' a' w' q hg'=>ihy hcm.2 q hg' hK,fun id st' a' w' q hg'=>hK.x _ _ _ _ q hg',fun st' a' w' q hg'=>hK.r _ _ _ q hg'⟩)
 |cond c x y GH ihy=>
  intro st K Q a w hcm h hg hK;simp only [calm,Q6] at hcm;simp only [exec] at h;split at h
  .rename_i a1 i1 b hc;obtain ⟨gh,hR,_⟩:=hg.ex;have hv:=nS hR c;rw [hc] at hv;have hv:=hv.fF.mg;refine wpIn_cond_split hv (fun hb => ?_) (fun hb => ?_)
   .subst hb;exact GH hcm.1 h hg hK.wk
   .subst hb;exact ihy hcm.2 h hg hK.wk
  .cases h
 |block id c ih=>
  intro st K Q a w hcm h hg hK;refine wpIn_block (ih hcm h hg ⟨fun st' a' w' q hg'=>hK.wk.n _ _ _ q hg',fun id' st' a' w' q hg' => ?_,fun st' a' w' q hg'=>hK.r _ _ _ q hg'⟩);simp only [Exit.inBlock];by_cases e:id'=id
  .subst e;rw [if_pos rfl];have:Nat.beq id' id'=true:=by simp
   simp only [this] at q;exact hK.wk.n _ _ _ q hg'
  .rw [if_neg e];have:Nat.beq id' id=false:=by cases hb:Nat.beq id' id with | false=>rfl | true=>exact absurd (Q4 hb) e
   simp only [this] at q;exact hK.x _ _ _ _ q hg'
 |loop c ih=>
  intro st K Q a w hcm h hg hK;obtain ⟨j,I,μ,h0,round⟩:=(show abV aY (exec T tt N aY c) st K from h);obtain ⟨us,hI,hg0⟩:=h0.good hg;refine wpIn_loop_rounds (μ us+1) ?_;have key :∀k us,I us->μ us<k->∀a w,Good E N aY pW (Fw.mk j us) a w->Code.roundsIn (FR ro) n Pg c Q k a w:=by
   intro k
   induction k with
   |zero=>intro us _ h;omega
   |succ k ihn=>
    intro us hI hlt a w hg;refine ih hcm (round us hI) hg ⟨fun st' a' w' q hg' => ?_,fun id st' a' w' q hg'=>hK.x _ _ _ _ q hg',fun st' a' w' q hg'=>hK.r _ _ _ q hg'⟩;obtain ⟨vs,⟨h1,h2⟩,h3⟩:=Back.good q hg';exact ihn vs h1 (by omega) _ _ h3
  exact key _ us hI (by omega) a w hg0
 |exit id=>intro st K Q a w hcm h hg hK;exact wpIn_exit (hK.x _ _ _ _ h hg)
 |ret=>intro st K Q a w hcm h hg hK;exact wpIn_ret (hK.r _ _ _ h hg)
 |label l=>intro st K Q a w hcm h hg hK;exact wpIn_label (hK.n _ _ _ h hg)
 |_=>intro st K Q a w hcm;cases hcm
theorem Rf {sp:y9} {st:St} {bW:List P} {lH:Nat->Gh} {rs:Nat->Value} {w':World} (hfin:Rel E st lH rs w') (I7 :∀g∈sp.aY,st.used g=true/\(st.o g=.none\/((lH g).ad=(pW g).ad/\(lH g).cap=(pW g).cap)))
  (hBk:Back sp.aY sp.aQ st fun vs=>vs=bW) :∃bM,Rel E (Fw.mk sp.aQ bW) bM rs w'/\∀g∈sp.aY,(bM g).ad=(pW g).ad/\(bM g).cap=(pW g).cap:=by
 obtain ⟨hs,gs,m,vs,hgs,hkm,hco,rfl⟩:=hBk;obtain ⟨xJ,hfin,e1,_,e3⟩:=hfin.norm hs gs hgs;have hr:=sV hco;refine ⟨jF xJ (BO sp.aQ m),hfin.UL hr,fun g hg => ?_⟩;have:=(X2.1 hkm) g hg;simp only [Q6] at this;obtain ⟨h1,h2⟩:=this;have hF:BO sp.aQ m g=some g:=by
  unfold BO;rw [if_pos h1];split at h2
  .rename_i g' hl;rw [hl,Q4 h2];rfl
  .cases h2
 have ho:=hr.bg g g hF;have hbox:(Fw.mk sp.aQ vs).o g≠.none:=by
  have hm:g∈sp.aQ.bg.map (·.1):=by simpa [Shape.nms] using h1
  obtain ⟨x,hxx⟩:=vU (vs:=vs) (n:=(dG vs 0 sp.aQ.slots).2) hm;have e:(Fw.mk sp.aQ vs).o g=x:=by
   show (match (gJ vs (dG vs 0 sp.aQ.slots).2 sp.aQ.bg).1.lookup g with | some x=>x | none=>O.none)=x;rw [hxx]
  obtain ⟨k,n',_,h2⟩:=kZ hxx;rw [e,h2];cases k<;>simp [ug]
 rcases (I7 g hg).2 with e | e
 .exfalso;have e:=e3 g e;rw [e] at ho;generalize (Fw.mk sp.aQ vs).o g=z at ho hbox;cases ho;exact hbox rfl
 .simp only [jF,hF];exact ⟨(e1 g).1.trans e.1,(e1 g).2.trans e.2⟩
structure Head (E:Env) (aY:List Nat) (pW:Nat->Gh) (a:Act) (S D:List Nat) (w0:World) (st:St) (A:World):Prop where
 ex :∃gh,Rel E st gh (fun t=>a.tmps.getD t undef) A/\(∀g∈aY,st.used g=true/\(st.o g=.none\/((gh g).ad=(pW g).ad/\(gh g).cap=(pW g).cap)))/\∀b∈S++D,∃p q,E.ok st gh A p q b
 marks:Marks E a A
 keep :∀b∈S,A.heap[b]?=w0.heap[b]?
theorem Head.back {a:Act} {S D:List Nat} {w0 A:World} {j:Shape} {st:St} {G:List P->Prop} (h:Head E aY pW a S D w0 st A) (hb:Back aY j st G) :∃vs,G vs/\Head E aY pW a S D w0 (Fw.mk j vs) A:=by
 obtain ⟨hs,gs,m,vs,hgs,hm,hc,hG⟩:=hb;obtain ⟨⟨gh,hR,E_,hok⟩,hmk,hkp⟩:=h;obtain ⟨bM,hR,e1,e2,e3⟩:=hR.norm hs gs hgs;have hr:=sV hc;refine ⟨vs,hG,⟨jF bM (BO j m),hR.UL hr,fun g hg => ?_,fun b hb => ?_⟩,hmk,hkp⟩
 .have:=(X2.1 hm) g hg;simp only [Q6] at this;obtain ⟨h1,h2⟩:=this;refine ⟨h1,?_⟩;have hF:BO j m g=some g:=by
   unfold BO;rw [if_pos h1];split at h2
   .rename_i g' hl;rw [hl,Q4 h2];rfl
   .cases h2
  have ho:=hr.bg g g hF;rcases (E_ g hg).2 with e | e
  .have e:=e3 g e;rw [e] at ho;generalize (Fw.mk j vs).o g=z at ho;cases ho;exact .inl rfl
  .exact .inr (by simp only [jF,hF];exact ⟨(e1 g).1.trans e.1,(e1 g).2.trans e.2⟩)
 .obtain ⟨p,q,h⟩:=hok b hb;exact ⟨p,q,hr.ok _ _ _ _ b ⟨id,id⟩ (e2 _ _ _ h)⟩
def kT:List Tmp->List P->Array Value->Array Value
 |p::ps,x::xs,t=>kT ps xs (t.setIfInBounds p x.lv)
 |_,_,t=>t
theorem I8 :∀(ps:List Tmp) (row:List P) (t:Array Value),row.length=ps.length->(ps.zip (row.map P.lv)).foldl (fun t (p:Tmp×Value)=>t.setIfInBounds p.1 p.2) t=kT ps row t
 | [],[],t,_=>rfl
 |p::ps,x::row,t,h=>by
  simp only [Qf,List.zip_cons_cons,qv,kT];exact I8 ps row _ (by simpa using h)
 | [],x::row,t,h=>by simp at h
 |p::ps,[],t,h=>by simp at h
theorem Ce :∀(ps:List Tmp) (row:List P) (t:Array Value),(kT ps row t).size=t.size
 |p::ps,x::row,t=>by simp only [kT,Ce];simp
 | [],row,t=>by simp only [kT]
 |p::ps,[],t=>by simp only [kT]
theorem Xg {gh:Nat->Gh} {w:World} :∀(ps:List Tmp) (row:List P) {st:St} {t:Array Value},(row.all P.lit)=true->(∀p∈ps,p<t.size)->Rel E st gh (fun k=>t.getD k undef) w->
  Rel E (yj ps row st) gh (fun k=>(kT ps row t).getD k undef) w/\(yj ps row st).o=st.o/\(yj ps row st).used=st.used
 |p::ps,x::row,st,t,hl,hp,h=>by
  simp only [List.all_cons,Q6] at hl;have h1:=h.put (some p) (x:=.v (.one (.p false false x))) (v:=x.lv) (.v _ _ (.one _ _ (.p _ _ _ _ (P.afs hl.1)))) (by simp [S.names,V.names,W.names]);have e:xE (fun k=>t.getD k undef) (some p) x.lv=fun k=>(t.setIfInBounds p x.lv).getD k undef:=by
   funext k;have hlt:=hp p (by simp);simp only [xE,ZS];by_cases e:k=p
   .subst e;simp [hlt]
   .rw [if_neg e,KB (Ne.symm e)]
  rw [e] at h1;obtain ⟨q1,q2,q3⟩:=Xg ps row hl.2 (fun p hp'=>by simpa using hp p (by simp [hp'])) h1;exact ⟨q1,q2,q3⟩
 | [],row,st,t,hl,hp,h=>by simp only [yj,kT];exact ⟨h,trivial,trivial⟩
 |p::ps,[],st,t,hl,hp,h=>by simp only [yj,kT];exact ⟨h,trivial,trivial⟩
theorem abX {op:Op} {t:Tmp} (h:IZ op=some t):op=.assign (.tmp t)\/op=.move (.tmp t):=by
 unfold IZ at h;split at h
 .simp only [Q0] at h;subst h;exact .inl rfl
 .simp only [Q0] at h;subst h;exact .inr rfl
 .cases h
theorem Zw {gh:Nat->Gh} {w:World} :∀(x:Code) {st st':St} {a:Act},wQ N x st=some st'->a.tmps.size=N->Rel E st gh (fun k=>a.tmps.getD k undef) w->
  Rel E st' gh (fun k=>(tJ x a).tmps.getD k undef) w/\(tJ x a).tmps.size=N/\(tJ x a).defers=a.defers/\st'.o=st.o/\st'.used=st.used/\
  ∀(ro:Option Nat) (n:Nat) (K:Act->World->Prop) (W:World),K (tJ x a) W->x.wpIn (FR ro) n Pg (Exit.then K (fun _ _ _=>False)) a W:=by
 intro x
 induction x with
 |skip=>
  intro st st' a h hsz hR;simp only [wQ,Q0] at h;subst h;exact ⟨hR,hsz,rfl,rfl,rfl,fun ro n K W hK=>wpIn_skip hK⟩
 |region id ops draw=>
  intro st st' a h hsz hR;cases draw with
  |true=>simp [wQ] at h
  |false=>
   simp only [wQ] at h;split at h
   .rename_i o hops;split at h
    .rename_i d t hg hd ht;split at h
     .rename_i hlt;simp only [Q0] at h;subst h;have hact:tJ (.region id ops false) a=a.put (some d) (a.tmps.getD t undef):=by simp only [tJ,hops,hd,ht]
      rw [hact];have hv:(fun k=>(a.put (some d) (a.tmps.getD t undef)).tmps.getD k undef)=xE (fun k=>a.tmps.getD k undef) (some d) (a.tmps.getD t undef):=xX _ _ fun d' e=>by cases e;rw [hsz];exact hlt
      refine ⟨by rw [hv];exact hR.put _ (hR.slots t) (hR.us t),by rw [xY];exact hsz,put_defers _ _,rfl,rfl,fun ro n K W hK => ?_⟩;have hsize:ops.size=1:=by rw [<-qu,hops];rfl
      have hi:ops[0]?=some o:=by rw [<-Wo,hops];rfl
      refine wpIn_region ?_;rw [hsize];show wpOpsIn _ _ _ _ _ [0] _ _;simp only [wpOpsIn,hi];have hw:Region.wanted o (yielded ops a.tmps)=true:=by simp [Region.wanted,hg]
      rw [if_pos hw];refine ⟨fun _ _=>trivial,?_⟩;have hnd :∀c,o.op≠.defer c:=fun c e=>by rw [e] at ht;cases ht
      rw [Oper.semAt_eq _ _ _ hnd];have hx:(execOp a.eval o).run Pg W=.ok (.value (a.tmps.getD t undef)) W:=by
       rcases abX ht with e | e
       .simp only [execOp,e];rfl
       .simp only [execOp,e];rfl
      rw [hx,Oper.uponIn_value,hd];exact hK
     .cases h
    .cases h
   .cases h
 |seq x y GH ihy=>
  intro st st' a h hsz hR;simp only [wQ] at h;split at h
  .rename_i st1 h1;obtain ⟨a1,a2,a3,a4,a5,a6⟩:=GH h1 hsz hR;obtain ⟨b1,b2,b3,b4,b5,b6⟩:=ihy h a2 a1;refine ⟨b1,b2,b3.trans a3,b4.trans a4,b5.trans a5,fun ro n K W hK=>wpIn_seq ?_⟩;refine wpIn_mono (a6 ro n (fun a w=>y.wpIn (FR ro) n Pg (Exit.then K fun _ _ _=>False) a w) W (b6 ro n K W hK)) fun e a w h => ?_;cases e<;>exact h
  .cases h
 |_=>intro st st' a h;simp [wQ] at h
theorem Rh (hT :∀f sp,T f=some sp->Sound Pg (f % 1000000) sp) (htt:iC Pg tt) (hm:Fit Pg) {g:Operand} {ps:Array Tmp} {x y:Code} {st:St} {K:vX} {Q:Exit->Act->World->Prop} {a:Act} {w:World}
  (h:exec T tt N aY (.rangeFunc g ps x y) st K) (hg:Good E N aY pW st a w) (hK:Knt E N aY pW K Q):(Code.rangeFunc g ps x y).wp Pg Q a w:=by
 obtain ⟨hcm,h⟩:calm y=true/\_:=h;split at h
 rotate_left
 .exact h.elim
 rename_i p q rows hop;obtain ⟨hrows,hps,j,I,h0,hr,hd⟩:=h;obtain ⟨⟨gh,hR,E_⟩,hsz,hmk⟩:=hg;have hv:=nS hR g;rw [hop] at hv;have hv:=hv.fF;obtain ⟨S,hS,hq⟩ :∃S,(∀b∈S,E.ok st gh w p q b/\∃c e f,w.heap[b]?=some (.cells c e f))/\eP.sq w S rows (a.eval g):=by
  generalize a.eval g=v at hv;cases hv with
  |seq l v S _ hS hq=>exact ⟨S,hS,hq⟩
 have hB0:E.B0<=w.heap.size:=hR.size;have hrow :∀row∈rows,row.length=ps.toList.length/\row.all P.lit=true:=fun row hm'=>by
  have:=X2.1 hrows row hm';simp only [Q6] at this;exact ⟨by simpa using Q4 this.1,this.2⟩
 have hpN :∀p∈ps.toList,p<N:=fun p hp=>by simpa using X2.1 hps p hp
 have alN :∀b∈S,b<w.heap.size:=fun b hb=>(hS b hb).1.2.1;obtain ⟨us0,hI0,hH0⟩:=Head.back (S:=S) (D:=[]) (w0:=w) ⟨⟨gh,hR,E_,fun b hb=>⟨p,q,(hS b (by simpa using hb)).1⟩⟩,hmk,fun _ _=>rfl⟩ h0;refine abU (hm.sq _ _ _ _ hq) (fun row hm'=>by simpa using (hrow row hm').1) (fun k D A=>w.heap.size<=A.heap.size/\∃us,I k us/\Head E aY pW a S D w (Fw.mk j us) A) (fun k D A hJ=>hJ.2.choose_spec.2.keep) ?_ ?_ ⟨Ys _,us0,hI0,hH0⟩ ?_ ?_
 .rintro k D A B D' ⟨hz,us,hI,⟨lH,hR1,I7,hok1⟩,U6,Zx⟩ hg hDD;refine ⟨UI hz hg.size,us,hI,⟨lH,hR1.grows hg,I7,fun b hb => ?_⟩,?_,fun b hb=>(hg.same b (Wz (alN b hb) hz)).trans (Zx b hb)⟩
  .have old:b∈S++D->∃p q,E.ok (Fw.mk j us) lH B p q b:=fun hb=>by
    obtain ⟨p,q,h⟩:=hok1 b hb;exact ⟨p,q,(hg.lets.ok p q b h).1⟩
   rcases Xs.1 hb with hb | hb
   .exact old (ZZ _ hb)
   .rcases hDD b hb with hb | hb
    .exact old (US _ hb)
    .refine ⟨false,false,.inr (.inr (.inl (by omega))),hb.2,fun g ho had => ?_⟩;have:=(hR1.wr g b ho had).2;omega
  .obtain ⟨Ds,d1,d2,d3⟩:=U6;exact ⟨Ds,d1,d2,fun D hD=>⟨(d3 D hD).1,(hg.same D (Wg.1 (d3 D hD).2).1).trans (d3 D hD).2⟩⟩
 .rintro k D A b o o' hb hbD ⟨hz,us,hI,⟨lH,hR1,I7,hok1⟩,U6,Zx⟩ ho hqo;have hzz:(A.putObj b o').heap.size=A.heap.size:=World.putObj_size;refine ⟨by rw [hzz];exact hz,us,hI,⟨lH,hR1.turn ho hqo (by omega) o',I7,fun b' hb' => ?_⟩,?_,fun b' hb'=>(World.putObj_heap_other (by have:=alN b' hb';omega)).trans (Zx b' hb')⟩
  .obtain ⟨p,q,h⟩:=hok1 b' hb';exact ⟨p,q,by rw [<-vV hzz];exact h⟩
  .obtain ⟨Ds,d1,d2,d3⟩:=U6;obtain ⟨Ds0,e1,e2,e3⟩:=hmk;have:Ds=Ds0:=by
    have:=d1.symm.trans e1;have hinj :∀(l l':List Nat),l.map mark=l'.map mark->l=l':=by
     intro l
     induction l with
     |nil=>intro l' h;cases l' with | nil=>rfl | cons=>simp at h
     |cons D l ih=>intro l' h;cases l' with | nil=>simp at h | cons D' l'=>simp [mark] at h;rw [h.1,ih l' (by simpa [mark] using h.2)]
    exact hinj _ _ this
   subst this;exact ⟨Ds,d1,d2,fun D hD=>⟨(d3 D hD).1,(World.putObj_heap_other (by have:=(Wg.1 (e3 D hD).2).1;omega)).trans (d3 D hD).2⟩⟩
 .rintro k row D A hrw ⟨hz,us,hI,⟨lH,hR1,I7,hok1⟩,U6,Zx⟩ l;obtain ⟨hlen,hlit⟩:=hrow row (XS hrw);obtain ⟨sg,st1,c,bW,d,r1,r2,r3,r4,r5,r6,r7,r8,r9⟩:=hr k row us hrw hI;obtain ⟨r2,rb⟩:=Bool.and_eq_true_iff.1 r2;obtain ⟨u1,u2,u3⟩:=Xg (t:=a.tmps) ps.toList row hlit (fun p hp=>by rw [hsz];exact hpN p hp) hR1;obtain ⟨v1,v2,v3,v4,v5,v6⟩:=Zw (Pg:=Pg) x (a:={ tmps:=kT ps.toList row a.tmps,defers:=[] }) r4 (by rw [Ce];exact hsz) u1;have etm:(ps.zip (row.map P.lv).toArray).foldl (fun t (p,v)=>t.setIfInBounds p v) a.tmps=kT ps.toList row a.tmps:=by
   rw [<-I8 ps.toList row a.tmps hlen,<-Array.foldl_toList,Array.toList_zip]
  refine ⟨tJ x { tmps:=kT ps.toList row a.tmps,defers:=[] },fun K W hKW => ?_,?_⟩
  .rw [etm];exact v6 _ _ K W hKW
  generalize hA1:tJ x { tmps:=kT ps.toList row a.tmps,defers:=[] }=a1 at *;obtain ⟨E',xJ,q1,q2,q3,q4,q5⟩:=LU (sp:=⟨sg,fun _ _=>True⟩) r1 hR1 (args:=(List.range N).map st1.s) (vals:=a1.tmps.toList) (fun t=>by
   rw [List.getD_eq_getElem?_getD,XN];by_cases ht:t<N
   .rw [Ka ht];have:=v1.slots t;rw [List.getD_eq_getElem?_getD,Wo,<-ZS];exact dI.congr (v4.trans u2).symm this
   .rw [Wt (by simpa using ht)];exact .no _) r5 r6
  have hval:(fun k=>a1.tmps.toList.getD k undef)=fun t=>a1.tmps.getD t undef:=by
   funext t;rw [List.getD_eq_getElem?_getD,Wo,<-ZS]
  rw [hval] at q3;have hgood:Good E' N sg.aY xJ (Fw.mk sg.pin c.ins) a1 A:=⟨⟨xJ,q3,fun g hg=>⟨(X2.1 r2) g hg,.inr ⟨rfl,rfl⟩⟩⟩,v2,Marks.nil v3⟩;refine Oy hT htt hm.mixed (some l) 0 y (Q:=fun e _ B=>e=.normal/\(w.heap.size<=B.heap.size/\∃us,I (k+1) us/\Head E aY pW a S D w (Fw.mk j us) B)/\(∀b∈D,B.heap[b]?=A.heap[b]?)/\∀b o,A.heap[b]?=some o->quiet o=true->w.heap.size<=b->B.heap[b]?=some o) hcm r7 hgood ⟨fun st2 a2 B hk hg2 => ?_,fun id st2 a2 B hk=>hk.elim,fun st2 a2 B hk=>hk.elim⟩;obtain ⟨⟨gh3,U7,apz⟩,_,_⟩:=hg2;have hend:Rel E' (I4 st2) gh3 (fun k=>([]:List Value).getD k undef) B:=
   ⟨fun k=>.no _,fun g=>lU.congr (st:=st2) (st':=I4 st2) rfl (U7.bg g),U7.inj,U7.wr,U7.wi,U7.ns,U7.wb,U7.frame,U7.size,U7.os,U7.tape,U7.output,fun k g hg=>by simp [I4,Fw.S.names] at hg,U7.uo,U7.ul⟩
  obtain ⟨gh4,hR4,apA⟩:=Rf (sp:=sg) hend (fun g hg=>apz g hg) hk;obtain ⟨gh5,s1,s2,_,_⟩:=q5 d bW _ rfl r8 B [] gh4 r3.symm hR4 fun g hg=>⟨apA g hg,y9.LP rb g hg⟩;have hfr :∀b o,A.heap[b]?=some o->quiet o=true->B.heap[b]?=some o:=fun b o ho hqo=>by
   have hlt:=(Wg.1 ho).1;rw [U7.frame b (by rw [q1];exact hlt) (fun hw=>by obtain ⟨c,e,f,hc⟩:=q4 b hw;rw [ho] at hc;exact jy hqo _ _ _ (Wb hc)),q2];exact ho
  have hBz:A.heap.size<=B.heap.size:=by rw [<-q1];exact U7.size
  have hpre:Head E aY pW a S D w ((Fw.mk j us).aJ (iJ sg d (Fw.mk j us).o c bW).aJ (iJ sg d (Fw.mk j us).o c bW).new) B:=by
   refine ⟨⟨gh5,s1,fun g hg => ?_,fun b hb => ?_⟩,?_,fun b hb => ?_⟩
   .obtain ⟨p1,p2⟩:=I7 g hg;refine ⟨by simp [St.aJ,p1],?_⟩;rcases s2.names g p1 with q | ⟨q,qk⟩
    .exact .inl q
    .rcases p2 with p2 | p2
     .rw [p2] at qk;exact .inl (O.DX qk)
     .exact .inr ⟨q.1.trans p2.1,q.2.trans p2.2⟩
   .obtain ⟨p,q,h⟩:=hok1 b hb;exact ⟨p,q,(s2.ok p q b h).1⟩
   .obtain ⟨Ds,d1,d2,d3⟩:=U6;exact ⟨Ds,d1,d2,fun D hD=>⟨(d3 D hD).1,hfr D _ (d3 D hD).2 rfl⟩⟩
   .obtain ⟨p,q,h⟩:=hok1 b (ZZ _ hb);exact ((s2.ok p q b h).2).trans (Zx b hb)
  obtain ⟨us',hI',hH'⟩:=hpre.back r9;exact ⟨rfl,⟨UI hz hBz,us',hI',hH'⟩,fun b hb=>(let ⟨p,q,h⟩:=hok1 b (US _ hb);(s2.ok p q b h).2),fun b o ho hqo _=>hfr b o ho hqo⟩
 .rintro D B D' hD ⟨hz,us,hI,⟨lH,hR1,I7,hok1⟩,U6,Zx⟩ hDB;have hw:=hd us hI;refine hK.wk.n _ _ _ hw ⟨⟨lH,hR1,I7⟩,hsz,?_⟩;obtain ⟨Ds,d1,d2,d3⟩:=U6;obtain ⟨Ds0,e1,e2,e3⟩:=hmk;have hmem :∀D'∈Ds,D'<w.heap.size:=by
   intro D' hD';have:mark D'∈a.defers:=by rw [d1];exact QQ.2 ⟨D',hD',rfl⟩
   rw [e1] at this;obtain ⟨D2,h1,h2⟩:=QQ.1 this;simp [mark] at h2;subst h2;exact (Wg.1 (e3 D2 h1).2).1
  refine ⟨D::Ds,by simp [d1,mark],UB.2 ⟨fun hm'=>by have:=hmem D hm';omega,d2⟩,fun D' hD' => ?_⟩;rcases QP.1 hD' with rfl | hD'
  .exact ⟨by omega,hDB⟩
  .exact d3 D' hD'
theorem U8 (hT :∀f sp,T f=some sp->Sound Pg (f % 1000000) sp) (htt:iC Pg tt) (hm:Fit Pg) :∀(c:Code) {st:St} {K:vX} {Q:Exit->Act->World->Prop} {a:Act} {w:World},
  exec T tt N aY c st K->Good E N aY pW st a w->Knt E N aY pW K Q->c.wp Pg Q a w:=by
 intro c
 induction c with
 |skip=>intro st K Q a w h hg hK;exact wp_skip (hK.n _ _ _ h hg)
 |region id ops draw=>intro st K Q a w h hg hK;exact Ox hT htt hm.mixed h hg fun st' a' w' q hg'=>hK.wk.n _ _ _ q hg'
 |seq x y GH ihy=>
  intro st K Q a w h hg hK;refine wp_seq (GH h hg ⟨fun st' a' w' q hg'=>ihy q hg' hK,fun id st' a' w' q hg'=>hK.x _ _ _ _ q hg',fun st' a' w' q hg'=>hK.r _ _ _ q hg'⟩)
 |cond c x y GH ihy=>
  intro st K Q a w h hg hK;simp only [exec] at h;split at h
  .rename_i a1 i1 b hc;obtain ⟨gh,hR,_⟩:=hg.ex;have hv:=nS hR c;rw [hc] at hv;have hv:=hv.fF.mg;refine wp_cond_split hv (fun hb => ?_) (fun hb => ?_)
   .subst hb;exact GH h hg hK.wk
   .subst hb;exact ihy h hg hK.wk
  .cases h
 |block id c ih=>
  intro st K Q a w h hg hK;refine wp_block (ih h hg ⟨fun st' a' w' q hg'=>hK.wk.n _ _ _ q hg',fun id' st' a' w' q hg' => ?_,fun st' a' w' q hg'=>hK.r _ _ _ q hg'⟩);simp only [Exit.inBlock];by_cases e:id'=id
  .subst e;rw [if_pos rfl];have:Nat.beq id' id'=true:=by simp
   simp only [this] at q;exact hK.wk.n _ _ _ q hg'
  .rw [if_neg e];have:Nat.beq id' id=false:=by cases hb:Nat.beq id' id with | false=>rfl | true=>exact absurd (Q4 hb) e
   simp only [this] at q;exact hK.x _ _ _ _ q hg'
 |loop c ih=>
  intro st K Q a w h hg hK;obtain ⟨j,I,μ,h0,round⟩:=(show abV aY (exec T tt N aY c) st K from h);obtain ⟨us,hI,hg0⟩:=h0.good hg;refine wp_loop_rounds (μ us+1) ?_;have key :∀n us,I us->μ us<n->∀a w,Good E N aY pW (Fw.mk j us) a w->Code.rounds Pg c Q n a w:=by
   intro n
   induction n with
   |zero=>intro us _ h;omega
   |succ n ihn=>
    intro us hI hlt a w hg;refine ih (round us hI) hg ⟨fun st' a' w' q hg' => ?_,fun id st' a' w' q hg'=>hK.x _ _ _ _ q hg',fun st' a' w' q hg'=>hK.r _ _ _ q hg'⟩;obtain ⟨vs,⟨h1,h2⟩,h3⟩:=Back.good q hg';exact ihn vs h1 (by omega) _ _ h3
  exact key _ us hI (by omega) a w hg0
 |exit id=>intro st K Q a w h hg hK;exact wp_exit (hK.x _ _ _ _ h hg)
 |ret=>intro st K Q a w h hg hK;exact wp_ret (hK.r _ _ _ h hg)
 |label l=>intro st K Q a w h hg hK;exact wp_label (hK.n _ _ _ h hg)
 |scope c ih=>intro st K Q a w h hg hK;exact wp_scope_straight (ih h hg ⟨fun st' a' w' q hg'=>hK.n _ _ _ q hg',fun id st' a' w' q hg'=>hK.x _ _ _ _ q hg',fun st' a' w' q hg'=>hK.r _ _ _ q hg'⟩)
 |rangeFunc g ps x y GH ihy=>intro st K Q a w h hg hK;exact Rh hT htt hm h hg hK
 |_=>intro st K Q a w h;exact absurd h (by simp [exec])
def Zy (tt:TT) (st:St):ResultVar->Option S
 |.tmp t=>some (st.s t)
 |.cell a t=>match tt t,st.s a with
  |some i,.v (.one (.box g off))=>match st.o g with
   |.box ws=>if off+i.size<=ws.length/\0<i.size then some (V.gq i.agg ((ws.drop off).take i.size)) else none
   |_=>none
  |_,_=>none
def Fv (tt:TT) (st:St):List ResultVar->Option (List S)
 | []=>some []
 |r::rs=>match Zy tt st r,Fv tt st rs with
  |some x,some xs=>some (x::xs)
  |_,_=>none
def Ri (xs:List S) (st:St):St:={ s:=fun k=>xs.getD k .no,o:=st.o,used:=st.used }
def Fin (tt:TT) (sp:y9) (ts:List ResultVar) (bW:List P) (st:St):Prop:=match Fv tt st ts with
 |some xs=>Back sp.aY sp.aQ (Ri xs st) fun vs=>vs=bW
 |none=>False
def ajo (tt:TT) (sp:y9) (ts:List ResultVar) (bW:List P):vX:={ n:=Fin tt sp ts bW,x:=fun _ _=>False,r:=Fin tt sp ts bW }
def D8 (tmps:Array Value) (r:ResultVar):Sem Value:=match r with
 |.tmp t=>pure (tmps.getD t undef)
 |.cell a t=>do loadVar t (<-asAddr (tmps.getD a undef))
theorem U9 {fn:Func} {ts:List ResultVar} (hr:fn.results=ts.toArray) (tmps:Array Value):results fn tmps=(do
  let vs <-List.toArray <$> ts.mapM (D8 tmps)
  pure (if h:vs.size=1 then vs[0] else .tuple vs)):=by
 unfold results;rw [hr,List.mapM_toArray];have :∀F:ResultVar->Sem Value,(∀r,F r=D8 tmps r)->ts.mapM F=ts.mapM (D8 tmps):=fun F hF=>by rw [funext hF]
 rw [this _ fun r=>by cases r<;>rfl]
theorem U_ (htt:iC Pg tt) {st:St} {gh:Nat->Gh} {a:Act} {w:World} (h:Rel E st gh (fun t=>a.tmps.getD t undef) w) {r:ResultVar} {x:S} (hx:Zy tt st r=some x) :
  ∃v,(D8 a.tmps r).run Pg w=.ok v w/\dI E st gh w x v/\∀g∈x.names,st.used g=true:=by
 cases r with
 |tmp t=>
  simp only [Zy,Q0] at hx;subst hx;exact ⟨_,rfl,h.slots t,h.us t⟩
 |cell ad t=>
  simp only [Zy] at hx;split at hx
  .rename_i i g off ht hs;have rx:=h.slots ad;rw [hs] at rx;split at hx
   .rename_i ws hog;split at hx
    .rename_i hlt;simp only [Q0] at hx;subst hx;have hO:=h.bg g;rw [hog] at hO;obtain ⟨ad',had,cs,hl,hone,hcell,hrep⟩:=zC.cells hO;obtain ⟨atu,NM,hv⟩:=(by cases rx.dH with | box _ _ _ _ hb=>exact hb ws hog :∃ad',(gh g).ad=some ad'/\a.tmps.getD ad undef=.pointer (some ⟨ad'.block,ad'.off+off,none⟩));rw [had] at NM;cases NM;have hl':((cs.drop off).take i.size).length=i.size:=by simp;omega
     obtain ⟨v,hrun,hval⟩:=ku (Pg:=Pg) (w:=w) (htt _ _ ht) ad'.block (ad'.off+off) ((cs.drop off).take i.size) hl' (fun j u hu=>by
      have hj:j<i.size:=by have:=(Q3.1 hu).1;omega
      rw [Z2,if_pos hj,W5] at hu;rw [Uv];exact hcell _ _ hu) (fun _=>hlt.2)
     refine ⟨v,by simp only [D8];rw [hv];simpa [asAddr] using hrun,kX (cs:=(cs.drop off).take i.size) (by simp;omega) (fun c hc=>hone c (V0 (W8 hc)))
      (fun j y u hy hu => ?_) v hval,fun g' hg' => ?_⟩
     .have hj:j<i.size:=by have:=(Q3.1 hu).1;omega
      rw [Z2,if_pos hj,W5] at hy hu;exact hrep _ _ _ hy hu
     .obtain ⟨x,hx,hg'⟩:=jE hg';exact h.uo g g' (by rw [hog];simp only [O.names,Z1];exact ⟨x,V0 (W8 hx),hg'⟩)
    .cases hx
   .cases hx
  .cases hx
theorem Fz (htt:iC Pg tt) {st:St} {gh:Nat->Gh} {a:Act} {w:World} (h:Rel E st gh (fun t=>a.tmps.getD t undef) w) :∀{rs:List ResultVar} {xs:List S},Fv tt st rs=some xs->
  ∃vs:List Value,(rs.mapM (D8 a.tmps)).run Pg w=.ok vs w/\vs.length=rs.length/\
   ∀k,dI E st gh w (xs.getD k .no) (vs.getD k undef)/\∀g∈(xs.getD k .no).names,st.used g=true
 | [],xs,hx=>by
  simp only [Fv,Q0] at hx;subst hx;exact ⟨[],rfl,rfl,fun k=>⟨.no _,by simp [S.names]⟩⟩
 |r::rs,xs,hx=>by
  simp only [Fv] at hx;split at hx
  .rename_i x xs h1 h2;simp only [Q0] at hx;subst hx;obtain ⟨v,q1,q2,q3⟩:=U_ htt h h1;obtain ⟨vs,p1,p2,p3⟩:=Fz htt h h2;refine ⟨v::vs,?_,by simp [p2],fun k => ?_⟩
   .rw [vd,Sem.run_bind,q1];show Sem.run Pg _ w=_;rw [Sem.run_bind,p1];rfl
   .cases k with
    |zero=>exact ⟨q2,q3⟩
    |succ k=>simpa using p3 k
  .cases hx
theorem KY (htt:iC Pg tt) {st:St} {gh:Nat->Gh} {a:Act} {w:World} (h:Rel E st gh (fun t=>a.tmps.getD t undef) w) {fn:Func} {ts:List ResultVar} (hr:fn.results=ts.toArray) {xs:List S} (hx:Fv tt st ts=some xs) :
  ∃vs:List Value,(results fn a.tmps).run Pg w=.ok (Zd vs) w/\vs.length=ts.length/\∀k,dI E st gh w (xs.getD k .no) (vs.getD k undef)/\∀g∈(xs.getD k .no).names,st.used g=true:=by
 obtain ⟨vs,q1,q2,q3⟩:=Fz htt h hx;refine ⟨vs,?_,q2,q3⟩;rw [U9 hr,Sem.run_bind,Sem.run_map,q1]
 match vs with
 | []=>rfl
 | [v]=>rfl
 |v::u::vs=>simp [Zd]
theorem abY {f:FuncId} {fn:Func} {c:Code} {sp:Spec} (ts:List ResultVar) (hf:Pg.funcs[f]?=some fn) (hb:fn.body=some c) (hname:(fn.name == "runtime.NumGoroutine")=false) (hres:fn.results=ts.toArray)
  (hok:sp.sig.ok=true) (E_:(sp.sig.aY.all fun g=>sp.sig.pin.nms.contains g)=true) (hlk :∀ins bW,sp.R ins bW->∀g∈sp.sig.aY,((Fw.mk sp.sig.pin ins).o g).like ((Fw.mk sp.sig.aQ bW).o g)) (hn:sp.sig.bD<=fn.ntmps) (hnr:ts.length=sp.sig.dA)
  (hT :∀f sp,T f=some sp->Sound Pg (f % 1000000) sp) (htt:iC Pg tt) (hm:Fit Pg)
  (h :∀ins bW,sp.R ins bW->exec T tt fn.ntmps sp.sig.aY c (Fw.mk sp.sig.pin ins) (ajo tt sp.sig ts bW)):Sound Pg f sp:=by
 refine ⟨hok,fun args w => ?_,fun E w vals gh ins bW hR hB hw0 KT hlen => ?_⟩
 .have hname':¬ fn.name = "runtime.NumGoroutine" := by simpa using hname
  simp [callFunc,hf,hname',hb]
 .have hsz:vals.toArray.size<=fn.ntmps:=by simp;omega
  refine callsIn_wide.1 (callsIn_of_wp_marks (n:=0) hf hb trivial (wpIn_wide.2 (U8 (E:=E) (N:=fn.ntmps) (aY:=sp.sig.aY) (pW:=gh) hT htt hm c (h ins bW hR) ⟨⟨gh,?_,fun g hg=>⟨?_,.inr ⟨rfl,rfl⟩⟩⟩,by simp;omega,Marks.nil rfl⟩ ?_)) rfl)
  .have e:(fun t=>(vals.toArray++Array.replicate (fn.ntmps-vals.toArray.size) undef).getD t undef)=fun k=>vals.getD k undef:=by
    funext t;rw [ZS,List.getD_eq_getElem?_getD,Array.getElem?_append];split
    .simp
    .rename_i ht;have ht:vals.length<=t:=by simpa using ht
     rw [Wt ht,vb];split<;>rfl
   rw [e];exact KT
  .exact (X2.1 E_) g hg
  .have fin :∀st a w',Fin tt sp.sig ts bW st->Good E fn.ntmps sp.sig.aY gh st a w'->LeavesInM Fence.wide 0 Pg fn a.tmps (fun e w' =>∃(rs:List Value) (bM:Nat->Gh),rs.length=sp.sig.dA/\e=.returned (Zd rs)/\Rel E (Fw.mk sp.sig.aQ bW) bM (fun k=>rs.getD k undef) w'/\∀g∈sp.sig.aY,((bM g).ad=(gh g).ad/\(bM g).cap=(gh g).cap)/\((Fw.mk sp.sig.pin ins).o g).like ((Fw.mk sp.sig.aQ bW).o g)) a.defers .returning w':=by
    intro st a w' hBk hg;unfold Fin at hBk;split at hBk
    rotate_left
    .cases hBk
    rename_i xs hxs;obtain ⟨⟨lH,hR1,I7⟩,_,Ds,hd1,hd2,hd3⟩:=hg;rw [hd1];clear hd1
    induction Ds generalizing w' with
    |nil=>
     obtain ⟨rs,hrun,hrl,hrs⟩:=KY htt hR1 hres hxs;refine ⟨_,hrun,rs,?_⟩;have hfin:Rel E (Ri xs st) lH (fun k=>rs.getD k undef) w':=by
      refine ⟨fun k => ?_,fun g=>lU.congr (st:=st) (st':=Ri xs st) rfl (hR1.bg g),hR1.inj,hR1.wr,hR1.wi,hR1.ns,hR1.wb,hR1.frame,hR1.size,hR1.os,hR1.tape,hR1.output,fun k g hg=>(hrs k).2 g hg,hR1.uo,hR1.ul⟩;exact dI.congr (st:=st) (st':=Ri xs st) rfl (hrs k).1
     obtain ⟨bM,r1,r2⟩:=Rf hfin I7 hBk;exact ⟨bM,by omega,rfl,r1,fun g hg=>⟨r2 g hg,hlk ins bW hR g hg⟩⟩
    |cons D Ds ih=>
     obtain ⟨h1,h2⟩:=hd3 D (by simp);have hnd:=UB.1 hd2;refine ⟨by simp,.inl ⟨D,_,rfl,run_takeDeferred h2,ih _ (hR1.turn h2 rfl h1 _) hnd.2 fun D' hD' => ?_⟩⟩;obtain ⟨q1,q2⟩:=hd3 D' (by simp [hD']);exact ⟨q1,(World.putObj_heap_other (fun e:D'=D=>hnd.1 (by rw [<-e];exact hD'))).trans q2⟩
   exact ⟨fun st a w' hk hg=>fin st a w' hk hg,fun id st a w' hk=>hk.elim,fun st a w' hk hg=>fin st a w' hk hg⟩
end
end Go.Fw

namespace Go.Fg
open Go.Fw
inductive Ty where
 |int (k:IntKind)
 |bool
 |str
 |sl (e:Ty)
 |prod (a b:Ty)
 |st (n:Nat)
 |opq
 |sq (e:Ty)
def abZ:(a b:IntKind)->Option (PLift (a=b))
 |.i8,.i8=>some ⟨rfl⟩
 |.i16,.i16=>some ⟨rfl⟩
 |.i32,.i32=>some ⟨rfl⟩
 |.i64,.i64=>some ⟨rfl⟩
 |.u8,.u8=>some ⟨rfl⟩
 |.u16,.u16=>some ⟨rfl⟩
 |.u32,.u32=>some ⟨rfl⟩
 |.u64,.u64=>some ⟨rfl⟩
 |_,_=>none
def ab1 (a b:Nat):Option (PLift (a=b)):=match h:Nat.beq a b with
 |true=>some ⟨Q4 h⟩
 |false=>none
def Ty.eq:(a b:Ty)->Option (PLift (a=b))
 |.int k,.int k'=>match abZ k k' with
  |some ⟨h⟩=>some ⟨h▸rfl⟩
  |none=>none
 |.bool,.bool=>some ⟨rfl⟩
 |.str,.str=>some ⟨rfl⟩
 |.opq,.opq=>some ⟨rfl⟩
 |.sl a,.sl b=>match Ty.eq a b with
  |some ⟨h⟩=>some ⟨h▸rfl⟩
  |none=>none
 |.sq a,.sq b=>match Ty.eq a b with
  |some ⟨h⟩=>some ⟨h▸rfl⟩
  |none=>none
 |.prod a b,.prod a' b'=>match Ty.eq a a',Ty.eq b b' with
  |some ⟨h⟩,some ⟨h'⟩=>some ⟨h▸h'▸rfl⟩
  |_,_=>none
 |.st n,.st m=>match ab1 n m with
  |some ⟨h⟩=>some ⟨h▸rfl⟩
  |none=>none
 |_,_=>none
def Ty.word:Ty->Bool
 |.prod _ _=>false
 |.st _=>false
 |_=>true
def Ty.flat:Ty->Bool
 |.int _=>true
 |.bool=>true
 |.str=>true
 |.opq=>true
 |_=>false
def D (C:Nat->Type):Ty->Type
 |.int _=>Int
 |.bool=>Bool
 |.str=>List UInt8
 |.sl e=>List (D C e)
 |.prod a b=>D C a×D C b
 |.st n=>C n
 |.opq=>Value
 |.sq e=>List (D C e)
structure TP (C:Nat->Type) where
 t:Ty
 x:D C t
def TP.get {C:Nat->Type} (t:Ty) (d:D C t) (ws:List (TP C)) (n:Nat):D C t:=match ws[n]? with
 |some w=>match Ty.eq w.t t with
  |some ⟨h⟩=>h▸w.x
  |none=>d
 |none=>d
theorem aN {C:Nat->Type} {ws:List (TP C)} {t:Ty} {ts:List Ty} (h:ws.map (·.t)=t::ts) :∃x ws',ws=⟨t,x⟩::ws'/\ws'.map (·.t)=ts:=by
 cases ws with
 |nil=>cases h
 |cons w ws=>
  obtain ⟨t',x⟩:=w;simp only [Qf,List.cons.injEq] at h;obtain ⟨rfl,h⟩:=h;exact ⟨x,ws,rfl,h⟩
theorem dX {C:Nat->Type} {ws:List (TP C)} (h:ws.map (·.t)=[]):ws=[]:=by simpa using h
def I9 {C:Nat->Type} (size:Ty->Nat) (jW:(t:Ty)->D C t->List P):(t:Ty)->D C t->P
 |.int k,x=>.int k x
 |.bool,b=>.bool b
 |.str,s=>.str ⟨s.toArray⟩
 |.sl e,l=>P.fP (size e) (List.map (jW e) l)
 |.opq,v=>.opq v
 |.sq e,l=>.seq (List.map (jW e) l)
 |.prod _ _,_=>default
 |.st _,_=>default
def pz {C:Nat->Type} (F:Nat->List Ty) (er:(n:Nat)->C n->List P) (size:Ty->Nat):(t:Ty)->D C t->List P
 |.int k,x=>[.int k x]
 |.bool,b=>[.bool b]
 |.str,s=>[.str ⟨s.toArray⟩]
 |.sl e,l=>[P.fP (size e) (List.map (pz F er size e) l)]
 |.opq,v=>[.opq v]
 |.sq e,l=>[.seq (List.map (pz F er size e) l)]
 |.prod a b,x=>pz F er size a x.1++pz F er size b x.2
 |.st n,x=>er n x
def jA (F:Nat->List Ty):Ty->Nat
 |.prod a b=>jA F a+jA F b
 |.st n=>(F n).length
 |_=>1
class RE where
 C:Nat->Type
 F:Nat->List Ty
 dflt:(n:Nat)->C n
 un:(n:Nat)->C n->List (TP C)
 ro:(n:Nat)->List (TP C)->C n
 er:(n:Nat)->C n->List P
 Fwd :∀n,(F n).all Ty.word=true
 ahV :∀n x,(un n x).map (·.t)=F n
 ahW :∀n ws,ws.map (·.t)=F n->un n (ro n ws)=ws
 ahX :∀n x,er n x=(un n x).map fun w=>I9 (jA F) (pz F er (jA F)) w.t w.x
 hd:Nat:=999999
 hdF:F hd=[]:=by rfl
 G:Nat->Option ((e:Ty)×List (D C e)):=fun _=>none
 Q:World->List Nat->List (List P)->Value->Prop:=fun _ _ _ _=>False
 ajp :∀{w w':World} {S:List Nat} {l:List (List P)} {v:Value},(∀b∈S,w'.heap[b]?=w.heap[b]?)->Q w S l v->Q w' S l v:=by intro _ _ _ _ _ _ h;exact h
section
variable [RE]
abbrev Dt (t:Ty):Type:=D RE.C t
abbrev Wd:=TP RE.C
def size:Ty->Nat:=jA RE.F
def jW:(t:Ty)->Dt t->List P:=pz RE.F RE.er (jA RE.F)
instance:eP:=⟨fun g=>(RE.G g).map fun x=>(size x.1,List.map (jW x.1) x.2),RE.Q,RE.ajp⟩
theorem ahY (g:Nat):eP.gt g=(RE.G g).map fun x=>(size x.1,List.map (jW x.1) x.2):=rfl
def bZ (w:Wd):P:=I9 (jA RE.F) (pz RE.F RE.er (jA RE.F)) w.t w.x
def dflt:(t:Ty)->Dt t
 |.int _=>(0:Int)
 |.bool=>false
 |.str=>([]:List UInt8)
 |.sl e=>([]:List (Dt e))
 |.prod a b=>(dflt a,dflt b)
 |.st n=>RE.dflt n
 |.opq=>Value.nilFunc
 |.sq e=>([]:List (Dt e))
def TP.Bh (t:Ty) (w:Wd):Option (Dt t):=match Ty.eq w.t t with
 |some ⟨h⟩=>some (h▸w.x)
 |none=>none
def TP.as (t:Ty) (w:Wd):Dt t:=match Ty.eq w.t t with
 |some ⟨h⟩=>h▸w.x
 |none=>dflt t
def fH:(t:Ty)->Dt t->List Wd
 |.prod a b,x=>fH a x.1++fH b x.2
 |.st n,x=>RE.un n x
 |.int k,x=>[⟨.int k,x⟩]
 |.bool,x=>[⟨.bool,x⟩]
 |.str,x=>[⟨.str,x⟩]
 |.sl e,x=>[⟨.sl e,x⟩]
 |.opq,x=>[⟨.opq,x⟩]
 |.sq e,x=>[⟨.sq e,x⟩]
def iW:Ty->List Ty
 |.prod a b=>iW a++iW b
 |.st n=>RE.F n
 |t=>[t]
def kH:(t:Ty)->List Wd->Dt t
 |.prod a b,ws=>(kH a (ws.take (size a)),kH b (ws.drop (size a)))
 |.st n,ws=>RE.ro n ws
 |.int k,ws=>match ws with
  |w::_=>w.as (.int k)
  | []=>dflt (.int k)
 |.bool,ws=>match ws with
  |w::_=>w.as .bool
  | []=>dflt .bool
 |.str,ws=>match ws with
  |w::_=>w.as .str
  | []=>dflt .str
 |.sl e,ws=>match ws with
  |w::_=>w.as (.sl e)
  | []=>dflt (.sl e)
 |.opq,ws=>match ws with
  |w::_=>w.as .opq
  | []=>dflt .opq
 |.sq e,ws=>match ws with
  |w::_=>w.as (.sq e)
  | []=>dflt (.sq e)
theorem Ty.eq_self :∀(t:Ty),∃h,Ty.eq t t=some ⟨h⟩:=by
 intro t
 induction t with
 |int k=>cases k<;>exact ⟨rfl,rfl⟩
 |bool=>exact ⟨rfl,rfl⟩
 |str=>exact ⟨rfl,rfl⟩
 |opq=>exact ⟨rfl,rfl⟩
 |sl e ih=>obtain ⟨h,ih⟩:=ih;exact ⟨rfl,by simp [Ty.eq,ih]⟩
 |sq e ih=>obtain ⟨h,ih⟩:=ih;exact ⟨rfl,by simp [Ty.eq,ih]⟩
 |prod a b iha ihb=>obtain ⟨h,iha⟩:=iha;obtain ⟨h',ihb⟩:=ihb;exact ⟨rfl,by simp [Ty.eq,iha,ihb]⟩
 |st n=>
  refine ⟨rfl,?_⟩;have:ab1 n n=some ⟨rfl⟩:=by
   unfold ab1;split
   .rfl
   .rename_i h;simp at h
  simp [Ty.eq,this]
theorem rX (t:Ty) (x:Dt t):TP.as t ⟨t,x⟩=x:=by
 obtain ⟨h,e⟩:=Ty.eq_self t;simp [TP.as,e]
theorem wR {t:Ty} {w:Wd} (h:w.t=t):(⟨t,w.as t⟩:Wd)=w:=by
 obtain ⟨t',x⟩:=w;simp only at h;subst h;rw [rX]
theorem gW {t:Ty} {w:Wd} {x:Dt t} (h:w.Bh t=some x):w=⟨t,x⟩:=by
 obtain ⟨t',y⟩:=w;unfold TP.Bh at h;split at h
 .rename_i e he;simp only at e;subst e;simp only [Q0] at h;subst h;rfl
 .cases h
theorem ajq {t:Ty} {w:Wd} {x:Dt t} (h:w.Bh t=some x):w.t=t:=by rw [gW h]
theorem jB :∀(t:Ty),(iW t).length=size t
 |.prod a b=>by
  have h1:=jB a;have h2:=jB b;simp only [size] at h1 h2;simp [iW,size,jA,h1,h2]
 |.st n=>by simp [iW,size,jA]
 |.int k=>rfl
 |.bool=>rfl
 |.str=>rfl
 |.sl e=>rfl
 |.opq=>rfl
 |.sq e=>rfl
theorem qK :∀(t:Ty) (x:Dt t),(fH t x).map (·.t)=iW t
 |.prod a b,x=>by simp [fH,iW,qK a,qK b]
 |.st n,x=>by simp [fH,iW];exact RE.ahV n x
 |.int k,x=>rfl
 |.bool,x=>rfl
 |.str,x=>rfl
 |.sl e,x=>rfl
 |.opq,x=>rfl
 |.sq e,x=>rfl
theorem qw (t:Ty) (x:Dt t):(fH t x).length=size t:=by
 rw [<-jB,<-qK t x,W2]
theorem gK :∀(t:Ty) (x:Dt t),jW t x=(fH t x).map bZ
 |.prod a b,x=>by
  show jW a x.1++jW b x.2=_;rw [gK a x.1,gK b x.2];simp [fH]
 |.st n,x=>RE.ahX n x
 |.int k,x=>rfl
 |.bool,x=>rfl
 |.str,x=>rfl
 |.sl e,x=>rfl
 |.opq,x=>rfl
 |.sq e,x=>rfl
theorem I_ (t:Ty) (x:Dt t):(jW t x).length=size t:=by rw [gK,W2,qw]
theorem vY {ws:List Wd} {t:Ty} (h:ws.map (·.t)=[t]) :∃w,ws=[w]/\w.t=t:=by
 match ws with
 | []=>cases h
 | [w]=>exact ⟨w,rfl,by simpa using h⟩
 |w::u::ws=>simp at h
theorem Ja :∀(t:Ty) (ws:List Wd),ws.map (·.t)=iW t->fH t (kH t ws)=ws
 |.prod a b,ws,h=>by
  have h1:(ws.take (size a)).map (·.t)=iW a:=by rw [V1,h];simp [iW,<-jB]
  have h2:(ws.drop (size a)).map (·.t)=iW b:=by rw [WK,h];simp [iW,<-jB]
  show fH a (kH a (ws.take (size a)))++fH b (kH b (ws.drop (size a)))=ws;rw [Ja a _ h1,Ja b _ h2,Jn]
 |.st n,ws,h=>RE.ahW n ws h
 |.int k,ws,h=>by
  obtain ⟨w,rfl,hw⟩:=vY (t:=(.int k)) h;show [(⟨.int k,w.as (.int k)⟩:Wd)]=[w];rw [wR hw]
 |.bool,ws,h=>by
  obtain ⟨w,rfl,hw⟩:=vY (t:=.bool) h;show [(⟨.bool,w.as .bool⟩:Wd)]=[w];rw [wR hw]
 |.str,ws,h=>by
  obtain ⟨w,rfl,hw⟩:=vY (t:=.str) h;show [(⟨.str,w.as .str⟩:Wd)]=[w];rw [wR hw]
 |.sl e,ws,h=>by
  obtain ⟨w,rfl,hw⟩:=vY (t:=(.sl e)) h;show [(⟨.sl e,w.as (.sl e)⟩:Wd)]=[w];rw [wR hw]
 |.opq,ws,h=>by
  obtain ⟨w,rfl,hw⟩:=vY (t:=.opq) h;show [(⟨.opq,w.as .opq⟩:Wd)]=[w];rw [wR hw]
 |.sq e,ws,h=>by
  obtain ⟨w,rfl,hw⟩:=vY (t:=(.sq e)) h;show [(⟨.sq e,w.as (.sq e)⟩:Wd)]=[w];rw [wR hw]
theorem rY {t:Ty} {ws:List Wd} (h:ws.map (·.t)=iW t):jW t (kH t ws)=ws.map bZ:=by rw [gK,Ja t ws h]
def aG (e:Ty) (l:List (Dt e)):List (List P):=List.map (jW e) l
theorem GK (e:Ty) (l:List (Dt e)):bZ ⟨.sl e,l⟩=P.fP (size e) (aG e l):=rfl
theorem jr (e:Ty) (l:List (Dt e)):(bZ ⟨.sl e,l⟩).list=aG e l:=by rw [GK,P.oC]
theorem Zz {w:Wd} (h:w.t.flat=true):(bZ w).flat=true:=by
 obtain ⟨t,x⟩:=w;cases t<;>simp [Ty.flat] at h<;>rfl
end
end Go.Fg

namespace Go.Fg
open Go.Fw
section
variable [RE]
inductive TW where
 |p (a i:Bool) (w:Wd)
 |dF
 |own (g:Nat)
 |vw (g:Nat) (lo hi:Int)
 |box (g off:Nat)
 |ep (g:Nat) (n:Int) (off:Nat)
 |sp (a i:Bool) (t:Ty) (x:Dt t) (off:Nat)
 |clo (f:FuncId) (caps:List TW)
 |gl (g:Nat)
 |nH (g:Nat)
 |no
inductive TV where
 |one (x:TW)
 |agg (xs:List TW)
inductive TS where
 |v (x:TV)
 |jM (xs:List TV)
 |no
inductive TO where
 |none
 |box (ws:List TW)
 |arr (fz a i:Bool) (e:Ty) (l:List (Dt e))
 |it (s:List UInt8) (n:Int)
 |aO (a i:Bool) (e:Ty) (aj:List (Nat×Ty)) (l:List (Dt e)) (hole:Option (Nat×Nat×Nat))
mutual
def bU:TW->W
 |.p a i w=>.p a i (bZ w)
 |.dF=>.dF
 |.own g=>.own g
 |.vw g lo hi=>.vw g (.int .i64 lo) (.int .i64 hi)
 |.box g off=>.box g off
 |.ep g n off=>.ep g (.int .i64 n) off
 |.sp a i t x off=>.sp a i (jW t x) off
 |.clo f caps=>.clo f (nT caps)
 |.gl g=>.gl g
 |.nH g=>.nH g
 |.no=>.no
def nT:List TW->List W
 | []=>[]
 |x::xs=>bU x::nT xs
end
theorem zi :∀(l:List TW),nT l=l.map bU
 | []=>rfl
 |x::xs=>by simp [nT,zi xs]
def jL:TV->V
 |.one x=>.one (bU x)
 |.agg xs=>.agg (xs.map bU)
def bn:TS->S
 |.v x=>.v (jL x)
 |.jM xs=>.jM (xs.map jL)
 |.no=>.no
def iQ (aj:List (Nat×Ty)):List (Nat×Nat):=aj.map fun c=>(c.1,size c.2)
def d_:TO->O
 |.none=>.none
 |.box ws=>.box (ws.map bU)
 |.arr fz a i e l=>.arr fz a i (size e) (aG e l)
 |.it s n=>.it (.str ⟨s.toArray⟩) (.int .i64 n)
 |.aO a i e aj l hole=>.aO a i (size e) (iQ aj) (aG e l) hole
def jm {α:Type} (d:α):List (Nat×α)->Nat->α
 | [],_=>d
 |(k,v)::r,t=>bif Nat.beq t k then v else jm d r t
def xq {α:Type} (k:Nat) (v:α):List (Nat×α)->List (Nat×α)
 | []=>[(k,v)]
 |(k',v')::r=>bif Nat.beq k k' then (k,v)::r else (k',v')::xq k v r
def fM (g:Nat):List Nat->Bool
 | []=>false
 |x::xs=>Nat.beq g x||fM g xs
structure jH where
 s:List (Nat×TS)
 o:List (Nat×TO)
 u:List Nat
def jH.gs (st:jH) (t:Nat):TS:=jm .no st.s t
def jH.go (st:jH) (g:Nat):TO:=jm .none st.o g
def aT (st:jH):St:={ s:=fun t=>bn (st.gs t),o:=fun g=>d_ (st.go g),used:=fun g=>fM g st.u }
def bV (o:Nat->TO):Nat->O:=fun g=>d_ (o g)
def iR (k:IntKind) (x:Int):Wd:=⟨.int k,x⟩
def iU (x:Bool):Wd:=⟨.bool,x⟩
def Rj (x:List UInt8):Wd:=⟨.str,x⟩
def uz (e:Ty) (x:List (Dt e)):Wd:=⟨.sl e,x⟩
def apB (x:Value):Wd:=⟨.opq,x⟩
def ZA:Value->TW
 |.int k n=>.p false false (iR k n)
 |.bool b=>.p false false (iU b)
 |.string s=>.p false false (Rj s.data.toList)
 |.slice none 0 0=>.dF
 |v=>.p false false (apB v)
def Va:Value->TS
 |.agg cs=>bif cs.toList.all Value.oneCell' then .v (.agg (cs.toList.map ZA)) else .no
 |.tuple _=>.no
 |.func (.func f) ⟨[]⟩ ⟨[]⟩=>.v (.one (.clo f []))
 |v=>bif v.oneCell' then .v (.one (ZA v)) else .no
def jH.dJ (st:jH):Operand->TS
 |.tmp t=>st.gs t
 |.const v=>Va v
 |.func f=>.v (.one (.clo f []))
 |.global g=>match RE.G g with
  |some _=>.v (.one (.gl g))
  |none=>.no
structure rG where
 pre:Bool
 t:Ty
 val:Dt t
 dst:Dt t->TS
 aJ:Dt t->List (Nat×TO)
 new:List Nat
def rG.pure (x:TS):rG:={ pre:=true,t:=.bool,val:=false,dst:=fun _=>x,aJ:=fun _=>[],new:=[] }
def Xh (w:Wd):TS:=.v (.one (.p false false w))
def rG.calc (pre:Bool) (t:Ty) (x:Dt t):rG:={ pre,t,val:=x,dst:=fun z=>Xh ⟨t,z⟩,aJ:=fun _=>[],new:=[] }
structure TA where
 a:Bool
 i:Bool
 e:Ty
 l:List (Dt e)
structure TH where
 a:Bool
 i:Bool
 e:Ty
 aj:List (Nat×Ty)
 l:List (Dt e)
def tyB (a b:Ty):Bool:=match Ty.eq a b with
 |some _=>true
 |none=>false
def uD (c:Nat):List (Nat×Ty)->Option Ty
 | []=>none
 |(k,t)::r=>bif Nat.beq c k then some t else uD c r
def ZB (e:Ty) (aj:List (Nat×Ty)) (c:Nat) (e':Ty):Bool:=(match uD c aj with
 |some t=>tyB t e'
 |none=>false)&&(match (iW e)[c]? with
 |some (.sl t)=>tyB t e'
 |_=>false)
def KZ (e:Ty) (whole:Bool) (x:Dt e) (off:Nat) (ps:List Wd):Dt e:=match whole with
 |true=>kH e ps
 |false=>kH e (aS (fH e x) off ps)
def putRow (e:Ty) (l:List (Dt e)) (n c:Nat) (w:Wd):List (Dt e):=List.set l n (KZ e (Nat.beq 1 (size e)) (l.getD n (dflt e)) c [w])
def nU (o:Nat->TO) (g:Nat):Option TA:=match o g with
 |.arr _ a i e l=>some ⟨a,i,e,l⟩
 |.aO a i e aj l hole=>match hole with
  |none=>some ⟨a,i,e,l⟩
  |some (n,c,d)=>match o d with
   |.arr _ a' i' e' l'=>match ZB e aj c e' with
    |true=>some ⟨a||a',i||i',e,putRow e l n c (uz e' l')⟩
    |false=>none
   |_=>none
 |_=>none
def lW:TO->List Nat
 |.aO _ _ _ _ _ hole=>match hole with
  |some (_,_,d)=>[d]
  |none=>[]
 |_=>[]
def K_ (o:Nat->TO) (g:Nat):Option (Ty×Nat):=match o g with
 |.arr _ _ _ e l=>some (e,l.length)
 |.aO _ _ e _ l _=>some (e,l.length)
 |_=>none
def TW.toP (o:Nat->TO) (t:Ty):TW->Option (Dt t×Bool×Bool×List Nat)
 |.p a i w=>match w.Bh t with
  |some x=>some (x,a,i,[])
  |none=>none
 |.dF=>match t with
  |.sl e=>some (([]:List (Dt e)),false,false,[])
  |_=>none
 |.own g=>match nU o g with
  |some ⟨a,i,e,l⟩=>match (uz e l).Bh t with
   |some x=>some (x,a,i,lW (o g)++[g])
   |none=>none
  |none=>none
 |.vw g lo hi=>match nU o g with
  |some ⟨a,i,e,l⟩=>match (uz e ((l.take hi.toNat).drop lo.toNat)).Bh t with
   |some x=>some (x,a,i,lW (o g)++[g])
   |none=>none
  |none=>none
 |_=>none
def qL (o:Nat->TO):List Ty->List TW->Option (List Wd×Bool×Bool×List Nat)
 | [],[]=>some ([],false,false,[])
 |t::ts,x::xs=>match x.toP o t,qL o ts xs with
  |some (y,a,i,gs),some (ys,a',i',gs')=>some (⟨t,y⟩::ys,a||a',i||i',gs++gs')
  |_,_=>none
 |_,_=>none
def TV.words:TV->List TW
 |.one x=>[x]
 |.agg xs=>xs
def lK (o:Nat->TO) (g:Nat):Nat×TO:=
 (g,match nU o g with
  |some ⟨a,i,e,l⟩=>.arr true a i e l
  |none=>o g)
def TV.gq (agg:Bool) (ws:List TW):TS:=match agg with
 |true=>.v (.agg ws)
 |false=>match ws with
  | [x]=>.v (.one x)
  |_=>.no
def TW.solid:TW->Bool
 |.no=>false
 |_=>true
def TV.solid:TV->Bool
 |.one x=>x.solid
 |.agg _=>true
def Ci (place:Nat->Option (Nat×Nat)) (ws:List TW):List (Nat×TS)->Option (List TW)
 | []=>some ws
 |(n,.v x)::rest=>match place n with
  |some (off,size)=>bif Nat.beq x.words.length size&&Nat.ble (off+size) ws.length&&x.solid then Ci place (aS ws off x.words) rest else none
  |none=>none
 |_=>none
def TW.rows (o:Nat->TO) (e:Ty):TW->Option (List (Dt e)×Bool×Bool)
 |.p a i w=>match w.Bh (.sl e) with
  |some l=>some (l,a,i)
  |none=>none
 |.dF=>some ([],false,false)
 |.own g=>match o g with
  |.arr _ a i e' l=>match (uz e' l).Bh (.sl e) with
   |some l=>some (l,a,i)
   |none=>none
  |_=>none
 |.vw g lo hi=>match o g with
  |.arr _ a i e' l=>match (uz e' ((l.take hi.toNat).drop lo.toNat)).Bh (.sl e) with
   |some l=>some (l,a,i)
   |none=>none
  |_=>none
 |_=>none
def Rk (o:Nat->TO):TW->Option Int
 |.p _ _ ⟨.sl e,l⟩=>some (List.length (α:=Dt e) l)
 |.dF=>some 0
 |.own g=>match K_ o g with
  |some (_,n)=>some n
  |none=>none
 |.vw g lo hi=>match K_ o g with
  |some _=>some (hi.toNat-lo.toNat:Nat)
  |none=>none
 |_=>none
def TW.live (o:Nat->TO):TW->Bool
 |.box g _=>match o g with
  |.box _=>true
  |_=>false
 |.ep g _ _=>match K_ o g with
  |some _=>true
  |none=>false
 |.sp _ _ _ _ _=>true
 |_=>false
def TW.shift (n:Nat):TW->TW
 |.box g off=>.box g (off+n)
 |.ep g k off=>.ep g k (off+n)
 |.sp a i t x off=>.sp a i t x (off+n)
 |x=>x
def ny (dflt:Int):Option TS->Option Int
 |none=>some dflt
 |some (.v (.one (.p _ _ ⟨.int .i64,x⟩)))=>some x
 |_=>none
def apC (n:Int):Int:=0-n
def eqI (a b:Int):Bool:=decide (a=b)
def inB (n:Int) (len:Nat):Bool:=decide (0<=n)&&decide (n<len)
def Gq (lo hi:Int) (len:Nat):Bool:=decide (0<=lo)&&decide (lo<=hi)&&decide (hi<=(len:Int))
def La (bytes:Nat) (n c:Int):Bool:=decide (0<=n)&&decide (n<=c)&&decide (bytes*c<=281474976710656)&&decide (c<=9223372036854775807)
def strOf (l:List Int):List UInt8:=l.map fun n=>UInt8.ofNat n.toNat
def alO {α:Type} (lo hi:Int) (z:α) (l:List α):List α:=List.take lo.toNat l++List.replicate (hi.toNat-lo.toNat) z++List.drop (lo.toNat+(List.replicate (hi.toNat-lo.toNat) z).length) l
def ajs (s:List UInt8):List Int:=s.map fun b=>(b.toNat:Int)
def ZC (a b:Int):Int:=if b<a then b else a
def D9 (a b:Int):Int:=if b>a then b else a
def Vb (op:BinOp) (k k':IntKind) (a b:Int):Option (Bool×Wd):=
 match op with
 |.shl=>some (decide (0<=b),iR k (k.wrap (a*2 ^ min b.toNat k.bits)))
 |.shr=>some (decide (0<=b),iR k (a.fdiv (2 ^ min b.toNat k.bits)))
 |_=>match abZ k k' with
  |none=>none
  |some _=>match op with
   |.add=>some (true,iR k (k.wrap (a+b)))
   |.sub=>some (true,iR k (k.wrap (a-b)))
   |.mul=>some (true,iR k (k.wrap (a*b)))
   |.quo=>some (!(decide (b=0)),iR k (k.wrap (a.tdiv b)))
   |.rem=>some (!(decide (b=0)),iR k (a.tmod b))
   |.and=>some (true,iR k (bits .and k a b))
   |.or=>some (true,iR k (bits .or k a b))
   |.xor=>some (true,iR k (bits .xor k a b))
   |.andNot=>some (true,iR k (bits .andNot k a b))
   |.eql=>some (true,iU (decide (a=b)))
   |.neq=>some (true,iU (!(decide (a=b))))
   |.lss=>some (true,iU (decide (a<b)))
   |.leq=>some (true,iU (decide (a<=b)))
   |.gtr=>some (true,iU (decide (b<a)))
   |.geq=>some (true,iU (decide (b<=a)))
   |_=>none
def Cj (n m:Nat):Bool:=Nat.ble n (9223372036854775807-m)&&Nat.ble m 9223372036854775807
theorem oL {n m:Nat}:Cj n m=true↔n+m<=9223372036854775807:=by
 unfold Cj;rw [Q6,Nat.ble_eq,Nat.ble_eq];omega
def Vd (op:BinOp) (a b:List UInt8):Option (Bool×Wd):=
 match op with
 |.add=>some (Cj a.length b.length,Rj (a++b))
 |.eql=>some (true,iU (a==b))
 |.neq=>some (true,iU (!(a==b)))
 |.lss=>some (true,iU (Op.bytesLess a b))
 |.leq=>some (true,iU (Op.bytesLess a b||a==b))
 |.gtr=>some (true,iU (!(Op.bytesLess a b||a==b)))
 |.geq=>some (true,iU (!Op.bytesLess a b))
 |_=>none
def Oz (op:BinOp) (a b:Bool):Option (Bool×Wd):=
 match op with
 |.eql=>some (true,iU (a==b))
 |.neq=>some (true,iU (a != b))
 |_=>none
def alP (k:TK) (op:BinOp) (x y:Wd):Option (Bool×Wd):=
 match k,x,y with
 |.int _,⟨.int k,a⟩,⟨.int k',b⟩=>Vb op k k' a b
 |.str,⟨.str,a⟩,⟨.str,b⟩=>Vd op a b
 |.bool,⟨.bool,a⟩,⟨.bool,b⟩=>Oz op a b
 |_,_,_=>none
def unT (op:UnOp) (x:Wd):Option Wd:=
 match op,x with
 |.neg,⟨.int k,n⟩=>some (iR k (k.wrap (apC n)))
 |.not,⟨.bool,b⟩=>some (iU (!b))
 |_,_=>none
def ah0 (k k':IntKind) (m n:Int):Option Bool:=
 match abZ k k' with
 |some _=>some (decide (m=n))
 |none=>none
def eqStr (a b:List UInt8):Option Bool:=some (a==b)
def alQ (a b:Bool):Option Bool:=some (a==b)
def ajt (k:TK) (x y:Wd):Option Bool:=
 match k,x,y with
 |.int _,⟨.int a,m⟩,⟨.int b,n⟩=>ah0 a b m n
 |.str,⟨.str,a⟩,⟨.str,b⟩=>eqStr a b
 |.bool,⟨.bool,a⟩,⟨.bool,b⟩=>alQ a b
 |_,_,_=>none
def Gs (tt:TT):Nat->List (Nat×TypeId)->List TW->List TW->Option Bool
 |_,[],[],[]=>some true
 |n,(off,t)::fs,.p _ _ x::xs,.p _ _ y::ys=>match tt t with
  |some i=>bif Nat.beq off n&&i.k.flat&&Nat.beq i.size 1 then match ajt i.k x y,Gs tt (n+1) fs xs ys with
   |some b,some c=>some (b&&c)
   |_,_=>none
   else none
  |none=>none
 |_,_,_,_=>none
def rG.oM (c:Bool×Wd):rG:=.calc c.1 c.2.t c.2.x
def ab2:Wd->Value->Bool
 |⟨.int k,n⟩,.int k' n'=>(match abZ k k' with | some _=>true | none=>false)&&eqI n n'
 |⟨.bool,b⟩,.bool b'=>BEq.beq (α:=Bool) b b'
 |⟨.str,s⟩,.string s'=>List.isEmpty (α:=UInt8) s&&s'.data.toList.isEmpty
 |⟨.sl e,l⟩,.slice none 0 0=>List.isEmpty (α:=Dt e) l
 |_,_=>false
def tK:List Wd->List Value->Bool
 | [],[]=>true
 |w::ws,v::vs=>ab2 w v&&tK ws vs
 |_,_=>false
def tpw (a i:Bool) (ws:List Wd):List TW:=ws.map (TW.p a i)
def OA (tt:TT) (ety:TypeId->Option Ty) (d:Nat) (o:Nat->TO) (sT:TypeId) (s x:TW):Option rG:=
 match tt sT with
 |some { k:=.slice e,.. }=>match tt e,ety e with
  |some ie,some et=>bif Nat.beq ie.bytes 0||!Nat.beq (size et) ie.size then none else match x.rows o et with
   |none=>none
   |some (new,a',i')=>
    let res (pre:Bool) (old:List (Dt et)) (a i:Bool) (kill:List (Nat×TO)):rG:=
     { pre:=pre&&decide ((old.length+new.length)*ie.bytes<=140737488355328),t:=.sl et,val:=List.append old new,dst:=fun _=>.v (.one (.own d)),aJ:=fun y=>kill++[(d,.arr false (a||a') (i||i') et y)],new:=[d] }
    match s with
    |.dF=>some (res true [] false false [])
    |.own g=>match o g with
     |.arr false a i e' l=>match (uz e' l).Bh (.sl et) with
      |some l=>bif Nat.beq g d then none else some (res true l a i [(g,.none)])
      |none=>none
     |_=>none
    |.vw g lo hi=>match o g with
     |.arr false a i e' l=>match (uz e' (l.take hi.toNat)).Bh (.sl et) with
      |some l=>bif Nat.beq g d then none else some (res (decide (lo=0)) l a i [(g,.none)])
      |none=>none
     |_=>none
    |_=>none
  |_,_=>none
 |_=>none
def Cm (e:Ty):Nat->List Wd->List (Dt e)
 |0,_=>[]
 |n+1,l=>kH e (l.take (size e))::Cm e n (l.drop (size e))
def Jb {α:Type} (l:List α):Nat->List α
 |0=>[]
 |n+1=>l++Jb l n
def Xi (tt:TT) (o:Nat->TO) (t:TypeId) (x h m:TS):Option rG:=
 match tt t,x,h,m with
 |some { k:=.slice e,.. },.v (.one (.own g)),.v (.one (.p _ _ ⟨.int .i64,h⟩)),.v (.one (.p _ _ ⟨.int .i64,m⟩))=>match tt e,o g with
  |some ie,.arr false _ _ e' l=>bif Nat.beq (size e') ie.size then some { pre:=Gq h m l.length,t:=.bool,val:=false,dst:=fun _=>.v (.one (.vw g 0 h)),aJ:=fun _=>[],new:=[] } else none
  |_,_=>none
 |some { k:=.slice e,.. },.v (.one .dF),.v (.one (.p _ _ ⟨.int .i64,h⟩)),.v (.one (.p _ _ ⟨.int .i64,m⟩))=>match tt e with
  |some _=>some { pre:=Gq h m 0,t:=.bool,val:=false,dst:=fun _=>.v (.one .dF),aJ:=fun _=>[],new:=[] }
  |none=>none
 |_,_,_,_=>none
def ab3 (tt:TT) (o:Nat->TO) (t:TypeId) (x:TS):Option rG:=
 match tt t,x with
 |some { k:=.slice e,.. },.v (.one (.vw g lo hi))=>match tt e,o g with
  |some ie,.arr false a i et l=>bif Nat.beq (size et) ie.size&&Nat.blt 0 ie.size then match qL o (iW et) (ie.zero.map ZA) with
   |some (ps,false,false,[])=>some { pre:=Nat.blt lo.toNat hi.toNat,t:=.sl et,val:=alO lo hi (kH et ps) l,dst:=fun _=>.no,aJ:=fun y=>[(g,.arr false a i et y)],new:=[] }
   |_=>none
   else none
  |_,_=>none
 |_,_=>none
def dU (tt:TT) (ety:TypeId->Option Ty) (d:Nat) (o:Nat->TO) (f:Operand->TS) (op:Op) (ty:TypeId):Option rG:=
 match op with
 |.move x | .assign x=>match f x with
  |.no=>none
  |s=>some (.pure s)
 |.pick c x y=>match f c with
  |.v (.one (.p _ _ ⟨.bool,b⟩))=>match f x,f y with
   |.v (.one (.p a i w)),.v (.one (.p a' i' w'))=>match w'.Bh w.t with
    |some z=>some { pre:=true,t:=w.t,val:=bif b then w.x else z,dst:=fun z=>.v (.one (.p (a||a') (i||i') ⟨w.t,z⟩)),aJ:=fun _=>[],new:=[] }
    |none=>none
   |x,y=>match (bif b then x else y) with
    |.no=>none
    |s=>some (.pure s)
  |_=>none
 |.alloc t=>match tt t with
  |some i=>some { pre:=true,t:=.bool,val:=false,dst:=fun _=>.v (.one (.box d 0)),aJ:=fun _=>[(d,.box (i.zero.map ZA))],new:=[d] }
  |none=>none
 |.box t x=>match tt t,f x with
  |some i,.v x=>bif Nat.beq x.words.length i.size&&x.solid then some { pre:=true,t:=.bool,val:=false,dst:=fun _=>.v (.one (.box d 0)),aJ:=fun _=>[(d,.box x.words)],new:=[d] } else none
  |_,_=>none
 |.build t parts=>match tt t with
  |some i=>bif i.known tt then match Ci (placeOf tt t) (i.zero.map ZA) (parts.toList.map fun p=>(p.1,f p.2)) with
   |some ws=>some (.pure (.v (.agg ws)))
   |none=>none
   else none
  |none=>none
 |.buildSlice t n parts=>match tt t with
  |some { k:=.slice e,.. }=>match tt e,ety e with
   |some ie,some et=>match Ci (fun m=>if m<n then some (m*ie.size,ie.size) else none) (Jb (ie.zero.map ZA) n) (parts.toList.map fun p=>(p.1,f p.2)) with
    |some ws=>match qL o (Jb (iW et) n) ws with
     |some (ps,a,i,gs)=>bif Nat.ble (n+n*ie.size) 16777216&&Nat.beq (size et) ie.size then
       some { pre:=true,t:=.sl et,val:=Cm et n ps,dst:=fun _=>.v (.one (.own d)),aJ:=fun y=>gs.map (lK o)++[(d,.arr false a i et y)],new:=[d] } else none
     |none=>none
    |none=>none
   |_,_=>none
  |_=>none
 |.load t x=>match tt t,f x with
  |some i,.v (.one (.box g off))=>match o g with
   |.box ws=>bif Nat.ble (off+i.size) ws.length&&Nat.blt 0 i.size then some (.pure (TV.gq i.agg ((ws.drop off).take i.size))) else none
   |_=>none
  |some i,.v (.one (.ep g n off))=>match o g with
   |.arr _ a i' e l=>bif Nat.ble (off+i.size) (size e)&&Nat.blt 0 i.size&&tK (((fH e (dflt e)).drop off).take i.size) i.zero then
     some { pre:=true,t:=e,val:=l.getD n.toNat (dflt e),dst:=fun z=>TV.gq i.agg (tpw a i' (((fH e z).drop off).take i.size)),aJ:=fun _=>[],new:=[] } else none
   |_=>none
  |some i,.v (.one (.sp a i' e x off))=>bif Nat.blt 0 i.size&&Nat.ble (off+i.size) (size e) then
    some (.pure (TV.gq i.agg (tpw a i' (((fH e x).drop off).take i.size)))) else none
  |_,_=>none
 |.store t x y=>match tt t,f x,f y with
  |some i,.v (.one (.box g off)),.v y=>match o g with
   |.box ws=>bif Nat.ble (off+i.size) ws.length&&Nat.beq y.words.length i.size&&y.solid then
     some { pre:=true,t:=.bool,val:=false,dst:=fun _=>.no,aJ:=fun _=>[(g,.box (aS ws off y.words))],new:=[] } else none
   |_=>none
  |some i,.v (.one (.ep g n off)),.v y=>match o g with
   |.arr false a i' e l=>match qL o (((iW e).drop off).take i.size) y.words with
    |some (ps,a',i'',gs)=>bif Nat.ble (off+i.size) (size e)&&Nat.beq y.words.length i.size&&y.solid&&!fM g gs then
     some { pre:=true,t:=.sl e,val:=List.set l n.toNat (KZ e (Nat.beq i.size (size e)) (l.getD n.toNat (dflt e)) off ps),dst:=fun _=>.no,aJ:=fun z=>gs.map (lK o)++[(g,.arr false (a||a') (i'||i'') e z)],new:=[] } else none
    |none=>none
   |_=>none
  |_,_,_=>none
 |.nilCheck x=>match f x with
  |.v (.one x)=>bif x.live o then some (.pure (.v (.one x))) else none
  |_=>none
 |.binOp op t x y _=>match f x,f y with
  |.v (.one (.p _ _ x)),.v (.one (.p _ _ y))=>match tt t with
   |some i=>match alP i.k op x y with
    |some c=>some (.oM c)
    |none=>none
   |none=>none
  |.v (.agg xs),.v (.agg ys)=>match tt t with
   |some i=>match Gs tt 0 i.k.parts xs ys,afc op with
    |some b,some true=>bif i.eq then some (.oM (true,iU b)) else none
    |some b,some false=>bif i.eq then some (.oM (true,iU (!b))) else none
    |_,_=>none
   |none=>none
  |_,_=>none
 |.unOp op _ x=>match f x with
  |.v (.one (.p _ _ x))=>match unT op x with
   |some c=>some (.oM (true,c))
   |none=>none
  |_=>none
 |.convert s t x=>match tt s,tt t,f x with
  |some { k:=.int _,.. },some { k:=.int k,.. },.v (.one (.p _ _ ⟨.int _,x⟩))=>some (.calc true (.int k) (k.wrap x))
  |some { k:=.slice e,.. },some { k:=.str,.. },.v (.one x)=>match tt e with
   |some { k:=.int .u8,.. }=>match x.rows o (.int .u8) with
    |some (l,_,_)=>some (.calc true .str (strOf l))
    |none=>none
   |_=>none
  |some { k:=.str,.. },some { k:=.slice e,.. },.v (.one (.p _ _ ⟨.str,x⟩))=>match tt e with
   |some { k:=.int .u8,.. }=>some (.calc true (.sl (.int .u8)) (ajs x))
   |_=>none
  |_,_,_=>none
 |.makeSlice t n c=>match tt t,f n,f c with
  |some { k:=.slice e,.. },.v (.one (.p _ _ ⟨.int .i64,n⟩)),.v (.one (.p _ _ ⟨.int .i64,c⟩))=>match tt e,ety e with
   |some ie,some et=>match qL o (iW et) (ie.zero.map ZA) with
    |some (ps,false,false,[])=>bif Nat.blt 0 ie.size&&Nat.beq (size et) ie.size then
     some { pre:=La ie.bytes n c,t:=.sl et,val:=List.replicate (Int.toNat n) (kH et ps),dst:=fun _=>.v (.one (.own d)),aJ:=fun y=>[(d,.arr false false false et y)],new:=[d] } else none
    |_=>none
   |_,_=>none
  |_,_,_=>none
 |.slice t x lo hi none=>match tt t,f x with
  |some { k:=.slice e,.. },.v (.one x)=>match tt e,ety e,Rk o x with
   |some ie,some et,some len=>match ny 0 (lo.map f),ny len (hi.map f) with
    |some lo,some hi=>match x with
     |.own g=>match K_ o g with
      |some (e',l)=>bif Nat.beq (size e') ie.size then
        some { pre:=Gq lo hi l,t:=.bool,val:=false,dst:=fun _=>.v (.one (.vw g lo hi)),aJ:=fun _=>[],new:=[] } else none
      |none=>none
     |.p a i w=>match w.Bh (.sl et) with
      |some l=>bif Nat.beq (size et) ie.size then some { pre:=Gq lo hi (List.length (α:=Dt et) l),t:=.sl et,val:=List.drop lo.toNat (List.take (α:=Dt et) hi.toNat l),dst:=fun z=>.v (.one (.p a i ⟨.sl et,z⟩)),aJ:=fun _=>[],new:=[] } else none
      |none=>none
     |.dF=>some { pre:=decide (lo=0)&&decide (hi=0),t:=.bool,val:=false,dst:=fun _=>.v (.one .dF),aJ:=fun _=>[],new:=[] }
     |_=>none
    |_,_=>none
   |_,_,_=>none
  |some { k:=.str,.. },.v (.one (.p _ _ ⟨.str,y⟩))=>match ny 0 (lo.map f),ny (List.length (α:=UInt8) y) (hi.map f) with
   |some lo,some hi=>some (.calc (Gq lo hi (List.length (α:=UInt8) y)) .str (List.drop lo.toNat (List.take (α:=UInt8) hi.toNat y)))
   |_,_=>none
  |_,_=>none
 |.slice t x none (some hi) (some mx)=>Xi tt o t (f x) (f hi) (f mx)
 |.fieldAddr t x n=>match tt t,placeOf tt t n,f x with
  |some { k:=.struct _,.. },some (off',sz'),.v (.one x)=>bif Nat.blt 0 sz'&&x.live o then some (.pure (.v (.one (x.shift off')))) else none
  |_,_,_=>none
 |.field t x n=>match tt t,f x with
  |some { k:=.struct fs,.. },.v (.agg ws)=>match fs[n]? with
   |some (off,u)=>match tt u with
    |some iu=>bif Nat.ble (off+iu.size) ws.length&&Nat.blt 0 iu.size then some (.pure (TV.gq iu.agg ((ws.drop off).take iu.size))) else none
    |none=>none
   |none=>none
  |_,_=>none
 |.indexAddr t x ix=>match tt t,f x,f ix with
  |some { k:=.slice e,.. },.v (.one x),.v (.one (.p _ _ ⟨.int _,n⟩))=>match tt e,ety e,x with
   |some ie,some et,.own g=>match K_ o g with
    |some (e',l)=>bif Nat.beq (size e') ie.size then
      some { pre:=inB n l,t:=.bool,val:=false,dst:=fun _=>.v (.one (.ep g (Int.toNat n:Nat) 0)),aJ:=fun _=>[],new:=[] } else none
    |none=>none
   |some ie,some et,.vw g lo hi=>match K_ o g with
    |some (e',_)=>bif Nat.beq (size e') ie.size then
      some { pre:=inB n (hi.toNat-lo.toNat),t:=.bool,val:=false,dst:=fun _=>.v (.one (.ep g (lo.toNat+Int.toNat n:Nat) 0)),aJ:=fun _=>[],new:=[] } else none
    |none=>none
   |some ie,some et,.p a i w=>match w.Bh (.sl et) with
    |some l=>bif Nat.beq (size et) ie.size then some { pre:=inB n (List.length (α:=Dt et) l),t:=et,val:=List.getD (α:=Dt et) l (Int.toNat n) (dflt et),dst:=fun z=>.v (.one (.sp a i et z 0)),aJ:=fun _=>[],new:=[] } else none
    |none=>none
   |_,_,_=>none
  |some { k:=.arr m e,.. },.v (.one (.gl g)),.v (.one (.p _ _ ⟨.int _,n⟩))=>match tt e,RE.G g with
   |some ie,some ⟨et,l⟩=>bif Nat.beq (size et) ie.size&&Nat.beq (List.length (α:=Dt et) l) m then some { pre:=inB n m,t:=et,val:=List.getD (α:=Dt et) l (Int.toNat n) (dflt et),dst:=fun z=>.v (.one (.sp false false et z 0)),aJ:=fun _=>[],new:=[] } else none
   |_,_=>none
  |some { k:=.arr m e,.. },.v (.one x),.v (.one (.p _ _ ⟨.int _,n⟩))=>match tt e with
   |some ie=>bif inB n m&&x.live o then some (.pure (.v (.one (x.shift (Int.toNat n*ie.size))))) else none
   |none=>none
  |_,_,_=>none
 |.index t x ix=>match tt t,f x,f ix with
  |some { k:=.str,.. },.v (.one (.p _ _ ⟨.str,s⟩)),.v (.one (.p _ _ ⟨.int _,n⟩))=>
    some (.calc (inB n (List.length (α:=UInt8) s)) (.int .u8) ((List.getD (α:=UInt8) s (Int.toNat n) 0).toNat:Int))
  |_,_,_=>none
 |.range t x=>match tt t,f x with
  |some { k:=.str,.. },.v (.one (.p _ _ ⟨.str,s⟩))=>some { pre:=true,t:=.str,val:=s,dst:=fun _=>.v (.one (.nH d)),aJ:=fun z=>[(d,.it z 0)],new:=[d] }
  |_,_=>none
 |.extract t n=>match f t with
  |.jM xs=>match xs[n]? with
   |some x=>some (.pure (.v x))
   |none=>none
  |_=>none
 |.makeFunc (.func g) first caps=>bif Nat.beq first.size 0 then
   match caps.toList.mapM (fun x=>match f x with | .v (.one w)=>some w | _=>none) with
   |some ws=>some (.pure (.v (.one (.clo g ws))))
   |none=>none
   else none
 |.call { callee:=.builtin .len,args,argTypes }=>match args.toList,argTypes.toList with
  | [x],[t]=>match tt t,f x with
   |some { k:=.slice _,.. },.v (.one x)=>match Rk o x with
    |some n=>some (.calc true (.int .i64) n)
    |none=>none
   |some { k:=.str,.. },.v (.one (.p _ _ ⟨.str,s⟩))=>some (.calc true (.int .i64) (List.length (α:=UInt8) s:Int))
   |_,_=>none
  |_,_=>none
 |.call { callee:=.builtin .append,args,argTypes }=>match args.toList,argTypes.toList with
  | [s,x],sT::xT::_=>match tt xT,f s,f x with
   |some { k:=.slice _,.. },.v (.one s),.v (.one x)=>OA tt ety d o sT s x
   |_,_,_=>none
  |_,_=>none
 |.call { callee:=.builtin .clear,args,argTypes }=>match args.toList,argTypes.toList with
  | [x],t::_=>ab3 tt o t (f x)
  |_,_=>none
 |.call { callee:=.builtin .min,args,.. }=>match args.toList with
  | [x,y]=>match f x,f y with
   |.v (.one (.p _ _ ⟨.int k,x⟩)),.v (.one (.p _ _ ⟨.int _,y⟩))=>some (.calc true (.int k) (ZC x y))
   |_,_=>none
  | [x,y,z]=>match f x,f y,f z with
   |.v (.one (.p _ _ ⟨.int k,x⟩)),.v (.one (.p _ _ ⟨.int _,y⟩)),.v (.one (.p _ _ ⟨.int _,z⟩))=>some (.calc true (.int k) (ZC (ZC x y) z))
   |_,_,_=>none
  |_=>none
 |.call { callee:=.builtin .max,args,.. }=>match args.toList with
  | [x,y]=>match f x,f y with
   |.v (.one (.p _ _ ⟨.int k,x⟩)),.v (.one (.p _ _ ⟨.int _,y⟩))=>some (.calc true (.int k) (D9 x y))
   |_,_=>none
  | [x,y,z]=>match f x,f y,f z with
   |.v (.one (.p _ _ ⟨.int k,x⟩)),.v (.one (.p _ _ ⟨.int _,y⟩)),.v (.one (.p _ _ ⟨.int _,z⟩))=>some (.calc true (.int k) (D9 (D9 x y) z))
   |_,_,_=>none
  |_=>none
 |_=>none
end
end Go.Fg

namespace Go.Fg
open Go.Fw
section
variable [RE] {o:Nat->TO} {tt:TT} {ety:TypeId->Option Ty}
theorem fG (e:Ty) (l:List (Dt e)):(aG e l).length=l.length:=by simp [aG]
theorem rZ (e:Ty) (l:List (Dt e)) (lo hi:Int):((aG e l).take (P.nat (.int .i64 hi))).drop (P.nat (.int .i64 lo))=aG e ((l.take hi.toNat).drop lo.toNat):=by
 simp [aG,P.nat,P.num,V1,WK]
theorem vZ (e:Ty) (l:List (Dt e)) (hi:Int):(aG e l).take (P.nat (.int .i64 hi))=aG e (l.take hi.toNat):=by
 simp [aG,P.nat,P.num,V1]
theorem h_ {g:Nat} {fz a i:Bool} {e:Ty} {l:List (Dt e)} (h:o g=.arr fz a i e l):bV o g=.arr fz a i (size e) (aG e l):=by simp [bV,h,d_]
theorem oN {g:Nat} {ws:List TW} (h:o g=.box ws):bV o g=.box (ws.map bU):=by simp [bV,h,d_]
theorem pF {g n:Nat} {e:Ty} (h:K_ o g=some (e,n)):(bV o g).dim=some (size e,n):=by
 unfold K_ at h;unfold bV;cases ho:o g with
 |arr fz a i e l=>rw [ho] at h;cases h;simp [d_,O.dim,aG]
 |aO a i e aj l hole=>rw [ho] at h;cases h;simp [d_,O.dim,aG]
 |_=>rw [ho] at h;cases h
theorem yt {a b:Ty} (h:tyB a b=true):a=b:=by
 unfold tyB at h;split at h
 .rename_i p _;exact p.down
 .cases h
theorem D_ {c:Nat} :∀{aj:List (Nat×Ty)} {t:Ty},uD c aj=some t->(iQ aj).lookup c=some (size t)
 | [],t,h=>by cases h
 |(k,u)::r,t,h=>by
  simp only [uD] at h;simp only [iQ,Qf,List.lookup];by_cases e:c=k
  .subst e;have:Nat.beq c c=true:=by simp
   rw [this] at h;simp only [cond_true,Q0] at h;subst h;simp
  .have e1:Nat.beq c k=false:=by cases hb:Nat.beq c k with | false=>rfl | true=>exact absurd (Q4 hb) e
   have e2:(c==k)=false:=by simpa using e
   rw [e1] at h;rw [e2];exact D_ h
theorem Jc {c:Nat} :∀{aj:List (Nat×Ty)},uD c aj=none->(iQ aj).lookup c=none
 | [],h=>rfl
 |(k,u)::r,h=>by
  simp only [uD] at h;simp only [iQ,Qf,List.lookup];by_cases e:c=k
  .subst e;have:Nat.beq c c=true:=by simp
   rw [this] at h;cases h
  .have e1:Nat.beq c k=false:=by cases hb:Nat.beq c k with | false=>rfl | true=>exact absurd (Q4 hb) e
   have e2:(c==k)=false:=by simpa using e
   rw [e1] at h;rw [e2];exact Jc h
theorem uF {e e':Ty} {aj:List (Nat×Ty)} {c:Nat} (h:ZB e aj c e'=true):(iQ aj).lookup c=some (size e')/\(iW e)[c]?=some (.sl e')/\c<size e:=by
 simp only [ZB,Q6] at h;obtain ⟨h1,h2⟩:=h;have k1:uD c aj=some e':=by
  split at h1
  .rename_i t ht;rw [ht,yt h1]
  .cases h1
 have k2:(iW e)[c]?=some (.sl e'):=by
  split at h2
  .rename_i t ht;rw [ht,yt h2]
  .cases h2
 exact ⟨D_ k1,k2,by have:=(Q3.1 k2).1;rwa [jB] at this⟩
theorem zN {α β:Type} (f:α->β) (l:List α) (off:Nat) (new:List α):(aS l off new).map f=aS (l.map f) off (new.map f):=by
 simp [aS,V1,WK]
theorem ab4 {e:Ty} {x:Dt e} {off:Nat} {ps:List Wd} (hty:ps.map (·.t)=((iW e).drop off).take ps.length) (hlt:off+ps.length<=size e):jW e (KZ e (Nat.beq ps.length (size e)) x off ps)=aS (jW e x) off (ps.map bZ):=by
 have hty':(aS (fH e x) off ps).map (·.t)=iW e:=by
  have e0:iW e=(iW e).take off++(((iW e).drop off).take ps.length++(iW e).drop (off+ps.length)):=by
   rw [<-List.drop_drop,Jn,Jn]
  simp only [aS,XX,V1,WK,qK,hty,Wf];exact e0.symm
 unfold KZ;cases hc:Nat.beq ps.length (size e) with
 |true=>
  have hc:=Q4 hc;have h0:off=0:=by omega
  subst h0;have e2:aS (fH e x) 0 ps=ps:=by
   simp only [aS,List.take_zero,KV,WD];rw [List.drop_of_length_le (by rw [qw];omega),Kg]
  have e3:aS (jW e x) 0 (ps.map bZ)=ps.map bZ:=by rw [gK,<-zN,e2]
  rw [e2] at hty';rw [e3];exact rY hty'
 |false=>
  simp only;rw [rY hty',zN,<-gK]
theorem FB {e:Ty} {l:List (Dt e)} {n off:Nat} {ps:List Wd} (hty:ps.map (·.t)=((iW e).drop off).take ps.length) (hlt:off+ps.length<=size e) :
  aG e (List.set l n (KZ e (Nat.beq ps.length (size e)) (l.getD n (dflt e)) off ps))=(aG e l).set n (aS ((aG e l).getD n []) off (ps.map bZ)):=by
 have e0 :∀x,aG e (List.set l n x)=(aG e l).set n (jW e x):=fun x=>by simp [aG,List.map_set]
 rw [e0];by_cases hn:n<l.length
 .have e1:(aG e l).getD n []=jW e (l.getD n (dflt e)):=by simp [aG,List.getD_eq_getElem?_getD,hn]
  rw [e1,ab4 hty hlt]
 .have e1 :∀z,(aG e l).set n z=aG e l:=fun z=>List.set_eq_of_length_le (by rw [fG];omega);rw [e1,e1]
theorem Aq {e e':Ty} {l:List (Dt e)} {n c:Nat} {l':List (Dt e')} (hc:(iW e)[c]?=some (.sl e')):aG e (putRow e l n c (uz e' l'))=jf (aG e l) n c (P.fP (size e') (aG e' l')):=by
 have hlt:c<size e:=by have:=(Q3.1 hc).1;rwa [jB] at this
 have:=FB (e:=e) (l:=l) (n:=n) (off:=c) (ps:=[uz e' l']) (by
  show [Ty.sl e']=((iW e).drop c).take 1;have hlt':c<(iW e).length:=by rw [jB];exact hlt
  rw [List.drop_eq_getElem_cons hlt'];rw [Q2 hlt'] at hc;simp only [Q0] at hc;rw [hc];rfl) (by simp only [Zs];omega)
 exact this
theorem oO {g:Nat} {a i:Bool} {e:Ty} {l:List (Dt e)} (h:nU o g=some ⟨a,i,e,l⟩):plainO (bV o) g=some (a,i,size e,aG e l)/\(bV o g).names=lW (o g):=by
 unfold nU at h;cases ho:o g with
 |arr fz a' i' e' l'=>
  rw [ho] at h;cases h;have:=h_ ho;exact ⟨by simp [plainO,this],by rw [this];rfl⟩
 |aO a0 i0 e0 aj l0 hole=>
  rw [ho] at h;have hg:bV o g=.aO a0 i0 (size e0) (iQ aj) (aG e0 l0) hole:=by simp [bV,ho,d_]
  rcases hole with _ | ⟨n,c,d⟩
  .cases h;exact ⟨by simp [plainO,hg],by rw [hg];rfl⟩
  .simp only at h;cases hd:o d with
   |arr fz a' i' e' l'=>
    rw [hd] at h;simp only at h;split at h
    .rename_i hc;cases h;obtain ⟨k1,k2,k3⟩:=uF hc;refine ⟨?_,by rw [hg];rfl⟩;simp only [plainO,hg,h_ hd];rw [if_pos ⟨k1,k3⟩,Aq k2]
    .cases h
   |_=>rw [hd] at h;cases h
 |_=>rw [ho] at h;cases h
theorem oP {e:Ty} {l:List (Dt e)} {t:Ty} {x:Dt t} (h:(uz e l).Bh t=some x) :∃h:Ty.sl e=t,x=h▸l:=by
 have:=gW h;unfold uz at this;cases this;exact ⟨rfl,rfl⟩
theorem OC {t:Ty} {x:TW} {y:Dt t} {a i:Bool} {gs:List Nat} (h:x.toP o t=some (y,a,i,gs)):(bU x).toP (bV o)=some (bZ ⟨t,y⟩,a,i,gs):=by
 cases x with
 |p a' i' w=>
  simp only [TW.toP] at h;split at h
  .rename_i x hx;simp only [Q0,Q1] at h;obtain ⟨rfl,rfl,rfl,rfl⟩:=h;rw [gW hx];rfl
  .cases h
 |dF=>
  simp only [TW.toP] at h;split at h
  .simp only [Q0,Q1] at h;obtain ⟨rfl,rfl,rfl,rfl⟩:=h;rfl
  .cases h
 |own g=>
  simp only [TW.toP] at h;split at h
  .rename_i a' i' e l hg;split at h
   .rename_i z hz;simp only [Q0,Q1] at h;obtain ⟨rfl,rfl,rfl,rfl⟩:=h;rw [<-gW hz];obtain ⟨k1,k2⟩:=oO hg;simp only [bU,W.toP,k1,k2];rfl
   .cases h
  .cases h
 |vw g lo hi=>
  simp only [TW.toP] at h;split at h
  .rename_i a' i' e l hg;split at h
   .rename_i z hz;simp only [Q0,Q1] at h;obtain ⟨rfl,rfl,rfl,rfl⟩:=h;rw [<-gW hz];obtain ⟨k1,k2⟩:=oO hg;simp only [bU,W.toP,k1,k2,rZ];rfl
   .cases h
  .cases h
 |_=>simp [TW.toP] at h
theorem yu :∀{ts:List Ty} {xs:List TW} {ys:List Wd} {a i:Bool} {gs:List Nat},qL o ts xs=some (ys,a,i,gs)->sH (bV o) (xs.map bU)=some (ys.map bZ,a,i,gs)/\ys.map (·.t)=ts
 | [],[],ys,a,i,gs,h=>by
  simp only [qL,Q0,Q1] at h;obtain ⟨rfl,rfl,rfl,rfl⟩:=h;exact ⟨rfl,rfl⟩
 | [],x::xs,ys,a,i,gs,h=>by simp [qL] at h
 |t::ts,[],ys,a,i,gs,h=>by simp [qL] at h
 |t::ts,x::xs,ys,a,i,gs,h=>by
  simp only [qL] at h;split at h
  .rename_i h1 h2;simp only [Q0,Q1] at h;obtain ⟨rfl,rfl,rfl,rfl⟩:=h;obtain ⟨k1,k2⟩:=yu h2;refine ⟨?_,by simp only [Qf,k2]⟩;simp only [Qf,sH,OC h1,k1]
  .cases h
def iL (l:List (Nat×TO)):List (Nat×O):=l.map fun p=>(p.1,d_ p.2)
def Pl (o:Nat->TO) (gs:List Nat):Prop :=∀g∈gs,∃p,nU o g=some p
theorem Pl.append {a b:List Nat} (h:Pl o a) (h':Pl o b):Pl o (a++b):=fun g hg=>by
 rcases Xs.1 hg with x | x
 .exact h g x
 .exact h' g x
theorem Pl.nil:Pl o []:=fun g hg=>by cases hg
theorem Mc {g:Nat} {p:TA} (h:nU o g=some p):Pl o (lW (o g)++[g]):=by
 refine Pl.append (fun d hd => ?_) (fun g' hg'=>by rw [Qt] at hg';subst hg';exact ⟨p,h⟩);unfold nU at h;cases ho:o g with
 |aO a i e aj l hole=>
  rw [ho] at h hd;rcases hole with _ | ⟨n,c,d'⟩
  .cases hd
  .simp only [lW,Qt] at hd;subst hd;simp only at h;cases hod:o d with
   |arr fz a' i' e' l'=>exact ⟨⟨a',i',e',l'⟩,by simp only [nU,hod]⟩
   |_=>rw [hod] at h;cases h
 |_=>rw [ho] at hd;cases hd
theorem Ve {t:Ty} {x:TW} {y:Dt t} {a i:Bool} {gs:List Nat} (h:x.toP o t=some (y,a,i,gs)):Pl o gs:=by
 cases x with
 |p a' i' w=>
  simp only [TW.toP] at h;split at h
  .simp only [Q0,Q1] at h;obtain ⟨_,_,_,rfl⟩:=h;exact Pl.nil
  .cases h
 |dF=>
  simp only [TW.toP] at h;split at h
  .simp only [Q0,Q1] at h;obtain ⟨_,_,_,rfl⟩:=h;exact Pl.nil
  .cases h
 |own g=>
  simp only [TW.toP] at h;split at h
  .rename_i hg;split at h
   .simp only [Q0,Q1] at h;obtain ⟨_,_,_,rfl⟩:=h;exact Mc hg
   .cases h
  .cases h
 |vw g lo hi=>
  simp only [TW.toP] at h;split at h
  .rename_i hg;split at h
   .simp only [Q0,Q1] at h;obtain ⟨_,_,_,rfl⟩:=h;exact Mc hg
   .cases h
  .cases h
 |_=>simp [TW.toP] at h
theorem OD :∀{ts:List Ty} {xs:List TW} {ys:List Wd} {a i:Bool} {gs:List Nat},qL o ts xs=some (ys,a,i,gs)->Pl o gs
 | [],[],ys,a,i,gs,h=>by simp only [qL,Q0,Q1] at h;obtain ⟨_,_,_,rfl⟩:=h;exact Pl.nil
 | [],x::xs,ys,a,i,gs,h=>by simp [qL] at h
 |t::ts,[],ys,a,i,gs,h=>by simp [qL] at h
 |t::ts,x::xs,ys,a,i,gs,h=>by
  simp only [qL] at h;split at h
  .rename_i h1 h2;simp only [Q0,Q1] at h;obtain ⟨_,_,_,rfl⟩:=h;exact (Ve h1).append (OD h2)
  .cases h
theorem Jd {g:Nat} (h :∃p,nU o g=some p):Fw.aU (bV o) g=((lK o g).1,d_ (lK o g).2):=by
 obtain ⟨⟨a,i,e,l⟩,hp⟩:=h;simp only [Fw.aU,lK,hp,(oO hp).1];rfl
theorem pG {gs:List Nat} (h:Pl o gs):gs.map (Fw.aU (bV o))=iL (gs.map (lK o)):=by
 simp only [iL,VV];exact Wa fun g hg=>Jd (h g hg)
theorem uG (x:TV):(jL x).words=x.words.map bU:=by cases x<;>rfl
theorem uH (x:TV) (h:x.solid=true):(jL x).solid=true:=by
 cases x with
 |one x=>cases x<;>first | rfl | (simp [TV.solid,TW.solid] at h)
 |agg xs=>rfl
theorem lq (agg:Bool) (ws:List TW):bn (TV.gq agg ws)=V.gq agg (ws.map bU):=by
 cases agg with
 |true=>rfl
 |false=>
  match ws with
  | []=>rfl
  | [x]=>rfl
  |x::y::ws=>rfl
theorem qj {α β:Type} (f:α->β) (l:List α) (off:Nat) (new:List α):(aS l off new).map f=aS (l.map f) off (new.map f):=by
 simp [aS,V1,WK]
theorem CB {place:Nat->Option (Nat×Nat)} :∀{ps:List (Nat×TS)} {ws r:List TW},Ci place ws ps=some r->lZ place (ws.map bU) (ps.map fun p=>(p.1,bn p.2))=some (r.map bU)
 | [],ws,r,h=>by simp only [Ci,Q0] at h;subst h;rfl
 |(n,.v x)::ps,ws,r,h=>by
  simp only [Ci] at h;split at h
  .rename_i off size hp;cases hb:(Nat.beq x.words.length size&&Nat.ble (off+size) ws.length&&x.solid) with
   |false=>rw [hb] at h;cases h
   |true=>
    rw [hb,cond_true] at h;simp only [Q6] at hb;have h1:=Q4 hb.1.1;have h2:=W3 hb.1.2;have ih:=CB h;rw [qj] at ih;simp only [Qf,bn,lZ,hp,uG,W2];rw [if_pos ⟨h1,h2,uH x hb.2⟩];exact ih
  .cases h
 |(n,.jM xs)::ps,ws,r,h=>by simp [Ci] at h
 |(n,.no)::ps,ws,r,h=>by simp [Ci] at h
theorem afu (sz:Nat) (l:List (List P)):(P.fP sz l).Ux sz:=by cases l<;>simp [P.fP,P.Ux]
theorem Je (e:Ty) (l:List (Dt e)):(bZ ⟨.sl e,l⟩).Ux (size e):=afu _ _
theorem Rl {e:Ty} {x:TW} {l:List (Dt e)} {a i:Bool} (h:x.rows o e=some (l,a,i)) :∃ask,(bU x).rows (bV o) (size e)=some (ask,aG e l,a,i)/\ask:=by
 cases x with
 |p a' i' w=>
  simp only [TW.rows] at h;split at h
  .rename_i y hy;simp only [Q0,Q1] at h;obtain ⟨rfl,rfl,rfl⟩:=h;rw [gW hy];exact ⟨(bZ ⟨.sl e,l⟩).Ux (size e),by simp only [bU,W.rows,jr],Je _ _⟩
  .cases h
 |dF=>
  simp only [TW.rows,Q0,Q1] at h;obtain ⟨rfl,rfl,rfl⟩:=h;exact ⟨_,rfl,trivial⟩
 |own g=>
  simp only [TW.rows] at h;split at h
  .rename_i fz a' i' e' l' hg;split at h
   .rename_i z hz;simp only [Q0,Q1] at h;obtain ⟨rfl,rfl,rfl⟩:=h;obtain ⟨he,hz⟩:=oP hz;cases he;subst hz;exact ⟨True,by simp only [bU,W.rows,h_ hg,if_true],trivial⟩
   .cases h
  .cases h
 |vw g lo hi=>
  simp only [TW.rows] at h;split at h
  .rename_i fz a' i' e' l' hg;split at h
   .rename_i z hz;simp only [Q0,Q1] at h;obtain ⟨rfl,rfl,rfl⟩:=h;obtain ⟨he,hz⟩:=oP hz;cases he;subst hz;exact ⟨True,by simp only [bU,W.rows,h_ hg,if_true,rZ],trivial⟩
   .cases h
  .cases h
 |_=>simp [TW.rows] at h
theorem Vf (sz:Nat) (l:List (List P)):(P.fP sz l).isSlice:=by cases l<;>simp [P.fP,P.isSlice]
theorem aju (sz:Nat) (l:List (List P)):(P.fP sz l).len=.int .i64 l.length:=by cases l<;>rfl
theorem afv (e:Ty) (l:List (Dt e)):(bZ ⟨.sl e,l⟩).len=.int .i64 l.length:=by rw [GK,aju,fG]
theorem Xj {x:TW} {n:Int} (h:Rk o x=some n) :∃ask,lenOf (bV o) (bU x)=some (ask,.int .i64 n)/\ask:=by
 cases x with
 |p a i w=>
  obtain ⟨t,x⟩:=w;cases t<;>simp only [Rk] at h<;>try (cases h;done)
  rename_i e;simp only [Q0] at h;subst h;refine ⟨(bZ ⟨.sl e,x⟩).isSlice,?_,Vf _ _⟩;have e1:(bZ ⟨.sl e,x⟩).len=.int .i64 (List.length (α:=Dt e) x):=afv e x;simp only [bU,lenOf];rw [e1]
 |dF=>simp only [Rk,Q0] at h;subst h;exact ⟨_,rfl,trivial⟩
 |own g=>
  simp only [Rk] at h;split at h
  .rename_i hg;simp only [Q0] at h;subst h;exact ⟨True,by simp only [bU,lenOf,pF hg],trivial⟩
  .cases h
 |vw g lo hi=>
  simp only [Rk] at h;split at h
  .rename_i hg;simp only [Q0] at h;subst h;rename_i x;obtain ⟨e,n⟩:=x;exact ⟨True,by simp only [bU,lenOf,pF hg,P.nat,P.num],trivial⟩
  .cases h
 |_=>simp [Rk] at h
theorem Jf {x:TW} (h:x.live o=true):(bU x).live (bV o)=true:=by
 cases x with
 |box g off=>
  simp only [TW.live] at h;split at h
  .rename_i hg;simp only [bU,W.live,oN hg]
  .cases h
 |ep g n off=>
  simp only [TW.live] at h;split at h
  .rename_i x hg;obtain ⟨e,n⟩:=x;simp only [bU,W.live,pF hg];rfl
  .cases h
 |sp=>rfl
 |_=>simp [TW.live] at h
theorem Me (n:Nat) (x:TW):bU (x.shift n)=(bU x).shift n:=by cases x<;>simp [TW.shift,bU,W.shift]
theorem ab5 (v:Value):bU (ZA v)=cv v:=by
 unfold ZA;split
 .rfl
 .rfl
 .rfl
 .rfl
 .rename_i x h1 h2 h3 h4;show W.p false false (P.opq v)=cv v;unfold cv;split
  .exact (h1 _ _ rfl).elim
  .exact (h2 _ rfl).elim
  .exact (h3 _ rfl).elim
  .exact (h4 rfl).elim
  .rfl
theorem r_ (l:List Value):(l.map ZA).map bU=l.map cv:=by
 rw [VV];exact Wa fun v _=>ab5 v
theorem ZE (v:Value):bn (Va v)=vC v:=by
 unfold Va;split
 .rename_i cs;unfold vC;have e:(cs.toList.map ZA).map bU=cs.toList.map cv:=r_ _;cases h:cs.toList.all Value.oneCell'
  .simp only [h,cond_false,W4,if_false];rfl
  .simp only [h,cond_true,if_true,bn,jL,e]
 .rfl
 .simp only [bn,jL,bU,nT];rfl
 .rename_i x h1 h2 h3;have e:vC v=if v.oneCell'=true then .v (.one (cv v)) else .no:=by
   unfold vC;split
   .exact (h1 _ rfl).elim
   .exact (h2 _ rfl).elim
   .exact (h3 _ rfl).elim
   .rfl
  rw [e];cases h:v.oneCell'
  .simp only [cond_false,W4,if_false];rfl
  .simp only [cond_true,if_true,bn,jL,ab5]
theorem nV (st:jH) (x:Operand):(aT st).dJ x=bn (st.dJ x):=by
 cases x with
 |tmp t=>rfl
 |const v=>exact (ZE v).symm
 |func f=>simp [St.dJ,jH.dJ,bn,jL,bU,nT]
 |global g=>
  simp only [Fw.St.dJ,jH.dJ,ahY];cases RE.G g<;>rfl
end
end Go.Fg

namespace Go.Fg
open Go.Fw
section
variable [RE] {o:Nat->TO} {tt:TT} {ety:TypeId->Option Ty} {d:Nat} {f:Operand->TS} {ty:TypeId}
structure fO (r:rG) (r':DC):Prop where
 pre:r.pre=true->r'.pre
 dst:r'.dst r'.val=bn (r.dst r.val)
 aJ:r'.aJ r'.val=iL (r.aJ r.val)
 new:r'.new=r.new
def gX (tt:TT) (ety:TypeId->Option Ty) (d:Nat) (o:Nat->TO) (f:Operand->TS) (op:Op) (ty:TypeId):Prop:=
 ∀r,dU tt ety d o f op ty=some r->∃r',kernel tt d (bV o) (fun x=>bn (f x)) op ty=some r'/\fO r r'
def alR (r:rG) (r':DC):Prop:=(r.pre=true->fO r r')/\r'.new=r.new
theorem fO.toC {r:rG} {r':DC} (h:fO r r'):alR r r':=⟨fun _=>h,h.new⟩
def ab6 (tt:TT) (ety:TypeId->Option Ty) (d:Nat) (o:Nat->TO) (f:Operand->TS) (op:Op) (ty:TypeId):Prop:=
 ∀r,dU tt ety d o f op ty=some r->∃r',kernel tt d (bV o) (fun x=>bn (f x)) op ty=some r'/\alR r r'
theorem gX.toC {tt:TT} {ety:TypeId->Option Ty} {d:Nat} {o:Nat->TO} {f:Operand->TS} {op:Op} {ty:TypeId} (h:gX tt ety d o f op ty):ab6 tt ety d o f op ty:=fun r hr=>
 let ⟨r',h1,h2⟩:=h r hr
 ⟨r',h1,h2.toC⟩
theorem fO.pure (x:TS):fO (.pure x) (.pure (bn x)):=⟨fun _=>trivial,rfl,rfl,rfl⟩
theorem OE {x:TS} (h:bn x=.no):x=.no:=by cases x<;>first | rfl | cases h
theorem afw (x:Operand):gX tt ety d o f (.move x) ty:=by
 intro r h;simp only [dU] at h;split at h
 .cases h
 .rename_i s hs;simp only [Q0] at h;subst h;refine ⟨.pure (bn (f x)),?_,fO.pure _⟩;simp only [kernel];split
  .rename_i e;exact (hs (OE e)).elim
  .rfl
theorem ZF (x:Operand):gX tt ety d o f (.assign x) ty:=by
 intro r h;simp only [dU] at h;split at h
 .cases h
 .rename_i s hs;simp only [Q0] at h;subst h;refine ⟨.pure (bn (f x)),?_,fO.pure _⟩;simp only [kernel];split
  .rename_i e;exact (hs (OE e)).elim
  .rfl
theorem ab7 {x:TS} {a i:Bool} {y:P} (h:bn x=.v (.one (.p a i y))) :∃w,x=.v (.one (.p a i w))/\bZ w=y:=by
 cases x with
 |v x=>cases x with
  |one x=>cases x<;>simp [bn,jL,bU] at h<;>exact ⟨_,by rw [h.1,h.2.1],h.2.2⟩
  |agg xs=>cases h
 |_=>cases h
theorem afx (c x y:Operand):gX tt ety d o f (.pick c x y) ty:=by
 intro r h;simp only [dU] at h;split at h
 .rename_i a0 i0 b hc;change Bool at b;have hc':bn (f c)=.v (.one (.p a0 i0 (.bool b))):=by rw [hc];rfl
  split at h
  .rename_i a i w a' i' w' hx hy;split at h
   .rename_i z hz;simp only [Q0] at h;subst h;have hx':bn (f x)=.v (.one (.p a i (bZ w))):=by rw [hx];rfl
    have hy':bn (f y)=.v (.one (.p a' i' (bZ w'))):=by rw [hy];rfl
    simp only [kernel,hc',hx',hy'];refine ⟨_,rfl,⟨fun _=>trivial,?_,rfl,rfl⟩⟩;have e:=gW hz;rw [e];cases b<;>rfl
   .cases h
  .rename_i hno;have eb:(bif b then bn (f x) else bn (f y))=bn (bif b then f x else f y):=by cases b<;>rfl
   split at h
   .cases h
   .rename_i s hs;simp only [Q0] at h;subst h;refine ⟨.pure (bn (bif b then f x else f y)),?_,fO.pure _⟩;simp only [kernel,hc'];split
    .rename_i a1 i1 x1 a2 i2 y1 h1 h2;obtain ⟨w1,e1,_⟩:=ab7 h1;obtain ⟨w2,e2,_⟩:=ab7 h2;exact (hno _ _ _ _ _ _ e1 e2).elim
    .rw [eb];split
     .rename_i e;exact (hs (OE e)).elim
     .rfl
 .cases h
theorem bQ {α:Type} {b:Bool} {x:Option α} {y:α} (h:(bif b then x else none)=some y):b=true/\x=some y:=by
 cases b
 .cases h
 .exact ⟨rfl,h⟩
theorem ab8 (t:TypeId):gX tt ety d o f (.alloc t) ty:=by
 intro r h;simp only [dU] at h;split at h
 .rename_i i hi;simp only [Q0] at h;subst h;simp only [kernel,hi];refine ⟨_,rfl,⟨fun _=>trivial,rfl,?_,rfl⟩⟩;simp only [iL,Qf,Vv,d_,r_]
 .cases h
theorem ajv (t:TypeId) (x:Operand):gX tt ety d o f (.box t x) ty:=by
 intro r h;simp only [dU] at h;split at h
 .rename_i i x' hi hx;obtain ⟨hb,h⟩:=bQ h;simp only [Q0] at h;subst h;simp only [Q6] at hb;simp only [kernel,hi,hx,bn,uG,W2];rw [if_pos ⟨Q4 hb.1,uH _ hb.2⟩];exact ⟨_,rfl,⟨fun _=>trivial,rfl,rfl,rfl⟩⟩
 .cases h
theorem Ea (ps:List (Nat×Operand)):(ps.map fun p=>(p.1,bn (f p.2)))=(ps.map fun p=>(p.1,f p.2)).map fun p=>(p.1,bn p.2):=by
 rw [VV];rfl
theorem ab9 (t:TypeId) (ps:Array (Nat×Operand)):gX tt ety d o f (.build t ps) ty:=by
 intro r h;simp only [dU] at h;split at h
 .rename_i i hi;obtain ⟨hb,h⟩:=bQ h;split at h
  .rename_i ws hw;simp only [Q0] at h;subst h;have:=CB hw;rw [r_] at this;simp only [kernel,hi,hb,if_true,Ea,this];exact ⟨_,rfl,fO.pure _⟩
  .cases h
 .cases h
theorem Jg {α β:Type} (g:α->β) (l:List α) :∀n,(Jb l n).map g=fQ (l.map g) n
 |0=>rfl
 |n+1=>by simp [Jb,fQ,Jg g l n]
theorem Ar (e:Ty) :∀(n:Nat) (ws:List Wd),ws.map (·.t)=Jb (iW e) n->aG e (Cm e n ws)=chunks (size e) n (ws.map bZ)
 |0,ws,h=>rfl
 |n+1,ws,h=>by
  have h1:(ws.take (size e)).map (·.t)=iW e:=by
   rw [V1,h,Jb,<-jB,K5]
  have h2:(ws.drop (size e)).map (·.t)=Jb (iW e) n:=by
   rw [WK,h,Jb,<-jB,Uq]
  simp only [Cm,aG,Qf,chunks];rw [rY h1,V1];congr 1;rw [<-WK];exact Ar e n _ h2
theorem lu (a b:List (Nat×TO)):iL (a++b)=iL a++iL b:=by simp [iL]
theorem Lc (t:TypeId) (n:Nat) (ps:Array (Nat×Operand)):gX tt ety d o f (.buildSlice t n ps) ty:=by
 intro r h;simp only [dU] at h;split at h
 .rename_i e i1 i2 i3 ht;split at h
  .rename_i ie et he het;split at h
   .rename_i ws hw;split at h
    .rename_i qs a i gs hp;obtain ⟨hb,h⟩:=bQ h;simp only [Q0] at h;subst h;simp only [Q6] at hb;have hsz:=Q4 hb.2;have:=CB hw;rw [Jg,r_] at this;obtain ⟨k1,k2⟩:=yu hp;simp only [kernel,ht,he,Ea,this,k1];rw [if_pos (W3 hb.1)];refine ⟨_,rfl,⟨fun _=>trivial,rfl,?_,rfl⟩⟩;simp only [lu,<-pG (OD hp)];congr 1;simp only [P.list,iL,Qf,Vv,d_,Ar et n qs k2,hsz]
    .cases h
   .cases h
  .cases h
 .cases h
end
end Go.Fg

namespace Go.Fg
open Go.Fw
section
variable [RE] {o:Nat->TO} {tt:TT} {ety:TypeId->Option Ty} {d:Nat} {f:Operand->TS} {ty:TypeId}
theorem gV {a b:Bool} (h:(a&&b)=true):a=true/\b=true:=by simpa using h
theorem afy (a i:Bool) (ws:List Wd):(tpw a i ws).map bU=ws.map fun w=>W.p a i (bZ w):=by
 simp only [tpw,VV];rfl
theorem yw (e:Ty) (x:Dt e) (a i:Bool) (off n:Nat) (h:off+n<=size e) (df:Nat->P) :
  ((List.range n).map fun j=>W.p a i ((jW e x).getD (off+j) (df j)))=(tpw a i (((fH e x).drop off).take n)).map bU:=by
 rw [afy,gK];apply Ki;intro j;simp only [XN,Z2,W5];by_cases hj:j<n
 .have hlt:off+j<(fH e x).length:=by rw [qw];omega
  rw [Ka hj,if_pos hj];simp [List.getD_eq_getElem?_getD,Q2 hlt]
 .rw [Wt (by simp;omega),if_neg hj];rfl
theorem Jh {n:Nat} (h:Nat.blt 0 n=true):0<n:=W3 h
theorem ab_ {w:Wd} {v:Value} (h:ab2 w v=true):bZ w=Uy [v] 0:=by
 unfold ab2 at h;split at h
 .rename_i k n k' n';change Int at n;simp only [Q6,eqI,decide_eq_true_eq] at h;obtain ⟨h1,h2⟩:=h;cases hk:abZ k k' with
  |none=>rw [hk] at h1;cases h1
  |some p=>have e:=p.down;subst e;subst h2;rfl
 .rename_i b b';change Bool at b;have h:b=b':=LawfulBEq.eq_of_beq h;subst h;rfl
 .rename_i s s';change List UInt8 at s;simp only [Q6,List.isEmpty_iff] at h;obtain ⟨h1,h2⟩:=h;subst h1;obtain ⟨⟨l⟩⟩:=s';simp only at h2;subst h2;rfl
 .rename_i e l;change List (Dt e) at l;have hl:l=[]:=by simpa using h
  subst hl;rfl
 .cases h
theorem Eb :∀{ws:List Wd} {vs:List Value},tK ws vs=true->∀j,(ws.map bZ)[j]?=if j<vs.length then some (Uy vs j) else none
 | [],[],h,j=>by simp
 |w::ws,[],h,j=>by simp [tK] at h
 | [],v::vs,h,j=>by simp [tK] at h
 |w::ws,v::vs,h,j=>by
  obtain ⟨h1,h2⟩:=gV h;cases j with
  |zero=>simp only [Qf,UT,WF,Nat.zero_lt_succ,if_true,ab_ h1];rfl
  |succ j=>
   have:=Eb h2 j;simp only [Qf,Vc,WF,this,Nat.succ_lt_succ_iff];rfl
theorem OG (e:Ty) (l:List (Dt e)) (n off size':Nat) (z:List Value) (h:off+size'<=size e) (hz:tK (((fH e (dflt e)).drop off).take size') z=true) (a i:Bool) :
  ((List.range size').map fun j=>W.p a i (((aG e l).getD n []).getD (off+j) (Uy z j)))=(tpw a i (((fH e (l.getD n (dflt e))).drop off).take size')).map bU:=by
 by_cases hn:n<l.length
 .have e1:(aG e l).getD n []=jW e (l.getD n (dflt e)):=by simp [aG,List.getD_eq_getElem?_getD,hn]
  rw [e1];exact yw e _ a i off size' h _
 .have e1:(aG e l).getD n []=[]:=by simp [aG,List.getD_eq_getElem?_getD,Wt (qn hn)]
  have e2:l.getD n (dflt e)=dflt e:=by simp [List.getD_eq_getElem?_getD,Wt (qn hn)]
  rw [e1,e2,<-yw e _ a i off size' h (Uy z)];refine Wa fun j hj => ?_;have hj:j<size':=Up.1 hj;have:=Eb hz j;rw [V1,WK,Z2,if_pos hj,W5,<-gK] at this;have hlen:off+j<(jW e (dflt e)).length:=by rw [I_];omega
  rw [List.getD_eq_getElem?_getD,List.getD_eq_getElem?_getD,this];split
  .rfl
  .rfl
theorem afz (t:TypeId) (x:Operand):gX tt ety d o f (.load t x) ty:=by
 intro r h;simp only [dU] at h;split at h
 .rename_i i g off ht hx;have hx':bn (f x)=.v (.one (.box g off)):=by rw [hx];rfl
  split at h
  .rename_i ws hg;obtain ⟨hb,h⟩:=bQ h;simp only [Q0] at h;subst h;obtain ⟨h1,h2⟩:=gV hb;simp only [kernel,ht,hx',oN hg,W2];rw [if_pos ⟨W3 h1,Jh h2⟩];refine ⟨_,rfl,?_⟩;have:=fO.pure (TV.gq i.agg ((ws.drop off).take i.size));rw [lq,V1,WK] at this;exact this
  .cases h
 .rename_i i g n off ht hx;have hx':bn (f x)=.v (.one (.ep g (.int .i64 n) off)):=by rw [hx];rfl
  split at h
  .rename_i fz a i' e l hg;obtain ⟨hb,h⟩:=bQ h;simp only [Q0] at h;subst h;obtain ⟨hb,h3⟩:=gV hb;obtain ⟨h1,h2⟩:=gV hb;have h1:=W3 h1;simp only [kernel,ht,hx',h_ hg];rw [if_pos ⟨h1,Jh h2⟩];refine ⟨_,rfl,⟨fun _=>trivial,?_,rfl,rfl⟩⟩;simp only [DC.pure,lq];congr 1;have en:(P.int .i64 n).nat=n.toNat:=rfl;rw [en];exact OG e l n.toNat off i.size i.zero h1 h3 a i'
  .cases h
 .rename_i i a i' e x' off ht hx;have hx':bn (f x)=.v (.one (.sp a i' (jW e x') off)):=by rw [hx];rfl
  obtain ⟨hb,h⟩:=bQ h;simp only [Q0] at h;subst h;obtain ⟨h1,h2⟩:=gV hb;have h2:=W3 h2;simp only [kernel,ht,hx'];rw [if_pos (Jh h1)];refine ⟨_,rfl,⟨fun _=>by rw [I_];exact h2,?_,rfl,rfl⟩⟩;simp only [rG.pure,lq];congr 1;exact yw e x' a i' off i.size h2 fun _=>default
 .cases h
theorem bT (g:Nat) :∀(l:List Nat),fM g l=l.contains g
 | []=>rfl
 |x::xs=>by
  simp only [fM,List.contains_cons,bT g xs];congr 1;rw [vp];simp
theorem afA (e:Ty) (l:List (Dt e)) (n:Nat) (x:Dt e):aG e (l.set n x)=(aG e l).set n (jW e x):=by simp [aG,List.map_set]
theorem acd (t:TypeId) (x y:Operand):gX tt ety d o f (.store t x y) ty:=by
 intro r h;simp only [dU] at h;split at h
 .rename_i i g off y' ht hx hy;have hx':bn (f x)=.v (.one (.box g off)):=by rw [hx];rfl
  have hy':bn (f y)=.v (jL y'):=by rw [hy];rfl
  split at h
  .rename_i ws hg;obtain ⟨hb,h⟩:=bQ h;simp only [Q0] at h;subst h;obtain ⟨hb,h3⟩:=gV hb;obtain ⟨h1,h2⟩:=gV hb;simp only [kernel,ht,hx',hy',oN hg,W2,uG];rw [if_pos ⟨W3 h1,Q4 h2,uH _ h3⟩];refine ⟨_,rfl,⟨fun _=>trivial,rfl,?_,rfl⟩⟩;simp only [iL,Qf,Vv,d_,qj]
  .cases h
 .rename_i i g n off y' ht hx hy;have hx':bn (f x)=.v (.one (.ep g (.int .i64 n) off)):=by rw [hx];rfl
  have hy':bn (f y)=.v (jL y'):=by rw [hy];rfl
  split at h
  .rename_i a i' e l hg;split at h
   .rename_i ps a' i'' gs hp;obtain ⟨hb,h⟩:=bQ h;simp only [Q0] at h;subst h;obtain ⟨hb,h4⟩:=gV hb;obtain ⟨hb,h3⟩:=gV hb;obtain ⟨h1,h2⟩:=gV hb;have h1:=W3 h1;have h2:=Q4 h2;obtain ⟨k1,k2⟩:=yu hp;have hl:ps.length=i.size:=by
     have:=congrArg List.length k2;simp [jB] at this;omega
    simp only [kernel,ht,hx',hy',h_ hg,uG,k1,W2];rw [if_pos ⟨h1,hl,h2,uH _ h3,by simpa [bT] using h4⟩];refine ⟨_,rfl,⟨fun _=>trivial,rfl,?_,rfl⟩⟩;simp only [lu,<-pG (OD hp)];congr 1;simp only [P.list,iL,Qf,Vv,d_,afA];have en:(P.int .i64 n).nat=n.toNat:=rfl;rw [en];by_cases hn:n.toNat<l.length
    .have e1:(aG e l).getD n.toNat []=jW e (l.getD n.toNat (dflt e)):=by simp [aG,List.getD_eq_getElem?_getD,hn]
     have hty:(aS (fH e (l.getD n.toNat (dflt e))) off ps).map (·.t)=iW e:=by
      have e0:iW e=(iW e).take off++(((iW e).drop off).take i.size++(iW e).drop (off+i.size)):=by
       rw [<-List.drop_drop,Jn,Jn]
      simp only [aS,XX,V1,WK,qK,k2,hl,Wf];exact e0.symm
     have key:jW e (KZ e (Nat.beq i.size (size e)) (l.getD n.toNat (dflt e)) off ps)=aS ((aG e l).getD n.toNat []) off (ps.map bZ):=by
      rw [e1];unfold KZ;cases hc:Nat.beq i.size (size e) with
      |true=>
       have hc:=Q4 hc;have h0:off=0:=by omega
       subst h0;have e2:aS (fH e (l.getD n.toNat (dflt e))) 0 ps=ps:=by
        simp only [aS,List.take_zero,KV,WD];rw [List.drop_of_length_le (by rw [qw];omega),Kg]
       have e3:aS (jW e (l.getD n.toNat (dflt e))) 0 (ps.map bZ)=ps.map bZ:=by
        rw [gK,<-qj,e2]
       rw [e2] at hty;rw [e3];exact rY hty
      |false=>
       simp only;rw [rY hty,qj,<-gK]
     rw [key]
    .have e1 :∀z,(aG e l).set n.toNat z=aG e l:=fun z=>List.set_eq_of_length_le (by rw [fG];omega);rw [e1,e1]
   .cases h
  .cases h
 .cases h
theorem Ro (x:Operand):gX tt ety d o f (.nilCheck x) ty:=by
 intro r h;simp only [dU] at h;split at h
 .rename_i x' hx;obtain ⟨hb,h⟩:=bQ h;simp only [Q0] at h;subst h;have hx':bn (f x)=.v (.one (bU x')):=by rw [hx];rfl
  simp only [kernel,hx'];rw [if_pos (Jf hb)];exact ⟨_,rfl,fO.pure _⟩
 .cases h
theorem Vg {op:BinOp} {k k':IntKind} {a b:Int} {c:Bool×Wd} (h:Vb op k k' a b=some c):(c.1=true->P.Qh op (.int k a) (.int k' b))/\P.bin op (.int k a) (.int k' b)=bZ c.2:=by
 unfold Vb at h;cases op<;>simp only at h
 case shl=>simp only [Q0] at h;subst h;exact ⟨fun h=>(by simpa using h:0<=b),rfl⟩
 case shr=>simp only [Q0] at h;subst h;exact ⟨fun h=>(by simpa using h:0<=b),rfl⟩
 all_goals
  split at h
  .cases h
  .rename_i p hp;obtain ⟨e⟩:=p;subst e;simp only [Q0] at h
   first
    |(cases h;done)
    |(
      
      subst h;refine ⟨fun h => ?_,?_⟩
      .first
       |exact rfl
       |(simp at h;exact ⟨rfl,h⟩)
      .first
       |rfl
       |(simp only [P.bin,iU,alS];congr 1))
theorem ZG (a b:List UInt8):(⟨a.toArray⟩++⟨b.toArray⟩:ByteArray)=⟨(a++b).toArray⟩:=by
 apply ByteArray.ext;simp [ByteArray.data_append]
theorem Ec (a:List UInt8):(⟨a.toArray⟩:ByteArray).toList=a:=by rw [ByteArray.toList_eq]
theorem Vh {op:BinOp} {a b:List UInt8} {c:Bool×Wd} (h:Vd op a b=some c):(c.1=true->P.Qh op (.str ⟨a.toArray⟩) (.str ⟨b.toArray⟩))/\P.bin op (.str ⟨a.toArray⟩) (.str ⟨b.toArray⟩)=bZ c.2:=by
 unfold Vd at h;cases op<;>simp only [Q0] at h<;>try (cases h;done)
 all_goals subst h
 case add=>
  refine ⟨fun h => ?_,?_⟩
  .simp only [oL] at h;show a.toArray.size+b.toArray.size<=_;simp only [Kj];omega
  .simp only [P.bin,ZG];rfl
 all_goals exact ⟨fun _=>trivial,by simp only [P.bin,Ec];rfl⟩
theorem Rq {op:BinOp} {a b:Bool} {c:Bool×Wd} (h:Oz op a b=some c):(c.1=true->P.NG op (.bool a) (.bool b))/\P.bin op (.bool a) (.bool b)=bZ c.2:=by
 unfold Oz at h;cases op<;>simp only [Q0] at h<;>try (cases h;done)
 all_goals subst h
 .exact ⟨fun _=>.inl rfl,rfl⟩
 .exact ⟨fun _=>.inr rfl,rfl⟩
theorem fO.oM {c:Bool×Wd} {pre:Prop} {x:P} (h:c.1=true->pre) (hx:x=bZ c.2):fO (.oM c) (.calc pre x):=by
 subst hx;obtain ⟨c1,t,y⟩:=c;exact ⟨h,rfl,rfl,rfl⟩
theorem afB (a b:List UInt8):P.eqB (.str ⟨a.toArray⟩) (.str ⟨b.toArray⟩)=(a==b):=by
 show ((⟨a.toArray⟩:ByteArray)==⟨b.toArray⟩)=_;rw [beq_toListBytes,Ec,Ec]
theorem ace {k:TK} {x y:Wd} {b:Bool} (h:ajt k x y=some b):WM k (bZ x) (bZ y)/\P.eqB (bZ x) (bZ y)=b:=by
 unfold ajt at h;split at h
 .unfold ah0 at h;split at h
  .rename_i p hp;obtain ⟨e⟩:=p;subst e;simp only [Q0] at h;subst h;exact ⟨rfl,rfl⟩
  .cases h
 .rename_i a b';simp only [eqStr,Q0] at h;subst h;exact ⟨trivial,afB a b'⟩
 .simp only [alQ,Q0] at h;subst h;exact ⟨trivial,rfl⟩
 .cases h
theorem Ru {tt:TT} :∀(fs:List (Nat×TypeId)) (n:Nat) (xs ys:List TW) (b:Bool),Gs tt n fs xs ys=some b->∃c,nJ tt n fs (xs.map bU) (ys.map bU)=some c/\c.1/\c.2=b
 | [],n,[],[],b,h=>by
  simp only [Gs,Q0] at h;subst h;exact ⟨(True,true),rfl,trivial,rfl⟩
 |(off,t)::fs,n,x::xs,y::ys,b,h=>by
  cases x with
  |p a1 i1 x=>cases y with
   |p a2 i2 y=>
    simp only [Gs] at h;split at h
    .rename_i i hi;cases hb:(Nat.beq off n&&i.k.flat&&Nat.beq i.size 1) with
     |false=>rw [hb] at h;cases h
     |true=>
      rw [hb] at h;simp only [cond_true] at h;split at h
      .rename_i b1 b2 h1 h2;simp only [Q0] at h;subst h;obtain ⟨c,e1,e2,e3⟩:=Ru fs (n+1) xs ys b2 h2;obtain ⟨q1,q2⟩:=ace h1;simp only [Q6] at hb;have hoff:off=n/\i.k.flat=true/\i.size=1:=⟨Q4 hb.1.1,hb.1.2,Q4 hb.2⟩;refine ⟨(WM i.k (bZ x) (bZ y)/\c.1,P.eqB (bZ x) (bZ y)&&c.2),?_,⟨q1,e2⟩,by rw [q2,e3]⟩;simp only [Qf,bU,nJ,hi];rw [if_pos hoff,e1]
      .cases h
    .cases h
   |_=>simp [Gs] at h
  |_=>simp [Gs] at h
 | [],n,_::_,_,b,h=>by simp [Gs] at h
 | [],n,[],_::_,b,h=>by simp [Gs] at h
 |_::_,n,[],_,b,h=>by simp [Gs] at h
 |_::_,n,x::xs,[],b,h=>by cases x<;>simp [Gs] at h
theorem acf (op:BinOp) (t:TypeId) (x y:Operand) (u:TypeId):gX tt ety d o f (.binOp op t x y u) ty:=by
 intro r h;simp only [dU] at h;split at h
 .rename_i a1 i1 x' a2 i2 y' hx hy;have hx':bn (f x)=.v (.one (.p a1 i1 (bZ x'))):=by rw [hx];rfl
  have hy':bn (f y)=.v (.one (.p a2 i2 (bZ y'))):=by rw [hy];rfl
  split at h
  .rename_i i ht;split at h
   .rename_i c hc;simp only [Q0] at h;subst h;obtain ⟨ik,isz,ib,iz⟩:=i;simp only at hc;unfold alP at hc;split at hc
    .obtain ⟨k1,k2⟩:=Vg hc;simp only [kernel,hx',hy',ht];exact ⟨_,rfl,fO.oM k1 k2⟩
    .obtain ⟨k1,k2⟩:=Vh hc;simp only [kernel,hx',hy',ht];exact ⟨_,rfl,fO.oM k1 k2⟩
    .obtain ⟨k1,k2⟩:=Rq hc;simp only [kernel,hx',hy',ht];exact ⟨_,rfl,fO.oM k1 k2⟩
    .cases hc
   .cases h
  .cases h
 .rename_i xs ys hx hy;have hx':bn (f x)=.v (.agg (xs.map bU)):=by rw [hx];rfl
  have hy':bn (f y)=.v (.agg (ys.map bU)):=by rw [hy];rfl
  split at h
  .rename_i i ht;have key :∀{b q:Bool} {v:Bool},Gs tt 0 i.k.parts xs ys=some b->afc op=some q->i.eq=true->v=(b==q)->∃r',kernel tt d (bV o) (fun a=>bn (f a)) (.binOp op t x y u) ty=some r'/\fO (.oM (true,iU v)) r':=by
    intro b q v h1 h2 h3 h4;obtain ⟨c,e1,e2,e3⟩:=Ru _ _ _ _ _ h1;simp only [kernel,hx',hy',ht,e1,h2];rw [if_pos h3];exact ⟨_,rfl,fO.oM (fun _=>e2) (by rw [e3,h4];rfl)⟩
   split at h
   .rename_i b h1 h2;cases h3:i.eq with
    |false=>rw [h3] at h;cases h
    |true=>
     rw [h3] at h;simp only [cond_true,Q0] at h;subst h;exact key (v:=b) h1 h2 h3 (by cases b<;>rfl)
   .rename_i b h1 h2;cases h3:i.eq with
    |false=>rw [h3] at h;cases h
    |true=>
     rw [h3] at h;simp only [cond_true,Q0] at h;subst h;exact key (v:=!b) h1 h2 h3 (by cases b<;>rfl)
   .cases h
  .cases h
 .cases h
theorem afC (op:UnOp) (t:TypeId) (x:Operand):gX tt ety d o f (.unOp op t x) ty:=by
 intro r h;simp only [dU] at h;split at h
 .rename_i a1 i1 x' hx;have hx':bn (f x)=.v (.one (.p a1 i1 (bZ x'))):=by rw [hx];rfl
  split at h
  .rename_i c hc;simp only [Q0] at h;subst h;simp only [kernel,hx'];unfold unT at hc;split at hc
   .simp only [Q0] at hc;subst hc;exact ⟨_,rfl,fO.oM (fun _=>trivial) rfl⟩
   .simp only [Q0] at hc;subst hc;exact ⟨_,rfl,fO.oM (fun _=>trivial) rfl⟩
   .cases hc
  .cases h
 .cases h
theorem Vj (s t:TypeId) (x:Operand):gX tt ety d o f (.convert s t x) ty:=by
 intro r h;simp only [dU] at h;split at h
 .rename_i k0 s0 b0 z0 k s1 b1 z1 a1 i1 k2 x' hs ht hx;have hx':bn (f x)=.v (.one (.p a1 i1 (.int k2 x'))):=by rw [hx];rfl
  simp only [Q0] at h;subst h;simp only [kernel,hs,ht,hx'];exact ⟨_,rfl,⟨fun _=>trivial,rfl,rfl,rfl⟩⟩
 .rename_i e s0 b0 z0 s1 b1 z1 x' hs ht hx;have hx':bn (f x)=.v (.one (bU x')):=by rw [hx];rfl
  split at h
  .rename_i s2 b2 z2 he;split at h
   .rename_i l a1 i1 hr;simp only [Q0] at h;subst h;obtain ⟨ask,hr',hask⟩:=Rl hr;have hr':(bU x').rows (bV o) 1=some (ask,aG (.int .u8) l,a1,i1):=hr';simp only [kernel,hs,ht,hx',he,hr'];refine ⟨_,rfl,⟨fun _=>⟨hask,fun r hr => ?_⟩,?_,rfl,rfl⟩⟩
    .simp only [aG,QQ] at hr;obtain ⟨n,_,rfl⟩:=hr;exact ⟨n,rfl⟩
    .have e:Hz (aG (.int .u8) l)=bZ ⟨.str,strOf l⟩:=by
      show P.str _=P.str _;congr 2;simp only [aG,VV,strOf];congr 1
     show S.v (V.one (W.p false false (Hz (aG (.int .u8) l))))=_;rw [e];rfl
   .cases h
  .cases h
 .rename_i s0 b0 z0 e s1 b1 z1 a1 i1 x' hs ht hx;change List UInt8 at x';have hx':bn (f x)=.v (.one (.p a1 i1 (.str ⟨x'.toArray⟩))):=by rw [hx];rfl
  split at h
  .rename_i s2 b2 z2 he;simp only [Q0] at h;subst h;simp only [kernel,hs,ht,hx',he];refine ⟨_,rfl,⟨fun _=>trivial,?_,rfl,rfl⟩⟩;have e:NH (.str ⟨x'.toArray⟩)=bZ ⟨.sl (.int .u8),ajs x'⟩:=by
    show P.fP 1 _=P.fP 1 _;have key :∀l:List UInt8,(l.map fun b=>[P.int .u8 (b.toNat:Int)])=aG (.int .u8) (ajs l):=by
     intro l
     induction l with
     |nil=>rfl
     |cons a l ih=>exact congrArg (List.cons _) ih
    exact congrArg (P.fP 1) (key x')
   show S.v (V.one (W.p false false (NH (.str ⟨x'.toArray⟩))))=_;rw [e];rfl
  .cases h
 .cases h
end
end Go.Fg

namespace Go.Fg
open Go.Fw
section
variable [RE] {o:Nat->TO} {tt:TT} {ety:TypeId->Option Ty} {d:Nat} {f:Operand->TS} {ty:TypeId}
theorem yx {k:IntKind} {n:Int} {m:Nat} (h:inB n m=true):inRange (.int k n) m:=by
 simp only [inB,Q6,decide_eq_true_eq] at h;exact h
theorem OH (t:TypeId) (n c:Operand):gX tt ety d o f (.makeSlice t n c) ty:=by
 intro r h;simp only [dU] at h;split at h
 .rename_i e i1 i2 i3 a1 j1 n' a2 j2 c' ht hn hc;change Int at n';change Int at c';have hn':bn (f n)=.v (.one (.p a1 j1 (.int .i64 n'))):=by rw [hn];rfl
  have hc':bn (f c)=.v (.one (.p a2 j2 (.int .i64 c'))):=by rw [hc];rfl
  split at h
  .rename_i ie et he het;split at h
   .rename_i ps hp;obtain ⟨hb,h⟩:=bQ h;simp only [Q0] at h;subst h;obtain ⟨h1,h2⟩:=gV hb;obtain ⟨k1,k2⟩:=yu hp;have hsz:=Q4 h2;rw [r_] at k1;simp only [kernel,ht,hn',hc',he,k1];rw [if_pos (Jh h1)];refine ⟨_,rfl,⟨fun hp => ?_,rfl,?_,rfl⟩⟩
    .simp only [La,Q6,decide_eq_true_eq] at hp;obtain ⟨⟨⟨p1,p2⟩,p3⟩,p4⟩:=hp;refine ⟨n'.toNat,c'.toNat,by rw [K3 p1],by rw [K3 (by omega)],by omega,?_,by omega⟩;have e:((ie.bytes*c'.toNat:Nat):Int)=ie.bytes*c':=by rw [Int.natCast_mul,K3 (by omega)]
     omega
    .simp only [P.list,iL,Qf,Vv,d_,hsz];have en:(P.int .i64 n').nat=n'.toNat:=rfl;rw [en];simp only [aG,List.map_replicate];rw [rY k2]
   .cases h
  .cases h
 .cases h
theorem nX {df:Int} {lo:Option Operand} {m:Int} (h:ny df (lo.map f)=some m):nK (.int .i64 df) (lo.map fun x=>bn (f x))=some (.int .i64 m):=by
 cases lo with
 |none=>simp only [Kf,ny,Q0] at h;subst h;rfl
 |some x=>
  simp only [Z3] at h ⊢;unfold ny at h;split at h
  .rename_i hh;cases hh
  .rename_i hh;simp only [Q0] at hh;cases h;rw [hh];rfl
  .cases h
theorem uI {lo hi:Int} {len:Nat} (h:Gq lo hi len=true) :∃m k:Nat,P.int .i64 lo=.int .i64 m/\P.int .i64 hi=.int .i64 k/\m<=k/\k<=len:=by
 simp only [Gq,Q6,decide_eq_true_eq] at h;exact ⟨lo.toNat,hi.toNat,by rw [K3 (by omega)],by rw [K3 (by omega)],by omega,by omega⟩
theorem Vk (y:List UInt8) (a b:Nat):(⟨y.toArray⟩:ByteArray).extract a b=⟨((y.take b).drop a).toArray⟩:=by
 apply ByteArray.ext;simp [ByteArray.data_extract,List.drop_take]
theorem ZH (t:TypeId) (x hi mx:Operand):gX tt ety d o f (.slice t x none (some hi) (some mx)) ty:=by
 intro r h;simp only [dU] at h;unfold Xi at h;split at h
 .rename_i e i1 i2 i3 g a1 j1 h' a2 j2 m' ht hx hh hm;change Int at h';change Int at m';have hx':bn (f x)=.v (.one (.own g)):=by rw [hx];rfl
  have hh':bn (f hi)=.v (.one (.p a1 j1 (.int .i64 h'))):=by rw [hh];rfl
  have hm':bn (f mx)=.v (.one (.p a2 j2 (.int .i64 m'))):=by rw [hm];rfl
  split at h
  .rename_i ie a i e' l he hg;obtain ⟨hb,h⟩:=bQ h;simp only [Q0] at h;subst h;have hg':bV o g=.arr false a i (size e') (aG e' l):=by unfold bV;rw [hg];rfl
   simp only [kernel,BA,ht,hx',hh',hm',he,hg'];rw [if_pos (Q4 hb)];refine ⟨_,rfl,⟨fun hp => ?_,rfl,rfl,rfl⟩⟩;obtain ⟨k,j,q1,q2,q3,q4⟩:=uI hp;exact ⟨k,j,q1,q2,q3,by rw [fG];exact q4⟩
  .cases h
 .rename_i e i1 i2 i3 a1 j1 h' a2 j2 m' ht hx hh hm;change Int at h';change Int at m';have hx':bn (f x)=.v (.one .dF):=by rw [hx];rfl
  have hh':bn (f hi)=.v (.one (.p a1 j1 (.int .i64 h'))):=by rw [hh];rfl
  have hm':bn (f mx)=.v (.one (.p a2 j2 (.int .i64 m'))):=by rw [hm];rfl
  split at h
  .rename_i ie he;simp only [Q0] at h;subst h;simp only [kernel,BA,ht,hx',hh',hm',he];refine ⟨_,rfl,⟨fun hp => ?_,rfl,rfl,rfl⟩⟩;obtain ⟨k,j,q1,q2,q3,q4⟩:=uI hp;have hj:j=0:=by omega
   have hk:k=0:=by omega
   subst hj;subst hk;exact ⟨q1,q2⟩
  .cases h
 .cases h
theorem acg (args:Array Operand) (ts:Array TypeId):gX tt ety d o f (.call { callee:=.builtin .clear,args:=args,argTypes:=ts }) ty:=by
 intro r h;simp only [dU] at h;split at h
 .rename_i x t tl ha hts;unfold ab3 at h;split at h
  .rename_i e i1 i2 i3 g lo hi ht hx;change Int at lo;change Int at hi;have hx':bn (f x)=.v (.one (.vw g (.int .i64 lo) (.int .i64 hi))):=by rw [hx];rfl
   split at h
   .rename_i ie a i et l he hg;obtain ⟨hb,h⟩:=bQ h;split at h
    .rename_i ps hp;simp only [Q0] at h;subst h;obtain ⟨h1,h2⟩:=gV hb;obtain ⟨k1,k2⟩:=yu hp;have hsz:=Q4 h1;rw [r_] at k1;have hg':bV o g=.arr false a i (size et) (aG et l):=by unfold bV;rw [hg];rfl
     simp only [kernel,ha,hts,NI,ht,hx',he,hg',k1];rw [if_pos ⟨hsz,by rw [hsz];exact Jh h2⟩];refine ⟨_,rfl,⟨fun hp=>W3 hp,rfl,?_,rfl⟩⟩;simp only [P.list,iL,Qf,Vv,d_];have e1:(P.int .i64 lo).nat=lo.toNat:=rfl;have e2:(P.int .i64 hi).nat=hi.toNat:=rfl;rw [e1,e2];simp only [aG,alO,aS,XX,V1,WK,List.map_replicate,J2];rw [rY k2]
    .cases h
   .cases h
  .cases h
 .cases h
theorem ach (t:TypeId) (x:Operand) (lo hi:Option Operand):gX tt ety d o f (.slice t x lo hi none) ty:=by
 intro r h;simp only [dU] at h;split at h
 .rename_i e i1 i2 i3 x' ht hx;have hx':bn (f x)=.v (.one (bU x')):=by rw [hx];rfl
  split at h
  .rename_i ie et len he het hlen;split at h
   .rename_i lo' hi' hlo hhi;obtain ⟨ask,hl,hask⟩:=Xj hlen;have Ia:=nX hlo;have zZ:=nX hhi;have en0:lY 0=P.int .i64 0:=rfl;simp only [kernel,ht,hx',he,hl,en0,Ia,zZ];split at h
    .rename_i g;split at h
     .rename_i e' l hg;obtain ⟨hb,h⟩:=bQ h;simp only [Q0] at h;subst h;simp only [bU,pF hg];rw [if_pos (Q4 hb)];refine ⟨_,rfl,⟨fun hp => ?_,rfl,rfl,rfl⟩⟩;exact uI hp
     .cases h
    .rename_i a i w;split at h
     .rename_i l hl';change List (Dt et) at l;obtain ⟨hb,h⟩:=bQ h;simp only [Q0] at h;subst h;have hsz:=Q4 hb;simp only [bU];refine ⟨_,rfl,⟨fun hp=>⟨hask,?_,?_⟩,?_,rfl,rfl⟩⟩
      .rw [gW hl',<-hsz];exact Je _ _
      .rw [gW hl',jr,fG];exact uI hp
      .rw [gW hl'];show S.v (V.one (W.p a i (P.sub ie.size (P.int .i64 lo').nat (P.int .i64 hi').nat (bZ ⟨.sl et,l⟩))))=S.v (V.one (W.p a i (bZ ⟨.sl et,List.drop lo'.toNat (List.take hi'.toNat l)⟩)));rw [P.sub,jr,rZ,<-hsz];rfl
     .cases h
    .simp only [Q0] at h;subst h;simp only [bU];refine ⟨_,rfl,⟨fun hp => ?_,rfl,rfl,rfl⟩⟩;obtain ⟨h1,h2⟩:=gV hp;have h1:lo'=0:=by simpa using h1
     have h2:hi'=0:=by simpa using h2
     subst h1;subst h2;exact ⟨rfl,rfl⟩
    .cases h
   .cases h
  .cases h
 .rename_i s0 b0 z0 a1 i1 y ht hx;have hx':bn (f x)=.v (.one (.p a1 i1 (.str ⟨y.toArray⟩))):=by rw [hx];rfl
  change List UInt8 at y;split at h
  .rename_i lo' hi' hlo hhi;simp only [Q0] at h;subst h;have Ia:=nX hlo;have zZ:=nX hhi;have en0:lY 0=P.int .i64 0:=rfl;have el:(P.str ⟨y.toArray⟩).len=P.int .i64 (y.length:Nat):=by show P.int .i64 (y.toArray.size:Nat)=_;simp
   simp only [kernel,ht,hx',en0,el,Ia,zZ];refine ⟨_,rfl,⟨fun hp=>⟨trivial,?_⟩,?_,rfl,rfl⟩⟩
   .have:=uI hp;simpa [P.bytes,ByteArray.size] using this
   .show S.v (V.one (W.p false false (P.str ((⟨y.toArray⟩:ByteArray).extract lo'.toNat hi'.toNat))))=S.v (V.one (W.p false false (P.str ⟨(List.drop lo'.toNat (List.take hi'.toNat y)).toArray⟩)));rw [Vk]
  .cases h
 .cases h
theorem OI (t:TypeId) (x:Operand) (n:Nat):gX tt ety d o f (.fieldAddr t x n) ty:=by
 intro r h;simp only [dU] at h;split at h
 .rename_i fs i1 i2 i3 off' sz' x' ht hp hx;have hx':bn (f x)=.v (.one (bU x')):=by rw [hx];rfl
  obtain ⟨hb,h⟩:=bQ h;simp only [Q0] at h;subst h;obtain ⟨h1,h2⟩:=gV hb;simp only [kernel,ht,hp,hx'];rw [if_pos ⟨Jh h1,Jf h2⟩];refine ⟨_,rfl,?_⟩;have:=fO.pure (.v (.one (x'.shift off')));simpa only [bn,jL,Me] using this
 .cases h
theorem aci (t:TypeId) (x:Operand) (n:Nat):gX tt ety d o f (.field t x n) ty:=by
 intro r h;simp only [dU] at h;split at h
 .rename_i fs i1 i2 i3 ws ht hx;have hx':bn (f x)=.v (.agg (ws.map bU)):=by rw [hx];rfl
  split at h
  .rename_i off u hf;split at h
   .rename_i iu hu;obtain ⟨hb,h⟩:=bQ h;simp only [Q0] at h;subst h;obtain ⟨h1,h2⟩:=gV hb;simp only [kernel,ht,hx',hf,hu,W2];rw [if_pos ⟨W3 h1,Jh h2⟩];refine ⟨_,rfl,?_⟩;have:=fO.pure (TV.gq iu.agg ((ws.drop off).take iu.size));rw [lq,V1,WK] at this;exact this
   .cases h
  .cases h
 .cases h
theorem OJ (t:TypeId) (x ix:Operand):ab6 tt ety d o f (.indexAddr t x ix) ty:=by
 intro r h;simp only [dU] at h;split at h
 .rename_i e i1 i2 i3 x' a1 j1 k n ht hx hn;change Int at n;have hx':bn (f x)=.v (.one (bU x')):=by rw [hx];rfl
  have hn':bn (f ix)=.v (.one (.p a1 j1 (.int k n))):=by rw [hn];rfl
  have en:(P.int k n).nat=n.toNat:=rfl;split at h
  .rename_i ie et g he het;split at h
   .rename_i e' l hg;obtain ⟨hb,h⟩:=bQ h;simp only [Q0] at h;subst h;simp only [kernel,ht,hx',hn',he,bU,pF hg];rw [if_pos (Q4 hb)];refine ⟨_,rfl,fO.toC ⟨fun hp => ?_,rfl,rfl,rfl⟩⟩;exact yx (k:=k) hp
   .cases h
  .rename_i ie et g lo hi he het;split at h
   .rename_i e' l hg;obtain ⟨hb,h⟩:=bQ h;simp only [Q0] at h;subst h;simp only [kernel,ht,hx',hn',he,bU,pF hg];rw [if_pos (Q4 hb)];exact ⟨_,rfl,fO.toC ⟨fun hp=>yx (k:=k) hp,rfl,rfl,rfl⟩⟩
   .cases h
  .rename_i ie et a i w he het;split at h
   .rename_i l hl;change List (Dt et) at l;obtain ⟨hb,h⟩:=bQ h;simp only [Q0] at h;subst h;have hsz:=Q4 hb;simp only [kernel,ht,hx',hn',he,bU];refine ⟨_,rfl,⟨fun hp=>⟨fun _=>⟨?_,?_⟩,?_,rfl,rfl⟩,rfl⟩⟩
    .rw [gW hl,<-hsz];exact Je _ _
    .rw [gW hl,jr,fG];exact yx (k:=k) hp
    .have hlt:n.toNat<l.length:=by
      have hp:inB n l.length=true:=hp;simp only [inB,Q6,decide_eq_true_eq] at hp;omega
     rw [gW hl];show S.v (V.one (W.sp a i ((bZ ⟨.sl et,l⟩).list.getD (P.int k n).nat []) 0))=S.v (V.one (W.sp a i (jW et (List.getD l n.toNat (dflt et))) 0));rw [jr,en];simp [aG,List.getD_eq_getElem?_getD,hlt]
   .cases h
  .cases h
 .rename_i m e i1 i2 i3 g a1 j1 k n ht hx hn;change Int at n;have hx':bn (f x)=.v (.one (.gl g)):=by rw [hx];rfl
  have hn':bn (f ix)=.v (.one (.p a1 j1 (.int k n))):=by rw [hn];rfl
  split at h
  .rename_i ie et l he hg;obtain ⟨hb,h⟩:=bQ h;simp only [Q0] at h;subst h;obtain ⟨h1,h2⟩:=gV hb;have h1:=Q4 h1;have h2:=Q4 h2;simp only [kernel,ht,hx',hn',he,ahY,hg,Z3];rw [if_pos ⟨h1,by rw [W2];exact h2⟩];refine ⟨_,rfl,⟨fun hp=>⟨fun _=>yx (k:=k) hp,?_,rfl,rfl⟩,rfl⟩⟩;have hlt:n.toNat<l.length:=by
    have hp:inB n m=true:=hp;simp only [inB,Q6,decide_eq_true_eq] at hp;omega
   show S.v (V.one (W.sp false false ((List.map (jW et) l).getD (P.int k n).nat []) 0))=S.v (V.one (W.sp false false (jW et (List.getD l n.toNat (dflt et))) 0));have en:(P.int k n).nat=n.toNat:=rfl;rw [en];simp [List.getD_eq_getElem?_getD,hlt]
  .cases h
 .rename_i m e i1 i2 i3 x' a1 j1 k n hng ht hx hn;change Int at n;have hx':bn (f x)=.v (.one (bU x')):=by rw [hx];rfl
  have hn':bn (f ix)=.v (.one (.p a1 j1 (.int k n))):=by rw [hn];rfl
  split at h
  .rename_i ie he;obtain ⟨hb,h⟩:=bQ h;simp only [Q0] at h;subst h;obtain ⟨h1,h2⟩:=gV hb;simp only [inB,Q6,decide_eq_true_eq] at h1;have hl:=Jf h2;have key :∃r',kernel tt d (bV o) (fun x=>bn (f x)) (.indexAddr t x ix) ty=some r'/\r'=.pure (.v (.one ((bU x').shift (n.toNat*ie.size)))):=by
    cases x'<;>first
     |(cases h2;done)
     |(
       simp only [bU] at hx' hl ⊢;simp only [kernel,ht,hx',hn',he];rw [if_pos ⟨h1.1,h1.2,hl⟩];exact ⟨_,rfl,rfl⟩)
   obtain ⟨r',e1,rfl⟩:=key;refine ⟨_,e1,fO.toC ?_⟩;have:=fO.pure (.v (.one (x'.shift (n.toNat*ie.size))));simpa only [bn,jL,Me] using this
  .cases h
 .cases h
theorem acj (t:TypeId) (x ix:Operand):gX tt ety d o f (.index t x ix) ty:=by
 intro r h;simp only [dU] at h;split at h
 .rename_i i1 i2 i3 a1 j1 s a2 j2 k n ht hx hn;change List UInt8 at s;change Int at n;have hx':bn (f x)=.v (.one (.p a1 j1 (.str ⟨s.toArray⟩))):=by rw [hx];rfl
  have hn':bn (f ix)=.v (.one (.p a2 j2 (.int k n))):=by rw [hn];rfl
  simp only [Q0] at h;subst h;simp only [kernel,ht,hx',hn'];refine ⟨_,rfl,⟨fun hp=>⟨trivial,?_⟩,?_,rfl,rfl⟩⟩
  .have:(P.str ⟨s.toArray⟩).bytes.size=s.length:=by show s.toArray.size=_;simp
   rw [this];exact yx (k:=k) hp
  .have:(s.toArray.getD n.toNat 0)=s.getD n.toNat 0:=by simp [ZS,List.getD_eq_getElem?_getD]
   simp only [P.ahE,this];rfl
 .cases h
theorem acn (t:TypeId) (x:Operand):gX tt ety d o f (.range t x) ty:=by
 intro r h;simp only [dU] at h;split at h
 .rename_i i1 i2 i3 a1 j1 s ht hx;change List UInt8 at s;have hx':bn (f x)=.v (.one (.p a1 j1 (.str ⟨s.toArray⟩))):=by rw [hx];rfl
  simp only [Q0] at h;subst h;simp only [kernel,ht,hx'];exact ⟨_,rfl,⟨fun _=>trivial,rfl,rfl,rfl⟩⟩
 .cases h
theorem Vl (t:Operand) (n:Nat):gX tt ety d o f (.extract t n) ty:=by
 intro r h;simp only [dU] at h;split at h
 .rename_i xs hx;have hx':bn (f t)=.jM (xs.map jL):=by rw [hx];rfl
  split at h
  .rename_i x hn;simp only [Q0] at h;subst h;simp only [kernel,hx',XN,hn,Z3];exact ⟨_,rfl,fO.pure _⟩
  .cases h
 .cases h
theorem Rw {F:Operand->Option TW} {G:Operand->Option W} (hFG :∀x w,F x=some w->G x=some (bU w)) :∀{xs:List Operand} {ws:List TW},xs.mapM F=some ws->xs.mapM G=some (ws.map bU)
 | [],ws,h=>by simp at h;subst h;rfl
 |x::xs,ws,h=>by
  simp only [vd,Option.bind_eq_bind,Option.bind_eq_some_iff] at h ⊢;obtain ⟨w,hw,ws',hws,h⟩:=h;cases h;exact ⟨bU w,hFG x w hw,ws'.map bU,Rw hFG hws,rfl⟩
theorem Rx (g:FuncId) (first caps:Array Operand):gX tt ety d o f (.makeFunc (.func g) first caps) ty:=by
 intro r h;simp only [dU] at h;obtain ⟨hb,h⟩:=bQ h;split at h
 .rename_i ws hw;simp only [Q0] at h;subst h;simp only [kernel];rw [if_pos (Q4 hb)];have key :∀{G:Operand->Option W},(∀x,G x=match bn (f x) with | .v (.one w)=>some w | _=>none)->caps.toList.mapM G=some (ws.map bU):=by
   intro G hG;refine Rw (fun x w hx => ?_) hw;rw [hG];split at hx
   .rename_i hf;cases hx;rw [hf];rfl
   .cases hx
  split
  .rename_i ws' hw';have e:=hw'.symm.trans (key fun x=>rfl);simp only [Q0] at e;subst e;refine ⟨_,rfl,?_⟩;have:=fO.pure (.v (.one (.clo g ws)));simpa only [bn,jL,bU,zi] using this
  .rename_i hw';exact nomatch hw'.symm.trans (key fun x=>rfl)
 .cases h
theorem ajw (args:Array Operand) (ts:Array TypeId):gX tt ety d o f (.call { callee:=.builtin .len,args:=args,argTypes:=ts }) ty:=by
 intro r h;simp only [dU] at h;split at h
 .rename_i x t ha hts;split at h
  .rename_i e i1 i2 i3 x' ht hx;have hx':bn (f x)=.v (.one (bU x')):=by rw [hx];rfl
   split at h
   .rename_i n hn;simp only [Q0] at h;subst h;obtain ⟨ask,hl,hask⟩:=Xj hn;simp only [kernel,ha,hts,ht,hx',hl];exact ⟨_,rfl,⟨fun _=>hask,rfl,rfl,rfl⟩⟩
   .cases h
  .rename_i i1 i2 i3 a1 j1 s ht hx;change List UInt8 at s;have hx':bn (f x)=.v (.one (.p a1 j1 (.str ⟨s.toArray⟩))):=by rw [hx];rfl
   simp only [Q0] at h;subst h;simp only [kernel,ha,hts,ht,hx'];refine ⟨_,rfl,⟨fun _=>trivial,?_,rfl,rfl⟩⟩;have:(P.str ⟨s.toArray⟩).len=.int .i64 s.length:=by show P.int .i64 (s.toArray.size:Nat)=_;simp
   simp only [this];rfl
  .cases h
 .cases h
theorem ajx (args:Array Operand) (ts:Array TypeId):gX tt ety d o f (.call { callee:=.builtin .min,args:=args,argTypes:=ts }) ty:=by
 intro r h;simp only [dU] at h;split at h
 .rename_i x y ha;split at h
  .rename_i a1 j1 k x' a2 j2 k2 y' hx hy;have hx':bn (f x)=.v (.one (.p a1 j1 (.int k x'))):=by rw [hx];rfl
   have hy':bn (f y)=.v (.one (.p a2 j2 (.int k2 y'))):=by rw [hy];rfl
   simp only [Q0] at h;subst h;simp only [kernel,ha,hx',hy'];exact ⟨_,rfl,⟨fun _=>⟨trivial,trivial⟩,rfl,rfl,rfl⟩⟩
  .cases h
 .rename_i x y z ha;split at h
  .rename_i a1 j1 k x' a2 j2 k2 y' a3 j3 k3 z' hx hy hz;have hx':bn (f x)=.v (.one (.p a1 j1 (.int k x'))):=by rw [hx];rfl
   have hy':bn (f y)=.v (.one (.p a2 j2 (.int k2 y'))):=by rw [hy];rfl
   have hz':bn (f z)=.v (.one (.p a3 j3 (.int k3 z'))):=by rw [hz];rfl
   simp only [Q0] at h;subst h;simp only [kernel,ha,hx',hy',hz'];exact ⟨_,rfl,⟨fun _=>⟨trivial,trivial,trivial⟩,rfl,rfl,rfl⟩⟩
  .cases h
 .cases h
theorem ajy (args:Array Operand) (ts:Array TypeId):gX tt ety d o f (.call { callee:=.builtin .max,args:=args,argTypes:=ts }) ty:=by
 intro r h;simp only [dU] at h;split at h
 .rename_i x y ha;split at h
  .rename_i a1 j1 k x' a2 j2 k2 y' hx hy;have hx':bn (f x)=.v (.one (.p a1 j1 (.int k x'))):=by rw [hx];rfl
   have hy':bn (f y)=.v (.one (.p a2 j2 (.int k2 y'))):=by rw [hy];rfl
   simp only [Q0] at h;subst h;simp only [kernel,ha,hx',hy'];exact ⟨_,rfl,⟨fun _=>⟨trivial,trivial⟩,rfl,rfl,rfl⟩⟩
  .cases h
 .rename_i x y z ha;split at h
  .rename_i a1 j1 k x' a2 j2 k2 y' a3 j3 k3 z' hx hy hz;have hx':bn (f x)=.v (.one (.p a1 j1 (.int k x'))):=by rw [hx];rfl
   have hy':bn (f y)=.v (.one (.p a2 j2 (.int k2 y'))):=by rw [hy];rfl
   have hz':bn (f z)=.v (.one (.p a3 j3 (.int k3 z'))):=by rw [hz];rfl
   simp only [Q0] at h;subst h;simp only [kernel,ha,hx',hy',hz'];exact ⟨_,rfl,⟨fun _=>⟨trivial,trivial,trivial⟩,rfl,rfl,rfl⟩⟩
  .cases h
 .cases h
theorem yA (e:Ty) (a b:List (Dt e)):aG e (a++b)=aG e a++aG e b:=by simp [aG]
theorem Vm {sT:TypeId} {s x:TW} {r:rG} (h:OA tt ety d o sT s x=some r) :∃r',vF tt d (bV o) sT (bU s) (bU x)=some r'/\fO r r':=by
 simp only [OA] at h;split at h
 .rename_i e i1 i2 i3 ht;split at h
  .rename_i ie et he het;cases hb:(Nat.beq ie.bytes 0||!Nat.beq (size et) ie.size) with
   |true=>rw [hb] at h;cases h
   |false=>
    rw [hb,cond_false] at h;simp only [Vn,K6] at hb;have hsz:=Q4 hb.2;have hb0:¬ ie.bytes=0:=fun e=>by rw [e] at hb;cases hb.1
    split at h
    .cases h
    .rename_i new a' i' hrow;obtain ⟨ask,hr,hask⟩:=Rl hrow;rw [hsz] at hr;simp only [vF,ht,he,if_neg hb0,hr];have key :∀(pre:Bool) (pre':Prop) (old:List (Dt et)) (a i:Bool) (kill:List (Nat×TO)),(pre=true->pre')->
       fO { pre:=pre&&decide ((old.length+new.length)*ie.bytes<=140737488355328),t:=.sl et,val:=List.append old new,dst:=fun _=>.v (.one (.own d)),aJ:=fun y=>kill++[(d,.arr false (a||a') (i||i') et y)],new:=[d] }
        (.mk (ask/\pre'/\((aG et old).length+(aG et new).length)*ie.bytes<=140737488355328) (.sl ie.size (aG et old++aG et new)) (fun _=>.v (.one (.own d)))
         (fun y=>iL kill++[(d,.arr false (a||a') (i||i') ie.size y.list)]) [d]):=by
      intro pre pre' old a i kill hpre;refine ⟨fun hp => ?_,rfl,?_,rfl⟩
      .obtain ⟨h1,h2⟩:=gV hp;refine ⟨hask,hpre h1,?_⟩;rw [fG,fG];simpa using h2
      .simp only [lu];congr 1;simp only [P.list,iL,Qf,Vv,d_,hsz];rw [<-yA];rfl
     split at h
     .simp only [Q0] at h;subst h;exact ⟨_,rfl,key true True [] false false [] fun _=>trivial⟩
     .rename_i g;split at h
      .rename_i a i e' l hg;split at h
       .rename_i l' hl;cases hgd:Nat.beq g d with
        |true=>rw [hgd] at h;cases h
        |false=>
         rw [hgd,cond_false] at h;simp only [Q0] at h;subst h;obtain ⟨ee,hl⟩:=oP hl;cases ee;subst hl;simp only [bU,h_ hg];rw [if_pos ⟨hsz,fun e=>by subst e;simp at hgd⟩];exact ⟨_,rfl,key true True _ a i [(g,.none)] fun _=>trivial⟩
       .cases h
      .cases h
     .rename_i g lo hi;split at h
      .rename_i a i e' l hg;split at h
       .rename_i l' hl;cases hgd:Nat.beq g d with
        |true=>rw [hgd] at h;cases h
        |false=>
         rw [hgd,cond_false] at h;simp only [Q0] at h;subst h;obtain ⟨ee,hl⟩:=oP hl;cases ee;subst hl;simp only [bU,h_ hg,vZ];rw [if_pos ⟨hsz,fun e=>by subst e;simp at hgd⟩];refine ⟨_,rfl,key (decide (lo=0)) (P.int .i64 lo=lY 0) (l.take hi.toNat) a i [(g,.none)] fun h => ?_⟩;have h:lo=0:=by simpa using h
         subst h;rfl
       .cases h
      .cases h
     .cases h
  .cases h
 .cases h
theorem ZI (args:Array Operand) (ts:Array TypeId):gX tt ety d o f (.call { callee:=.builtin .append,args:=args,argTypes:=ts }) ty:=by
 intro r h;simp only [dU] at h;split at h
 .rename_i s x sT xT rest ha hts;split at h
  .rename_i e i1 i2 i3 s' x' ht hs hx;have hs':bn (f s)=.v (.one (bU s')):=by rw [hs];rfl
   have hx':bn (f x)=.v (.one (bU x')):=by rw [hx];rfl
   simp only [kernel,ha,hts,ht,hs',hx'];exact Vm h
  .cases h
 .cases h
theorem Vo (op:Op):ab6 tt ety d o f op ty:=by
 cases op
 case move x=>exact gX.toC (afw x)
 case assign x=>exact gX.toC (ZF x)
 case pick c x y=>exact gX.toC (afx c x y)
 case alloc t=>exact gX.toC (ab8 t)
 case box t x=>exact gX.toC (ajv t x)
 case build t ps=>exact gX.toC (ab9 t ps)
 case buildSlice t n ps=>exact gX.toC (Lc t n ps)
 case load t x=>exact gX.toC (afz t x)
 case store t x y=>exact gX.toC (acd t x y)
 case nilCheck x=>exact gX.toC (Ro x)
 case binOp op t x y u=>exact gX.toC (acf op t x y u)
 case unOp op t x=>exact gX.toC (afC op t x)
 case convert s t x=>exact gX.toC (Vj s t x)
 case makeSlice t n c=>exact gX.toC (OH t n c)
 case slice t x lo hi mx=>
  cases mx with
  |none=>exact gX.toC (ach t x lo hi)
  |some m=>cases lo with
   |some l=>intro r h;simp [dU] at h
   |none=>cases hi with
    |none=>intro r h;simp [dU] at h
    |some hi=>exact gX.toC (ZH t x hi m)
 case fieldAddr t x n=>exact gX.toC (OI t x n)
 case field t x n=>exact gX.toC (aci t x n)
 case indexAddr t x ix=>exact OJ t x ix
 case index t x ix=>exact gX.toC (acj t x ix)
 case range t x=>exact gX.toC (acn t x)
 case extract t n=>exact gX.toC (Vl t n)
 case makeFunc fn first caps=>
  cases fn
  case func g=>exact gX.toC (Rx g first caps)
  all_goals (intro r h;simp [dU] at h)
 case call c=>
  obtain ⟨callee,args,ts⟩:=c;cases callee
  case builtin b=>
   cases b
   case len=>exact gX.toC (ajw args ts)
   case append=>exact gX.toC (ZI args ts)
   case clear=>exact gX.toC (acg args ts)
   case min=>exact gX.toC (ajx args ts)
   case max=>exact gX.toC (ajy args ts)
   all_goals (intro r h;simp [dU] at h)
  all_goals (intro r h;simp [dU] at h)
 all_goals (intro r h;simp [dU] at h)
end
end Go.Fg

namespace Go.Fg
open Go.Fw
section
variable [RE]
def wdF:Wd:=⟨.bool,false⟩
def placesOf:Ty->List Nat
 |.prod (.st c) r=>c::placesOf r
 |_=>[]
def Vp (et:Ty):List Nat->List (Nat×Ty)
 | []=>[]
 |c::cs=>match (iW et)[c]? with
  |some (.sl t)=>(c,t)::Vp et cs
  |_=>Vp et cs
def aco (ety:TypeId->Option Ty) (e:TypeId) (et:Ty):List (Nat×Ty):=match ety (1000000+e) with
 |some t=>Vp et (placesOf t)
 |none=>[]
def zl (aj:List (Nat×Ty)) (off n:Nat):List (Nat×Ty):=match aj with
 | []=>[]
 |(c,t)::r=>match Nat.ble off c&&Nat.blt c (off+n) with
  |true=>(c,t)::zl r off n
  |false=>zl r off n
def yB (o:Nat->TO) (g:Nat):Option TH:=match o g with
 |.aO a i e aj l hole=>match hole with
  |none=>some ⟨a,i,e,aj,l⟩
  |some (n,c,d)=>match o d with
   |.arr false a' i' e' l'=>match ZB e aj c e' with
    |true=>some ⟨a||a',i||i',e,aj,putRow e l n c (uz e' l')⟩
    |false=>none
   |_=>none
 |_=>none
def alT:TO->Bool
 |.arr fz _ _ _ _=>!fz
 |_=>false
def lC:List Nat->List (Nat×TO)
 | []=>[]
 |g::gs=>(g,.none)::lC gs
def cellT (e:Ty) (x:Dt e) (c:Nat) (e':Ty):List (Dt e'):=((fH e x).getD c wdF).as (.sl e')
def OL (o:Nat->TO) (col:Nat->Option Ty):Nat->List Ty->List TW->Option (List Wd×Bool×Bool×List Nat×List (Nat×Nat))
 |_,[],[]=>some ([],false,false,[],[])
 |j,t::ts,x::xs=>match OL o col (j+1) ts xs with
  |none=>none
  |some (ys,a',i',gs',es)=>match col j with
   |none=>match x.toP o t with
    |some (y,a,i,gs)=>some (⟨t,y⟩::ys,a||a',i||i',gs++gs',es)
    |none=>none
   |some s=>match tyB t (.sl s) with
    |true=>match x with
     |.dF=>some (uz s []::ys,a',i',gs',es)
     |.own e=>match o e with
      |.arr false a i s' l=>match (uz s' l).Bh (.sl s) with
       |some l=>some (uz s l::ys,a||a',i||i',gs',(j,e)::es)
       |none=>none
      |_=>none
     |_=>none
    |false=>none
 |_,_,_=>none
def FC:List (Nat×Ty)->List (Nat×Ty)->Bool
 | [],[]=>true
 |(c,t)::r,(c',t')::r'=>Nat.beq c c'&&tyB t t'&&FC r r'
 |_,_=>false
def Ry (o:Nat->TO) (et:Ty) (aj:List (Nat×Ty)):TW->Option (Bool×Bool×Bool×List (Dt et)×List Nat)
 |.dF=>some (true,false,false,[],[])
 |.own g=>match yB o g with
  |some ⟨a,i,e,kG,l⟩=>match (uz e l).Bh (.sl et),FC kG aj with
   |some l,true=>some (true,a,i,l,g::lW (o g))
   |_,_=>none
  |none=>none
 |.vw g lo hi=>match yB o g with
  |some ⟨a,i,e,kG,l⟩=>match (uz e (l.take hi.toNat)).Bh (.sl et),FC kG aj with
   |some l,true=>some (decide (lo=0),a,i,l,g::lW (o g))
   |_,_=>none
  |none=>none
 |_=>none
def wo:Ty:=.st RE.hd
def ZJ (n:Nat):List (Dt wo):=List.replicate n (dflt wo)
def OM (tt:TT) (o:Nat->TO) (f:Operand->TS) (t:TypeId) (x:Operand):Option rG:=match tt t,f x with
 |some i,.v (.one (.ep g n off))=>match yB o g with
  |some ⟨a,i',e,aj,l⟩=>match uD off aj with
   |some e'=>bif ZB e aj off e'&&(Nat.beq i.size 1&&!i.agg)&&tK (((fH e (dflt e)).drop off).take i.size) i.zero then
     some { pre:=true,t:=.sl wo,val:=ZJ (List.length (α:=Dt e') (cellT e (l.getD n.toNat (dflt e)) off e')),dst:=fun z=>.v (.one (.p false false ⟨.sl wo,z⟩)),aJ:=fun _=>[],new:=[] } else none
   |none=>none
  |none=>none
 |_,_=>none
def jC (tt:TT) (ety:TypeId->Option Ty) (d:Nat) (o:Nat->TO) (f:Operand->TS) (op:Op) (ty:TypeId):Option rG:=
 match op with
 |.load t x=>match ety (3000000+d) with
  |some _=>OM tt o f t x
  |none=>match tt t,f x with
  |some i,.v (.one (.ep g n off))=>match o g with
   |.aO a0 i0 e0 kQ l0 _=>bif Nat.ble (off+i.size) (size e0)&&Nat.blt 0 i.size&&tK (((fH e0 (dflt e0)).drop off).take i.size) i.zero then
     match zl kQ off i.size with
     | []=>some { pre:=true,t:=e0,val:=l0.getD n.toNat (dflt e0),dst:=fun z=>TV.gq i.agg (tpw a0 i0 (((fH e0 z).drop off).take i.size)),aJ:=fun _=>[],new:=[] }
     | [(c,e')]=>match yB o g with
      |some ⟨a,i',e,aj,l⟩=>match ZB e aj c e'&&Nat.ble (off+i.size) (size e)&&tK (((fH e (dflt e)).drop off).take i.size) i.zero with
       |true=>some { pre:=true,t:=.sl e,val:=l,dst:=fun (y:List (Dt e))=>TV.gq i.agg ((tpw a i' (((fH e (y.getD n.toNat (dflt e))).drop off).take i.size)).set (c-off) (.own d)),aJ:=fun (y:List (Dt e))=>(g,.aO a i' e aj y (some (n.toNat,c,d)))::(d,.arr false a i' e' (cellT e (y.getD n.toNat (dflt e)) c e'))::lC (lW (o g)),new:=[d] }
       |false=>none
      |none=>none
     |_=>none
     else none
   |_=>none
  |_,_=>none
 |.store t x y=>match tt t,f x,f y with
  |some i,.v (.one (.ep g n off)),.v y=>match o g with
   |.aO a0 i0 e0 aj l0 hole=>match OL o (fun j=>uD j aj) off (((iW e0).drop off).take i.size) y.words with
    |some (ps,a',i',gs,es)=>bif Nat.ble (off+i.size) (size e0)&&Nat.beq y.words.length i.size&&y.solid&&!fM g gs&&sQ (es.map (·.2))&&DT (es.map (·.2)) gs then
      let res (pre:Bool) (a i1:Bool) (e:Ty) (l:List (Dt e)) (jd:Option (Nat×Nat×Nat)) (ks:List Nat):rG:=
       { pre,t:=.sl e,val:=List.set l n.toNat (KZ e (Nat.beq i.size (size e)) (l.getD n.toNat (dflt e)) off ps),dst:=fun _=>.no,aJ:=fun z=>(g,.aO (a||a') (i1||i') e aj z jd)::lC (es.map (·.2))++lC ks++gs.map (lK o),new:=[] }
      match zl aj off i.size with
      | []=>some (res true a0 i0 e0 l0 hole [])
      |_::_=>match hole with
       |none=>some (res true a0 i0 e0 l0 none [])
       |some (n0,c0,d0)=>match yB o g with
        |some ⟨a,i1,e,kG,l⟩=>match !fM d0 (es.map (·.2))&&!fM d0 gs with
         |true=>match tyB e e0 with
          |true=>some (res true a i1 e l none [d0])
          |false=>none
         |false=>bif Nat.ble off c0&&Nat.blt c0 (off+i.size) then some (res (Nat.beq n0 n.toNat) a0 i0 e0 l0 none []) else none
        |none=>match alT (o d0) with
         |true=>none
         |false=>bif Nat.ble off c0&&Nat.blt c0 (off+i.size) then some (res (Nat.beq n0 n.toNat) a0 i0 e0 l0 none []) else none
      else none
    |none=>none
   |_=>none
  |_,_,_=>none
 |.buildSlice t n parts=>match tt t with
  |some { k:=.slice e,.. }=>match tt e,ety e with
   |some ie,some et=>match aco ety e et with
    | []=>none
    |zJ::DW=>match Ci (fun m=>if m<n then some (m*ie.size,ie.size) else none) (Jb (ie.zero.map ZA) n) (parts.toList.map fun p=>(p.1,f p.2)) with
     |some ws=>match OL o (fun j=>uD (j % ie.size) (zJ::DW)) 0 (Jb (iW et) n) ws with
      |some (ps,a,i,gs,es)=>bif Nat.ble (n+n*ie.size) 16777216&&Nat.beq (size et) ie.size&&sQ (es.map (·.2))&&DT (es.map (·.2)) gs then
        some { pre:=true,t:=.sl et,val:=Cm et n ps,dst:=fun _=>.v (.one (.own d)),aJ:=fun y=>(d,.aO a i et (zJ::DW) y none)::lC (es.map (·.2))++gs.map (lK o),new:=[d] } else none
      |none=>none
     |none=>none
   |_,_=>none
  |_=>none
 |.makeSlice t n c=>match tt t,f n,f c with
  |some { k:=.slice e,.. },.v (.one (.p _ _ ⟨.int .i64,n⟩)),.v (.one (.p _ _ ⟨.int .i64,c⟩))=>match tt e,ety e with
   |some ie,some et=>match aco ety e et with
    | []=>none
    |zJ::DW=>match OL o (fun j=>uD j (zJ::DW)) 0 (iW et) (ie.zero.map ZA) with
     |some (ps,false,false,[],[])=>bif Nat.blt 0 ie.size&&Nat.beq (size et) ie.size then
      some { pre:=La ie.bytes n c,t:=.sl et,val:=List.replicate (Int.toNat n) (kH et ps),dst:=fun _=>.v (.one (.own d)),aJ:=fun y=>[(d,.aO false false et (zJ::DW) y none)],new:=[d] } else none
     |_=>none
   |_,_=>none
  |_,_,_=>none
 |.call { callee:=.builtin .append,args,argTypes }=>match args.toList,argTypes.toList with
  | [s,x],sT::xT::_=>match tt sT,tt xT,f s,f x with
   |some { k:=.slice e,.. },some { k:=.slice _,.. },.v (.one s),.v (.one (.own g2))=>match tt e,yB o g2 with
    |some ie,some ⟨a2,i2,et,aj,new⟩=>match Ry o et aj s with
     |some (pre,a,i,old,ks)=>bif !Nat.beq ie.bytes 0&&Nat.beq (size et) ie.size&&sQ (ks++g2::lW (o g2)) then
       some { pre:=pre&&decide ((old.length+new.length)*ie.bytes<=140737488355328),t:=.sl et,val:=List.append old new,dst:=fun _=>.v (.one (.own d)),aJ:=fun y=>(d,.aO (a||a2) (i||i2) et aj y none)::lC (ks++g2::lW (o g2)),new:=[d] } else none
     |none=>none
    |_,_=>none
   |_,_,_,_=>none
  |_,_=>none
 |.slice t x none hi none=>match ety 2000000 with
  |none=>none
  |some _=>match tt t,f x with
   |some { k:=.slice e,.. },.v (.one (.own g))=>match tt e,o g with
    |some ie,.arr false a i et l=>bif Nat.beq (size et) ie.size then match ny (List.length (α:=Dt et) l) (hi.map f) with
     |some hi=>some { pre:=decide (0<=hi)&&decide (hi<=(List.length (α:=Dt et) l:Int)),t:=.sl et,val:=List.take (α:=Dt et) hi.toNat l,dst:=fun _=>.v (.one (.own d)),aJ:=fun y=>[(d,.arr false a i et y),(g,.none)],new:=[d] }
     |none=>none
     else none
    |_,_=>none
   |_,_=>none
 |_=>none
section
variable {o:Nat->TO} {tt:TT} {ety:TypeId->Option Ty} {d:Nat} {f:Operand->TS} {ty:TypeId}
theorem qM (off n:Nat) :∀(aj:List (Nat×Ty)),nO (iQ aj) off n=iQ (zl aj off n)
 | []=>rfl
 |(c,t)::r=>by
  have ih:=qM off n r;simp only [nO,iQ,Qf,vl,zl] at ih ⊢;cases hb:(Nat.ble off c&&Nat.blt c (off+n)) with
  |true=>simp only [if_true,Qf,ih]
  |false=>simp only [W4,if_false,ih]
theorem Ed (c:Nat) (aj:List (Nat×Ty)):(iQ aj).lookup c=(uD c aj).map size:=by
 cases h:uD c aj with
 |none=>exact Jc h
 |some t=>exact D_ h
theorem qx (g:Nat) (x:TO) (r:List (Nat×TO)):iL ((g,x)::r)=(g,d_ x)::iL r:=rfl
theorem qy :∀(gs:List Nat),iL (lC gs)=kills gs
 | []=>rfl
 |g::gs=>by
  show (g,O.none)::iL (lC gs)=(g,O.none)::kills gs;rw [qy gs]
theorem qA {g:Nat} {a i:Bool} {e:Ty} {aj:List (Nat×Ty)} {l:List (Dt e)} (h:yB o g=some ⟨a,i,e,aj,l⟩):jI (bV o) g=some (a,i,size e,iQ aj,aG e l)/\(bV o g).hn=lW (o g):=by
 unfold yB at h;cases ho:o g with
 |aO a0 i0 e0 kQ l0 hole=>
  rw [ho] at h;have hg:bV o g=.aO a0 i0 (size e0) (iQ kQ) (aG e0 l0) hole:=by simp [bV,ho,d_]
  rcases hole with _ | ⟨n,c,d⟩
  .cases h;exact ⟨by simp [jI,hg],by rw [hg];rfl⟩
  .simp only at h;cases hd:o d with
   |arr fz a' i' e' l'=>
    rw [hd] at h;cases fz with
    |true=>cases h
    |false=>
     simp only at h;split at h
     .rename_i hc;cases h;obtain ⟨k1,k2,k3⟩:=uF hc;refine ⟨?_,by rw [hg];rfl⟩;simp only [jI,hg,h_ hd];rw [if_pos ⟨k1,k3⟩,Aq k2]
     .cases h
   |_=>rw [hd] at h;cases h
 |_=>rw [ho] at h;cases h
theorem Vq {g n c d0:Nat} {a0 i0:Bool} {e0:Ty} {aj:List (Nat×Ty)} {l0:List (Dt e0)} (hog:o g=.aO a0 i0 e0 aj l0 (some (n,c,d0))) (h:alT (o d0)=false):jI (bV o) g=none:=by
 have hg:bV o g=.aO a0 i0 (size e0) (iQ aj) (aG e0 l0) (some (n,c,d0)):=by simp [bV,hog,d_]
 simp only [jI,hg];cases hd:o d0 with
 |arr fz a i e l=>
  rw [hd] at h;cases fz with
  |true=>simp [bV,hd,d_]
  |false=>cases h
 |_=>simp [bV,hd,d_]
theorem Rz {e e':Ty} {x:Dt e} {c:Nat} (hc:(iW e)[c]?=some (.sl e')):(jW e x)[c]?=some (bZ ⟨.sl e',cellT e x c e'⟩):=by
 rw [gK,XN];have hlt:c<(fH e x).length:=by rw [qw,<-jB];exact (Q3.1 hc).1
 rw [Q2 hlt,Z3];have ht:((fH e x)[c]).t=.sl e':=by
  have:=qK e x;have h2:=congrArg (fun l=>l[c]?) this;simp only [XN,Q2 hlt,Z3,hc,Q0] at h2;exact h2
 have hg:(fH e x).getD c wdF=(fH e x)[c]:=by rw [List.getD_eq_getElem?_getD,Q2 hlt];rfl
 unfold cellT;rw [hg,wR ht]
theorem CJ {col:Nat->Option Ty} {col':Nat->Option Nat} (afh :∀j,col' j=(col j).map size) :∀{ts:List Ty} {xs:List TW} {j:Nat} {ys:List Wd} {a i:Bool} {gs:List Nat} {es:List (Nat×Nat)},OL o col j ts xs=some (ys,a,i,gs,es)->
  Qc (bV o) col' j (xs.map bU)=some (ys.map bZ,a,i,gs,es)/\ys.map (·.t)=ts/\Pl o gs
 | [],[],j,ys,a,i,gs,es,h=>by
  simp only [OL,Q0,Q1] at h;obtain ⟨rfl,rfl,rfl,rfl,rfl⟩:=h;exact ⟨rfl,rfl,Pl.nil⟩
 | [],x::xs,j,ys,a,i,gs,es,h=>by simp [OL] at h
 |t::ts,[],j,ys,a,i,gs,es,h=>by simp [OL] at h
 |t::ts,x::xs,j,ys,a,i,gs,es,h=>by
  simp only [OL] at h;split at h
  .cases h
  .rename_i ys' a' i' gs' es' h2;obtain ⟨k1,k2,k3⟩:=CJ afh h2;simp only [Qf,Qc,k1,afh j];cases hc:col j with
   |none=>
    rw [hc] at h;simp only at h;split at h
    .rename_i h1;simp only [Q0,Q1] at h;obtain ⟨rfl,rfl,rfl,rfl,rfl⟩:=h;refine ⟨by simp only [Kf,OC h1,Qf],by simp only [Qf,k2],(Ve h1).append k3⟩
    .cases h
   |some s=>
    rw [hc] at h;simp only at h;split at h
    .rename_i hts;have hts:=yt hts;split at h
     .simp only [Q0,Q1] at h;obtain ⟨rfl,rfl,rfl,rfl,rfl⟩:=h;exact ⟨by simp only [Z3,bU,Qf];rfl,by simp only [Qf,k2,hts];rfl,k3⟩
     .rename_i e;split at h
      .rename_i a1 i1 s' l hoe;split at h
       .rename_i l1 hl;simp only [Q0,Q1] at h;obtain ⟨rfl,rfl,rfl,rfl,rfl⟩:=h;obtain ⟨he,hl⟩:=oP hl;cases he;subst hl;refine ⟨?_,by simp only [Qf,k2,hts];rfl,k3⟩;simp only [Z3,bU,h_ hoe,if_true,Qf];rfl
       .cases h
      .cases h
     .cases h
    .cases h
def Ji (tt:TT) (ety:TypeId->Option Ty) (d:Nat) (o:Nat->TO) (f:Operand->TS) (op:Op) (ty:TypeId):Prop:=
 ∀r,jC tt ety d o f op ty=some r->∃dc r',dW tt dc d (bV o) (fun x=>bn (f x)) op ty=some r'/\fO r r'
theorem MB {i:TI} {e e':Ty} {l:List (Dt e)} {n off c:Nat} (hz:tK (((fH e (dflt e)).drop off).take i.size) i.zero=true) (c2:(iW e)[c]?=some (.sl e')) (hc1:off<=c) (hc2:c<off+i.size) :
  (((aG e l).getD n []).getD c default).list=aG e' (cellT e (l.getD n (dflt e)) c e'):=by
 by_cases hn:n<l.length
 .have e1:(aG e l).getD n []=jW e (l.getD n (dflt e)):=by simp [aG,List.getD_eq_getElem?_getD,hn]
  rw [e1,List.getD_eq_getElem?_getD,Rz c2];exact jr _ _
 .have e1:(aG e l).getD n []=[]:=by simp [aG,List.getD_eq_getElem?_getD,Wt (qn hn)]
  have e2:l.getD n (dflt e)=dflt e:=by simp [List.getD_eq_getElem?_getD,Wt (qn hn)]
  rw [e1,e2];have hz':=Eb hz (c-off);rw [V1,WK,Z2,if_pos (by omega),W5,<-gK] at hz';have e3:off+(c-off)=c:=by omega
  rw [e3,Rz c2] at hz';split at hz'
  .simp only [Q0] at hz';have hl:=congrArg P.list hz';rw [jr] at hl;rw [hl];have:(Uy i.zero (c-off)).list=[]:=by
    have hsl :∃sz l,Uy i.zero (c-off)=P.fP sz l:=⟨_,_,hz'.symm⟩;unfold Uy at hsl ⊢;split<;>rfl
   rw [this];rfl
  .cases hz'
theorem afD (n:Nat):bZ ⟨.sl wo,ZJ n⟩=hdr (List.replicate n ([]:List P)):=by
 have e0 :∀x,jW wo x=[]:=fun x=>by
  have h1:=qw wo x;have h2:size wo=0:=by simp [wo,size,jA,RE.hdF]
  rw [h2] at h1;rw [gK,WP h1];rfl
 rw [GK];have e1:aG wo (ZJ n)=List.replicate n []:=by
  have :∀(n:Nat),List.map (jW wo) (ZJ n)=List.replicate n []:=fun n=>by
   induction n with
   |zero=>rfl
   |succ n ih=>
    have e1:jW wo (dflt wo)=[]:=e0 _;show jW wo (dflt wo)::List.map (jW wo) (ZJ n)=[]::List.replicate n [];rw [ih,e1]
  exact this n
 have e2:size wo=0:=by simp [wo,size,jA,RE.hdF]
 rw [e1,e2];unfold hdr;rw [J2];cases n<;>rfl
theorem Vr {t:TypeId} {x:Operand} {r:rG} (h:OM tt o f t x=some r) :∃r',Aa tt (bV o) (fun x=>bn (f x)) t x=some r'/\fO r r':=by
 unfold OM at h;split at h
 .rename_i i g n off ht hx;have hx':bn (f x)=.v (.one (.ep g (.int .i64 n) off)):=by rw [hx];rfl
  have en:(P.int .i64 n).nat=n.toNat:=rfl;split at h
  .rename_i a i' e aj l hh;split at h
   .rename_i e' hca;obtain ⟨hb,h⟩:=bQ h;obtain ⟨hb,hz⟩:=gV hb;obtain ⟨hcb,hb⟩:=gV hb;obtain ⟨h1,h2⟩:=gV hb;have h1:=Q4 h1;have h2:i.agg=false:=by simpa using h2
    simp only [Q0] at h;subst h;obtain ⟨k1,k2⟩:=qA hh;obtain ⟨c1,c2,c3⟩:=uF hcb;unfold Aa;simp only [ht,hx',k1,c1];rw [if_pos ⟨c3,h1,h2⟩];refine ⟨_,rfl,⟨fun _=>trivial,?_,rfl,rfl⟩⟩;have key:(((aG e l).getD (P.int .i64 n).nat []).getD off default).list=aG e' (cellT e (l.getD n.toNat (dflt e)) off e'):=by
     rw [en];exact MB hz c2 (Ys _) (by omega)
    show S.v (.one (.p false false (hdr (((aG e l).getD (P.int .i64 n).nat []).getD off default).list)))=S.v (.one (.p false false (bZ ⟨.sl wo,ZJ _⟩)));rw [afD,key];unfold hdr;rw [fG,J2]
   .cases h
  .cases h
 .cases h
theorem acp (t:TypeId) (x:Operand):Ji tt ety d o f (.load t x) ty:=by
 intro r h;simp only [jC] at h;split at h
 .obtain ⟨r',h1,h2⟩:=Vr h;exact ⟨[(0,0)],r',h1,h2⟩
 split at h
 .rename_i i g n off ht hx;have hx':bn (f x)=.v (.one (.ep g (.int .i64 n) off)):=by rw [hx];rfl
  have en:(P.int .i64 n).nat=n.toNat:=rfl;split at h
  .rename_i a0 i0 e0 kQ l0 hole hog;have hg:bV o g=.aO a0 i0 (size e0) (iQ kQ) (aG e0 l0) hole:=by simp [bV,hog,d_]
   obtain ⟨hb,h⟩:=bQ h;obtain ⟨hb,h3⟩:=gV hb;obtain ⟨h1,h2⟩:=gV hb;have h1:=W3 h1;split at h
   .rename_i hci;simp only [Q0] at h;subst h;refine ⟨[],?_⟩;simp only [dW,abp,cond_false,ht,hx',hg];rw [if_pos ⟨h1,Jh h2⟩];have eci:nO (iQ kQ) off i.size=[]:=by rw [qM,hci];rfl
    simp only [eci];refine ⟨_,rfl,⟨fun _=>trivial,?_,rfl,rfl⟩⟩;simp only [DC.pure,lq];congr 1;rw [en];exact OG e0 l0 n.toNat off i.size i.zero h1 h3 a0 i0
   .rename_i c e' hci;split at h
    .rename_i a i' e aj l hh;split at h
     .rename_i hcc;obtain ⟨hcc,hz⟩:=gV hcc;obtain ⟨hcb,hle⟩:=gV hcc;have hle:=W3 hle;simp only [Q0] at h;subst h;obtain ⟨k1,k2⟩:=qA hh;obtain ⟨c1,c2,c3⟩:=uF hcb;have hcin:off<=c/\c<off+i.size:=by
       have hm:(c,size e')∈nO (iQ kQ) off i.size:=by rw [qM,hci];simp [iQ]
       have:=(vo.1 hm).2;simp only [Q6,Nat.ble_eq,Nat.blt_eq] at this;exact this
      refine ⟨[],?_⟩;simp only [dW,abp,cond_false,ht,hx',hg];rw [if_pos ⟨h1,Jh h2⟩];rw [hg] at k2;have eci:nO (iQ kQ) off i.size=[(c,size e')]:=by rw [qM,hci];rfl
      simp only [eci,k1];refine ⟨_,rfl,⟨fun _=>trivial,?_,?_,rfl⟩⟩
      .simp only [lq];congr 1;rw [en];have key:=OG e l n.toNat off i.size i.zero hle hz a i';simp only [P.list];rw [List.map_set,<-key];apply Ki;intro j;rw [K8];simp only [XN,W2,List.length_range];by_cases hj:j<i.size
       .rw [Ka hj];by_cases hjc:c-off=j
        .rw [if_pos hjc,if_pos (by omega)];have:Nat.beq (off+j) c=true:=by simp;omega
         simp only [Z3,this,if_true];rfl
        .rw [if_neg hjc];have:Nat.beq (off+j) c=false:=by
          cases hb:Nat.beq (off+j) c with
          |false=>rfl
          |true=>have:=Q4 hb;omega
         simp only [Z3,this,W4,if_false]
       .rw [Wt (by simp;omega),if_neg (by omega)];rfl
      .have key:(((aG e l).getD n.toNat []).getD c default).list=aG e' (cellT e (l.getD n.toNat (dflt e)) c e'):=MB hz c2 hcin.1 hcin.2;show (g,O.aO a i' (size e) (iQ aj) (aG e l) (some ((P.int .i64 n).nat,c,d)))::(d,O.arr false a i' (size e') ((((aG e l).getD (P.int .i64 n).nat []).getD c default).list))::kills _=iL (_::_::lC _);rw [qx,qx,qy,k2,en,key];rfl
     .cases h
    .cases h
   .cases h
  .cases h
 .cases h
theorem Jj {g:Nat} {l:List Nat}:(!fM g l)=true->l.contains g=false:=by
 intro h;rw [bT] at h;simpa using h
theorem oQ :∀{a b:List (Nat×Ty)},FC a b=true->a=b
 | [],[],_=>rfl
 | [],_::_,h=>by cases h
 |_::_,[],h=>by cases h
 |(c,t)::r,(c',t')::r',h=>by
  simp only [FC,Q6] at h;rw [Q4 h.1.1,yt h.1.2,oQ h.2]
theorem ZK (t:TypeId) (x y:Operand):Ji tt ety d o f (.store t x y) ty:=by
 intro r h;simp only [jC] at h;split at h
 .rename_i i g n off y' ht hx hy;have hx':bn (f x)=.v (.one (.ep g (.int .i64 n) off)):=by rw [hx];rfl
  have hy':bn (f y)=.v (jL y'):=by rw [hy];rfl
  have en:(P.int .i64 n).nat=n.toNat:=rfl;split at h
  .rename_i a0 i0 e0 aj l0 hole hog;have hg:bV o g=.aO a0 i0 (size e0) (iQ aj) (aG e0 l0) hole:=by simp [bV,hog,d_]
   split at h
   .rename_i ps a' i' gs es hD;obtain ⟨hb,h⟩:=bQ h;obtain ⟨hb,h6⟩:=gV hb;obtain ⟨hb,h5⟩:=gV hb;obtain ⟨hb,h4⟩:=gV hb;obtain ⟨hb,h3⟩:=gV hb;obtain ⟨h1,h2⟩:=gV hb;have h1:=W3 h1;have h2:=Q4 h2;obtain ⟨k1,k2,k3⟩:=CJ (col':=fun j=>(iQ aj).lookup j) (fun j=>Ed j aj) hD;have hl:ps.length=i.size:=by
     have:=congrArg List.length k2;simp [jB] at this;omega
    have hgl:gs.contains g=false:=Jj h4;have hcnd:off+i.size<=size e0/\(y'.words.map bU).length=i.size/\(jL y').solid=true/\gs.contains g=false/\sQ (es.map (·.2))=true/\DT (es.map (·.2)) gs=true:=
     ⟨h1,by rw [W2];exact h2,uH _ h3,hgl,h5,h6⟩
    have key :∀(pre:Bool) (pre':Prop) (a i1:Bool) (e:Ty) (l:List (Dt e)) (jd:Option (Nat×Nat×Nat)) (ks:List Nat),e=e0->(pre=true->pre')->
      fO { pre,t:=.sl e,val:=List.set l n.toNat (KZ e (Nat.beq i.size (size e)) (l.getD n.toNat (dflt e)) off ps),dst:=fun _=>.no,aJ:=fun z=>(g,.aO (a||a') (i1||i') e aj z jd)::lC (es.map (·.2))++lC ks++gs.map (lK o),new:=[] }
       (.mk pre' (.sl (size e0) ((aG e l).set (P.int .i64 n).nat (aS ((aG e l).getD (P.int .i64 n).nat []) off (ps.map bZ)))) (fun _=>.no)
        (fun z=>(g,.aO (a||a') (i1||i') (size e0) (iQ aj) z.list jd)::kills (es.map (·.2))++kills ks++gs.map (Fw.aU (bV o))) []):=by
     intro pre pre' a i1 e l jd ks he hpre;subst he;refine ⟨hpre,rfl,?_,rfl⟩;show (g,O.aO (a||a') (i1||i') (size e) (iQ aj) ((aG e l).set (P.int .i64 n).nat (aS ((aG e l).getD (P.int .i64 n).nat []) off (ps.map bZ))) jd)::kills (es.map (·.2))++kills ks++gs.map (Fw.aU (bV o))=iL ((_::lC _)++lC _++_);rw [lu,lu,qx,qy,qy,pG k3,en];have hp:=FB (e:=e) (l:=l) (n:=n.toNat) (off:=off) (ps:=ps) (by rw [hl];exact k2) (by omega);rw [hl] at hp;rw [<-hp];rfl
    have eci:=qM off i.size aj;have hk:dW tt [] d (bV o) (fun x=>bn (f x)) (.store t x y) ty=dW tt [] d (bV o) (fun x=>bn (f x)) (.store t x y) ty:=rfl;refine ⟨[],?_⟩;simp only [dW,ht,hx',hy',hg,uG,k1];rw [if_pos hcnd];split at h
    .rename_i hci;simp only [Q0] at h;subst h;have eci:nO (iQ aj) off i.size=[]:=by rw [eci,hci];rfl
     simp only [eci];exact ⟨_,rfl,key true True a0 i0 e0 l0 hole [] rfl fun _=>trivial⟩
    .rename_i c0 cs hci;have eci:nO (iQ aj) off i.size=(c0.1,size c0.2)::iQ cs:=by rw [eci,hci];rfl
     simp only [eci];split at h
     .simp only [Q0] at h;subst h;exact ⟨_,rfl,key true True a0 i0 e0 l0 none [] rfl fun _=>trivial⟩
     .rename_i n0 c1 d0 _;have over :∀(r:rG),(bif Nat.ble off c1&&Nat.blt c1 (off+i.size) then some
         ({ pre:=Nat.beq n0 n.toNat,t:=.sl e0,val:=List.set l0 n.toNat (KZ e0 (Nat.beq i.size (size e0)) (l0.getD n.toNat (dflt e0)) off ps),dst:=fun _=>.no,aJ:=fun z=>(g,.aO (a0||a') (i0||i') e0 aj z none)::lC (es.map (·.2))++lC []++gs.map (lK o),new:=[] }:rG) else none)=some r->
        (off<=c1/\c1<off+i.size)/\fO r (.mk (n0=(P.int .i64 n).nat) (.sl (size e0) ((aG e0 l0).set (P.int .i64 n).nat (aS ((aG e0 l0).getD (P.int .i64 n).nat []) off (ps.map bZ)))) (fun _=>.no)
         (fun z=>(g,.aO (a0||a') (i0||i') (size e0) (iQ aj) z.list none)::kills (es.map (·.2))++kills []++gs.map (Fw.aU (bV o))) []):=by
       intro r hr;obtain ⟨hb,hr⟩:=bQ hr;simp only [Q0] at hr;subst hr;obtain ⟨q1,q2⟩:=gV hb;exact ⟨⟨W3 q1,W3 q2⟩,key _ _ a0 i0 e0 l0 none [] rfl fun hp=>by rw [en];exact Q4 hp⟩
      split at h
      .rename_i a i1 e kG l hh;obtain ⟨j1,j2⟩:=qA hh;simp only [j1];split at h
       .rename_i hcc;obtain ⟨q1,q2⟩:=gV hcc;split at h
        .rename_i hty;simp only [Q0] at h;subst h;rw [if_pos ⟨Jj q1,Jj q2⟩];exact ⟨_,rfl,key true True a i1 e l none [d0] (yt hty) fun _=>trivial⟩
        .cases h
       .rename_i hcc;obtain ⟨q1,q2⟩:=over r h;rw [if_neg (by
         rintro ⟨z1,z2⟩;rw [<-bT] at z1 z2;rw [z1,z2] at hcc;cases hcc),if_pos q1]
        exact ⟨_,rfl,q2⟩
      .split at h
       .cases h
       .rename_i har;obtain ⟨q1,q2⟩:=over r h;simp only [Vq hog har];rw [if_pos q1];exact ⟨_,rfl,q2⟩
   .cases h
  .cases h
 .cases h
theorem Ld (t:TypeId) (n c:Operand):Ji tt ety d o f (.makeSlice t n c) ty:=by
 intro r h;simp only [jC] at h;split at h
 .rename_i e i1 i2 i3 a1 j1 n' a2 j2 c' ht hn hc;change Int at n';change Int at c';have hn':bn (f n)=.v (.one (.p a1 j1 (.int .i64 n'))):=by rw [hn];rfl
  have hc':bn (f c)=.v (.one (.p a2 j2 (.int .i64 c'))):=by rw [hc];rfl
  split at h
  .rename_i ie et he het;split at h
   .cases h
   .rename_i zJ DW hdc;split at h
    .rename_i ps hp;obtain ⟨hb,h⟩:=bQ h;simp only [Q0] at h;subst h;obtain ⟨h1,h2⟩:=gV hb;have hsz:=Q4 h2;obtain ⟨k1,k2,_⟩:=CJ (col':=fun j=>(iQ (zJ::DW)).lookup j) (fun j=>Ed j (zJ::DW)) hp;rw [r_] at k1;refine ⟨iQ (zJ::DW),?_⟩;have edc:iQ (zJ::DW)=(zJ.1,size zJ.2)::iQ DW:=rfl;simp only [dW,ht,hn',hc',edc,he];rw [edc] at k1;simp only [k1];rw [if_pos (Jh h1)];refine ⟨_,rfl,⟨fun hp => ?_,rfl,?_,rfl⟩⟩
     .have hp:La ie.bytes n' c'=true:=hp;simp only [La,Q6,decide_eq_true_eq] at hp;obtain ⟨⟨⟨q1,q2⟩,q3⟩,q4⟩:=hp;exact ⟨n'.toNat,c'.toNat,by congr 1;omega,by congr 1;omega,by omega,by
       have:((ie.bytes*c'.toNat:Nat):Int)<=281474976710656:=by
        rw [Int.natCast_mul,K3 (by omega)];exact q3
       omega,by omega⟩
     .show [(d,O.aO false false ie.size ((zJ.1,size zJ.2)::iQ DW) (List.replicate (P.int .i64 n').nat (ps.map bZ)) none)]=iL [(d,_)];have en:(P.int .i64 n').nat=n'.toNat:=rfl;rw [qx,en];simp only [d_,edc,hsz,aG,List.map_replicate,rY k2];rfl
    .cases h
  .cases h
 .cases h
theorem Jk (t:TypeId) (n:Nat) (ps:Array (Nat×Operand)):Ji tt ety d o f (.buildSlice t n ps) ty:=by
 intro r h;simp only [jC] at h;split at h
 .rename_i e i1 i2 i3 ht;split at h
  .rename_i ie et he het;split at h
   .cases h
   .rename_i zJ DW hdc;split at h
    .rename_i ws hw;split at h
     .rename_i qs a i gs es hp;obtain ⟨hb,h⟩:=bQ h;simp only [Q0] at h;subst h;obtain ⟨hb,h4⟩:=gV hb;obtain ⟨hb,h3⟩:=gV hb;obtain ⟨h1,h2⟩:=gV hb;have hsz:=Q4 h2;have:=CB hw;rw [Jg,r_] at this;have edc:iQ (zJ::DW)=(zJ.1,size zJ.2)::iQ DW:=rfl;obtain ⟨k1,k2,k3⟩:=CJ (col':=fun j=>((zJ.1,size zJ.2)::iQ DW).lookup (j % ie.size)) (fun j=>by rw [<-edc];exact Ed (j % ie.size) (zJ::DW)) hp;refine ⟨iQ (zJ::DW),?_⟩;simp only [dW,ht,edc,he,Ea,this,k1];rw [if_pos ⟨W3 h1,h3,h4⟩];refine ⟨_,rfl,⟨fun _=>trivial,rfl,?_,rfl⟩⟩;show (d,O.aO a i ie.size ((zJ.1,size zJ.2)::iQ DW) (chunks ie.size n (qs.map bZ)) none)::kills (es.map (·.2))++gs.map (Fw.aU (bV o))=iL ((_::lC _)++_);rw [lu,qx,qy,pG k3];have e1:=Ar et n qs k2;rw [hsz] at e1;simp only [d_,edc,hsz];rw [<-e1]
     .cases h
    .cases h
  .cases h
 .cases h
theorem Vs (args:Array Operand) (ts:Array TypeId):Ji tt ety d o f (.call { callee:=.builtin .append,args:=args,argTypes:=ts }) ty:=by
 intro r h;simp only [jC] at h;split at h
 .rename_i s x sT xT rest ha hts;split at h
  .rename_i e i1 i2 i3 e' j1 j2 j3 s' g2 hsT hxT hs hx;have hs':bn (f s)=.v (.one (bU s')):=by rw [hs];rfl
   have hx':bn (f x)=.v (.one (.own g2)):=by rw [hx];rfl
   split at h
   .rename_i ie a2 i2' et aj new he hh;obtain ⟨j1',j2'⟩:=qA hh;split at h
    .rename_i pre a i old ks hbase;obtain ⟨hb,h⟩:=bQ h;simp only [Q0] at h;subst h;obtain ⟨hb,h3⟩:=gV hb;obtain ⟨h1,h2⟩:=gV hb;have hsz:=Q4 h2;have hb0:ie.bytes≠0:=fun e=>by rw [e] at h1;cases h1
     have hB :∃ask src,baseD (bV o) (bU s')=some (ask,a,i,aG et old,ks,src)/\(src=none\/src=some (size et,iQ aj))/\(pre=true->ask):=by
      cases s' with
      |dF=>
       simp only [Ry,Q0,Q1] at hbase;obtain ⟨rfl,rfl,rfl,rfl,rfl⟩:=hbase;exact ⟨True,none,rfl,.inl rfl,fun _=>trivial⟩
      |own g=>
       simp only [Ry] at hbase;split at hbase
       .rename_i a1 i1 e1 kG l hg;obtain ⟨q1,q2⟩:=qA hg;split at hbase
        .rename_i l1 hl hc;simp only [Q0,Q1] at hbase;obtain ⟨rfl,rfl,rfl,rfl,rfl⟩:=hbase;obtain ⟨ee,hl⟩:=oP hl;cases ee;subst hl;have:=oQ hc;subst this;exact ⟨True,some (size et,iQ kG),by simp only [bU,baseD,q1,q2],.inr rfl,fun _=>trivial⟩
        .cases hbase
       .cases hbase
      |vw g lo hi=>
       simp only [Ry] at hbase;split at hbase
       .rename_i a1 i1 e1 kG l hg;obtain ⟨q1,q2⟩:=qA hg;split at hbase
        .rename_i l1 hl hc;simp only [Q0,Q1] at hbase;obtain ⟨rfl,rfl,rfl,rfl,rfl⟩:=hbase;obtain ⟨ee,hl⟩:=oP hl;cases ee;subst hl;have:=oQ hc;subst this;refine ⟨P.int .i64 lo=lY 0,some (size et,iQ kG),by simp only [bU,baseD,q1,q2,vZ],.inr rfl,fun h => ?_⟩;have h:lo=0:=by simpa using h
         subst h;rfl
        .cases hbase
       .cases hbase
      |_=>simp [Ry] at hbase
     obtain ⟨ask,src,q1,q2,q3⟩:=hB;refine ⟨[],?_⟩;simp only [dW,ha,hts,hsT,hxT,hs',hx',he,q1,j1'];rw [if_pos ⟨hb0,hsz,q2,by rw [j2'];exact h3⟩];refine ⟨_,rfl,⟨fun hp => ?_,rfl,?_,rfl⟩⟩
     .obtain ⟨p1,p2⟩:=gV hp;refine ⟨q3 p1,?_⟩;rw [fG,fG];simpa using p2
     .show (d,O.aO (a||a2) (i||i2') (size et) (iQ aj) (aG et old++aG et new) none)::kills (ks++g2::(bV o g2).hn)=iL (_::lC _);rw [qx,qy,j2',<-yA];rfl
    .cases h
   .cases h
  .cases h
 .cases h
theorem ZL (t:TypeId) (x:Operand) (lo hi mx:Option Operand):Ji tt ety d o f (.slice t x lo hi mx) ty:=by
 intro r h;cases lo with
 |some _=>simp [jC] at h
 |none=>
 cases mx with
 |some _=>simp [jC] at h
 |none=>
 simp only [jC] at h;split at h
 .cases h
 .split at h
  .rename_i e i1 i2 i3 g ht hx;have hx':bn (f x)=.v (.one (.own g)):=by rw [hx];rfl
   split at h
   .rename_i ie a i et l he hg;change List (Dt et) at l;obtain ⟨hb,h⟩:=bQ h;split at h
    .rename_i hi' hhi;simp only [Q0] at h;subst h;have zZ:=nX hhi;have hg':bV o g=.arr false a i (size et) (aG et l):=h_ hg;refine ⟨[],?_⟩;have en:lY (aG et l).length=P.int .i64 (List.length (α:=Dt et) l:Int):=by rw [fG];rfl
     simp only [dW,ht,hx',he,hg'];rw [if_pos (Q4 hb)];simp only [en,zZ];refine ⟨_,rfl,⟨fun hp => ?_,rfl,?_,rfl⟩⟩
     .obtain ⟨h1,h2⟩:=gV hp;have h1:=of_decide_eq_true h1;have h2:=of_decide_eq_true h2;exact ⟨hi'.toNat,by rw [K3 h1],by rw [fG];omega⟩
     .show [(d,O.arr false a i (size et) ((aG et l).take (P.nat (.int .i64 hi')))),(g,O.none)]=[(d,O.arr false a i (size et) (aG et (List.take hi'.toNat l))),(g,O.none)];rw [vZ]
    .cases h
   .cases h
  .cases h
theorem RD (op:Op):Ji tt ety d o f op ty:=by
 cases op
 case load t x=>exact acp t x
 case store t x y=>exact ZK t x y
 case buildSlice t n ps=>exact Jk t n ps
 case makeSlice t n c=>exact Ld t n c
 case slice t x lo hi mx=>exact ZL t x lo hi mx
 case call c=>
  obtain ⟨callee,args,ts⟩:=c;cases callee
  case builtin b=>
   cases b
   case append=>exact Vs args ts
   all_goals (intro r h;simp [jC] at h)
  all_goals (intro r h;simp [jC] at h)
 all_goals (intro r h;simp [jC] at h)
end
end
end Go.Fg

namespace Go.Fg
open Go.Fw
inductive Prog:Type->Type 1 where
 |ret {R:Type} (r:R):Prog R
 |stuck {R:Type} (n:Nat):Prog R
 |cond {R:Type} (b:Bool) (x y:Prog R):Prog R
 |chk {R:Type} (b:Bool) (x:Prog R):Prog R
 |any {R:Type} (x y:Prog R):Prog R
 |let_ {A R:Type} (x:A) (k:A->Prog R):Prog R
 |join {A R:Type} (x:Prog A) (k:A->Prog R):Prog R
 |MC {A R:Type} (x:Prog (A ⊕ R)) (k:A->Prog R):Prog R
 |loop {A R:Type} (a:A) (body:A->Prog (A ⊕ R)):Prog R
 |call {A B R:Type} (n:Nat) (f:A->Option B) (a:A) (k:B->Prog R):Prog R
def Prog.map:{R R':Type}->(R->R')->Prog R->Prog R'
 |_,_,f,.ret r=>.ret (f r)
 |_,_,_,.stuck n=>.stuck n
 |_,_,f,.cond b x y=>.cond b (x.map f) (y.map f)
 |_,_,f,.chk b x=>.chk b (x.map f)
 |_,_,f,.any x y=>.any (x.map f) (y.map f)
 |_,_,f,.let_ x k=>.let_ x fun z=>(k z).map f
 |_,_,f,.join x k=>.join x fun z=>(k z).map f
 |_,_,f,.MC x k=>.MC (x.map (Sum.map id f)) fun z=>(k z).map f
 |_,_,f,.loop a body=>.loop a fun z=>(body z).map (Sum.map id f)
 |_,_,f,.call n g a k=>.call n g a fun z=>(k z).map f
def iV {A R:Type} (body:A->Option (A ⊕ R)):Nat->A->Option R
 |0,_=>none
 |n+1,a=>(body a).bind fun
  |.inl a'=>iV body n a'
  |.inr r=>some r
open Classical in
noncomputable def bK {A R:Type} (body:A->Option (A ⊕ R)) (a:A):Option R:=
 if h :∃n r,iV body n a=some r then iV body (Classical.choose h) a else none
open Classical in
noncomputable def both {R:Type} (x y:Option R):Option R:=if x=y then x else none
def ck {R:Type} (b:Bool) (x:Option R):Option R:=bif b then x else none
def dL {A R:Type} (x:Option (A ⊕ R)) (k:A->Option R):Option R:=x.bind fun
 |.inl z=>k z
 |.inr r=>some r
def dP (x:Int):Int:=IntKind.i64.wrap x
noncomputable def Prog.run:{R:Type}->Prog R->Option R
 |_,.ret r=>some r
 |_,.stuck _=>none
 |_,.cond b x y=>bif b then x.run else y.run
 |_,.chk b x=>ck b x.run
 |_,.any x y=>both x.run y.run
 |_,.let_ x k=>(k x).run
 |_,.join x k=>x.run.bind fun z=>(k z).run
 |_,.MC x k=>dL x.run fun z=>(k z).run
 |_,.loop a body=>bK (fun z=>(body z).run) a
 |_,.call _ g a k=>(g a).bind fun z=>(k z).run
section
variable [RE]
inductive kC where
 |p (a i:Bool) (t:Ty)
 |dF
 |own (g:Nat)
 |box (g off:Nat)
 |fn (f:FuncId) (gs:List Nat)
 |nH (g:Nat)
 |no
 |vw (g:Nat)
 |ep (g off:Nat)
inductive kN where
 |one (x:kC)
 |agg (xs:List kC)
inductive iM where
 |box (ws:List kC)
 |arr (fz a i:Bool) (e:Ty)
 |it
 |aO (a i:Bool) (e:Ty) (aj:List (Nat×Ty))
structure MF where
 slots:List (Nat×kN)
 bg:List (Nat×iM)
def kC.er:kC->WS
 |.p a i _=>.p a i
 |.dF=>.dF
 |.own g=>.own g
 |.box g off=>.box g off
 |.fn f gs=>.fn f gs
 |.nH g=>.nH g
 |.no=>.no
 |.vw g=>.vw g
 |.ep g off=>.ep g off
def kN.er:kN->SS
 |.one x=>.one x.er
 |.agg xs=>.agg (xs.map kC.er)
def iM.er:iM->OS
 |.box ws=>.box (ws.map kC.er)
 |.arr fz a i e=>.arr fz a i (size e)
 |.it=>.it
 |.aO a i e aj=>.aO a i (size e) (iQ aj)
def MF.er (j:MF):Shape:=⟨j.slots.map fun p=>(p.1,p.2.er),j.bg.map fun p=>(p.1,p.2.er)⟩
def kC.tys:kC->List Ty
 |.p _ _ t=>[t]
 |.vw _=>[.int .i64,.int .i64]
 |.ep _ _=>[.int .i64]
 |_=>[]
def kN.tys:kN->List Ty
 |.one x=>x.tys
 |.agg xs=>xs.flatMap kC.tys
def iM.tys:iM->List Ty
 |.box ws=>ws.flatMap kC.tys
 |.arr _ _ _ e=>[.sl e]
 |.it=>[.str,.int .i64]
 |.aO _ _ e _=>[.sl e]
def MF.tys (j:MF):List Ty:=j.slots.flatMap (fun p=>p.2.tys)++j.bg.flatMap fun p=>p.2.tys
def Tup:List Ty->Type
 | []=>Unit
 | [t]=>Dt t
 |t::u::ts=>Dt t×Tup (u::ts)
def Tup.kE:(ts:List Ty)->Tup ts->List Wd
 | [],_=>[]
 | [t],x=>[⟨t,x⟩]
 |t::u::ts,x=>⟨t,x.1⟩::Tup.kE (u::ts) x.2
def Tup.ofL:(ts:List Ty)->List Wd->Option (Tup ts)
 | [],[]=>some ()
 | [t],[w]=>w.Bh t
 |t::u::ts,w::ws=>match w.Bh t,Tup.ofL (u::ts) ws with
  |some x,some xs=>some (x,xs)
  |_,_=>none
 |_,_=>none
def GR (m:Ren):List Nat->List TW->Bool
 | [],[]=>true
 |g'::gs,.box g off::cs=>decide (m.lookup g'=some (some g))&&(Nat.beq off 0&&GR m gs cs)
 |_,_=>false
def Ee:List Nat->List TW
 | []=>[]
 |g::gs=>.box g 0::Ee gs
def Ef (m:Ren):kC->TW->Option (List Wd)
 |.p a i t,.p a' i' w=>match w.Bh t with
  |some _=>bif (imp a' a&&imp i' i)||w.t.flat then some [w] else none
  |none=>none
 |.p _ _ t,.dF=>match t with
  |.sl e=>some [uz e []]
  |_=>none
 |.dF,.dF=>some []
 |.own g',.own g=>if m.lookup g'=some (some g) then some [] else none
 |.own g',.dF=>if m.lookup g'=some none then some [] else none
 |.box g' off,.box g off'=>if m.lookup g'=some (some g)/\off=off' then some [] else none
 |.fn f gs,.clo f' caps=>bif Nat.beq f f'&&GR m gs caps then some [] else none
 |.nH g',.nH g=>if m.lookup g'=some (some g) then some [] else none
 |.no,_=>some []
 |.vw g',.vw g lo hi=>if m.lookup g'=some (some g) then some [iR .i64 lo,iR .i64 hi] else none
 |.ep g' off,.ep g n off'=>if m.lookup g'=some (some g)/\off=off' then some [iR .i64 n] else none
 |_,_=>none
def yC (m:Ren):List kC->List TW->Option (List Wd)
 | [],[]=>some []
 |k::ks,x::xs=>match Ef m k x,yC m ks xs with
  |some u,some v=>some (u++v)
  |_,_=>none
 |_,_=>none
def afE (m:Ren):kN->TS->Option (List Wd)
 |.one k,.v (.one x)=>Ef m k x
 |.agg ks,.v (.agg xs)=>yC m ks xs
 |_,_=>none
def Vt (m:Ren):iM->TO->Option (List Wd)
 |.box ks,.box xs=>yC m ks xs
 |.arr fz a i e,.arr fz' a' i' e' l=>match (uz e' l).Bh (.sl e) with
  |some l=>if fz=fz'/\(imp a' a&&imp i' i)=true then some [uz e l] else none
  |none=>none
 |.it,.it s n=>some [Rj s,iR .i64 n]
 |.aO a i e aj,.aO a' i' e' kG l hole=>match hole,(uz e' l).Bh (.sl e),FC aj kG with
  |none,some l,true=>if (imp a' a&&imp i' i)=true then some [uz e l] else none
  |_,_,_=>none
 |_,_=>none
def nY (m:Ren) (s:Nat->TS):List (Nat×kN)->Option (List Wd)
 | []=>some []
 |(t,k)::rest=>match afE m k (s t),nY m s rest with
  |some u,some v=>some (u++v)
  |_,_=>none
def ql (m:Ren) (o:Nat->TO):List (Nat×iM)->Option (List Wd)
 | []=>some []
 |(g',k)::rest=>match (match m.lookup g' with
   |some (some g)=>Vt m k (o g)
   |some none=>(match k with
    |.arr false _ _ e=>some [uz e []]
    |.aO _ _ e _=>some [uz e []]
    |_=>none)
   |none=>none),ql m o rest with
  |some u,some v=>some (u++v)
  |_,_=>none
def zn (j:MF) (m:Ren) (st:jH):Option (List Wd):=
 match j.er.ok&&ahK j.er m with
 |true=>match nY m st.gs j.slots,ql m st.go j.bg with
  |some u,some v=>some (u++v)
  |_,_=>none
 |false=>none
def Au:Wd:=⟨.bool,false⟩
def Aw (vs:List Wd) (n:Nat):kC->TW×Nat
 |.p a i _=>(.p a i (vs.getD n Au),n+1)
 |.dF=>(.dF,n)
 |.own g=>(.own g,n)
 |.box g off=>(.box g off,n)
 |.fn f gs=>(.clo f (Ee gs),n)
 |.nH g=>(.nH g,n)
 |.no=>(.no,n)
 |.vw g=>(.vw g ((vs.getD n Au).as (.int .i64)) ((vs.getD (n+1) Au).as (.int .i64)),n+2)
 |.ep g off=>(.ep g ((vs.getD n Au).as (.int .i64)) off,n+1)
def uJ (vs:List Wd):Nat->List kC->List TW×Nat
 |n,[]=>([],n)
 |n,k::ks=>((Aw vs n k).1::(uJ vs (Aw vs n k).2 ks).1,(uJ vs (Aw vs n k).2 ks).2)
def Gt (vs:List Wd) (n:Nat):kN->TS×Nat
 |.one k=>(.v (.one (Aw vs n k).1),(Aw vs n k).2)
 |.agg ks=>(.v (.agg (uJ vs n ks).1),(uJ vs n ks).2)
def Eh (vs:List Wd) (n:Nat):iM->TO×Nat
 |.box ks=>(.box (uJ vs n ks).1,(uJ vs n ks).2)
 |.arr fz a i e=>(.arr fz a i e ((vs.getD n Au).as (.sl e)),n+1)
 |.it=>(.it ((vs.getD n Au).as .str) ((vs.getD (n+1) Au).as (.int .i64)),n+2)
 |.aO a i e aj=>(.aO a i e aj ((vs.getD n Au).as (.sl e)) none,n+1)
def gB (vs:List Wd):Nat->List (Nat×kN)->List (Nat×TS)×Nat
 |n,[]=>([],n)
 |n,(t,k)::rest=>((t,(Gt vs n k).1)::(gB vs (Gt vs n k).2 rest).1,(gB vs (Gt vs n k).2 rest).2)
def jP (vs:List Wd):Nat->List (Nat×iM)->List (Nat×TO)×Nat
 |n,[]=>([],n)
 |n,(g,k)::rest=>((g,(Eh vs n k).1)::(jP vs (Eh vs n k).2 rest).1,(jP vs (Eh vs n k).2 rest).2)
def mkT (j:MF) (vs:List Wd):jH:=
 { s:=(gB vs 0 j.slots).1,o:=(jP vs (gB vs 0 j.slots).2 j.bg).1,u:=j.bg.map (·.1) }
def Xk:List Nat->List TW->Ren
 |g'::gs,.box g _::cs=>(g',some g)::Xk gs cs
 |_,_=>[]
def alU:kC->TW->Ren
 |.own g',.own g=>[(g',some g)]
 |.own g',.dF=>[(g',none)]
 |.box g' _,.box g _=>[(g',some g)]
 |.nH g',.nH g=>[(g',some g)]
 |.fn _ gs,.clo _ caps=>Xk gs caps
 |.vw g',.vw g _ _=>[(g',some g)]
 |.ep g' _,.ep g _ _=>[(g',some g)]
 |_,_=>[]
def acr:List kC->List TW->Ren
 |k::ks,x::xs=>alU k x++acr ks xs
 |_,_=>[]
def apD:kN->TS->Ren
 |.one k,.v (.one x)=>alU k x
 |.agg ks,.v (.agg xs)=>acr ks xs
 |_,_=>[]
def RF (s:Nat->TS):List (Nat×kN)->Ren
 | []=>[]
 |(t,k)::r=>apD k (s t)++RF s r
def GV (m:Ren) (o:Nat->TO):List (Nat×iM)->Ren
 | []=>[]
 |(g',.box ks)::r=>(match m.lookup g' with
  |some (some g)=>match o g with
   |.box ws=>acr ks ws
   |_=>[]
  |_=>[])++GV m o r
 |_::r=>GV m o r
def derive (aY:List Nat) (j:MF) (st:jH):Ren:=
 let m0:=aY.map (fun g=>(g,some g))++RF st.gs j.slots
 let m1:=m0++GV m0 st.go j.bg
 m1++GV m1 st.go j.bg
structure dB where
 bD:Nat
 pin:MF
 aQ:MF
 dA:Nat
 aY:List Nat
 aV:List Nat
 kept:List Nat:=[]
def dB.er (s:dB):y9:={ bD:=s.bD,pin:=s.pin.er,aQ:=s.aQ.er,dA:=s.dA,aY:=s.aY,aV:=s.aV }
open Classical in
noncomputable def yD {A R:Type} (x y:A) (r:Option R):Option R:=if x=y then r else none
noncomputable def Jl {R:Type} (a b:Nat->TO) (r:R):List Nat->Option R
 | []=>some r
 |g::gs=>match a g,b g with
  |.arr false _ _ e l,.arr false _ _ e' l'=>match (uz e' l').Bh (.sl e) with
   |some l''=>yD (A:=List (Dt e)) l'' l (Jl a b r gs)
   |none=>none
  |.aO _ _ e aj l none,.aO _ _ e' kG l' none=>match (uz e' l').Bh (.sl e),FC aj kG with
   |some l'',true=>yD (A:=List (Dt e)) l'' l (Jl a b r gs)
   |_,_=>none
  |_,_=>none
structure aW where
 sig:dB
 f:Tup sig.pin.tys->Option (Tup sig.aQ.tys)
noncomputable def aW.ff (s:aW):Tup s.sig.pin.tys->Option (Tup s.sig.aQ.tys):=match s.sig.kept with
 | []=>s.f
 |g::gs=>fun x=>(s.f x).bind fun y=>Jl (mkT s.sig.pin (Tup.kE s.sig.pin.tys x)).go (mkT s.sig.aQ (Tup.kE s.sig.aQ.tys y)).go y (g::gs)
abbrev mJ:=FuncId->Option aW
structure Gu where
 ins:List Wd
 A:Bool×Bool
 I:Bool×Bool
 u_:List Nat
 ren:List (Nat×Nat)
def pI:List Nat->List TW->Option (List (Nat×Nat))
 | [],[]=>some []
 |g'::gs,.box g off::cs=>bif Nat.beq off 0 then match pI gs cs with
  |some r=>some ((g',g)::r)
  |none=>none
  else none
 |_,_=>none
def MG (o:Nat->TO):kC->TW->Option (List Wd×(Bool×Bool)×List Nat×List (Nat×Nat))
 |.p _ _ t,x=>match x.toP o t with
  |some (y,a,i,gs)=>some ([⟨t,y⟩],(a,i),gs,[])
  |none=>none
 |.own g',.own g=>some ([],(false,false),[],[(g',g)])
 |.box g' off',.box g off=>bif Nat.beq off' 0&&Nat.beq off 0 then some ([],(false,false),[],[(g',g)]) else none
 |.fn f gs,.clo f' caps=>bif Nat.beq f f' then match pI gs caps with
  |some r=>some ([],(false,false),[],r)
  |none=>none
  else none
 |_,_=>none
def pX (o:Nat->TO):List kC->List TW->Option (List Wd×(Bool×Bool)×List Nat×List (Nat×Nat))
 | [],[]=>some ([],(false,false),[],[])
 |k::ks,x::xs=>match MG o k x,pX o ks xs with
  |some (u,c,g,r),some (u',c',g',r')=>some (u++u',xg c c',g++g',r++r')
  |_,_=>none
 |_,_=>none
def Xl (o:Nat->TO):kN->TS->Option (List Wd×(Bool×Bool)×List Nat×List (Nat×Nat))
 |.one k,.v (.one x)=>MG o k x
 |.agg ks,.v (.agg xs)=>pX o ks xs
 |_,_=>none
def nC (o:Nat->TO) (args:List TS):List (Nat×kN)->Option (List Wd×(Bool×Bool)×List Nat×List (Nat×Nat))
 | []=>some ([],(false,false),[],[])
 |(t,k)::rest=>match Xl o k (args.getD t .no),nC o args rest with
  |some (u,c,g,r),some (u',c',g',r')=>some (u++u',xg c c',g++g',r++r')
  |_,_=>none
def ajA:kC->TW->Option (List Wd×(Bool×Bool)×List (Nat×Nat))
 |.p _ _ t,.p a i w=>match w.Bh t with
  |some x=>some ([⟨t,x⟩],(a,i),[])
  |none=>none
 |.p _ _ t,.dF=>match t with
  |.sl e=>some ([uz e []],(false,false),[])
  |_=>none
 |.own g',.own g=>some ([],(false,false),[(g',g)])
 |.box g' off',.box g off=>bif Nat.beq off' 0&&Nat.beq off 0 then some ([],(false,false),[(g',g)]) else none
 |.fn f gs,.clo f' caps=>bif Nat.beq f f' then match pI gs caps with
  |some r=>some ([],(false,false),r)
  |none=>none
  else none
 |_,_=>none
def Jm:List kC->List TW->Option (List Wd×(Bool×Bool)×List (Nat×Nat))
 | [],[]=>some ([],(false,false),[])
 |k::ks,x::xs=>match ajA k x,Jm ks xs with
  |some (u,c,r),some (u',c',r')=>some (u++u',xg c c',r++r')
  |_,_=>none
 |_,_=>none
def wu (o:Nat->TO):List (Nat×Nat)->List (Nat×iM)->Option (List Wd×(Bool×Bool)×List (Nat×Nat))
 |ren,[]=>some ([],(false,false),ren)
 |ren,(g',k)::rest=>match ren.lookup g' with
  |some g=>match k,o g with
   |.box ks,.box ws=>match Jm ks ws with
    |some (u,c,r)=>match wu o (ren++r) rest with
     |some (u',c',r')=>some (u++u',xg c c',r')
     |none=>none
    |none=>none
   |.arr _ _ _ e,.arr false a i e' l=>match (uz e' l).Bh (.sl e) with
    |some l=>match wu o ren rest with
     |some (u',c',r')=>some (uz e l::u',xg (a,i) c',r')
     |none=>none
    |none=>none
   |.aO _ _ e aj,.aO a i e' kG l hole=>match hole,(uz e' l).Bh (.sl e),FC aj kG with
    |none,some l,true=>match wu o ren rest with
     |some (u',c',r')=>some (uz e l::u',xg (a,i) c',r')
     |none=>none
    |_,_,_=>none
   |_,_=>none
  |none=>none
def wz (s:dB) (o:Nat->TO) (args:List TS):Option Gu:=
 match nC o args s.pin.slots with
 |some (u,A,gs,r)=>match wu o r s.pin.bg with
  |some (u',I,r')=>some { ins:=u++u',A,I,u_:=gs,ren:=jT r' }
  |none=>none
 |none=>none
def Gu.er (c:Gu):KQ:={ ins:=c.ins.map bZ,A:=c.A,I:=c.I,u_:=c.u_,ren:=c.ren }
def yE (f:Nat->Nat):List TW->List TW
 | []=>[]
 |.box g off::r=>.box (f g) off::yE f r
 |_::r=>.no::yE f r
def ZM (A I:Bool×Bool) (f:Nat->Nat):TW->TW
 |.p a i x=>.p (qH A I a i).1 (qH A I a i).2 x
 |.dF=>.dF
 |.own g=>.own (f g)
 |.box g off=>.box (f g) off
 |.clo fn caps=>.clo fn (yE f caps)
 |_=>.no
def ajB (A I:Bool×Bool) (f:Nat->Nat):TV->TV
 |.one x=>.one (ZM A I f x)
 |.agg xs=>.agg (xs.map (ZM A I f))
def acs (A I:Bool×Bool) (f:Nat->Nat):TS->TV
 |.v x=>ajB A I f x
 |_=>.one .no
def OO (A I:Bool×Bool) (f:Nat->Nat):TO->TO
 |.none=>.none
 |.box ws=>.box (ws.map (ZM A I f))
 |.arr fz a i e l=>.arr fz (qH A I a i).1 (qH A I a i).2 e l
 |.it s n=>.it s n
 |.aO a i e aj l _=>.aO (qH A I a i).1 (qH A I a i).2 e aj l none
structure jZ where
 x:TS
 aJ:List (Nat×TO)
 new:List Nat
def jZ.er (e:jZ):Eff:={ x:=bn e.x,aJ:=iL e.aJ,new:=e.new }
def acu (vs:List TV):TS:=match vs with
 | [x]=>.v x
 |xs=>.jM xs
def kJ (s:dB) (d:Nat) (o:Nat->TO) (c:Gu) (bW:List Wd):jZ:=
 let x:=mkT s.aQ bW
 let f:=callName d s.er c.ren
 { x:=acu ((List.range s.dA).map fun k=>acs c.A c.I f (x.gs k)),aJ:=(bif s.er.mF then c.u_.map (lK o) else [])++c.ren.map (fun p=>(p.2,bif s.aY.contains p.1 then OO c.A c.I f (x.go p.1) else .none))++s.aV.map (fun g=>(f g,OO c.A c.I f (x.go g))),new:=s.aV.map f }
def ajC:Bool->Bool->Bool
 |true,true=>true
 |false,false=>true
 |_,_=>false
def Vu:TO->Option (Bool×Bool)
 |.arr fz a i _ _=>match fz with
  |true=>none
  |false=>some (a,i)
 |.aO a i _ _ _ hole=>match hole with
  |none=>some (a,i)
  |some _=>none
 |_=>none
def CO (s:dB) (o f:Nat->TO):List (Nat×Nat)->List Nat
 | []=>[]
 |(g',g)::r=>match fM g' s.kept&&s.aY.contains g',Vu (o g),Vu (f g') with
  |true,some (a,i),some (a',i')=>match ajC a a'&&ajC i i' with
   |true=>g::CO s o f r
   |false=>CO s o f r
  |_,_,_=>CO s o f r
def MH (same:List Nat):List (Nat×TO)->List (Nat×TO)
 | []=>[]
 |(g,x)::r=>match fM g same with
  |true=>MH same r
  |false=>(g,x)::MH same r
def zo (s:dB) (d:Nat) (o:Nat->TO) (c:Gu) (bW:List Wd):jZ:=match s.kept with
 | []=>kJ s d o c bW
 |_::_=>
  let e:=kJ s d o c bW
  { e with aJ:=MH (CO s o (fun g'=>OO c.A c.I (callName d s.er c.ren) ((mkT s.aQ bW).go g')) c.ren) e.aJ }
def jZ.skip:jZ:={ x:=.jM [],aJ:=[],new:=[] }
def Ei (l:List (Nat×TO)):List (Nat×TO)->List (Nat×TO)
 | []=>l
 |(g,x)::r=>xq g x (Ei l r)
structure jg where
 st:jH
 ds:List Nat
 od:List Nat
def jH.put (st:jH) (dst:Option Tmp) (x:TS):jH:=match dst with
 |some t=>{ st with s:=xq t x st.s }
 |none=>st
def jg.eff (q:jg) (dst:Option Tmp) (e:jZ):jg:=
 { st:={ s:=(q.st.put dst e.x).s,o:=Ei q.st.o e.aJ,u:=e.new++q.st.u },ds:=(match dst with | some t=>t::q.ds | none=>q.ds),od:=e.aJ.map (·.1)++q.od }
def frB {β:Type 1} (b:Bool) (k:Bool->β):β:=match b with
 |true=>k true
 |false=>k false
def OQ {β:Type 1}:Ty->(Ty->β)->β
 |.int .i8,k=>k (.int .i8)
 |.int .i16,k=>k (.int .i16)
 |.int .i32,k=>k (.int .i32)
 |.int .i64,k=>k (.int .i64)
 |.int .u8,k=>k (.int .u8)
 |.int .u16,k=>k (.int .u16)
 |.int .u32,k=>k (.int .u32)
 |.int .u64,k=>k (.int .u64)
 |.bool,k=>k .bool
 |.str,k=>k .str
 |.sl e,k=>OQ e fun e=>k (.sl e)
 |.prod a b,k=>OQ a fun a=>OQ b fun b=>k (.prod a b)
 |.st n,k=>k (.st n)
 |.opq,k=>k .opq
 |.sq e,k=>OQ e fun e=>k (.sq e)
def frW {β:Type 1}:TW->(TW->β)->β
 |.p a i ⟨t,x⟩,k=>frB a fun a=>frB i fun i=>k (.p a i ⟨t,x⟩)
 |.dF,k=>k .dF
 |.own g,k=>k (.own g)
 |.vw g lo hi,k=>k (.vw g lo hi)
 |.box g off,k=>k (.box g off)
 |.ep g n off,k=>k (.ep g n off)
 |.sp a i t x off,k=>frB a fun a=>frB i fun i=>k (.sp a i t x off)
 |.clo f caps,k=>k (.clo f caps)
 |.gl g,k=>k (.gl g)
 |.nH g,k=>k (.nH g)
 |.no,k=>k .no
def acw {β:Type 1}:List TW->(List TW->β)->β
 | [],k=>k []
 |x::xs,k=>frW x fun x=>acw xs fun xs=>k (x::xs)
def frV {β:Type 1}:TV->(TV->β)->β
 |.one x,k=>frW x fun x=>k (.one x)
 |.agg xs,k=>acw xs fun xs=>k (.agg xs)
def afF {β:Type 1}:List TV->(List TV->β)->β
 | [],k=>k []
 |x::xs,k=>frV x fun x=>afF xs fun xs=>k (x::xs)
def frS {β:Type 1}:TS->(TS->β)->β
 |.v x,k=>frV x fun x=>k (.v x)
 |.jM xs,k=>afF xs fun xs=>k (.jM xs)
 |.no,k=>k .no
def frC {β:Type 1}:List (Nat×Ty)->(List (Nat×Ty)->β)->β
 | [],k=>k []
 |(c,t)::r,k=>OQ t fun t=>frC r fun r=>k ((c,t)::r)
def frH {β:Type 1}:Option (Nat×Nat×Nat)->(Option (Nat×Nat×Nat)->β)->β
 |none,k=>k none
 |some (n,c,d),k=>k (some (n,c,d))
def frO {β:Type 1}:TO->(TO->β)->β
 |.none,k=>k .none
 |.box ws,k=>acw ws fun ws=>k (.box ws)
 |.arr fz a i e l,k=>frB fz fun fz=>frB a fun a=>frB i fun i=>k (.arr fz a i e l)
 |.it s n,k=>k (.it s n)
 |.aO a i e aj l hole,k=>frB a fun a=>frB i fun i=>frC aj fun aj=>frH hole fun hole=>k (.aO a i e aj l hole)
def afG {β:Type 1}:List (Nat×TS)->(List (Nat×TS)->β)->β
 | [],k=>k []
 |(t,x)::r,k=>frS x fun x=>afG r fun r=>k ((t,x)::r)
def afH {β:Type 1}:List (Nat×TO)->(List (Nat×TO)->β)->β
 | [],k=>k []
 |(t,x)::r,k=>frO x fun x=>afH r fun r=>k ((t,x)::r)
def Le {β:Type 1}:List Nat->(List Nat->β)->β
 | [],k=>k []
 |x::r,k=>Le r fun r=>k (x::r)
def frX {β:Type 1} (q:jg) (k:jg->β):β:=
 afG q.st.s fun s=>afH q.st.o fun o=>Le q.st.u fun u=>Le q.ds fun ds=>Le q.od fun od=>k ⟨⟨s,o,u⟩,ds,od⟩
def acy:TS->Option Nat
 |.v (.one (.clo g _))=>some g
 |_=>none
def Jo:List TS->Option Nat
 | []=>none
 |x::l=>match acy x with
  |some g=>some g
  |none=>Jo l
def Ej (fn:Nat) (l:List TS):Nat:=match Jo l with
 |some g=>fn+1000000*(g+1)
 |none=>fn
def Xm (T:mJ) (fn:Nat) (l:List TS):Option aW:=match Nat.blt fn 1000000 with
 |true=>match T (Ej fn l) with
  |some sp=>some sp
  |none=>T fn
 |false=>none
def pkT (T:mJ) (fn:Nat) (l:List TS):Nat:=match T (Ej fn l) with
 |some _=>Ej fn l
 |none=>fn
noncomputable def ZN {R:Type} (T:mJ) (tt:TT) (ety:TypeId->Option Ty) (d:Nat) (st:jH) (o:Oper) (K:jZ->Prog R):Prog R:=
 match o.op with
 |.call { callee:=.value f,args,.. }=>match st.dJ f with
  |.v (.one (.clo fn caps))=>match Xm T fn (args.toList.map st.dJ) with
   |some sp=>match wz sp.sig st.go ((args.toList.map st.dJ)++caps.map fun x=>TS.v (.one x)) with
    |some c=>match c.er.fine sp.sig.er&&Nat.beq (args.size+caps.length) sp.sig.bD with
     |true=>match Tup.ofL sp.sig.pin.tys c.ins with
      |some x=>match sp.sig.er.ok with
       |true=>.call (pkT T fn (args.toList.map st.dJ)) sp.ff x fun y=>K (zo sp.sig d st.go c (Tup.kE sp.sig.aQ.tys y))
       |false=>.stuck 17
      |none=>.stuck 11
     |false=>.stuck 12
    |none=>.stuck 13
   |none=>.stuck 14
  |_=>.stuck 15
 |op=>match jC tt ety d st.go st.dJ op o.type with
  |some r=>.chk r.pre (.let_ r.val fun z=>K { x:=r.dst z,aJ:=r.aJ z,new:=r.new })
  |none=>match dU tt ety d st.go st.dJ op o.type with
   |some r=>.chk r.pre (.let_ r.val fun z=>K { x:=r.dst z,aJ:=r.aJ z,new:=r.new })
   |none=>.stuck 16
def yF (u:List Nat):List Nat->Bool
 | []=>true
 |g::gs=>!fM g u&&yF u gs
def Vx (ops:Array Oper) (st:jH) (j:Nat):Option (Tmp×Option (Bool×Bool×Bool)):=
 match (ops[j]?).bind (·.dst) with
 |some t=>match st.gs t with
  |.v (.one (.p a i ⟨.bool,b⟩))=>some (t,some (a,i,b))
  |.jM []=>some (t,none)
  |_=>none
 |none=>none
def Xn (N:Nat):Option Tmp->Bool
 |some d=>Nat.blt d N
 |none=>true
def jg.know (q:jg) (t:Tmp) (a i b:Bool):jg:={ q with st:={ q.st with s:=xq t (.v (.one (.p a i (iU b)))) q.st.s } }
def jg.RH (q:jg) (t:Tmp) (a i:Bool) (k:IntKind) (n:Int):jg:={ q with st:={ q.st with s:=xq t (.v (.one (.p a i (iR k n)))) q.st.s } }
def acz (tt:TT) (st:jH) (t:TypeId) (x:Operand) (j:Tmp):Option (Bool×Bool×IntKind×Int×Nat):=
 match tt t with
 |some { k:=.arr n _,.. }=>match st.dJ x with
  |.v (.one (.box _ _))=>match st.gs j with
   |.v (.one (.p a i ⟨.int k,v⟩))=>bif Nat.ble n 4 then some (a,i,k,v,n) else none
   |_=>none
  |.v (.one (.ep _ _ _))=>match st.gs j with
   |.v (.one (.p a i ⟨.int k,v⟩))=>bif Nat.ble n 4 then some (a,i,k,v,n) else none
   |_=>none
  |.v (.one (.sp _ _ _ _ _))=>match st.gs j with
   |.v (.one (.p a i ⟨.int k,v⟩))=>bif Nat.ble n 4 then some (a,i,k,v,n) else none
   |_=>none
  |_=>none
 |_=>none
def ajD (tt:TT) (st:jH) (o:Oper):Option (Tmp×Bool×Bool×IntKind×Int×Nat):=
 match o.op with
 |.indexAddr t x (.tmp j)=>match acz tt st t x j with
  |some r=>some (j,r)
  |none=>none
 |_=>none
def Xo {R:Type} (v:Int) (k:Int->Prog R):Nat->Nat->Prog R
 |_,0=>.stuck 24
 |m,1=>.chk (eqI v (Int.ofNat m)) (k (Int.ofNat m))
 |m,n+2=>.cond (eqI v (Int.ofNat m)) (k (Int.ofNat m)) (Xo v k (m+1) (n+1))
noncomputable def stepT {R:Type} (T:mJ) (tt:TT) (ety:TypeId->Option Ty) (N:Nat) (ops:Array Oper) (o:Oper) (q:jg) (K:jg->jZ->Prog R):Prog R:=
 match Xn N o.dst with
 |false=>.stuck 20
 |true=>match o.guard with
  |none=>match ajD tt q.st o with
   |none=>ZN T tt ety (o.dst.getD 0) q.st o fun e=>match yF q.st.u e.new with
    |true=>K q e
    |false=>.stuck 21
   |some (t,a,i,k,v,n)=>Xo v (fun z=>frX (q.RH t a i k z) fun q=>ZN T tt ety (o.dst.getD 0) q.st o fun e=>match yF q.st.u e.new with
    |true=>K q e
    |false=>.stuck 21) 0 n
  |some (j,want)=>match Vx ops q.st j with
   |none=>.stuck 22
   |some (t,none)=>K q jZ.skip
   |some (t,some (a,i,b))=>
    let on (q:jg):Prog R:=ZN T tt ety (o.dst.getD 0) q.st o fun e=>match yF q.st.u e.new with
     |true=>K q e
     |false=>.stuck 21
    .cond b (frX (q.know t a i true) fun q=>bif want then on q else K q jZ.skip) (frX (q.know t a i false) fun q=>bif want then K q jZ.skip else on q)
inductive OT where
 |yes
 |no
 |may (empty:Bool)
def Jp (o:Nat->TO):TS->Option OT
 |.v (.one (.p _ _ ⟨.sl e,l⟩))=>some (.may (List.isEmpty (α:=Dt e) l))
 |.v (.one (.own g))=>match o g with
  |.arr _ _ _ _ l=>some (.may l.isEmpty)
  |.aO _ _ _ _ l _=>some (.may l.isEmpty)
  |_=>none
 |.v (.one .dF)=>some .yes
 |_=>none
def Jq (o:Nat->TO):TS->Option OT
 |.v (.one (.box g _))=>match o g with
  |.box _=>some .no
  |_=>none
 |.v (.one (.p _ _ ⟨.opq,.pointer none⟩))=>some .yes
 |_=>none
def OU (o:Nat->TO) (x:TS) (k:TK) (c:Value):Option OT:=
 match k,c with
 |.slice _,.slice none 0 0=>Jp o x
 |.ptr,.pointer none=>Jq o x
 |_,_=>none
def ajE (tt:TT) (st:jH) (o:Oper):Option (Bool×OT):=
 match o.guard with
 |some _=>none
 |none=>match o.op with
  |.binOp op t x (.const c) _=>match tt t with
   |some i=>match op,OU st.go (st.dJ x) i.k c with
    |.eql,some p=>some (true,p)
    |.neq,some p=>some (false,p)
    |_,_=>none
   |none=>none
  |_=>none
def RI (s:List UInt8) (n:Int):Bool:=decide (n.toNat<s.length)
def nZ (s:List UInt8) (n:Int):Int:=((Utf8.decode ⟨s.toArray⟩ n.toNat).1:Nat)
def uK (s:List UInt8) (n:Int):Int:=((n.toNat+(Utf8.decode ⟨s.toArray⟩ n.toNat).2:Nat):Int)
def RJ (n:Int):Int:=((n.toNat:Nat):Int)
def acA (st:jH) (o:Oper):Option (Nat×List UInt8×Int):=
 match o.guard with
 |some _=>none
 |none=>match o.op with
  |.next x true=>match st.dJ x with
   |.v (.one (.nH g))=>match st.go g with
    |.it s n=>some (g,s,n)
    |_=>none
   |_=>none
  |_=>none
def OV (g:Nat) (s:List UInt8) (n:Int):jZ:={ x:=.jM [.one (.p false false (iU true)),.one (.p false false (iR .i64 (RJ n))),.one (.p false false (iR .i32 (nZ s n)))],aJ:=[(g,.it s (uK s n))],new:=[] }
def Vy:jZ:={ x:=.jM [.one (.p false false (iU false))],aJ:=[],new:=[] }
def qN (b:Bool):jZ:={ x:=Xh (iU b),aJ:=[],new:=[] }
noncomputable def Vz {R:Type} (T:mJ) (tt:TT) (ety:TypeId->Option Ty) (N:Nat) (ops:Array Oper) (o:Oper) (q:jg) (K:jg->jZ->Prog R):Prog R:=
 match ajE tt q.st o with
 |some (pos,c)=>match Xn N o.dst with
  |false=>.stuck 23
  |true=>match c with
   |.yes=>K q (qN pos)
   |.no=>K q (qN (!pos))
   |.may e=>.cond e (.any (K q (qN true)) (K q (qN false))) (K q (qN (!pos)))
 |none=>match acA q.st o with
  |some (g,s,n)=>match Xn N o.dst with
   |false=>.stuck 23
   |true=>.cond (RI s n) (K q (OV g s n)) (K q Vy)
  |none=>stepT T tt ety N ops o q K
noncomputable def runT {R:Type} (T:mJ) (tt:TT) (ety:TypeId->Option Ty) (N:Nat) (ops:Array Oper):List Oper->jg->(jg->Prog R)->Prog R
 | [],q,K=>K q
 |o::os,q,K=>Vz T tt ety N ops o q fun q e=>frX (q.eff o.dst e) fun q=>runT T tt ety N ops os q K
def yG:List TW->List Nat
 | []=>[]
 |.box g _::r=>g::yG r
 |x::r=>(bU x).names++yG r
def W.namesT:TW->List Nat
 |.own g | .vw g _ _ | .box g _ | .ep g _ _ | .nH g=>[g]
 |.clo _ caps=>yG caps
 |_=>[]
def V.namesT:TV->List Nat
 |.one x=>W.namesT x
 |.agg xs=>xs.flatMap W.namesT
def S.namesT:TS->List Nat
 |.v x=>V.namesT x
 |.jM xs=>xs.flatMap V.namesT
 |.no=>[]
def Xp (args:List TS):List (Nat×kN)->Bool
 | []=>false
 |(t,_)::rest=>match args.getD t .no with
  |.no=>true
  |.jM _=>true
  |_=>Xp args rest
def VA (T:mJ) (st:jH) (o:Oper):Option (List Nat):=
 match o.op with
 |.call { callee:=.value f,args,.. }=>match st.dJ f with
  |.v (.one (.clo fn caps))=>match Xm T fn (args.toList.map st.dJ) with
   |some sp=>match wz sp.sig st.go ((args.toList.map st.dJ)++caps.map fun x=>TS.v (.one x)) with
    |some c=>some (c.ren.map (·.2))
    |none=>bif Xp ((args.toList.map st.dJ)++caps.map fun x=>TS.v (.one x)) sp.sig.pin.slots then some [] else none
   |none=>some []
  |_=>some []
 |_=>some []
def acB (T:mJ) (st:jH) (o:Oper):Option (List Nat):=match VA T st o with
 |some r=>some ((bif looks o.op then (o.op.operands.toList.flatMap fun x=>(S.namesT (st.dJ x)).flatMap fun g=>g::lW (st.go g)) else [])++r)
 |none=>none
def afI {β:Type 1}:List (Nat×Nat)->(List (Nat×Nat)->β)->β
 | [],k=>k []
 |(a,b)::r,k=>afI r fun r=>k ((a,b)::r)
def frF {β:Type 1} (f:tC) (k:tC->β):β:=Le f.rd fun rd=>Le f.wr fun wr=>Le f.new fun new=>frH f.ld fun ld=>afI f.kp fun kp=>frB f.pk fun pk=>Le f.kd fun kd=>k ⟨rd,wr,new,ld,kp,pk,kd⟩
def acC:TW->TW->Bool
 |.own g,.own g'=>Nat.beq g g'
 |.box g off,.box g' off'=>Nat.beq g g'&&Nat.beq off off'
 |_,_=>false
def Em (g:Nat):Nat->List TW->List TW->Option (List (Nat×Nat))
 |_,[],[]=>some []
 |j,x::xs,y::ys=>match Em g (j+1) xs ys with
  |some r=>some (match acC x y with
   |true=>(g,j)::r
   |false=>r)
  |none=>none
 |_,_,_=>none
def VB (g:Nat):TO->Option TO->List (Nat×Nat)
 |.box ws,some (.box ws')=>match Em g 0 ws ws' with
  |some r=>r
  |none=>[]
 |_,_=>[]
def kpT (st:jH) (aJ:List (Nat×TO)):List (Nat×Nat):=(aJ.map (·.1)).flatMap fun g=>VB g (st.go g) (aJ.lookup g)
def acD:TO->Nat
 |.box _=>1
 |.arr _ _ _ _ _=>2
 |.aO _ _ _ _ _ _=>2
 |.it _ _=>3
 |.none=>0
def kdT (st:jH) (aJ:List (Nat×TO)):List Nat:=(aJ.map (·.1)).filterMap fun g=>match aJ.lookup g with
 |some x=>bif Nat.beq (acD x) (acD (st.go g)) then some g else none
 |none=>none
def ldT (tt:TT) (st:jH) (o:Oper):Option (Nat×Nat×Nat):=match o.op with
 |.load t x=>match tt t,st.dJ x with
  |some i,.v (.one (.box g off))=>some (g,off,i.size)
  |_,_=>none
 |_=>none
noncomputable def runNT {R:Type} (T:mJ) (tt:TT) (ety:TypeId->Option Ty) (N:Nat) (ops:Array Oper):List Oper->jg->List tC->(jg->List tC->Prog R)->Prog R
 | [],q,fs,K=>K q fs
 |o::os,q,fs,K=>match acB T q.st o with
  |none=>.stuck 25
  |some rd=>stepT T tt ety N ops o q fun q' e=>frF { rd,wr:=e.aJ.map (·.1),new:=e.new,ld:=ldT tt q.st o,kp:=kpT q.st e.aJ,pk:=tH o.op,kd:=kdT q.st e.aJ } fun ft=>frX (q'.eff o.dst e) fun q=>runNT T tt ety N ops os q (fs++[ft]) K
noncomputable def wB {R:Type} (T:mJ) (tt:TT) (ety:TypeId->Option Ty) (N:Nat) (ops:Array Oper) (draw:Bool) (q:jg) (K:jg->Prog R):Prog R:=
 match draw with
 |false=>runT T tt ety N ops ops.toList q K
 |true=>runNT T tt ety N ops ops.toList q [] fun q fs=>match Xe ops fs with
  |true=>K q
  |false=>.stuck 24
inductive Md where
 |keep
 |sl (k:kN)
inductive Mo where
 |keep
 |ob (k:iM)
structure JT where
 slots:List (Nat×Md)
 bg:List (Nat×Mo)
def CP:List TW->Option (List Nat)
 | []=>some []
 |.box g off::cs=>bif Nat.beq off 0 then match CP cs with
  |some gs=>some (g::gs)
  |none=>none
  else none
 |_=>none
def RN:TW->Option (kC×List Wd)
 |.p a i w=>some (.p a i w.t,[w])
 |.dF=>some (.dF,[])
 |.own g=>some (.own g,[])
 |.box g off=>some (.box g off,[])
 |.clo f caps=>match CP caps with
  |some gs=>some (.fn f gs,[])
  |none=>none
 |.nH g=>some (.nH g,[])
 |.vw g lo hi=>some (.vw g,[iR .i64 lo,iR .i64 hi])
 |.ep g n off=>some (.ep g off,[iR .i64 n])
 |_=>none
def wS:List TW->Option (List kC×List Wd)
 | []=>some ([],[])
 |x::xs=>match RN x,wS xs with
  |some (k,u),some (ks,us)=>some (k::ks,u++us)
  |_,_=>none
def OW:TS->Option (kN×List Wd)
 |.v (.one x)=>match RN x with
  |some (k,u)=>some (.one k,u)
  |none=>none
 |.v (.agg xs)=>match wS xs with
  |some (ks,u)=>some (.agg ks,u)
  |none=>none
 |_=>none
def xu:TO->Option (iM×List Wd)
 |.box ws=>match wS ws with
  |some (ks,u)=>some (.box ks,u)
  |none=>none
 |.arr fz a i e l=>some (.arr fz a i e,[uz e l])
 |.it s n=>some (.it,[Rj s,iR .i64 n])
 |.aO a i e aj l hole=>match hole with
  |none=>some (.aO a i e aj,[uz e l])
  |some _=>none
 |.none=>none
def Az (s:Nat->TS):List (Nat×Md)->Option (List (Nat×kN×Option (List Wd)))
 | []=>some []
 |(t,.keep)::r=>match OW (s t),Az s r with
  |some (k,u),some l=>some ((t,k,some u)::l)
  |_,_=>none
 |(t,.sl k)::r=>match Az s r with
  |some l=>some ((t,k,none)::l)
  |none=>none
def Jr (o:Nat->TO):List (Nat×Mo)->Option (List (Nat×iM×Option (List Wd)))
 | []=>some []
 |(t,.keep)::r=>match xu (o t),Jr o r with
  |some (k,u),some l=>some ((t,k,some u)::l)
  |_,_=>none
 |(t,.ob k)::r=>match Jr o r with
  |some l=>some ((t,k,none)::l)
  |none=>none
structure JF where
 slots:List (Nat×kN×Option (List Wd))
 bg:List (Nat×iM×Option (List Wd))
def JF.sh (j:JF):MF:=⟨j.slots.map fun p=>(p.1,p.2.1),j.bg.map fun p=>(p.1,p.2.1)⟩
def jK:List (Nat×kN×Option (List Wd))->List Ty
 | []=>[]
 |(_,k,none)::r=>k.tys++jK r
 |(_,_,some _)::r=>jK r
def pJ:List (Nat×iM×Option (List Wd))->List Ty
 | []=>[]
 |(_,k,none)::r=>k.tys++pJ r
 |(_,_,some _)::r=>pJ r
def JF.tys (j:JF):List Ty:=jK j.slots++pJ j.bg
def mM:List (Nat×kN×Option (List Wd))->List Wd->List Wd×List Wd
 | [],ws=>([],ws)
 |(_,k,none)::r,ws=>(ws.take k.tys.length++(mM r (ws.drop k.tys.length)).1,(mM r (ws.drop k.tys.length)).2)
 |(_,_,some u)::r,ws=>(u++(mM r ws).1,(mM r ws).2)
def qO:List (Nat×iM×Option (List Wd))->List Wd->List Wd×List Wd
 | [],ws=>([],ws)
 |(_,k,none)::r,ws=>(ws.take k.tys.length++(qO r (ws.drop k.tys.length)).1,(qO r (ws.drop k.tys.length)).2)
 |(_,_,some u)::r,ws=>(u++(qO r ws).1,(qO r ws).2)
def JF.pay (j:JF) (ws:List Wd):List Wd:=(mM j.slots ws).1++(qO j.bg (mM j.slots ws).2).1
def OX:List (Nat×kN×Option (List Wd))->List Wd->List Wd×List Wd
 | [],ws=>([],ws)
 |(_,k,none)::r,ws=>(ws.take k.tys.length++(OX r (ws.drop k.tys.length)).1,(OX r (ws.drop k.tys.length)).2)
 |(_,k,some u)::r,ws=>((OX r (ws.drop u.length)).1,(OX r (ws.drop u.length)).2)
def RP:List (Nat×iM×Option (List Wd))->List Wd->List Wd×List Wd
 | [],ws=>([],ws)
 |(_,k,none)::r,ws=>(ws.take k.tys.length++(RP r (ws.drop k.tys.length)).1,(RP r (ws.drop k.tys.length)).2)
 |(_,k,some u)::r,ws=>((RP r (ws.drop u.length)).1,(RP r (ws.drop u.length)).2)
def JF.ext (j:JF) (ws:List Wd):List Wd:=(OX j.slots ws).1++(RP j.bg (OX j.slots ws).2).1
def hasK {α:Type} (t:Nat):List (Nat×α)->Bool
 | []=>false
 |(k,_)::r=>Nat.beq t k||hasK t r
def RQ (s:List (Nat×TS)) (ds:List Nat):List (Nat×kN×Option (List Wd))->Bool
 | []=>true
 |(t,_,some _)::r=>hasK t s&&!fM t ds&&RQ s ds r
 |(_,_,none)::r=>RQ s ds r
def RU (s:List (Nat×TO)) (ds:List Nat):List (Nat×iM×Option (List Wd))->Bool
 | []=>true
 |(t,_,some _)::r=>hasK t s&&!fM t ds&&RU s ds r
 |(_,_,none)::r=>RU s ds r
def keysB (aY:List Nat) (j:MF) (m:Ren):Bool:=keeps aY j.er m
def MJ:List (Nat×iM×Option (List Wd))->Ren
 | []=>[]
 |(t,_,some _)::r=>(t,some t)::MJ r
 |(_,_,none)::r=>MJ r
def tpW (gs:List Nat) (o:Nat->TO):TW->TW
 |.own g=>bif fM g gs then match nU o g with
  |some ⟨a,i,e,l⟩=>.p a i (uz e l)
  |none=>.own g
  else .own g
 |.vw g lo hi=>bif fM g gs then match nU o g with
  |some ⟨a,i,e,l⟩=>.p a i (uz e ((l.take hi.toNat).drop lo.toNat))
  |none=>.vw g lo hi
  else .vw g lo hi
 |x=>x
def tpV (gs:List Nat) (o:Nat->TO):TV->TV
 |.one x=>.one (tpW gs o x)
 |.agg xs=>.agg (xs.map (tpW gs o))
def tpS (gs:List Nat) (o:Nat->TO):TS->TS
 |.v x=>.v (tpV gs o x)
 |.jM xs=>.jM (xs.map (tpV gs o))
 |.no=>.no
def tpO (gs:List Nat) (o:Nat->TO) (g:Nat):TO->TO
 |.none=>.none
 |.box ws=>.box (ws.map (tpW gs o))
 |.arr fz a i e l=>.arr (fz||fM g gs) a i e l
 |.it s n=>.it s n
 |.aO a i e aj l hole=>bif fM g gs then (lK o g).2 else .aO a i e aj l hole
def Js (gs:List Nat) (st:jH):jH:=match gs with
 | []=>st
 |g::r=>{ s:=st.s.map fun p=>(p.1,tpS (g::r) st.go p.2),o:=st.o.map fun p=>(p.1,tpO (g::r) st.go p.1 p.2),u:=st.u }
def plB (o:Nat->TO) (g:Nat):Bool:=match nU o g with
 |some _=>true
 |none=>false
def afL (o:Nat->TO) (gs:List Nat):Bool:=gs.all fun g=>plB o g&&(lW (o g)).all fun d=>fM d gs
def Xq:TO->Option Nat
 |.aO _ _ _ _ _ hole=>match hole with
  |some (_,_,d)=>some d
  |none=>none
 |_=>none
def mZ (keep:List Nat):List Nat->jH->List Nat×jH
 | [],st=>([],st)
 |g::gs,st=>match Xq (st.go g),yB st.go g with
  |some d,some ⟨a,i,e,aj,l⟩=>match !fM g keep&&!fM d keep with
   |true=>let r:=mZ keep gs { st with o:=Ei st.o [(g,.aO a i e aj l none),(d,.none)] }
    (g::r.1,r.2)
   |false=>mZ keep gs st
  |_,_=>mZ keep gs st
def Lh:List (Nat×TO)->List Nat
 | []=>[]
 |(g,x)::r=>match Xq x with
  |some _=>g::Lh r
  |none=>Lh r
def zO:List (Nat×iM×Option (List Wd))->List Nat
 | []=>[]
 |(t,_,some _)::r=>t::zO r
 |(_,_,none)::r=>zO r
def fzW (o:Nat->TO):kC->TW->List Nat
 |.p _ _ _,.own g=>bif plB o g then lW (o g)++[g] else []
 |.p _ _ _,.vw g _ _=>bif plB o g then lW (o g)++[g] else []
 |_,_=>[]
def ajF (o:Nat->TO):List kC->List TW->List Nat
 |k::ks,x::xs=>fzW o k x++ajF o ks xs
 |_,_=>[]
def fzS (o:Nat->TO):kN->TS->List Nat
 |.one k,.v (.one x)=>fzW o k x
 |.agg ks,.v (.agg xs)=>ajF o ks xs
 |_,_=>[]
def Xr (st:jH):List (Nat×kN)->List Nat
 | []=>[]
 |(t,k)::r=>fzS st.go k (st.gs t)++Xr st r
def VD (m:Ren) (st:jH):List (Nat×iM)->List Nat
 | []=>[]
 |(g',.box ks)::r=>(match m.lookup g' with
  |some (some g)=>match st.go g with
   |.box ws=>ajF st.go ks ws
   |_=>[]
  |_=>[])++VD m st r
 |_::r=>VD m st r
def afM (aY:List Nat) (j:MF) (st:jH):List Nat:=Xr st j.slots++VD (derive aY j st) st j.bg
def VE (gs:List Nat) (x:TS):Bool:=(S.namesT x).all fun g=>!fM g gs
def Jt (gs:List Nat) (g:Nat):TO->Bool
 |.none=>true
 |.box ws=>(ws.flatMap W.namesT).all fun g=>!fM g gs
 |.arr _ _ _ _ _=>!fM g gs
 |.it _ _=>true
 |.aO _ _ _ _ _ _=>!fM g gs
def acF (gs:List Nat) (s:Nat->TS):List (Nat×kN×Option (List Wd))->Bool
 | []=>true
 |(t,_,some _)::r=>VE gs (s t)&&acF gs s r
 |(_,_,none)::r=>acF gs s r
def acG (gs:List Nat) (o:Nat->TO):List (Nat×iM×Option (List Wd))->Bool
 | []=>true
 |(t,_,some _)::r=>Jt gs t (o t)&&acG gs o r
 |(_,_,none)::r=>acG gs o r
def qP {R:Type} (aY:List Nat) (j:JF) (q:jg) (K:Tup j.tys->Prog R):Prog R:=
 let st0:=(mZ (zO j.bg) (Lh q.st.o) q.st).2
 let gs:=afM aY j.sh st0
 let st:=Js gs st0
 let m:=MJ j.bg++derive aY j.sh st
 match RQ q.st.s q.ds j.slots&&RU q.st.o q.od j.bg&&keysB aY j.sh m&&afL st0.go gs&&acF gs st0.gs j.slots&&acG gs st0.go j.bg with
 |false=>.stuck 30
 |true=>match zn j.sh m st with
  |none=>.stuck 31
  |some vs=>match Tup.ofL j.tys (j.ext vs) with
   |none=>.stuck 32
   |some x=>K x
def qQ (j:JF) (x:Tup j.tys):jH:=mkT j.sh (j.pay (Tup.kE j.tys x))
def newS:List (Nat×kN×Option (List Wd))->List Nat
 | []=>[]
 |(t,_,none)::r=>t::newS r
 |(_,_,some _)::r=>newS r
def rH:List (Nat×iM×Option (List Wd))->List Nat
 | []=>[]
 |(t,_,none)::r=>t::rH r
 |(_,_,some _)::r=>rH r
def jg.fresh (q:jg):jg:={ q with ds:=[],od:=[] }
def jg.since (q' q:jg):jg:={ q' with ds:=q'.ds++q.ds,od:=q'.od++q.od }
structure TK (R:Type) where
 n:jg->Prog R
 x:Nat->jg->Prog R
 r:jg->Prog R
inductive fV where
 |nil
 |seq (a b:fV)
 |meet (early:Bool) (j:JT) (a:fV)
 |loop (j:JT) (a:fV)
 |range (j:JT) (sg:dB) (a:fV)
def fV.fst:fV->fV
 |.seq a _=>a
 |_=>.nil
def fV.snd:fV->fV
 |.seq _ b=>b
 |_=>.nil
def acH (nw:List Nat):List (Nat×kN×Option (List Wd))->Bool
 | []=>true
 |(t,_,some _)::r=>!fM t nw&&acH nw r
 |(_,_,none)::r=>acH nw r
def acI (nw:List Nat):List (Nat×iM×Option (List Wd))->Bool
 | []=>true
 |(t,_,some _)::r=>!fM t nw&&acI nw r
 |(_,_,none)::r=>acI nw r
def jOf (st:jH) (j:JT):Option JF:=match Az st.gs j.slots,Jr st.go j.bg with
 |some s,some o=>match acH (newS s) s&&acI (rH o) o with
  |true=>some ⟨s,o⟩
  |false=>none
 |_,_=>none
def knT (c:Operand) (a i b:Bool) (q:jg):jg:=match c with
 |.tmp t=>q.know t a i b
 |_=>q
def Xt {R:Type} (c:Operand) (q:jg) (x y:jg->Prog R):Prog R:=match q.st.dJ c with
 |.v (.one (.p a i ⟨.bool,b⟩))=>.cond b (frX (knT c a i true q) x) (frX (knT c a i false q) y)
 |_=>.stuck 50
def MK {R:Type} (aY:List Nat) (early:Bool) (jt:JT) (here:Nat->Bool) (q:jg) (inner:(R':Type)->jg->TK R'->Prog R') (K:TK R):Prog R:=
 match jOf q.st jt with
 |none=>.stuck 40
 |some j=>match early with
  |false=>.join (inner (Tup j.tys) q.fresh { n:=fun q'=>qP aY j q' .ret,x:=fun id q'=>bif here id then qP aY j q' .ret else .stuck 41,r:=fun _=>.stuck 42 })
    fun x=>frX ⟨qQ j x,newS j.slots++q.ds,rH j.bg++q.od⟩ K.n
  |true=>.MC (inner (Tup j.tys ⊕ R) q.fresh { n:=fun q'=>qP aY j q' fun x=>.ret (.inl x),x:=fun id q'=>bif here id then qP aY j q' (fun x=>.ret (.inl x)) else (K.x id (q'.since q)).map .inr,r:=fun q'=>(K.r (q'.since q)).map .inr })
    fun x=>frX ⟨qQ j x,newS j.slots++q.ds,rH j.bg++q.od⟩ K.n
def Ty.lit:Ty->Bool
 |.int _=>true
 |.bool=>true
 |.str=>true
 |_=>false
def OY (N:Nat):Code->jH->Option jH
 |.skip,st=>some st
 |.region _ ops false,st=>match ops.toList with
  | [o]=>match o.guard,o.dst,IZ o.op with
   |none,some d,some t=>match Nat.blt d N with
    |true=>some (st.put (some d) (st.gs t))
    |false=>none
   |_,_,_=>none
  |_=>none
 |.seq x y,st=>match OY N x st with
  |some st'=>OY N y st'
  |none=>none
 |_,_=>none
def rowT:List Tmp->List Wd->jH->jH
 |p::ps,x::xs,st=>rowT ps xs (st.put (some p) (.v (.one (.p false false x))))
 |_,_,st=>st
def outT (sg:dB) (q:jg):Prog (Tup sg.aQ.tys):=
 let st0:jH:=(mZ [] (Lh q.st.o) { s:=[],o:=q.st.o,u:=q.st.u }).2
 let gs:=afM sg.aY sg.aQ st0
 let st:=Js gs st0
 let m:=derive sg.aY sg.aQ st
 match keysB sg.aY sg.aQ m&&afL st0.go gs with
 |false=>.stuck 81
 |true=>match zn sg.aQ m st with
  |none=>.stuck 82
  |some vs=>match Tup.ofL sg.aQ.tys vs with
   |none=>.stuck 83
   |some x=>.ret x
def OZ {R:Type} (N:Nat) (sg:dB) (body:jg->TK (Tup sg.aQ.tys)->Prog (Tup sg.aQ.tys)) (ps:Array Tmp) (x:Code) (ws:List Wd) (q:jg) (K:jg->Prog R):Prog R:=
 match OY N x (rowT ps.toList ws q.st) with
 |none=>.stuck 70
 |some st1=>match wz sg q.st.go ((List.range N).map st1.gs) with
  |none=>.stuck 71
  |some c=>match sg.er.ok&&(sg.aY.all (fun g=>sg.pin.er.nms.contains g)&&sg.er.abx)&&Nat.beq sg.dA 0&&c.er.fine sg.er with
   |false=>.stuck 72
   |true=>match Tup.ofL sg.pin.tys c.ins with
    |none=>.stuck 73
    |some z=>.join (frX ⟨mkT sg.pin (Tup.kE sg.pin.tys z),[],[]⟩ fun qb=>body qb { n:=outT sg,x:=fun _ _=>.stuck 74,r:=fun _=>.stuck 75 }) fun bW=>
      match yF q.st.u (kJ sg (ps.getD 0 0) q.st.go c (Tup.kE sg.aQ.tys bW)).new with
      |true=>frX (q.eff none (kJ sg (ps.getD 0 0) q.st.go c (Tup.kE sg.aQ.tys bW))) K
      |false=>.stuck 76
noncomputable def lT (T:mJ) (tt:TT) (ety:TypeId->Option Ty) (N:Nat) (aY:List Nat):Code->(R:Type)->fV->jg->TK R->Prog R
 |.skip,R,_,q,K=>K.n q
 |.region _ ops draw,R,a,q,K=>match a with
  |.meet e j _=>MK aY e j (fun _=>false) q (fun _ q K=>wB T tt ety N ops draw q K.n) K
  |_=>wB T tt ety N ops draw q K.n
 |.seq x y,R,a,q,K=>lT T tt ety N aY x R a.fst q { n:=fun q'=>lT T tt ety N aY y R a.snd q' K,x:=K.x,r:=K.r }
 |.cond c x y,R,a,q,K=>match a with
  |.meet e j a=>MK aY e j (fun _=>false) q (fun R q K=>Xt c q (fun q=>lT T tt ety N aY x R a.fst q K) fun q=>lT T tt ety N aY y R a.snd q K) K
  |a=>Xt c q (fun q=>lT T tt ety N aY x R a.fst q K) fun q=>lT T tt ety N aY y R a.snd q K
 |.block id c,R,a,q,K=>match a with
  |.meet e j a=>MK aY e j (Nat.beq id) q (fun R q K=>lT T tt ety N aY c R a q K) K
  |a=>lT T tt ety N aY c R a.fst q { n:=K.n,x:=fun id' q'=>bif Nat.beq id' id then K.n q' else K.x id' q',r:=K.r }
 |.loop c,R,a,q,K=>match a with
  |.loop jt a=>match jOf q.st jt with
   |none=>.stuck 43
   |some j=>qP aY j q.fresh fun x=>.loop x fun x=>
     frX ⟨qQ j x,[],[]⟩ fun q'=>lT T tt ety N aY c (Tup j.tys ⊕ R) a q'
      { n:=fun q'=>qP aY j q' fun x=>.ret (.inl x),x:=fun id q'=>(K.x id (q'.since ⟨q'.st,newS j.slots++q.ds,rH j.bg++q.od⟩)).map .inr,r:=fun q'=>(K.r (q'.since ⟨q'.st,newS j.slots++q.ds,rH j.bg++q.od⟩)).map .inr }
  |_=>.stuck 44
 |.exit id,R,_,q,K=>K.x id q
 |.ret,R,_,q,K=>K.r q
 |.label _,R,_,q,K=>K.n q
 |.scope c,R,a,q,K=>lT T tt ety N aY c R a q K
 |.rangeFunc g ps x y,R,a,q,K=>match a with
  |.range jt sg a=>match calm y,q.st.dJ g with
   |true,.v (.one (.p _ _ ⟨.sq e,rows⟩))=>match (iW e).all Ty.lit&&Nat.beq (iW e).length ps.size&&ps.toList.all (fun p=>Nat.blt p N) with
    |true=>match jOf q.st jt with
     |none=>.stuck 77
     |some j=>qP aY j q.fresh fun z0=>.loop (z0,(0:Nat)) fun (zk:Tup j.tys×Nat)=>
       .cond (Nat.blt zk.2 (List.length (α:=Dt e) rows))
        (frX ⟨qQ j zk.1,[],[]⟩ fun q'=>OZ N sg (fun q K=>lT T tt ety N sg.aY y (Tup sg.aQ.tys) a q K) ps x (fH e (List.getD (α:=Dt e) rows zk.2 (dflt e))) q' fun q''=>qP aY j q'' fun z'=>.ret (.inl (z',zk.2+1)))
        (frX ⟨qQ j zk.1,newS j.slots++q.ds,rH j.bg++q.od⟩ fun q'=>(K.n q').map .inr)
    |false=>.stuck 78
   |_,_=>.stuck 79
  |_=>.stuck 80
 |_,R,_,_,_=>.stuck 45
def Xu (tt:TT) (st:jH):ResultVar->Option TS
 |.tmp t=>some (st.gs t)
 |.cell a t=>match tt t,st.gs a with
  |some i,.v (.one (.box g off))=>match st.go g with
   |.box ws=>bif Nat.ble (off+i.size) ws.length&&Nat.blt 0 i.size then some (TV.gq i.agg ((ws.drop off).take i.size)) else none
   |_=>none
  |_,_=>none
def Ju (tt:TT) (st:jH):List ResultVar->Option (List TS)
 | []=>some []
 |r::rs=>match Xu tt st r,Ju tt st rs with
  |some x,some xs=>some (x::xs)
  |_,_=>none
def VF (n:Nat):List TS->List (Nat×TS)
 | []=>[]
 |x::xs=>(n,x)::VF (n+1) xs
def afN (tt:TT) (sp:dB) (ts:List ResultVar) (q:jg):Prog (Tup sp.aQ.tys):=
 match Ju tt q.st ts with
 |none=>.stuck 60
 |some xs=>
  let st0:jH:=(mZ [] (Lh q.st.o) { s:=VF 0 xs,o:=q.st.o,u:=q.st.u }).2
  let gs:=afM sp.aY sp.aQ st0
  let st:=Js gs st0
  let m:=derive sp.aY sp.aQ st
  match keysB sp.aY sp.aQ m&&afL st0.go gs with
  |false=>.stuck 61
  |true=>match zn sp.aQ m st with
   |none=>.stuck 62
   |some vs=>match Tup.ofL sp.aQ.tys vs with
    |none=>.stuck 63
    |some x=>.ret x
inductive LkC where
 |yes
 |no
 |len (n m:Nat)
def RV:TO->TO->LkC
 |.box _,.box _=>.yes
 |.arr _ _ _ e l,.arr _ _ _ e' l'=>bif Nat.beq (size e) (size e') then .len (List.length (α:=Dt e) l) (List.length (α:=Dt e') l') else .no
 |.aO _ _ e _ l _,.aO _ _ e' _ l' _=>bif Nat.beq (size e) (size e') then .len (List.length (α:=Dt e) l) (List.length (α:=Dt e') l') else .no
 |_,_=>.no
def AA {R:Type} (a b:Nat->TO) (K:Prog R):List Nat->Prog R
 | []=>K
 |g::gs=>match RV (a g) (b g) with
  |.yes=>AA a b K gs
  |.no=>.stuck 90
  |.len n m=>.chk (decide (n=m)) (AA a b K gs)
noncomputable def tfun (T:mJ) (tt:TT) (ety:TypeId->Option Ty) (N:Nat) (sp:dB) (ts:List ResultVar) (c:Code) (a:fV) (x:Tup sp.pin.tys):Prog (Tup sp.aQ.tys):=
 frX ⟨mkT sp.pin (Tup.kE sp.pin.tys x),[],[]⟩ fun q=>lT T tt ety N sp.aY c (Tup sp.aQ.tys) a q { n:=afN tt sp ts,x:=fun _ _=>.stuck 64,r:=afN tt sp ts }
noncomputable def acJ (T:mJ) (tt:TT) (ety:TypeId->Option Ty) (N:Nat) (sp:dB) (ts:List ResultVar) (c:Code) (a:fV) (x:Tup sp.pin.tys):Prog (Tup sp.aQ.tys):=
 match sp.er.abx with
 |true=>tfun T tt ety N sp ts c a x
 |false=>.join (tfun T tt ety N sp ts c a x) fun y=>AA (mkT sp.pin (Tup.kE sp.pin.tys x)).go (mkT sp.aQ (Tup.kE sp.aQ.tys y)).go (.ret y) sp.aY
end
end Go.Fg

namespace Go.Fg
open Go.Fw
theorem GX (a b:Nat):(a==b)=Nat.beq a b:=by rw [vp];simp
theorem yH {α:Type} (d:α) :∀(l:List (Nat×α)) (t:Nat),jm d l t=match l.lookup t with | some x=>x | none=>d
 | [],t=>rfl
 |(k,v)::r,t=>by
  simp only [jm,List.lookup,GX];cases h:Nat.beq t k with
  |true=>rfl
  |false=>exact yH d r t
theorem oU {α:Type} (d:α) (k:Nat) (v:α) :∀(l:List (Nat×α)) (t:Nat),jm d (xq k v l) t=bif Nat.beq t k then v else jm d l t
 | [],t=>rfl
 |(k',v')::r,t=>by
  simp only [xq];cases h:Nat.beq k k' with
  |true=>
   simp only [cond_true,jm];have:k=k':=Q4 h;subst this;cases Nat.beq t k<;>rfl
  |false=>
   simp only [cond_false,jm,oU d k v r t];cases h1:Nat.beq t k' with
   |true=>
    have:t=k':=Q4 h1;subst this;have:Nat.beq t k=false:=by
     cases h2:Nat.beq t k with
     |false=>rfl
     |true=>have:=Q4 h2;subst this;simp at h
    rw [this];rfl
   |false=>rfl
theorem pK {α β:Type} (g:α->β) (t:Nat) :∀(l:List (Nat×α)),(l.map fun p=>(p.1,g p.2)).lookup t=(l.lookup t).map g
 | []=>rfl
 |(k,v)::r=>by
  simp only [Qf,List.lookup];cases t==k with
  |true=>rfl
  |false=>exact pK g t r
section
variable [RE] {β:Type 1}
theorem O1 (b:Bool) (k:Bool->β):frB b k=k b:=by cases b<;>rfl
theorem acK (x:TW) (k:TW->β):frW x k=k x:=by
 cases x with
 |p a i w=>obtain ⟨t,x⟩:=w;simp only [frW,O1]
 |sp a i t x off=>simp only [frW,O1]
 |_=>rfl
theorem O4 :∀(x:List TW) (k:List TW->β),acw x k=k x
 | [],k=>rfl
 |x::xs,k=>by simp only [acw,acK,O4 xs]
theorem acL (x:TV) (k:TV->β):frV x k=k x:=by cases x<;>simp only [frV,acK,O4]
theorem Xv :∀(x:List TV) (k:List TV->β),afF x k=k x
 | [],k=>rfl
 |x::xs,k=>by simp only [afF,acL,Xv xs]
theorem ajH (x:TS) (k:TS->β):frS x k=k x:=by cases x<;>simp only [frS,acL,Xv]
theorem CQ :∀(t:Ty) (k:Ty->β),OQ t k=k t
 |.int ik,k=>by cases ik<;>rfl
 |.bool,k=>rfl
 |.str,k=>rfl
 |.sl e,k=>by simp only [OQ,CQ e]
 |.prod a b,k=>by simp only [OQ,CQ a,CQ b]
 |.st n,k=>rfl
 |.opq,k=>rfl
 |.sq e,k=>by simp only [OQ,CQ e]
theorem acM :∀(x:List (Nat×Ty)) (k:List (Nat×Ty)->β),frC x k=k x
 | [],k=>rfl
 |(c,t)::xs,k=>by simp only [frC,CQ,acM xs]
theorem acN (x:Option (Nat×Nat×Nat)) (k:Option (Nat×Nat×Nat)->β):frH x k=k x:=by
 cases x with
 |none=>rfl
 |some p=>obtain ⟨n,c,d⟩:=p;rfl
theorem ajI (x:TO) (k:TO->β):frO x k=k x:=by cases x<;>simp only [frO,O4,O1,acM,acN]
theorem Xw :∀(x:List (Nat×TS)) (k:List (Nat×TS)->β),afG x k=k x
 | [],k=>rfl
 |(t,x)::xs,k=>by simp only [afG,ajH,Xw xs]
theorem Xx :∀(x:List (Nat×TO)) (k:List (Nat×TO)->β),afH x k=k x
 | [],k=>rfl
 |(t,x)::xs,k=>by simp only [afH,ajI,Xx xs]
theorem O5 :∀(x:List Nat) (k:List Nat->β),Le x k=k x
 | [],k=>rfl
 |x::xs,k=>by simp only [Le,O5 xs]
theorem oV (q:jg) (k:jg->β):frX q k=k q:=by
 obtain ⟨⟨s,o,u⟩,ds,od⟩:=q;simp only [frX,Xw,Xx,O5]
theorem afO (l:List (Nat×Nat)) (k:List (Nat×Nat)->β):afI l k=k l:=by
 induction l generalizing k with
 |nil=>rfl
 |cons p r ih=>obtain ⟨a,b⟩:=p;simp only [afI,ih]
theorem ajJ (f:tC) (k:tC->β):frF f k=k f:=by simp only [frF,O5,acN,afO,O1]
end
section
variable [RE]
theorem uM (vs:List Wd) (n:Nat):bZ (vs.getD n Au)=(vs.map bZ).getD n default:=by
 simp only [List.getD_eq_getElem?_getD,XN];cases vs[n]?<;>rfl
theorem CS (vs:List Wd) (n:Nat) (k:kC):(Aw vs n k).2=n+k.tys.length:=by cases k<;>simp [Aw,kC.tys]
def wC (vs:List Wd) (n:Nat) (ts:List Ty):Prop :=∀(k:Nat) t,ts[k]?=some t->∃w,vs[n+k]?=some w/\w.t=t
theorem wC.left {vs:List Wd} {n:Nat} {a b:List Ty} (h:wC vs n (a++b)):wC vs n a:=fun k t hk=>h k t (by rw [Wc (Q3.1 hk).1];exact hk)
theorem wC.right {vs:List Wd} {n:Nat} {a b:List Ty} (h:wC vs n (a++b)):wC vs (n+a.length) b:=fun k t hk=>by
 obtain ⟨w,h1,h2⟩:=h (a.length+k) t (by rw [W7 (by omega)];simpa using hk);exact ⟨w,by rw [<-h1];congr 1;omega,h2⟩
theorem wC.of {vs:List Wd} {ts:List Ty} (h:vs.map (·.t)=ts):wC vs 0 ts:=fun k t hk=>by
 rw [<-h,XN,ZD] at hk;obtain ⟨w,h1,h2⟩:=hk;exact ⟨w,by simpa using h1,h2⟩
theorem wC.get {vs:List Wd} {n k:Nat} {t:Ty} {ts:List Ty} (h:wC vs n ts) (hk:ts[k]?=some t):bZ (vs.getD (n+k) Au)=bZ ⟨t,(vs.getD (n+k) Au).as t⟩:=by
 obtain ⟨w,h1,h2⟩:=h k t hk;have e1:vs.getD (n+k) Au=w:=by rw [List.getD_eq_getElem?_getD,h1];rfl
 rw [e1,wR h2]
theorem ML :∀(gs:List Nat),nT (Ee gs)=gI gs
 | []=>rfl
 |g::gs=>by simp only [Ee,nT,bU,gI,ML gs]
theorem Xy {vs:List Wd} {n:Nat} {k:kC} (h:wC vs n k.tys):qo (vs.map bZ) n k.er=(bU (Aw vs n k).1,(Aw vs n k).2):=by
 cases k with
 |vw g=>
  have h0:=h.get (k:=0) (t:=.int .i64) rfl;have h1:=h.get (k:=1) (t:=.int .i64) rfl;simp only [kC.er,qo,Aw,bU,<-uM];rw [VM] at h0;rw [h0,h1];rfl
 |ep g off=>
  have h0:=h.get (k:=0) (t:=.int .i64) rfl;simp only [kC.er,qo,Aw,bU,<-uM];rw [VM] at h0;rw [h0];rfl
 |fn f gs=>simp only [kC.er,qo,Aw,bU,ML]
 |_=>simp only [kC.er,qo,Aw,bU,nT,uM]
theorem En (vs:List Wd) :∀(n:Nat) (ks:List kC),(uJ vs n ks).2=n+(ks.flatMap kC.tys).length
 |n,[]=>rfl
 |n,k::ks=>by simp only [uJ,En vs,CS,Z6,YY];omega
theorem Jv {vs:List Wd} :∀{n:Nat} {ks:List kC},wC vs n (ks.flatMap kC.tys)->kY (vs.map bZ) n (ks.map kC.er)=((uJ vs n ks).1.map bU,(uJ vs n ks).2)
 |n,[],_=>rfl
 |n,k::ks,h=>by
  rw [Z6] at h;have h2:=h.right;simp only [Qf,kY,uJ,Xy h.left,CS];rw [Jv h2]
theorem CU (vs:List Wd) (n:Nat) (k:kN):(Gt vs n k).2=n+k.tys.length:=by
 cases k<;>simp only [Gt,kN.tys,CS,En]
theorem afP {vs:List Wd} {n:Nat} {k:kN} (h:wC vs n k.tys):mkS (vs.map bZ) n k.er=(bn (Gt vs n k).1,(Gt vs n k).2):=by
 cases k with
 |one k=>simp only [kN.er,mkS,Gt,bn,jL,Xy h]
 |agg ks=>simp only [kN.er,mkS,Gt,bn,jL,Jv h]
theorem FD {vs:List Wd} :∀{n:Nat} {l:List (Nat×kN)},wC vs n (l.flatMap fun p=>p.2.tys)->dG (vs.map bZ) n (l.map fun p=>(p.1,p.2.er))=((gB vs n l).1.map fun p=>(p.1,bn p.2),(gB vs n l).2)
 |n,[],_=>rfl
 |n,(t,k)::l,h=>by
  rw [Z6] at h;have h2:=h.right;simp only [Qf,dG,gB,afP h.left,CU];rw [FD h2]
theorem wE (vs:List Wd) :∀(n:Nat) (l:List (Nat×kN)),(gB vs n l).2=n+(l.flatMap fun p=>p.2.tys).length
 |n,[]=>rfl
 |n,(t,k)::l=>by simp only [gB,wE vs,CU,Z6,YY];omega
theorem afQ {vs:List Wd} {n:Nat} {k:iM} (h:wC vs n k.tys):ug (vs.map bZ) n k.er=(d_ (Eh vs n k).1,(Eh vs n k).2):=by
 cases k with
 |box ws=>simp only [iM.er,ug,Eh,d_,Jv h]
 |arr fz a i e=>
  obtain ⟨w,h1,h2⟩:=h 0 (.sl e) rfl;have e1:(vs.getD n Au)=w:=by simp only [List.getD_eq_getElem?_getD];rw [show vs[n]?=some w from h1];rfl
  simp only [iM.er,ug,Eh,d_,<-uM,e1];have e2:=wR h2;have e3:(bZ w).list=aG e (w.as (.sl e)):=by
   conv=>lhs;rw [<-e2]
   exact jr e _
  rw [e3]
 |it=>
  obtain ⟨w1,h1,h2⟩:=h 0 .str rfl;obtain ⟨w2,h3,h4⟩:=h 1 (.int .i64) rfl;have e1:(vs.getD n Au)=w1:=by simp only [List.getD_eq_getElem?_getD];rw [show vs[n]?=some w1 from h1];rfl
  have e2:(vs.getD (n+1) Au)=w2:=by simp only [List.getD_eq_getElem?_getD];rw [show vs[n+1]?=some w2 from h3];rfl
  simp only [iM.er,ug,Eh,d_,<-uM,e1,e2];have a1:=wR h2;have a2:=wR h4
  conv=>lhs;rw [<-a1,<-a2]
  rfl
 |aO a i e aj=>
  obtain ⟨w,h1,h2⟩:=h 0 (.sl e) rfl;have e1:(vs.getD n Au)=w:=by simp only [List.getD_eq_getElem?_getD];rw [show vs[n]?=some w from h1];rfl
  simp only [iM.er,ug,Eh,d_,<-uM,e1];have e2:=wR h2;have e3:(bZ w).list=aG e (w.as (.sl e)):=by
   conv=>lhs;rw [<-e2]
   exact jr e _
  rw [e3]
theorem Jw (vs:List Wd) (n:Nat) (k:iM):(Eh vs n k).2=n+k.tys.length:=by cases k<;>simp only [Eh,iM.tys,En]<;>rfl
theorem Jy {vs:List Wd} :∀{n:Nat} {l:List (Nat×iM)},wC vs n (l.flatMap fun p=>p.2.tys)->gJ (vs.map bZ) n (l.map fun p=>(p.1,p.2.er))=((jP vs n l).1.map fun p=>(p.1,d_ p.2),(jP vs n l).2)
 |n,[],_=>rfl
 |n,(g,k)::l,h=>by
  rw [Z6] at h;simp only [Qf,gJ,jP,afQ h.left,Jw];rw [Jy h.right]
theorem qR {j:MF} {vs:List Wd} (h:vs.map (·.t)=j.tys):aT (mkT j vs)=mk j.er (vs.map bZ):=by
 have hs:=FD (vs:=vs) (n:=0) (l:=j.slots) (by
  have:=(wC.of h);unfold MF.tys at this;exact this.left)
 have h2:wC vs (gB vs 0 j.slots).2 (j.bg.flatMap fun p=>p.2.tys):=by
  have:=(wC.of h);unfold MF.tys at this;have:=this.right;rw [wE];exact this
 have ho:=Jy h2;have e1:(dG (vs.map bZ) 0 j.er.slots)=_:=hs;have e2:gJ (vs.map bZ) (gB vs 0 j.slots).2 j.er.bg=_:=ho;unfold Fw.mk;rw [e1];simp only [e2];refine St.ext' (fun t => ?_) (fun g => ?_) fun g => ?_
 .simp only [aT,jH.gs,mkT,yH,pK];cases (gB vs 0 j.slots).1.lookup t<;>rfl
 .simp only [aT,jH.go,mkT,yH,pK];cases (jP vs (gB vs 0 j.slots).2 j.bg).1.lookup g<;>rfl
 .simp only [aT,mkT,bT,Shape.nms,MF.er,VV];rfl
variable {m:Ren}
theorem CV {a:Bool} {α:Type} {x y:α} (h:(bif a then some x else none)=some y):a=true/\x=y:=by
 cases a
 .cases h
 .exact ⟨rfl,by simpa using h⟩
theorem Jz :∀{gs:List Nat} {caps:List TW},GR m gs caps=sU m gs (nT caps)
 | [],[]=>rfl
 | [],c::cs=>by cases c<;>rfl
 |g::gs,[]=>rfl
 |g::gs,c::cs=>by
  cases c<;>first | (simp only [GR,nT,bU,sU,Jz (gs:=gs) (caps:=cs)];done) | rfl
theorem Xz {k:kC} {x:TW} {us:List Wd} (h:Ef m k x=some us):KD m k.er (bU x)=some (us.map bZ)/\us.map (·.t)=k.tys:=by
 cases k<;>cases x<;>try simp only [Ef,reduceCtorEq] at h
 case p.p a i t a' i' w=>
  split at h
  .rename_i z hz;obtain ⟨h1,rfl⟩:=CV h;have hc:((imp a' a&&imp i' i)||(bZ w).flat)=true:=by
    simp only [UX] at h1 ⊢;exact h1.imp id Zz
   refine ⟨?_,by simp [kC.tys,ajq hz]⟩;show (if ((imp a' a&&imp i' i)||(bZ w).flat)=true then some [bZ w] else none)=_;rw [if_pos hc];rfl
  .cases h
 case p.dF a i t=>
  split at h
  .simp only [Q0] at h;subst h;exact ⟨rfl,rfl⟩
  .cases h
 case dF.dF=>simp only [Q0] at h;subst h;exact ⟨rfl,rfl⟩
 case own.own g g'=>
  split at h
  .rename_i hc;simp only [Q0] at h;subst h;refine ⟨?_,rfl⟩;show (if m.lookup g=some (some g') then some [] else none)=_;rw [if_pos hc];rfl
  .cases h
 case own.dF g=>
  split at h
  .rename_i hc;simp only [Q0] at h;subst h;refine ⟨?_,rfl⟩;show (if m.lookup g=some none then some [] else none)=_;rw [if_pos hc];rfl
  .cases h
 case box.box g off g' off'=>
  split at h
  .rename_i hc;simp only [Q0] at h;subst h;refine ⟨?_,rfl⟩;show (if m.lookup g=some (some g')/\off=off' then some [] else none)=_;rw [if_pos hc];rfl
  .cases h
 case fn.clo f gs f' caps=>
  obtain ⟨hc,rfl⟩:=CV h;simp only [Q6] at hc;refine ⟨?_,rfl⟩;show (if f=f'/\sU m gs (nT caps)=true then some [] else none)=_;rw [if_pos ⟨Q4 hc.1,by rw [<-Jz];exact hc.2⟩];rfl
 case nH.nH g g'=>
  split at h
  .rename_i hc;simp only [Q0] at h;subst h;refine ⟨?_,rfl⟩;show (if m.lookup g=some (some g') then some [] else none)=_;rw [if_pos hc];rfl
  .cases h
 case vw.vw g g' lo hi=>
  split at h
  .rename_i hc;simp only [Q0] at h;subst h;refine ⟨?_,rfl⟩;show (if m.lookup g=some (some g') then some [P.int .i64 lo,P.int .i64 hi] else none)=_;rw [if_pos hc];rfl
  .cases h
 case ep.ep g off g' n off'=>
  split at h
  .rename_i hc;simp only [Q0] at h;subst h;refine ⟨?_,rfl⟩;show (if m.lookup g=some (some g')/\off=off' then some [P.int .i64 n] else none)=_;rw [if_pos hc];rfl
  .cases h
 all_goals (simp only [Q0] at h;subst h;exact ⟨rfl,rfl⟩)
theorem JA :∀{ks:List kC} {xs:List TW} {us:List Wd},yC m ks xs=some us->KP m (ks.map kC.er) (xs.map bU)=some (us.map bZ)/\us.map (·.t)=ks.flatMap kC.tys
 | [],[],us,h=>by simp only [yC,Q0] at h;subst h;exact ⟨rfl,rfl⟩
 | [],x::xs,us,h=>by simp [yC] at h
 |k::ks,[],us,h=>by simp [yC] at h
 |k::ks,x::xs,us,h=>by
  simp only [yC] at h;split at h
  .rename_i u v h1 h2;simp only [Q0] at h;subst h;obtain ⟨a1,a2⟩:=Xz h1;obtain ⟨b1,b2⟩:=JA h2;exact ⟨by simp only [Qf,KP,a1,b1,XX],by simp only [XX,a2,b2,Z6]⟩
  .cases h
theorem XA {k:kN} {x:TS} {us:List Wd} (h:afE m k x=some us):coS m k.er (bn x)=some (us.map bZ)/\us.map (·.t)=k.tys:=by
 unfold afE at h;split at h
 .exact Xz h
 .exact JA h
 .cases h
theorem XB {k:iM} {x:TO} {us:List Wd} (h:Vt m k x=some us):coO m k.er (d_ x)=some (us.map bZ)/\us.map (·.t)=k.tys:=by
 unfold Vt at h;split at h
 .exact JA h
 .rename_i fz a i e fz' a' i' e' l;split at h
  .rename_i l' hl;split at h
   .rename_i hc;simp only [Q0] at h;subst h;obtain ⟨ee,hl⟩:=oP hl;cases ee;subst hl;refine ⟨?_,rfl⟩;show (if fz=fz'/\size e=size e/\(imp a' a&&imp i' i)=true then some [P.fP (size e) (aG e _)] else none)=_;rw [if_pos ⟨hc.1,rfl,hc.2⟩];rfl
   .cases h
  .cases h
 .simp only [Q0] at h;subst h;exact ⟨rfl,rfl⟩
 .rename_i a i e aj a' i' e' kG l hole;split at h
  .rename_i l' hl hcb;split at h
   .rename_i hc;simp only [Q0] at h;subst h;obtain ⟨ee,hl⟩:=oP hl;cases ee;subst hl;have:=oQ hcb;subst this;refine ⟨?_,rfl⟩;show (if size e=size e/\iQ aj=iQ aj/\(imp a' a&&imp i' i)=true then some [P.fP (size e) (aG e _)] else none)=_;rw [if_pos ⟨rfl,rfl,hc⟩];rfl
   .cases h
  .cases h
 .cases h
theorem FH {st:jH} :∀{l:List (Nat×kN)} {us:List Wd},nY m st.gs l=some us->rU m (aT st).s (l.map fun p=>(p.1,p.2.er))=some (us.map bZ)/\us.map (·.t)=l.flatMap fun p=>p.2.tys
 | [],us,h=>by simp only [nY,Q0] at h;subst h;exact ⟨rfl,rfl⟩
 |(t,k)::l,us,h=>by
  simp only [nY] at h;split at h
  .rename_i u v h1 h2;simp only [Q0] at h;subst h;obtain ⟨a1,a2⟩:=XA h1;obtain ⟨b1,b2⟩:=FH h2;refine ⟨?_,by simp only [XX,a2,b2,Z6]⟩;have a1:coS m k.er ((aT st).s t)=_:=a1;simp only [Qf,rU,a1,b1,XX]
  .cases h
theorem JB {st:jH} :∀{l:List (Nat×iM)} {us:List Wd},ql m st.go l=some us->vP m (aT st).o (l.map fun p=>(p.1,p.2.er))=some (us.map bZ)/\us.map (·.t)=l.flatMap fun p=>p.2.tys
 | [],us,h=>by simp only [ql,Q0] at h;subst h;exact ⟨rfl,rfl⟩
 |(g',k)::l,us,h=>by
  simp only [ql] at h;split at h
  .rename_i u v h1 h2;simp only [Q0] at h;subst h;obtain ⟨b1,b2⟩:=JB h2;cases hg:m.lookup g' with
   |none=>rw [hg] at h1;cases h1
   |some og=>
    rw [hg] at h1;cases og with
    |some g=>
     obtain ⟨a1,a2⟩:=XB h1;have a1:coO m k.er ((aT st).o g)=_:=a1;refine ⟨?_,by simp only [XX,a2,b2,Z6]⟩;simp only [Qf,vP,hg,a1,b1,XX]
    |none=>
     simp only at h1;split at h1
     .simp only [Q0] at h1;subst h1;refine ⟨?_,by simp only [XX,b2,Z6];rfl⟩;simp only [Qf,vP,hg,b1,XX];rfl
     .simp only [Q0] at h1;subst h1;refine ⟨?_,by simp only [XX,b2,Z6];rfl⟩;simp only [Qf,vP,hg,b1,XX];rfl
     .cases h1
  .cases h
theorem AB {j:MF} {st:jH} {vs:List Wd} (h:zn j m st=some vs):coerce j.er m (aT st)=some (vs.map bZ)/\vs.map (·.t)=j.tys:=by
 unfold zn at h;split at h
 .rename_i hok;split at h
  .rename_i u v h1 h2;simp only [Q0] at h;subst h;obtain ⟨a1,a2⟩:=FH h1;obtain ⟨b1,b2⟩:=JB h2;refine ⟨?_,by simp only [XX,a2,b2,MF.tys]⟩;unfold coerce;rw [if_pos hok];show (match rU m (aT st).s (j.slots.map fun p=>(p.1,p.2.er)),vP m (aT st).o (j.bg.map fun p=>(p.1,p.2.er)) with | some u,some v=>some (u++v) | _,_=>none)=_;rw [a1,b1,XX]
  .cases h
 .cases h
end
end Go.Fg

